/- Entries held against one another; what is gone through. -/
import Derived.Carry
import Derived.OpenShut
import Derived.ProofKit
import Derived.ChangeSame
import Derived.Test.YtcajkjbempagaaaPartJ
set_option linter.all false
section
set_option linter.unusedSimpArgs false
namespace Go.Proofs.Ytcajkjbempagaaa
open Go.Vc Go.Zig Go.Key
set_option maxRecDepth 100000
theorem en_iff (a b : En) : a = b ↔ a.d = b.d ∧ a.k = b.k ∧ a.tick = b.tick ∧ a.now = b.now ∧ a.t = b.t :=
  ⟨fun h => by subst h; exact ⟨rfl, rfl, rfl, rfl, rfl⟩, fun ⟨h1, h2, h3, h4, h5⟩ => En.ext' h3 h4 h5 h1 h2⟩
theorem eone_c (x y : Ej) (w : World) (hx : EjIs w x) (hy : EjIs w y) : FnC Try.prog 16 #[.agg (ejC x).toArray, .agg (ejC y).toArray] w fun r w' => (∃ t, r = .bool t ∧ (t = true ↔ x.e = y.e)) ∧ Later w w' := by
  refine enter16 _ _ ?_
  unfold B16
  have eca : (Value.agg (ejC x).toArray).cells = (ejC x).toArray := rfl
  have ecb : (Value.agg (ejC y).toArray).cells = (ejC y).toArray := rfl
  have l1 := later_alloc w (.cells (ejC x).toArray 43)
  have B1 := Blk.new w (ejC x).toArray 43
  have s1 : (w.alloc (.cells (ejC x).toArray 43)).heap.size = w.heap.size + 1 := World.size_alloc w _
  repeat' (first | (simp (disch := omega) only [push_cast, seval, eca, s1]) | refine iX ?_ ?_ <;> intros | refine aI (by omega) ?_ | fail)
  generalize w.alloc (.cells (ejC x).toArray 43) = w1 at *
  have l2 := later_alloc w1 (.cells (ejC y).toArray 43)
  have B2 := Blk.new w1 (ejC y).toArray 43
  rw [s1] at B2
  repeat' (first | (simp (disch := omega) only [push_cast, seval, ecb, s1]) | refine iX ?_ ?_ <;> intros | refine aI (by omega) ?_ | fail)
  generalize w1.alloc (.cells (ejC y).toArray 43) = w2 at *
  have l02 := l1.trans l2
  generalize hkf : w.heap.size = kf at *
  have C1 := B1.chg (Chg.of_later (ks := []) l2) (by simp)
  have hiff := en_iff x.e y.e
  obtain ⟨x0, x1, x2, x3, x4, _, _⟩ := ejAt C1 w2 (Later.refl _)
  obtain ⟨y0, y1, y2, y3, y4, _, _⟩ := ejAt B2 w2 (Later.refl _)
  repeat' (first | (simp (disch := omega) only [push_cast, seval, x3, y3, addr_add_eq, Nat.zero_add]) | refine iX ?_ ?_ <;> intros | refine aI (by omega) ?_ | refine dq ?_)
  refine (texts_c _ _ x.e.d y.e.d w2 (hx.later l02).1 (hy.later l02).1).mono ?_
  rintro _ w3 ⟨rfl, l3⟩
  have x4 := l3.cell x4
  have y4 := l3.cell y4
  repeat' (first | (simp (disch := omega) only [push_cast, seval, x4, y4, addr_add_eq, Nat.zero_add]) | refine iX ?_ ?_ <;> intros | refine aI (by omega) ?_ | refine dq ?_)
  refine (ints_c _ _ x.e.k y.e.k w3 (hx.later (l02.trans l3)).2 (hy.later (l02.trans l3)).2).mono ?_
  rintro _ w4 ⟨rfl, l4⟩
  have l04 := (l02.trans l3).trans l4
  obtain ⟨x0, x1, x2, _⟩ := ejAt C1 w4 (l3.trans l4)
  obtain ⟨y0, y1, y2, _⟩ := ejAt B2 w4 (l3.trans l4)
  by_cases e1 : x.e.d = y.e.d
  case neg =>
    rw [decide_eq_false e1]
    repeat' (first | (simp (disch := omega) only [push_cast, seval]) | refine iX ?_ ?_ <;> intros | refine aI (by omega) ?_ | refine dq ?_)
    exact ⟨⟨false, rfl, by simp [hiff, e1]⟩, l04⟩
  rw [decide_eq_true e1]
  by_cases e2 : x.e.k = y.e.k
  case neg =>
    rw [decide_eq_false e2]
    repeat' (first | (simp (disch := omega) only [push_cast, seval]) | refine iX ?_ ?_ <;> intros | refine aI (by omega) ?_ | refine dq ?_)
    exact ⟨⟨false, rfl, by simp [hiff, e2]⟩, l04⟩
  rw [decide_eq_true e2]
  by_cases e3 : x.e.tick = y.e.tick
  case neg =>
    have e4 : decide (x.e.tick = y.e.tick) = false := decide_eq_false e3
    repeat' (first | (simp (disch := omega) only [push_cast, seval, x0, y0, e4, addr_add_eq, Nat.zero_add]) | refine iX ?_ ?_ <;> intros | refine aI (by omega) ?_ | refine dq ?_)
    exact ⟨⟨false, rfl, by simp [hiff, e3]⟩, l04⟩
  have d3 : decide (x.e.tick = y.e.tick) = true := decide_eq_true e3
  by_cases e4 : x.e.now = y.e.now
  case neg =>
    have d4 : decide (x.e.now = y.e.now) = false := decide_eq_false e4
    repeat' (first | (simp (disch := omega) only [push_cast, seval, x0, y0, x1, y1, d3, d4, addr_add_eq, Nat.zero_add]) | refine iX ?_ ?_ <;> intros | refine aI (by omega) ?_ | refine dq ?_)
    exact ⟨⟨false, rfl, by simp [hiff, e4]⟩, l04⟩
  have d4 : decide (x.e.now = y.e.now) = true := decide_eq_true e4
  by_cases e5 : x.e.t = y.e.t
  case neg =>
    have d5 : decide (x.e.t = y.e.t) = false := decide_eq_false e5
    repeat' (first | (simp (disch := omega) only [push_cast, seval, x0, y0, x1, y1, x2, y2, d3, d4, d5, addr_add_eq, Nat.zero_add]) | refine iX ?_ ?_ <;> intros | refine aI (by omega) ?_ | refine dq ?_)
    exact ⟨⟨false, rfl, by simp [hiff, e5]⟩, l04⟩
  have d5 : decide (x.e.t = y.e.t) = true := decide_eq_true e5
  repeat' (first | (simp (disch := omega) only [push_cast, seval, x0, y0, x1, y1, x2, y2, d3, d4, d5, addr_add_eq, Nat.zero_add]) | refine iX ?_ ?_ <;> intros | refine aI (by omega) ?_ | refine dq ?_)
  exact ⟨⟨true, rfl, by simp [hiff, e1, e2, e3, e4, e5]⟩, l04⟩
def evC3 (y : Ev) : List Value := [.int .i64 y.t, y.dv, y.kv]
theorem evC3_len : ∀ y : Ev, (evC3 y).length = 3 := fun _ => rfl
def F18 (l : List Ev) : Prop := ∀ y ∈ l, F10 y.d ∧ y.k.length ≤ 20
theorem fits18_c (dv mv v : Value) (d m : List ByteArray) (l : List Ev) (w : World) (h : ScIs w dv mv d m) (hl : RecS evC3 3 w v l) (hes : ∀ y ∈ l, EvIs w y ∧ StZ y.d) :
    FnC Try.prog 22 #[scV dv mv, v] w fun r w' => (∃ t, r = .bool t ∧ (t = true ↔ F10 d ∧ F10 m ∧ l.length ≤ 60 ∧ F18 l)) ∧ Later w w' := by
  unfold scV
  obtain ⟨lo, lc, rfl, gl1, gl2⟩ := hl.slice
  refine enter22 _ _ ?_
  unfold B22
  obtain ⟨l1, s1, F⟩ := box2 w dv mv 24
  have eca : (Value.agg #[dv, mv]).cells = #[dv, mv] := rfl
  repeat' (first | (simp (disch := omega) only [push_cast, seval, eca, s1]) | refine iX ?_ ?_ <;> intros | refine aI (by omega) ?_ | fail)
  generalize w.alloc (.cells #[dv, mv] 24) = w1 at *
  obtain ⟨f0, f1, f2⟩ := F w1 (Later.refl _)
  repeat' (first | (simp (disch := omega) only [push_cast, seval, f0, f1, addr_add_eq, Nat.zero_add]) | refine iX ?_ ?_ <;> intros | refine aI (by omega) ?_ | refine dq ?_)
  refine (fits10_c _ d w1 (h.dS.later l1) h.dZ).mono ?_
  rintro _ w0 ⟨rfl, h0⟩
  obtain rfl := h0.symm
  repeat' (first | (simp (disch := omega) only [push_cast, seval, f0, f1, addr_add_eq, Nat.zero_add]) | refine iX ?_ ?_ <;> intros | refine aI (by omega) ?_ | refine dq ?_)
  refine (fits10_c _ m w1 (h.mS.later l1) h.mZ).mono ?_
  rintro _ w0 ⟨rfl, h0⟩
  obtain rfl := h0.symm
  by_cases e1 : F10 d
  case neg =>
    rw [decide_eq_false e1]
    repeat' (first | (simp (disch := omega) only [push_cast, seval]) | refine iX ?_ ?_ <;> intros | refine aI (by omega) ?_ | refine dq ?_)
    exact ⟨⟨false, rfl, by simp [e1]⟩, l1⟩
  rw [decide_eq_true e1]
  by_cases e2 : F10 m
  case neg =>
    rw [decide_eq_false e2]
    repeat' (first | (simp (disch := omega) only [push_cast, seval]) | refine iX ?_ ?_ <;> intros | refine aI (by omega) ?_ | refine dq ?_)
    exact ⟨⟨false, rfl, by simp [e2]⟩, l1⟩
  rw [decide_eq_true e2]
  by_cases e3 : l.length ≤ 60
  case neg =>
    have d3 : decide ((60 : Int) < (l.length : Int)) = true := decide_eq_true (by omega)
    repeat' (first | (simp (disch := omega) only [push_cast, seval, d3]) | refine iX ?_ ?_ <;> intros | refine aI (by omega) ?_ | refine dq ?_)
    exact ⟨⟨false, rfl, by simp [e3]⟩, l1⟩
  have d3 : decide ((60 : Int) < (l.length : Int)) = false := decide_eq_false (by omega)
  repeat' (first | (simp (disch := omega) only [push_cast, seval, d3]) | refine iX ?_ ?_ <;> intros | refine aI (by omega) ?_ | refine dq ?_)
  refine vc_loop W22_0 (fun i : Nat => [(7, .int .i64 (i : Int))]) (fun i w' => i ≤ l.length ∧ Later w1 w' ∧ F18 (l.take i)) (fun i => l.length - i) 0 (by decide) ?_ ?_ ?_
  · simp (disch := omega) only [push_cast, seval]
  · exact ⟨by omega, Later.refl _, by intro y hy; simp at hy⟩
  rintro i uu w2 ⟨hi, l2, hf⟩
  have l02 := l1.trans l2
  by_cases hlt : i < l.length
  · obtain ⟨ad, rfl, f3⟩ := RecS.at evC3_len (hl.later l02) hlt
    have hy := hes _ (List.getElem_mem hlt)
    have cy1 : w2.cell? ((ad.add (i * 3)).add 1) = some l[i].dv := RecS.cell evC3_len (hl.later l02) hlt rfl
    have cy2 : w2.cell? ((ad.add (i * 3)).add 2) = some l[i].kv := RecS.cell evC3_len (hl.later l02) hlt rfl
    have hin := List.getElem_mem hlt
    have hsn : F18 (l.take (i + 1)) ↔ F18 (l.take i) ∧ (F10 l[i].d ∧ l[i].k.length ≤ 20) := by
      unfold F18
      rw [take_snoc l i hlt]
      constructor
      · intro h; exact ⟨fun y hy => h y (List.mem_append_left _ hy), h _ (List.mem_append_right _ (List.mem_singleton.2 rfl))⟩
      · rintro ⟨h1, h2⟩ y hy
        rcases List.mem_append.1 hy with hy | hy
        · exact h1 y hy
        · rw [List.mem_singleton.1 hy]; exact h2
    have hno : ¬ (F10 l[i].d ∧ l[i].k.length ≤ 20) → ¬ F18 l := fun h g => h (g _ hin)
    generalize l[i] = y at *
    obtain ⟨ok, ck, hkv⟩ := Sl.slice hy.1.kS
    rw [List.length_map] at hkv
    have c1 := cy1
    have c2 := cy2
    rw [hkv] at c2
    repeat' (first | (simp (disch := omega) only [push_cast, seval, c1, addr_add_eq, Nat.zero_add]) | refine iX ?_ ?_ <;> intros | refine aI (by omega) ?_ | refine dq ?_)
    refine (fits10_c _ y.d w2 (Sl.later hy.1.dS l02) hy.2).mono ?_
    rintro _ w0 ⟨rfl, h0⟩
    obtain rfl := h0.symm
    by_cases e4 : F10 y.d
    case neg =>
      have hnf := hno (fun h => e4 h.1)
      rw [decide_eq_false e4]
      repeat' (first | (simp (disch := omega) only [push_cast, seval]) | refine iX ?_ ?_ <;> intros | refine aI (by omega) ?_ | refine dq ?_)
      exact ⟨⟨false, rfl, by simp [hnf]⟩, l02⟩
    rw [decide_eq_true e4]
    by_cases e5 : y.k.length ≤ 20
    case neg =>
      have hnf := hno (fun h => e5 h.2)
      have d5 : decide ((20 : Int) < (y.k.length : Int)) = true := decide_eq_true (by omega)
      repeat' (first | (simp (disch := omega) only [push_cast, seval, c2, d5, addr_add_eq, Nat.zero_add]) | refine iX ?_ ?_ <;> intros | refine aI (by omega) ?_ | refine dq ?_)
      exact ⟨⟨false, rfl, by simp [hnf]⟩, l02⟩
    have d5 : decide ((20 : Int) < (y.k.length : Int)) = false := decide_eq_false (by omega)
    repeat' (first | (simp (disch := omega) only [push_cast, seval, c2, d5, addr_add_eq, Nat.zero_add]) | refine iX ?_ ?_ <;> intros | refine aI (by omega) ?_ | refine dq ?_)
    exact ⟨rfl, i + 1, by simp (disch := omega) only [push_cast, seval], ⟨by omega, l2, hsn.2 ⟨hf, e4, e5⟩⟩, by dsimp only; omega⟩
  have hie : i = l.length := by omega
  subst hie
  rw [List.take_length] at hf
  repeat' (first | (simp (disch := omega) only [push_cast, seval]) | refine iX ?_ ?_ <;> intros | refine aI (by omega) ?_ | refine dq ?_)
  exact ⟨⟨true, rfl, by simp [e1, e2, e3, hf]⟩, l02⟩
theorem ejC_len : ∀ x : Ej, (ejC x).length = 5 := fun _ => rfl
def F19 (d m : List ByteArray) (l : List Ej) : Prop := l.length ≤ 40 ∧ F10 d ∧ F10 m ∧ (∀ x ∈ l, F10 x.e.d ∧ x.e.k.length ≤ 20) ∧ ScOk d m
theorem fits19_c (dv mv v : Value) (d m : List ByteArray) (l : List Ej) (w : World) (h : ScIs w dv mv d m) (hl : RecS ejC 5 w v l) (hes : ∀ x ∈ l, EjIs w x ∧ StZ x.e.d) :
    FnC Try.prog 7 #[scV dv mv, v] w fun r w' => (∃ t, r = .bool t ∧ (t = true ↔ F19 d m l)) ∧ Later w w' := by
  unfold scV
  obtain ⟨lo, lc, rfl, gl1, gl2⟩ := hl.slice
  refine enter7 _ _ ?_
  unfold B7
  obtain ⟨l1, s1, F⟩ := box2 w dv mv 24
  have eca : (Value.agg #[dv, mv]).cells = #[dv, mv] := rfl
  by_cases e1 : l.length ≤ 40
  case neg =>
    repeat' (first | (simp (disch := omega) only [push_cast, seval, eca, s1]) | refine iX ?_ ?_ <;> intros | refine aI (by omega) ?_ | fail)
    first | exact ⟨⟨false, rfl, by simp [F19, e1]⟩, l1⟩ | (simp only [F19, e1, false_and, iff_false]; exact l1) | (simp [F19, e1]; exact l1)
  repeat' (first | (simp (disch := omega) only [push_cast, seval, eca, s1]) | refine iX ?_ ?_ <;> intros | refine aI (by omega) ?_ | fail)
  generalize w.alloc (.cells #[dv, mv] 24) = w1 at *
  refine vc_loop W7_0 (fun i : Nat => [(5, .int .i64 (i : Int))]) (fun i w' => i ≤ l.length ∧ Later w1 w' ∧ ∀ x ∈ l.take i, F10 x.e.d ∧ x.e.k.length ≤ 20) (fun i => l.length - i) 0 (by decide) ?_ ?_ ?_
  · simp (disch := omega) only [push_cast, seval]
  · exact ⟨by omega, Later.refl _, by intro y hy; simp at hy⟩
  rintro i uu w2 ⟨hi, l2, hf⟩
  have l02 := l1.trans l2
  obtain ⟨f0, f1, f2⟩ := F w2 l2
  by_cases hlt : i < l.length
  · obtain ⟨ad, rfl, f3⟩ := RecS.at ejC_len (hl.later l02) hlt
    have hy := hes _ (List.getElem_mem hlt)
    have cy2 : w2.cell? ((ad.add (i * 5)).add 2) = some (.int .i64 l[i].e.t) := RecS.cell ejC_len (hl.later l02) hlt rfl
    have cy3 : w2.cell? ((ad.add (i * 5)).add 3) = some l[i].dv := RecS.cell ejC_len (hl.later l02) hlt rfl
    have cy4 : w2.cell? ((ad.add (i * 5)).add 4) = some l[i].kv := RecS.cell ejC_len (hl.later l02) hlt rfl
    have hin := List.getElem_mem hlt
    have hsn : (F10 l[i].e.d ∧ l[i].e.k.length ≤ 20) → ∀ x ∈ l.take (i + 1), F10 x.e.d ∧ x.e.k.length ≤ 20 := fun h2 x hx => by
      rw [take_snoc l i hlt] at hx
      rcases List.mem_append.1 hx with hx | hx
      · exact hf x hx
      · rw [List.mem_singleton.1 hx]; exact h2
    have hno : ¬ (F10 d ∧ F10 m ∧ F10 l[i].e.d ∧ l[i].e.k.length ≤ 20) → ¬ F19 d m l := fun h g => h ⟨g.2.1, g.2.2.1, g.2.2.2.1 _ hin⟩
    generalize l[i] = x at *
    have f4 : cellsAt w2 ((ad.add (i * 5)).add 2) 3 = some [.int .i64 x.e.t, x.dv, x.kv] := by
      refine cellsAt_of 3 _ _ rfl fun j y hyj => ?_
      have hj := (List.getElem?_eq_some_iff.1 hyj).1
      have hj : j < 3 := hj
      match j, hj with
      | 0, _ => rw [addr_add_zero, cy2]; exact hyj
      | 1, _ => rw [addr_add_add, cy3]; exact hyj
      | 2, _ => rw [addr_add_add, cy4]; exact hyj
    repeat' (first | (simp (disch := omega) only [push_cast, seval]) | refine iX ?_ ?_ <;> intros | refine aI (by omega) ?_ | fail)
    refine drawn_k 7 ?_
    repeat' (first | (simp (disch := omega) only [push_cast, seval, f2, f4]) | refine iX ?_ ?_ <;> intros | refine aI (by omega) ?_ | fail)
    refine nB_of _ (fun v w' => RecS evC3 3 w' v [x.ev]) (fun _ _ _ _ hl h => RecS.later h hl) (fun w' hl => ?_) ?_
    · repeat' (first | (simp (disch := omega) only [push_cast, seval]) | refine iX ?_ ?_ <;> intros | refine aI (by omega) ?_ | fail)
      exact ⟨later_alloc _ _, RecS.lit1 (evC3_len x.ev) (Blk.new w' #[.int .i64 x.e.t, x.dv, x.kv] 41)⟩
    repeat' (first | (simp (disch := omega) only [push_cast, seval, f2, f4]) | refine iX ?_ ?_ <;> intros | refine aI (by omega) ?_ | fail)
    rintro w3 l3 v23 h23
    have l03 := l02.trans l3
    obtain ⟨o23, c23, rfl, _⟩ := h23.slice
    repeat' (first | (simp (disch := omega) only [push_cast, seval]) | refine iX ?_ ?_ <;> intros | refine aI (by omega) ?_ | refine dq ?_)
    refine (fits18_c dv mv _ d m [x.ev] w3 (h.later l03) h23 (by intro y hy0; rw [List.mem_singleton.1 hy0]; exact ⟨⟨Sl.later hy.1.dS l03, Sl.later hy.1.kS l03⟩, hy.2⟩)).mono ?_
    rintro _ w4 ⟨⟨t, rfl, ht⟩, l4⟩
    cases t with
    | false =>
      have hnf := hno (fun g => by have := ht.2 ⟨g.1, g.2.1, by simp, fun y hy0 => by rw [List.mem_singleton.1 hy0]; exact g.2.2⟩; cases this)
      repeat' (first | (simp (disch := omega) only [push_cast, seval]) | refine iX ?_ ?_ <;> intros | refine aI (by omega) ?_ | refine dq ?_)
      exact ⟨⟨false, rfl, by simp [hnf]⟩, l03.trans l4⟩
    | true =>
      obtain ⟨_, _, _, h18⟩ := ht.1 rfl
      have hx2 := h18 x.ev (by simp)
      repeat' (first | (simp (disch := omega) only [push_cast, seval]) | refine iX ?_ ?_ <;> intros | refine aI (by omega) ?_ | refine dq ?_)
      exact ⟨rfl, i + 1, by simp (disch := omega) only [push_cast, seval], ⟨by omega, l2.trans (l3.trans l4), hsn hx2⟩, by dsimp only; omega⟩
  have hie : i = l.length := by omega
  subst hie
  rw [List.take_length] at hf
  repeat' (first | (simp (disch := omega) only [push_cast, seval, f2]) | refine iX ?_ ?_ <;> intros | refine aI (by omega) ?_ | refine dq ?_)
  refine (fits18_c dv mv _ d m [] w2 (h.later l02) (RecS.nil _) (by intro y hy; cases hy)).mono ?_
  rintro _ w4 ⟨⟨t, rfl, ht⟩, l4⟩
  have hl4 := l2.trans l4
  obtain ⟨f0, f1, f2⟩ := F w4 hl4
  cases t with
  | false =>
    have hnf : ¬ F19 d m l := fun g => by have := ht.2 ⟨g.2.1, g.2.2.1, by simp, fun y hy0 => by cases hy0⟩; cases this
    repeat' (first | (simp (disch := omega) only [push_cast, seval]) | refine iX ?_ ?_ <;> intros | refine aI (by omega) ?_ | refine dq ?_)
    exact ⟨⟨false, rfl, by simp [hnf]⟩, l1.trans hl4⟩
  | true =>
    obtain ⟨h1, h2, _, _⟩ := ht.1 rfl
    repeat' (first | (simp (disch := omega) only [push_cast, seval, f2]) | refine iX ?_ ?_ <;> intros | refine aI (by omega) ?_ | refine dq ?_)
    refine (dschema_c dv mv d m w4 (h.later (l1.trans hl4)) (by have := h1.1; omega) (by have := h2.1; omega)).mono ?_
    rintro _ w5 ⟨rfl, l5⟩
    by_cases hs : ScOk d m
    · rw [decide_eq_true hs]
      repeat' (first | (simp (disch := omega) only [push_cast, seval]) | refine iX ?_ ?_ <;> intros | refine aI (by omega) ?_ | refine dq ?_)
      exact ⟨⟨true, rfl, by simp [F19, e1, h1, h2, hs]; exact hf⟩, l1.trans (hl4.trans l5)⟩
    · rw [decide_eq_false hs]
      repeat' (first | (simp (disch := omega) only [push_cast, seval]) | refine iX ?_ ?_ <;> intros | refine aI (by omega) ?_ | refine dq ?_)
      exact ⟨⟨false, rfl, by simp [F19, hs]⟩, l1.trans (hl4.trans l5)⟩
end Go.Proofs.Ytcajkjbempagaaa
end
section
set_option linter.unusedSimpArgs false
namespace Go.Proofs.Ytcajkjbempagaaa
open Go.Vc Go.Chk Go.Zig
set_option maxRecDepth 100000
def Along (l : List UInt8) (n : Nat) (ls : List (List UInt8)) : Prop := n ≤ l.length ∧ 5 * ls.length ≤ n ∧ blks l = (ls ++ (blks (l.drop n)).1, n + (blks (l.drop n)).2)
theorem along_nil (l : List UInt8) : Along l 0 [] := ⟨by simp, by simp, by simp⟩
theorem along_step {l : List UInt8} {n : Nat} {ls : List (List UInt8)} (h : Along l n ls) {p : List UInt8 × Nat} (hf : fst (l.drop n) = some p) : Along l (n + p.2) (ls ++ [p.1]) := by
  obtain ⟨h1, h2, h3⟩ := h
  have hp := fst_some hf
  simp only [List.length_drop] at hp
  refine ⟨by omega, by simp; omega, ?_⟩
  rw [h3, blks_some hf, List.drop_drop]
  simp [Nat.add_assoc]
theorem along_end {l : List UInt8} {n : Nat} {ls : List (List UInt8)} (h : Along l n ls) (hf : fst (l.drop n) = none) : blks l = (ls, n) := by
  rw [h.2.2, blks_none hf]; simp
def BlocksR (w : World) (r : Value) (l : List UInt8) : Prop := ∃ x, r = .tuple #[x, .int .i64 (blks l).2] ∧ LL w x (blks l).1
theorem fsR_zero {l : List UInt8} (h : (fsR l).2.2 = 0) : fst l = some ((fsR l).1, (fsR l).2.1) := by
  unfold fsR at h ⊢
  cases hf : fst l with
  | none => rw [hf] at h; simp at h
  | some p => rfl
theorem fsR_bad {l : List UInt8} (h : ¬ (fsR l).2.2 = 0) : fst l = none := by
  cases hf : fst l with
  | none => rfl
  | some p => unfold fsR at h; rw [hf] at h; simp at h
set_option maxRecDepth 100000 in
theorem rBlocks_c (v : Value) (l : List UInt8) (w : World) (h : Sl w v (l.map u8v)) (hl : l.length ≤ 1000000000) : FnC Try.prog 31 #[v] w fun r w' => BlocksR w' r l ∧ Later w w' := by
  have hs := h
  obtain ⟨o, c, rfl, g1, g2, h, g3⟩ := h.openM
  refine enter31 _ ?_
  unfold B31
  repeat' (first | (simp (disch := omega) only [push_cast, seval]) | refine iX ?_ ?_ <;> intros | refine aI (by omega) ?_ | refine dq ?_)
  refine vc_loop W31_0 (fun p : Nat × Value => [(4, p.2), (5, .int .i64 (p.1 : Int))])
    (fun p w' => Later w w' ∧ ∃ ls, Along l p.1 ls ∧ LLo (fun _ x m => Sl w x (m.map u8v)) w' w.heap.size 25 p.2 ls) (fun p => l.length - p.1) (0, .slice none 0 0) (by decide) ?_ ?_ ?_
  · simp (disch := omega) only [push_cast, seval]
  · exact ⟨Later.refl _, [], along_nil _, LLo.nil _ _ _ _⟩
  rintro ⟨n, v⟩ uu w1 ⟨hl1, ls, ha, ho⟩
  dsimp only at ha ho
  have han := ha.1
  have hsub := hs.part (l := (n : Int)) (k := (l.length : Int)) (m := (c : Int)) (by omega) (by omega) (by omega) (by omega) (by omega)
  have e3 : (((l.map u8v).take l.length).drop n) = (l.drop n).map u8v := by
    rw [← List.map_take, List.take_length, List.map_drop]
  simp only [Int.toNat_natCast, e3] at hsub
  repeat' (first | (simp (disch := omega) only [push_cast, seval]) | refine iX ?_ ?_ <;> intros | refine aI (by omega) ?_ | refine dq ?_)
  refine (rFirst_c _ (l.drop n) w1 (hsub.later hl1) (by simp; omega)).mono ?_
  rintro _ w2 ⟨⟨x, rfl, hx⟩, hl2⟩
  have hx := hx w hsub
  have hl12 := hl1.trans hl2
  have ho2 : LLo (fun _ x m => Sl w x (m.map u8v)) w2 w.heap.size 25 v ls := ho.mono hl2 (fun x m h => h)
  obtain ⟨ov, cv, rfl⟩ := ho2.len
  by_cases he : (fsR (l.drop n)).2.2 = 0
  · have hf := fsR_zero he
    have hst := along_step ha hf
    have hp := fst_some hf
    have hx' := hx
    generalize fsR (l.drop n) = q at *
    obtain ⟨ox, cx, rfl⟩ := hx.slice
    simp only [List.length_drop] at hp
    have h5 := ha.2.1
    repeat' (first | (simp (disch := omega) only [push_cast, seval, he]) | refine iX ?_ ?_ <;> intros | refine aI (by omega) ?_ | refine dq ?_)
    refine LLo.snoc (Q := fun _ x m => Sl w x (m.map u8v)) Try.underlying76 ti25 rfl ho2 hx rfl (by unfold maxLen; omega) (by omega) hl12.size ?_ ?_
    · intro w' vs hown hg y m hy; exact hy
    · intro v' w' hll hlat
      repeat' (first | (simp (disch := omega) only [push_cast, seval]) | refine iX ?_ ?_ <;> intros | refine aI (by omega) ?_ | refine dq ?_)
      refine ⟨rfl, (n + q.2.1, v'), by simp (disch := omega) only [push_cast, seval], ⟨hlat _ hl12 (Nat.le_refl _), ls ++ [q.1], hst, hll⟩, by simp; omega⟩
  · have hf := fsR_bad he
    have hend := along_end ha hf
    generalize fsR (l.drop n) = q at *
    repeat' (first | (simp (disch := omega) only [push_cast, seval, he]) | refine iX ?_ ?_ <;> intros | refine aI (by omega) ?_ | refine dq ?_)
    refine ⟨⟨_, by rw [hend], ?_⟩, hl12⟩
    rw [hend]; exact ho2.ll fun x m h => h.later hl12
end Go.Proofs.Ytcajkjbempagaaa
end
section
set_option linter.unusedSimpArgs false
namespace Go.Vlt
open Go Go.Vc
def aF (es : List VE) (k : ByteArray) : Option (List UInt8 × Nat) := (vFind k es).map fun e => (e.b, e.safe)
theorem find_mem : ∀ {es : List VE}, (es.Pairwise fun x y => x.name ≠ y.name) → ∀ {e : VE}, e ∈ es → vFind e.name es = some e
  | x :: l, hp, e, he => by
    obtain ⟨h1, h2⟩ := List.pairwise_cons.1 hp
    unfold vFind
    rcases List.mem_cons.1 he with rfl | he
    · rw [if_pos rfl]
    · rw [if_neg (fun h => h1 e he h.symm)]
      exact find_mem h2 he
theorem find_some : ∀ {es : List VE} {k : ByteArray} {e : VE}, vFind k es = some e → e ∈ es ∧ e.name = k
  | x :: l, k, e, h => by
    unfold vFind at h
    split at h
    · rename_i hk
      cases h
      exact ⟨by simp, hk.symm⟩
    · obtain ⟨h1, h2⟩ := find_some h
      exact ⟨List.mem_cons_of_mem _ h1, h2⟩
def crN (keep : Int) (e : List UInt8 × Nat) : Nat := e.2 + min (max keep 0).toNat (e.1.length - e.2)
def cr (keep : Int) (e : List UInt8 × Nat) : List UInt8 × Nat := (e.1.take (crN keep e), crN keep e)
theorem crN_le (keep : Int) (e : VE) (h : e.safe ≤ e.b.length) : crN keep (e.b, e.safe) ≤ e.b.length := by unfold crN; dsimp only; omega
theorem crN_int (keep : Int) (e : VE) (h : e.safe ≤ e.b.length) : ((crN keep (e.b, e.safe) : Nat) : Int) = (e.safe : Int) + min (max keep 0) ((e.b.length : Int) - e.safe) := by unfold crN; dsimp only; omega
def crSeen (keep : Int) (seen : Array Nat) (es : List VE) (k : ByteArray) : Option (List UInt8 × Nat) := ((vFind k es).filter fun e => seen.contains e.born).map fun e => cr keep (e.b, e.safe)
theorem crSeen_nil (keep : Int) (es : List VE) (k : ByteArray) : crSeen keep #[] es k = none := by
  unfold crSeen
  cases vFind k es <;> simp [Option.filter]
theorem crSeen_push {keep : Int} {seen : Array Nat} {es : List VE} (hp : es.Pairwise fun x y => x.name ≠ y.name) (hn : (es.map VE.born).Nodup) {e : VE} (he : e ∈ es) (k : ByteArray) : crSeen keep (seen.push e.born) es k = if k = e.name then some (cr keep (e.b, e.safe)) else crSeen keep seen es k := by
  unfold crSeen
  by_cases hk : k = e.name
  · rw [if_pos hk, hk, find_mem hp he]
    simp [Option.filter]
  · rw [if_neg hk]
    cases hf : vFind k es with
    | none => rfl
    | some x =>
      obtain ⟨hx, hxk⟩ := find_some hf
      have hne : x.born ≠ e.born := fun hb => by
        have : x = e := by
          obtain ⟨i, hi, hie⟩ := List.getElem_of_mem hx
          obtain ⟨j, hj, hje⟩ := List.getElem_of_mem he
          have h1 : (es.map VE.born)[i]'(by simpa using hi) = (es.map VE.born)[j]'(by simpa using hj) := by simp [hie, hje, hb]
          have h2 := (List.getElem_inj hn).1 h1
          subst h2
          exact hie.symm.trans hje
        exact hk (by rw [← this, hxk])
      simp [Option.filter, Array.contains_push, hne]
theorem crSeen_all {keep : Int} {seen : Array Nat} {es : List VE} (h : ∀ e ∈ es, seen.contains e.born = true) (k : ByteArray) : crSeen keep seen es k = (aF es k).map (cr keep) := by
  unfold crSeen aF
  cases hf : vFind k es with
  | none => rfl
  | some x =>
    have := h x (find_some hf).1
    rw [Option.filter, this]; rfl
end Go.Vlt
namespace Go.Proofs.Ytcajkjbempagaaa
open Go.Vc Go.Vlt
set_option maxRecDepth 100000
theorem aF_put (k k' : ByteArray) (b : List UInt8) (s : Nat) (sv : Value) (c : Nat) (es : List VE) : aF (ePut k b s sv c es) k' = if k' = k then some (b, s) else aF es k' := find_put k k' b s sv c es
theorem crash_c (bk r : Nat) (room fuse keep : Int) (es : List VE) (c : Nat) (w : World) (h : Vt w bk r room fuse es c) (hk : -9223372036854775808 ≤ keep ∧ keep ≤ 9223372036854775807) (hbl : ∀ e ∈ es, e.b.length ≤ 1000000000) :
    FnC Try.prog 21 #[.pointer (some ⟨bk, 0, none⟩), .int .i64 keep] w fun v w' => (∃ b2 r2 es2 c2, v = .pointer (some ⟨b2, 0, none⟩) ∧ w.heap.size ≤ b2 ∧ w.heap.size ≤ r2 ∧ Vt w' b2 r2 room (-1) es2 c2 ∧ ∀ k, aF es2 k = (aF es k).map (cr keep)) ∧ Later w w' := by
  refine enter21 _ _ ?_
  unfold B21
  have f0 : w.cell? ⟨bk, 0, none⟩ = some (.int .i64 room) := h.blk.cell 0
  have eca : (Value.agg #[.int .i64 room, .int .i64 (-1), .map (some w.heap.size)]).cells = #[.int .i64 room, .int .i64 (-1), .map (some w.heap.size)] := rfl
  repeat' (first | (simp (disch := omega) only [push_cast, seval, f0, eca, addr_add_eq, Nat.zero_add]) | refine iX ?_ ?_ <;> intros | refine aI (by omega) ?_ | fail)
  clear eca
  have l1 := later_alloc w (.map #[] 0)
  have hm : (w.alloc (.map #[] 0)).heap[w.heap.size]? = some (.map #[] 0) := heap_new w _
  have hw1 : w.heap.size < (w.alloc (.map #[] 0)).heap.size := (Array.getElem?_eq_some_iff.1 hm).1
  generalize w.alloc (.map #[] 0) = w1 at *
  have l2 := later_alloc w1 (.cells #[.int .i64 room, .int .i64 (-1), .map (some w.heap.size)] 66)
  have hV : Vt (w1.alloc (.cells #[.int .i64 room, .int .i64 (-1), .map (some w.heap.size)] 66)) w1.heap.size w.heap.size room (-1) [] 0 :=
    ⟨by decide, Blk.new _ _ _, (heap_alloc hw1 _).trans hm, List.Pairwise.nil, by simp, List.nodup_nil, by simp⟩
  generalize hb2 : w1.heap.size = b2 at *
  generalize hr2 : w.heap.size = r2 at *
  generalize w1.alloc (.cells #[.int .i64 room, .int .i64 (-1), .map (some r2)] 66) = w2 at *
  have l02 := l1.trans l2
  have h2 := h.later l02
  have f2 : w2.cell? ⟨bk, 2, none⟩ = some (.map (some r)) := h2.blk.cell 2
  repeat' (first | (simp (disch := omega) only [push_cast, seval, f2, addr_add_eq, Nat.zero_add]) | refine iX ?_ ?_ <;> intros | refine aI (by omega) ?_ | refine dq ?_)
  refine vRng_of Try.underlying64 h2.map ?_
  have l3 := later_alloc w2 (.mapIter (some r) c #[] c)
  have hi : (w2.alloc (.mapIter (some r) c #[] c)).heap[w2.heap.size]? = some (.mapIter (some r) c #[] c) := heap_new w2 _
  have hV3 := hV.later l3
  have l03 := l02.trans l3
  have hitg : w.heap.size ≤ w2.heap.size := l02.size
  generalize w2.alloc (.mapIter (some r) c #[] c) = w3 at *
  generalize hit : w2.heap.size = it at *
  repeat' (first | (simp (disch := omega) only [push_cast, seval]) | refine iX ?_ ?_ <;> intros | refine aI (by omega) ?_ | refine dq ?_)
  refine vc_loop W21_0 (fun _ : Nat => [])
    (fun n w' => ∃ (seen : Array Nat) (es2 : List VE) (c2 : Nat), w'.heap[it]? = some (.mapIter (some r) c seen c) ∧ Later w w' ∧ n = (lft seen es).length ∧ Vt w' b2 r2 room (-1) es2 c2 ∧ ∀ k, aF es2 k = crSeen keep seen es k) (fun n => n) (lft #[] es).length (by decide) ?_ ?_ ?_
  · simp (disch := omega) only [push_cast, seval]
  · exact ⟨#[], [], 0, hi, l03, rfl, hV3, fun k => (crSeen_nil keep es k).symm⟩
  rintro n uu w4 ⟨seen, es2, c2, hs, l4, hn, hV4, hA⟩
  have h4 := h.later l4
  repeat' (first | (simp (disch := omega) only [push_cast, seval]) | refine iX ?_ ?_ <;> intros | refine aI (by omega) ?_ | refine dq ?_)
  refine vNxt_of hs h4.map (fun e he => by obtain ⟨x, hx, rfl⟩ := List.mem_map.1 he; exact h.born x hx) (Nat.le_refl _) (fun hall => ?_) (fun ee hee hns w5' hw5' => ?_)
  · repeat' (first | (simp (disch := omega) only [push_cast, seval]) | refine iX ?_ ?_ <;> intros | refine aI (by omega) ?_ | refine dq ?_)
    have hall' : ∀ e ∈ es, seen.contains e.born = true := fun e he => hall e.ent (List.mem_map_of_mem he)
    have hA' : ∀ k, aF es2 k = (aF es k).map (cr keep) := fun k => (hA k).trans (crSeen_all hall' k)
    exact ⟨⟨b2, r2, es2, c2, rfl, by omega, by omega, hV4, hA'⟩, l4⟩
  · obtain ⟨e, he, rfl⟩ := List.mem_map.1 hee
    have hns : seen.contains e.born = false := hns
    have hel : e ∈ lft seen es := List.mem_filter.2 ⟨he, by rw [hns]; rfl⟩
    obtain ⟨_, t2⟩ := tot_out (l := lft seen es) ((List.Sublist.map _ List.filter_sublist).nodup h.nodup) hel
    rw [← lft_push] at t2
    have hs' : w5'.heap[it]? = some (.mapIter (some r) c seen c) := by rcases hw5' with rfl | rfl <;> exact hs
    have l5' : Later w w5' := by rcases hw5' with rfl | rfl; exact l4; exact l4.drew
    have l45' : Later w4 w5' := by rcases hw5' with rfl | rfl; exact Later.refl _; exact (Later.refl _).drew
    have hV5' := hV4.later l45'
    have c5 := chg_setB (w := w5') (r := it) (ks := [it]) (by simp) (.mapIter (some r) c (seen.push e.ent.2.2) c)
    have hs5 : (setB w5' it (.mapIter (some r) c (seen.push e.ent.2.2) c)).heap[it]? = some (.mapIter (some r) c (seen.push e.ent.2.2) c) := setB_at hs'
    have l5 : Later w (setB w5' it (.mapIter (some r) c (seen.push e.ent.2.2) c)) := Chg.later l5' c5 (by intro j hj; rw [List.mem_singleton.1 hj]; omega)
    have hnb : b2 ∉ [it] := by
      simp only [List.mem_singleton]
      rintro rfl
      have := hV5'.blk
      unfold Blk at this
      rw [hs'] at this; cases this
    have hnr : r2 ∉ [it] := by
      simp only [List.mem_singleton]
      rintro rfl
      have := hV5'.map
      unfold MapB at this
      rw [hs'] at this; cases this
    have hV5 := hV5'.chg c5 hnb hnr (fun j hj cs hb => by
      rw [List.mem_singleton.1 hj] at hb
      unfold Blk at hb
      rw [hs'] at hb; cases hb)
    generalize setB w5' it (.mapIter (some r) c (seen.push e.ent.2.2) c) = w5 at *
    have hs5 : w5.heap[it]? = some (.mapIter (some r) c (seen.push e.born) c) := hs5
    clear hs' l5' l45' c5 hV5' hnb hnr
    have h5 := h.later l5
    have hok := h5.ok e he
    have hsafe := hok.safe
    have hlen := hbl e he
    obtain ⟨os, cs, hsv⟩ := Sl.slice hok.sl
    rw [List.length_map] at hsv
    repeat' (first | (simp (disch := omega) only [push_cast, seval]) | refine iX ?_ ?_ <;> intros | refine aI (by omega) ?_ | refine dq ?_)
    refine vEnt_of (e := e.ent) hs5 h5.map (List.mem_map_of_mem he) (by rw [List.map_map]; exact h.nodup) ?_
    unfold VE.ent
    repeat' (first | (simp (disch := omega) only [push_cast, seval]) | refine iX ?_ ?_ <;> intros | refine aI (by omega) ?_ | refine dq ?_)
    refine vStore_new rfl rfl (by intro u hu; rw [hsv] at hu; simp at hu; rcases hu with rfl | rfl <;> rfl) ?_
    have l6 := later_alloc w5 (.cells #[e.sv, .int .i64 e.safe] 70)
    have B6 := Blk.new w5 #[e.sv, .int .i64 e.safe] 70
    have hV6 := hV5.later l6
    have hs6 : (w5.alloc (.cells #[e.sv, .int .i64 e.safe] 70)).heap[it]? = some (.mapIter (some r) c (seen.push e.born) c) := (heap_alloc (Array.getElem?_eq_some_iff.1 hs5).1 _).trans hs5
    generalize w5.alloc (.cells #[e.sv, .int .i64 e.safe] 70) = w6 at *
    generalize hkb : w5.heap.size = kb at *
    have g0 : w6.cell? ⟨kb, 0, none⟩ = some e.sv := B6.cell 0
    have g1 : w6.cell? ⟨kb, 1, none⟩ = some (.int .i64 (e.safe : Int)) := B6.cell 1
    rw [hsv] at g0
    have hcr := (crN_int keep e hsafe).symm
    have hcl := crN_le keep e hsafe
    have hcre : cr keep (e.b, e.safe) = (e.b.take (crN keep (e.b, e.safe)), crN keep (e.b, e.safe)) := rfl
    have g2 : w6.cell? ⟨b2, 2, none⟩ = some (.map (some r2)) := hV6.blk.cell 2
    generalize crN keep (e.b, e.safe) = N at *
    have hsl6 : Sl w6 (.slice os e.b.length cs) (e.b.map u8v) := by rw [← hsv]; exact Sl.later hok.sl l6
    have hcs : e.b.length ≤ cs := (Sl.len hsl6).2.1
    repeat' (first | (simp (disch := omega) only [push_cast, seval, g0, g1, hcr, addr_add_eq, Nat.zero_add]) | refine iX ?_ ?_ <;> intros | refine aI (by omega) ?_ | fail)
    refine drawn_k 12 ?_
    repeat' (first | (simp (disch := omega) only [push_cast, seval, g0, g1, g2, addr_add_eq, Nat.zero_add]) | refine iX ?_ ?_ <;> intros | refine aI (by omega) ?_ | fail)
    have hslN : ∀ w', Later w6 w' → Sl w' (.slice os N cs) ((e.b.take N).map u8v) := fun w' hl => by rw [List.map_take]; exact (Sl.later hsl6 hl).pre hcl
    have hN : (e.b.take N).length = N := by rw [List.length_take]; omega
    refine NFn.of hb46 (fun v w' => OwnB w' w6.heap.size 5 v (e.b.take N)) (fun _ _ _ _ hl h => h.later hl) (fun w' hl => (bclone_c _ (e.b.take N) w' (hslN w' hl) (by rw [hN]; omega)).mono fun v w'' hv => ⟨hv.1.base hl.size, hv.2⟩) ?_
    repeat' (first | (simp (disch := omega) only [push_cast, seval, g0, g1, g2, addr_add_eq, Nat.zero_add]) | refine iX ?_ ?_ <;> intros | refine aI (by omega) ?_ | fail)
    refine nR_bldV (FileV w6.heap.size (e.b.take N) N) (stb_file _ _ _ _) (fun σ' w' hl hp => ?_) ?_
    · obtain ⟨hp49, hp50, _⟩ := hp
      have h49 : OwnB w' w6.heap.size 5 (σ' 49) (e.b.take N) := hp49
      have h50 : σ' 50 = .int .i64 (N : Int) := hp50
      obtain ⟨o3, c3, hv⟩ := h49.slice
      rw [hv] at h49
      repeat' (first | (simp (disch := omega) only [push_cast, seval, h50, hv]) | refine iX ?_ ?_ <;> intros | refine aI (by omega) ?_ | fail)
      exact ⟨Later.refl _, _, rfl, h49⟩
    repeat' (first | (simp (disch := omega) only [push_cast, seval]) | refine iX ?_ ?_ <;> intros | refine aI (by omega) ?_ | fail)
    rintro w7 l7 _ ⟨u, rfl, hu⟩ _ _
    have hV7 := hV6.later l7
    have hs7 := (l7.block it (Array.getElem?_eq_some_iff.1 hs6).1).trans hs6
    have hp := Vt.put hV7 e.name (b := e.b.take N) (s := N) (sv := u) hu.sl (InT.of_own hu) (by rw [hN]; exact Nat.le_refl _)
    have c7 := chg_setB (w := w7) (r := r2) (ks := [r2]) (by simp) (.map ((mPut e.name (.agg #[u, .int .i64 (N : Nat)]) c2 (es2.map VE.ent)).map mE).toArray (mTick e.name c2 (es2.map VE.ent)))
    have hri : it ≠ r2 := by
      rintro rfl
      have := hV7.map
      unfold MapB at this
      rw [hs7] at this; cases this
    have hs8 := (c7.block it (Array.getElem?_eq_some_iff.1 hs7).1 (by simpa using hri)).trans hs7
    have l8 := Chg.later (l5.trans (l6.trans l7)) c7 (by intro j hj; rw [List.mem_singleton.1 hj]; exact Nat.le_of_eq hr2)
    refine vUpd_of Try.underlying64 Try.underlying9 hV7.map e.name _ ?_
    generalize setB w7 r2 (.map ((mPut e.name (.agg #[u, .int .i64 (N : Nat)]) c2 (es2.map VE.ent)).map mE).toArray (mTick e.name c2 (es2.map VE.ent))) = w8 at *
    repeat' (first | (simp (disch := omega) only [push_cast, seval]) | refine iX ?_ ?_ <;> intros | refine aI (by omega) ?_ | refine dq ?_)
    refine ⟨rfl, (lft (seen.push e.born) es).length, by simp (disch := omega) only [push_cast, seval], ⟨_, _, _, hs8, l8, rfl, hp, fun k => ?_⟩, by dsimp only; omega⟩
    rw [aF_put, crSeen_push h.apart h.nodup he, hcre, hA k]
end Go.Proofs.Ytcajkjbempagaaa
end
section
namespace Go.Vlt
open Go Go.Vc Go.Key
structure Fl where
  name : ByteArray
  b : List UInt8
  safe : Nat
def lk (k : ByteArray) : List Fl → Option (List UInt8 × Nat)
  | [] => none
  | x :: l => if k = x.name then some (x.b, x.safe) else lk k l
def Srd (L : List Fl) : Prop := L.Pairwise fun x y => blt x.name y.name = true
def lPut (f : Fl) : List Fl → List Fl
  | [] => [f]
  | x :: l => if blt x.name f.name = true then x :: lPut f l else if x.name = f.name then f :: l else f :: x :: l
def lDel (k : ByteArray) : List Fl → List Fl
  | [] => []
  | x :: l => if x.name = k then l else x :: lDel k l
def tl : List Fl → Int
  | [] => 0
  | x :: l => x.b.length + tl l
def oB (k : ByteArray) (L : List Fl) : List UInt8 := ((lk k L).map Prod.fst).getD []
def oS (k : ByteArray) (L : List Fl) : Nat := ((lk k L).map Prod.snd).getD 0
theorem blt_ne {a b : ByteArray} (h : blt a b = true) : a ≠ b := by
  rintro rfl
  rcases blt_tri a a with h' | h' | h'
  · exact h'.2.2 rfl
  · rw [h] at h'; cases h'.2
  · exact h'.2.2 rfl
theorem blt_trans {a b c : ByteArray} (h : blt a b = true) (g : blt b c = true) : blt a c = true := bl_trans _ _ _ h g
theorem tl_nn : ∀ L : List Fl, 0 ≤ tl L
  | [] => Int.le_refl _
  | x :: l => by have := tl_nn l; unfold tl; omega
theorem lk_out {k : ByteArray} : ∀ {L : List Fl}, (∀ x ∈ L, x.name ≠ k) → lk k L = none
  | [], _ => rfl
  | x :: l, h => by
    unfold lk
    rw [if_neg fun h' => h x (by simp) h'.symm]
    exact lk_out fun y hy => h y (List.mem_cons_of_mem _ hy)
theorem lk_in {k : ByteArray} : ∀ {L : List Fl} {p : List UInt8 × Nat}, lk k L = some p → ∃ x ∈ L, x.name = k ∧ (x.b, x.safe) = p
  | x :: l, p, h => by
    unfold lk at h
    split at h
    · rename_i hk
      exact ⟨x, by simp, hk.symm, by simpa using h⟩
    · obtain ⟨y, hy, h'⟩ := lk_in h
      exact ⟨y, List.mem_cons_of_mem _ hy, h'⟩
theorem lk_mem : ∀ {L : List Fl}, Srd L → ∀ {x : Fl}, x ∈ L → lk x.name L = some (x.b, x.safe)
  | y :: l, hs, x, hx => by
    obtain ⟨h1, h2⟩ := List.pairwise_cons.1 hs
    unfold lk
    rcases List.mem_cons.1 hx with rfl | hx
    · rw [if_pos rfl]
    · rw [if_neg fun h => blt_ne (h1 x hx) h.symm]
      exact lk_mem h2 hx
theorem lk_put (f : Fl) (k : ByteArray) : ∀ L : List Fl, lk k (lPut f L) = if k = f.name then some (f.b, f.safe) else lk k L
  | [] => rfl
  | x :: l => by
    unfold lPut
    by_cases h1 : blt x.name f.name = true
    · rw [if_pos h1]
      unfold lk
      by_cases h2 : k = x.name
      · rw [if_pos h2, if_pos h2, if_neg fun h3 => blt_ne h1 (h2.symm.trans h3)]
      · rw [if_neg h2, if_neg h2]
        exact lk_put f k l
    · rw [if_neg h1]
      by_cases h2 : x.name = f.name
      · rw [if_pos h2]
        unfold lk
        by_cases h3 : k = f.name
        · rw [if_pos h3, if_pos h3]
        · rw [if_neg h3, if_neg h3, if_neg fun h4 => h3 (h4.trans h2)]
      · rw [if_neg h2]
        rfl
theorem put_mem' {f : Fl} : ∀ {L : List Fl} {x : Fl}, x ∈ lPut f L → x = f ∨ x ∈ L
  | [], x, h => .inl (List.mem_singleton.1 h)
  | y :: l, x, h => by
    unfold lPut at h
    split at h
    · rcases List.mem_cons.1 h with rfl | h
      · exact .inr (by simp)
      · exact (put_mem' h).imp id (List.mem_cons_of_mem _)
    · split at h
      · rcases List.mem_cons.1 h with rfl | h
        · exact .inl rfl
        · exact .inr (List.mem_cons_of_mem _ h)
      · rcases List.mem_cons.1 h with rfl | h
        · exact .inl rfl
        · exact .inr h
theorem srd_put {f : Fl} : ∀ {L : List Fl}, Srd L → Srd (lPut f L)
  | [], _ => List.pairwise_singleton _ _
  | y :: l, hs => by
    obtain ⟨h1, h2⟩ := List.pairwise_cons.1 hs
    unfold lPut
    split
    · rename_i hb
      refine List.pairwise_cons.2 ⟨fun x hx => ?_, srd_put h2⟩
      rcases put_mem' hx with rfl | hx
      · exact hb
      · exact h1 x hx
    · rename_i hb
      split
      · rename_i he
        exact List.pairwise_cons.2 ⟨fun x hx => by rw [← he]; exact h1 x hx, h2⟩
      · rename_i he
        have hf : blt f.name y.name = true := by
          rcases blt_tri y.name f.name with h' | h' | h'
          · exact absurd h'.1 hb
          · exact absurd h'.1 he
          · exact h'.2.1
        refine List.pairwise_cons.2 ⟨fun x hx => ?_, hs⟩
        rcases List.mem_cons.1 hx with rfl | hx
        · exact hf
        · exact blt_trans hf (h1 x hx)
theorem tl_put {f : Fl} : ∀ {L : List Fl}, Srd L → tl (lPut f L) = tl L - (oB f.name L).length + f.b.length ∧ (lPut f L).length = if lk f.name L = none then L.length + 1 else L.length
  | [], _ => ⟨by unfold lPut tl oB; simp [tl, lk], by simp [lPut, lk]⟩
  | y :: l, hs => by
    obtain ⟨h1, h2⟩ := List.pairwise_cons.1 hs
    unfold lPut
    split
    · rename_i hb
      obtain ⟨i1, i2⟩ := tl_put (f := f) h2
      have hne : ¬ f.name = y.name := fun h => blt_ne hb h.symm
      have e1 : lk f.name (y :: l) = lk f.name l := by
        show (if f.name = y.name then some (y.b, y.safe) else lk f.name l) = _
        rw [if_neg hne]
      have e2 : oB f.name (y :: l) = oB f.name l := by unfold oB; rw [e1]
      rw [e1, e2]
      refine ⟨?_, ?_⟩
      · show (y.b.length : Int) + tl (lPut f l) = y.b.length + tl l - _ + _
        omega
      · rw [List.length_cons, i2, List.length_cons]; split <;> rfl
    · rename_i hb
      split
      · rename_i he
        have e1 : lk f.name (y :: l) = some (y.b, y.safe) := by unfold lk; rw [if_pos he.symm]
        have e2 : oB f.name (y :: l) = y.b := by unfold oB; rw [e1]; rfl
        rw [e1, e2]
        refine ⟨?_, by simp⟩
        show (f.b.length : Int) + tl l = y.b.length + tl l - _ + _
        omega
      · rename_i he
        have hf : blt f.name y.name = true := by
          rcases blt_tri y.name f.name with h' | h' | h'
          · exact absurd h'.1 hb
          · exact absurd h'.1 he
          · exact h'.2.1
        have e1 : lk f.name (y :: l) = none := lk_out fun x hx => by
          rcases List.mem_cons.1 hx with rfl | hx
          · exact he
          · exact (blt_ne (blt_trans hf (h1 x hx))).symm
        have e2 : oB f.name (y :: l) = [] := by unfold oB; rw [e1]; rfl
        rw [e1, e2]
        refine ⟨?_, by simp⟩
        show (f.b.length : Int) + tl (y :: l) = _
        simp only [List.length_nil]
        omega
theorem tl_del {k : ByteArray} : ∀ {L : List Fl}, tl (lDel k L) = tl L - (oB k L).length
  | [] => by unfold lDel tl oB; simp [lk]
  | y :: l => by
    unfold lDel
    split
    · rename_i he
      have e2 : oB k (y :: l) = y.b := by unfold oB lk; rw [if_pos he.symm]; rfl
      rw [e2]
      show tl l = y.b.length + tl l - _
      omega
    · rename_i he
      have e2 : oB k (y :: l) = oB k l := by unfold oB; conv => lhs; unfold lk; rw [if_neg (fun h => he h.symm)]
      rw [e2]
      have := tl_del (k := k) (L := l)
      show (y.b.length : Int) + tl (lDel k l) = y.b.length + tl l - _
      omega
structure Rl (es : List VE) (L : List Fl) : Prop where
  srd : Srd L
  same : ∀ k, aF es k = lk k L
def VE.fl (e : VE) : Fl := ⟨e.name, e.b, e.safe⟩
theorem Rl.perm {es : List VE} {L : List Fl} (h : Rl es L) (hp : es.Pairwise fun x y => x.name ≠ y.name) : (es.map VE.fl).Perm L := by
  have n1 : (es.map VE.fl).Nodup := by
    refine List.pairwise_map.2 (hp.imp ?_)
    intro x y hxy hf
    exact hxy (congrArg Fl.name hf)
  have n2 : L.Nodup := h.srd.imp fun hb hf => blt_ne hb (congrArg Fl.name hf)
  refine (List.perm_ext_iff_of_nodup n1 n2).2 fun x => ⟨fun hx => ?_, fun hx => ?_⟩
  · obtain ⟨e, he, rfl⟩ := List.mem_map.1 hx
    have h1 : aF es e.name = some (e.b, e.safe) := by unfold aF; rw [find_mem hp he]; rfl
    rw [h.same] at h1
    obtain ⟨y, hy, hn, hb⟩ := lk_in h1
    simp only [Prod.mk.injEq] at hb
    have : y = e.fl := by
      cases y
      simp only at hn hb
      obtain ⟨rfl, rfl⟩ := hb
      subst hn
      rfl
    rw [← this]; exact hy
  · have h1 := lk_mem h.srd hx
    rw [← h.same] at h1
    unfold aF at h1
    obtain ⟨e, he, hb⟩ := Option.map_eq_some_iff.1 h1
    obtain ⟨h2, h3⟩ := find_some he
    simp only [Prod.mk.injEq] at hb
    have : e.fl = x := by
      cases x
      simp only at h3 hb
      obtain ⟨rfl, rfl⟩ := hb
      subst h3
      rfl
    rw [← this]
    exact List.mem_map_of_mem h2
theorem tl_perm {a b : List Fl} (h : a.Perm b) : tl a = tl b := by
  induction h with
  | nil => rfl
  | cons x _ ih => unfold tl; rw [ih]
  | swap x y l => unfold tl; show (_ : Int) + (_ + tl l) = _ + (_ + tl l); omega
  | trans _ _ ih1 ih2 => exact ih1.trans ih2
theorem tot_fl : ∀ es : List VE, tot es = tl (es.map VE.fl)
  | [] => rfl
  | e :: l => by
    show (e.b.length : Int) + tot l = e.b.length + tl (l.map VE.fl)
    rw [tot_fl l]
theorem Rl.nums {es : List VE} {L : List Fl} (h : Rl es L) (hp : es.Pairwise fun x y => x.name ≠ y.name) : es.length = L.length ∧ tot es = tl L := by
  have p := h.perm hp
  exact ⟨by rw [← p.length_eq, List.length_map], by rw [tot_fl, tl_perm p]⟩
theorem lk_find {es : List VE} {L : List Fl} (h : Rl es L) (k : ByteArray) : (vFind k es = none ↔ lk k L = none) ∧ fB' k es = oB k L ∧ fS' k es = oS k L := by
  have := h.same k
  unfold aF at this
  unfold oB oS fB' fS'
  rw [← this]
  cases vFind k es <;> simp
end Go.Vlt
end
section
namespace Go.Proofs.Ytcajkjbempagaaa
open Go.Vc Go.Vlt Go.Key
set_option maxRecDepth 100000
structure Vst where
  room : Int
  fuse : Int
  L : List Fl
def Vst.burn (s : Vst) : Vst := ⟨s.room, brn s.fuse, s.L⟩
def aApp (k : ByteArray) (bl : List UInt8) (s : Vst) : Int × Vst :=
  if nmOk k = false then (31, s) else if brn s.fuse = 0 then (272, s.burn) else if s.room - tl s.L < bl.length ∨ (lk k s.L = none ∧ 200 ≤ s.L.length) then (32, s.burn)
  else (0, ⟨s.room, brn s.fuse, lPut ⟨k, oB k s.L ++ bl, oS k s.L⟩ s.L⟩)
def aSync (k : ByteArray) (s : Vst) : Int × Vst :=
  if nmOk k = false ∨ lk k s.L = none then (31, s) else if brn s.fuse = 0 then (272, s.burn) else (0, ⟨s.room, brn s.fuse, lPut ⟨k, oB k s.L, (oB k s.L).length⟩ s.L⟩)
def aArm (n : Int) (s : Vst) : Int × Vst := if n < 0 then (1, s) else (0, ⟨s.room, n, s.L⟩)
def crF (keep : Int) (f : Fl) : Fl := ⟨f.name, (cr keep (f.b, f.safe)).1, (cr keep (f.b, f.safe)).2⟩
def aCrash (keep : Int) (s : Vst) : Vst := ⟨s.room, -1, s.L.map (crF keep)⟩
structure Good (s : Vst) : Prop where
  room : 0 ≤ s.room ∧ s.room ≤ 16777216
  fuse : -1 ≤ s.fuse ∧ s.fuse ≤ 9223372036854775807
  srd : Srd s.L
  names : ∀ f ∈ s.L, nmOk f.name = true
  safe : ∀ f ∈ s.L, f.safe ≤ f.b.length
  tot : tl s.L ≤ s.room
  len : s.L.length ≤ 200
def VS (w : World) (bk r : Nat) (s : Vst) : Prop := ∃ es c, Vt w bk r s.room s.fuse es c ∧ Rl es s.L
theorem VS.later {w w' : World} {bk r : Nat} {s : Vst} (h : VS w bk r s) (hl : Later w w') : VS w' bk r s := by
  obtain ⟨es, c, h1, h2⟩ := h
  exact ⟨es, c, h1.later hl, h2⟩
theorem VS.lt {w : World} {bk r : Nat} {s : Vst} (h : VS w bk r s) : bk < w.heap.size ∧ r < w.heap.size := by
  obtain ⟨es, c, h1, h2⟩ := h
  exact ⟨h1.blk.lt, (Array.getElem?_eq_some_iff.1 h1.map).1⟩
theorem _root_.Go.Vlt.Rl.put {es : List VE} {L : List Fl} (h : Rl es L) (k : ByteArray) (b : List UInt8) (s : Nat) (sv : Value) (c : Nat) : Rl (ePut k b s sv c es) (lPut ⟨k, b, s⟩ L) :=
  ⟨srd_put h.srd, fun k' => by rw [aF_put, lk_put, h.same k']⟩
theorem Good.nums {w : World} {bk r c : Nat} {s : Vst} {es : List VE} (g : Good s) (h : Vt w bk r s.room s.fuse es c) (hR : Rl es s.L) : Go.Vlt.tot es = tl s.L ∧ es.length = s.L.length ∧ Go.Vlt.tot es ≤ 16777216 ∧ es.length ≤ 200 ∧ ∀ e ∈ es, e.b.length ≤ 16777216 := by
  obtain ⟨n1, n2⟩ := hR.nums h.apart
  have h1 := g.room
  have h2 := g.tot
  have h3 := g.len
  refine ⟨n2, n1, by omega, by omega, fun e he => ?_⟩
  obtain ⟨t1, _⟩ := tot_out h.nodup he
  have := tot_nn (es.filter fun x => !(x.born == e.born))
  omega
theorem brn_rng {f : Int} (h : -1 ≤ f ∧ f ≤ 9223372036854775807) : -1 ≤ brn f ∧ brn f ≤ 9223372036854775807 := by unfold brn; split <;> omega
theorem Good.burn {s : Vst} (g : Good s) : Good s.burn := ⟨g.room, brn_rng g.fuse, g.srd, g.names, g.safe, g.tot, g.len⟩
theorem oS_le {L : List Fl} {k : ByteArray} (hs : ∀ f ∈ L, f.safe ≤ f.b.length) : oS k L ≤ (oB k L).length := by
  unfold oS oB
  cases h : lk k L with
  | none => exact Nat.le_refl _
  | some p =>
    obtain ⟨x, hx, _, rfl⟩ := lk_in h
    exact hs x hx
theorem oB_le {L : List Fl} {k : ByteArray} : ((oB k L).length : Int) ≤ tl L := by
  have h := tl_del (k := k) (L := L)
  have := tl_nn (lDel k L)
  omega
theorem put_good {s : Vst} (g : Good s) (f : Fl) (hn : nmOk f.name = true) (hs : f.safe ≤ f.b.length) (ht : tl s.L - (oB f.name s.L).length + f.b.length ≤ s.room) (hl : lk f.name s.L = none → s.L.length < 200) (fu : Int) (hf : -1 ≤ fu ∧ fu ≤ 9223372036854775807) : Good ⟨s.room, fu, lPut f s.L⟩ := by
  obtain ⟨t1, t2⟩ := tl_put (f := f) g.srd
  refine ⟨g.room, hf, srd_put g.srd, fun x hx => ?_, fun x hx => ?_, by dsimp only; omega, ?_⟩
  · rcases put_mem' hx with rfl | hx
    · exact hn
    · exact g.names x hx
  · rcases put_mem' hx with rfl | hx
    · exact hs
    · exact g.safe x hx
  · dsimp only
    rw [t2]
    have := g.len
    split
    · rename_i h; have := hl h; omega
    · exact this
theorem aApp_good {s : Vst} (g : Good s) (k : ByteArray) (bl : List UInt8) : Good (aApp k bl s).2 := by
  unfold aApp
  split
  · exact g
  split
  · exact g.burn
  split
  · exact g.burn
  · rename_i h1 h2 h3
    have h3' : ¬ (s.room - tl s.L < bl.length) ∧ ¬ (lk k s.L = none ∧ 200 ≤ s.L.length) := ⟨fun h => h3 (.inl h), fun h => h3 (.inr h)⟩
    refine put_good g ⟨k, _, _⟩ (by simpa using h1) ?_ ?_ (fun hn => ?_) _ (brn_rng g.fuse)
    · have := oS_le (k := k) g.safe
      simp only [List.length_append]; omega
    · simp only [List.length_append]; omega
    · have : ¬ 200 ≤ s.L.length := fun h => h3'.2 ⟨hn, h⟩
      omega
theorem aSync_good {s : Vst} (g : Good s) (k : ByteArray) : Good (aSync k s).2 := by
  unfold aSync
  split
  · exact g
  split
  · exact g.burn
  · rename_i h1 h2
    refine put_good g ⟨k, _, _⟩ ?_ (Nat.le_refl _) ?_ (fun hn => absurd (.inr hn) h1) _ (brn_rng g.fuse)
    · cases hk : nmOk k with
      | true => rfl
      | false => exact absurd (.inl hk) h1
    · have := g.tot; dsimp only; omega
theorem aArm_good {s : Vst} (g : Good s) (n : Int) (hn : n ≤ 9223372036854775807) : Good (aArm n s).2 := by
  unfold aArm
  split
  · exact g
  · exact ⟨g.room, ⟨by dsimp only; omega, hn⟩, g.srd, g.names, g.safe, g.tot, g.len⟩
theorem cr_le (keep : Int) (f : Fl) (h : f.safe ≤ f.b.length) : (crF keep f).b.length ≤ f.b.length ∧ (crF keep f).safe ≤ (crF keep f).b.length := by
  unfold crF cr crN
  simp only [List.length_take]
  omega
theorem tl_cr (keep : Int) : ∀ {L : List Fl}, (∀ f ∈ L, f.safe ≤ f.b.length) → tl (L.map (crF keep)) ≤ tl L
  | [], _ => Int.le_refl _
  | x :: l, h => by
    have h1 := tl_cr keep (L := l) fun f hf => h f (List.mem_cons_of_mem _ hf)
    have h2 := (cr_le keep x (h x (by simp))).1
    show ((crF keep x).b.length : Int) + tl (l.map (crF keep)) ≤ x.b.length + tl l
    omega
theorem srd_cr (keep : Int) {L : List Fl} (h : Srd L) : Srd (L.map (crF keep)) := List.pairwise_map.2 h
theorem lk_cr (keep : Int) (k : ByteArray) : ∀ L : List Fl, lk k (L.map (crF keep)) = (lk k L).map (cr keep)
  | [] => rfl
  | x :: l => by
    show (if k = x.name then some ((crF keep x).b, (crF keep x).safe) else lk k (l.map (crF keep))) = (if k = x.name then some (x.b, x.safe) else lk k l).map (cr keep)
    rw [lk_cr keep k l]
    split <;> rfl
theorem aCrash_good {s : Vst} (g : Good s) (keep : Int) : Good (aCrash keep s) := by
  have h1 := tl_cr keep g.safe
  have h2 := g.tot
  refine ⟨g.room, ⟨by unfold aCrash; dsimp only; omega, by unfold aCrash; dsimp only; omega⟩, srd_cr keep g.srd, fun x hx => ?_, fun x hx => ?_, by unfold aCrash; dsimp only; omega, by unfold aCrash; dsimp only; rw [List.length_map]; exact g.len⟩
  · obtain ⟨f, hf, rfl⟩ := List.mem_map.1 hx
    exact g.names f hf
  · obtain ⟨f, hf, rfl⟩ := List.mem_map.1 hx
    exact (cr_le keep f (g.safe f hf)).2
/-! ### the contracts -/
def s0 (room : Int) : Vst := ⟨room, -1, []⟩
theorem s0_good {room : Int} (h : 0 ≤ room ∧ room ≤ 16777216) : Good (s0 room) := ⟨h, ⟨by unfold s0; dsimp only; omega, by unfold s0; dsimp only; omega⟩, List.Pairwise.nil, by simp [s0], by simp [s0], by unfold s0 tl; exact h.1, by simp [s0]⟩
theorem new_s (room : Int) (w : World) (h : -9223372036854775808 ≤ room ∧ room ≤ 9223372036854775807) : FnC Try.prog 9 #[.int .i64 room] w fun v w' => ((v = .tuple #[.pointer none, .int .i64 1] ∧ ¬ (0 ≤ room ∧ room ≤ 16777216)) ∨ (0 ≤ room ∧ room ≤ 16777216 ∧ ∃ bk r, w.heap.size ≤ bk ∧ w.heap.size ≤ r ∧ v = .tuple #[.pointer (some ⟨bk, 0, none⟩), .int .i64 0] ∧ VS w' bk r (s0 room))) ∧ Later w w' := by
  refine (new_c room w h).mono ?_
  rintro v w' ⟨h1 | ⟨h1, h2, bk, r, h3, h4, h5, h6⟩, hl⟩
  · exact ⟨.inl h1, hl⟩
  · exact ⟨.inr ⟨h1, h2, bk, r, h3, h4, h5, [], 0, h6, ⟨List.Pairwise.nil, fun _ => rfl⟩⟩, hl⟩
theorem read_s (bk r : Nat) (s : Vst) (k : ByteArray) (w : World) (h : VS w bk r s) (g : Good s) : FnC Try.prog 25 #[.pointer (some ⟨bk, 0, none⟩), .string k] w fun v w' => (∃ x, v = .tuple #[x, .bool (lk k s.L).isSome] ∧ OwnB w' w.heap.size 5 x (oB k s.L)) ∧ Later w w' := by
  obtain ⟨es, c, hV, hR⟩ := h
  obtain ⟨_, _, _, _, n5⟩ := g.nums hV hR
  refine (read_c bk r _ _ es c k w hV (fun e he => Nat.le_trans (n5 e he) (by omega))).mono ?_
  rintro v w' ⟨⟨x, h1, h2⟩, hl⟩
  have hs := hR.same k
  refine ⟨⟨x, ?_, ?_⟩, hl⟩
  · rw [h1, ← hs]; unfold aF; cases vFind k es <;> rfl
  · unfold oB
    rw [← hs]; unfold aF
    cases hf : vFind k es with
    | none => rw [hf] at h2; exact h2
    | some e => rw [hf] at h2; exact h2
theorem broken_s (bk r : Nat) (s : Vst) (w : World) (h : VS w bk r s) : FnC Try.prog 20 #[.pointer (some ⟨bk, 0, none⟩)] w fun v w' => v = .bool (decide (s.fuse = 0)) ∧ w' = w := by
  obtain ⟨es, c, hV, hR⟩ := h
  exact broken_c bk r _ _ es c w hV
theorem arm_s (bk r : Nat) (s : Vst) (n : Int) (w : World) (h : VS w bk r s) : FnC Try.prog 18 #[.pointer (some ⟨bk, 0, none⟩), .int .i64 n] w fun v w' => v = .int .i64 (aArm n s).1 ∧ VS w' bk r (aArm n s).2 ∧ Chg w w' [bk, r] := by
  obtain ⟨es, c, hV, hR⟩ := h
  refine (arm_c bk r _ _ n es c w hV).mono ?_
  rintro v w' ⟨⟨h1, h2⟩, hc⟩
  unfold aArm
  by_cases hn : n < 0
  · rw [if_pos hn] at h1 h2 ⊢
    exact ⟨h1, ⟨es, c, h2, hR⟩, Chg.more hc (by simp)⟩
  · rw [if_neg hn] at h1 h2 ⊢
    exact ⟨h1, ⟨es, c, h2, hR⟩, Chg.more hc (by simp)⟩
theorem append_s (bk r : Nat) (s : Vst) (k : ByteArray) (bv : Value) (bl : List UInt8) (w : World) (h : VS w bk r s) (g : Good s) (hk : k.size ≤ 1000000000) (hb : Sl w bv (bl.map u8v)) (hbj : ∃ j, inB j bv ∧ j ≠ bk) (hbl : bl.length ≤ 100000000) :
    FnC Try.prog 10 #[.pointer (some ⟨bk, 0, none⟩), .string k, bv] w fun v w' => v = .int .i64 (aApp k bl s).1 ∧ VS w' bk r (aApp k bl s).2 ∧ Chg w w' [bk, r] := by
  obtain ⟨es, c, hV, hR⟩ := h
  obtain ⟨n1, n2, n3, n4, n5⟩ := g.nums hV hR
  obtain ⟨f1, f2, f3⟩ := lk_find hR k
  refine (append_c bk r _ _ es c k bv bl w hV g.room (by omega) g.fuse (named_at k hk) hb hbj hbl (by omega)).mono ?_
  rintro v w' ⟨hA, hc⟩
  unfold aApp
  rcases hA with ⟨h1, h2, h3⟩ | ⟨h1, h2, h3, h4⟩ | ⟨h1, h2, h3, h4, h5⟩ | ⟨h1, h2, h3, h4, h5, sv, h6⟩
  · rw [if_pos h2]
    exact ⟨h1, ⟨es, c, h3, hR⟩, hc⟩
  · rw [if_neg (by simp [h2]), if_pos h3]
    exact ⟨h1, ⟨es, c, h4, hR⟩, hc⟩
  · rw [if_neg (by simp [h2]), if_neg h3, if_pos (by rw [← n1, ← n2, ← f1]; exact h4)]
    exact ⟨h1, ⟨es, c, h5, hR⟩, hc⟩
  · have hno : ¬ (s.room - tl s.L < bl.length ∨ (lk k s.L = none ∧ 200 ≤ s.L.length)) := by
      rw [← n1, ← n2, ← f1]
      rintro (h' | ⟨h', h''⟩)
      · omega
      · have := h5 h'; omega
    rw [if_neg (by simp [h2]), if_neg h3, if_neg hno]
    rw [f2, f3] at h6
    exact ⟨h1, ⟨_, _, h6, hR.put _ _ _ _ _⟩, hc⟩
theorem sync_s (bk r : Nat) (s : Vst) (k : ByteArray) (w : World) (h : VS w bk r s) (g : Good s) (hk : k.size ≤ 1000000000) :
    FnC Try.prog 44 #[.pointer (some ⟨bk, 0, none⟩), .string k] w fun v w' => v = .int .i64 (aSync k s).1 ∧ VS w' bk r (aSync k s).2 ∧ Chg w w' [bk, r] := by
  obtain ⟨es, c, hV, hR⟩ := h
  obtain ⟨n1, n2, n3, n4, n5⟩ := g.nums hV hR
  obtain ⟨f1, f2, f3⟩ := lk_find hR k
  refine (sync_c bk r _ _ es c k w hV g.fuse (named_at k hk) (fun e he => Nat.le_trans (n5 e he) (by omega))).mono ?_
  rintro v w' ⟨hA, hc⟩
  unfold aSync
  rcases hA with ⟨h1, h2, h3⟩ | ⟨h1, h2, h3, h4, h5⟩ | ⟨h1, h2, h3, e, h4, h5⟩
  · rw [if_pos (by rw [← f1]; exact h2)]
    exact ⟨h1, ⟨es, c, h3, hR⟩, hc⟩
  · rw [if_neg (by rw [← f1]; simp [h2, h3]), if_pos h4]
    exact ⟨h1, ⟨es, c, h5, hR⟩, hc⟩
  · have e1 : fB' k es = e.b := by unfold fB'; rw [h4]; rfl
    rw [if_neg (by rw [← f1]; simp [h2, h4]), if_neg h3, ← f2, e1]
    exact ⟨h1, ⟨_, _, h5, hR.put _ _ _ _ _⟩, hc⟩
theorem crash_s (bk r : Nat) (s : Vst) (keep : Int) (w : World) (h : VS w bk r s) (g : Good s) (hk : -9223372036854775808 ≤ keep ∧ keep ≤ 9223372036854775807) :
    FnC Try.prog 21 #[.pointer (some ⟨bk, 0, none⟩), .int .i64 keep] w fun v w' => (∃ b2 r2, v = .pointer (some ⟨b2, 0, none⟩) ∧ w.heap.size ≤ b2 ∧ w.heap.size ≤ r2 ∧ VS w' b2 r2 (aCrash keep s)) ∧ Later w w' := by
  obtain ⟨es, c, hV, hR⟩ := h
  obtain ⟨n1, n2, n3, n4, n5⟩ := g.nums hV hR
  refine (crash_c bk r _ _ keep es c w hV hk (fun e he => Nat.le_trans (n5 e he) (by omega))).mono ?_
  rintro v w' ⟨⟨b2, r2, es2, c2, h1, h2, h3, h4, h5⟩, hl⟩
  refine ⟨⟨b2, r2, h1, h2, h3, es2, c2, h4, ⟨srd_cr keep g.srd, fun k => ?_⟩⟩, hl⟩
  rw [h5 k, hR.same k]
  exact (lk_cr keep k s.L).symm
end Go.Proofs.Ytcajkjbempagaaa
end
section
namespace Go.Proofs.Ytcajkjbempagaaa
end Go.Proofs.Ytcajkjbempagaaa
end
section
namespace Go.Proofs.Ytcajkjbempagaaa
open Go.Vc Go.Vlt Go.Key
set_option maxRecDepth 100000
abbrev kA : ByteArray := ⟨#[97]⟩
theorem inB_new {w : World} {k n c : Nat} (hk : k < w.heap.size) : ∃ j, inB j (.slice (some ⟨w.heap.size, 0, none⟩) n c) ∧ j ≠ k := ⟨w.heap.size, .inr rfl, by omega⟩
end Go.Proofs.Ytcajkjbempagaaa
end
section
set_option linter.unusedSimpArgs false
namespace Go.Proofs.Ytcajkjbempagaaa
open Go.Vc Go.Zig Go.Key Go.Vlt Go.Chk
set_option maxRecDepth 100000
def aJ (nd nm : Nat) (k : ByteArray) (e : En) (s : Vst) : Int × Vst := if rgE nd nm e = true then (if (aApp k (blkB (encE e)) s).1 = 0 then aSync k (aApp k (blkB (encE e)) s).2 else aApp k (blkB (encE e)) s) else (191, s)
theorem chg_new {w w1 w2 : World} {ks : List Nat} (h : Later w w1) (c : Chg w1 w2 ks) : Chg w w2 ks := (Chg.of_later h).trans c
theorem jappend_c (bk r : Nat) (s : Vst) (k : ByteArray) (dv mv : Value) (d m : List ByteArray) (x : Ej) (w : World) (hV : VS w bk r s) (g : Good s) (hk : k.size ≤ 1000000000) (h : ScIs w dv mv d m) (hd : d.length ≤ 1000) (hm : m.length ≤ 1000) (hx : EjIs w x) (h1 : x.e.d.length ≤ 1000000) (h2 : x.e.k.length ≤ 1000000) :
    FnC Try.prog 17 #[.pointer (some ⟨bk, 0, none⟩), .string k, scV dv mv, .agg (ejC x).toArray] w fun v w' => v = .int .i64 (aJ d.length m.length k x.e s).1 ∧ VS w' bk r (aJ d.length m.length k x.e s).2 ∧ Chg w w' [bk, r] := by
  unfold scV
  refine enter17 _ _ _ _ ?_
  unfold B17
  obtain ⟨l2, s1, s2, F, B⟩ := boxSJ w dv mv x
  have eca : (Value.agg #[dv, mv]).cells = #[dv, mv] := rfl
  have ecb : (Value.agg (ejC x).toArray).cells = (ejC x).toArray := rfl
  repeat' (first | (simp (disch := omega) only [push_cast, seval, eca, ecb, s1, s2]) | refine iX ?_ ?_ <;> intros | refine aI (by omega) ?_ | fail)
  generalize ((w.alloc (.cells #[dv, mv] 24)).alloc (.cells (ejC x).toArray 43)) = w2 at *
  obtain ⟨f0, f1, f2⟩ := F w2 (Later.refl _)
  obtain ⟨g0, g1, g2, g3, g4, g5, g6⟩ := ejAt B w2 (Later.refl _)
  repeat' (first | (simp (disch := omega) only [push_cast, seval, f2, g6]) | refine iX ?_ ?_ <;> intros | refine aI (by omega) ?_ | refine dq ?_)
  refine (encode_c dv mv d m x w2 (h.later l2) (hx.later l2) h1 h2).mono ?_
  rintro _ w3 ⟨hen, l3⟩
  have l03 := l2.trans l3
  rcases hen with ⟨hr, rfl⟩ | ⟨hr, ev, rfl, hev⟩
  · have ea : aJ d.length m.length k x.e s = (191, s) := by unfold aJ; rw [hr]; rfl
    rw [ea]
    repeat' (first | (simp (disch := omega) only [push_cast, seval]) | refine iX ?_ ?_ <;> intros | refine aI (by omega) ?_ | refine dq ?_)
    first | exact ⟨rfl, hV.later l03, Chg.of_later l03⟩ | exact ⟨hV.later l03, Chg.of_later l03⟩
  have hel := (enc_len hr).2
  obtain ⟨oe, ce, rfl⟩ := hev.slice
  repeat' (first | (simp (disch := omega) only [push_cast, seval]) | refine iX ?_ ?_ <;> intros | refine aI (by omega) ?_ | refine dq ?_)
  refine (block_c _ (encE x.e) w3 hev.sl).mono ?_
  rintro _ w4 ⟨⟨hbig, _⟩ | ⟨_, bv, rfl, hbv⟩, l4⟩
  · exfalso; omega
  have l04 := l03.trans l4
  have V4 := hV.later l04
  have hbl := blkB_len (encE x.e)
  have hzl := zi_len (n := ((encE x.e).length : Int)) (by unfold I64; omega)
  obtain ⟨j, hj1, hj2, hj3⟩ := own_in hbv
  have hlt := hV.lt
  have s3 := l03.size
  repeat' (first | (simp (disch := omega) only [push_cast, seval]) | refine iX ?_ ?_ <;> intros | refine aI (by omega) ?_ | refine dq ?_)
  refine (append_s bk r s k bv (blkB (encE x.e)) w4 V4 g hk hbv.sl ⟨j, hj3, by omega⟩ (by omega)).mono ?_
  rintro _ w5 ⟨rfl, V5, c5⟩
  by_cases e0 : (aApp k (blkB (encE x.e)) s).1 = 0
  · have ea : aJ d.length m.length k x.e s = aSync k (aApp k (blkB (encE x.e)) s).2 := by unfold aJ; rw [if_pos hr, if_pos e0]
    have hd0 : decide ((aApp k (blkB (encE x.e)) s).1 = 0) = true := decide_eq_true e0
    rw [ea]
    repeat' (first | (simp (disch := omega) only [push_cast, seval, e0]) | refine iX ?_ ?_ <;> intros | refine aI (by omega) ?_ | refine dq ?_)
    refine (sync_s bk r _ k w5 V5 (aApp_good g k _) hk).mono ?_
    rintro _ w6 ⟨rfl, V6, c6⟩
    repeat' (first | (simp (disch := omega) only [push_cast, seval]) | refine iX ?_ ?_ <;> intros | refine aI (by omega) ?_ | refine dq ?_)
    first | exact ⟨rfl, V6, (chg_new l04 c5).trans c6⟩ | exact ⟨V6, (chg_new l04 c5).trans c6⟩ | exact (chg_new l04 c5).trans c6
  · have ea : aJ d.length m.length k x.e s = aApp k (blkB (encE x.e)) s := by unfold aJ; rw [if_pos hr, if_neg e0]
    have hd0 : decide ((aApp k (blkB (encE x.e)) s).1 = 0) = false := decide_eq_false e0
    rw [ea]
    repeat' (first | (simp (disch := omega) only [push_cast, seval, hd0]) | refine iX ?_ ?_ <;> intros | refine aI (by omega) ?_ | refine dq ?_)
    first | exact ⟨rfl, V5, chg_new l04 c5⟩ | exact ⟨V5, chg_new l04 c5⟩ | exact chg_new l04 c5
theorem aJ_good {nd nm : Nat} {k : ByteArray} {e : En} {s : Vst} (g : Good s) : Good (aJ nd nm k e s).2 := by
  unfold aJ
  split
  · split
    · exact aSync_good (aApp_good g k _) k
    · exact aApp_good g k _
  · exact g
abbrev OwnJ (w : World) (B : Nat) (v : Value) (l : List Ej) : Prop := OwnR ejC 5 w B 43 v l
theorem vAppend_j {w : World} {K : Value → World → Prop} {ty : TypeId} {B : Nat} {v x : Value} {l r : List Ej} (hown : OwnJ w B v l) (hx : RecS ejC 5 w x r) (h1 : ∀ e ∈ r, EjIs w e) (h63 : l.length + r.length ≤ 100000000) (hbase : B ≤ w.heap.size)
    (hK : ∀ v' w', OwnJ w' B v' (l ++ r) → w.grownBy w' v.ownBlock → (v'.ownBlock = v.ownBlock ∨ v'.ownBlock = some w.heap.size) → K v' w') : vAppend Try.prog #[33, 33] ty #[v, x] K w := by
  refine vAppend_at Try.underlying33 ti43 rfl (by decide) hown hx ?_ (by unfold maxLen; omega) (by omega) hbase ?_
  · intro u hu
    obtain ⟨ys, hy, hu⟩ := List.mem_flatten.1 hu
    obtain ⟨p, hp, rfl⟩ := List.mem_map.1 hy
    exact ej_one (h1 p hp) u hu
  · intro v' w' ho hg hs
    refine hK v' w' ?_ hg hs
    unfold OwnJ OwnR
    simpa using ho
theorem EjO.grown {w w' : World} {B B' : Nat} {x : Ej} {v : Value} {l : List Ej} (h : EjO w B x) (hown : OwnJ w B' v l) (g : w.grownBy w' v.ownBlock) : EjO w' B x :=
  ⟨own_grown_ty h.dO hown (by decide) g, own_grown_ty h.kO hown (by decide) g⟩
def ReadR (w : World) (B : Nat) (v : Value) (nd nm : Nat) (b : List UInt8) : Prop := ∃ (x : Value) (es : List Ej), v = .tuple #[x, .int .i64 ((rdE nd nm b).2 : Nat)] ∧ OwnJ w B x es ∧ (∀ e ∈ es, EjO w B e) ∧ es.map Ej.e = (rdE nd nm b).1
set_option maxHeartbeats 2000000 in
theorem jread_c (bk r : Nat) (s : Vst) (k : ByteArray) (dv mv : Value) (d m : List ByteArray) (w : World) (hV : VS w bk r s) (g : Good s) (h : ScIs w dv mv d m) (hd : d.length ≤ 1000) (hm : m.length ≤ 1000) (hob : (oB k s.L).length ≤ 16777216) :
    FnC Try.prog 11 #[.pointer (some ⟨bk, 0, none⟩), .string k, scV dv mv] w fun v w' => ReadR w' w.heap.size v d.length m.length (oB k s.L) ∧ Later w w' := by
  unfold scV
  refine enter11 _ _ _ ?_
  unfold B11
  obtain ⟨l1, s1, F⟩ := box2 w dv mv 24
  have eca : (Value.agg #[dv, mv]).cells = #[dv, mv] := rfl
  repeat' (first | (simp (disch := omega) only [push_cast, seval, eca, s1]) | refine iX ?_ ?_ <;> intros | refine aI (by omega) ?_ | fail)
  generalize w.alloc (.cells #[dv, mv] 24) = w1 at *
  refine (read_s bk r s k w1 (hV.later l1) g).mono ?_
  rintro _ w2 ⟨⟨bv, rfl, hb⟩, l2⟩
  have l02 := l1.trans l2
  generalize oB k s.L = b at *
  obtain ⟨ob, cb, rfl⟩ := hb.slice
  have hbS := hb.sl
  obtain ⟨_, hbc, hbm, _⟩ := hbS.len
  unfold maxLen at hbm
  have hs2 := l2.size
  repeat' (first | (simp (disch := omega) only [push_cast, seval]) | refine iX ?_ ?_ <;> intros | refine aI (by omega) ?_ | refine dq ?_)
  refine vc_loop W11_0 (fun p : Nat × Value => [(10, p.2), (11, .int .i64 (p.1 : Int))])
    (fun p w' => p.1 ≤ b.length ∧ Later w2 w' ∧ ∃ es : List Ej, OwnJ w' w2.heap.size p.2 es ∧ (∀ e ∈ es, EjO w' w2.heap.size e) ∧ es.length ≤ p.1 ∧ rdE d.length m.length b = (es.map Ej.e ++ (rdE d.length m.length (b.drop p.1)).1, p.1 + (rdE d.length m.length (b.drop p.1)).2)) (fun p => b.length - p.1) (0, .slice none 0 0) (by decide) ?_ ?_ ?_
  · simp (disch := omega) only [push_cast, seval]
  · exact ⟨by omega, Later.refl _, [], OwnR.nil _ _ _, by simp, by simp, by simp⟩
  rintro ⟨n, v⟩ uu w3 ⟨hn, l3, es, ho, hes, hel, hrd⟩
  dsimp only at hn ho hel hrd
  have hsub := hbS.part (l := (n : Int)) (k := (b.length : Int)) (m := (cb : Int)) (by omega) (by omega) (by omega) (by omega) (by omega)
  have e3 : (((b.map u8v).take b.length).drop n) = (b.drop n).map u8v := by
    rw [← List.map_take, List.take_length, List.map_drop]
  simp only [Int.toNat_natCast, e3] at hsub
  repeat' (first | (simp (disch := omega) only [push_cast, seval]) | refine iX ?_ ?_ <;> intros | refine aI (by omega) ?_ | refine dq ?_)
  refine (first_c _ (b.drop n) w3 (hsub.later l3) (by rw [List.length_drop]; omega)).mono ?_
  rintro _ w4 ⟨⟨x, rfl, hx⟩, l4⟩
  have l24 := l3.trans l4
  have ho4 := ho.later l4
  have hes4 : ∀ e ∈ es, EjO w4 w2.heap.size e := fun e he => (hes e he).later l4
  obtain ⟨oo, oc, rfl⟩ := own_form ho4
  cases hf : fst (b.drop n) with
  | none =>
    rw [rdE_none hf, List.append_nil] at hrd
    rw [fsR_none hf] at hx
    have e1 : (fsR (b.drop n)) = ([], 0, 21) := fsR_none hf
    repeat' (first | (simp (disch := omega) only [push_cast, seval, e1]) | refine iX ?_ ?_ <;> intros | refine aI (by omega) ?_ | refine dq ?_)
    refine ⟨⟨_, es, by rw [hrd]; rfl, OwnR.base ho4 (by omega), fun e he => (hes4 e he).base (by omega), by rw [hrd]⟩, l02.trans l24⟩
  | some p =>
    have hp := fst_some hf
    rw [List.length_drop] at hp
    have e1 : (fsR (b.drop n)) = (p.1, p.2, 0) := fsR_some hf
    rw [e1] at hx
    dsimp only at hx
    obtain ⟨ox, cx, rfl⟩ := hx.slice
    obtain ⟨f0, f1, f2⟩ := F w4 (l2.trans l24)
    repeat' (first | (simp (disch := omega) only [push_cast, seval, e1, f2]) | refine iX ?_ ?_ <;> intros | refine aI (by omega) ?_ | refine dq ?_)
    refine (decode_c dv mv _ d m p.1 w4 (h.later (l02.trans l24)) hd hm hx.sl (by omega)).mono ?_
    rintro _ w5 ⟨hde, l5⟩
    have l25 := l24.trans l5
    have ho5 := ho4.later l5
    have hes5 : ∀ e ∈ es, EjO w5 w2.heap.size e := fun e he => (hes4 e he).later l5
    rcases hde with ⟨hn1, rfl⟩ | ⟨y, hy1, rfl, hyO⟩
    · rw [rdE_bad hf hn1, List.append_nil] at hrd
      repeat' (first | (simp (disch := omega) only [push_cast, seval]) | refine iX ?_ ?_ <;> intros | refine aI (by omega) ?_ | refine dq ?_)
      refine vStore_new rfl rfl (ej_one (w := w5) ⟨Sl.nil _, Sl.nil _⟩) ?_
      have l6 := later_alloc w5 (.cells (Value.agg (ejC ejZ).toArray).cells 43)
      repeat' (first | (simp (disch := omega) only [push_cast, seval]) | refine iX ?_ ?_ <;> intros | refine aI (by omega) ?_ | refine dq ?_)
      refine ⟨⟨_, es, by rw [hrd]; rfl, OwnR.base (ho5.later l6) (by omega), fun e he => ((hes5 e he).later l6).base (by omega), by rw [hrd]⟩, l02.trans (l25.trans l6)⟩
    · rw [rdE_some hf hy1] at hrd
      have hyO := hyO.base l24.size
      repeat' (first | (simp (disch := omega) only [push_cast, seval]) | refine iX ?_ ?_ <;> intros | refine aI (by omega) ?_ | refine dq ?_)
      refine vStore_new rfl rfl (ej_one hyO.is) ?_
      have l6 := later_alloc w5 (.cells (ejC y).toArray 43)
      have B6 := Blk.new w5 (ejC y).toArray 43
      generalize w5.alloc (.cells (ejC y).toArray 43) = w6 at *
      generalize w5.heap.size = k6 at *
      have f6 : cellsAt w6 ⟨k6, 0, none⟩ 5 = some (ejC y) := Blk.cellsAt (l := ejC y) B6
      have ho6 := ho5.later l6
      have hes6 : ∀ e ∈ es, EjO w6 w2.heap.size e := fun e he => (hes5 e he).later l6
      have hy6 := hyO.later l6
      have hs6 := (l25.trans l6).size
      have l7 := later_alloc w6 (.cells #[.bool y.e.tick, .int .i64 y.e.now, .int .i64 y.e.t, y.dv, y.kv] 43)
      have B7 := Blk.new w6 #[.bool y.e.tick, .int .i64 y.e.now, .int .i64 y.e.t, y.dv, y.kv] 43
      unfold ejC at f6
      repeat' (first | (simp (disch := omega) only [push_cast, seval, f6]) | refine iX ?_ ?_ <;> intros | refine aI (by omega) ?_ | refine dq ?_)
      refine vAppend_j (r := [y]) (ho6.later l7) (RecS.lit1 (ejC_len y) B7) (by intro e he; rw [List.mem_singleton.1 he]; exact (hy6.later l7).is) (by rw [List.length_singleton]; omega) (Nat.le_trans hs6 l7.size) ?_
      intro v8 w8 ho8 hg8 _
      have l28 := (l25.trans (l6.trans l7)).appended (ho6.later l7) (Nat.le_refl _) hg8
      repeat' (first | (simp (disch := omega) only [push_cast, seval]) | refine iX ?_ ?_ <;> intros | refine aI (by omega) ?_ | refine dq ?_)
      have hd8 : (b.drop n).drop p.2 = b.drop (n + p.2) := List.drop_drop ..
      refine ⟨rfl, (n + p.2, v8), by simp (disch := omega) only [push_cast, seval], ⟨by dsimp only; omega, l28, es ++ [y], ho8, ?_, by rw [List.length_append, List.length_singleton]; dsimp only; omega, ?_⟩, by dsimp only; omega⟩
      · intro e he
        rcases List.mem_append.1 he with he | he
        · exact ((hes6 e he).later l7).grown (ho6.later l7) hg8
        · rw [List.mem_singleton.1 he]; exact (hy6.later l7).grown (ho6.later l7) hg8
      · dsimp only
        rw [hrd, hd8, List.map_append, List.map_singleton, List.append_assoc]
        refine Prod.ext rfl ?_
        dsimp only
        omega
end Go.Proofs.Ytcajkjbempagaaa
end
section
set_option linter.unusedSimpArgs false
namespace Go.Proofs.Ytcajkjbempagaaa
open Go.Vc Go.Zig Go.Key Go.Vlt Go.Chk
set_option maxRecDepth 100000
abbrev kM : ByteArray := ⟨#[109]⟩
abbrev kX : ByteArray := ⟨#[120]⟩
abbrev kLog : ByteArray := ⟨#[108, 111, 103]⟩
theorem aJ_ok {nd nm : Nat} {k : ByteArray} {e : En} {s : Vst} (g : Good s) (hr : rgE nd nm e = true) (hk : nmOk k = true) (hf : s.fuse = -1) (hroom : tl s.L + (blkB (encE e)).length ≤ s.room) (hlen : s.L.length < 200) :
    (aJ nd nm k e s).1 = 0 ∧ (aJ nd nm k e s).2.fuse = -1 ∧ (aJ nd nm k e s).2.room = s.room ∧ (∀ k', oB k' (aJ nd nm k e s).2.L = if k' = k then oB k s.L ++ blkB (encE e) else oB k' s.L) ∧ tl (aJ nd nm k e s).2.L = tl s.L + (blkB (encE e)).length ∧ (aJ nd nm k e s).2.L.length ≤ s.L.length + 1 := by
  have hb : brn s.fuse = -1 := by rw [hf]; rfl
  have h1 : aApp k (blkB (encE e)) s = (0, ⟨s.room, brn s.fuse, lPut ⟨k, oB k s.L ++ blkB (encE e), oS k s.L⟩ s.L⟩) := by
    unfold aApp
    rw [hk, if_neg (by simp), hb, if_neg (by omega), if_neg (by omega)]
  have hl1 := lk_put ⟨k, oB k s.L ++ blkB (encE e), oS k s.L⟩ k s.L
  rw [if_pos rfl] at hl1
  have hoB : oB k (lPut ⟨k, oB k s.L ++ blkB (encE e), oS k s.L⟩ s.L) = oB k s.L ++ blkB (encE e) := by
    show ((lk k (lPut ⟨k, oB k s.L ++ blkB (encE e), oS k s.L⟩ s.L)).map Prod.fst).getD [] = _
    rw [hl1]; rfl
  have h2 : aSync k ⟨s.room, brn s.fuse, lPut ⟨k, oB k s.L ++ blkB (encE e), oS k s.L⟩ s.L⟩ = (0, ⟨s.room, brn (brn s.fuse), lPut ⟨k, oB k s.L ++ blkB (encE e), (oB k s.L ++ blkB (encE e)).length⟩ (lPut ⟨k, oB k s.L ++ blkB (encE e), oS k s.L⟩ s.L)⟩) := by
    unfold aSync
    dsimp only
    rw [hl1, hb, hoB, if_neg (by simp [hk]), if_neg (by decide)]
  have h3 : aJ nd nm k e s = (0, ⟨s.room, brn (brn s.fuse), lPut ⟨k, oB k s.L ++ blkB (encE e), (oB k s.L ++ blkB (encE e)).length⟩ (lPut ⟨k, oB k s.L ++ blkB (encE e), oS k s.L⟩ s.L)⟩) := by
    unfold aJ
    rw [if_pos hr, h1, if_pos rfl, h2]
  obtain ⟨t1, t2⟩ := tl_put (f := ⟨k, oB k s.L ++ blkB (encE e), oS k s.L⟩) g.srd
  obtain ⟨t3, t4⟩ := tl_put (f := ⟨k, oB k s.L ++ blkB (encE e), (oB k s.L ++ blkB (encE e)).length⟩) (srd_put (f := ⟨k, oB k s.L ++ blkB (encE e), oS k s.L⟩) g.srd)
  dsimp only at t1 t2 t3 t4
  rw [hoB] at t3
  rw [hl1] at t4
  rw [if_neg (by simp)] at t4
  rw [h3]
  refine ⟨rfl, by dsimp only; rw [hb]; rfl, rfl, fun k' => ?_, ?_, ?_⟩
  · show ((lk k' _).map Prod.fst).getD [] = _
    rw [lk_put]
    by_cases he : k' = k
    · rw [if_pos he, if_pos he]; rfl
    · rw [if_neg he, if_neg he, lk_put, if_neg he]; rfl
  · dsimp only
    rw [t3, t1, List.length_append]
    omega
  · dsimp only
    rw [t4, t2]
    split <;> omega
theorem sone_c (w : World) : FnC Try.prog 24 #[] w fun v w' => (∃ dv mv, v = scV dv mv ∧ ScIs w' dv mv [kA] [kM]) ∧ Later w w' := by
  refine enter24 ?_
  unfold B24
  have B1 := Blk.new w #[.slice none 0 0, .slice none 0 0] 24
  have l1 := later_alloc w (.cells #[.slice none 0 0, .slice none 0 0] 24)
  generalize hw1 : w.alloc (.cells #[.slice none 0 0, .slice none 0 0] 24) = w1 at *
  have hA := Sl.one w1 (.string kA) 9
  have l2 := later_alloc w1 (.cells #[.string kA] 9)
  generalize hw2 : w1.alloc (.cells #[.string kA] 9) = w2 at *
  have hM := Sl.one w2 (.string kM) 9
  have l3 := later_alloc w2 (.cells #[.string kM] 9)
  generalize hw3 : w2.alloc (.cells #[.string kM] 9) = w3 at *
  have B3 := (B1.chg (Chg.of_later (ks := []) l2) (by simp)).chg (Chg.of_later (ks := []) l3) (by simp)
  repeat' (first | (simp (disch := omega) only [push_cast, seval, hw1, hw2, hw3]) | refine iX ?_ ?_ <;> intros | refine aI (by omega) ?_ | fail)
  refine vStore_blk (l := [.slice none 0 0, .slice none 0 0]) (xs := [.slice (some ⟨w1.heap.size, 0, none⟩) 1 1, .slice (some ⟨w2.heap.size, 0, none⟩) 1 1]) B3 rfl rfl (by intro u hu; simp at hu; rcases hu with rfl | rfl <;> rfl) ?_
  intro w4 B4 c4
  repeat' (first | (simp (disch := omega) only [push_cast, seval]) | refine iX ?_ ?_ <;> intros | refine aI (by omega) ?_ | refine dq ?_)
  refine resK_cells (s := 2) (by simp (disch := omega) only [push_cast, seval]) (by rw [Try.underlying24]; exact sz24) (Blk.cellsAt (l := [.slice (some ⟨w1.heap.size, 0, none⟩) 1 1, .slice (some ⟨w2.heap.size, 0, none⟩) 1 1]) B4) ?_
  have s1 : w1.heap.size = w.heap.size + 1 := by rw [← hw1]; exact World.size_alloc w _
  have s2 := l2.size
  have hz : ∀ s : ByteArray, s.size ≤ 1 → StZ [s] := fun s hs x hx => by rw [List.mem_singleton.1 hx]; omega
  repeat' (first | (simp (disch := omega) only [push_cast, seval]) | refine iX ?_ ?_ <;> intros | refine aI (by omega) ?_ | refine dq ?_)
  refine ⟨⟨_, _, rfl, Sl.chg (k := w1.heap.size) (hA.later l3) c4 (by simp; omega) (.inr rfl), Sl.chg (k := w2.heap.size) hM c4 (by simp; omega) (.inr rfl), hz _ (by decide), hz _ (by decide)⟩, Chg.later (l1.trans (l2.trans l3)) c4 (by intro k hk; rw [List.mem_singleton.1 hk]; omega)⟩
theorem alive19_c (w : World) : FnC Try.prog 8 #[] w fun v w' => v = .bool true ∧ Later w w' := by
  refine enter8 ?_
  unfold B8
  repeat' (first | (simp (disch := omega) only [push_cast, seval]) | refine iX ?_ ?_ <;> intros | refine aI (by omega) ?_ | refine dq ?_)
  refine (new_s 1000 w (by omega)).mono ?_
  rintro _ w1 ⟨⟨_, hno⟩ | ⟨_, _, bk, r, hb, hr, rfl, V1⟩, l1⟩
  · exact absurd (by omega) hno
  have G1 : Good (s0 1000) := s0_good (by omega)
  repeat' (first | (simp (disch := omega) only [push_cast, seval]) | refine iX ?_ ?_ <;> intros | refine aI (by omega) ?_ | refine dq ?_)
  refine (sone_c w1).mono ?_
  rintro _ w2 ⟨⟨dv, mv, rfl, hS⟩, l2⟩
  unfold scV
  have hX := Sl.one w2 (.string kX) 9
  have l3 := later_alloc w2 (.cells #[.string kX] 9)
  generalize hw3 : w2.alloc (.cells #[.string kX] 9) = w3 at *
  have hI := Sl.one w3 (.int .i64 (-4)) 3
  have l4 := later_alloc w3 (.cells #[.int .i64 (-4)] 3)
  generalize hw4 : w3.alloc (.cells #[.int .i64 (-4)] 3) = w4 at *
  repeat' (first | (simp (disch := omega) only [push_cast, seval, hw3, hw4]) | refine iX ?_ ?_ <;> intros | refine aI (by omega) ?_ | refine dq ?_)
  generalize hx1 : (⟨⟨false, 0, 3, [kX], [-4]⟩, .slice (some ⟨w2.heap.size, 0, none⟩) 1 1, .slice (some ⟨w3.heap.size, 0, none⟩) 1 1⟩ : Ej) = x1
  have hx1C : (Value.agg #[.bool false, .int .i64 0, .int .i64 3, .slice (some ⟨w2.heap.size, 0, none⟩) 1 1, .slice (some ⟨w3.heap.size, 0, none⟩) 1 1]) = .agg (ejC x1).toArray := by rw [← hx1]; rfl
  have hx1e : x1.e = ⟨false, 0, 3, [kX], [-4]⟩ := by rw [← hx1]
  have hx1I : EjIs w4 x1 := by rw [← hx1]; exact ⟨hX.later l4, hI⟩
  have hr1 : rgE 1 1 x1.e = true := by rw [hx1e]; kernel_rfl
  have n1 := enc_len hr1
  have b1 := blkB_len (encE x1.e)
  have z1 := zi_len (n := ((encE x1.e).length : Int)) (by unfold I64; omega)
  have hkl : nmOk kLog = true := by kernel_rfl
  have t0 : tl (s0 1000).L = 0 := rfl
  obtain ⟨a1, a2, a3, a4, a5, a6⟩ := aJ_ok (k := kLog) G1 hr1 hkl rfl (by rw [t0]; show (0 : Int) + _ ≤ 1000; omega) (by show (0 : Nat) < 200; omega)
  rw [hx1C]
  refine (jappend_c bk r (s0 1000) kLog dv mv [kA] [kM] x1 w4 (V1.later (l2.trans (l3.trans l4))) G1 (by decide) (hS.later (l3.trans l4)) (by decide) (by decide) hx1I (by rw [hx1e]; simp) (by rw [hx1e]; simp)).mono ?_
  have el1 : [kA].length = 1 := rfl
  have el2 : [kM].length = 1 := rfl
  rw [el1, el2]
  have G5 : Good (aJ 1 1 kLog x1.e (s0 1000)).2 := aJ_good G1
  rintro _ w5 ⟨rfl, V5, c5⟩
  rw [a1]
  have l5 : Later w w5 := Chg.later ((l1.trans l2).trans (l3.trans l4)) c5 (by intro k hk; simp at hk; omega)
  have a4 := a4 kLog
  rw [if_pos rfl] at a4
  generalize (aJ 1 1 kLog x1.e (s0 1000)).2 = sA at *
  repeat' (first | (simp (disch := omega) only [push_cast, seval]) | refine iX ?_ ?_ <;> intros | refine aI (by omega) ?_ | refine dq ?_)
  refine (sone_c w5).mono ?_
  rintro _ w6 ⟨⟨dv2, mv2, rfl, hS2⟩, l6⟩
  unfold scV
  generalize hx2 : (⟨⟨true, 9, 0, [], []⟩, .slice none 0 0, .slice none 0 0⟩ : Ej) = x2
  have hx2C : (Value.agg #[.bool true, .int .i64 9, .int .i64 0, .slice none 0 0, .slice none 0 0]) = .agg (ejC x2).toArray := by rw [← hx2]; rfl
  have hx2e : x2.e = ⟨true, 9, 0, [], []⟩ := by rw [← hx2]
  have hx2I : EjIs w6 x2 := by rw [← hx2]; exact ⟨Sl.nil _, Sl.nil _⟩
  have hr2 : rgE 1 1 x2.e = true := by rw [hx2e]; kernel_rfl
  have n2 := enc_len hr2
  have b2 := blkB_len (encE x2.e)
  have z2 := zi_len (n := ((encE x2.e).length : Int)) (by unfold I64; omega)
  have r0 : (s0 1000).room = 1000 := rfl
  have L0 : (s0 1000).L.length = 0 := rfl
  obtain ⟨d1, d2, d3, d4, d5, d6⟩ := aJ_ok (k := kLog) (e := x2.e) (nd := 1) (nm := 1) G5 hr2 hkl a2 (by omega) (by omega)
  repeat' (first | (simp (disch := omega) only [push_cast, seval]) | refine iX ?_ ?_ <;> intros | refine aI (by omega) ?_ | refine dq ?_)
  rw [hx2C]
  refine (jappend_c bk r sA kLog dv2 mv2 [kA] [kM] x2 w6 (V5.later l6) G5 (by decide) hS2 (by decide) (by decide) hx2I (by rw [hx2e]; simp) (by rw [hx2e]; simp)).mono ?_
  rw [el1, el2]
  have G7 : Good (aJ 1 1 kLog x2.e sA).2 := aJ_good G5
  rintro _ w7 ⟨rfl, V7, c7⟩
  rw [d1]
  have l7 : Later w w7 := Chg.later (l5.trans l6) c7 (by intro k hk; simp at hk; omega)
  have d4 := d4 kLog
  rw [if_pos rfl, a4] at d4
  have hfile : oB kLog (aJ 1 1 kLog x2.e sA).2.L = fileE [x1.e, x2.e] := by
    rw [d4]
    have h0 : oB kLog (s0 1000).L = [] := rfl
    rw [h0]
    simp [fileE]
  generalize (aJ 1 1 kLog x2.e sA).2 = sB at *
  have hrd := rdE_file (nd := 1) (nm := 1) (by decide) [x1.e, x2.e] [] (by intro e he; simp at he; rcases he with rfl | rfl; exact hr1; exact hr2)
  rw [List.append_nil] at hrd
  have hnil : rdE 1 1 [] = ([], 0) := rdE_none (by decide)
  rw [hnil, List.append_nil, Nat.add_zero] at hrd
  have hlen : (fileE [x1.e, x2.e]).length ≤ 1000 := by
    have : fileE [x1.e, x2.e] = blkB (encE x1.e) ++ blkB (encE x2.e) := by simp [fileE]
    rw [this, List.length_append]; omega
  repeat' (first | (simp (disch := omega) only [push_cast, seval]) | refine iX ?_ ?_ <;> intros | refine aI (by omega) ?_ | refine dq ?_)
  refine (sone_c w7).mono ?_
  rintro _ w8 ⟨⟨dv3, mv3, rfl, hS3⟩, l8⟩
  unfold scV
  repeat' (first | (simp (disch := omega) only [push_cast, seval]) | refine iX ?_ ?_ <;> intros | refine aI (by omega) ?_ | refine dq ?_)
  refine (jread_c bk r sB kLog dv3 mv3 [kA] [kM] w8 (V7.later l8) G7 hS3 (by decide) (by decide) (by rw [hfile]; omega)).mono ?_
  rw [el1, el2, hfile]
  rintro _ w9 ⟨⟨xv, es, rfl, ho, hes, hmap⟩, l9⟩
  rw [hrd] at hmap ⊢
  dsimp only at hmap ⊢
  have l89 := l8.trans l9
  obtain ⟨y1, y2, rfl⟩ : ∃ y1 y2, es = [y1, y2] := by
    have hl := congrArg List.length hmap
    rw [List.length_map] at hl
    rcases es with _ | ⟨y1, _ | ⟨y2, _ | ⟨y3, es⟩⟩⟩
    · cases hl
    · cases hl
    · exact ⟨y1, y2, rfl⟩
    · simp at hl
  have hy1 : y1.e = x1.e := (List.cons.inj hmap).1
  have hy2 : y2.e = x2.e := (List.cons.inj (List.cons.inj hmap).2).1
  repeat' (first | (simp (disch := omega) only [push_cast, seval]) | refine iX ?_ ?_ <;> intros | refine aI (by omega) ?_ | refine dq ?_)
  refine (read_s bk r sB kLog w9 (V7.later l89) G7).mono ?_
  rw [hfile]
  rintro _ w10 ⟨⟨bv, rfl, hbO⟩, l10⟩
  obtain ⟨ob, cb, rfl⟩ := hbO.slice
  have hxs := RecS.later (OwnR.s ho) l10
  obtain ⟨ad, hxv⟩ : ∃ ad c, xv = .slice (some ad) 2 c := by
    obtain ⟨o, c, rfl, _⟩ := RecS.slice hxs
    obtain ⟨ad, rfl, _⟩ := RecS.at ejC_len hxs (i := 0) (by simp)
    exact ⟨ad, c, rfl⟩
  obtain ⟨cx, rfl⟩ := hxv
  have q4 : w10.cell? ((ad.add (0 * 5)).add 4) = some y1.kv := RecS.cell ejC_len hxs (i := 0) (by simp) rfl
  have q5 : w10.cell? ((ad.add (1 * 5)).add 0) = some (.bool y2.e.tick) := RecS.cell ejC_len hxs (i := 1) (by simp) rfl
  have q6 : w10.cell? ((ad.add (1 * 5)).add 1) = some (.int .i64 y2.e.now) := RecS.cell ejC_len hxs (i := 1) (by simp) rfl
  have hk1 := Sl.later (hes y1 (by simp)).is.kS l10
  rw [hy1, hx1e] at hk1
  obtain ⟨ak, ck, hkv⟩ : ∃ a c, y1.kv = .slice (some a) 1 c := by
    obtain ⟨o, c, h⟩ := Sl.slice hk1
    rw [h] at hk1
    cases o with
    | none => have := (Sl.len hk1).2.2.2 rfl; simp at this
    | some a => exact ⟨a, c, h⟩
  rw [hkv] at hk1 q4
  have q7 : w10.cell? (ak.add 0) = some (.int .i64 (-4)) := Sl.atI (l := [-4]) hk1 (by simp)
  rw [hy2, hx2e] at q5 q6
  rw [addr_add_zero] at q7
  have q4 : w10.cell? (ad.add 4) = some (.slice (some ak) 1 ck) := by simpa [addr_add_add] using q4
  have q5 : w10.cell? (ad.add 5) = some (.bool true) := by simpa [addr_add_add, addr_add_zero] using q5
  have q6 : w10.cell? (ad.add 6) = some (.int .i64 9) := by simpa [addr_add_add] using q6
  have hl2 : decide (((fileE [x1.e, x2.e]).length : Int) = ((fileE [x1.e, x2.e]).length : Int)) = true := decide_eq_true rfl
  repeat' (first | (simp (disch := omega) only [push_cast, seval, hl2, q4, q5, q6, q7, addr_add_add, addr_add_zero]) | refine iX ?_ ?_ <;> intros | refine aI (by omega) ?_ | refine dq ?_)
  exact l7.trans (l89.trans l10)
end Go.Proofs.Ytcajkjbempagaaa
end
section
namespace Go.Vc
open Go.RowKit
variable {P : Program}
theorem steady_slArr {t e : TypeId} {n s : Nat} (ht : P.underlying t = some (.array n e)) (hz : szOf P e = some s) (a : Addr) : Steady P (Instr.sliceAt t (.pointer (some a)) none none none) (.slice (some a) n n) := by
  intro w
  have hr := run_sizeOf (P := P) (t := e) (s := s)
  simp only [Instr.sliceAt, Sem.run_bind, run_underlying ht, Result.andThen_ok, Instr.sureAddr, Sem.run_pure, Instr.sliceBounds, run_sizeOf hz]
  by_cases h : n = 0
  · simp [h]
  · simp [h, addr_add_zero]
theorem qX_slArr {t e ty : TypeId} {n s : Nat} {x : Operand} {σ : Env} {w : World} {K : Value → Prop} {a : Addr} (ht : P.underlying t = some (.array n e)) (hz : szOf P e = some s) (hx : ev σ x = .pointer (some a)) (hk : K (.slice (some a) n n)) : qX P (.slice t x none none none) ty σ w K := by
  refine pure_of_up (s := Instr.sliceAt t (ev σ x) none none none) (fun w' => ?_) ⟨_, fun w' => ?_, hk⟩
  · unfold exe; simp only [execOp]; rfl
  · rw [hx]; exact steady_slArr ht hz a w'
theorem blk_part {w : World} {k : Nat} {cs : Array Value} {e : TypeId} (h : Blk w k cs e) (off n : Nat) (l : List Value) (hl : l.length = n) (hc : ∀ i x, l[i]? = some x → cs[off + i]? = some x) : cellsAt w ⟨k, off, none⟩ n = some l :=
  cellsAt_of n _ _ hl fun i x hx => by rw [addr_add_eq, h.cell]; exact hc i x hx
end Go.Vc
namespace Go.Proofs.Ytcajkjbempagaaa
open Go.Vc Go.Zig Go.Key
set_option maxRecDepth 100000
theorem recJ2 {w : World} {k : Nat} {e : TypeId} {x y : Ej} (h : Blk w k (ejC x ++ ejC y).toArray e) : RecS ejC 5 w (.slice (some ⟨k, 0, none⟩) 2 2) [x, y] :=
  SlN.mk (xs := ([x, y].map ejC).flatten) rfl (Nat.le_refl _) (by unfold maxLen; omega) (fun h => by cases h) fun a ha i v hv => by
    cases ha
    rw [addr_add_eq, h.cell, Nat.zero_add]
    have : ([x, y].map ejC).flatten = ejC x ++ ejC y := rfl
    rw [this] at hv
    simpa using hv
theorem atJ2 {w : World} {k : Nat} {e : TypeId} {x y : Ej} (h : Blk w k (ejC x ++ ejC y).toArray e) : cellsAt w ⟨k, 0, none⟩ 5 = some (ejC x) ∧ cellsAt w ⟨k, 5, none⟩ 5 = some (ejC y) :=
  ⟨blk_part h 0 5 _ rfl fun i v hv => by
    have hi := (List.getElem?_eq_some_iff.1 hv).1
    rw [Nat.zero_add]; simp only [List.getElem?_toArray]; rw [List.getElem?_append_left hi]; exact hv, blk_part h 5 5 _ rfl fun i v hv => by
    simp only [List.getElem?_toArray]
    rw [List.getElem?_append_right (by rw [ejC_len]; omega), ejC_len, Nat.add_sub_cancel_left]; exact hv⟩
end Go.Proofs.Ytcajkjbempagaaa
end
section
namespace Go.Vc
open Go.RowKit Go.ChangeShapes
section
variable {H : Type} {enc : TypeId × Value → H} {P : Program}
theorem trodAll_stays (hl : laidOutB P = true) {W W' : World} {sp' : Nat → Bool} : ∀ {ts : List TypeId} {vs : List Value} {ds : List (DataW H)} {ps : List MemPlace},
    (∀ t ∈ ts, P.readableRec t = true ∧ t < P.types.size) → DataW.TrodAll enc P W 0 (fun _ => true) true ts vs ds ps → (∀ p ∈ ps, W.sameAt W' p) → (∀ p ∈ ps, sp' p.block = true) → DataW.TrodAll enc P W' 0 sp' true ts vs ds ps
  | [], [], [], _, _, h, _, _ => h
  | t :: ts, v :: vs, d :: ds, ps, ht, ⟨p, q, h1, h2, e⟩, hs, hp => by
    subst e
    refine ⟨p, q, WideElems.Trod_stays hl (ht t (by simp)).1 (ht t (by simp)).2 h1 (fun x hx => hs x (by simp [hx])) (fun x hx => hp x (by simp [hx])), ?_, rfl⟩
    exact trodAll_stays hl (fun u hu => ht u (by simp [hu])) h2 (fun x hx => hs x (by simp [hx])) (fun x hx => hp x (by simp [hx]))
theorem later_kept {W W' : World} (h : Later W W') (may : MemPlace → Prop) : W.keptBut W' may := by
  refine ⟨h.os, h.output, fun i hi => ?_⟩
  rw [h.block i hi]
  cases hb : W.heap[i]? with
  | none => simp
  | some o =>
    cases o with
    | cells c t fr => simp
    | map es k => simp
    | chan => simp
    | _ => simp
theorem trodAll_ps_len : ∀ {W : World} {b : Nat} {sp : Nat → Bool} {hd : Bool} {ts : List TypeId} {vs : List Value} {ds : List (DataW H)} {ps : List MemPlace}, DataW.TrodAll enc P W b sp hd ts vs ds ps → vs.length = ts.length ∧ ds.length = ts.length
  | _, _, _, _, [], [], [], _, _ => ⟨rfl, rfl⟩
  | W, b, sp, hd, _ :: ts, _ :: vs, _ :: ds, _, ⟨_, _, _, h2, _⟩ => by
    have := trodAll_ps_len h2
    exact ⟨by simp [this.1], by simp [this.2]⟩
theorem post_later {f : Func} {s : ChangeSpec} {apart fresh handsOn again : Bool} {W W' : World} {args : Array Value} {ds gs : List (DataW H)} {before : List MemPlace} {tb : TypeId}
    (hl : laidOutB P = true) (hts : ∀ t ∈ f.params.toList, P.readableRec t = true ∧ t < P.types.size) (hr : f.resultTypes = #[tb]) (htb : P.underlying tb = some .bool)
    (hv : s.vars = []) (hfn : s.fn H ds = { results := [.lit (.bool true)], args := ds })
    (hW : DataW.Whole enc P f.params.toList s.vars apart W args.toList ds gs before) (h : Later W W') :
    s.post enc P f apart fresh handsOn again W args (.bool true) W' := by
  have hlt := hW.lt
  have hW' := hW
  obtain ⟨p, q, hA, hV, rfl, hfz, hnd⟩ := hW
  rw [hv] at hV
  obtain ⟨rfl, rfl⟩ := trodVars_none hV
  have same : ∀ x ∈ p, W.sameAt W' x := fun x hx => Below.same h (hlt x (by simp [hx]))
  have hargs : ∀ sp : Nat → Bool, (∀ x ∈ p, sp x.block = true) → DataW.TrodAll enc P W' 0 sp true f.params.toList args.toList ds p := fun sp hsp => trodAll_stays hl hts hA same hsp
  have hres : ∀ (b : Nat) (sp : Nat → Bool) (hd : Bool), DataW.TrodAll enc P W' b sp hd f.resultTypes.toList ((Value.bool true).resultList f.resultTypes.size) [.lit (.bool true)] [] := by
    intro b sp hd
    rw [hr]
    exact trodAll_cons_mk (shut_bool htb _) trodAll_mk0
  refine ⟨ds, [], p ++ [], [], p, [], hW', ?_, ?_, ?_, later_kept h _, fun _ => ?_⟩
  · rw [List.append_nil, hfn]; exact hres _ _ _
  · rw [List.append_nil, hfn]; exact hargs _ (fun x hx => by simpa using hlt x (by simp [hx]))
  · rw [hv, List.append_nil, hfn]; rfl
  · refine ⟨?_, [.lit (.bool true)] ++ ds, [], p, ⟨p, [], ?_, ?_, by simp, ?_, ?_⟩, ?_⟩
    · intro j t r h1 h2
      rw [hr] at h1 h2
      exact ok_one (f := f) hr rfl (okWide_bool_mk htb _) j t r (by rw [hr]; exact h1) (by rw [hr]; exact h2)
    · have := trodAll_append (hargs (fun _ => true) (fun _ _ => rfl)) (hres 0 (fun _ => true) true)
      simpa using this
    · rw [hv]; rfl
    · intro b off hp
      have := hlt _ (show MemPlace.cell b off ∈ p ++ [] by simpa using hp)
      rw [h.frozen (by exact this)]
      exact hfz b off (by simpa using hp)
    · intro ha; simpa using hnd ha
    · intro x hx _; simpa using hx
end
theorem lifted_later {C : Checked} {os : Os} {H : Type} {enc : TypeId × Value → H} {fid : FuncId} {f : Func} {s : ChangeSpec} {conds : List PathCond} {apart fresh handsOn again : Bool} {tb : TypeId}
    (own : ownKnob C.prog.godebug = none) (started : os.Started) (noInit : C.prog.inits.idxOf? fid = none) (hf : C.prog.funcs[fid]? = some f) (hb : HasBody C.prog fid)
    (witness : ∃ (w : World) (tape : Tape) (i : Input), w.os = os ∧ (w.forCall tape i).Shaped C.prog ∧ i.vars = [] ∧ Input.okWide C.prog (w.forCall tape i) .any w.heap.size fid i ∧
      s.pre6 enc C.prog f conds apart (w.forCall tape i).memory i.args ∧ ({} : Assume).holds C.prog (lone (Frame.enter C.prog fid i.args .normal) [] (w.forCall tape i)))
    (hl : laidOutB C.prog = true) (hts : ∀ t ∈ f.params.toList, C.prog.readableRec t = true ∧ t < C.prog.types.size) (hr : f.resultTypes = #[tb]) (htb : C.prog.underlying tb = some .bool)
    (hv : s.vars = []) (hfn : ∀ ds : List (DataW H), ds.length = f.params.toList.length → s.fn H ds = { results := [.lit (.bool true)], args := ds })
    (walk : ∀ (W : World) (base : Nat) (args : Array Value) (ds : List (DataW H)) (p : List MemPlace), (∀ (j : Nat) t v, f.params[j]? = some t → args[j]? = some v → Value.okWide C.prog W .any base t v) →
      DataW.TrodAll enc C.prog W 0 (fun _ => true) true f.params.toList args.toList ds p → FnC C.prog fid args W fun v w' => v = .bool true ∧ Later W w') :
    ReturnsInHanded {} C os fid .any (s.pre6 enc C.prog f conds apart) (s.post enc C.prog f apart fresh handsOn again) := by
  refine returnsInHanded_of_change own started noInit hf witness ?_
  intro W base args ds gs before hval hW _ _
  have hW' := hW
  obtain ⟨p, q, hA, hV, rfl, hfz, hnd⟩ := hW
  have hw := walk W base args ds p hval hA
  unfold FnC at hw
  rw [hb args W] at hw
  have hw : Ret C.prog fid args W fun v w' => v = .bool true ∧ Later W w' := hw
  refine hw.mono fun e w' ⟨v, he, hv', hlat⟩ => ?_
  subst hv'
  exact ⟨_, he, post_later hl hts hr htb hv (hfn ds (trodAll_ps_len hA).2) hW' hlat⟩
section
variable {H : Type} {enc : TypeId × Value → H} {P : Program} {w : World} {sp : Nat → Bool} {hd : Bool}
theorem forall_rows {n : Nat} {R : Nat → List Value → Prop} (h : ∀ i, i < n → ∃ r, R i r) : ∃ rows : List (List Value), rows.length = n ∧ ∀ i r, rows[i]? = some r → R i r := by
  induction n with
  | zero => exact ⟨[], rfl, fun i r hr => by simp at hr⟩
  | succ n ih =>
    obtain ⟨rows, hl, hr⟩ := ih fun i hi => h i (by omega)
    obtain ⟨r, hr'⟩ := h n (by omega)
    refine ⟨rows ++ [r], by simp [hl], fun i x hx => ?_⟩
    by_cases hi : i < n
    · rw [List.getElem?_append_left (by omega)] at hx
      exact hr i x hx
    · rw [List.getElem?_append_right (by omega)] at hx
      have : i = n := by
        by_cases h2 : i - rows.length = 0
        · omega
        · rw [List.getElem?_eq_none (by simp; omega)] at hx; cases hx
      subst this
      simp [hl] at hx
      exact hx ▸ hr'
theorem flatten_at {s : Nat} : ∀ (rows : List (List Value)), (∀ r ∈ rows, r.length = s) → ∀ (i : Nat) (x : Value), rows.flatten[i]? = some x → ∃ k j r, i = k * s + j ∧ j < s ∧ rows[k]? = some r ∧ r[j]? = some x
  | [], _, i, x, h => by simp at h
  | r :: rows, hl, i, x, h => by
    rw [List.flatten_cons] at h
    have hr := hl r (by simp)
    by_cases hi : i < r.length
    · rw [List.getElem?_append_left hi] at h
      exact ⟨0, i, r, by simp, by omega, rfl, h⟩
    · rw [List.getElem?_append_right (by omega)] at h
      obtain ⟨k, j, r', e, hj, hk, hx⟩ := flatten_at rows (fun r' h' => hl r' (by simp [h'])) (i - r.length) x h
      exact ⟨k + 1, j, r', by rw [Nat.add_mul]; omega, hj, by simpa using hk, hx⟩
theorem open_rows {Q : List Value → Prop} {t e : TypeId} {v : Value} {d : DataW H} {ps : List MemPlace} {s : Nat} (ht : P.underlying t = some (.slice e)) (hc : P.cellsOf e = s)
    (hQ : ∀ m cs y, DataW.trod enc P w 0 sp hd m e cs = some y → Q cs) (hval : v.cells.toList = [v]) (h : DataW.Trod enc P w 0 sp hd t v d ps) :
    ∃ rows : List (List Value), SlN w s v rows.length rows.flatten ∧ ∀ r ∈ rows, r.length = s ∧ Q r := by
  obtain ⟨fuel, h⟩ := h
  rw [hval] at h
  rcases DataW.trod_slice ht h with ⟨h0, _⟩ | ⟨a, len, cap, elems, rest, n, _, hv, _, _, hl, hm, hlen, hel, _⟩
  · simp only [List.cons.injEq, and_true] at h0
    subst h0
    exact ⟨[], SlN.nil w s, by simp⟩
  · simp only [List.cons.injEq, and_true] at hv
    subst hv
    rw [hc] at hel
    have step : ∀ i, i < len → ∃ r : List Value, (∀ j x, r[j]? = some x → w.cell? (a.add (i * s + j)) = some x) ∧ r.length = s ∧ Q r := by
      intro i hi
      have h1 := hel i hi
      rw [List.getElem?_eq_getElem (by omega), Option.bind_eq_some_iff] at h1
      obtain ⟨cs, hcs, hy⟩ := h1
      have h2 := World.cells?_some hcs
      refine ⟨cs, fun j x hx => ?_, h2.2.1, hQ _ _ _ hy⟩
      have hj : j < s := by
        have := (List.getElem?_eq_some_iff.1 hx).1
        have := h2.2.1
        omega
      have h3 := h2.2.2 j hj
      rw [addr_add_add] at h3
      rw [h3]; exact hx
    obtain ⟨rows, hrl, hr⟩ := forall_rows step
    have hrs : ∀ r ∈ rows, r.length = s ∧ Q r := by
      intro r hr'
      obtain ⟨i, hi⟩ := List.getElem?_of_mem hr'
      exact (hr i r hi).2
    refine ⟨rows, ?_, hrs⟩
    rw [hrl]
    have hfl : rows.flatten.length = len * s := by
      rw [List.length_flatten, ← hrl]
      clear hr hrl
      induction rows with
      | nil => simp
      | cons r rows ih =>
        simp only [List.map_cons, List.sum_cons, List.length_cons]
        rw [ih (fun r' h' => hrs r' (by simp [h'])), (hrs r (by simp)).1, Nat.add_mul]
        omega
    refine SlN.mk hfl hl hm (fun h => by cases h) ?_
    intro a' ha i x hx
    simp only [Option.some.injEq] at ha
    subst ha
    obtain ⟨k, j, r, rfl, hj, hk, hx'⟩ := flatten_at rows (fun r hr' => (hrs r hr').1) i x hx
    exact (hr k r hk).1 j x hx'
theorem slice_cells {t e : TypeId} {v : Value} {r : Reach} {b0 : Nat} (ht : P.underlying t = some (.slice e)) (hval : Value.okWide P w r b0 t v) : v.cells.toList = [v] := by
  simp only [Value.okWide, ht] at hval
  cases v <;> simp [Cell.okWide, Cell.ok, ht] at hval <;> rfl
theorem u8s_of {t e : TypeId} {v : Value} {d : DataW H} {ps : List MemPlace} (ht : P.underlying t = some (.slice e)) (he : P.underlying e = some (.int .u8)) (hc : P.cellsOf e = 1) (hval : v.cells.toList = [v]) (h : DataW.Trod enc P w 0 sp hd t v d ps) :
    ∃ l : List UInt8, Sl w v (l.map u8v) := by
  obtain ⟨rows, hs, hr⟩ := open_rows (Q := fun cs => ∃ c : UInt8, cs = [u8v c]) ht hc (fun m cs y hy => by
    obtain ⟨n, rfl, _, hw⟩ := DataW.trod_int he hy
    simp only [Lit.wf, Bool.and_eq_true, decide_eq_true_eq] at hw
    refine ⟨UInt8.ofNat n.toNat, ?_⟩
    unfold u8v
    have h1 : IntKind.u8.min = 0 := rfl
    have h2 : IntKind.u8.max = 255 := rfl
    rw [h1, h2] at hw
    have : ((UInt8.ofNat n.toNat).toNat : Int) = n := by simp; omega
    rw [this]) hval h
  have : ∃ l : List UInt8, rows.flatten = l.map u8v ∧ l.length = rows.length := by
    clear hs
    induction rows with
    | nil => exact ⟨[], rfl, rfl⟩
    | cons r rows ih =>
      obtain ⟨l, hl, hn⟩ := ih fun r' h' => hr r' (by simp [h'])
      obtain ⟨_, c, rfl⟩ := hr r (by simp)
      exact ⟨c :: l, by simp [hl], by simp [hn]⟩
  obtain ⟨l, hl, hn⟩ := this
  refine ⟨l, ?_⟩
  unfold Sl
  rw [hl, ← hn] at hs
  simpa using hs
theorem open_u8s {t e : TypeId} {v : Value} {d : DataW H} {ps : List MemPlace} {r : Reach} {b0 : Nat} (ht : P.underlying t = some (.slice e)) (he : P.underlying e = some (.int .u8)) (hc : P.cellsOf e = 1) (hval : Value.okWide P w r b0 t v) (h : DataW.Trod enc P w 0 sp hd t v d ps) :
    ∃ l : List UInt8, Sl w v (l.map u8v) := u8s_of ht he hc (slice_cells ht hval) h
theorem trod_pair {t e : TypeId} {k : IntKind} {fuel : Nat} {c0 c1 : Value} {x : DataW H × List MemPlace} (ht : P.underlying t = some (.array 2 e)) (he : P.underlying e = some (.int k)) (hce : P.cellsOf e = 1)
    (h : DataW.trod enc P w 0 sp hd fuel t [c0, c1] = some x) : ∃ a b, c0 = .int k a ∧ c1 = .int k b ∧ (Lit.int k a).wf = true ∧ (Lit.int k b).wf = true := by
  cases fuel with
  | zero => simp [DataW.trod] at h
  | succ n =>
    unfold DataW.trod at h
    rw [ht] at h
    have r2 : List.range 2 = [0, 1] := rfl
    simp [r2, hce] at h
    obtain ⟨_, h⟩ := h
    cases h0 : DataW.trod enc P w 0 sp hd n e [c0] with
    | none => simp [h0] at h
    | some y0 =>
      cases h1 : DataW.trod enc P w 0 sp hd n e [c1] with
      | none => simp [h0, h1] at h
      | some y1 =>
        obtain ⟨a, ea, _, wa⟩ := DataW.trod_int he h0
        obtain ⟨b, eb, _, wb⟩ := DataW.trod_int he h1
        exact ⟨a, b, by simpa using ea, by simpa using eb, wa, wb⟩
theorem open_pair {t e : TypeId} {k : IntKind} {v : Value} {d : DataW H} {ps : List MemPlace} {r : Reach} {b0 : Nat} (ht : P.underlying t = some (.array 2 e)) (he : P.underlying e = some (.int k)) (hce : P.cellsOf e = 1) (hct : P.cellsOf t = 2)
    (hval : Value.okWide P w r b0 t v) (h : DataW.Trod enc P w 0 sp hd t v d ps) : ∃ a b, v = .agg #[.int k a, .int k b] ∧ (Lit.int k a).wf = true ∧ (Lit.int k b).wf = true := by
  simp only [Value.okWide, ht] at hval
  obtain ⟨cs, rfl, h2, _⟩ := hval
  rw [hct] at h2
  obtain ⟨l⟩ := cs
  match l, h2 with
  | [c0, c1], _ =>
    obtain ⟨fuel, h⟩ := h
    obtain ⟨a, b, rfl, rfl, wa, wb⟩ := trod_pair ht he hce h
    exact ⟨a, b, rfl, wa, wb⟩
end
theorem list_all {P : Program} {ts : List TypeId} (h : (ts.all fun t => P.readableRec t && decide (t < P.types.size)) = true) : ∀ t ∈ ts, P.readableRec t = true ∧ t < P.types.size := by
  intro t ht
  have := List.all_eq_true.1 h t ht
  simpa using this
theorem i64_of_wf {n : Int} (h : (Lit.int .i64 n).wf = true) : -9223372036854775808 ≤ n ∧ n ≤ 9223372036854775807 := by
  simp only [Lit.wf, Bool.and_eq_true, decide_eq_true_eq] at h
  exact h
end Go.Vc
end
section
namespace Go.Vc
open Go.RowKit Go.ChangeShapes
section
variable {H : Type} {enc : TypeId × Value → H} {P : Program} {w : World} {sp : Nat → Bool} {hd : Bool}
structure Opens (enc : TypeId × Value → H) (P : Program) (w : World) (sp : Nat → Bool) (hd : Bool) (e : TypeId) (s : Nat) (R : List Value → Prop) : Prop where
  size : P.cellsOf e = s
  reads : ∀ m cs y, DataW.trod enc P w 0 sp hd m e cs = some y → R cs
theorem Opens.mono {e : TypeId} {s : Nat} {R R' : List Value → Prop} (h : Opens enc P w sp hd e s R) (hr : ∀ cs, R cs → R' cs) : Opens enc P w sp hd e s R' := ⟨h.size, fun m cs y hy => hr _ (h.reads m cs y hy)⟩
theorem opens_i64 {e : TypeId} (he : P.underlying e = some (.int .i64)) (hc : P.cellsOf e = 1) : Opens enc P w sp hd e 1 (fun cs => ∃ n : Int, cs = [.int .i64 n] ∧ -9223372036854775808 ≤ n ∧ n ≤ 9223372036854775807) :=
  ⟨hc, fun m cs y hy => by
    obtain ⟨n, rfl, _, hw⟩ := DataW.trod_int he hy
    exact ⟨n, rfl, i64_of_wf hw⟩⟩
theorem opens_bool {e : TypeId} (he : P.underlying e = some .bool) (hc : P.cellsOf e = 1) : Opens enc P w sp hd e 1 (fun cs => ∃ b : Bool, cs = [.bool b]) :=
  ⟨hc, fun m cs y hy => by
    obtain ⟨n, rfl, _⟩ := DataW.trod_bool he hy
    exact ⟨n, rfl⟩⟩
theorem opens_string {e : TypeId} (he : P.underlying e = some .string) (hc : P.cellsOf e = 1) : Opens enc P w sp hd e 1 (fun cs => ∃ s : ByteArray, cs = [.string s] ∧ s.size ≤ 9223372036854775807) :=
  ⟨hc, fun m cs y hy => by
    obtain ⟨n, rfl, _, hs⟩ := DataW.trod_string he hy
    exact ⟨n, rfl, hs⟩⟩
theorem rows_list {α : Type} {en : α → List Value} {Q : α → Prop} : ∀ (rows : List (List Value)), (∀ r ∈ rows, ∃ x, r = en x ∧ Q x) → ∃ l : List α, rows = l.map en ∧ ∀ x ∈ l, Q x
  | [], _ => ⟨[], rfl, by simp⟩
  | r :: rows, h => by
    obtain ⟨l, hl, hq⟩ := rows_list rows fun r' h' => h r' (by simp [h'])
    obtain ⟨x, hx, hqx⟩ := h r (by simp)
    refine ⟨x :: l, by simp [hl, hx], fun y hy => ?_⟩
    rcases List.mem_cons.1 hy with rfl | hy
    · exact hqx
    · exact hq y hy
theorem opens_slice {α : Type} {en : α → List Value} {Q : α → Prop} {t e : TypeId} {s : Nat} (ht : P.underlying t = some (.slice e)) (hc : P.cellsOf t = 1) (he : Opens enc P w sp hd e s (fun cs => ∃ x, cs = en x ∧ Q x)) :
    Opens enc P w sp hd t 1 (fun cs => ∃ v l, cs = [v] ∧ RecS en s w v l ∧ ∀ x ∈ l, Q x) :=
  ⟨hc, fun m cs y hy => by
    have hx : ∃ x : Value, cs = [x] ∧ x.cells.toList = [x] := by
      rcases DataW.trod_slice ht hy with ⟨h0, _⟩ | ⟨a, len, cap, elems, rest, n, _, hv, _⟩
      · exact ⟨_, h0, rfl⟩
      · exact ⟨_, hv, rfl⟩
    obtain ⟨x, rfl, hx⟩ := hx
    obtain ⟨rows, hs, hr⟩ := open_rows (d := y.1) (ps := y.2) (Q := fun cs => ∃ x, cs = en x ∧ Q x) ht he.size (fun m cs y hy => he.reads m cs y hy) hx ⟨m, by rw [hx]; exact hy⟩
    obtain ⟨l, rfl, hq⟩ := rows_list rows fun r h => (hr r h).2
    rw [List.length_map] at hs
    exact ⟨x, l, rfl, hs, hq⟩⟩
theorem flat_one {α : Type} (f : α → Value) : ∀ l : List α, (l.map fun x => [f x]).flatten = l.map f
  | [] => rfl
  | x :: l => by simp [flat_one f l]
theorem sl_of_rec {α : Type} {f : α → Value} {w : World} {v : Value} {l : List α} (h : RecS (fun x => [f x]) 1 w v l) : Sl w v (l.map f) := by
  unfold RecS at h
  rw [flat_one] at h
  unfold Sl
  rw [List.length_map]
  exact h
theorem opens_struct {t : TypeId} {fs : Array Field} {S : Nat} (ht : P.underlying t = some (.struct fs)) (hc : P.cellsOf t = S) :
    Opens enc P w sp hd t S (fun cs => cs.length = S ∧ ∀ (i : Nat) (f : Field) (s : Nat) (R : List Value → Prop), fs[i]? = some f → Opens enc P w sp hd f.type s R → R ((cs.drop f.offset).take s)) :=
  ⟨hc, fun m cs y hy => by
    obtain ⟨xs, n, _, _, hl, hxl, hf⟩ := DataW.trod_struct ht hy
    rw [hc] at hl
    refine ⟨hl, fun i f s R hi ho => ?_⟩
    have h1 := hf i f hi
    rw [ho.size] at h1
    have hlt : i < xs.length := by
      rw [hxl]
      exact (Array.getElem?_eq_some_iff.1 hi).1
    rw [List.getElem?_eq_getElem hlt] at h1
    exact ho.reads _ _ _ h1⟩
theorem opens_array {t e : TypeId} {n s S : Nat} {R : List Value → Prop} (ht : P.underlying t = some (.array n e)) (hc : P.cellsOf t = S) (he : Opens enc P w sp hd e s R) :
    Opens enc P w sp hd t S (fun cs => cs.length = S ∧ ∀ i, i < n → R ((cs.drop (i * s)).take s)) :=
  ⟨hc, fun m cs y hy => by
    obtain ⟨xs, k, _, _, hl, hxl, hf⟩ := DataW.trod_array ht hy
    rw [hc] at hl
    refine ⟨hl, fun i hi => ?_⟩
    have h1 := hf i hi
    rw [he.size, List.getElem?_eq_getElem (by omega)] at h1
    exact he.reads _ _ _ h1⟩
theorem open_agg {t : TypeId} {v : Value} {d : DataW H} {ps : List MemPlace} {r : Reach} {b0 s : Nat} {R : List Value → Prop} (hu : (∃ fs, P.underlying t = some (.struct fs)) ∨ ∃ n e, P.underlying t = some (.array n e)) (ho : Opens enc P w sp hd t s R)
    (hval : Value.okWide P w r b0 t v) (h : DataW.Trod enc P w 0 sp hd t v d ps) : ∃ cs : List Value, v = .agg cs.toArray ∧ R cs := by
  obtain ⟨fuel, h⟩ := h
  have hv : ∃ cs, v = .agg cs := by
    rcases hu with ⟨fs, ht⟩ | ⟨n, e, ht⟩
    · simp only [Value.okWide, ht] at hval
      exact ⟨_, hval.choose_spec.1⟩
    · simp only [Value.okWide, ht] at hval
      exact ⟨_, hval.choose_spec.1⟩
  obtain ⟨cs, rfl⟩ := hv
  exact ⟨cs.toList, by simp, ho.reads _ _ _ h⟩
theorem open_sl {t e : TypeId} {v : Value} {d : DataW H} {ps : List MemPlace} {r : Reach} {b0 s : Nat} {R : List Value → Prop} (ht : P.underlying t = some (.slice e)) (ho : Opens enc P w sp hd t s R)
    (hval : Value.okWide P w r b0 t v) (h : DataW.Trod enc P w 0 sp hd t v d ps) : R [v] := by
  obtain ⟨fuel, h⟩ := h
  rw [slice_cells ht hval] at h
  exact ho.reads _ _ _ h
end
end Go.Vc
end
section
namespace Go.Proofs.Ytcajkjbempagaaa
open Go.Vc Go.Zig Go.Key Go.RowKit Go.ChangeShapes
set_option maxRecDepth 100000
section
variable {H : Type} {enc : TypeId × Value → H} {w : World} {sp : Nat → Bool} {hd : Bool}
theorem o_int : Opens enc Try.prog w sp hd 3 1 (fun cs => ∃ n : Int, cs = [.int .i64 n] ∧ I64 n) := opens_i64 Try.underlying3 (by kernel_rfl)
theorem o_str : Opens enc Try.prog w sp hd 9 1 (fun cs => ∃ s : ByteArray, cs = [.string s] ∧ s.size ≤ 9223372036854775807) := opens_string Try.underlying9 (by kernel_rfl)
theorem o_strs : Opens enc Try.prog w sp hd 22 1 (fun cs => ∃ v l, cs = [v] ∧ StS w v l ∧ StZ l) :=
  (opens_slice (en := fun s => [Value.string s]) (Q := fun s => s.size ≤ 9223372036854775807) Try.underlying22 (by kernel_rfl) o_str).mono fun _ ⟨v, l, h1, h2, h3⟩ => ⟨v, l, h1, sl_of_rec h2, h3⟩
theorem o_ints : Opens enc Try.prog w sp hd 39 1 (fun cs => ∃ (v : Value) (l : List Int), cs = [v] ∧ Sl w v (l.map i64v) ∧ ∀ n ∈ l, I64 n) :=
  (opens_slice (en := fun n => [i64v n]) (Q := I64) Try.underlying39 (by kernel_rfl) o_int).mono fun _ ⟨v, l, h1, h2, h3⟩ => ⟨v, l, h1, sl_of_rec h2, h3⟩
theorem o_schema : Opens enc Try.prog w sp hd 24 2 (fun cs => ∃ dv mv d m, cs = [dv, mv] ∧ ScIs w dv mv d m) :=
  (opens_struct Try.underlying24 (by kernel_rfl)).mono fun cs ⟨hl, hf⟩ => by
    match cs, hl with
    | [c0, c1], _ =>
      obtain ⟨dv, d, hd, sd, zd⟩ := hf 0 _ 1 _ rfl o_strs
      obtain ⟨mv, m, hm, sm, zm⟩ := hf 1 _ 1 _ rfl o_strs
      obtain rfl : c0 = _ := (List.cons.inj hd).1
      obtain rfl : c1 = _ := (List.cons.inj hm).1
      exact ⟨c0, c1, d, m, rfl, sd, sm, zd, zm⟩
theorem o_event : Opens enc Try.prog w sp hd 41 3 (fun cs => ∃ e : Ev, cs = [.int .i64 e.t, e.dv, e.kv] ∧ EvIs w e ∧ StZ e.d) :=
  (opens_struct Try.underlying41 (by kernel_rfl)).mono fun cs ⟨hl, hf⟩ => by
    match cs, hl with
    | [c0, c1, c2], _ =>
      obtain ⟨t, ht, wt⟩ := hf 0 _ 1 _ rfl o_int
      obtain ⟨dv, d, hd, sd, zd⟩ := hf 1 _ 1 _ rfl o_strs
      obtain ⟨kv, k, hk, sk, zk⟩ := hf 2 _ 1 _ rfl o_ints
      obtain rfl : c0 = _ := (List.cons.inj ht).1
      obtain rfl : c1 = _ := (List.cons.inj hd).1
      obtain rfl : c2 = _ := (List.cons.inj hk).1
      exact ⟨⟨t, d, k, c1, c2⟩, rfl, ⟨sd, sk⟩, zd⟩
def EjQ (w : World) (x : Ej) : Prop := EjIs w x ∧ StZ x.e.d
theorem o_bool : Opens enc Try.prog w sp hd 4 1 (fun cs => ∃ b : Bool, cs = [.bool b]) := opens_bool Try.underlying4 (by kernel_rfl)
theorem o_entry : Opens enc Try.prog w sp hd 43 5 (fun cs => ∃ x : Ej, cs = ejC x ∧ EjQ w x) :=
  (opens_struct Try.underlying43 (by kernel_rfl)).mono fun cs ⟨hl, hf⟩ => by
    match cs, hl with
    | [c0, c1, c2, c3, c4], _ =>
      obtain ⟨b, hb⟩ := hf 0 _ 1 _ rfl o_bool
      obtain ⟨n, hn, wn⟩ := hf 1 _ 1 _ rfl o_int
      obtain ⟨y, hy, iy, zy⟩ := hf 2 _ 3 _ rfl o_event
      obtain rfl : c0 = _ := (List.cons.inj hb).1
      obtain rfl : c1 = _ := (List.cons.inj hn).1
      obtain rfl : c2 = _ := (List.cons.inj hy).1
      obtain rfl : c3 = _ := (List.cons.inj (List.cons.inj hy).2).1
      obtain rfl : c4 = _ := (List.cons.inj (List.cons.inj (List.cons.inj hy).2).2).1
      exact ⟨⟨⟨b, n, y.t, y.d, y.k⟩, y.dv, y.kv⟩, rfl, ⟨iy.dS, iy.kS⟩, zy⟩
theorem o_entries : Opens enc Try.prog w sp hd 33 1 (fun cs => ∃ v l, cs = [v] ∧ RecS ejC 5 w v l ∧ ∀ x ∈ l, EjQ w x) :=
  opens_slice (en := ejC) Try.underlying33 (by kernel_rfl) o_entry
variable {v : Value} {d : DataW H} {ps : List MemPlace} {r : Reach} {b0 : Nat}
theorem open_schema (hval : Value.okWide Try.prog w r b0 24 v) (h : DataW.Trod enc Try.prog w 0 sp hd 24 v d ps) : ∃ a : Value × Value × List ByteArray × List ByteArray, v = scV a.1 a.2.1 ∧ ScIs w a.1 a.2.1 a.2.2.1 a.2.2.2 := by
  obtain ⟨cs, rfl, dv, mv, d, m, rfl, hs⟩ := open_agg (.inl ⟨_, Try.underlying24⟩) o_schema hval h
  exact ⟨(dv, mv, d, m), rfl, hs⟩
theorem open_entries (hval : Value.okWide Try.prog w r b0 33 v) (h : DataW.Trod enc Try.prog w 0 sp hd 33 v d ps) : ∃ l : List Ej, RecS ejC 5 w v l ∧ ∀ x ∈ l, EjQ w x := by
  obtain ⟨v', l, hv, h1, h2⟩ := open_sl Try.underlying33 o_entries hval h
  obtain rfl : v = v' := (List.cons.inj hv).1
  exact ⟨l, h1, h2⟩
theorem open_entry2 (hval : Value.okWide Try.prog w r b0 44 v) (h : DataW.Trod enc Try.prog w 0 sp hd 44 v d ps) : ∃ a : Ej × Ej, v = .agg (ejC a.1 ++ ejC a.2).toArray ∧ EjQ w a.1 ∧ EjQ w a.2 := by
  obtain ⟨cs, rfl, hl, hf⟩ := open_agg (.inr ⟨_, _, Try.underlying44⟩) (opens_array Try.underlying44 (S := 10) (by kernel_rfl) o_entry) hval h
  obtain ⟨e, he, q⟩ := hf 0 (by decide)
  obtain ⟨f, hf', q'⟩ := hf 1 (by decide)
  have hcs : cs = ejC e ++ ejC f := by
    rw [← he, ← hf', Nat.zero_mul, List.drop_zero, List.take_of_length_le (l := cs.drop (1 * 5)) (by rw [List.length_drop, hl]; omega), Nat.one_mul, List.take_append_drop]
  subst hcs
  exact ⟨(e, f), rfl, q, q'⟩
end
end Go.Proofs.Ytcajkjbempagaaa
end
section
namespace Go.Proofs.Ytcajkjbempagaaa
open Go.Vc
set_option maxRecDepth 100000
variable (Q : Post) (ds : List Deferred) (σ : Env) (w : World)
/-! 3 columbary/columbarylaw19.JournalReads (params #[24, 25], results #[(.tmp 4)], 76 slots) -/
abbrev r3_0 : List VOp :=
  [zBJ 2 24 0 0,
   zD 4]
abbrev r3_1 : List VOp :=
  [lda 15 24 2,
   ⟨some 16, .call ⟨.value (.func 7), #[(.tmp 15), (.const (.slice none 0 0))], #[24, 33]⟩, 4, none⟩,
   asg 5 16 4]
abbrev r3_2 : List VOp :=
  [mv 17 5 4,
   zCR 18 17,
   mv 19 18 4,
   zCJ 20 1 25 19,
   zBP 21 20 25 19,
   zU 22 21 600 19,
   zCN 23 19 22]
abbrev r3_3 : List VOp :=
  [zBZ 24 8 4,
   asg 4 24 4]
abbrev r3_4 : List VOp :=
  [zBR 26 1000,
   mv 25 26 30,
   ext 27 25 0 28,
   ext 28 25 1 29,
   asg 6 27 28,
   asg 7 28 29]
abbrev r3_5 : List VOp :=
  [mv 29 7 29,
   zBA 30 29 0,
   mv 31 30 4,
   zCJ 32 6 28 31,
   zCJ 33 1 25 31,
   ⟨some 34, .call { callee := (.value (.func 10)), args := #[(.tmp 32), (.const (.string { data := #[102] })), (.tmp 33)], argTypes := #[28, 9, 25] }, 29, some (31, false)⟩,
   zBB 35 34 31,
   zCN 36 31 35]
abbrev r3_6 : List VOp :=
  [zD 4]
abbrev r3_7 : List VOp :=
  [mv 38 6 28,
   lda 39 24 2,
   ⟨some 40, .call { callee := (.value (.func 11)), args := #[(.tmp 38), (.const (.string { data := #[102] })), (.tmp 39)], argTypes := #[28, 9, 24] }, 34, none⟩,
   mv 37 40 34,
   ext 41 37 0 33,
   ext 42 37 1 3,
   asg 8 41 33,
   asg 9 42 3]
abbrev r3_8 : List VOp :=
  [mv 44 1 25,
   lda 45 24 2,
   zBV 46 12 44 45 25 24 34,
   mv 43 46 34,
   ext 47 43 0 33,
   ext 48 43 1 3,
   asg 10 47 33,
   asg 11 48 3]
abbrev r3_9 : List VOp :=
  [mv 50 6 28,
   lda 51 24 2,
   ⟨some 52, .call { callee := (.value (.func 11)), args := #[(.tmp 50), (.const (.string { data := #[103] })), (.tmp 51)], argTypes := #[28, 9, 24] }, 34, none⟩,
   mv 49 52 34,
   ext 53 49 0 33,
   ext 54 49 1 3,
   asg 12 53 33,
   asg 13 54 3]
abbrev r3_10 : List VOp :=
  [mv 55 8 33,
   mv 56 10 33,
   zBV 57 13 55 56 33 33 4,
   asg 14 57 4]
abbrev r3_11 : List VOp :=
  [zBZ 58 8 4,
   mv 59 58 4,
   zCK 60 14 4 59,
   zCO 61 59 60,
   mv 62 61 4,
   zCK 63 9 3 62,
   zCK 64 11 3 62,
   zR 65 3 63 64 62,
   zCO 66 62 65,
   mv 67 66 4,
   zCK 68 12 33 67,
   zBQ 69 68 33 67,
   zN 70 3 69 0 67,
   zCO 71 67 70,
   mv 72 71 4,
   zCK 73 13 3 72,
   zN 74 3 73 0 72,
   zCO 75 72 74,
   asg 4 75 4]
def B3 : VC :=
  (.seq (.region r3_0) (.seq (.region r3_1) (.seq (.seq (.region r3_2) (.cond (.tmp 23) (.seq (.region r3_3) .ret) .skip)) (.seq (.region r3_4) (.seq (.seq (.region r3_5) (.cond (.tmp 36) (.seq (.region r3_6) .ret) .skip)) (.seq (.region r3_7) (.seq (.region r3_8) (.seq (.region r3_9) (.seq (.region r3_10) (.seq (.region r3_11) .ret))))))))))
theorem code3 : ∃ c, Try.f3.body = some c ∧ abs Try.f3.ntmps c = B3 := ⟨_, rfl, by kernel_rfl⟩
theorem hb3 : HasBody Try.prog 3 := hasBody_of Try.func3 (by kernel_rfl)
theorem enter3 (x0 x1 : Value) : Ent 3 B3 #[(.tmp 4)] [x0, x1] := ent code3 hb3 Try.func3 rfl rfl
/-! 4 columbary/columbarylaw19.JournalBack (params #[24, 44, 3], results #[(.tmp 6)], 92 slots) -/
abbrev r4_0 : List VOp :=
  [zBJ 3 24 0 0,
   zBJ 4 44 1 0,
   zD 6]
def r4_1 : List (VOp × List Nat) := [(⟨some 16, .load 24 (.tmp 3), 24, none⟩, [3]), (⟨some 17, .slice 44 (.tmp 4) none none none, 33, none⟩, [4]), (⟨some 18, .call ⟨.value (.func 7), #[.tmp 16, .tmp 17], #[24, 33]⟩, 4, none⟩, [16, 17]), (⟨some 7, .assign (.tmp 18), 4, none⟩, [18])]
abbrev r4_2 : List VOp :=
  [mv 19 7 4,
   zCR 20 19]
abbrev r4_3 : List VOp :=
  [zBZ 21 8 4,
   asg 6 21 4]
abbrev r4_4 : List VOp :=
  [lda 23 24 3,
   zCE 24 44 4 0,
   lda 25 43 24,
   zBV 26 14 23 25 24 43 45,
   mv 22 26 45,
   ext 27 22 0 25,
   ext 28 22 1 29,
   asg 8 27 25,
   asg 9 28 29]
abbrev r4_5 : List VOp :=
  [lda 30 24 3,
   zCE 31 44 4 1,
   lda 32 43 31,
   zBV 33 14 30 32 24 43 45,
   mv 29 33 45,
   ext 34 29 0 25,
   ext 35 29 1 29,
   asg 10 34 25,
   asg 11 35 29]
abbrev r4_6 : List VOp :=
  [mv 36 9 29,
   zBA 37 36 0,
   mv 38 37 4,
   zCJ 39 11 29 38,
   zBB 40 39 38,
   zCN 41 38 40]
abbrev r4_7 : List VOp :=
  [zBZ 42 8 4,
   asg 6 42 4]
abbrev r4_8 : List VOp :=
  [mv 43 8 25,
   zBO 44 43 25,
   zM 45 3 44 0]
abbrev r4_9 : List VOp :=
  [zD 6]
abbrev r4_10 : List VOp :=
  [lda 47 24 3,
   mv 48 8 25,
   zBV 49 15 47 48 24 25 47,
   mv 46 49 47,
   ext 50 46 0 43,
   ext 51 46 1 29,
   zC 12 43,
   zB 43 12 50,
   asg 13 51 29]
def r4_11 : List (VOp × List Nat) := [(⟨some 53, .load 24 (.tmp 3), 24, none⟩, [3]), (⟨some 54, .move (.tmp 8), 25, none⟩, [8]), (⟨some 55, .move (.tmp 2), 3, none⟩, [2]), (⟨some 56, .binOp .and 3 (.tmp 55) (.const (.int .i64 1023)) 3, 3, none⟩, [55]), (⟨some 57, .move (.tmp 8), 25, none⟩, [8]), (⟨some 58, .call ⟨.builtin .len, #[.tmp 57], #[25]⟩, 3, none⟩, [57]), (⟨some 59, .binOp .rem 3 (.tmp 56) (.tmp 58) 3, 3, none⟩, [56, 58]), (⟨some 60, .slice 25 (.tmp 54) none (some (.tmp 59)) none, 25, none⟩, [54, 59]), (⟨some 61, .call ⟨.value (.func 15), #[.tmp 53, .tmp 60], #[24, 25]⟩, 47, none⟩, [53, 60]), (⟨some 52, .move (.tmp 61), 47, none⟩, [61]), (⟨some 62, .extract (.tmp 52) 0, 43, none⟩, [52]), (⟨some 63, .extract (.tmp 52) 1, 29, none⟩, [52]), (⟨some 14, .alloc 43, 0, none⟩, []), (⟨none, .store 43 (.tmp 14) (.tmp 62), 0, none⟩, [14, 62]), (⟨some 15, .assign (.tmp 63), 29, none⟩, [63])]
def r4_12 : List (VOp × List Nat) := [(⟨some 64, .call ⟨.value (.func 8), #[], #[]⟩, 4, none⟩, []), (⟨some 65, .move (.tmp 64), 4, none⟩, [64]), (⟨some 66, .move (.tmp 13), 29, some (65, true)⟩, [13, 65]), (⟨some 67, .binOp .eql 29 (.tmp 66) (.const (.int .i64 0)) 29, 4, some (65, true)⟩, [66, 65]), (⟨some 68, .pick (.tmp 65) (.tmp 67) (.const (.bool false)), 4, none⟩, [65, 67]), (⟨some 69, .move (.tmp 68), 4, none⟩, [68]), (⟨some 70, .load 43 (.tmp 12), 43, some (69, true)⟩, [12, 69]), (⟨some 71, .indexAddr 44 (.tmp 4) (.const (.int .i64 0)), 0, some (69, true)⟩, [4, 69]), (⟨some 72, .load 43 (.tmp 71), 43, some (69, true)⟩, [71, 69]), (⟨some 73, .call ⟨.value (.func 16), #[.tmp 70, .tmp 72], #[43, 43]⟩, 4, some (69, true)⟩, [70, 72, 69]), (⟨some 74, .pick (.tmp 69) (.tmp 73) (.const (.bool false)), 4, none⟩, [69, 73]), (⟨some 75, .move (.tmp 74), 4, none⟩, [74]), (⟨some 76, .move (.tmp 15), 29, some (75, true)⟩, [15, 75]), (⟨some 77, .binOp .eql 29 (.tmp 76) (.const (.int .i64 191)) 29, 4, some (75, true)⟩, [76, 75]), (⟨some 78, .pick (.tmp 75) (.tmp 77) (.const (.bool false)), 4, none⟩, [75, 77]), (⟨some 79, .move (.tmp 78), 4, none⟩, [78]), (⟨some 80, .move (.tmp 8), 25, some (79, true)⟩, [8, 79]), (⟨some 81, .convert 25 9 (.tmp 80), 9, some (79, true)⟩, [80, 79]), (⟨some 82, .move (.tmp 10), 25, some (79, true)⟩, [10, 79]), (⟨some 83, .convert 25 9 (.tmp 82), 9, some (79, true)⟩, [82, 79]), (⟨some 84, .binOp .eql 9 (.tmp 81) (.tmp 83) 9, 4, some (79, true)⟩, [81, 83, 79]), (⟨some 85, .indexAddr 44 (.tmp 4) (.const (.int .i64 0)), 0, some (79, true)⟩, [4, 79]), (⟨some 86, .load 43 (.tmp 85), 43, some (79, true)⟩, [85, 79]), (⟨some 87, .indexAddr 44 (.tmp 4) (.const (.int .i64 1)), 0, some (79, true)⟩, [4, 79]), (⟨some 88, .load 43 (.tmp 87), 43, some (79, true)⟩, [87, 79]), (⟨some 89, .call ⟨.value (.func 16), #[.tmp 86, .tmp 88], #[43, 43]⟩, 4, some (79, true)⟩, [86, 88, 79]), (⟨some 90, .binOp .eql 4 (.tmp 84) (.tmp 89) 4, 4, some (79, true)⟩, [84, 89, 79]), (⟨some 91, .pick (.tmp 79) (.tmp 90) (.const (.bool false)), 4, none⟩, [79, 90]), (⟨some 6, .assign (.tmp 91), 4, none⟩, [91])]
def B4 : VC :=
  (.seq (.region r4_0) (.seq (.draw (dzR r4_1) 3) (.seq (.seq (.region r4_2) (.cond (.tmp 20) (.seq (.region r4_3) .ret) .skip)) (.seq (.region r4_4) (.seq (.region r4_5) (.seq (.seq (.region r4_6) (.cond (.tmp 41) (.seq (.region r4_7) .ret) .skip)) (.seq (.seq (.region r4_8) (.cond (.tmp 45) (.seq (.region r4_9) .ret) .skip)) (.seq (.region r4_10) (.seq (.drawS (dzR r4_11) 2 [63]) (.seq (.draw (dzR r4_12) 4) .ret))))))))))
theorem code4 : ∃ c, Try.f4.body = some c ∧ abs Try.f4.ntmps c = B4 := ⟨_, rfl, by kernel_rfl⟩
theorem hb4 : HasBody Try.prog 4 := hasBody_of Try.func4 (by kernel_rfl)
theorem enter4 (x0 x1 x2 : Value) : Ent 4 B4 #[(.tmp 6)] [x0, x1, x2] := ent code4 hb4 Try.func4 rfl rfl
@[push_cast] def vr4_1 := vzD r4_1.eq_1 rfl 3
@[push_cast] def vr4_11 := vzS r4_11.eq_1 rfl 2 [63]
@[push_cast] def vr4_12 := vzD r4_12.eq_1 rfl 4
/-! 5 columbary/columbarylaw19.JournalParts (params #[24, 33, 3], results #[(.tmp 6)], 150 slots) -/
@[push_cast] def W5_0 : List Nat := [6, 10, 11, 12, 13, 44, 45, 46, 47, 48, 49, 50, 51, 52, 53, 54, 55, 56, 57, 58, 59, 60, 61, 62, 63, 64, 65, 66, 67, 68, 69, 70, 71, 72, 73, 74, 75, 76, 77, 78, 79, 80, 81]
abbrev r5_0 : List VOp :=
  [zBJ 3 24 0 0,
   zD 6]
abbrev r5_1 : List VOp :=
  [lda 26 24 3,
   mv 27 1 33,
   zBV 28 7 26 27 24 33 4,
   asg 7 28 4]
abbrev r5_2 : List VOp :=
  [zBR 30 16777216,
   mv 29 30 30,
   ext 31 29 0 28,
   ext 32 29 1 29,
   asg 8 31 28,
   asg 9 32 29]
abbrev r5_3 : List VOp :=
  [mv 33 7 4,
   zCR 34 33,
   mv 35 34 4,
   zCJ 36 9 29 35,
   zBB 37 36 35,
   zCN 38 35 37,
   mv 39 38 4,
   zCJ 40 8 28 39,
   zQ 41 28 40 4 39,
   zCN 42 39 41]
abbrev r5_4 : List VOp :=
  [zBZ 43 8 4,
   asg 6 43 4]
abbrev r5_5 : List VOp :=
  [zF 10 0 3]
abbrev r5_6 : List VOp :=
  [zJ 11 33]
abbrev r5_7 : List VOp :=
  [zF 12 0 3]
abbrev r5_8 : List VOp :=
  [mv 44 12 3,
   mv 45 1 33,
   zBO 46 45 33,
   zY 47 44 46 4]
abbrev r5_10 : List VOp :=
  [⟨some 13, .assign (.const (.string { data := #[97] })), 9, none⟩]
abbrev r5_11 : List VOp :=
  [mv 50 12 3,
   mv 51 2 3,
   ⟨some 52, .binOp .geq 3 (.tmp 50) (.tmp 51) 3, 4, none⟩]
abbrev r5_12 : List VOp :=
  [⟨some 13, .assign (.const (.string { data := #[98] })), 9, none⟩]
def r5_13 : List (VOp × List Nat) := [(⟨some 53, .move (.tmp 8), 28, none⟩, [8]), (⟨some 54, .move (.tmp 13), 9, none⟩, [13]), (⟨some 55, .load 24 (.tmp 3), 24, none⟩, [3]), (⟨some 56, .move (.tmp 1), 33, none⟩, [1]), (⟨some 57, .move (.tmp 12), 3, none⟩, [12]), (⟨some 58, .indexAddr 33 (.tmp 56) (.tmp 57), 0, none⟩, [56, 57]), (⟨some 59, .load 43 (.tmp 58), 43, none⟩, [58]), (⟨some 60, .call ⟨.value (.func 17), #[.tmp 53, .tmp 54, .tmp 55, .tmp 59], #[28, 9, 24, 43]⟩, 29, none⟩, [53, 54, 55, 59]), (⟨some 61, .binOp .neq 29 (.tmp 60) (.const (.int .i64 0)) 29, 4, none⟩, [60])]
def r5_14 : List (VOp × List Nat) := [(⟨some 62, .move (.tmp 8), 28, none⟩, [8]), (⟨some 63, .load 24 (.tmp 3), 24, none⟩, [3]), (⟨some 64, .move (.tmp 1), 33, none⟩, [1]), (⟨some 65, .move (.tmp 12), 3, none⟩, [12]), (⟨some 66, .indexAddr 33 (.tmp 64) (.tmp 65), 0, none⟩, [64, 65]), (⟨some 67, .load 43 (.tmp 66), 43, none⟩, [66]), (⟨some 68, .call { callee := (.value (.func 17)), args := #[(.tmp 62), (.const (.string { data := #[97, 108, 108] })), (.tmp 63), (.tmp 67)], argTypes := #[28, 9, 24, 43] }, 29, none⟩, [62, 63, 67]), (⟨some 69, .binOp .neq 29 (.tmp 68) (.const (.int .i64 0)) 29, 4, none⟩, [68])]
abbrev r5_15 : List VOp :=
  [zD 6]
abbrev r5_16 : List VOp :=
  [mv 70 11 33,
   mv 71 1 33,
   mv 72 12 3,
   iad 73 33 71 72,
   lda 74 43 73,
   zBM 75 33 74,
   zBN 76 70 75 33 33,
   asg 11 76 33]
abbrev r5_17 : List VOp :=
  [mv 77 12 3,
   mv 78 2 3,
   zY 79 77 78 4]
abbrev r5_18 : List VOp :=
  [mv 80 10 3,
   zK 81 80 1,
   asg 10 81 3]
abbrev r5_9 : List VOp :=
  [mv 48 12 3,
   zK 49 48 1,
   asg 12 49 3]
abbrev r5_19 : List VOp :=
  [mv 83 8 28,
   lda 84 24 3,
   ⟨some 85, .call { callee := (.value (.func 11)), args := #[(.tmp 83), (.const (.string { data := #[97] })), (.tmp 84)], argTypes := #[28, 9, 24] }, 34, none⟩,
   mv 82 85 34,
   ext 86 82 0 33,
   ext 87 82 1 3,
   asg 14 86 33,
   asg 15 87 3]
abbrev r5_20 : List VOp :=
  [mv 89 8 28,
   lda 90 24 3,
   ⟨some 91, .call { callee := (.value (.func 11)), args := #[(.tmp 89), (.const (.string { data := #[98] })), (.tmp 90)], argTypes := #[28, 9, 24] }, 34, none⟩,
   mv 88 91 34,
   ext 92 88 0 33,
   ext 93 88 1 3,
   asg 16 92 33,
   asg 17 93 3]
abbrev r5_21 : List VOp :=
  [mv 95 8 28,
   lda 96 24 3,
   ⟨some 97, .call { callee := (.value (.func 11)), args := #[(.tmp 95), (.const (.string { data := #[97, 108, 108] })), (.tmp 96)], argTypes := #[28, 9, 24] }, 34, none⟩,
   mv 94 97 34,
   ext 98 94 0 33,
   ext 99 94 1 3,
   asg 18 98 33,
   asg 19 99 3]
abbrev r5_22 : List VOp :=
  [mv 100 8 28,
   ⟨some 101, .buildSlice 25 1 #[(0, (.const (.int .u8 128)))], 25, none⟩,
   ⟨some 102, .call { callee := (.value (.func 10)), args := #[(.tmp 100), (.const (.string { data := #[97, 108, 108] })), (.tmp 101)], argTypes := #[28, 9, 25] }, 29, none⟩]
abbrev r5_23 : List VOp :=
  [mv 104 8 28,
   lda 105 24 3,
   ⟨some 106, .call { callee := (.value (.func 11)), args := #[(.tmp 104), (.const (.string { data := #[97, 108, 108] })), (.tmp 105)], argTypes := #[28, 9, 24] }, 34, none⟩,
   mv 103 106 34,
   ext 107 103 0 33,
   ext 108 103 1 3,
   asg 20 107 33,
   asg 21 108 3]
abbrev r5_24 : List VOp :=
  [mv 109 14 33,
   mv 110 11 33,
   mv 111 10 3,
   zCQ 112 33 110 111,
   zBV 113 13 109 112 33 33 4,
   asg 22 113 4]
abbrev r5_25 : List VOp :=
  [mv 114 16 33,
   mv 115 11 33,
   mv 116 10 3,
   zCP 117 33 115 116,
   zBV 118 13 114 117 33 33 4,
   asg 23 118 4]
abbrev r5_26 : List VOp :=
  [mv 119 18 33,
   mv 120 11 33,
   zBV 121 13 119 120 33 33 4,
   asg 24 121 4]
abbrev r5_27 : List VOp :=
  [mv 122 20 33,
   mv 123 11 33,
   zBV 124 13 122 123 33 33 4,
   asg 25 124 4]
abbrev r5_28 : List VOp :=
  [zBZ 125 8 4,
   mv 126 125 4,
   zCK 127 22 4 126,
   zCO 128 126 127,
   mv 129 128 4,
   zCK 130 23 4 129,
   zCO 131 129 130,
   mv 132 131 4,
   zCK 133 24 4 132,
   zCO 134 132 133,
   mv 135 134 4,
   zCK 136 25 4 135,
   zCO 137 135 136,
   mv 138 137 4,
   zCK 139 19 3 138,
   zCK 140 15 3 138,
   zCK 141 17 3 138,
   ⟨some 142, .binOp .add 3 (.tmp 140) (.tmp 141) 3, 3, some (138, true)⟩,
   zR 143 3 139 142 138,
   zCO 144 138 143,
   mv 145 144 4,
   zCK 146 21 3 145,
   zCK 147 19 3 145,
   zR 148 3 146 147 145,
   zCO 149 145 148,
   asg 6 149 4]
def B5 : VC :=
  (.seq (.region r5_0) (.seq (.region r5_1) (.seq (.region r5_2) (.seq (.seq (.region r5_3) (.cond (.tmp 42) (.seq (.region r5_4) .ret) .skip)) (.seq (.region r5_5) (.seq (.region r5_6) (.seq (.seq (.region r5_7) (.block 0 (.loop (.seq (.seq (.region r5_8) (.cond (.tmp 47) .skip (.exit 0))) (.seq (.block 1 (.seq (.region r5_10) (.seq (.seq (.region r5_11) (.cond (.tmp 52) (.region r5_12) .skip)) (.seq (.seq (.draw (dzR r5_13) 3) (.cond (.tmp 61) (.exit 1) .skip)) (.seq (.seq (.draw (dzR r5_14) 3) (.cond (.tmp 69) (.seq (.region r5_15) .ret) .skip)) (.seq (.region r5_16) (.seq (.region r5_17) (.cond (.tmp 79) (.region r5_18) .skip)))))))) (.region r5_9)))))) (.seq (.region r5_19) (.seq (.region r5_20) (.seq (.region r5_21) (.seq (.region r5_22) (.seq (.region r5_23) (.seq (.region r5_24) (.seq (.region r5_25) (.seq (.region r5_26) (.seq (.region r5_27) (.seq (.region r5_28) .ret)))))))))))))))))
theorem code5 : ∃ c, Try.f5.body = some c ∧ abs Try.f5.ntmps c = B5 := ⟨_, rfl, by kernel_rfl⟩
theorem hb5 : HasBody Try.prog 5 := hasBody_of Try.func5 (by kernel_rfl)
theorem enter5 (x0 x1 x2 : Value) : Ent 5 B5 #[(.tmp 6)] [x0, x1, x2] := ent code5 hb5 Try.func5 rfl rfl
@[push_cast] def vr5_13 := vzD r5_13.eq_1 rfl 3
@[push_cast] def vr5_14 := vzD r5_14.eq_1 rfl 3
/-! 6 columbary/columbarylaw19.JournalKept (params #[24, 33, 53], results #[(.tmp 6)], 133 slots) -/
@[push_cast] def W6_0 : List Nat := [6, 10, 11, 12, 13, 14, 48, 49, 50, 51, 52, 53, 54, 55, 56, 57, 58, 59, 60, 61, 62, 63, 64, 65, 66, 67, 68, 69, 70, 71, 72, 73, 74, 75, 76, 77, 78, 79, 80, 81, 82, 83, 84, 85, 86, 87, 88, 89, 90, 91, 92, 93]
abbrev r6_0 : List VOp :=
  [zBJ 3 24 0 0,
   zBJ 5 53 2 0,
   zD 6]
abbrev r6_1 : List VOp :=
  [lda 18 24 3,
   mv 19 1 33,
   zBV 20 7 18 19 24 33 4,
   asg 7 20 4]
abbrev r6_2 : List VOp :=
  [zBR 22 16777216,
   mv 21 22 30,
   ext 23 21 0 28,
   ext 24 21 1 29,
   asg 8 23 28,
   asg 9 24 29]
abbrev r6_3 : List VOp :=
  [mv 25 7 4,
   zCR 26 25,
   mv 27 26 4,
   zCJ 28 9 29 27,
   zBB 29 28 27,
   zCN 30 27 29,
   mv 31 30 4,
   zCJ 32 8 28 31,
   zQ 33 28 32 4 31,
   zCN 34 31 33]
abbrev r6_4 : List VOp :=
  [zBZ 35 8 4,
   asg 6 35 4]
abbrev r6_5 : List VOp :=
  [zCE 36 53 5 0,
   lda 37 3 36,
   zS 38 37 0,
   mv 39 38 4,
   zCF 40 53 5 0 39,
   zCH 41 3 40 39,
   zW 42 41 100 39,
   zCO 43 39 42]
abbrev r6_6 : List VOp :=
  [mv 44 8 28,
   zCE 45 53 5 0,
   lda 46 3 45,
   zBV 47 18 44 46 28 3 29]
abbrev r6_7 : List VOp :=
  [zJ 10 33,
   zJ 11 33]
abbrev r6_8 : List VOp :=
  [zF 12 0 3]
abbrev r6_9 : List VOp :=
  [mv 48 12 3,
   mv 49 1 33,
   zBO 50 49 33,
   zY 51 48 50 4]
def r6_11 : List (VOp × List Nat) := [(⟨some 54, .load 24 (.tmp 3), 24, none⟩, [3]), (⟨some 55, .move (.tmp 1), 33, none⟩, [1]), (⟨some 56, .move (.tmp 12), 3, none⟩, [12]), (⟨some 57, .indexAddr 33 (.tmp 55) (.tmp 56), 0, none⟩, [55, 56]), (⟨some 58, .load 43 (.tmp 57), 43, none⟩, [57]), (⟨some 59, .call ⟨.value (.func 19), #[.tmp 54, .tmp 58], #[24, 43]⟩, 4, none⟩, [54, 58]), (⟨some 13, .assign (.tmp 59), 4, none⟩, [59])]
def r6_12 : List (VOp × List Nat) := [(⟨some 60, .move (.tmp 8), 28, none⟩, [8]), (⟨some 61, .load 24 (.tmp 3), 24, none⟩, [3]), (⟨some 62, .move (.tmp 1), 33, none⟩, [1]), (⟨some 63, .move (.tmp 12), 3, none⟩, [12]), (⟨some 64, .indexAddr 33 (.tmp 62) (.tmp 63), 0, none⟩, [62, 63]), (⟨some 65, .load 43 (.tmp 64), 43, none⟩, [64]), (⟨some 66, .call { callee := (.value (.func 17)), args := #[(.tmp 60), (.const (.string { data := #[108, 111, 103] })), (.tmp 61), (.tmp 65)], argTypes := #[28, 9, 24, 43] }, 29, none⟩, [60, 61, 65]), (⟨some 14, .assign (.tmp 66), 29, none⟩, [66])]
abbrev r6_13 : List VOp :=
  [mv 67 13 4,
   zCR 68 67]
abbrev r6_14 : List VOp :=
  [mv 69 14 29,
   zBA 70 69 191]
abbrev r6_15 : List VOp :=
  [zD 6]
abbrev r6_16 : List VOp :=
  [mv 71 11 33,
   mv 72 1 33,
   mv 73 12 3,
   iad 74 33 72 73,
   lda 75 43 74,
   zBM 76 33 75,
   zBN 77 71 76 33 33,
   asg 11 77 33]
abbrev r6_17 : List VOp :=
  [mv 78 14 29,
   zM 79 29 78 0]
abbrev r6_18 : List VOp :=
  [mv 80 10 33,
   mv 81 1 33,
   mv 82 12 3,
   iad 83 33 81 82,
   lda 84 43 83,
   zBM 85 33 84,
   zBN 86 80 85 33 33,
   asg 10 86 33]
abbrev r6_19 : List VOp :=
  [mv 87 14 29,
   zBA 88 87 272,
   mv 89 88 4,
   zCJ 90 8 28 89,
   zBY 91 20 90 28 4 89,
   zCS 92 91 89,
   zCN 93 89 92]
abbrev r6_20 : List VOp :=
  [zD 6]
abbrev r6_10 : List VOp :=
  [mv 52 12 3,
   zK 53 52 1,
   asg 12 53 3]
abbrev r6_21 : List VOp :=
  [mv 94 8 28,
   zCE 95 53 5 1,
   lda 96 3 95,
   zBV 97 21 94 96 28 3 28,
   asg 15 97 28]
abbrev r6_22 : List VOp :=
  [mv 99 15 28,
   lda 100 24 3,
   ⟨some 101, .call { callee := (.value (.func 11)), args := #[(.tmp 99), (.const (.string { data := #[108, 111, 103] })), (.tmp 100)], argTypes := #[28, 9, 24] }, 34, none⟩,
   mv 98 101 34,
   ext 102 98 0 33,
   ext 103 98 1 3,
   asg 16 102 33,
   asg 17 103 3]
abbrev r6_23 : List VOp :=
  [mv 104 16 33,
   zBO 105 104 33,
   mv 106 10 33,
   zBO 107 106 33,
   zY 108 105 107 4,
   mv 109 108 4,
   zCJ 110 16 33 109,
   zBP 111 110 33 109,
   zCJ 112 10 33 109,
   zBP 113 112 33 109,
   ⟨some 114, .binOp .add 3 (.tmp 113) (.const (.int .i64 1)) 3, 3, some (109, false)⟩,
   zV 115 111 114 109,
   zCN 116 109 115,
   mv 117 116 4,
   zCJ 118 16 33 117,
   zBP 119 118 33 117,
   zCJ 120 11 33 117,
   zBP 121 120 33 117,
   zV 122 119 121 117,
   zCN 123 117 122]
abbrev r6_24 : List VOp :=
  [zD 6]
abbrev r6_25 : List VOp :=
  [zBZ 124 8 4,
   mv 125 124 4,
   zCK 126 16 33 125,
   zCK 127 11 33 125,
   zCK 128 16 33 125,
   zBQ 129 128 33 125,
   ⟨some 130, .slice 33 (.tmp 127) none (some (.tmp 129)) none, 33, some (125, true)⟩,
   zBW 131 13 126 130 33 33 4 125,
   zCO 132 125 131,
   asg 6 132 4]
def B6 : VC :=
  (.seq (.region r6_0) (.seq (.region r6_1) (.seq (.region r6_2) (.seq (.seq (.region r6_3) (.cond (.tmp 34) (.seq (.region r6_4) .ret) .skip)) (.seq (.seq (.region r6_5) (.cond (.tmp 43) (.region r6_6) .skip)) (.seq (.region r6_7) (.seq (.seq (.region r6_8) (.block 0 (.loop (.seq (.seq (.region r6_9) (.cond (.tmp 51) .skip (.exit 0))) (.seq (.block 1 (.seq (.draw (dzR r6_11) 3) (.seq (.draw (dzR r6_12) 3) (.seq (.seq (.region r6_13) (.cond (.tmp 68) (.seq (.seq (.region r6_14) (.cond (.tmp 70) (.seq (.region r6_15) .ret) .skip)) (.exit 1)) .skip)) (.seq (.region r6_16) (.seq (.region r6_17) (.cond (.tmp 79) (.region r6_18) (.seq (.region r6_19) (.cond (.tmp 93) (.seq (.region r6_20) .ret) .skip))))))))) (.region r6_10)))))) (.seq (.region r6_21) (.seq (.region r6_22) (.seq (.seq (.region r6_23) (.cond (.tmp 123) (.seq (.region r6_24) .ret) .skip)) (.seq (.region r6_25) .ret)))))))))))
theorem code6 : ∃ c, Try.f6.body = some c ∧ abs Try.f6.ntmps c = B6 := ⟨_, rfl, by kernel_rfl⟩
theorem hb6 : HasBody Try.prog 6 := hasBody_of Try.func6 (by kernel_rfl)
theorem enter6 (x0 x1 x2 : Value) : Ent 6 B6 #[(.tmp 6)] [x0, x1, x2] := ent code6 hb6 Try.func6 rfl rfl
@[push_cast] def vr6_11 := vzD r6_11.eq_1 rfl 3
@[push_cast] def vr6_12 := vzD r6_12.eq_1 rfl 3
@[push_cast] theorem bsl25_1_CodesJL {K : Value → World → Prop} {w : World} (x0 : Int) : vBuildSlice Try.prog 25 1 #[(0, (.int .u8 x0))] K w = K (.slice (some ⟨w.heap.size, 0, none⟩) 1 1) (w.alloc (.cells #[(.int .u8 x0)] 5)) :=
  vBuildSlice_ok Try.underlying25 ti5 (by kernel_rfl) (by decide)
@[push_cast] theorem bsl33_1_CodesJL {K : Value → World → Prop} {w : World} (x00 x01 x02 x03 x04 : Value) : vBuildSlice Try.prog 33 1 #[(0, (.agg #[x00, x01, x02, x03, x04]))] K w = K (.slice (some ⟨w.heap.size, 0, none⟩) 1 1) (w.alloc (.cells #[x00, x01, x02, x03, x04] 43)) :=
  vBuildSlice_ok Try.underlying33 ti43 (by kernel_rfl) (by decide)
end Go.Proofs.Ytcajkjbempagaaa
end
section
set_option linter.unusedSimpArgs false
namespace Go.Proofs.Ytcajkjbempagaaa
open Go.Vc Go.Zig Go.Key Go.Vlt Go.Chk
set_option maxRecDepth 100000
theorem esame_c (u v : Value) (a b : List Ej) (w : World) (hu : RecS ejC 5 w u a) (hv : RecS ejC 5 w v b) (ha : ∀ x ∈ a, EjIs w x) (hb : ∀ x ∈ b, EjIs w x) : FnC Try.prog 13 #[u, v] w fun r w' => (∃ t, r = .bool t ∧ (t = true ↔ a.map Ej.e = b.map Ej.e)) ∧ Later w w' := by
  obtain ⟨oa, ca, rfl, g1, g2⟩ := hu.slice
  obtain ⟨ob, cb, rfl, k1, k2⟩ := hv.slice
  refine enter13 _ _ ?_
  unfold B13
  by_cases hlen : a.length = b.length
  case neg =>
    have hne : a.map Ej.e ≠ b.map Ej.e := fun e => by
      have := congrArg List.length e
      simp at this
      exact hlen this
    repeat' (first | (simp (disch := omega) only [push_cast, seval]) | refine iX ?_ ?_ <;> intros | refine aI (by omega) ?_ | refine dq ?_)
    all_goals first | exact ⟨⟨false, rfl, by simp [hne]⟩, Later.refl _⟩ | (exfalso; omega)
  repeat' (first | (simp (disch := omega) only [push_cast, seval]) | refine iX ?_ ?_ <;> intros | refine aI (by omega) ?_ | refine dq ?_)
  all_goals first | (exfalso; omega) | skip
  refine vc_loop W13_0 (fun i : Nat => [(5, .int .i64 (i : Int))])
    (fun i w' => i ≤ a.length ∧ Later w w' ∧ (a.take i).map Ej.e = (b.take i).map Ej.e) (fun i => a.length - i) 0 (by decide) ?_ ?_ ?_
  · simp (disch := omega) only [push_cast, seval]
  · exact ⟨by omega, Later.refl _, by simp⟩
  rintro i uu w0 ⟨hi, hl, he⟩
  by_cases hia : i < a.length
  · have hib : i < b.length := by omega
    obtain ⟨aa, rfl, c1⟩ := RecS.at ejC_len (hu.later hl) hia
    obtain ⟨bb, rfl, c2⟩ := RecS.at ejC_len (hv.later hl) hib
    have h1 := (ha _ (List.getElem_mem hia)).later hl
    have h2 := (hb _ (List.getElem_mem hib)).later hl
    have hne : ¬ a[i].e = b[i].e → a.map Ej.e ≠ b.map Ej.e := fun hab e => by
      have := congrArg (fun l => l[i]?) e
      simp [hia, hib] at this
      exact hab this
    have hta : (a.take (i + 1)).map Ej.e = (a.take i).map Ej.e ++ [a[i].e] := by rw [take_snoc a i hia, List.map_append]; rfl
    have htb : (b.take (i + 1)).map Ej.e = (b.take i).map Ej.e ++ [b[i].e] := by rw [take_snoc b i hib, List.map_append]; rfl
    generalize a[i] = x at *
    generalize b[i] = y at *
    repeat' (first | (simp (disch := omega) only [push_cast, seval]) | refine iX ?_ ?_ <;> intros | refine aI (by omega) ?_ | fail)
    refine drawn_k 8 ?_
    repeat' (first | (simp (disch := omega) only [push_cast, seval, c1, c2]) | refine iX ?_ ?_ <;> intros | refine aI (by omega) ?_ | fail)
    intro w1 l1
    refine (eone_c x y w1 (h1.later l1) (h2.later l1)).mono ?_
    rintro _ w2 ⟨⟨t, rfl, ht⟩, l2⟩
    cases t with
    | false =>
      have hab : ¬ x.e = y.e := fun e => by have := ht.2 e; cases this
      repeat' (first | (simp (disch := omega) only [push_cast, seval]) | refine iX ?_ ?_ <;> intros | refine aI (by omega) ?_ | refine dq ?_)
      exact ⟨⟨false, rfl, by simp [hne hab]⟩, (hl.trans l1).trans l2⟩
    | true =>
      have hab := ht.1 rfl
      repeat' (first | (simp (disch := omega) only [push_cast, seval]) | refine iX ?_ ?_ <;> intros | refine aI (by omega) ?_ | refine dq ?_)
      exact ⟨rfl, i + 1, by simp (disch := omega) only [push_cast, seval], ⟨by omega, (hl.trans l1).trans l2, by rw [hta, htb, he, hab]⟩, by dsimp only; omega⟩
  · have e : i = a.length := by omega
    subst e
    rw [List.take_length, hlen, List.take_length] at he
    repeat' (first | (simp (disch := omega) only [push_cast, seval]) | refine iX ?_ ?_ <;> intros | refine aI (by omega) ?_ | refine dq ?_)
    exact ⟨⟨true, rfl, by simp [he]⟩, hl⟩
end Go.Proofs.Ytcajkjbempagaaa
end
