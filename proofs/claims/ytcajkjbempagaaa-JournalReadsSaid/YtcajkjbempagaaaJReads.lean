/- JournalReads: of any file the entries that it begins with, and how many bytes they have, are as the document says; no conditions beyond the statement's own. -/
import Derived.Test.YtcajkjbempagaaaRows
import Derived.Test.YtcajkjbempagaaaPartL
set_option linter.all false
set_option linter.unusedSimpArgs false
namespace Go.Proofs.Ytcajkjbempagaaa.journalReads
open Go.Vc Go.Zig Go.Key Go.Vlt Go.Chk Go.RowKit Go.ChangeShapes Go.WideShapes Go.ChangeAt Go.Proofs.Ytcajkjbempagaaa
set_option maxRecDepth 100000
abbrev kF : ByteArray := ⟨#[102]⟩
abbrev kG : ByteArray := ⟨#[103]⟩
theorem inB_arg {w : World} {v : Value} {xs : List Value} (h : Sl w v xs) {bk : Nat} (hb : w.heap.size ≤ bk) : ∃ j, inB j v ∧ j ≠ bk := by
  rcases inB_lt h with h1 | ⟨k, h1, h2⟩
  · exact ⟨bk + 1, h1 _, by omega⟩
  · exact ⟨k, h2, by omega⟩
/-- Raw bytes appended to a new file. -/
theorem app_new (b : List UInt8) (hb : b.length ≤ 600) : (aApp kF b (s0 1000)).1 = 0 ∧ oB kF (aApp kF b (s0 1000)).2.L = b ∧ oB kG (aApp kF b (s0 1000)).2.L = [] := by
  have hn : nmOk kF = true := by kernel_rfl
  have e : aApp kF b (s0 1000) = (0, ⟨1000, brn (-1), lPut ⟨kF, oB kF [] ++ b, oS kF []⟩ []⟩) := by
    unfold aApp
    have t0 : tl (s0 1000).L = 0 := rfl
    have r0 : (s0 1000).room = 1000 := rfl
    have l0 : (s0 1000).L.length = 0 := rfl
    have f0 : brn (s0 1000).fuse = -1 := rfl
    rw [hn, if_neg (by simp), f0, if_neg (by omega), if_neg (by omega)]
    rfl
  rw [e]
  exact ⟨rfl, rfl, rfl⟩
set_option maxHeartbeats 4000000 in
theorem law_c (dv mv bv : Value) (d m : List ByteArray) (b : List UInt8) (w : World) (h : ScIs w dv mv d m) (hb : Sl w bv (b.map u8v)) :
    FnC Try.prog 3 #[scV dv mv, bv] w fun v w' => v = .bool true ∧ Later w w' := by
  unfold scV
  obtain ⟨bo, bc, rfl⟩ := Sl.slice hb
  rw [List.length_map] at hb ⊢
  refine enter3 _ _ ?_
  unfold B3
  obtain ⟨l1, s1, F⟩ := box2 w dv mv 24
  have eca : (Value.agg #[dv, mv]).cells = #[dv, mv] := rfl
  repeat' (first | (simp (disch := omega) only [push_cast, seval, eca, s1]) | refine iX ?_ ?_ <;> intros | refine aI (by omega) ?_ | fail)
  generalize w.alloc (.cells #[dv, mv] 24) = w1 at *
  obtain ⟨f0, f1, f2⟩ := F w1 (Later.refl _)
  repeat' (first | (simp (disch := omega) only [push_cast, seval, f2]) | refine iX ?_ ?_ <;> intros | refine aI (by omega) ?_ | refine dq ?_)
  refine (fits19_c dv mv _ d m [] w1 (h.later l1) (RecS.nil _) (by intro x hx; cases hx)).mono ?_
  rintro _ w2 ⟨⟨t, rfl, ht⟩, l2⟩
  have l02 := l1.trans l2
  cases t with
  | false =>
    repeat' (first | (simp (disch := omega) only [push_cast, seval]) | refine iX ?_ ?_ <;> intros | refine aI (by omega) ?_ | refine dq ?_)
    refine (alive19_c w2).mono ?_
    rintro _ w9 ⟨rfl, l9⟩
    repeat' (first | (simp (disch := omega) only [push_cast, seval]) | refine iX ?_ ?_ <;> intros | refine aI (by omega) ?_ | refine dq ?_)
    exact l02.trans l9
  | true =>
  obtain ⟨_, hd, hm, _, _⟩ := ht.1 rfl
  have hd1 : d.length ≤ 20 := hd.1
  have hm1 : m.length ≤ 20 := hm.1
  by_cases hlen : 600 < b.length
  · have d1 : decide ((600 : Int) < (b.length : Int)) = true := decide_eq_true (by omega)
    repeat' (first | (simp (disch := omega) only [push_cast, seval, d1]) | refine iX ?_ ?_ <;> intros | refine aI (by omega) ?_ | refine dq ?_)
    refine (alive19_c w2).mono ?_
    rintro _ w9 ⟨rfl, l9⟩
    repeat' (first | (simp (disch := omega) only [push_cast, seval]) | refine iX ?_ ?_ <;> intros | refine aI (by omega) ?_ | refine dq ?_)
    exact l02.trans l9
  have d1 : decide ((600 : Int) < (b.length : Int)) = false := decide_eq_false (by omega)
  repeat' (first | (simp (disch := omega) only [push_cast, seval, d1]) | refine iX ?_ ?_ <;> intros | refine aI (by omega) ?_ | refine dq ?_)
  refine (new_s 1000 w2 (by omega)).mono ?_
  rintro _ w3 ⟨⟨_, hno⟩ | ⟨_, _, bk, r, hbk, hr, rfl, V3⟩, l3⟩
  · exact absurd (by omega) hno
  have G3 : Good (s0 1000) := s0_good (by omega)
  have l03 := l02.trans l3
  have hsz := l02.size
  obtain ⟨a1, a2, a3⟩ := app_new b (by omega)
  repeat' (first | (simp (disch := omega) only [push_cast, seval]) | refine iX ?_ ?_ <;> intros | refine aI (by omega) ?_ | refine dq ?_)
  refine (append_s bk r (s0 1000) kF _ b w3 V3 G3 (by decide) (Sl.later hb l03) (inB_arg hb (by omega)) (by omega)).mono ?_
  rintro _ w4 ⟨rfl, V4, c4⟩
  have G4 : Good (aApp kF b (s0 1000)).2 := aApp_good G3 _ _
  have l4 : Later w w4 := Chg.later l03 c4 (by intro k hk; simp at hk; omega)
  have l14 : Later w1 w4 := Chg.later (l2.trans l3) c4 (by intro k hk; have := l2.size; simp at hk; omega)
  rw [a1]
  generalize (aApp kF b (s0 1000)).2 = sA at *
  obtain ⟨f0, f1, f2⟩ := F w4 l14
  repeat' (first | (simp (disch := omega) only [push_cast, seval, f2]) | refine iX ?_ ?_ <;> intros | refine aI (by omega) ?_ | refine dq ?_)
  refine (jread_c bk r sA kF dv mv d m w4 V4 G4 (h.later l4) (by omega) (by omega) (by rw [a2]; omega)).mono ?_
  rw [a2]
  rintro _ w5 ⟨⟨xv, xs, rfl, hxo, hxs, hxm⟩, l5⟩
  have l45 := l4.trans l5
  obtain ⟨f0, f1, f2⟩ := F w5 (l14.trans l5)
  repeat' (first | (simp (disch := omega) only [push_cast, seval, f2]) | refine iX ?_ ?_ <;> intros | refine aI (by omega) ?_ | refine dq ?_)
  refine (entries_c dv mv _ d m b w5 (h.later l45) (by omega) (by omega) (Sl.later hb l45) (by omega)).mono ?_
  rintro _ w6 ⟨⟨yv, ys, rfl, hyo, hys, hym⟩, l6⟩
  have l46 := l45.trans l6
  obtain ⟨f0, f1, f2⟩ := F w6 ((l14.trans l5).trans l6)
  repeat' (first | (simp (disch := omega) only [push_cast, seval, f2]) | refine iX ?_ ?_ <;> intros | refine aI (by omega) ?_ | refine dq ?_)
  refine (jread_c bk r sA kG dv mv d m w6 (V4.later (l5.trans l6)) G4 (h.later l46) (by omega) (by omega) (by rw [a3]; simp)).mono ?_
  have hn0 : rdE d.length m.length [] = ([], 0) := rdE_none (by decide)
  rw [a3]
  rintro _ w7 ⟨⟨zv, zs, rfl, hzo, hzs, hzm⟩, l7⟩
  rw [hn0] at hzm ⊢
  have l47 := l46.trans l7
  have hz0 : zs = [] := by simpa using hzm
  subst hz0
  obtain ⟨zo, zc, rfl⟩ := own_form hzo
  have hx7 := hxo.later (l6.trans l7)
  have hy7 := hyo.later l7
  have hxs7 : ∀ e ∈ xs, EjIs w7 e := fun e he => ((hxs e he).later (l6.trans l7)).is
  have hys7 : ∀ e ∈ ys, EjIs w7 e := fun e he => ((hys e he).later l7).is
  repeat' (first | (simp (disch := omega) only [push_cast, seval]) | refine iX ?_ ?_ <;> intros | refine aI (by omega) ?_ | refine dq ?_)
  refine (esame_c xv yv xs ys w7 (OwnR.s hx7) (OwnR.s hy7) hxs7 hys7).mono ?_
  rintro _ w8 ⟨⟨t, rfl, htt⟩, l8⟩
  have htt : t = true := htt.2 (by rw [hxm, hym])
  subst htt
  repeat' (first | (simp (disch := omega) only [push_cast, seval]) | refine iX ?_ ?_ <;> intros | refine aI (by omega) ?_ | refine dq ?_)
  refine (alive19_c w8).mono ?_
  rintro _ w9 ⟨rfl, l9⟩
  have hdd : ∀ n : Nat, decide ((n : Int) = (n : Int)) = true := fun n => decide_eq_true rfl
  have z0 : (([] : List Ej).length : Int) = 0 := rfl
  repeat' (first | (simp (disch := omega) only [push_cast, seval, hdd, z0]) | refine iX ?_ ?_ <;> intros | refine aI (by omega) ?_ | refine dq ?_)
  exact l47.trans (l8.trans l9)
theorem own : ownKnob Try.prog.godebug = none := by kernel_rfl
theorem lifted (os : Os) (started : os.Started) (H : Type) (enc : TypeId × Value → H) :
    ReturnsInHanded {} Try.checked os 3 .any (Rows.journalReadsSpec.pre6 enc Try.prog Try.f3 Rows.journalReadsRow.domain false) (Rows.journalReadsSpec.post enc Try.prog Try.f3 false true false false) := by
  refine lifted_later (C := Try.checked) own started (by kernel_rfl) Try.func3 hb3
    (ChangeSpec.witness6 (enc := enc) (C := Try.checked) false ⟨#[], #[.agg #[.slice none 0 0, .slice none 0 0], .slice none 0 0], []⟩ 3 (by kernel_rfl) (by kernel_rfl) (by kernel_rfl) (by kernel_rfl))
    (by kernel_rfl) (list_all (by kernel_rfl)) (by kernel_rfl) Try.underlying4 rfl ?_ ?_
  · intro ds h
    have h : ds.length = 2 := h
    match ds, h with
    | [_, _], _ => rfl
  · intro W base args ds p hval0 hA0
    have hval : ∀ (j : Nat) t v, Try.f3.params[j]? = some t → args[j]? = some v → Value.okWide Try.prog W .any base t v := hval0
    have hA : DataW.TrodAll enc Try.prog W 0 (fun _ => true) true Try.f3.params.toList args.toList ds p := hA0
    rw [Try.params3] at hA hval
    obtain ⟨v0, vs0, d0, ds0, p0, q0, hargs, rfl, rfl, h0, r0⟩ := trodAll_cons hA
    obtain ⟨v1, vs1, d1, ds1, p1, q1, rfl, rfl, rfl, h1, r1⟩ := trodAll_cons r0
    obtain ⟨rfl, rfl, rfl⟩ := trodAll_nil r1
    obtain rfl : args = #[v0, v1] := by cases args; simp_all
    obtain ⟨a0, rfl, w0⟩ := open_schema (hval 0 24 v0 rfl rfl) h0
    obtain ⟨a1, w1⟩ := open_u8s Try.underlying25 Try.underlying5 (by kernel_rfl) (hval 1 25 v1 rfl rfl) h1
    exact law_c _ _ v1 _ _ a1 W w0 w1
theorem over : Rows.journalReadsRow.holds Try.pinned (OpenSpec.ofChange Rows.journalReadsSpec) :=
  OpenClaim.holds_of_wide 3 Try.f3 rfl rfl rfl rfl rfl rfl rfl ⟨rfl, rfl, rfl, rfl, rfl⟩ rfl rfl rfl rfl rfl (by kernel_rfl) Try.func3 (by kernel_rfl)
    (of_decide_eq_true (by kernel_rfl)) (by unfold Func.isWrapper; first | (rw [if_pos (by decide +kernel)]; kernel_rfl) | (rw [if_neg (by decide +kernel)]; exact ⟨rfl, rfl⟩))
    (fun os started H enc _ => lifted os started H enc)
/-- The statement. -/
theorem proved : Rows.JournalReadsSaid :=
  over
end Go.Proofs.Ytcajkjbempagaaa.journalReads
