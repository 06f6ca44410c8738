/- JournalBack: an entry's bytes are decoded as it; two have the same just if they are one; fewer bytes are none; no conditions beyond the statement's own. -/
import Derived.Test.YtcajkjbempagaaaRows
import Derived.Test.YtcajkjbempagaaaPartL
set_option linter.all false
set_option linter.unusedSimpArgs false
namespace Go.Proofs.Ytcajkjbempagaaa.journalBack
open Go.Vc Go.Zig Go.Key Go.RowKit Go.ChangeShapes Go.WideShapes Go.ChangeAt Go.Proofs.Ytcajkjbempagaaa
set_option maxRecDepth 100000
def PtV (w0 : World) (e : TypeId) (cs : Array Value) (v : Value) (w : World) : Prop := ∃ b, v = .pointer (some ⟨b, 0, none⟩) ∧ w0.heap.size ≤ b ∧ Blk w b cs e
theorem stb_pt (w0 w1 : World) (e : TypeId) (cs : Array Value) : Stb w1 (PtV w0 e cs) := by
  rintro v w w' _ hl ⟨b, h1, h2, h3⟩
  exact ⟨b, h1, h2, h3.chg (Chg.of_later (ks := []) hl) (by simp)⟩
theorem and_rng (n : Int) : 0 ≤ bitI .and .i64 n 1023 ∧ bitI .and .i64 n 1023 ≤ 1023 := by
  have h1 : (BitVec.ofInt 64 n &&& BitVec.ofInt 64 1023).toNat ≤ 1023 := by
    rw [BitVec.toNat_and]
    exact Nat.and_le_right
  have h2 : bitI .and .i64 n 1023 = IntKind.i64.wrap (((BitVec.ofInt 64 n &&& BitVec.ofInt 64 1023).toNat : Nat) : Int) := rfl
  rw [h2, wrap_i64 (by omega)]
  omega
set_option maxHeartbeats 4000000 in
theorem law_c (dv mv : Value) (d m : List ByteArray) (x y : Ej) (cut : Int) (w : World) (h : ScIs w dv mv d m) (hx : EjQ w x) (hy : EjQ w y) (hc : -9223372036854775808 ≤ cut ∧ cut ≤ 9223372036854775807) :
    FnC Try.prog 4 #[scV dv mv, .agg (ejC x ++ ejC y).toArray, .int .i64 cut] w fun v w' => v = .bool true ∧ Later w w' := by
  unfold scV
  refine enter4 _ _ _ ?_
  unfold B4
  have eca : (Value.agg #[dv, mv]).cells = #[dv, mv] := rfl
  have ecb : (Value.agg (ejC x ++ ejC y).toArray).cells = (ejC x ++ ejC y).toArray := rfl
  obtain ⟨l1, s1, F1⟩ := box2 w dv mv 24
  have B2 := Blk.new (w.alloc (.cells #[dv, mv] 24)) (ejC x ++ ejC y).toArray 44
  have l2 := later_alloc (w.alloc (.cells #[dv, mv] 24)) (.cells (ejC x ++ ejC y).toArray 44)
  rw [s1] at B2
  repeat' (first | (simp (disch := omega) only [push_cast, seval, eca, ecb, s1]) | refine iX ?_ ?_ <;> intros | refine aI (by omega) ?_ | fail)
  have l01 := l1.trans l2
  have FS : ∀ w', Later ((w.alloc (.cells #[dv, mv] 24)).alloc (.cells (ejC x ++ ejC y).toArray 44)) w' → cellsAt w' ⟨w.heap.size, 0, none⟩ 2 = some [dv, mv] := fun w' hl => (F1 w' (l2.trans hl)).2.2
  clear F1 l1 l2 s1
  generalize (w.alloc (.cells #[dv, mv] 24)).alloc (.cells (ejC x ++ ejC y).toArray 44) = w1 at *
  generalize hkf : w.heap.size = kf at *
  have FB : ∀ w', Later w1 w' → Blk w' (kf + 1) (ejC x ++ ejC y).toArray 44 := fun w' hl => B2.chg (Chg.of_later (ks := []) hl) (by simp)
  have fs := FS w1 (Later.refl _)
  refine drawn_k 2 ?_
  repeat' (first | (simp (disch := omega) only [push_cast, seval, fs]) | refine iX ?_ ?_ <;> intros | refine aI (by omega) ?_ | fail)
  refine qX_slArr (n := 2) (a := ⟨kf + 1, 0, none⟩) Try.underlying44 sz43 (by simp (disch := omega) only [push_cast, seval]) ?_
  repeat' (first | (simp (disch := omega) only [push_cast, seval, fs]) | refine iX ?_ ?_ <;> intros | refine aI (by omega) ?_ | fail)
  intro w2 l2
  have l02 := l01.trans l2
  have hJ := recJ2 (FB w2 l2)
  have hes : ∀ z ∈ [x, y], EjIs w2 z ∧ StZ z.e.d := by
    intro z hz
    simp only [List.mem_cons, List.not_mem_nil, or_false] at hz
    rcases hz with rfl | rfl
    · exact ⟨hx.1.later l02, hx.2⟩
    · exact ⟨hy.1.later l02, hy.2⟩
  refine (fits19_c dv mv _ d m [x, y] w2 (h.later l02) hJ hes).mono ?_
  rintro _ w3 ⟨⟨t, rfl, ht⟩, l3⟩
  have l03 := l02.trans l3
  have l13 := l2.trans l3
  cases t with
  | false =>
    repeat' (first | (simp (disch := omega) only [push_cast, seval]) | refine iX ?_ ?_ <;> intros | refine aI (by omega) ?_ | refine dq ?_)
    refine (alive19_c w3).mono ?_
    rintro _ w9 ⟨rfl, l9⟩
    repeat' (first | (simp (disch := omega) only [push_cast, seval]) | refine iX ?_ ?_ <;> intros | refine aI (by omega) ?_ | refine dq ?_)
    exact l03.trans l9
  | true =>
  obtain ⟨_, hd, hm, hz, _⟩ := ht.1 rfl
  have hxz := hz x (by simp)
  have hyz := hz y (by simp)
  have nx1 : x.e.d.length ≤ 20 := hxz.1.1
  have ny1 : y.e.d.length ≤ 20 := hyz.1.1
  have hd1 : d.length ≤ 20 := hd.1
  have hm1 : m.length ≤ 20 := hm.1
  have fs := FS w3 l13
  obtain ⟨fx, fy⟩ := atJ2 (FB w3 l13)
  repeat' (first | (simp (disch := omega) only [push_cast, seval, fs, fx, fy, addr_add_eq, Nat.zero_add]) | refine iX ?_ ?_ <;> intros | refine aI (by omega) ?_ | refine dq ?_)
  refine (encode_c dv mv d m x w3 (h.later l03) (hx.1.later l03) (by omega) (by omega)).mono ?_
  rintro _ w4 ⟨hex, l4⟩
  have l04 := l03.trans l4
  have l14 := l13.trans l4
  have fs := FS w4 l14
  obtain ⟨fx, fy⟩ := atJ2 (FB w4 l14)
  rcases hex with ⟨hrx, rfl⟩ | ⟨hrx, xv, rfl, hxv⟩
  · repeat' (first | (simp (disch := omega) only [push_cast, seval, fs, fx, fy, addr_add_eq, Nat.zero_add]) | refine iX ?_ ?_ <;> intros | refine aI (by omega) ?_ | refine dq ?_)
    refine (encode_c dv mv d m y w4 (h.later l04) (hy.1.later l04) (by omega) (by omega)).mono ?_
    rintro _ w5 ⟨hey, l5⟩
    rcases hey with ⟨_, rfl⟩ | ⟨_, yv, rfl, hyv⟩
    · repeat' (first | (simp (disch := omega) only [push_cast, seval]) | refine iX ?_ ?_ <;> intros | refine aI (by omega) ?_ | refine dq ?_)
      refine (alive19_c w5).mono ?_
      rintro _ w9 ⟨rfl, l9⟩
      repeat' (first | (simp (disch := omega) only [push_cast, seval]) | refine iX ?_ ?_ <;> intros | refine aI (by omega) ?_ | refine dq ?_)
      exact (l04.trans l5).trans l9
    · repeat' (first | (simp (disch := omega) only [push_cast, seval]) | refine iX ?_ ?_ <;> intros | refine aI (by omega) ?_ | refine dq ?_)
      refine (alive19_c w5).mono ?_
      rintro _ w9 ⟨rfl, l9⟩
      repeat' (first | (simp (disch := omega) only [push_cast, seval]) | refine iX ?_ ?_ <;> intros | refine aI (by omega) ?_ | refine dq ?_)
      exact (l04.trans l5).trans l9
  repeat' (first | (simp (disch := omega) only [push_cast, seval, fs, fx, fy, addr_add_eq, Nat.zero_add]) | refine iX ?_ ?_ <;> intros | refine aI (by omega) ?_ | refine dq ?_)
  refine (encode_c dv mv d m y w4 (h.later l04) (hy.1.later l04) (by omega) (by omega)).mono ?_
  rintro _ w5 ⟨hey, l5⟩
  have l05 := l04.trans l5
  have l15 := l14.trans l5
  rcases hey with ⟨_, rfl⟩ | ⟨hry, yv, rfl, hyv⟩
  · repeat' (first | (simp (disch := omega) only [push_cast, seval]) | refine iX ?_ ?_ <;> intros | refine aI (by omega) ?_ | refine dq ?_)
    refine (alive19_c w5).mono ?_
    rintro _ w9 ⟨rfl, l9⟩
    repeat' (first | (simp (disch := omega) only [push_cast, seval]) | refine iX ?_ ?_ <;> intros | refine aI (by omega) ?_ | refine dq ?_)
    exact l05.trans l9
  have ex := enc_len hrx
  have hxv5 := hxv.later l5
  obtain ⟨ox, cx, rfl⟩ := hxv.slice
  obtain ⟨oy, cy, rfl⟩ := hyv.slice
  have hne : decide (((encE x.e).length : Int) = 0) = false := decide_eq_false (by omega)
  have fs := FS w5 l15
  repeat' (first | (simp (disch := omega) only [push_cast, seval, hne, fs]) | refine iX ?_ ?_ <;> intros | refine aI (by omega) ?_ | refine dq ?_)
  refine (decode_c dv mv _ d m (encE x.e) w5 (h.later l05) (by omega) (by omega) hxv5.sl (by omega)).mono ?_
  rintro _ w6 ⟨hde, l6⟩
  rcases hde with ⟨hn, _⟩ | ⟨x', hx', rfl, hxO⟩
  · rw [decR_enc hrx] at hn; cases hn
  rw [decR_enc hrx] at hx'
  have hxe : x'.e = x.e := (Option.some.inj hx').symm
  repeat' (first | (simp (disch := omega) only [push_cast, seval]) | refine iX ?_ ?_ <;> intros | refine aI (by omega) ?_ | refine dq ?_)
  refine vStore_new rfl rfl (ej_one hxO.is) ?_
  have l7 := later_alloc w6 (.cells (ejC x').toArray 43)
  have B7 := Blk.new w6 (ejC x').toArray 43
  generalize w6.alloc (.cells (ejC x').toArray 43) = w7 at *
  generalize w6.heap.size = k7 at *
  have l07 := (l05.trans l6).trans l7
  have l17 := (l15.trans l6).trans l7
  have hxv7 := (hxv5.later l6).later l7
  have hxS := hxv7.sl
  obtain ⟨_, hbc, hbm, _⟩ := hxS.len
  unfold maxLen at hbm
  have fs := FS w7 l17
  have hr := and_rng cut
  have hj : 0 ≤ bitI .and .i64 cut 1023 % ((encE x.e).length : Int) ∧ bitI .and .i64 cut 1023 % ((encE x.e).length : Int) < ((encE x.e).length : Int) := ⟨Int.emod_nonneg _ (by omega), Int.emod_lt_of_pos _ (by omega)⟩
  repeat' (first | (simp (disch := omega) only [push_cast, seval]) | refine iX ?_ ?_ <;> intros | refine aI (by omega) ?_ | fail)
  refine drawnS_k 13 ?_
  repeat' (first | (simp (disch := omega) only [push_cast, seval, fs]) | refine iX ?_ ?_ <;> intros | refine aI (by omega) ?_ | fail)
  generalize bitI .and .i64 cut 1023 % ((encE x.e).length : Int) = jj at *
  refine NFn.fix hb15 (v := .tuple #[.agg (ejC ejZ).toArray, .int .i64 191]) (fun w' hl => ?_) ?_
  · have hp := (hxS.later hl).pre (k := jj.toNat) (by omega)
    rw [← List.map_take] at hp
    refine (decode_c dv mv _ d m ((encE x.e).take jj.toNat) w' (h.later (l07.trans hl)) (by omega) (by omega) hp (by rw [List.length_take]; omega)).mono ?_
    rintro u w'' ⟨hu, hl'⟩
    rcases hu with ⟨_, rfl⟩ | ⟨z, hz1, _⟩
    · exact ⟨rfl, hl'⟩
    · rw [decR_cut hrx (by omega)] at hz1; cases hz1
  repeat' (first | (simp (disch := omega) only [push_cast, seval]) | refine iX ?_ ?_ <;> intros | refine aI (by omega) ?_ | fail)
  refine nA_of _ (PtV w7 43 #[.bool false, .int .i64 0, .int .i64 0, .slice none 0 0, .slice none 0 0]) (stb_pt _ _ _ _) (fun w' hl => ?_) ?_
  · repeat' (first | (simp (disch := omega) only [push_cast, seval]) | refine iX ?_ ?_ <;> intros | refine aI (by omega) ?_ | fail)
    exact ⟨later_alloc _ _, w'.heap.size, rfl, hl.size, Blk.new _ _ _⟩
  repeat' (first | (simp (disch := omega) only [push_cast, seval]) | refine iX ?_ ?_ <;> intros | refine aI (by omega) ?_ | fail)
  refine ⟨rfl, fun w9 l9 => ?_⟩
  rintro _ ⟨b9, rfl, hb9, B9⟩
  refine ⟨by simp (disch := omega) only [push_cast, seval, implies_true, and_self], ?_⟩
  repeat' (first | (simp (disch := omega) only [push_cast, seval]) | refine iX ?_ ?_ <;> intros | refine aI (by omega) ?_ | fail)
  refine vStore_blk (l := [.bool false, .int .i64 0, .int .i64 0, .slice none 0 0, .slice none 0 0]) (xs := ejC ejZ) B9 rfl rfl (ej_one (w := w9) ⟨Sl.nil _, Sl.nil _⟩) ?_
  intro w10 B10 c10
  have l710 := Chg.later l9 c10 (by intro k hk; rw [List.mem_singleton.1 hk]; exact hb9)
  have l010 := l07.trans l710
  have l110 := l17.trans l710
  clear c10 B9 B10 l9 hb9
  have g10 : cellsAt w10 ⟨k7, 0, none⟩ 5 = some (ejC x') := Blk.cellsAt (l := ejC x') (B7.chg (Chg.of_later (ks := []) l710) (by simp))
  obtain ⟨fx, fy⟩ := atJ2 (FB w10 l110)
  have hyS := hyv.sl.later (l6.trans (l7.trans l710))
  have hE : ∃ b : Bool, decide (strOf (encE x.e) = strOf (encE y.e)) = b ∧ (b = true ↔ x.e = y.e) := ⟨_, rfl, by
    rw [decide_eq_true_iff, strOf_inj]
    exact ⟨fun h => enc_inj hrx hry h, fun h => by rw [h]⟩⟩
  obtain ⟨b, hb1, hb2⟩ := hE
  have hbb : decide (b = b) = true := decide_eq_true rfl
  repeat' (first | (simp (disch := omega) only [push_cast, seval]) | refine iX ?_ ?_ <;> intros | refine aI (by omega) ?_ | fail)
  refine drawn_q ?_
  repeat' (first | (simp (disch := omega) only [push_cast, seval, g10, fx, fy, addr_add_eq, Nat.zero_add]) | refine iX ?_ ?_ <;> intros | refine aI (by omega) ?_ | fail)
  refine QFn.of hb8 (v := .bool true) (fun w' _ => alive19_c w') ?_
  repeat' (first | (simp (disch := omega) only [push_cast, seval, g10, fx, fy, addr_add_eq, Nat.zero_add]) | refine iX ?_ ?_ <;> intros | refine aI (by omega) ?_ | fail)
  refine QFn.of hb16 (v := .bool true) (fun w' hl => (eone_c x' x w' (hxO.later (l7.trans (l710.trans hl))).is (hx.1.later (l010.trans hl))).mono ?_) ?_
  · rintro u w'' ⟨⟨t, rfl, ht⟩, hl'⟩
    rw [ht.2 hxe]
    exact ⟨rfl, hl'⟩
  repeat' (first | (simp (disch := omega) only [push_cast, seval, g10, fx, fy, addr_add_eq, Nat.zero_add]) | refine iX ?_ ?_ <;> intros | refine aI (by omega) ?_ | fail)
  refine qConv_bytes Try.underlying25 Try.underlying9 Try.underlying5 (by simp (disch := omega) only [push_cast, seval]) (hxS.later l710) ?_
  repeat' (first | (simp (disch := omega) only [push_cast, seval, g10, fx, fy, addr_add_eq, Nat.zero_add]) | refine iX ?_ ?_ <;> intros | refine aI (by omega) ?_ | fail)
  refine qConv_bytes Try.underlying25 Try.underlying9 Try.underlying5 (by simp (disch := omega) only [push_cast, seval]) hyS ?_
  repeat' (first | (simp (disch := omega) only [push_cast, seval, g10, fx, fy, hb1, addr_add_eq, Nat.zero_add]) | refine iX ?_ ?_ <;> intros | refine aI (by omega) ?_ | fail)
  refine QFn.of hb16 (v := .bool b) (fun w' hl => (eone_c x y w' (hx.1.later (l010.trans hl)) (hy.1.later (l010.trans hl))).mono ?_) ?_
  · rintro u w'' ⟨⟨t, rfl, ht⟩, hl'⟩
    have : t = b := by rw [Bool.eq_iff_iff, ht, hb2]
    rw [this]
    exact ⟨rfl, hl'⟩
  repeat' (first | (simp (disch := omega) only [push_cast, seval, hb1, hbb, addr_add_eq, Nat.zero_add]) | refine iX ?_ ?_ <;> intros | refine aI (by omega) ?_ | fail)
  intro w11 l11
  exact l010.trans l11
theorem own : ownKnob Try.prog.godebug = none := by kernel_rfl
theorem lifted (os : Os) (started : os.Started) (H : Type) (enc : TypeId × Value → H) :
    ReturnsInHanded {} Try.checked os 4 .any (Rows.journalBackSpec.pre6 enc Try.prog Try.f4 Rows.journalBackRow.domain false) (Rows.journalBackSpec.post enc Try.prog Try.f4 false true false false) := by
  refine lifted_later (C := Try.checked) own started (by kernel_rfl) Try.func4 hb4
    (ChangeSpec.witness6 (enc := enc) (C := Try.checked) false ⟨#[], #[.agg #[.slice none 0 0, .slice none 0 0], .agg #[.bool false, .int .i64 0, .int .i64 0, .slice none 0 0, .slice none 0 0, .bool false, .int .i64 0, .int .i64 0, .slice none 0 0, .slice none 0 0], .int .i64 0], []⟩ 20 (by kernel_rfl) (by kernel_rfl) (by kernel_rfl) (by kernel_rfl))
    (by kernel_rfl) (list_all (by kernel_rfl)) (by kernel_rfl) Try.underlying4 rfl ?_ ?_
  · intro ds h
    have h : ds.length = 3 := h
    match ds, h with
    | [_, _, _], _ => rfl
  · intro W base args ds p hval0 hA0
    have hval : ∀ (j : Nat) t v, Try.f4.params[j]? = some t → args[j]? = some v → Value.okWide Try.prog W .any base t v := hval0
    have hA : DataW.TrodAll enc Try.prog W 0 (fun _ => true) true Try.f4.params.toList args.toList ds p := hA0
    rw [Try.params4] at hA hval
    obtain ⟨v0, vs0, d0, ds0, p0, q0, hargs, rfl, rfl, h0, r0⟩ := trodAll_cons hA
    obtain ⟨v1, vs1, d1, ds1, p1, q1, rfl, rfl, rfl, h1, r1⟩ := trodAll_cons r0
    obtain ⟨v2, vs2, d2, ds2, p2, q2, rfl, rfl, rfl, h2, r2⟩ := trodAll_cons r1
    obtain ⟨rfl, rfl, rfl⟩ := trodAll_nil r2
    obtain rfl : args = #[v0, v1, v2] := by cases args; simp_all
    obtain ⟨a0, rfl, hs⟩ := open_schema (hval 0 24 v0 rfl rfl) h0
    obtain ⟨a1, rfl, k1, k2⟩ := open_entry2 (hval 1 44 v1 rfl rfl) h1
    obtain ⟨a2, rfl, rfl, rfl, w2⟩ := open_int Try.underlying3 (hval 2 3 v2 rfl rfl) h2
    exact law_c _ _ _ _ _ _ a2 W hs k1 k2 (i64_of_wf w2)
theorem over : Rows.journalBackRow.holds Try.pinned (OpenSpec.ofChange Rows.journalBackSpec) :=
  OpenClaim.holds_of_wide 4 Try.f4 rfl rfl rfl rfl rfl rfl rfl ⟨rfl, rfl, rfl, rfl, rfl⟩ rfl rfl rfl rfl rfl (by kernel_rfl) Try.func4 (by kernel_rfl)
    (of_decide_eq_true (by kernel_rfl)) (by unfold Func.isWrapper; first | (rw [if_pos (by decide +kernel)]; kernel_rfl) | (rw [if_neg (by decide +kernel)]; exact ⟨rfl, rfl⟩))
    (fun os started H enc _ => lifted os started H enc)
/-- The statement. -/
theorem proved : Rows.JournalBackSaid :=
  over
end Go.Proofs.Ytcajkjbempagaaa.journalBack
