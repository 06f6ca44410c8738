/- The contract of the document's Encode. -/
import Derived.Test.YtdfdohajjgjbdaaDel3
import Derived.Test.YtdfdohajjgjbdaaZig6
import Derived.Test.YtdfdohajjgjbdaaNib4
import Derived.Maps.AppendAt
set_option linter.unusedSimpArgs false
namespace Go.Proofs.Ytdfdohajjgjbdaa
open Go.Vc Go.Del Go.Zig Go.Nib
def encE (l : List Int) : Int := if 65536 < l.length then 81 else 0
def encL (l : List Int) : List UInt8 := if encE l = 0 then enc l else []
def EncR (w : World) (B : Nat) (r : Value) (l : List Int) : Prop := ∃ x, r = .tuple #[x, .int .i64 (encE l)] ∧ OwnB w B 5 x (encL l)
theorem enc_bad {w : World} {B : Nat} {l : List Int} (h : 65536 < l.length) : EncR w B (.tuple #[.slice none 0 0, .int .i64 81]) l := by
  have e5 : encE l = 81 := by unfold encE; rw [if_pos h]
  refine ⟨.slice none 0 0, by rw [e5], ?_⟩
  unfold encL
  rw [e5, if_neg (by omega)]; exact own_nil _ _ _ _
theorem enc_ok {w : World} {B : Nat} {l : List Int} {x : Value} (h : ¬ 65536 < l.length) (hx : OwnB w B 5 x (enc l)) : EncR w B (.tuple #[x, .int .i64 0]) l := by
  have e5 : encE l = 0 := by unfold encE; rw [if_neg h]
  refine ⟨x, by rw [e5], ?_⟩
  unfold encL
  rw [e5, if_pos rfl]; exact hx
theorem pack_rs (l : List Int) (h : ¬ 65536 < l.length) : pkE (rs l).length (wid (rs l)) (wid (rs l) : Int) = 0 ∧ pkR (rs l) (wid (rs l) : Int) = pack (rs l) (wid (rs l)) := by
  have h1 := wid_64 (rs l)
  have h2 : pkE (rs l).length (wid (rs l)) (wid (rs l) : Int) = 0 := by
    unfold pkE
    rw [rs_len, if_neg (by omega), if_neg (by omega)]
  refine ⟨h2, ?_⟩
  unfold pkR
  rw [if_pos h2, Int.toNat_natCast]
/-- Two rows of a call's own lie in two blocks. -/
def Apart (v x : Value) : Prop := ∀ k, v.ownBlock = some k → x.ownBlock ≠ some k
theorem apart_of {w w' : World} {B B' s s' n n' : Nat} {e e' : TypeId} {v x : Value} {xs ys : List Value} (hv : w.ownsRow B e s v n xs) (hx : w'.ownsRow B' e' s' x n' ys) (h : w.heap.size ≤ B') : Apart v x := by
  intro k hk hk'
  have h1 := World.ownsRow.lt hv k hk
  obtain ⟨_, h2⟩ := hx
  rcases h2 with ⟨rfl, _⟩ | ⟨b, cap, cur, rfl, hb, _⟩
  · simp [Value.ownBlock] at hk'
  · simp only [Value.ownBlock, Option.some.injEq] at hk'
    omega
theorem own_apart {w w' : World} {base s n : Nat} {e : TypeId} {v x : Value} {xs : List Value} (h : w.ownsRow base e s x n xs) (g : w.grownBy w' v.ownBlock) (hap : Apart v x) : w'.ownsRow base e s x n xs := by
  obtain ⟨h0, h⟩ := h
  refine ⟨h0, ?_⟩
  rcases h with h | ⟨b, cap, cur, hv, hb, hh, h3⟩
  · exact .inl h
  · refine .inr ⟨b, cap, cur, hv, hb, ?_, h3⟩
    rw [g.block b (Blk.lt hh) (fun e => hap b e.symm (by rw [hv]; rfl))]
    exact hh
/-- Bytes behind bytes of the call's own, while other bytes of its own stay. -/
theorem app_bytes {w1 : World} {K : Value → World → Prop} {t ty : TypeId} {v x xp : Value} {B Bp : Nat} {a b p : List UInt8} (ht : Try.prog.underlying t = some (.slice 5)) (ho : OwnB w1 B 5 v a) (hx : Sl w1 x (b.map u8v)) (hs : a.length + b.length ≤ 1000000000) (hB : B ≤ w1.heap.size)
    (hp : OwnB w1 Bp 5 xp p) (hap : Apart v xp)
    (hK : ∀ v' w', OwnB w' B 5 v' (a ++ b) → OwnB w' Bp 5 xp p → Apart v' xp → (∀ w0, Later w0 w1 → w0.heap.size ≤ B → Later w0 w') → w1.heap.size ≤ w'.heap.size → K v' w') : vAppend Try.prog #[t, t] ty #[v, x] K w1 := by
  have hx' := sl_n8 hx
  have keep : ∀ w', w1.grownBy w' v.ownBlock → OwnB w' Bp 5 xp p := fun w' hg => own_apart hp hg hap
  obtain ⟨i, hi1, hz, hsi, hbi⟩ := info_parts ti5
  obtain ⟨hl, hr⟩ := hx'
  rcases hr with ⟨rfl, hb0⟩ | ⟨ad, c, rfl, hc1, hc2, hc3⟩
  · have hb : b = [] := by simpa using hb0
    subst hb
    obtain ⟨o, c, rfl, h1, h2, h3, h4, _⟩ := (SlN.of_own ho).open
    unfold vAppend
    rw [run_val_pure (run_append_nil_src ht ti5 o _ c h1 (fun ho => (h4 ho).1))]
    exact hK _ _ (by simpa using ho) hp hap (fun w0 hl _ => hl) (Nat.le_refl _)
  · unfold vAppend
    obtain ⟨v', w', hr, h2, h3, h4, h5⟩ := run_append_own_at (P := Try.prog) w1 B t ty 5 i _ _ _ ht hi1 hz hsi hbi rfl (by decide) v _ _ ho ad _ c _ hl hc3 (u8vs_one _) (by unfold maxLen; omega) (by omega) hB
    rw [run_val_pure hr]
    refine hK v' w' (own_app h2) (keep w' h3) ?_ (fun w0 hl hb => hl.appended ho hb h3) h3.size
    intro k hk hk'
    rcases h5 with h5 | h5
    · exact hap k (h5 ▸ hk) hk'
    · have := World.ownsRow.lt hp k hk'
      rw [h5] at hk
      simp only [Option.some.injEq] at hk
      omega
theorem enc_len {l : List Int} (h : Ok l) (hl : ¬ 65536 < l.length) : (zi (l.length : Int)).length ≤ 10 ∧ (zi (at_ l 0)).length ≤ 10 ∧ (zi (mn (stp l))).length ≤ 10 ∧ (zi (wid (rs l) : Int)).length ≤ 10 ∧ (pack (rs l) (wid (rs l))).length ≤ 600000 := by
  have h1 := wid_64 (rs l)
  have h2 := pack_len (rs l) (wid (rs l))
  have h3 : (rs l).length * wid (rs l) ≤ 65536 * 64 := Nat.mul_le_mul (by rw [rs_len]; omega) h1
  exact ⟨(zi_len (by unfold I64; omega)).1, (zi_len (at_i64 h 0)).1, (zi_len (base_in l)).1, (zi_len (by unfold I64; omega)).1, by omega⟩
set_option maxRecDepth 100000 in
theorem rencode_c (v : Value) (l : List Int) (w : World) (h : Sl w v (l.map i64v)) (hok : Ok l) : FnC Try.prog 29 #[v] w fun r w' => EncR w' w.heap.size r l ∧ Later w w' := by
  have hs := h
  obtain ⟨o, c, rfl, g1, g2, h, g3⟩ := h.openM
  refine enter29 _ ?_
  unfold B29
  by_cases hb : 65536 < l.length
  · repeat' (first | (simp (disch := omega) only [push_cast, ↓reduceIte, Nat.reduceEqDiff, Int.reduceToNat, Nat.reducePow, Int.reducePow, Int.reduceNeg, Nat.reduceMul, Int.reduceMul, Int.reduceAdd, Int.reduceSub, Nat.reduceAdd, Nat.reduceSub, Nat.reduceLeDiff, Int.reduceLT, Int.reduceLE, Int.reduceEq, Int.reduceMod, Int.reduceDiv, reduceCtorEq, not_true_eq_false, not_false_eq_true]) | refine vIfE_of (fun _ => ?_) (fun _ => ?_) | refine vIfD_of (fun _ => ?_) (fun _ => ?_) | refine vIfQ_of (fun _ => ?_) (fun _ => ?_) | refine vIfV_of (fun _ => ?_) (fun _ => ?_) | refine And.intro (by omega) ?_ | refine drawn_q ?_ | fail)
    exact ⟨enc_bad hb, Later.refl _⟩
  obtain ⟨z1, z2, z3, z4, z5⟩ := enc_len hok hb
  have hI : I64 (l.length : Int) := by unfold I64; omega
  repeat' (first | (simp (disch := omega) only [push_cast, ↓reduceIte, Nat.reduceEqDiff, Int.reduceToNat, Nat.reducePow, Int.reducePow, Int.reduceNeg, Nat.reduceMul, Int.reduceMul, Int.reduceAdd, Int.reduceSub, Nat.reduceAdd, Nat.reduceSub, Nat.reduceLeDiff, Int.reduceLT, Int.reduceLE, Int.reduceEq, Int.reduceMod, Int.reduceDiv, reduceCtorEq, not_true_eq_false, not_false_eq_true]) | refine vIfE_of (fun _ => ?_) (fun _ => ?_) | refine vIfD_of (fun _ => ?_) (fun _ => ?_) | refine vIfQ_of (fun _ => ?_) (fun _ => ?_) | refine vIfV_of (fun _ => ?_) (fun _ => ?_) | refine And.intro (by omega) ?_ | refine drawn_q ?_ | fail)
  refine (rInt_c l.length w hI).mono ?_
  rintro v1 w1 ⟨ho1, hl1⟩
  obtain ⟨o1, c1, hv1⟩ := ho1.slice
  by_cases h0 : l.length = 0
  · subst hv1
    repeat' (first | (simp (disch := omega) only [push_cast, ↓reduceIte, Nat.reduceEqDiff, Int.reduceToNat, Nat.reducePow, Int.reducePow, Int.reduceNeg, Nat.reduceMul, Int.reduceMul, Int.reduceAdd, Int.reduceSub, Nat.reduceAdd, Nat.reduceSub, Nat.reduceLeDiff, Int.reduceLT, Int.reduceLE, Int.reduceEq, Int.reduceMod, Int.reduceDiv, reduceCtorEq, not_true_eq_false, not_false_eq_true]) | refine vIfE_of (fun _ => ?_) (fun _ => ?_) | refine vIfD_of (fun _ => ?_) (fun _ => ?_) | refine vIfQ_of (fun _ => ?_) (fun _ => ?_) | refine vIfV_of (fun _ => ?_) (fun _ => ?_) | refine And.intro (by omega) ?_ | refine drawn_q ?_ | fail)
    refine ⟨enc_ok hb ?_, hl1⟩
    have e : l = [] := List.length_eq_zero_iff.1 h0
    unfold enc
    rw [if_pos e, List.append_nil]; exact ho1
  have henc : enc l = ((zi l.length ++ zi (at_ l 0)) ++ zi (mn (stp l))) ++ zi (wid (rs l)) ++ pack (rs l) (wid (rs l)) := by
    unfold enc encT
    rw [if_neg (fun e => h0 (by rw [e]; rfl))]
    simp only [List.append_assoc]
  subst hv1
  repeat' (first | (simp (disch := omega) only [push_cast, ↓reduceIte, Nat.reduceEqDiff, Int.reduceToNat, Nat.reducePow, Int.reducePow, Int.reduceNeg, Nat.reduceMul, Int.reduceMul, Int.reduceAdd, Int.reduceSub, Nat.reduceAdd, Nat.reduceSub, Nat.reduceLeDiff, Int.reduceLT, Int.reduceLE, Int.reduceEq, Int.reduceMod, Int.reduceDiv, reduceCtorEq, not_true_eq_false, not_false_eq_true]) | refine vIfE_of (fun _ => ?_) (fun _ => ?_) | refine vIfD_of (fun _ => ?_) (fun _ => ?_) | refine vIfQ_of (fun _ => ?_) (fun _ => ?_) | refine vIfV_of (fun _ => ?_) (fun _ => ?_) | refine And.intro (by omega) ?_ | refine drawn_q ?_ | fail)
  refine (rsteps_c _ l w1 (hs.later hl1) (by omega)).mono ?_
  rintro v2 w2 ⟨ho2, hl2⟩
  have hs2 := ho2.sl
  obtain ⟨o2, c2, hv2⟩ := ho2.slice
  subst hv2
  repeat' (first | (simp (disch := omega) only [push_cast, ↓reduceIte, Nat.reduceEqDiff, Int.reduceToNat, Nat.reducePow, Int.reducePow, Int.reduceNeg, Nat.reduceMul, Int.reduceMul, Int.reduceAdd, Int.reduceSub, Nat.reduceAdd, Nat.reduceSub, Nat.reduceLeDiff, Int.reduceLT, Int.reduceLE, Int.reduceEq, Int.reduceMod, Int.reduceDiv, reduceCtorEq, not_true_eq_false, not_false_eq_true]) | refine vIfE_of (fun _ => ?_) (fun _ => ?_) | refine vIfD_of (fun _ => ?_) (fun _ => ?_) | refine vIfQ_of (fun _ => ?_) (fun _ => ?_) | refine vIfV_of (fun _ => ?_) (fun _ => ?_) | refine And.intro (by omega) ?_ | refine drawn_q ?_ | fail)
  refine (rbase_c _ (stp l) w2 hs2).mono ?_
  rintro _ w0 ⟨rfl, hw⟩
  obtain rfl := hw.symm
  have hsl := stp_len l
  rw [hsl] at hs2 ⊢
  have hl12 := hl1.trans hl2
  repeat' (first | (simp (disch := omega) only [push_cast, ↓reduceIte, Nat.reduceEqDiff, Int.reduceToNat, Nat.reducePow, Int.reducePow, Int.reduceNeg, Nat.reduceMul, Int.reduceMul, Int.reduceAdd, Int.reduceSub, Nat.reduceAdd, Nat.reduceSub, Nat.reduceLeDiff, Int.reduceLT, Int.reduceLE, Int.reduceEq, Int.reduceMod, Int.reduceDiv, reduceCtorEq, not_true_eq_false, not_false_eq_true]) | refine vIfE_of (fun _ => ?_) (fun _ => ?_) | refine vIfD_of (fun _ => ?_) (fun _ => ?_) | refine vIfQ_of (fun _ => ?_) (fun _ => ?_) | refine vIfV_of (fun _ => ?_) (fun _ => ?_) | refine And.intro (by omega) ?_ | refine drawn_q ?_ | fail)
  refine vc_loop W29_0 (fun p : Nat × Value => [(7, p.2), (8, .int .i64 (p.1 : Int))])
    (fun p w' => p.1 ≤ l.length - 1 ∧ Later w2 w' ∧ OwnW w' w2.heap.size 47 p.2 (rsN l (mn (stp l)) p.1)) (fun p => l.length - p.1) (0, .slice none 0 0) (by decide) ?_ ?_ ?_
  · simp (disch := omega) only [push_cast, ↓reduceIte, Nat.reduceEqDiff, Int.reduceToNat, Nat.reducePow, Int.reducePow, Int.reduceNeg, Nat.reduceMul, Int.reduceMul, Int.reduceAdd, Int.reduceSub, Nat.reduceAdd, Nat.reduceSub, Nat.reduceLeDiff, Int.reduceLT, Int.reduceLE, Int.reduceEq, Int.reduceMod, Int.reduceDiv, reduceCtorEq, not_true_eq_false, not_false_eq_true]
  · exact ⟨by omega, Later.refl _, own_nil _ _ _ _⟩
  rintro ⟨i, v⟩ uu w3 ⟨hi, hl3, ho⟩
  dsimp only at hi ho
  obtain ⟨ov, cv, rfl⟩ := ho.slice
  rw [rsN_len] at ho ⊢
  by_cases hlt : i < l.length - 1
  · obtain ⟨a, rfl⟩ := hs2.some (show 0 < (stp l).length by omega)
    have c1 := (hs2.later hl3).atI (i := i) (by omega)
    rw [stp_at l i hlt] at c1
    have hrs := rs1_nat l i hlt
    have hst : IntKind.u64.wrap (IntKind.u64.wrap (stp1 l i) - IntKind.u64.wrap (mn (stp l))) = ((rs1 l (mn (stp l)) i).toNat : Int) := by
      have := (rs1 l (mn (stp l)) i).toNat_lt
      rw [wrap_un, wrap_un, wrap_un]; omega
    unfold OwnW at ho
    rw [rsN_len] at ho
    repeat' (first | (simp (disch := omega) only [push_cast, ↓reduceIte, Nat.reduceEqDiff, Int.reduceToNat, Nat.reducePow, Int.reducePow, Int.reduceNeg, Nat.reduceMul, Int.reduceMul, Int.reduceAdd, Int.reduceSub, Nat.reduceAdd, Nat.reduceSub, Nat.reduceLeDiff, Int.reduceLT, Int.reduceLE, Int.reduceEq, Int.reduceMod, Int.reduceDiv, reduceCtorEq, not_true_eq_false, not_false_eq_true, c1, hst]) | refine vIfE_of (fun _ => ?_) (fun _ => ?_) | refine vIfD_of (fun _ => ?_) (fun _ => ?_) | refine vIfQ_of (fun _ => ?_) (fun _ => ?_) | refine vIfV_of (fun _ => ?_) (fun _ => ?_) | refine And.intro (by omega) ?_ | refine drawn_q ?_ | fail)
    refine vAppend_one Try.underlying45 ti47 rfl ho rfl (by unfold maxLen; omega) (by omega) hl3.size ?_
    intro v' w' ho' hlk
    repeat' (first | (simp (disch := omega) only [push_cast, ↓reduceIte, Nat.reduceEqDiff, Int.reduceToNat, Nat.reducePow, Int.reducePow, Int.reduceNeg, Nat.reduceMul, Int.reduceMul, Int.reduceAdd, Int.reduceSub, Nat.reduceAdd, Nat.reduceSub, Nat.reduceLeDiff, Int.reduceLT, Int.reduceLE, Int.reduceEq, Int.reduceMod, Int.reduceDiv, reduceCtorEq, not_true_eq_false, not_false_eq_true]) | refine vIfE_of (fun _ => ?_) (fun _ => ?_) | refine vIfD_of (fun _ => ?_) (fun _ => ?_) | refine vIfQ_of (fun _ => ?_) (fun _ => ?_) | refine vIfV_of (fun _ => ?_) (fun _ => ?_) | refine And.intro (by omega) ?_ | refine drawn_q ?_ | fail)
    refine ⟨rfl, (i + 1, v'), by simp (disch := omega) only [push_cast, ↓reduceIte, Nat.reduceEqDiff, Int.reduceToNat, Nat.reducePow, Int.reducePow, Int.reduceNeg, Nat.reduceMul, Int.reduceMul, Int.reduceAdd, Int.reduceSub, Nat.reduceAdd, Nat.reduceSub, Nat.reduceLeDiff, Int.reduceLT, Int.reduceLE, Int.reduceEq, Int.reduceMod, Int.reduceDiv, reduceCtorEq, not_true_eq_false, not_false_eq_true], ⟨by omega, hlk _ hl3 (Nat.le_refl _), ?_⟩, by simp; omega⟩
    unfold OwnW
    rw [rsN_len, rsN_succ, List.map_append]
    exact ho'
  · have e : i = l.length - 1 := by omega
    have ho : OwnW w3 w2.heap.size 47 (.slice ov i cv) (rs l) := by
      unfold rs; rw [← e]; exact ho
    have hrl := rs_len l
    repeat' (first | (simp (disch := omega) only [push_cast, ↓reduceIte, Nat.reduceEqDiff, Int.reduceToNat, Nat.reducePow, Int.reducePow, Int.reduceNeg, Nat.reduceMul, Int.reduceMul, Int.reduceAdd, Int.reduceSub, Nat.reduceAdd, Nat.reduceSub, Nat.reduceLeDiff, Int.reduceLT, Int.reduceLE, Int.reduceEq, Int.reduceMod, Int.reduceDiv, reduceCtorEq, not_true_eq_false, not_false_eq_true]) | refine vIfE_of (fun _ => ?_) (fun _ => ?_) | refine vIfD_of (fun _ => ?_) (fun _ => ?_) | refine vIfQ_of (fun _ => ?_) (fun _ => ?_) | refine vIfV_of (fun _ => ?_) (fun _ => ?_) | refine And.intro (by omega) ?_ | refine drawn_q ?_ | fail)
    refine (rWidth_c _ (rs l) w3 ho.sl).mono ?_
    rintro _ w0 ⟨rfl, hw⟩
    obtain rfl := hw.symm
    have h64 := wid_64 (rs l)
    repeat' (first | (simp (disch := omega) only [push_cast, ↓reduceIte, Nat.reduceEqDiff, Int.reduceToNat, Nat.reducePow, Int.reducePow, Int.reduceNeg, Nat.reduceMul, Int.reduceMul, Int.reduceAdd, Int.reduceSub, Nat.reduceAdd, Nat.reduceSub, Nat.reduceLeDiff, Int.reduceLT, Int.reduceLE, Int.reduceEq, Int.reduceMod, Int.reduceDiv, reduceCtorEq, not_true_eq_false, not_false_eq_true]) | refine vIfE_of (fun _ => ?_) (fun _ => ?_) | refine vIfD_of (fun _ => ?_) (fun _ => ?_) | refine vIfQ_of (fun _ => ?_) (fun _ => ?_) | refine vIfV_of (fun _ => ?_) (fun _ => ?_) | refine And.intro (by omega) ?_ | refine drawn_q ?_ | fail)
    refine (rPack_c _ (rs l) (wid (rs l)) w3 ho.sl (by omega) (by omega)).mono ?_
    rintro _ w4 ⟨⟨x, rfl, hx⟩, hl4⟩
    rw [(pack_rs l hb).1]
    rw [(pack_rs l hb).2] at hx
    obtain ⟨ox, cx, rfl⟩ := hx.slice
    obtain ⟨a, rfl⟩ := h.some (show 0 < l.length by omega)
    have hl14 := (hl2.trans hl3).trans hl4
    have hl04 := hl1.trans hl14
    have c0 : w4.cell? a = some (.int .i64 (at_ l 0)) := by
      have := (h.later hl04).atI (show 0 < l.length by omega)
      rwa [addr_add_zero] at this
    have c0' := (h.later hl04).atI (show 0 < l.length by omega)
    have hp4 := ho1.later hl14
    have hkk : ∀ w' : World, Later w4 w' → w.heap.size ≤ w'.heap.size := fun w' hl' => (hl04.trans hl').size
    repeat' (first | (simp (disch := omega) only [push_cast, ↓reduceIte, Nat.reduceEqDiff, Int.reduceToNat, Nat.reducePow, Int.reducePow, Int.reduceNeg, Nat.reduceMul, Int.reduceMul, Int.reduceAdd, Int.reduceSub, Nat.reduceAdd, Nat.reduceSub, Nat.reduceLeDiff, Int.reduceLT, Int.reduceLE, Int.reduceEq, Int.reduceMod, Int.reduceDiv, reduceCtorEq, not_true_eq_false, not_false_eq_true, c0, c0']) | refine vIfE_of (fun _ => ?_) (fun _ => ?_) | refine vIfD_of (fun _ => ?_) (fun _ => ?_) | refine vIfQ_of (fun _ => ?_) (fun _ => ?_) | refine vIfV_of (fun _ => ?_) (fun _ => ?_) | refine And.intro (by omega) ?_ | refine drawn_q ?_ | fail)
    refine (rInt_c (at_ l 0) w4 (at_i64 hok 0)).mono ?_
    rintro u5 w5 ⟨hu5, hl5⟩
    obtain ⟨o5, c5, hv5⟩ := hu5.slice
    subst hv5
    repeat' (first | (simp (disch := omega) only [push_cast, ↓reduceIte, Nat.reduceEqDiff, Int.reduceToNat, Nat.reducePow, Int.reducePow, Int.reduceNeg, Nat.reduceMul, Int.reduceMul, Int.reduceAdd, Int.reduceSub, Nat.reduceAdd, Nat.reduceSub, Nat.reduceLeDiff, Int.reduceLT, Int.reduceLE, Int.reduceEq, Int.reduceMod, Int.reduceDiv, reduceCtorEq, not_true_eq_false, not_false_eq_true]) | refine vIfE_of (fun _ => ?_) (fun _ => ?_) | refine vIfD_of (fun _ => ?_) (fun _ => ?_) | refine vIfQ_of (fun _ => ?_) (fun _ => ?_) | refine vIfV_of (fun _ => ?_) (fun _ => ?_) | refine And.intro (by omega) ?_ | refine drawn_q ?_ | fail)
    have hap := apart_of (ho1.later (hl2.trans hl3)) hx (Nat.le_refl _)
    refine app_bytes Try.underlying36 (hp4.later hl5) hu5.sl (by omega) (hkk _ hl5) (hx.later hl5) hap ?_
    intro v6 w6 ho6 hx6 hap6 hk6 hsz6
    have hl06 := hk6 w (hl04.trans hl5) (Nat.le_refl _)
    obtain ⟨o6, c6, hv6⟩ := ho6.slice
    subst hv6
    repeat' (first | (simp (disch := omega) only [push_cast, ↓reduceIte, Nat.reduceEqDiff, Int.reduceToNat, Nat.reducePow, Int.reducePow, Int.reduceNeg, Nat.reduceMul, Int.reduceMul, Int.reduceAdd, Int.reduceSub, Nat.reduceAdd, Nat.reduceSub, Nat.reduceLeDiff, Int.reduceLT, Int.reduceLE, Int.reduceEq, Int.reduceMod, Int.reduceDiv, reduceCtorEq, not_true_eq_false, not_false_eq_true]) | refine vIfE_of (fun _ => ?_) (fun _ => ?_) | refine vIfD_of (fun _ => ?_) (fun _ => ?_) | refine vIfQ_of (fun _ => ?_) (fun _ => ?_) | refine vIfV_of (fun _ => ?_) (fun _ => ?_) | refine And.intro (by omega) ?_ | refine drawn_q ?_ | fail)
    refine (rInt_c (mn (stp l)) w6 (base_in l)).mono ?_
    rintro u7 w7 ⟨hu7, hl7⟩
    obtain ⟨o7, c7, hv7⟩ := hu7.slice
    subst hv7
    repeat' (first | (simp (disch := omega) only [push_cast, ↓reduceIte, Nat.reduceEqDiff, Int.reduceToNat, Nat.reducePow, Int.reducePow, Int.reduceNeg, Nat.reduceMul, Int.reduceMul, Int.reduceAdd, Int.reduceSub, Nat.reduceAdd, Nat.reduceSub, Nat.reduceLeDiff, Int.reduceLT, Int.reduceLE, Int.reduceEq, Int.reduceMod, Int.reduceDiv, reduceCtorEq, not_true_eq_false, not_false_eq_true]) | refine vIfE_of (fun _ => ?_) (fun _ => ?_) | refine vIfD_of (fun _ => ?_) (fun _ => ?_) | refine vIfQ_of (fun _ => ?_) (fun _ => ?_) | refine vIfV_of (fun _ => ?_) (fun _ => ?_) | refine And.intro (by omega) ?_ | refine drawn_q ?_ | fail)
    refine app_bytes Try.underlying36 (ho6.later hl7) hu7.sl (by simp; omega) (hl06.trans hl7).size (hx6.later hl7) hap6 ?_
    intro v8 w8 ho8 hx8 hap8 hk8 hsz8
    have hl08 := hk8 w (hl06.trans hl7) (Nat.le_refl _)
    obtain ⟨o8, c8, hv8⟩ := ho8.slice
    subst hv8
    repeat' (first | (simp (disch := omega) only [push_cast, ↓reduceIte, Nat.reduceEqDiff, Int.reduceToNat, Nat.reducePow, Int.reducePow, Int.reduceNeg, Nat.reduceMul, Int.reduceMul, Int.reduceAdd, Int.reduceSub, Nat.reduceAdd, Nat.reduceSub, Nat.reduceLeDiff, Int.reduceLT, Int.reduceLE, Int.reduceEq, Int.reduceMod, Int.reduceDiv, reduceCtorEq, not_true_eq_false, not_false_eq_true]) | refine vIfE_of (fun _ => ?_) (fun _ => ?_) | refine vIfD_of (fun _ => ?_) (fun _ => ?_) | refine vIfQ_of (fun _ => ?_) (fun _ => ?_) | refine vIfV_of (fun _ => ?_) (fun _ => ?_) | refine And.intro (by omega) ?_ | refine drawn_q ?_ | fail)
    refine (rInt_c (wid (rs l)) w8 (by unfold I64; omega)).mono ?_
    rintro u9 w9 ⟨hu9, hl9⟩
    obtain ⟨o9, c9, hv9⟩ := hu9.slice
    subst hv9
    repeat' (first | (simp (disch := omega) only [push_cast, ↓reduceIte, Nat.reduceEqDiff, Int.reduceToNat, Nat.reducePow, Int.reducePow, Int.reduceNeg, Nat.reduceMul, Int.reduceMul, Int.reduceAdd, Int.reduceSub, Nat.reduceAdd, Nat.reduceSub, Nat.reduceLeDiff, Int.reduceLT, Int.reduceLE, Int.reduceEq, Int.reduceMod, Int.reduceDiv, reduceCtorEq, not_true_eq_false, not_false_eq_true]) | refine vIfE_of (fun _ => ?_) (fun _ => ?_) | refine vIfD_of (fun _ => ?_) (fun _ => ?_) | refine vIfQ_of (fun _ => ?_) (fun _ => ?_) | refine vIfV_of (fun _ => ?_) (fun _ => ?_) | refine And.intro (by omega) ?_ | refine drawn_q ?_ | fail)
    refine app_bytes Try.underlying36 (ho8.later hl9) hu9.sl (by simp; omega) (hl08.trans hl9).size (hx8.later hl9) hap8 ?_
    intro v10 w10 ho10 hx10 hap10 hk10 hsz10
    have hl010 := hk10 w (hl08.trans hl9) (Nat.le_refl _)
    obtain ⟨o10, c10, hv10⟩ := ho10.slice
    subst hv10
    repeat' (first | (simp (disch := omega) only [push_cast, ↓reduceIte, Nat.reduceEqDiff, Int.reduceToNat, Nat.reducePow, Int.reducePow, Int.reduceNeg, Nat.reduceMul, Int.reduceMul, Int.reduceAdd, Int.reduceSub, Nat.reduceAdd, Nat.reduceSub, Nat.reduceLeDiff, Int.reduceLT, Int.reduceLE, Int.reduceEq, Int.reduceMod, Int.reduceDiv, reduceCtorEq, not_true_eq_false, not_false_eq_true]) | refine vIfE_of (fun _ => ?_) (fun _ => ?_) | refine vIfD_of (fun _ => ?_) (fun _ => ?_) | refine vIfQ_of (fun _ => ?_) (fun _ => ?_) | refine vIfV_of (fun _ => ?_) (fun _ => ?_) | refine And.intro (by omega) ?_ | refine drawn_q ?_ | fail)
    refine app_bytes Try.underlying36 ho10 hx10.sl (by simp; omega) hl010.size hx10 hap10 ?_
    intro v11 w11 ho11 hx11 hap11 hk11 hsz11
    have hl011 := hk11 w hl010 (Nat.le_refl _)
    obtain ⟨o11, c11, hv11⟩ := ho11.slice
    subst hv11
    repeat' (first | (simp (disch := omega) only [push_cast, ↓reduceIte, Nat.reduceEqDiff, Int.reduceToNat, Nat.reducePow, Int.reducePow, Int.reduceNeg, Nat.reduceMul, Int.reduceMul, Int.reduceAdd, Int.reduceSub, Nat.reduceAdd, Nat.reduceSub, Nat.reduceLeDiff, Int.reduceLT, Int.reduceLE, Int.reduceEq, Int.reduceMod, Int.reduceDiv, reduceCtorEq, not_true_eq_false, not_false_eq_true]) | refine vIfE_of (fun _ => ?_) (fun _ => ?_) | refine vIfD_of (fun _ => ?_) (fun _ => ?_) | refine vIfQ_of (fun _ => ?_) (fun _ => ?_) | refine vIfV_of (fun _ => ?_) (fun _ => ?_) | refine And.intro (by omega) ?_ | refine drawn_q ?_ | fail)
    refine ⟨enc_ok hb ?_, hl011⟩
    rw [henc]; exact ho11
end Go.Proofs.Ytdfdohajjgjbdaa
