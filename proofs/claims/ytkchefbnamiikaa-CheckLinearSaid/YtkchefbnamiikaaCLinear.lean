/- CheckLinear holds for every input: of three lists of bytes of one length the sum of the bytes that come of turning each bit as the three have it, is what comes of the three sums so. -/
import Derived.Test.YtkchefbnamiikaaRows
import Derived.Test.YtkchefbnamiikaaChk4
import Derived.Test.YtkchefbnamiikaaCodesCL
import Derived.Test.YtkchefbnamiikaaRow
set_option linter.unusedSimpArgs false
namespace Go.Proofs.Ytkchefbnamiikaa.checkLinear
open Go.Vc Go.Chk Go.Zig Go.ChangeShapes Go.WideShapes Go.ChangeAt Go.RowKit
theorem bit_u8_xor (a b : UInt8) : bitI .xor .u8 (a.toNat : Int) (b.toNat : Int) = (((a ^^^ b).toNat : Nat) : Int) := by
  have h1 := (a ^^^ b).toNat_lt
  rw [UInt8.toNat_xor] at h1 ⊢
  show IntKind.u8.wrap ((BitVec.ofInt 8 a.toNat ^^^ BitVec.ofInt 8 b.toNat).toNat : Int) = _
  simp only [ofInt_nat, BitVec.toNat_xor, BitVec.toNat_ofNat]
  rw [Nat.mod_eq_of_lt (show a.toNat < 2 ^ 8 from a.toNat_lt), Nat.mod_eq_of_lt (show b.toNat < 2 ^ 8 from b.toNat_lt), IntKind.wrap_u8]
  omega
theorem x3_snoc : ∀ (a b c : List UInt8) (i : Nat) (ha : i < a.length) (hb : i < b.length) (hc : i < c.length), x3 (a.take (i + 1)) (b.take (i + 1)) (c.take (i + 1)) = x3 (a.take i) (b.take i) (c.take i) ++ [a[i] ^^^ b[i] ^^^ c[i]]
  | [], _, _, i, ha, _, _ => by simp at ha
  | _ :: _, [], _, i, _, hb, _ => by simp at hb
  | _ :: _, _ :: _, [], i, _, _, hc => by simp at hc
  | a :: la, b :: lb, c :: lc, 0, _, _, _ => by simp [x3]
  | a :: la, b :: lb, c :: lc, i + 1, ha, hb, hc => by
    simp only [List.take_succ_cons, x3, List.cons_append, List.cons.injEq, true_and]
    simpa using x3_snoc la lb lc i (by simpa using ha) (by simpa using hb) (by simpa using hc)
set_option maxRecDepth 100000 in
theorem law_c (va vb vcc : Value) (a b c : List UInt8) (w : World) (ha : Sl w va (a.map u8v)) (hb : Sl w vb (b.map u8v)) (hc : Sl w vcc (c.map u8v)) : FnC Try.prog 10 #[va, vb, vcc] w fun v w' => v = .bool true ∧ Later w w' := by
  have hsa := ha
  have hsb := hb
  have hsc := hc
  obtain ⟨oa, ca, rfl, a1, a2, ha, _⟩ := ha.openM
  obtain ⟨ob, cb, rfl, b1, b2, hb, _⟩ := hb.openM
  obtain ⟨oc, cc, rfl, c1, c2, hc, _⟩ := hc.openM
  refine enter10 _ _ _ ?_
  unfold B10
  have hn : min (min (min (a.length : Int) (b.length : Int)) (c.length : Int)) 400 = ((min (min (min a.length b.length) c.length) 400 : Nat) : Int) := by omega
  have hna : min (min (min a.length b.length) c.length) 400 ≤ a.length := by omega
  have hnb : min (min (min a.length b.length) c.length) 400 ≤ b.length := by omega
  have hnc : min (min (min a.length b.length) c.length) 400 ≤ c.length := by omega
  have hn4 : min (min (min a.length b.length) c.length) 400 ≤ 400 := by omega
  generalize min (min (min a.length b.length) c.length) 400 = n at *
  repeat' (first | (simp (disch := omega) only [push_cast, ↓reduceIte, Nat.reduceEqDiff, Int.reduceToNat, Nat.reducePow, Int.reducePow, Int.reduceNeg, Nat.reduceMul, Int.reduceMul, Int.reduceAdd, Int.reduceSub, Nat.reduceAdd, Nat.reduceSub, Nat.reduceLeDiff, Int.reduceLT, Int.reduceLE, Int.reduceEq, Int.reduceMod, Int.reduceDiv, reduceCtorEq, not_true_eq_false, not_false_eq_true, hn]) | refine vIfE_of (fun _ => ?_) (fun _ => ?_) | refine vIfD_of (fun _ => ?_) (fun _ => ?_) | refine vIfQ_of (fun _ => ?_) (fun _ => ?_) | refine vIfV_of (fun _ => ?_) (fun _ => ?_) | refine And.intro (by omega) ?_ | refine drawn_q ?_ | fail)
  refine vc_loop W10_0 (fun p : Nat × Value => [(8, p.2), (9, .int .i64 (p.1 : Int))])
    (fun p w' => p.1 ≤ n ∧ Later w w' ∧ OwnB w' w.heap.size 5 p.2 (x3 (a.take p.1) (b.take p.1) (c.take p.1))) (fun p => n - p.1) (0, .slice none 0 0) (by decide) ?_ ?_ ?_
  · simp (disch := omega) only [push_cast, ↓reduceIte, Nat.reduceEqDiff, Int.reduceToNat, Nat.reducePow, Int.reducePow, Int.reduceNeg, Nat.reduceMul, Int.reduceMul, Int.reduceAdd, Int.reduceSub, Nat.reduceAdd, Nat.reduceSub, Nat.reduceLeDiff, Int.reduceLT, Int.reduceLE, Int.reduceEq, Int.reduceMod, Int.reduceDiv, reduceCtorEq, not_true_eq_false, not_false_eq_true]
  · exact ⟨by omega, Later.refl _, own_nil _ _ _ _⟩
  rintro ⟨i, v⟩ uu w1 ⟨hi, hl, ho⟩
  dsimp only at hi ho
  have hx3 : (x3 (a.take i) (b.take i) (c.take i)).length = i := by rw [x3_len _ _ _ (by simp; omega) (by simp; omega)]; simp; omega
  by_cases hi' : i < n
  · have ia : i < a.length := by omega
    have ib : i < b.length := by omega
    have ic : i < c.length := by omega
    obtain ⟨pa, rfl⟩ := ha.some ia
    obtain ⟨pb, rfl⟩ := hb.some ib
    obtain ⟨pc, rfl⟩ := hc.some ic
    have da := (ha.later hl).at8 ia
    have db := (hb.later hl).at8 ib
    have dc := (hc.later hl).at8 ic
    have x1 := bit_u8_xor a[i] b[i]
    have x2 := bit_u8_xor (a[i] ^^^ b[i]) c[i]
    have hst := x3_snoc a b c i ia ib ic
    obtain ⟨ov, cv, rfl⟩ := ho.slice
    have ho' := ho
    unfold OwnB at ho'
    rw [hx3] at ho' ⊢
    repeat' (first | (simp (disch := omega) only [push_cast, ↓reduceIte, Nat.reduceEqDiff, Int.reduceToNat, Nat.reducePow, Int.reducePow, Int.reduceNeg, Nat.reduceMul, Int.reduceMul, Int.reduceAdd, Int.reduceSub, Nat.reduceAdd, Nat.reduceSub, Nat.reduceLeDiff, Int.reduceLT, Int.reduceLE, Int.reduceEq, Int.reduceMod, Int.reduceDiv, reduceCtorEq, not_true_eq_false, not_false_eq_true]) | refine vIfE_of (fun _ => ?_) (fun _ => ?_) | refine vIfD_of (fun _ => ?_) (fun _ => ?_) | refine vIfQ_of (fun _ => ?_) (fun _ => ?_) | refine vIfV_of (fun _ => ?_) (fun _ => ?_) | refine And.intro (by omega) ?_ | fail)
    generalize hX : a[i] ^^^ b[i] ^^^ c[i] = X at *
    refine drawn_k 16 ?_
    repeat' (first | (simp (disch := omega) only [push_cast, ↓reduceIte, Nat.reduceEqDiff, Int.reduceToNat, Nat.reducePow, Int.reducePow, Int.reduceNeg, Nat.reduceMul, Int.reduceMul, Int.reduceAdd, Int.reduceSub, Nat.reduceAdd, Nat.reduceSub, Nat.reduceLeDiff, Int.reduceLT, Int.reduceLE, Int.reduceEq, Int.reduceMod, Int.reduceDiv, reduceCtorEq, not_true_eq_false, not_false_eq_true, da, db, dc, x1, x2]) | refine vIfE_of (fun _ => ?_) (fun _ => ?_) | refine vIfD_of (fun _ => ?_) (fun _ => ?_) | refine vIfQ_of (fun _ => ?_) (fun _ => ?_) | refine vIfV_of (fun _ => ?_) (fun _ => ?_) | refine And.intro (by omega) ?_ | fail)
    refine nB_of _ (RowV w1 5 #[.int .u8 X.toNat] 1) (stb_row _ _ _ _) (fun w' hl' => ?_) ?_
    · repeat' (first | (simp (disch := omega) only [push_cast, ↓reduceIte, Nat.reduceEqDiff, Int.reduceToNat, Nat.reducePow, Int.reducePow, Int.reduceNeg, Nat.reduceMul, Int.reduceMul, Int.reduceAdd, Int.reduceSub, Nat.reduceAdd, Nat.reduceSub, Nat.reduceLeDiff, Int.reduceLT, Int.reduceLE, Int.reduceEq, Int.reduceMod, Int.reduceDiv, reduceCtorEq, not_true_eq_false, not_false_eq_true, da, db, dc, x1, x2]) | refine vIfE_of (fun _ => ?_) (fun _ => ?_) | refine vIfD_of (fun _ => ?_) (fun _ => ?_) | refine vIfQ_of (fun _ => ?_) (fun _ => ?_) | refine vIfV_of (fun _ => ?_) (fun _ => ?_) | refine And.intro (by omega) ?_ | fail)
      exact RowV.new hl' _ _ _
    repeat' (first | (simp (disch := omega) only [push_cast, ↓reduceIte, Nat.reduceEqDiff, Int.reduceToNat, Nat.reducePow, Int.reducePow, Int.reduceNeg, Nat.reduceMul, Int.reduceMul, Int.reduceAdd, Int.reduceSub, Nat.reduceAdd, Nat.reduceSub, Nat.reduceLeDiff, Int.reduceLT, Int.reduceLE, Int.reduceEq, Int.reduceMod, Int.reduceDiv, reduceCtorEq, not_true_eq_false, not_false_eq_true]) | refine vIfE_of (fun _ => ?_) (fun _ => ?_) | refine vIfD_of (fun _ => ?_) (fun _ => ?_) | refine vIfQ_of (fun _ => ?_) (fun _ => ?_) | refine vIfV_of (fun _ => ?_) (fun _ => ?_) | refine And.intro (by omega) ?_ | fail)
    intro w2 hl2 x hx
    repeat' (first | (simp (disch := omega) only [push_cast, ↓reduceIte, Nat.reduceEqDiff, Int.reduceToNat, Nat.reducePow, Int.reducePow, Int.reduceNeg, Nat.reduceMul, Int.reduceMul, Int.reduceAdd, Int.reduceSub, Nat.reduceAdd, Nat.reduceSub, Nat.reduceLeDiff, Int.reduceLT, Int.reduceLE, Int.reduceEq, Int.reduceMod, Int.reduceDiv, reduceCtorEq, not_true_eq_false, not_false_eq_true]) | refine vIfE_of (fun _ => ?_) (fun _ => ?_) | refine vIfD_of (fun _ => ?_) (fun _ => ?_) | refine vIfQ_of (fun _ => ?_) (fun _ => ?_) | refine vIfV_of (fun _ => ?_) (fun _ => ?_) | refine And.intro (by omega) ?_ | fail)
    have hxs : SlN w2 1 x 1 [.int .u8 X.toNat] := hx.sl (l := [.int .u8 X.toNat]) rfl (by unfold maxLen; omega)
    refine vAppend_own Try.underlying24 ti5 rfl (by decide) (own_later ho' hl2) hxs (by simp; rfl) (by unfold maxLen; omega) (by omega) (hl.trans hl2).size ?_
    intro v' w' h1 g1 _
    have hl3 := (hl.trans hl2).appended (own_later ho' hl2) (Nat.le_refl _) g1
    have h1 : OwnB w' w.heap.size 5 v' (x3 (a.take i) (b.take i) (c.take i) ++ [X]) := own8_app (b := [X]) h1
    rw [← hst] at h1
    repeat' (first | (simp (disch := omega) only [push_cast, ↓reduceIte, Nat.reduceEqDiff, Int.reduceToNat, Nat.reducePow, Int.reducePow, Int.reduceNeg, Nat.reduceMul, Int.reduceMul, Int.reduceAdd, Int.reduceSub, Nat.reduceAdd, Nat.reduceSub, Nat.reduceLeDiff, Int.reduceLT, Int.reduceLE, Int.reduceEq, Int.reduceMod, Int.reduceDiv, reduceCtorEq, not_true_eq_false, not_false_eq_true]) | refine vIfE_of (fun _ => ?_) (fun _ => ?_) | refine vIfD_of (fun _ => ?_) (fun _ => ?_) | refine vIfQ_of (fun _ => ?_) (fun _ => ?_) | refine vIfV_of (fun _ => ?_) (fun _ => ?_) | refine And.intro (by omega) ?_ | fail)
    exact ⟨rfl, (i + 1, v'), by simp (disch := omega) only [push_cast, ↓reduceIte, Nat.reduceEqDiff, Int.reduceToNat, Nat.reducePow, Int.reducePow, Int.reduceNeg, Nat.reduceMul, Int.reduceMul, Int.reduceAdd, Int.reduceSub, Nat.reduceAdd, Nat.reduceSub, Nat.reduceLeDiff, Int.reduceLT, Int.reduceLE, Int.reduceEq, Int.reduceMod, Int.reduceDiv, reduceCtorEq, not_true_eq_false, not_false_eq_true], ⟨by dsimp only; omega, hl3, h1⟩, by simp; omega⟩
  · have e : i = n := by omega
    subst e
    obtain ⟨ov, cv, rfl⟩ := ho.slice
    have hos := ho.sl
    rw [hx3] at hos ⊢
    have pa := hsa.pre (k := i) hna
    have pb := hsb.pre (k := i) hnb
    have pc := hsc.pre (k := i) hnc
    rw [← List.map_take] at pa pb pc
    have hsum := sum_x3 (a.take i) (b.take i) (c.take i) (by simp; omega) (by simp; omega)
    have sa := sum_lt (a.take i)
    have sb := sum_lt (b.take i)
    have sc := sum_lt (c.take i)
    have y1 := bit_u32_xor _ _ sa sb
    have y2 := bit_u32_xor _ _ (xor_u32 sa sb) sc
    rw [← hsum] at y2
    repeat' (first | (simp (disch := omega) only [push_cast, ↓reduceIte, Nat.reduceEqDiff, Int.reduceToNat, Nat.reducePow, Int.reducePow, Int.reduceNeg, Nat.reduceMul, Int.reduceMul, Int.reduceAdd, Int.reduceSub, Nat.reduceAdd, Nat.reduceSub, Nat.reduceLeDiff, Int.reduceLT, Int.reduceLE, Int.reduceEq, Int.reduceMod, Int.reduceDiv, reduceCtorEq, not_true_eq_false, not_false_eq_true]) | refine vIfE_of (fun _ => ?_) (fun _ => ?_) | refine vIfD_of (fun _ => ?_) (fun _ => ?_) | refine vIfQ_of (fun _ => ?_) (fun _ => ?_) | refine vIfV_of (fun _ => ?_) (fun _ => ?_) | refine And.intro (by omega) ?_ | refine drawn_q ?_ | fail)
    refine QFn.of hb26 (v := .bool true) (fun w' _ => (calive_c w').mono fun _ _ h => h) ?_
    repeat' (first | (simp (disch := omega) only [push_cast, ↓reduceIte, Nat.reduceEqDiff, Int.reduceToNat, Nat.reducePow, Int.reducePow, Int.reduceNeg, Nat.reduceMul, Int.reduceMul, Int.reduceAdd, Int.reduceSub, Nat.reduceAdd, Nat.reduceSub, Nat.reduceLeDiff, Int.reduceLT, Int.reduceLE, Int.reduceEq, Int.reduceMod, Int.reduceDiv, reduceCtorEq, not_true_eq_false, not_false_eq_true]) | refine vIfE_of (fun _ => ?_) (fun _ => ?_) | refine vIfD_of (fun _ => ?_) (fun _ => ?_) | refine vIfQ_of (fun _ => ?_) (fun _ => ?_) | refine vIfV_of (fun _ => ?_) (fun _ => ?_) | refine And.intro (by omega) ?_ | refine drawn_q ?_ | fail)
    refine QFn.of hb28 (v := .int .u32 (sum (x3 (a.take i) (b.take i) (c.take i)) : Nat)) (fun w' hl' => (sum_c _ _ w' (hos.later hl')).mono fun _ _ h => h) ?_
    repeat' (first | (simp (disch := omega) only [push_cast, ↓reduceIte, Nat.reduceEqDiff, Int.reduceToNat, Nat.reducePow, Int.reducePow, Int.reduceNeg, Nat.reduceMul, Int.reduceMul, Int.reduceAdd, Int.reduceSub, Nat.reduceAdd, Nat.reduceSub, Nat.reduceLeDiff, Int.reduceLT, Int.reduceLE, Int.reduceEq, Int.reduceMod, Int.reduceDiv, reduceCtorEq, not_true_eq_false, not_false_eq_true]) | refine vIfE_of (fun _ => ?_) (fun _ => ?_) | refine vIfD_of (fun _ => ?_) (fun _ => ?_) | refine vIfQ_of (fun _ => ?_) (fun _ => ?_) | refine vIfV_of (fun _ => ?_) (fun _ => ?_) | refine And.intro (by omega) ?_ | refine drawn_q ?_ | fail)
    refine QFn.of hb28 (v := .int .u32 (sum (a.take i) : Nat)) (fun w' hl' => (sum_c _ _ w' (pa.later (hl.trans hl'))).mono fun _ _ h => h) ?_
    repeat' (first | (simp (disch := omega) only [push_cast, ↓reduceIte, Nat.reduceEqDiff, Int.reduceToNat, Nat.reducePow, Int.reducePow, Int.reduceNeg, Nat.reduceMul, Int.reduceMul, Int.reduceAdd, Int.reduceSub, Nat.reduceAdd, Nat.reduceSub, Nat.reduceLeDiff, Int.reduceLT, Int.reduceLE, Int.reduceEq, Int.reduceMod, Int.reduceDiv, reduceCtorEq, not_true_eq_false, not_false_eq_true]) | refine vIfE_of (fun _ => ?_) (fun _ => ?_) | refine vIfD_of (fun _ => ?_) (fun _ => ?_) | refine vIfQ_of (fun _ => ?_) (fun _ => ?_) | refine vIfV_of (fun _ => ?_) (fun _ => ?_) | refine And.intro (by omega) ?_ | refine drawn_q ?_ | fail)
    refine QFn.of hb28 (v := .int .u32 (sum (b.take i) : Nat)) (fun w' hl' => (sum_c _ _ w' (pb.later (hl.trans hl'))).mono fun _ _ h => h) ?_
    repeat' (first | (simp (disch := omega) only [push_cast, ↓reduceIte, Nat.reduceEqDiff, Int.reduceToNat, Nat.reducePow, Int.reducePow, Int.reduceNeg, Nat.reduceMul, Int.reduceMul, Int.reduceAdd, Int.reduceSub, Nat.reduceAdd, Nat.reduceSub, Nat.reduceLeDiff, Int.reduceLT, Int.reduceLE, Int.reduceEq, Int.reduceMod, Int.reduceDiv, reduceCtorEq, not_true_eq_false, not_false_eq_true]) | refine vIfE_of (fun _ => ?_) (fun _ => ?_) | refine vIfD_of (fun _ => ?_) (fun _ => ?_) | refine vIfQ_of (fun _ => ?_) (fun _ => ?_) | refine vIfV_of (fun _ => ?_) (fun _ => ?_) | refine And.intro (by omega) ?_ | refine drawn_q ?_ | fail)
    refine QFn.of hb28 (v := .int .u32 (sum (c.take i) : Nat)) (fun w' hl' => (sum_c _ _ w' (pc.later (hl.trans hl'))).mono fun _ _ h => h) ?_
    repeat' (first | (simp (disch := omega) only [push_cast, ↓reduceIte, Nat.reduceEqDiff, Int.reduceToNat, Nat.reducePow, Int.reducePow, Int.reduceNeg, Nat.reduceMul, Int.reduceMul, Int.reduceAdd, Int.reduceSub, Nat.reduceAdd, Nat.reduceSub, Nat.reduceLeDiff, Int.reduceLT, Int.reduceLE, Int.reduceEq, Int.reduceMod, Int.reduceDiv, reduceCtorEq, not_true_eq_false, not_false_eq_true, y1, y2]) | refine vIfE_of (fun _ => ?_) (fun _ => ?_) | refine vIfD_of (fun _ => ?_) (fun _ => ?_) | refine vIfQ_of (fun _ => ?_) (fun _ => ?_) | refine vIfV_of (fun _ => ?_) (fun _ => ?_) | refine And.intro (by omega) ?_ | refine drawn_q ?_ | fail)
    intro w' hl'
    repeat' (first | (simp (disch := omega) only [push_cast, ↓reduceIte, Nat.reduceEqDiff, Int.reduceToNat, Nat.reducePow, Int.reducePow, Int.reduceNeg, Nat.reduceMul, Int.reduceMul, Int.reduceAdd, Int.reduceSub, Nat.reduceAdd, Nat.reduceSub, Nat.reduceLeDiff, Int.reduceLT, Int.reduceLE, Int.reduceEq, Int.reduceMod, Int.reduceDiv, reduceCtorEq, not_true_eq_false, not_false_eq_true]) | refine vIfE_of (fun _ => ?_) (fun _ => ?_) | refine vIfD_of (fun _ => ?_) (fun _ => ?_) | refine vIfQ_of (fun _ => ?_) (fun _ => ?_) | refine vIfV_of (fun _ => ?_) (fun _ => ?_) | refine And.intro (by omega) ?_ | refine drawn_q ?_ | fail)
    exact hl.trans hl'
theorem own : ownKnob Try.prog.godebug = none := by kernel_rfl
theorem lifted (os : Os) (started : os.Started) (H : Type) (enc : TypeId × Value → H) :
    ReturnsInHanded {} Try.checked os 10 .any (Rows.checkLinearSpec.pre6 enc Try.prog Try.f10 Rows.checkLinearRow.domain false) (Rows.checkLinearSpec.post enc Try.prog Try.f10 false true false false) := by
  refine lifted_later (C := Try.checked) own started (by kernel_rfl) Try.func10 hb10
    (ChangeSpec.witness6 (enc := enc) (C := Try.checked) false ⟨#[], #[.slice none 0 0, .slice none 0 0, .slice none 0 0], []⟩ 10 (by kernel_rfl) (by kernel_rfl) (by kernel_rfl) (by kernel_rfl))
    (by kernel_rfl) (list_all (by kernel_rfl)) (by kernel_rfl) Try.underlying4 rfl ?_ ?_
  · intro ds h
    have h : ds.length = 3 := h
    match ds, h with
    | [_, _, _], _ => rfl
  · intro W base args ds p hval0 hA0
    have hval : ∀ (j : Nat) t v, Try.f10.params[j]? = some t → args[j]? = some v → Value.okWide Try.prog W .any base t v := hval0
    have hA : DataW.TrodAll enc Try.prog W 0 (fun _ => true) true Try.f10.params.toList args.toList ds p := hA0
    rw [Try.params10] at hA hval
    obtain ⟨v0, vs0, d0, ds0, p0, q0, hargs, rfl, rfl, h0, r0⟩ := trodAll_cons hA
    obtain ⟨v1, vs1, d1, ds1, p1, q1, rfl, rfl, rfl, h1, r1⟩ := trodAll_cons r0
    obtain ⟨v2, vs2, d2, ds2, p2, q2, rfl, rfl, rfl, h2, r2⟩ := trodAll_cons r1
    obtain ⟨rfl, rfl, rfl⟩ := trodAll_nil r2
    obtain rfl : args = #[v0, v1, v2] := by cases args; simp_all
    obtain ⟨a0, w0⟩ := open_u8s Try.underlying24 Try.underlying5 (by kernel_rfl) (hval 0 24 v0 rfl rfl) h0
    obtain ⟨a1, w1⟩ := open_u8s Try.underlying24 Try.underlying5 (by kernel_rfl) (hval 1 24 v1 rfl rfl) h1
    obtain ⟨a2, w2⟩ := open_u8s Try.underlying24 Try.underlying5 (by kernel_rfl) (hval 2 24 v2 rfl rfl) h2
    exact law_c v0 v1 v2 a0 a1 a2 W w0 w1 w2
theorem over : Rows.checkLinearRow.holds Try.pinned (OpenSpec.ofChange Rows.checkLinearSpec) :=
  OpenClaim.holds_of_wide 10 Try.f10 rfl rfl rfl rfl rfl rfl rfl ⟨rfl, rfl, rfl, rfl, rfl⟩ rfl rfl rfl rfl rfl (by kernel_rfl) Try.func10 (by kernel_rfl)
    (of_decide_eq_true (by kernel_rfl)) (by unfold Func.isWrapper; first | (rw [if_pos (by decide +kernel)]; kernel_rfl) | (rw [if_neg (by decide +kernel)]; exact ⟨rfl, rfl⟩))
    (fun os started H enc _ => lifted os started H enc)
/-- The statement. -/
theorem proved : Rows.CheckLinearSaid :=
  over
end Go.Proofs.Ytkchefbnamiikaa.checkLinear
