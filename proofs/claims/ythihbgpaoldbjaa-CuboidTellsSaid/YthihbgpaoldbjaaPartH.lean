/- Contracts: the document's Join. -/
import Derived.ArgAppend
import Derived.Shelf.GgClosure.StringsRunes
import Derived.Shelf.Strings.IndexAnyAll
import Derived.Shelf.Strings.FuncGrows
import Derived.Shelf.Slices.Turned
import Derived.Test.YthihbgpaoldbjaaProg
import Derived.Laws.RangeAny
import Derived.Test.YthihbgpaoldbjaaPartG
set_option linter.all false
open Nat renaming reduceEqDiff → zA, reducePow → zB, reduceMul → zC, reduceAdd → zD, reduceSub → zE, reduceLeDiff → zF
open Int renaming reduceToNat → zG, reducePow → zH, reduceNeg → zI, reduceMul → zJ, reduceAdd → zK, reduceSub → zL, reduceLT → zM, reduceLE → zN, reduceEq → zO, reduceMod → zP, reduceDiv → zQ
section
set_option linter.unusedSimpArgs false
namespace Go.Vc
open Go.RowKit in
/-- An append to an empty literal. -/
theorem vAppend_fresh {P : Program} {w : World} {K : Value → World → Prop} {t e ty : TypeId} {z : Value} {s b : Nat} (ht : P.underlying t = some (.slice e)) (hi : (P.info? e).map (fun i => (i.zero, i.size, i.bytes)) = some (some z, s, b)) (hzs : z.cells.size = s) (hsz : 0 < s)
    {db : Nat} {x : Value} {m : Nat} {news : List Value} (hx : SlN w s x m news) (h63 : m ≤ maxLen) (hb : m * b ≤ 140737488355328)
    (hK : ∀ v' w', (m = 0 → v' = .slice (some ⟨db, 0, none⟩) 0 0 ∧ w' = w) → (0 < m → w'.ownsRow w.heap.size e s v' m news ∧ Later w w') → K v' w') : vAppend P #[t, t] ty #[.slice (some ⟨db, 0, none⟩) 0 0, x] K w := by
  obtain ⟨i, hi1, hz, hsi, hbi⟩ := info_parts hi
  unfold vAppend
  obtain ⟨hl, hr⟩ := hx
  rcases hr with ⟨rfl, rfl⟩ | ⟨ad, c, rfl, hc1, hc2, hc3⟩
  · rw [run_val_pure (run_append_nil_src ht hi (some ⟨db, 0, none⟩) 0 0 (Nat.le_refl _) (fun ho => by cases ho))]
    exact hK _ _ (fun _ => ⟨rfl, rfl⟩) (fun h => absurd h (Nat.lt_irrefl _))
  · by_cases hm : m = 0
    · subst hm
      have hn : news = [] := List.eq_nil_of_length_eq_zero (by simpa using hl)
      subst hn
      have hrun := run_append_room_cells (P := P) w t ty e i ht hi1 db 0 0 0 ad 0 c [] (by simp) (fun j u h => by simp at h) (fun u h => by simp at h) (by omega) (fun j h => by simp at h) (fun j h => by simp at h)
      rw [run_val_pure hrun]
      exact hK _ _ (fun _ => ⟨rfl, rfl⟩) (fun h => absurd h (Nat.lt_irrefl _))
    · obtain ⟨v', w', hrun, ho, hg⟩ := run_append_arg_grows (P := P) w t ty e i z s b ht hi1 hz hsi hbi hzs hsz ⟨db, 0, none⟩ 0 0 [] (by simp) (fun j u h => by simp at h) ad m c news hl hc3 (by omega) (by omega) (by simpa using hb)
      rw [run_val_pure hrun]
      refine hK _ _ (fun h => absurd h hm) (fun _ => ⟨by simpa using ho, hg.os, hg.tape, hg.output, hg.size, fun k hk => hg.block k hk (by simp)⟩)
/-- An append to what hangs on the world. -/
theorem nR_app {P : Program} {args : Array Operand} {ts : Array TypeId} {ty : TypeId} {rs : List Nat} {Ns : NS} {σ : Env} {w : World} {Kv : Value → Prop} {Kn : (Value → World → Prop) → Prop} (V' : Value → World → Prop) (hV' : Stb w V')
    (h : ∀ σ' w', Later w w' → psis Ns σ w' σ' rs → vAppend P ts ty (args.map (ev σ')) (fun v w'' => Later w' w'' ∧ V' v w'') w') (hk : Kn V') : nR P (.call ⟨.builtin .append, args, ts⟩) ty rs Ns σ w Kv Kn :=
  .inr ⟨V', hV', fun σ' w' hl hp => nUp_val (h σ' w' hl hp), hk⟩
end Go.Vc
namespace Go.Proofs.Ythihbgpaoldbjaa
open Go.Vc Go.Key Go.Stab Go.Fold
set_option maxRecDepth 100000
def Lit0 (B : Nat) (v : Value) (w : World) : Prop := (∃ b, v = .slice (some ⟨b, 0, none⟩) 0 0) ∧ OwnS w B v []
theorem stb_lit0 (w0 : World) (B : Nat) : Stb w0 (Lit0 B) := fun _ _ _ _ hl h => ⟨h.1, own_later h.2 hl⟩
set_option maxHeartbeats 1000000 in
theorem djoin_c (x y : El) (w : World) (hx : EIs w x) (hy : EIs w y) (rx : Rr x) (ry : Rr y) (hl : x.a.length = y.a.length) :
    FnC Try.prog 37 #[elV x, elV y] w fun r w' => ∃ z e, r = .tuple #[elV z, .int .i64 e] ∧ JR x y z e ∧ EO w' w.heap.size z ∧ Later w w' := by
  obtain ⟨n1, n2, ra, rd, rl⟩ := rx
  obtain ⟨m1, m2, sa, sd, sl⟩ := ry
  unfold elV
  refine enter37 _ _ ?_
  unfold B37
  have eca : (Value.agg #[.int .i64 x.t, x.dv, .int .i64 x.n, x.av]).cells = #[.int .i64 x.t, x.dv, .int .i64 x.n, x.av] := rfl
  have ecb : (Value.agg #[.int .i64 y.t, y.dv, .int .i64 y.n, y.av]).cells = #[.int .i64 y.t, y.dv, .int .i64 y.n, y.av] := rfl
  have s1 : (w.alloc (.cells #[.int .i64 x.t, x.dv, .int .i64 x.n, x.av] 35)).heap.size = w.heap.size + 1 := World.size_alloc w _
  obtain ⟨l2, F, hs⟩ := boxes w x y hx hy
  repeat' (first | (simp (disch := omega) only [push_cast, ↓reduceIte, zA, zG, zB, zH, zI, zC, zJ, zK, zL, zD, zE, zF, zM, zN, zO, zP, zQ, reduceCtorEq, not_true_eq_false, not_false_eq_true, eca, ecb, s1, hs]) | (first | refine vIfE_of ?_ ?_ | refine vIfD_of ?_ ?_ | refine vIfQ_of ?_ ?_ | refine vIfV_of ?_ ?_) <;> intro _ | refine And.intro (by omega) ?_ | fail)
  generalize ((w.alloc (.cells #[.int .i64 x.t, x.dv, .int .i64 x.n, x.av] 35)).alloc (.cells #[.int .i64 y.t, y.dv, .int .i64 y.n, y.av] 35)) = w2 at *
  have l3 := later_alloc w2 (.cells #[.int .i64 0, .slice none 0 0, .int .i64 0, .slice none 0 0] 35)
  have B3 := Blk.new w2 #[.int .i64 0, .slice none 0 0, .int .i64 0, .slice none 0 0] 35
  rw [hs] at B3
  generalize w2.alloc (.cells #[.int .i64 0, .slice none 0 0, .int .i64 0, .slice none 0 0] 35) = w3 at *
  have G := fun w' (hl : Later w3 w') => F w' (l3.trans hl)
  have l03 := l2.trans l3
  clear F eca ecb s1
  obtain ⟨hx3, hy3, _, _, a0, a1, a2, a3, a4, b0, b1, b2, b3, b4⟩ := G w3 (Later.refl _)
  obtain ⟨ox, cx, hax, gx1, gx2⟩ := RecS.slice hx.2
  obtain ⟨oy, cy, hay, gy1, gy2⟩ := RecS.slice hy.2
  have hbig : w.heap.size + 2 < w3.heap.size := B3.lt
  repeat' (first | (simp (disch := omega) only [push_cast, ↓reduceIte, zA, zG, zB, zH, zI, zC, zJ, zK, zL, zD, zE, zF, zM, zN, zO, zP, zQ, reduceCtorEq, not_true_eq_false, not_false_eq_true, a4, b4]) | (first | refine vIfE_of ?_ ?_ | refine vIfD_of ?_ ?_ | refine vIfQ_of ?_ ?_ | refine vIfV_of ?_ ?_) <;> intro _ | refine And.intro (by omega) ?_ | refine drawn_q ?_ | fail)
  refine (onekey_c x y w3 hx3 hy3).mono ?_
  rintro _ w4 ⟨rfl, l4⟩
  obtain ⟨hx4, hy4, _, _, a0, a1, a2, a3, a4, b0, b1, b2, b3, b4⟩ := G w4 l4
  rw [hax] at a3
  rw [hay] at b3
  by_cases hc : ecmp x y = 0
  case neg =>
    have hj : JR x y z0 131 := .inl ⟨hc, rfl, rfl⟩
    rw [decide_eq_false hc]
    repeat' (first | (simp (disch := omega) only [push_cast, ↓reduceIte, zA, zG, zB, zH, zI, zC, zJ, zK, zL, zD, zE, zF, zM, zN, zO, zP, zQ, reduceCtorEq, not_true_eq_false, not_false_eq_true, a2, a3, b2, b3, addr_add_eq, Nat.zero_add]) | (first | refine vIfE_of ?_ ?_ | refine vIfD_of ?_ ?_ | refine vIfQ_of ?_ ?_ | refine vIfV_of ?_ ?_) <;> intro _ | refine And.intro (by omega) ?_ | refine drawn_q ?_ | fail)
    refine vStore_blk (l := [.int .i64 0, .slice none 0 0, .int .i64 0, .slice none 0 0]) (xs := elC z0) (B3.chg (Chg.of_later (ks := []) (l4)) (by simp)) rfl rfl (elC_one (EO.zero w4 0).is) ?_
    intro w9 B9 c9
    repeat' (first | (simp (disch := omega) only [push_cast, ↓reduceIte, zA, zG, zB, zH, zI, zC, zJ, zK, zL, zD, zE, zF, zM, zN, zO, zP, zQ, reduceCtorEq, not_true_eq_false, not_false_eq_true]) | (first | refine vIfE_of ?_ ?_ | refine vIfD_of ?_ ?_ | refine vIfQ_of ?_ ?_ | refine vIfV_of ?_ ?_) <;> intro _ | refine And.intro (by omega) ?_ | refine drawn_q ?_ | fail)
    refine resK_cells (s := 4) (by simp (disch := omega) only [push_cast, ↓reduceIte, zA, zG, zB, zH, zI, zC, zJ, zK, zL, zD, zE, zF, zM, zN, zO, zP, zQ, reduceCtorEq, not_true_eq_false, not_false_eq_true]) (by rw [Try.underlying35]; exact sz35) (Blk.cellsAt (l := elC z0) B9) ?_
    repeat' (first | (simp (disch := omega) only [push_cast, ↓reduceIte, zA, zG, zB, zH, zI, zC, zJ, zK, zL, zD, zE, zF, zM, zN, zO, zP, zQ, reduceCtorEq, not_true_eq_false, not_false_eq_true]) | (first | refine vIfE_of ?_ ?_ | refine vIfD_of ?_ ?_ | refine vIfQ_of ?_ ?_ | refine vIfV_of ?_ ?_) <;> intro _ | refine And.intro (by omega) ?_ | refine drawn_q ?_ | fail)
    exact ⟨z0, 131, rfl, hj, EO.zero _ _, Chg.later (l03.trans (l4)) c9 (by intro j hj; rw [List.mem_singleton.1 hj]; omega)⟩
  rw [decide_eq_true hc]
  by_cases hn : 1048576 < x.n + y.n
  · have hj : JR x y z0 121 := .inr (.inl ⟨hc, by rw [jn_abs, if_pos hn], rfl, rfl⟩)
    repeat' (first | (simp (disch := omega) only [push_cast, ↓reduceIte, zA, zG, zB, zH, zI, zC, zJ, zK, zL, zD, zE, zF, zM, zN, zO, zP, zQ, reduceCtorEq, not_true_eq_false, not_false_eq_true, a2, a3, b2, b3, addr_add_eq, Nat.zero_add]) | (first | refine vIfE_of ?_ ?_ | refine vIfD_of ?_ ?_ | refine vIfQ_of ?_ ?_ | refine vIfV_of ?_ ?_) <;> intro _ | refine And.intro (by omega) ?_ | refine drawn_q ?_ | fail)
    refine vStore_blk (l := [.int .i64 0, .slice none 0 0, .int .i64 0, .slice none 0 0]) (xs := elC z0) (B3.chg (Chg.of_later (ks := []) (l4)) (by simp)) rfl rfl (elC_one (EO.zero w4 0).is) ?_
    intro w9 B9 c9
    repeat' (first | (simp (disch := omega) only [push_cast, ↓reduceIte, zA, zG, zB, zH, zI, zC, zJ, zK, zL, zD, zE, zF, zM, zN, zO, zP, zQ, reduceCtorEq, not_true_eq_false, not_false_eq_true]) | (first | refine vIfE_of ?_ ?_ | refine vIfD_of ?_ ?_ | refine vIfQ_of ?_ ?_ | refine vIfV_of ?_ ?_) <;> intro _ | refine And.intro (by omega) ?_ | refine drawn_q ?_ | fail)
    refine resK_cells (s := 4) (by simp (disch := omega) only [push_cast, ↓reduceIte, zA, zG, zB, zH, zI, zC, zJ, zK, zL, zD, zE, zF, zM, zN, zO, zP, zQ, reduceCtorEq, not_true_eq_false, not_false_eq_true]) (by rw [Try.underlying35]; exact sz35) (Blk.cellsAt (l := elC z0) B9) ?_
    repeat' (first | (simp (disch := omega) only [push_cast, ↓reduceIte, zA, zG, zB, zH, zI, zC, zJ, zK, zL, zD, zE, zF, zM, zN, zO, zP, zQ, reduceCtorEq, not_true_eq_false, not_false_eq_true]) | (first | refine vIfE_of ?_ ?_ | refine vIfD_of ?_ ?_ | refine vIfQ_of ?_ ?_ | refine vIfV_of ?_ ?_) <;> intro _ | refine And.intro (by omega) ?_ | refine drawn_q ?_ | fail)
    exact ⟨z0, 121, rfl, hj, EO.zero _ _, Chg.later (l03.trans (l4)) c9 (by intro j hj; rw [List.mem_singleton.1 hj]; omega)⟩
  repeat' (first | (simp (disch := omega) only [push_cast, ↓reduceIte, zA, zG, zB, zH, zI, zC, zJ, zK, zL, zD, zE, zF, zM, zN, zO, zP, zQ, reduceCtorEq, not_true_eq_false, not_false_eq_true, a2, a3, b2, b3, addr_add_eq, Nat.zero_add]) | (first | refine vIfE_of ?_ ?_ | refine vIfD_of ?_ ?_ | refine vIfQ_of ?_ ?_ | refine vIfV_of ?_ ?_) <;> intro _ | refine And.intro (by omega) ?_ | fail)
  refine drawn_k 13 ?_
  repeat' (first | (simp (disch := omega) only [push_cast, ↓reduceIte, zA, zG, zB, zH, zI, zC, zJ, zK, zL, zD, zE, zF, zM, zN, zO, zP, zQ, reduceCtorEq, not_true_eq_false, not_false_eq_true, a0, a1, a2, b2, addr_add_eq, Nat.zero_add]) | (first | refine vIfE_of ?_ ?_ | refine vIfD_of ?_ ?_ | refine vIfQ_of ?_ ?_ | refine vIfV_of ?_ ?_) <;> intro _ | refine And.intro (by omega) ?_ | fail)
  have hsz4 : w.heap.size ≤ w4.heap.size := (l03.trans l4).size
  refine nB_of _ (Lit0 w.heap.size) (stb_lit0 _ _) (fun w' hl => ?_) ?_
  · repeat' (first | (simp (disch := omega) only [push_cast, ↓reduceIte, zA, zG, zB, zH, zI, zC, zJ, zK, zL, zD, zE, zF, zM, zN, zO, zP, zQ, reduceCtorEq, not_true_eq_false, not_false_eq_true]) | (first | refine vIfE_of ?_ ?_ | refine vIfD_of ?_ ?_ | refine vIfQ_of ?_ ?_ | refine vIfV_of ?_ ?_) <;> intro _ | refine And.intro (by omega) ?_ | fail)
    exact ⟨later_alloc _ _, ⟨_, rfl⟩, own_lit w' [] _ 1 0 rfl (by unfold maxLen; omega) (Nat.le_trans hsz4 hl.size)⟩
  repeat' (first | (simp (disch := omega) only [push_cast, ↓reduceIte, zA, zG, zB, zH, zI, zC, zJ, zK, zL, zD, zE, zF, zM, zN, zO, zP, zQ, reduceCtorEq, not_true_eq_false, not_false_eq_true, a0, a1, a2, b2, addr_add_eq, Nat.zero_add]) | (first | refine vIfE_of ?_ ?_ | refine vIfD_of ?_ ?_ | refine vIfQ_of ?_ ?_ | refine vIfV_of ?_ ?_) <;> intro _ | refine And.intro (by omega) ?_ | fail)
  refine nR_app (fun v w' => OwnS w' w.heap.size v x.d) (stb_ownS _ _ _) (fun σ' w' hl hp => ?_) ?_
  · obtain ⟨hp26, hp28, _⟩ := hp
    obtain ⟨⟨lb, h26⟩, h26o⟩ : Lit0 w.heap.size (σ' 26) w' := hp26
    have h28 : σ' 28 = x.dv := hp28
    have hxs := (hx4.later hl).1
    have hsn : SlN w' 1 x.dv x.d.length (x.d.map Value.string) := by
      have := hxs
      unfold StS Sl at this
      rwa [List.length_map] at this
    rw [h26] at h26o
    repeat' (first | (simp (disch := omega) only [push_cast, ↓reduceIte, zA, zG, zB, zH, zI, zC, zJ, zK, zL, zD, zE, zF, zM, zN, zO, zP, zQ, reduceCtorEq, not_true_eq_false, not_false_eq_true, h28, h26]) | (first | refine vIfE_of ?_ ?_ | refine vIfD_of ?_ ?_ | refine vIfQ_of ?_ ?_ | refine vIfV_of ?_ ?_) <;> intro _ | refine And.intro (by omega) ?_ | fail)
    refine vAppend_fresh Try.underlying22 ti9 rfl (by decide) hsn (by unfold maxLen; omega) (by omega) ?_
    intro v' w'' h0 h1
    rcases Nat.eq_zero_or_pos x.d.length with hz | hz
    · obtain ⟨rfl, rfl⟩ := h0 hz
      have : x.d = [] := List.length_eq_zero_iff.1 hz
      rw [this]
      exact ⟨Later.refl _, h26o⟩
    · obtain ⟨ho, hll⟩ := h1 hz
      exact ⟨hll, own_base ho (Nat.le_trans hsz4 hl.size)⟩
  repeat' (first | (simp (disch := omega) only [push_cast, ↓reduceIte, zA, zG, zB, zH, zI, zC, zJ, zK, zL, zD, zE, zF, zM, zN, zO, zP, zQ, reduceCtorEq, not_true_eq_false, not_false_eq_true, a0, a1, a2, b2, addr_add_eq, Nat.zero_add]) | (first | refine vIfE_of ?_ ?_ | refine vIfD_of ?_ ?_ | refine vIfQ_of ?_ ?_ | refine vIfV_of ?_ ?_) <;> intro _ | refine And.intro (by omega) ?_ | fail)
  refine nR_bld (RowB w.heap.size x.t (x.n + y.n) x.d) (stb_rowB _ _ _ _ _) (fun σ' w' hl hp => ?_) ?_
  · obtain ⟨hp25, hp29, hp34, _⟩ := hp
    have h25 : σ' 25 = .int .i64 x.t := hp25
    have h29 : OwnS w' w.heap.size (σ' 29) x.d := hp29
    have h34 : σ' 34 = .int .i64 (x.n + y.n) := hp34
    obtain ⟨o3, c3, hv, _⟩ := Sl.openM (Sl.of_own h29 : Sl w' (σ' 29) (x.d.map Value.string))
    rw [hv] at h29
    repeat' (first | (simp (disch := omega) only [push_cast, ↓reduceIte, zA, zG, zB, zH, zI, zC, zJ, zK, zL, zD, zE, zF, zM, zN, zO, zP, zQ, reduceCtorEq, not_true_eq_false, not_false_eq_true, h25, hv, h34]) | (first | refine vIfE_of ?_ ?_ | refine vIfD_of ?_ ?_ | refine vIfQ_of ?_ ?_ | refine vIfV_of ?_ ?_) <;> intro _ | refine And.intro (by omega) ?_ | fail)
    exact ⟨Later.refl _, _, rfl, h29⟩
  repeat' (first | (simp (disch := omega) only [push_cast, ↓reduceIte, zA, zG, zB, zH, zI, zC, zJ, zK, zL, zD, zE, zF, zM, zN, zO, zP, zQ, reduceCtorEq, not_true_eq_false, not_false_eq_true]) | (first | refine vIfE_of ?_ ?_ | refine vIfD_of ?_ ?_ | refine vIfQ_of ?_ ?_ | refine vIfV_of ?_ ?_) <;> intro _ | refine And.intro (by omega) ?_ | fail)
  refine nA_of _ (PtV w4 35 #[.int .i64 0, .slice none 0 0, .int .i64 0, .slice none 0 0]) (stb_pt _ _ _ _) (fun w' hl => ?_) ?_
  · repeat' (first | (simp (disch := omega) only [push_cast, ↓reduceIte, zA, zG, zB, zH, zI, zC, zJ, zK, zL, zD, zE, zF, zM, zN, zO, zP, zQ, reduceCtorEq, not_true_eq_false, not_false_eq_true]) | (first | refine vIfE_of ?_ ?_ | refine vIfD_of ?_ ?_ | refine vIfQ_of ?_ ?_ | refine vIfV_of ?_ ?_) <;> intro _ | refine And.intro (by omega) ?_ | fail)
    exact ⟨later_alloc _ _, w'.heap.size, rfl, hl.size, Blk.new _ _ _⟩
  repeat' (first | (simp (disch := omega) only [push_cast, ↓reduceIte, zA, zG, zB, zH, zI, zC, zJ, zK, zL, zD, zE, zF, zM, zN, zO, zP, zQ, reduceCtorEq, not_true_eq_false, not_false_eq_true]) | (first | refine vIfE_of ?_ ?_ | refine vIfD_of ?_ ?_ | refine vIfQ_of ?_ ?_ | refine vIfV_of ?_ ?_) <;> intro _ | refine And.intro (by omega) ?_ | fail)
  rintro w5 l5 _ ⟨b, rfl, hb4, Bb⟩ _ ⟨u, rfl, hu⟩ _ _ _ _
  obtain ⟨ou, cu, rfl, _⟩ := Sl.openM (Sl.of_own hu : Sl w5 u (x.d.map Value.string))
  have hE0 : EO w5 w.heap.size ⟨x.t, x.d, x.n + y.n, [], .slice ou x.d.length cu, .slice none 0 0⟩ := ⟨hu, OwnR.nil _ _ _⟩
  generalize hU : Value.slice ou x.d.length cu = U at *
  refine vStore_blk (l := [.int .i64 0, .slice none 0 0, .int .i64 0, .slice none 0 0]) (xs := elC ⟨x.t, x.d, x.n + y.n, [], U, .slice none 0 0⟩) Bb rfl rfl (elC_one hE0.is) ?_
  intro w6 Bb6 c6
  have l35 := l4.trans l5
  have hb2 : w.heap.size + 2 < b := Nat.lt_of_lt_of_le hbig (Nat.le_trans l4.size hb4)
  have B35 := B3.chg (Chg.of_later (ks := []) l35) (by simp)
  obtain ⟨_, _, bx5, by5, _⟩ := G w5 l35
  have J0 : JS w w6 b x y U 0 := ⟨by omega, Chg.later (l03.trans l35) c6 (by intro j hj; rw [List.mem_singleton.1 hj]; omega), bx5.chg c6 (by simp; omega), by5.chg c6 (by simp; omega), B35.chg c6 (by simp; omega), [], .slice none 0 0, Bb6, hE0.chg Bb c6, by simp [jaggs]⟩
  clear hE0 Bb6 c6 Bb B35 bx5 by5 G hx4 hy4 a0 a1 a2 a3 a4 b0 b1 b2 b3 b4 hx3 hy3 B3 l2 l3 l03 l4 l5 l35 hu hs
  have f3 : w6.cell? ⟨w.heap.size, 3, none⟩ = some (.slice ox x.a.length cx) := by have := J0.bx.cell 3; rw [← hax]; exact this
  repeat' (first | (simp (disch := omega) only [push_cast, ↓reduceIte, zA, zG, zB, zH, zI, zC, zJ, zK, zL, zD, zE, zF, zM, zN, zO, zP, zQ, reduceCtorEq, not_true_eq_false, not_false_eq_true, f3, addr_add_eq, Nat.zero_add]) | (first | refine vIfE_of ?_ ?_ | refine vIfD_of ?_ ?_ | refine vIfQ_of ?_ ?_ | refine vIfV_of ?_ ?_) <;> intro _ | refine And.intro (by omega) ?_ | refine drawn_q ?_ | fail)
  clear f3
  have fin : ∀ w' z e, JR x y z e → EO w' w.heap.size z → Later w w' → ∃ z e', Value.tuple #[elV z, .int .i64 e] = .tuple #[elV z, .int .i64 e'] ∧ True := fun w' z e _ _ _ => ⟨z, e, rfl, trivial⟩
  refine vc_loop W37_0 (fun i : Nat => [(8, .int .i64 (i : Int))]) (fun i w' => JS w w' b x y U i) (fun i => x.a.length - i) 0 (by decide) ?_ ?_ ?_
  · simp (disch := omega) only [push_cast, ↓reduceIte, zA, zG, zB, zH, zI, zC, zJ, zK, zL, zD, zE, zF, zM, zN, zO, zP, zQ, reduceCtorEq, not_true_eq_false, not_false_eq_true]
  · exact J0
  clear J0 fin
  rintro i uu w7 J
  have hle := J.le
  have hx7 := (hx.later J.later).2
  have hy7 := (hy.later J.later).2
  rw [hax] at hx7
  rw [hay] at hy7
  by_cases hlt : i < x.a.length
  · have hlt2 : i < y.a.length := by omega
    obtain ⟨lst, av, Bc, hE, hjl⟩ := J.cur
    have hstep := jaggs_step hl hlt hlt2 hjl
    have hAa := ra _ (List.getElem_mem hlt)
    have hAc := sa _ (List.getElem_mem hlt2)
    obtain ⟨aa, rfl, f1⟩ := RecS.at agC_len hx7 hlt
    obtain ⟨bb, rfl, f2⟩ := RecS.at agC_len hy7 hlt2
    have g3 : w7.cell? ⟨w.heap.size + 1, 3, none⟩ = some (.slice (some bb) y.a.length cy) := by have := J.by_.cell 3; rw [← hay]; exact this
    generalize x.a[i] = a at *
    generalize y.a[i] = c at *
    have g2 : w7.cell? ⟨w.heap.size, 3, none⟩ = some (.slice (some aa) x.a.length cx) := by have := J.bx.cell 3; rw [← hax]; exact this
    have J8 := J
    repeat' (first | (simp (disch := omega) only [push_cast, ↓reduceIte, zA, zG, zB, zH, zI, zC, zJ, zK, zL, zD, zE, zF, zM, zN, zO, zP, zQ, reduceCtorEq, not_true_eq_false, not_false_eq_true, g2, addr_add_eq, Nat.zero_add]) | (first | refine vIfE_of ?_ ?_ | refine vIfD_of ?_ ?_ | refine vIfQ_of ?_ ?_ | refine vIfV_of ?_ ?_) <;> intro _ | refine And.intro (by omega) ?_ | fail)
    refine drawnS_k 15 ?_
    repeat' (first | (simp (disch := omega) only [push_cast, ↓reduceIte, zA, zG, zB, zH, zI, zC, zJ, zK, zL, zD, zE, zF, zM, zN, zO, zP, zQ, reduceCtorEq, not_true_eq_false, not_false_eq_true, g2, f1, g3, f2, addr_add_eq, Nat.zero_add]) | (first | refine vIfE_of ?_ ?_ | refine vIfD_of ?_ ?_ | refine vIfQ_of ?_ ?_ | refine vIfV_of ?_ ?_) <;> intro _ | refine And.intro (by omega) ?_ | fail)
    refine NFn.fix hb75 (v := jnV a c) (fun w' _ => cajoin_c a c w' hAa hAc) ?_
    by_cases hf : Fi (a.1 + c.1)
    · have jt : jnV a c = .tuple #[agV (ajn a c), .int .i64 0] := if_pos hf
      rw [jt]
      repeat' (first | (simp (disch := omega) only [push_cast, ↓reduceIte, zA, zG, zB, zH, zI, zC, zJ, zK, zL, zD, zE, zF, zM, zN, zO, zP, zQ, reduceCtorEq, not_true_eq_false, not_false_eq_true]) | (first | refine vIfE_of ?_ ?_ | refine vIfD_of ?_ ?_ | refine vIfQ_of ?_ ?_ | refine vIfV_of ?_ ?_) <;> intro _ | refine And.intro (by omega) ?_ | fail)
      refine nA_of _ (PtV w7 64 #[.int .i64 0, .int .i64 0, .int .i64 0]) (stb_pt _ _ _ _) (fun w' hl => ?_) ?_
      · repeat' (first | (simp (disch := omega) only [push_cast, ↓reduceIte, zA, zG, zB, zH, zI, zC, zJ, zK, zL, zD, zE, zF, zM, zN, zO, zP, zQ, reduceCtorEq, not_true_eq_false, not_false_eq_true]) | (first | refine vIfE_of ?_ ?_ | refine vIfD_of ?_ ?_ | refine vIfQ_of ?_ ?_ | refine vIfV_of ?_ ?_) <;> intro _ | refine And.intro (by omega) ?_ | fail)
        exact ⟨later_alloc _ _, w'.heap.size, rfl, hl.size, Blk.new _ _ _⟩
      repeat' (first | (simp (disch := omega) only [push_cast, ↓reduceIte, zA, zG, zB, zH, zI, zC, zJ, zK, zL, zD, zE, zF, zM, zN, zO, zP, zQ, reduceCtorEq, not_true_eq_false, not_false_eq_true]) | (first | refine vIfE_of ?_ ?_ | refine vIfD_of ?_ ?_ | refine vIfQ_of ?_ ?_ | refine vIfV_of ?_ ?_) <;> intro _ | refine And.intro (by omega) ?_ | fail)
      refine ⟨rfl, fun w9 l9 => ?_⟩
      rintro _ ⟨b9, rfl, hb9, B9⟩
      refine ⟨by simp (disch := omega) only [push_cast, ↓reduceIte, zA, zG, zB, zH, zI, zC, zJ, zK, zL, zD, zE, zF, zM, zN, zO, zP, zQ, reduceCtorEq, not_true_eq_false, not_false_eq_true, implies_true, and_self], ?_⟩
      repeat' (first | (simp (disch := omega) only [push_cast, ↓reduceIte, zA, zG, zB, zH, zI, zC, zJ, zK, zL, zD, zE, zF, zM, zN, zO, zP, zQ, reduceCtorEq, not_true_eq_false, not_false_eq_true]) | (first | refine vIfE_of ?_ ?_ | refine vIfD_of ?_ ?_ | refine vIfQ_of ?_ ?_ | refine vIfV_of ?_ ?_) <;> intro _ | refine And.intro (by omega) ?_ | fail)
      refine vStore_blk (l := [.int .i64 0, .int .i64 0, .int .i64 0]) (xs := agC (ajn a c)) B9 rfl rfl (agC_one _) ?_
      intro w10 B10 c10
      have l810 := Chg.later l9 c10 (by intro j hj; rw [List.mem_singleton.1 hj]; exact hb9)
      have J10 := J8.step l810
      have f10 : cellsAt w10 ⟨b9, 0, none⟩ 3 = some (agC (ajn a c)) := Blk.cellsAt (l := agC (ajn a c)) B10
      clear c10 B9 l9 hb9 J8
      obtain ⟨_, hla, hbx, hby, hbz, lst', av', Bc', hE', hjl'⟩ := J10
      have hll : lst' = lst := by rw [hjl] at hjl'; exact (Option.some.inj hjl').symm
      subst hll
      obtain ⟨oa, ca, hav, _⟩ := RecS.slice (OwnR.s hE'.2)
      have hav : av' = .slice oa lst'.length ca := hav
      subst hav
      have hll2 := jaggs_len _ _ _ (by simp; omega) hjl'
      rw [List.length_take] at hll2
      have f11 : w10.cell? ⟨b, 3, none⟩ = some (.slice oa lst'.length ca) := Bc'.cell 3
      have f10' : cellsAt w10 ⟨b9, 0, none⟩ 3 = some [.int .i64 (ajn a c).1, .int .i64 (ajn a c).2.1, .int .i64 (ajn a c).2.2] := f10
      repeat' (first | (simp (disch := omega) only [push_cast, ↓reduceIte, zA, zG, zB, zH, zI, zC, zJ, zK, zL, zD, zE, zF, zM, zN, zO, zP, zQ, reduceCtorEq, not_true_eq_false, not_false_eq_true, f10', f11, addr_add_eq, Nat.zero_add]) | (first | refine vIfE_of ?_ ?_ | refine vIfD_of ?_ ?_ | refine vIfQ_of ?_ ?_ | refine vIfV_of ?_ ?_) <;> intro _ | refine And.intro (by omega) ?_ | refine drawn_q ?_ | fail)
      have la := later_alloc w10 (.cells #[.int .i64 (ajn a c).1, .int .i64 (ajn a c).2.1, .int .i64 (ajn a c).2.2] 64)
      have Bl := Blk.new w10 #[.int .i64 (ajn a c).1, .int .i64 (ajn a c).2.1, .int .i64 (ajn a c).2.2] 64
      have hEa := hE'.later la
      have hOA : OwnA (w10.alloc (.cells #[.int .i64 (ajn a c).1, .int .i64 (ajn a c).2.1, .int .i64 (ajn a c).2.2] 64)) w.heap.size (.slice oa lst'.length ca) lst' := hEa.2
      refine vAppend_rs agC_len agC_one Try.underlying33 ti64 rfl (by decide) hOA (RecS.lit1 (agC_len _) Bl) (by simp; omega) (by omega) (Nat.le_trans hla.size la.size) ?_
      intro v' w12 ho hg _
      have cl := Chg.of_later (ks := []) la
      have q1 : Blk w12 _ _ 35 := grown_obj hOA hg (hbx.chg cl (by simp)) (fun cs h => by simp at h)
      have q2 : Blk w12 _ _ 35 := grown_obj hOA hg (hby.chg cl (by simp)) (fun cs h => by simp at h)
      have q3 : Blk w12 _ _ 35 := grown_obj hOA hg (hbz.chg cl (by simp)) (fun cs h => by simp at h)
      have q4 : Blk w12 b _ 35 := grown_obj hOA hg (Bc'.chg cl (by simp)) (fun cs h => by simp at h)
      have q5 := (hla.trans la).appended hOA (Nat.le_refl _) hg
      have q6 : OwnS w12 w.heap.size U x.d := ownS_grown hEa.1 hOA hg
      obtain ⟨o2, c2, hv2, _⟩ := RecS.slice (OwnR.s ho)
      subst hv2
      have hfz := q4.frozen 3
      have hce : ∃ y, w12.cell? ⟨b, 3, none⟩ = some y := ⟨_, q4.cell 3⟩
      have gc := chg_setCell (i := 3) w12 (ks := [b]) (k := b) (by simp) (.slice o2 (lst' ++ [ajn a c]).length c2)
      have z5 := q4.set 3 (.slice o2 (lst' ++ [ajn a c]).length c2)
      repeat' (first | (simp (disch := omega) only [push_cast, ↓reduceIte, zA, zG, zB, zH, zI, zC, zJ, zK, zL, zD, zE, zF, zM, zN, zO, zP, zQ, reduceCtorEq, not_true_eq_false, not_false_eq_true, hfz, hce, addr_add_eq, Nat.zero_add]) | (first | refine vIfE_of ?_ ?_ | refine vIfD_of ?_ ?_ | refine vIfQ_of ?_ ?_ | refine vIfV_of ?_ ?_) <;> intro _ | refine And.intro (by omega) ?_ | refine drawn_q ?_ | fail)
      have hJ : JS w (w12.setCell ⟨b, 3, none⟩ (.slice o2 (lst' ++ [ajn a c]).length c2)) b x y U (i + 1) :=
        ⟨by omega, gc.later q5 (by intro j hj; rw [List.mem_singleton.1 hj]; omega), q1.chg gc (by simp; omega), q2.chg gc (by simp; omega), q3.chg gc (by simp; omega), lst' ++ [ajn a c], _, z5, ⟨own_chg_ty q6 q4 (by decide) gc, own_chg_ty ho q4 (by decide) gc⟩, hstep.1 hf⟩
      exact ⟨rfl, i + 1, by simp (disch := omega) only [push_cast, ↓reduceIte, zA, zG, zB, zH, zI, zC, zJ, zK, zL, zD, zE, zF, zM, zN, zO, zP, zQ, reduceCtorEq, not_true_eq_false, not_false_eq_true], hJ, by dsimp only; omega⟩
    · have jt : jnV a c = .tuple #[agV (0, 0, 0), .int .i64 121] := if_neg hf
      have hj : JR x y z0 121 := .inr (.inl ⟨hc, by rw [jn_abs, if_neg hn, hstep.2 hf]; rfl, rfl, rfl⟩)
      rw [jt]
      repeat' (first | (simp (disch := omega) only [push_cast, ↓reduceIte, zA, zG, zB, zH, zI, zC, zJ, zK, zL, zD, zE, zF, zM, zN, zO, zP, zQ, reduceCtorEq, not_true_eq_false, not_false_eq_true]) | (first | refine vIfE_of ?_ ?_ | refine vIfD_of ?_ ?_ | refine vIfQ_of ?_ ?_ | refine vIfV_of ?_ ?_) <;> intro _ | refine And.intro (by omega) ?_ | fail)
      refine nA_of _ (PtV w7 64 #[.int .i64 0, .int .i64 0, .int .i64 0]) (stb_pt _ _ _ _) (fun w' hl => ?_) ?_
      · repeat' (first | (simp (disch := omega) only [push_cast, ↓reduceIte, zA, zG, zB, zH, zI, zC, zJ, zK, zL, zD, zE, zF, zM, zN, zO, zP, zQ, reduceCtorEq, not_true_eq_false, not_false_eq_true]) | (first | refine vIfE_of ?_ ?_ | refine vIfD_of ?_ ?_ | refine vIfQ_of ?_ ?_ | refine vIfV_of ?_ ?_) <;> intro _ | refine And.intro (by omega) ?_ | fail)
        exact ⟨later_alloc _ _, w'.heap.size, rfl, hl.size, Blk.new _ _ _⟩
      repeat' (first | (simp (disch := omega) only [push_cast, ↓reduceIte, zA, zG, zB, zH, zI, zC, zJ, zK, zL, zD, zE, zF, zM, zN, zO, zP, zQ, reduceCtorEq, not_true_eq_false, not_false_eq_true]) | (first | refine vIfE_of ?_ ?_ | refine vIfD_of ?_ ?_ | refine vIfQ_of ?_ ?_ | refine vIfV_of ?_ ?_) <;> intro _ | refine And.intro (by omega) ?_ | fail)
      refine ⟨rfl, fun w9 l9 => ?_⟩
      rintro _ ⟨b9, rfl, hb9, B9⟩
      refine ⟨by simp (disch := omega) only [push_cast, ↓reduceIte, zA, zG, zB, zH, zI, zC, zJ, zK, zL, zD, zE, zF, zM, zN, zO, zP, zQ, reduceCtorEq, not_true_eq_false, not_false_eq_true, implies_true, and_self], ?_⟩
      repeat' (first | (simp (disch := omega) only [push_cast, ↓reduceIte, zA, zG, zB, zH, zI, zC, zJ, zK, zL, zD, zE, zF, zM, zN, zO, zP, zQ, reduceCtorEq, not_true_eq_false, not_false_eq_true]) | (first | refine vIfE_of ?_ ?_ | refine vIfD_of ?_ ?_ | refine vIfQ_of ?_ ?_ | refine vIfV_of ?_ ?_) <;> intro _ | refine And.intro (by omega) ?_ | fail)
      refine vStore_blk (l := [.int .i64 0, .int .i64 0, .int .i64 0]) (xs := agC (0, 0, 0)) B9 rfl rfl (agC_one _) ?_
      intro w10 B10 c10
      have l810 := Chg.later l9 c10 (by intro j hj; rw [List.mem_singleton.1 hj]; exact hb9)
      have J10 := J8.step l810
      have f10 : cellsAt w10 ⟨b9, 0, none⟩ 3 = some (agC (0, 0, 0)) := Blk.cellsAt (l := agC (0, 0, 0)) B10
      clear c10 B9 l9 hb9 J8
      repeat' (first | (simp (disch := omega) only [push_cast, ↓reduceIte, zA, zG, zB, zH, zI, zC, zJ, zK, zL, zD, zE, zF, zM, zN, zO, zP, zQ, reduceCtorEq, not_true_eq_false, not_false_eq_true]) | (first | refine vIfE_of ?_ ?_ | refine vIfD_of ?_ ?_ | refine vIfQ_of ?_ ?_ | refine vIfV_of ?_ ?_) <;> intro _ | refine And.intro (by omega) ?_ | refine drawn_q ?_ | fail)
      refine vStore_blk (l := [.int .i64 0, .slice none 0 0, .int .i64 0, .slice none 0 0]) (xs := elC z0) J10.bz rfl rfl (elC_one (EO.zero w10 0).is) ?_
      intro w11 B11 c11
      repeat' (first | (simp (disch := omega) only [push_cast, ↓reduceIte, zA, zG, zB, zH, zI, zC, zJ, zK, zL, zD, zE, zF, zM, zN, zO, zP, zQ, reduceCtorEq, not_true_eq_false, not_false_eq_true]) | (first | refine vIfE_of ?_ ?_ | refine vIfD_of ?_ ?_ | refine vIfQ_of ?_ ?_ | refine vIfV_of ?_ ?_) <;> intro _ | refine And.intro (by omega) ?_ | refine drawn_q ?_ | fail)
      refine resK_cells (s := 4) (by simp (disch := omega) only [push_cast, ↓reduceIte, zA, zG, zB, zH, zI, zC, zJ, zK, zL, zD, zE, zF, zM, zN, zO, zP, zQ, reduceCtorEq, not_true_eq_false, not_false_eq_true]) (by rw [Try.underlying35]; exact sz35) (Blk.cellsAt (l := elC z0) B11) ?_
      repeat' (first | (simp (disch := omega) only [push_cast, ↓reduceIte, zA, zG, zB, zH, zI, zC, zJ, zK, zL, zD, zE, zF, zM, zN, zO, zP, zQ, reduceCtorEq, not_true_eq_false, not_false_eq_true]) | (first | refine vIfE_of ?_ ?_ | refine vIfD_of ?_ ?_ | refine vIfQ_of ?_ ?_ | refine vIfV_of ?_ ?_) <;> intro _ | refine And.intro (by omega) ?_ | refine drawn_q ?_ | fail)
      exact ⟨z0, 121, rfl, hj, EO.zero _ _, Chg.later J10.later c11 (by intro j hj; rw [List.mem_singleton.1 hj]; omega)⟩
  · have hi : i = x.a.length := by omega
    subst hi
    obtain ⟨lst, av, Bc, hE, hjl⟩ := J.cur
    rw [List.take_length, hl, List.take_length] at hjl
    have hj : JR x y ⟨x.t, x.d, x.n + y.n, lst, U, av⟩ 0 := .inr (.inr ⟨hc, rfl, by rw [jn_abs, if_neg hn, hjl]; rfl⟩)
    have f4 : cellsAt w7 ⟨b, 0, none⟩ 4 = some (elC ⟨x.t, x.d, x.n + y.n, lst, U, av⟩) := Blk.cellsAt (l := elC ⟨x.t, x.d, x.n + y.n, lst, U, av⟩) Bc
    have g2 : w7.cell? ⟨w.heap.size, 3, none⟩ = some (.slice ox x.a.length cx) := by have := J.bx.cell 3; rw [← hax]; exact this
    repeat' (first | (simp (disch := omega) only [push_cast, ↓reduceIte, zA, zG, zB, zH, zI, zC, zJ, zK, zL, zD, zE, zF, zM, zN, zO, zP, zQ, reduceCtorEq, not_true_eq_false, not_false_eq_true, f4, g2, addr_add_eq, Nat.zero_add]) | (first | refine vIfE_of ?_ ?_ | refine vIfD_of ?_ ?_ | refine vIfQ_of ?_ ?_ | refine vIfV_of ?_ ?_) <;> intro _ | refine And.intro (by omega) ?_ | refine drawn_q ?_ | fail)
    refine vStore_blk (l := [.int .i64 0, .slice none 0 0, .int .i64 0, .slice none 0 0]) (xs := elC ⟨x.t, x.d, x.n + y.n, lst, U, av⟩) J.bz rfl rfl (elC_one hE.is) ?_
    intro w11 B11 c11
    repeat' (first | (simp (disch := omega) only [push_cast, ↓reduceIte, zA, zG, zB, zH, zI, zC, zJ, zK, zL, zD, zE, zF, zM, zN, zO, zP, zQ, reduceCtorEq, not_true_eq_false, not_false_eq_true]) | (first | refine vIfE_of ?_ ?_ | refine vIfD_of ?_ ?_ | refine vIfQ_of ?_ ?_ | refine vIfV_of ?_ ?_) <;> intro _ | refine And.intro (by omega) ?_ | refine drawn_q ?_ | fail)
    refine resK_cells (s := 4) (by simp (disch := omega) only [push_cast, ↓reduceIte, zA, zG, zB, zH, zI, zC, zJ, zK, zL, zD, zE, zF, zM, zN, zO, zP, zQ, reduceCtorEq, not_true_eq_false, not_false_eq_true]) (by rw [Try.underlying35]; exact sz35) (Blk.cellsAt (l := elC ⟨x.t, x.d, x.n + y.n, lst, U, av⟩) B11) ?_
    repeat' (first | (simp (disch := omega) only [push_cast, ↓reduceIte, zA, zG, zB, zH, zI, zC, zJ, zK, zL, zD, zE, zF, zM, zN, zO, zP, zQ, reduceCtorEq, not_true_eq_false, not_false_eq_true]) | (first | refine vIfE_of ?_ ?_ | refine vIfD_of ?_ ?_ | refine vIfQ_of ?_ ?_ | refine vIfV_of ?_ ?_) <;> intro _ | refine And.intro (by omega) ?_ | refine drawn_q ?_ | fail)
    exact ⟨⟨x.t, x.d, x.n + y.n, lst, U, av⟩, 0, rfl, hj, hE.chg J.bz c11, Chg.later J.later c11 (by intro j hj; rw [List.mem_singleton.1 hj]; omega)⟩
end Go.Proofs.Ythihbgpaoldbjaa
end
section
set_option linter.unusedSimpArgs false
namespace Go.Proofs.Ythihbgpaoldbjaa
open Go.Vc Go.Key
set_option maxRecDepth 100000
def vlB (b : UInt8) : Bool := decide (32 ≤ b.toNat) && decide (b.toNat ≤ 126) && !decide (b.toNat = 34) && !decide (b.toNat = 92)
def VlOk (s : ByteArray) : Prop := (∀ i (h : i < s.size), vlB s[i] = true) ∧ s.size ≤ 24
instance (s : ByteArray) : Decidable (VlOk s) := inferInstanceAs (Decidable ((∀ i (h : i < s.size), vlB s[i] = true) ∧ s.size ≤ 24))
theorem dvalue_c (s : ByteArray) (w : World) (hs : s.size ≤ 9223372036854775807) : FnC Try.prog 65 #[.string s] w fun r w' => r = .bool (decide (VlOk s)) ∧ w' = w := by
  refine enter65 _ ?_
  unfold B65
  repeat' (first | (simp (disch := omega) only [push_cast, ↓reduceIte, zA, zG, zB, zH, zI, zC, zJ, zK, zL, zD, zE, zF, zM, zN, zO, zP, zQ, reduceCtorEq, not_true_eq_false, not_false_eq_true]) | (first | refine vIfE_of ?_ ?_ | refine vIfD_of ?_ ?_ | refine vIfQ_of ?_ ?_ | refine vIfV_of ?_ ?_) <;> intro _ | refine And.intro (by omega) ?_ | refine drawn_q ?_ | fail)
  refine vc_loop W65_0 (fun i : Nat => [(2, .bool false), (3, .int .i64 (i : Int))])
    (fun i w' => i ≤ s.size ∧ w' = w ∧ ∀ j (h : j < s.size), j < i → vlB s[j] = true) (fun i => s.size - i) 0 (by decide) ?_ ?_ ?_
  · simp (disch := omega) only [push_cast, ↓reduceIte, zA, zG, zB, zH, zI, zC, zJ, zK, zL, zD, zE, zF, zM, zN, zO, zP, zQ, reduceCtorEq, not_true_eq_false, not_false_eq_true]
  · exact ⟨by omega, rfl, fun j _ hj => absurd hj (Nat.not_lt_zero _)⟩
  rintro i uu w0 ⟨hi, h0, hA⟩
  obtain rfl := h0.symm
  by_cases hlt : i < s.size
  · have hg : s[i]? = some s[i] := getElem?_pos s i hlt
    by_cases hv : vlB s[i] = true
    · have hv' := hv
      simp only [vlB, Bool.and_eq_true, decide_eq_true_eq, Bool.not_eq_true', decide_eq_false_iff_not] at hv'
      repeat' (first | (simp (disch := omega) only [push_cast, ↓reduceIte, zA, zG, zB, zH, zI, zC, zJ, zK, zL, zD, zE, zF, zM, zN, zO, zP, zQ, reduceCtorEq, not_true_eq_false, not_false_eq_true, hg]) | (first | refine vIfE_of ?_ ?_ | refine vIfD_of ?_ ?_ | refine vIfQ_of ?_ ?_ | refine vIfV_of ?_ ?_) <;> intro _ | refine And.intro (by omega) ?_ | refine drawn_q ?_ | fail)
      refine ⟨rfl, i + 1, by simp (disch := omega) only [push_cast, ↓reduceIte, zA, zG, zB, zH, zI, zC, zJ, zK, zL, zD, zE, zF, zM, zN, zO, zP, zQ, reduceCtorEq, not_true_eq_false, not_false_eq_true], ⟨by omega, rfl, fun j hj hji => ?_⟩, by dsimp only; omega⟩
      by_cases h : j < i
      · exact hA j hj h
      · have : j = i := by omega
        subst this
        exact hv
    · have hno : decide (VlOk s) = false := decide_eq_false fun h => hv (h.1 i hlt)
      have hv' : ¬ (32 ≤ s[i].toNat ∧ s[i].toNat ≤ 126 ∧ ¬ s[i].toNat = 34 ∧ ¬ s[i].toNat = 92) := by
        intro hh
        apply hv
        simp only [vlB, Bool.and_eq_true, decide_eq_true_eq, Bool.not_eq_true', decide_eq_false_iff_not]
        exact ⟨⟨⟨hh.1, hh.2.1⟩, hh.2.2.1⟩, hh.2.2.2⟩
      repeat' (first | (simp (disch := omega) only [push_cast, ↓reduceIte, zA, zG, zB, zH, zI, zC, zJ, zK, zL, zD, zE, zF, zM, zN, zO, zP, zQ, reduceCtorEq, not_true_eq_false, not_false_eq_true, hg]) | (first | refine vIfE_of ?_ ?_ | refine vIfD_of ?_ ?_ | refine vIfQ_of ?_ ?_ | refine vIfV_of ?_ ?_) <;> intro _ | refine And.intro (by omega) ?_ | refine drawn_q ?_ | fail)
      all_goals first
        | exact ⟨by rw [hno], trivial⟩
        | exact ⟨by rw [hno], rfl⟩
        | (rw [hno])
        | (exfalso; omega)
  · by_cases h24 : s.size ≤ 24
    · have hyes : decide (VlOk s) = true := decide_eq_true ⟨fun j hj => hA j hj (by omega), h24⟩
      repeat' (first | (simp (disch := omega) only [push_cast, ↓reduceIte, zA, zG, zB, zH, zI, zC, zJ, zK, zL, zD, zE, zF, zM, zN, zO, zP, zQ, reduceCtorEq, not_true_eq_false, not_false_eq_true]) | (first | refine vIfE_of ?_ ?_ | refine vIfD_of ?_ ?_ | refine vIfQ_of ?_ ?_ | refine vIfV_of ?_ ?_) <;> intro _ | refine And.intro (by omega) ?_ | refine drawn_q ?_ | fail)
      rw [hyes]
      exact congrArg Value.bool (decide_eq_true (by omega))
    · have hno : decide (VlOk s) = false := decide_eq_false fun h => h24 h.2
      repeat' (first | (simp (disch := omega) only [push_cast, ↓reduceIte, zA, zG, zB, zH, zI, zC, zJ, zK, zL, zD, zE, zF, zM, zN, zO, zP, zQ, reduceCtorEq, not_true_eq_false, not_false_eq_true]) | (first | refine vIfE_of ?_ ?_ | refine vIfD_of ?_ ?_ | refine vIfQ_of ?_ ?_ | refine vIfV_of ?_ ?_) <;> intro _ | refine And.intro (by omega) ?_ | refine drawn_q ?_ | fail)
      rw [hno]
      exact congrArg Value.bool (decide_eq_false (by omega))
def wordsL : List ByteArray := [⟨#[99, 111, 117, 110, 116]⟩, ⟨#[115, 117, 109]⟩, ⟨#[109, 105, 110]⟩, ⟨#[109, 97, 120]⟩, ⟨#[102, 114, 111, 109]⟩, ⟨#[116, 111]⟩, ⟨#[98, 121]⟩, ⟨#[101, 118, 101, 114, 121]⟩, ⟨#[119, 104, 101, 114, 101]⟩, ⟨#[104, 97, 118, 105, 110, 103]⟩, ⟨#[111, 114, 100, 101, 114]⟩, ⟨#[108, 105, 109, 105, 116]⟩, ⟨#[97, 110, 100]⟩, ⟨#[111, 114]⟩, ⟨#[110, 111, 116]⟩, ⟨#[105, 115]⟩, ⟨#[110, 117, 108, 108]⟩, ⟨#[97, 115, 99]⟩, ⟨#[100, 101, 115, 99]⟩, ⟨#[115, 101, 108, 101, 99, 116]⟩]
theorem words_c (w : World) : FnC Try.prog 103 #[] w fun r w' => StS w' r wordsL ∧ Later w w' := by
  refine enter103 ?_
  unfold B103
  repeat' (first | (simp (disch := omega) only [push_cast, ↓reduceIte, zA, zG, zB, zH, zI, zC, zJ, zK, zL, zD, zE, zF, zM, zN, zO, zP, zQ, reduceCtorEq, not_true_eq_false, not_false_eq_true]) | (first | refine vIfE_of ?_ ?_ | refine vIfD_of ?_ ?_ | refine vIfQ_of ?_ ?_ | refine vIfV_of ?_ ?_) <;> intro _ | refine And.intro (by omega) ?_ | refine drawn_q ?_ | fail)
  exact ⟨Sl.of_blk (xs := wordsL.map Value.string) (Blk.new w _ _) rfl (by unfold maxLen; omega), later_alloc _ _⟩
def nmB (i : Nat) (b : UInt8) : Prop := (97 ≤ b.toNat ∧ b.toNat ≤ 122) ∨ (i ≠ 0 ∧ ((48 ≤ b.toNat ∧ b.toNat ≤ 57) ∨ b.toNat = 95))
instance (i : Nat) (b : UInt8) : Decidable (nmB i b) := inferInstanceAs (Decidable (_ ∨ _))
def NmOk (s : ByteArray) : Prop := (∀ x ∈ wordsL, x ≠ s) ∧ (∀ i (h : i < s.size), nmB i s[i]) ∧ 1 ≤ s.size ∧ s.size ≤ 12
instance (s : ByteArray) : Decidable (NmOk s) := inferInstanceAs (Decidable ((∀ x ∈ wordsL, x ≠ s) ∧ (∀ i (h : i < s.size), nmB i s[i]) ∧ 1 ≤ s.size ∧ s.size ≤ 12))
theorem dname_c (s : ByteArray) (w : World) (hs : s.size ≤ 9223372036854775807) : FnC Try.prog 79 #[.string s] w fun r w' => r = .bool (decide (NmOk s)) ∧ Later w w' := by
  refine enter79 _ ?_
  unfold B79
  repeat' (first | (simp (disch := omega) only [push_cast, ↓reduceIte, zA, zG, zB, zH, zI, zC, zJ, zK, zL, zD, zE, zF, zM, zN, zO, zP, zQ, reduceCtorEq, not_true_eq_false, not_false_eq_true]) | (first | refine vIfE_of ?_ ?_ | refine vIfD_of ?_ ?_ | refine vIfQ_of ?_ ?_ | refine vIfV_of ?_ ?_) <;> intro _ | refine And.intro (by omega) ?_ | refine drawn_q ?_ | fail)
  refine (words_c w).mono ?_
  rintro v w1 ⟨hW, l1⟩
  obtain ⟨o, c, rfl⟩ := Sl.slice hW
  have hl : (wordsL.map Value.string).length = 20 := rfl
  rw [hl]
  rw [hl] at hW
  repeat' (first | (simp (disch := omega) only [push_cast, ↓reduceIte, zA, zG, zB, zH, zI, zC, zJ, zK, zL, zD, zE, zF, zM, zN, zO, zP, zQ, reduceCtorEq, not_true_eq_false, not_false_eq_true]) | (first | refine vIfE_of ?_ ?_ | refine vIfD_of ?_ ?_ | refine vIfQ_of ?_ ?_ | refine vIfV_of ?_ ?_) <;> intro _ | refine And.intro (by omega) ?_ | refine drawn_q ?_ | fail)
  refine vc_loop W79_0 (fun i : Nat => [(2, .bool false), (4, .int .i64 (i : Int))])
    (fun i w' => i ≤ 20 ∧ Later w1 w' ∧ ∀ j (h : j < wordsL.length), j < i → wordsL[j] ≠ s) (fun i => 20 - i) 0 (by decide) ?_ ?_ ?_
  · simp (disch := omega) only [push_cast, ↓reduceIte, zA, zG, zB, zH, zI, zC, zJ, zK, zL, zD, zE, zF, zM, zN, zO, zP, zQ, reduceCtorEq, not_true_eq_false, not_false_eq_true]
  · exact ⟨by omega, Later.refl _, fun j _ hj => absurd hj (Nat.not_lt_zero _)⟩
  rintro i uu w2 ⟨hi, l2, hA⟩
  by_cases hlt : i < wordsL.length
  · have hlt' : i < 20 := hlt
    cases o with
    | none => have := Sl.len hW; simp [wordsL] at this
    | some a =>
    have hc := StS.atS (Sl.later hW l2) hlt
    by_cases hv : wordsL[i] = s
    · have hno : decide (NmOk s) = false := decide_eq_false fun h => h.1 _ (List.getElem_mem hlt) hv
      repeat' (first | (simp (disch := omega) only [push_cast, ↓reduceIte, zA, zG, zB, zH, zI, zC, zJ, zK, zL, zD, zE, zF, zM, zN, zO, zP, zQ, reduceCtorEq, not_true_eq_false, not_false_eq_true, hc, hv, decide_true]) | (first | refine vIfE_of ?_ ?_ | refine vIfD_of ?_ ?_ | refine vIfQ_of ?_ ?_ | refine vIfV_of ?_ ?_) <;> intro _ | refine And.intro (by omega) ?_ | refine drawn_q ?_ | fail)
      first | exact ⟨by rw [hno], (l1.trans l2)⟩ | exact (l1.trans l2)
    · repeat' (first | (simp (disch := omega) only [push_cast, ↓reduceIte, zA, zG, zB, zH, zI, zC, zJ, zK, zL, zD, zE, zF, zM, zN, zO, zP, zQ, reduceCtorEq, not_true_eq_false, not_false_eq_true, hc, hv, decide_false]) | (first | refine vIfE_of ?_ ?_ | refine vIfD_of ?_ ?_ | refine vIfQ_of ?_ ?_ | refine vIfV_of ?_ ?_) <;> intro _ | refine And.intro (by omega) ?_ | refine drawn_q ?_ | fail)
      refine ⟨rfl, i + 1, by simp (disch := omega) only [push_cast, ↓reduceIte, zA, zG, zB, zH, zI, zC, zJ, zK, zL, zD, zE, zF, zM, zN, zO, zP, zQ, reduceCtorEq, not_true_eq_false, not_false_eq_true], ⟨by omega, l2, fun j hj hji => ?_⟩, by dsimp only; omega⟩
      by_cases h : j < i
      · exact hA j hj h
      · have : j = i := by omega
        subst this
        exact hv
  have hi20 : i = 20 := by have : wordsL.length = 20 := rfl; omega
  subst hi20
  have hmem : ∀ x ∈ wordsL, x ≠ s := by
    intro x hm
    obtain ⟨j, hj, rfl⟩ := List.getElem_of_mem hm
    exact hA j hj hj
  have l12 := l1.trans l2
  repeat' (first | (simp (disch := omega) only [push_cast, ↓reduceIte, zA, zG, zB, zH, zI, zC, zJ, zK, zL, zD, zE, zF, zM, zN, zO, zP, zQ, reduceCtorEq, not_true_eq_false, not_false_eq_true]) | (first | refine vIfE_of ?_ ?_ | refine vIfD_of ?_ ?_ | refine vIfQ_of ?_ ?_ | refine vIfV_of ?_ ?_) <;> intro _ | refine And.intro (by omega) ?_ | refine drawn_q ?_ | fail)
  refine vc_loop W79_1 (fun i : Nat => [(2, .bool false), (5, .int .i64 (i : Int))])
    (fun i w' => i ≤ s.size ∧ w' = w2 ∧ ∀ j (h : j < s.size), j < i → nmB j s[j]) (fun i => s.size - i) 0 (by decide) ?_ ?_ ?_
  · simp (disch := omega) only [push_cast, ↓reduceIte, zA, zG, zB, zH, zI, zC, zJ, zK, zL, zD, zE, zF, zM, zN, zO, zP, zQ, reduceCtorEq, not_true_eq_false, not_false_eq_true]
  · exact ⟨by omega, rfl, fun j _ hj => absurd hj (Nat.not_lt_zero _)⟩
  rintro i uu2 w0 ⟨hi, h0, hB⟩
  obtain rfl := h0.symm
  by_cases hlt : i < s.size
  · have hg : s[i]? = some s[i] := getElem?_pos s i hlt
    have hno : ¬ nmB i s[i] → decide (NmOk s) = false := fun hv => decide_eq_false fun h => hv (h.2.1 i hlt)
    have hyes : nmB i s[i] → ∀ j (h : j < s.size), j < i + 1 → nmB j s[j] := by
      intro hv j hj hji
      by_cases h : j < i
      · exact hB j hj h
      · have : j = i := by omega
        subst this
        exact hv
    generalize hN : nmB i s[i] = N at hno hyes
    unfold nmB at hN
    generalize s[i] = ch at *
    repeat' (first | (simp (disch := omega) only [push_cast, ↓reduceIte, zA, zG, zB, zH, zI, zC, zJ, zK, zL, zD, zE, zF, zM, zN, zO, zP, zQ, reduceCtorEq, not_true_eq_false, not_false_eq_true, hg]) | (first | refine vIfE_of ?_ ?_ | refine vIfD_of ?_ ?_ | refine vIfQ_of ?_ ?_ | refine vIfV_of ?_ ?_) <;> intro _ | refine And.intro (by omega) ?_ | refine drawn_q ?_ | fail)
    all_goals first
      | (have hn : ¬ N := by rw [← hN]; omega
         first | exact ⟨by rw [hno hn], l12⟩ | (rw [hno hn]))
      | (have hn : N := by rw [← hN]; omega
         exact ⟨rfl, i + 1, by simp (disch := omega) only [push_cast, ↓reduceIte, zA, zG, zB, zH, zI, zC, zJ, zK, zL, zD, zE, zF, zM, zN, zO, zP, zQ, reduceCtorEq, not_true_eq_false, not_false_eq_true], ⟨by omega, rfl, hyes hn⟩, by dsimp only; omega⟩)
  · have hall : ∀ j (h : j < s.size), nmB j s[j] := fun j hj => hB j hj (by omega)
    have hd : decide (NmOk s) = (decide (1 ≤ s.size) && decide (s.size ≤ 12)) := by
      rw [← Bool.decide_and]
      exact decide_eq_decide.2 ⟨fun h => h.2.2, fun h => ⟨hmem, hall, h⟩⟩
    by_cases h1 : 1 ≤ s.size
    · by_cases h2 : s.size ≤ 12
      · rw [hd, decide_eq_true h1, decide_eq_true h2]
        repeat' (first | (simp (disch := omega) only [push_cast, ↓reduceIte, zA, zG, zB, zH, zI, zC, zJ, zK, zL, zD, zE, zF, zM, zN, zO, zP, zQ, reduceCtorEq, not_true_eq_false, not_false_eq_true]) | (first | refine vIfE_of ?_ ?_ | refine vIfD_of ?_ ?_ | refine vIfQ_of ?_ ?_ | refine vIfV_of ?_ ?_) <;> intro _ | refine And.intro (by omega) ?_ | refine drawn_q ?_ | fail)
        first | exact ⟨congrArg Value.bool (decide_eq_true (by omega)), l12⟩ | exact l12
      · rw [hd, decide_eq_true h1, decide_eq_false h2]
        repeat' (first | (simp (disch := omega) only [push_cast, ↓reduceIte, zA, zG, zB, zH, zI, zC, zJ, zK, zL, zD, zE, zF, zM, zN, zO, zP, zQ, reduceCtorEq, not_true_eq_false, not_false_eq_true]) | (first | refine vIfE_of ?_ ?_ | refine vIfD_of ?_ ?_ | refine vIfQ_of ?_ ?_ | refine vIfV_of ?_ ?_) <;> intro _ | refine And.intro (by omega) ?_ | refine drawn_q ?_ | fail)
        first | exact ⟨congrArg Value.bool (decide_eq_false (by omega)), l12⟩ | exact l12
    · rw [hd, decide_eq_false h1]
      repeat' (first | (simp (disch := omega) only [push_cast, ↓reduceIte, zA, zG, zB, zH, zI, zC, zJ, zK, zL, zD, zE, zF, zM, zN, zO, zP, zQ, reduceCtorEq, not_true_eq_false, not_false_eq_true]) | (first | refine vIfE_of ?_ ?_ | refine vIfD_of ?_ ?_ | refine vIfQ_of ?_ ?_ | refine vIfV_of ?_ ?_) <;> intro _ | refine And.intro (by omega) ?_ | refine drawn_q ?_ | fail)
      first | exact ⟨rfl, l12⟩ | exact l12
/-- Texts that are gone through. -/
def F10 (l : List ByteArray) : Prop := l.length ≤ 20 ∧ ∀ s ∈ l, s.size ≤ 80
instance (l : List ByteArray) : Decidable (F10 l) := inferInstanceAs (Decidable (_ ∧ _))
theorem fits10_c (v : Value) (l : List ByteArray) (w : World) (h : StS w v l) (hs : ∀ s ∈ l, s.size ≤ 9223372036854775807) : FnC Try.prog 16 #[v] w fun r w' => r = .bool (decide (F10 l)) ∧ w' = w := by
  obtain ⟨o, c, rfl⟩ := Sl.slice h
  rw [List.length_map] at h ⊢
  refine enter16 _ ?_
  unfold B16
  have hbig := (Sl.len h).2.1
  have hbig2 := (Sl.len h).2.2.1
  unfold maxLen at hbig2
  repeat' (first | (simp (disch := omega) only [push_cast, ↓reduceIte, zA, zG, zB, zH, zI, zC, zJ, zK, zL, zD, zE, zF, zM, zN, zO, zP, zQ, reduceCtorEq, not_true_eq_false, not_false_eq_true]) | (first | refine vIfE_of ?_ ?_ | refine vIfD_of ?_ ?_ | refine vIfQ_of ?_ ?_ | refine vIfV_of ?_ ?_) <;> intro _ | refine And.intro (by omega) ?_ | refine drawn_q ?_ | fail)
  refine vc_loop W16_0 (fun i : Nat => [(2, .bool false), (3, .int .i64 (i : Int))])
    (fun i w' => i ≤ l.length ∧ i ≤ 20 ∧ w' = w ∧ ∀ j (h : j < l.length), j < i → l[j].size ≤ 80) (fun i => l.length - i) 0 (by decide) ?_ ?_ ?_
  · simp (disch := omega) only [push_cast, ↓reduceIte, zA, zG, zB, zH, zI, zC, zJ, zK, zL, zD, zE, zF, zM, zN, zO, zP, zQ, reduceCtorEq, not_true_eq_false, not_false_eq_true]
  · exact ⟨by omega, by omega, rfl, fun j _ hj => absurd hj (Nat.not_lt_zero _)⟩
  rintro i uu w0 ⟨hi, hi20, h0, hA⟩
  obtain rfl := h0.symm
  by_cases hlt : i < l.length
  · cases o with
    | none => have := (Sl.len h).2.2.2 rfl; simp at this; rw [this.1] at hlt; simp at hlt
    | some a =>
    have hc := StS.atS h hlt
    have hz := hs _ (List.getElem_mem hlt)
    by_cases h20 : i = 20
    · have hno : decide (F10 l) = false := decide_eq_false fun h => by have := h.1; omega
      subst h20
      repeat' (first | (simp (disch := omega) only [push_cast, ↓reduceIte, zA, zG, zB, zH, zI, zC, zJ, zK, zL, zD, zE, zF, zM, zN, zO, zP, zQ, reduceCtorEq, not_true_eq_false, not_false_eq_true, hc]) | (first | refine vIfE_of ?_ ?_ | refine vIfD_of ?_ ?_ | refine vIfQ_of ?_ ?_ | refine vIfV_of ?_ ?_) <;> intro _ | refine And.intro (by omega) ?_ | refine drawn_q ?_ | fail)
      first | exact ⟨by rw [hno], trivial⟩ | (rw [hno])
    · by_cases h80 : l[i].size ≤ 80
      · repeat' (first | (simp (disch := omega) only [push_cast, ↓reduceIte, zA, zG, zB, zH, zI, zC, zJ, zK, zL, zD, zE, zF, zM, zN, zO, zP, zQ, reduceCtorEq, not_true_eq_false, not_false_eq_true, hc]) | (first | refine vIfE_of ?_ ?_ | refine vIfD_of ?_ ?_ | refine vIfQ_of ?_ ?_ | refine vIfV_of ?_ ?_) <;> intro _ | refine And.intro (by omega) ?_ | refine drawn_q ?_ | fail)
        refine ⟨rfl, i + 1, by simp (disch := omega) only [push_cast, ↓reduceIte, zA, zG, zB, zH, zI, zC, zJ, zK, zL, zD, zE, zF, zM, zN, zO, zP, zQ, reduceCtorEq, not_true_eq_false, not_false_eq_true], ⟨by omega, by omega, rfl, fun j hj hji => ?_⟩, by dsimp only; omega⟩
        by_cases h : j < i
        · exact hA j hj h
        · have : j = i := by omega
          subst this
          exact h80
      · have hno : decide (F10 l) = false := decide_eq_false fun h => h80 (h.2 _ (List.getElem_mem _))
        repeat' (first | (simp (disch := omega) only [push_cast, ↓reduceIte, zA, zG, zB, zH, zI, zC, zJ, zK, zL, zD, zE, zF, zM, zN, zO, zP, zQ, reduceCtorEq, not_true_eq_false, not_false_eq_true, hc]) | (first | refine vIfE_of ?_ ?_ | refine vIfD_of ?_ ?_ | refine vIfQ_of ?_ ?_ | refine vIfV_of ?_ ?_) <;> intro _ | refine And.intro (by omega) ?_ | refine drawn_q ?_ | fail)
        first | exact ⟨by rw [hno], trivial⟩ | (rw [hno])
  · have hyes : decide (F10 l) = true := decide_eq_true ⟨by omega, fun s hs => by
      obtain ⟨j, hj, rfl⟩ := List.getElem_of_mem hs
      exact hA j hj (by omega)⟩
    repeat' (first | (simp (disch := omega) only [push_cast, ↓reduceIte, zA, zG, zB, zH, zI, zC, zJ, zK, zL, zD, zE, zF, zM, zN, zO, zP, zQ, reduceCtorEq, not_true_eq_false, not_false_eq_true]) | (first | refine vIfE_of ?_ ?_ | refine vIfD_of ?_ ?_ | refine vIfQ_of ?_ ?_ | refine vIfV_of ?_ ?_) <;> intro _ | refine And.intro (by omega) ?_ | refine drawn_q ?_ | fail)
    rw [hyes]
end Go.Proofs.Ythihbgpaoldbjaa
end
section
namespace Go.Proofs.Ythihbgpaoldbjaa
open Go.Vc
set_option maxRecDepth 100000
variable (Q : Post) (ds : List Deferred) (σ : Env) (w : World)
/-! 11 columbary/columbarylaw13.Fits (params #[24, 25], results #[(.tmp 4)], 45 slots) -/
def W11_0 : List Nat := [4, 7, 8, 31, 32, 33, 34, 35, 36, 37, 38, 39, 40, 41, 42, 43, 44]
@[push_cast] theorem W11_0_def : W11_0 = [4, 7, 8, 31, 32, 33, 34, 35, 36, 37, 38, 39, 40, 41, 42, 43, 44] := mk_eq rfl
def r11_0 : List VOp :=
  [⟨some 2, .box 24 (.tmp 0), 0, none⟩,
   ⟨some 4, .assign (.const (.bool false)), 4, none⟩]
def r11_1 : List VOp :=
  [fad 9 24 2 0,
   lda 10 22 9,
   ⟨some 11, .call ⟨.value (.func 16), #[.tmp 10], #[22]⟩, 4, none⟩,
   asg 5 11 4]
def r11_2 : List VOp :=
  [fad 12 24 2 1,
   lda 13 22 12,
   ⟨some 14, .call ⟨.value (.func 16), #[.tmp 13], #[22]⟩, 4, none⟩,
   asg 6 14 4]
def r11_3 : List VOp :=
  [mv 15 5 4,
   ⟨some 16, .unOp .not 4 (.tmp 15), 4, none⟩,
   mv 17 16 4,
   ⟨some 18, .move (.tmp 6), 4, some (17, false)⟩,
   ⟨some 19, .unOp .not 4 (.tmp 18), 4, some (17, false)⟩,
   ⟨some 20, .pick (.tmp 17) (.const (.bool true)) (.tmp 19), 4, none⟩,
   mv 21 20 4,
   ⟨some 22, .move (.tmp 1), 25, some (21, false)⟩,
   ⟨some 23, .call ⟨.builtin .len, #[.tmp 22], #[25]⟩, 3, some (21, false)⟩,
   ⟨some 24, .binOp .gtr 3 (.tmp 23) (.const (.int .i64 120)) 3, 4, some (21, false)⟩,
   ⟨some 25, .pick (.tmp 21) (.const (.bool true)) (.tmp 24), 4, none⟩,
   mv 26 25 4,
   ⟨some 27, .load 24 (.tmp 2), 24, some (26, false)⟩,
   ⟨some 28, .call ⟨.value (.func 39), #[.tmp 27], #[24]⟩, 4, some (26, false)⟩,
   ⟨some 29, .unOp .not 4 (.tmp 28), 4, some (26, false)⟩,
   ⟨some 30, .pick (.tmp 26) (.const (.bool true)) (.tmp 29), 4, none⟩]
def r11_4 : List VOp :=
  [⟨some 4, .assign (.const (.bool false)), 4, none⟩]
def r11_5 : List VOp :=
  [⟨some 7, .assign (.const (.int .i64 0)), 3, none⟩]
def r11_6 : List VOp :=
  [mv 31 7 3,
   mv 32 1 25,
   ⟨some 33, .call ⟨.builtin .len, #[.tmp 32], #[25]⟩, 3, none⟩,
   ⟨some 34, .binOp .lss 3 (.tmp 31) (.tmp 33) 3, 4, none⟩]
def r11_8 : List VOp :=
  [lda 37 24 2,
   mv 38 1 25,
   mv 39 7 3,
   iad 40 25 38 39,
   lda 41 35 40,
   ⟨some 42, .call ⟨.value (.func 28), #[.tmp 37, .tmp 41], #[24, 35]⟩, 4, none⟩,
   asg 8 42 4]
def r11_9 : List VOp :=
  [mv 43 8 4,
   ⟨some 44, .unOp .not 4 (.tmp 43), 4, none⟩]
def r11_10 : List VOp :=
  [⟨some 4, .assign (.const (.bool false)), 4, none⟩]
def r11_7 : List VOp :=
  [mv 35 7 3,
   ⟨some 36, .binOp .add 3 (.tmp 35) (.const (.int .i64 1)) 3, 3, none⟩,
   asg 7 36 3]
def r11_11 : List VOp :=
  [⟨some 4, .assign (.const (.bool true)), 4, none⟩]
def B11 : VC :=
  (.seq (.region r11_0) (.seq (.region r11_1) (.seq (.region r11_2) (.seq (.seq (.region r11_3) (.cond (.tmp 30) (.seq (.region r11_4) .ret) .skip)) (.seq (.seq (.region r11_5) (.block 0 (.loop (.seq (.seq (.region r11_6) (.cond (.tmp 34) .skip (.exit 0))) (.seq (.block 1 (.seq (.draw r11_8 3) (.seq (.region r11_9) (.cond (.tmp 44) (.seq (.region r11_10) .ret) .skip)))) (.region r11_7)))))) (.seq (.region r11_11) .ret))))))
theorem code11 : ∃ c, Try.f11.body = some c ∧ abs Try.f11.ntmps c = B11 := ⟨_, rfl, by kernel_rfl⟩
theorem hb11 : HasBody Try.prog 11 := hasBody_of Try.func11 (by kernel_rfl)
theorem res11 : Try.f11.results = #[(.tmp 4)] := rfl
theorem enter11 {w : World} {R : Value → World → Prop} (x0 x1 : Value) (h : vc Try.prog B11 (retK Try.prog #[(.tmp 4)] R) [] (initEnv [x0, x1] 0) w) : FnC Try.prog 11 #[x0, x1] w R := by
  obtain ⟨c, h1, h2⟩ := code11
  exact hb11.fn (ret_of_vc mixed Try.func11 h1 (Nat.le_of_ble_eq_true rfl) B11 h2 h)
@[push_cast] theorem vr11_0 : VR r11_0 [⟨some 2, .box 24 (.tmp 0), 0, none⟩, ⟨some 4, .assign (.const (.bool false)), 4, none⟩] := vR rfl
@[push_cast] theorem vr11_1 : VR r11_1 [⟨some 9, .fieldAddr 24 (.tmp 2) 0, 0, none⟩, ⟨some 10, .load 22 (.tmp 9), 22, none⟩, ⟨some 11, .call ⟨.value (.func 16), #[.tmp 10], #[22]⟩, 4, none⟩, ⟨some 5, .assign (.tmp 11), 4, none⟩] := vR rfl
@[push_cast] theorem vr11_2 : VR r11_2 [⟨some 12, .fieldAddr 24 (.tmp 2) 1, 0, none⟩, ⟨some 13, .load 22 (.tmp 12), 22, none⟩, ⟨some 14, .call ⟨.value (.func 16), #[.tmp 13], #[22]⟩, 4, none⟩, ⟨some 6, .assign (.tmp 14), 4, none⟩] := vR rfl
@[push_cast] theorem vr11_3 : VR r11_3 [⟨some 15, .move (.tmp 5), 4, none⟩, ⟨some 16, .unOp .not 4 (.tmp 15), 4, none⟩, ⟨some 17, .move (.tmp 16), 4, none⟩, ⟨some 18, .move (.tmp 6), 4, some (17, false)⟩, ⟨some 19, .unOp .not 4 (.tmp 18), 4, some (17, false)⟩, ⟨some 20, .pick (.tmp 17) (.const (.bool true)) (.tmp 19), 4, none⟩, ⟨some 21, .move (.tmp 20), 4, none⟩, ⟨some 22, .move (.tmp 1), 25, some (21, false)⟩, ⟨some 23, .call ⟨.builtin .len, #[.tmp 22], #[25]⟩, 3, some (21, false)⟩, ⟨some 24, .binOp .gtr 3 (.tmp 23) (.const (.int .i64 120)) 3, 4, some (21, false)⟩, ⟨some 25, .pick (.tmp 21) (.const (.bool true)) (.tmp 24), 4, none⟩, ⟨some 26, .move (.tmp 25), 4, none⟩, ⟨some 27, .load 24 (.tmp 2), 24, some (26, false)⟩, ⟨some 28, .call ⟨.value (.func 39), #[.tmp 27], #[24]⟩, 4, some (26, false)⟩, ⟨some 29, .unOp .not 4 (.tmp 28), 4, some (26, false)⟩, ⟨some 30, .pick (.tmp 26) (.const (.bool true)) (.tmp 29), 4, none⟩] := vR rfl
@[push_cast] theorem vr11_4 : VR r11_4 [⟨some 4, .assign (.const (.bool false)), 4, none⟩] := vR rfl
@[push_cast] theorem vr11_5 : VR r11_5 [⟨some 7, .assign (.const (.int .i64 0)), 3, none⟩] := vR rfl
@[push_cast] theorem vr11_6 : VR r11_6 [⟨some 31, .move (.tmp 7), 3, none⟩, ⟨some 32, .move (.tmp 1), 25, none⟩, ⟨some 33, .call ⟨.builtin .len, #[.tmp 32], #[25]⟩, 3, none⟩, ⟨some 34, .binOp .lss 3 (.tmp 31) (.tmp 33) 3, 4, none⟩] := vR rfl
@[push_cast] theorem vr11_8 : vc Try.prog (.draw r11_8 3) Q ds σ w = drawn Try.prog [(⟨some 37, .load 24 (.tmp 2), 24, none⟩, [2]), (⟨some 38, .move (.tmp 1), 25, none⟩, [1]), (⟨some 39, .move (.tmp 7), 3, none⟩, [7]), (⟨some 40, .indexAddr 25 (.tmp 38) (.tmp 39), 0, none⟩, [38, 39]), (⟨some 41, .load 35 (.tmp 40), 35, none⟩, [40]), (⟨some 42, .call ⟨.value (.func 28), #[.tmp 37, .tmp 41], #[24, 35]⟩, 4, none⟩, [37, 41]), (⟨some 8, .assign (.tmp 42), 4, none⟩, [42])] 3 (Q .normal ds) σ w := mk_eq rfl
@[push_cast] theorem vr11_9 : VR r11_9 [⟨some 43, .move (.tmp 8), 4, none⟩, ⟨some 44, .unOp .not 4 (.tmp 43), 4, none⟩] := vR rfl
@[push_cast] theorem vr11_10 : VR r11_10 [⟨some 4, .assign (.const (.bool false)), 4, none⟩] := vR rfl
@[push_cast] theorem vr11_7 : VR r11_7 [⟨some 35, .move (.tmp 7), 3, none⟩, ⟨some 36, .binOp .add 3 (.tmp 35) (.const (.int .i64 1)) 3, 3, none⟩, ⟨some 7, .assign (.tmp 36), 3, none⟩] := vR rfl
@[push_cast] theorem vr11_11 : VR r11_11 [⟨some 4, .assign (.const (.bool true)), 4, none⟩] := vR rfl
@[push_cast] theorem bsl22_1_CodesWL {K : Value → World → Prop} {w : World} (x0 : ByteArray) : vBuildSlice Try.prog 22 1 #[(0, (.string x0))] K w = K (.slice (some ⟨w.heap.size, 0, none⟩) 1 1) (w.alloc (.cells #[(.string x0)] 9)) :=
  vBuildSlice_ok Try.underlying22 ti9 (by kernel_rfl) (by decide)
@[push_cast] theorem bsl25_1_CodesWL {K : Value → World → Prop} {w : World} (x00 x01 x02 x03 : Value) : vBuildSlice Try.prog 25 1 #[(0, (.agg #[x00, x01, x02, x03]))] K w = K (.slice (some ⟨w.heap.size, 0, none⟩) 1 1) (w.alloc (.cells #[x00, x01, x02, x03] 35)) :=
  vBuildSlice_ok Try.underlying25 ti35 (by kernel_rfl) (by decide)
@[push_cast] theorem bsl25_3_CodesWL {K : Value → World → Prop} {w : World} (x00 x01 x02 x03 : Value) (x10 x11 x12 x13 : Value) (x20 x21 x22 x23 : Value) : vBuildSlice Try.prog 25 3 #[(0, (.agg #[x00, x01, x02, x03])), (1, (.agg #[x10, x11, x12, x13])), (2, (.agg #[x20, x21, x22, x23]))] K w = K (.slice (some ⟨w.heap.size, 0, none⟩) 3 3) (w.alloc (.cells #[x00, x01, x02, x03, x10, x11, x12, x13, x20, x21, x22, x23] 35)) :=
  vBuildSlice_ok Try.underlying25 ti35 (by kernel_rfl) (by decide)
@[push_cast] theorem bsl47_1_CodesWL {K : Value → World → Prop} {w : World} (x0 : Int) : vBuildSlice Try.prog 47 1 #[(0, (.int .i64 x0))] K w = K (.slice (some ⟨w.heap.size, 0, none⟩) 1 1) (w.alloc (.cells #[(.int .i64 x0)] 3)) :=
  vBuildSlice_ok Try.underlying47 ti3 (by kernel_rfl) (by decide)
@[push_cast] theorem bld49_0_1_2_CodesWL {K : Value → World → Prop} {w : World} (x0 : Int) (x1o : Option Addr) (x1n x1c : Nat) (x2o : Option Addr) (x2n x2c : Nat) : vBuild Try.prog 49 #[(0, (.int .i64 x0)), (1, (.slice x1o x1n x1c)), (2, (.slice x2o x2n x2c))] K w = K (.agg #[(.int .i64 x0), (.slice x1o x1n x1c), (.slice x2o x2n x2c)]) w :=
  vBuild_ok (by kernel_rfl)
@[push_cast] theorem bld64__CodesWL {K : Value → World → Prop} {w : World}  : vBuild Try.prog 64 #[] K w = K (.agg #[(.int .i64 0), (.int .i64 0), (.int .i64 0)]) w :=
  vBuild_ok (by kernel_rfl)
@[push_cast] theorem bld64_0_1_2_CodesWL {K : Value → World → Prop} {w : World} (x0 : Int) (x1 : Int) (x2 : Int) : vBuild Try.prog 64 #[(0, (.int .i64 x0)), (1, (.int .i64 x1)), (2, (.int .i64 x2))] K w = K (.agg #[(.int .i64 x0), (.int .i64 x1), (.int .i64 x2)]) w :=
  vBuild_ok (by kernel_rfl)
end Go.Proofs.Ythihbgpaoldbjaa
end
section
set_option linter.unusedSimpArgs false
namespace Go.Proofs.Ythihbgpaoldbjaa
open Go.Vc Go.Key
set_option maxRecDepth 100000
theorem box2 (w : World) (a b : Value) (e : TypeId) : Later w (w.alloc (.cells #[a, b] e)) ∧ (w.alloc (.cells #[a, b] e)).heap.size = w.heap.size + 1 ∧ ∀ w', Later (w.alloc (.cells #[a, b] e)) w' → w'.cell? ⟨w.heap.size, 0, none⟩ = some a ∧ w'.cell? ⟨w.heap.size, 1, none⟩ = some b ∧ cellsAt w' ⟨w.heap.size, 0, none⟩ 2 = some [a, b] := by
  refine ⟨later_alloc _ _, World.size_alloc _ _, fun w' hl => ?_⟩
  have := (Blk.new w #[a, b] e).chg (Chg.of_later (ks := []) hl) (by simp)
  exact ⟨this.cell 0, this.cell 1, Blk.cellsAt (l := [a, b]) this⟩
/-- Texts, whose lengths are numbers. -/
def StZ (l : List ByteArray) : Prop := ∀ s ∈ l, s.size ≤ 9223372036854775807
structure ScIs (w : World) (dv mv : Value) (d m : List ByteArray) : Prop where
  dS : StS w dv d
  mS : StS w mv m
  dZ : StZ d
  mZ : StZ m
theorem ScIs.later {w w' : World} {dv mv : Value} {d m : List ByteArray} (h : ScIs w dv mv d m) (hl : Later w w') : ScIs w' dv mv d m := ⟨Sl.later h.dS hl, Sl.later h.mS hl, h.dZ, h.mZ⟩
def scV (dv mv : Value) : Value := .agg #[dv, mv]
def ScOk (d m : List ByteArray) : Prop := (∀ x ∈ d ++ m, NmOk x) ∧ (d ++ m).Pairwise (fun x y => x ≠ y) ∧ 1 ≤ d.length ∧ d.length ≤ 6 ∧ m.length ≤ 4
instance (d m : List ByteArray) : Decidable (ScOk d m) := inferInstanceAs (Decidable ((∀ x ∈ d ++ m, NmOk x) ∧ (d ++ m).Pairwise (fun x y => x ≠ y) ∧ 1 ≤ d.length ∧ d.length ≤ 6 ∧ m.length ≤ 4))
theorem StS.n {w : World} {v : Value} {l : List ByteArray} (h : StS w v l) : SlN w 1 v l.length (l.map Value.string) := by
  have := h
  unfold StS Sl at this
  rwa [List.length_map] at this
/-- Texts behind texts of the call's own. -/
theorem vAppend_ss {w : World} {K : Value → World → Prop} {ty : TypeId} {B : Nat} {v x : Value} {l r : List ByteArray} (hown : OwnS w B v l) (hx : StS w x r) (h63 : l.length + r.length ≤ 100000000) (hbase : B ≤ w.heap.size)
    (hK : ∀ v' w', OwnS w' B v' (l ++ r) → w.grownBy w' v.ownBlock → (v'.ownBlock = v.ownBlock ∨ v'.ownBlock = some w.heap.size) → K v' w') : vAppend Try.prog #[22, 22] ty #[v, x] K w := by
  refine vAppend_at Try.underlying22 ti9 rfl (by decide) hown hx.n ?_ (by unfold maxLen; omega) (by omega) hbase ?_
  · intro u hu
    obtain ⟨p, hp, rfl⟩ := List.mem_map.1 hu
    rfl
  · intro v' w' ho hg hs
    refine hK v' w' ?_ hg hs
    unfold OwnS
    simpa using ho
theorem ok_step {L : List ByteArray} {i : Nat} (hi : i < L.length) (hd : (L.take i).Pairwise (fun x y => x ≠ y)) (hn : ∀ j (h : j < L.length), j < i → L[j] ≠ L[i]) : (L.take (i + 1)).Pairwise (fun x y => x ≠ y) := by
  rw [take_snoc L i hi, List.pairwise_append]
  refine ⟨hd, by simp, fun a ha b hb => ?_⟩
  rw [List.mem_singleton.1 hb]
  obtain ⟨j, hj, rfl⟩ := List.getElem_of_mem ha
  rw [List.length_take] at hj
  rw [List.getElem_take]
  exact hn j (by omega) (by omega)
theorem dschema_c (dv mv : Value) (d m : List ByteArray) (w : World) (h : ScIs w dv mv d m) (fd : d.length ≤ 1000) (fm : m.length ≤ 1000) : FnC Try.prog 39 #[scV dv mv] w fun r w' => r = .bool (decide (ScOk d m)) ∧ Later w w' := by
  unfold scV
  obtain ⟨od, cd, hdv⟩ := Sl.slice h.dS
  obtain ⟨om, cm, hmv⟩ := Sl.slice h.mS
  rw [List.length_map] at hdv hmv
  refine enter39 _ ?_
  unfold B39
  obtain ⟨l1, s1, F⟩ := box2 w dv mv 24
  have eca : (Value.agg #[dv, mv]).cells = #[dv, mv] := rfl
  repeat' (first | (simp (disch := omega) only [push_cast, ↓reduceIte, zA, zG, zB, zH, zI, zC, zJ, zK, zL, zD, zE, zF, zM, zN, zO, zP, zQ, reduceCtorEq, not_true_eq_false, not_false_eq_true, eca, s1]) | (first | refine vIfE_of ?_ ?_ | refine vIfD_of ?_ ?_ | refine vIfQ_of ?_ ?_ | refine vIfV_of ?_ ?_) <;> intro _ | refine And.intro (by omega) ?_ | fail)
  generalize w.alloc (.cells #[dv, mv] 24) = w1 at *
  obtain ⟨a0, a1, _⟩ := F w1 (Later.refl _)
  have h1 := h.later l1
  refine drawn_k 6 ?_
  repeat' (first | (simp (disch := omega) only [push_cast, ↓reduceIte, zA, zG, zB, zH, zI, zC, zJ, zK, zL, zD, zE, zF, zM, zN, zO, zP, zQ, reduceCtorEq, not_true_eq_false, not_false_eq_true, a0, a1, addr_add_eq, Nat.zero_add]) | (first | refine vIfE_of ?_ ?_ | refine vIfD_of ?_ ?_ | refine vIfQ_of ?_ ?_ | refine vIfV_of ?_ ?_) <;> intro _ | refine And.intro (by omega) ?_ | fail)
  refine nB_of _ (Lit0 w1.heap.size) (stb_lit0 _ _) (fun w' hl => ?_) ?_
  · repeat' (first | (simp (disch := omega) only [push_cast, ↓reduceIte, zA, zG, zB, zH, zI, zC, zJ, zK, zL, zD, zE, zF, zM, zN, zO, zP, zQ, reduceCtorEq, not_true_eq_false, not_false_eq_true]) | (first | refine vIfE_of ?_ ?_ | refine vIfD_of ?_ ?_ | refine vIfQ_of ?_ ?_ | refine vIfV_of ?_ ?_) <;> intro _ | refine And.intro (by omega) ?_ | fail)
    exact ⟨later_alloc _ _, ⟨_, rfl⟩, own_lit w' [] _ 1 0 rfl (by unfold maxLen; omega) hl.size⟩
  repeat' (first | (simp (disch := omega) only [push_cast, ↓reduceIte, zA, zG, zB, zH, zI, zC, zJ, zK, zL, zD, zE, zF, zM, zN, zO, zP, zQ, reduceCtorEq, not_true_eq_false, not_false_eq_true, a0, a1, addr_add_eq, Nat.zero_add]) | (first | refine vIfE_of ?_ ?_ | refine vIfD_of ?_ ?_ | refine vIfQ_of ?_ ?_ | refine vIfV_of ?_ ?_) <;> intro _ | refine And.intro (by omega) ?_ | fail)
  refine nR_app (fun v w' => OwnS w' w1.heap.size v d) (stb_ownS _ _ _) (fun σ' w' hl hp => ?_) ?_
  · obtain ⟨hp26, hp28, _⟩ := hp
    obtain ⟨⟨lb, h26⟩, h26o⟩ : Lit0 w1.heap.size (σ' 7) w' := hp26
    have h28 : σ' 9 = dv := hp28
    have hsn := (h1.later hl).dS.n
    rw [h26] at h26o
    repeat' (first | (simp (disch := omega) only [push_cast, ↓reduceIte, zA, zG, zB, zH, zI, zC, zJ, zK, zL, zD, zE, zF, zM, zN, zO, zP, zQ, reduceCtorEq, not_true_eq_false, not_false_eq_true, h28, h26]) | (first | refine vIfE_of ?_ ?_ | refine vIfD_of ?_ ?_ | refine vIfQ_of ?_ ?_ | refine vIfV_of ?_ ?_) <;> intro _ | refine And.intro (by omega) ?_ | fail)
    refine vAppend_fresh Try.underlying22 ti9 rfl (by decide) hsn (by unfold maxLen; omega) (by omega) ?_
    intro v' w'' h0 h1
    rcases Nat.eq_zero_or_pos d.length with hz | hz
    · obtain ⟨rfl, rfl⟩ := h0 hz
      have : d = [] := List.length_eq_zero_iff.1 hz
      rw [this]
      exact ⟨Later.refl _, h26o⟩
    · obtain ⟨ho, hll⟩ := h1 hz
      exact ⟨hll, own_base ho hl.size⟩
  repeat' (first | (simp (disch := omega) only [push_cast, ↓reduceIte, zA, zG, zB, zH, zI, zC, zJ, zK, zL, zD, zE, zF, zM, zN, zO, zP, zQ, reduceCtorEq, not_true_eq_false, not_false_eq_true, a0, a1, addr_add_eq, Nat.zero_add]) | (first | refine vIfE_of ?_ ?_ | refine vIfD_of ?_ ?_ | refine vIfQ_of ?_ ?_ | refine vIfV_of ?_ ?_) <;> intro _ | refine And.intro (by omega) ?_ | fail)
  rintro w2 l2 X hX _ _
  refine vAppend_ss hX (h1.later l2).mS (by omega) l2.size ?_
  intro v3 w3 ho3 hg3 _
  have l13 := l2.appended hX (Nat.le_refl _) hg3
  have hL := Sl.of_own ho3
  have hLn : (d ++ m).length = d.length + m.length := List.length_append
  have hZ : StZ (d ++ m) := fun s hs => by
    rcases List.mem_append.1 hs with hs | hs
    · exact h.dZ s hs
    · exact h.mZ s hs
  have hL : StS w3 v3 (d ++ m) := hL
  have hOk : ScOk d m = ((∀ x ∈ d ++ m, NmOk x) ∧ (d ++ m).Pairwise (fun x y => x ≠ y) ∧ 1 ≤ d.length ∧ d.length ≤ 6 ∧ m.length ≤ 4) := rfl
  generalize d ++ m = L at *
  obtain ⟨o3, c3, rfl⟩ := Sl.slice hL
  rw [List.length_map] at hL ⊢
  clear hX ho3 hg3
  repeat' (first | (simp (disch := omega) only [push_cast, ↓reduceIte, zA, zG, zB, zH, zI, zC, zJ, zK, zL, zD, zE, zF, zM, zN, zO, zP, zQ, reduceCtorEq, not_true_eq_false, not_false_eq_true]) | (first | refine vIfE_of ?_ ?_ | refine vIfD_of ?_ ?_ | refine vIfQ_of ?_ ?_ | refine vIfV_of ?_ ?_) <;> intro _ | refine And.intro (by omega) ?_ | refine drawn_q ?_ | fail)
  refine vc_loop W39_0 (fun i : Nat => [(2, .bool false), (4, .int .i64 (i : Int))])
    (fun i w' => i ≤ L.length ∧ Later w3 w' ∧ (∀ j (h : j < L.length), j < i → NmOk L[j]) ∧ (L.take i).Pairwise (fun x y => x ≠ y)) (fun i => L.length - i) 0 (by decide) ?_ ?_ ?_
  · simp (disch := omega) only [push_cast, ↓reduceIte, zA, zG, zB, zH, zI, zC, zJ, zK, zL, zD, zE, zF, zM, zN, zO, zP, zQ, reduceCtorEq, not_true_eq_false, not_false_eq_true]
  · exact ⟨by omega, Later.refl _, fun j _ hj => absurd hj (Nat.not_lt_zero _), by simp⟩
  rintro i uu w4 ⟨hi, l4, hA, hP⟩
  have l04 := (l1.trans l13).trans l4
  by_cases hlt : i < L.length
  · cases o3 with
    | none => have := (Sl.len hL).2.2.2 rfl; simp at this; rw [this.1] at hlt; simp at hlt
    | some a =>
    have hc := StS.atS (Sl.later hL l4) hlt
    repeat' (first | (simp (disch := omega) only [push_cast, ↓reduceIte, zA, zG, zB, zH, zI, zC, zJ, zK, zL, zD, zE, zF, zM, zN, zO, zP, zQ, reduceCtorEq, not_true_eq_false, not_false_eq_true, hc]) | (first | refine vIfE_of ?_ ?_ | refine vIfD_of ?_ ?_ | refine vIfQ_of ?_ ?_ | refine vIfV_of ?_ ?_) <;> intro _ | refine And.intro (by omega) ?_ | refine drawn_q ?_ | fail)
    refine (dname_c L[i] w4 (hZ _ (List.getElem_mem _))).mono ?_
    rintro _ w5 ⟨rfl, l5⟩
    by_cases hn : NmOk L[i]
    · rw [decide_eq_true hn]
      repeat' (first | (simp (disch := omega) only [push_cast, ↓reduceIte, zA, zG, zB, zH, zI, zC, zJ, zK, zL, zD, zE, zF, zM, zN, zO, zP, zQ, reduceCtorEq, not_true_eq_false, not_false_eq_true]) | (first | refine vIfE_of ?_ ?_ | refine vIfD_of ?_ ?_ | refine vIfQ_of ?_ ?_ | refine vIfV_of ?_ ?_) <;> intro _ | refine And.intro (by omega) ?_ | refine drawn_q ?_ | fail)
      refine vc_loop W39_1 (fun i : Nat => [(2, .bool false), (6, .int .i64 (i : Int))])
        (fun k w' => k ≤ i ∧ Later w5 w' ∧ (∀ j (h : j < L.length), j < k → L[j] ≠ L[i])) (fun k => i - k) 0 (by decide) ?_ ?_ ?_
      · simp (disch := omega) only [push_cast, ↓reduceIte, zA, zG, zB, zH, zI, zC, zJ, zK, zL, zD, zE, zF, zM, zN, zO, zP, zQ, reduceCtorEq, not_true_eq_false, not_false_eq_true]
      · exact ⟨by omega, Later.refl _, fun j _ hj => absurd hj (Nat.not_lt_zero _)⟩
      rintro k uu2 w6 ⟨hk, l6, hB⟩
      have l46 := l5.trans l6
      by_cases hki : k < i
      · have c1 := StS.atS (Sl.later hL (l4.trans l46)) (show k < L.length by omega)
        have c2 := StS.atS (Sl.later hL (l4.trans l46)) hlt
        by_cases he : L[k] = L[i]
        · have hno : decide (ScOk d m) = false := decide_eq_false fun h => by
            rw [hOk] at h
            exact List.pairwise_iff_getElem.1 h.2.1 k i (by omega) hlt hki he
          repeat' (first | (simp (disch := omega) only [push_cast, ↓reduceIte, zA, zG, zB, zH, zI, zC, zJ, zK, zL, zD, zE, zF, zM, zN, zO, zP, zQ, reduceCtorEq, not_true_eq_false, not_false_eq_true, c1, c2, he, decide_true]) | (first | refine vIfE_of ?_ ?_ | refine vIfD_of ?_ ?_ | refine vIfQ_of ?_ ?_ | refine vIfV_of ?_ ?_) <;> intro _ | refine And.intro (by omega) ?_ | refine drawn_q ?_ | fail)
          intro w7 l7
          repeat' (first | (simp (disch := omega) only [push_cast, ↓reduceIte, zA, zG, zB, zH, zI, zC, zJ, zK, zL, zD, zE, zF, zM, zN, zO, zP, zQ, reduceCtorEq, not_true_eq_false, not_false_eq_true]) | (first | refine vIfE_of ?_ ?_ | refine vIfD_of ?_ ?_ | refine vIfQ_of ?_ ?_ | refine vIfV_of ?_ ?_) <;> intro _ | refine And.intro (by omega) ?_ | refine drawn_q ?_ | fail)
          first | exact ⟨by rw [hno], ((l04.trans l46).trans l7)⟩ | exact ((l04.trans l46).trans l7)
        · repeat' (first | (simp (disch := omega) only [push_cast, ↓reduceIte, zA, zG, zB, zH, zI, zC, zJ, zK, zL, zD, zE, zF, zM, zN, zO, zP, zQ, reduceCtorEq, not_true_eq_false, not_false_eq_true, c1, c2, he, decide_false]) | (first | refine vIfE_of ?_ ?_ | refine vIfD_of ?_ ?_ | refine vIfQ_of ?_ ?_ | refine vIfV_of ?_ ?_) <;> intro _ | refine And.intro (by omega) ?_ | refine drawn_q ?_ | fail)
          intro w7 l7
          repeat' (first | (simp (disch := omega) only [push_cast, ↓reduceIte, zA, zG, zB, zH, zI, zC, zJ, zK, zL, zD, zE, zF, zM, zN, zO, zP, zQ, reduceCtorEq, not_true_eq_false, not_false_eq_true]) | (first | refine vIfE_of ?_ ?_ | refine vIfD_of ?_ ?_ | refine vIfQ_of ?_ ?_ | refine vIfV_of ?_ ?_) <;> intro _ | refine And.intro (by omega) ?_ | refine drawn_q ?_ | fail)
          refine ⟨rfl, k + 1, by simp (disch := omega) only [push_cast, ↓reduceIte, zA, zG, zB, zH, zI, zC, zJ, zK, zL, zD, zE, zF, zM, zN, zO, zP, zQ, reduceCtorEq, not_true_eq_false, not_false_eq_true], ⟨by omega, l6.trans l7, fun j hj hjk => ?_⟩, by dsimp only; omega⟩
          by_cases h : j < k
          · exact hB j hj h
          · have : j = k := by omega
            subst this
            exact he
      · have hki' : k = i := by omega
        subst hki'
        repeat' (first | (simp (disch := omega) only [push_cast, ↓reduceIte, zA, zG, zB, zH, zI, zC, zJ, zK, zL, zD, zE, zF, zM, zN, zO, zP, zQ, reduceCtorEq, not_true_eq_false, not_false_eq_true]) | (first | refine vIfE_of ?_ ?_ | refine vIfD_of ?_ ?_ | refine vIfQ_of ?_ ?_ | refine vIfV_of ?_ ?_) <;> intro _ | refine And.intro (by omega) ?_ | refine drawn_q ?_ | fail)
        refine ⟨rfl, k + 1, by simp (disch := omega) only [push_cast, ↓reduceIte, zA, zG, zB, zH, zI, zC, zJ, zK, zL, zD, zE, zF, zM, zN, zO, zP, zQ, reduceCtorEq, not_true_eq_false, not_false_eq_true], ⟨by omega, l4.trans l46, fun j hj hjk => ?_, ok_step hlt hP hB⟩, by dsimp only; omega⟩
        by_cases h : j < k
        · exact hA j hj h
        · have : j = k := by omega
          subst this
          exact hn
    · have hno : decide (ScOk d m) = false := decide_eq_false fun h => by
        rw [hOk] at h
        exact hn (h.1 _ (List.getElem_mem _))
      rw [decide_eq_false hn]
      repeat' (first | (simp (disch := omega) only [push_cast, ↓reduceIte, zA, zG, zB, zH, zI, zC, zJ, zK, zL, zD, zE, zF, zM, zN, zO, zP, zQ, reduceCtorEq, not_true_eq_false, not_false_eq_true]) | (first | refine vIfE_of ?_ ?_ | refine vIfD_of ?_ ?_ | refine vIfQ_of ?_ ?_ | refine vIfV_of ?_ ?_) <;> intro _ | refine And.intro (by omega) ?_ | refine drawn_q ?_ | fail)
      first | exact ⟨by rw [hno], (l04.trans l5)⟩ | exact (l04.trans l5)
  · have hd : decide (ScOk d m) = decide (1 ≤ d.length ∧ d.length ≤ 6 ∧ m.length ≤ 4) := by
      refine decide_eq_decide.2 ?_
      rw [hOk]
      refine ⟨fun h => h.2.2, fun h => ⟨fun x hx => ?_, ?_, h⟩⟩
      · obtain ⟨j, hj, rfl⟩ := List.getElem_of_mem hx
        exact hA j hj (by omega)
      · rw [List.take_of_length_le (by omega)] at hP
        exact hP
    obtain ⟨a0, a1, _⟩ := F w4 (l13.trans l4)
    rw [hdv] at a0
    rw [hmv] at a1
    rw [hd]
    by_cases h1 : 1 ≤ d.length
    · by_cases h2 : d.length ≤ 6
      · by_cases h3 : m.length ≤ 4
        · repeat' (first | (simp (disch := omega) only [push_cast, ↓reduceIte, zA, zG, zB, zH, zI, zC, zJ, zK, zL, zD, zE, zF, zM, zN, zO, zP, zQ, reduceCtorEq, not_true_eq_false, not_false_eq_true, a0, a1, addr_add_eq, Nat.zero_add]) | (first | refine vIfE_of ?_ ?_ | refine vIfD_of ?_ ?_ | refine vIfQ_of ?_ ?_ | refine vIfV_of ?_ ?_) <;> intro _ | refine And.intro (by omega) ?_ | refine drawn_q ?_ | fail)
          first | exact ⟨congrArg Value.bool ((decide_eq_true (by omega)).trans (decide_eq_true (by omega)).symm), l04⟩ | exact l04
        · repeat' (first | (simp (disch := omega) only [push_cast, ↓reduceIte, zA, zG, zB, zH, zI, zC, zJ, zK, zL, zD, zE, zF, zM, zN, zO, zP, zQ, reduceCtorEq, not_true_eq_false, not_false_eq_true, a0, a1, addr_add_eq, Nat.zero_add]) | (first | refine vIfE_of ?_ ?_ | refine vIfD_of ?_ ?_ | refine vIfQ_of ?_ ?_ | refine vIfV_of ?_ ?_) <;> intro _ | refine And.intro (by omega) ?_ | refine drawn_q ?_ | fail)
          first | exact ⟨congrArg Value.bool ((decide_eq_false (by omega)).trans (decide_eq_false (by omega)).symm), l04⟩ | exact l04
      · repeat' (first | (simp (disch := omega) only [push_cast, ↓reduceIte, zA, zG, zB, zH, zI, zC, zJ, zK, zL, zD, zE, zF, zM, zN, zO, zP, zQ, reduceCtorEq, not_true_eq_false, not_false_eq_true, a0, a1, addr_add_eq, Nat.zero_add]) | (first | refine vIfE_of ?_ ?_ | refine vIfD_of ?_ ?_ | refine vIfQ_of ?_ ?_ | refine vIfV_of ?_ ?_) <;> intro _ | refine And.intro (by omega) ?_ | refine drawn_q ?_ | fail)
        first | exact ⟨congrArg Value.bool ((decide_eq_false (by omega)).trans (decide_eq_false (by omega)).symm), congrArg Value.bool (decide_eq_false (by omega)).symm, l04⟩ | exact ⟨congrArg Value.bool (decide_eq_false (by omega)).symm, l04⟩ | exact l04
    · repeat' (first | (simp (disch := omega) only [push_cast, ↓reduceIte, zA, zG, zB, zH, zI, zC, zJ, zK, zL, zD, zE, zF, zM, zN, zO, zP, zQ, reduceCtorEq, not_true_eq_false, not_false_eq_true, a0, a1, addr_add_eq, Nat.zero_add]) | (first | refine vIfE_of ?_ ?_ | refine vIfD_of ?_ ?_ | refine vIfQ_of ?_ ?_ | refine vIfV_of ?_ ?_) <;> intro _ | refine And.intro (by omega) ?_ | refine drawn_q ?_ | fail)
      first | exact ⟨congrArg Value.bool ((decide_eq_false (by omega)).trans (decide_eq_false (by omega)).symm), l04⟩ | exact ⟨congrArg Value.bool (decide_eq_false (by omega)).symm, l04⟩ | trace_state
/-- A right row. -/
def RtOk (nd nm : Nat) (e : El) : Prop := e.d.length = nd ∧ e.a.length = nm ∧ (∀ s ∈ e.d, VlOk s) ∧ (∀ a ∈ e.a, ARt a) ∧ 0 ≤ e.t ∧ e.t ≤ 1099511627776 ∧ 1 ≤ e.n ∧ e.n ≤ 1048576
instance (nd nm : Nat) (e : El) : Decidable (RtOk nd nm e) := inferInstanceAs (Decidable (e.d.length = nd ∧ e.a.length = nm ∧ (∀ s ∈ e.d, VlOk s) ∧ (∀ a ∈ e.a, ARt a) ∧ 0 ≤ e.t ∧ e.t ≤ 1099511627776 ∧ 1 ≤ e.n ∧ e.n ≤ 1048576))
/-- A schema and a row that came as values: their boxes. -/
theorem boxSR (w : World) (dv mv : Value) (y : El) : Later w ((w.alloc (.cells #[dv, mv] 24)).alloc (.cells #[.int .i64 y.t, y.dv, .int .i64 y.n, y.av] 35)) ∧ ((w.alloc (.cells #[dv, mv] 24)).alloc (.cells #[.int .i64 y.t, y.dv, .int .i64 y.n, y.av] 35)).heap.size = w.heap.size + 2 ∧
    ∀ w', Later ((w.alloc (.cells #[dv, mv] 24)).alloc (.cells #[.int .i64 y.t, y.dv, .int .i64 y.n, y.av] 35)) w' →
      w'.cell? ⟨w.heap.size, 0, none⟩ = some dv ∧ w'.cell? ⟨w.heap.size, 1, none⟩ = some mv ∧ cellsAt w' ⟨w.heap.size, 0, none⟩ 2 = some [dv, mv] ∧
      w'.cell? ⟨w.heap.size + 1, 0, none⟩ = some (.int .i64 y.t) ∧ w'.cell? ⟨w.heap.size + 1, 1, none⟩ = some y.dv ∧ w'.cell? ⟨w.heap.size + 1, 2, none⟩ = some (.int .i64 y.n) ∧ w'.cell? ⟨w.heap.size + 1, 3, none⟩ = some y.av ∧ cellsAt w' ⟨w.heap.size + 1, 0, none⟩ 4 = some (elC y) := by
  obtain ⟨l1, s1, F⟩ := box2 w dv mv 24
  generalize w.alloc (.cells #[dv, mv] 24) = w1 at *
  have l2 := later_alloc w1 (.cells #[.int .i64 y.t, y.dv, .int .i64 y.n, y.av] 35)
  have B2 := Blk.new w1 #[.int .i64 y.t, y.dv, .int .i64 y.n, y.av] 35
  have s2 : (w1.alloc (.cells #[.int .i64 y.t, y.dv, .int .i64 y.n, y.av] 35)).heap.size = w1.heap.size + 1 := World.size_alloc w1 _
  generalize w1.alloc (.cells #[.int .i64 y.t, y.dv, .int .i64 y.n, y.av] 35) = w2 at *
  rw [s1] at B2
  refine ⟨l1.trans l2, by omega, fun w' hl => ?_⟩
  obtain ⟨f0, f1, f2⟩ := F w' (l2.trans hl)
  obtain ⟨b0, b1, b2, b3, b4⟩ := box4_later B2 hl
  exact ⟨f0, f1, f2, b0, b1, b2, b3, b4⟩
theorem dright_c (dv mv : Value) (d m : List ByteArray) (y : El) (w : World) (h : ScIs w dv mv d m) (hy : EIs w y) (hz : StZ y.d) : FnC Try.prog 28 #[scV dv mv, elV y] w fun r w' => r = .bool (decide (RtOk d.length m.length y)) ∧ Later w w' := by
  unfold scV elV
  obtain ⟨od, cd, hdv⟩ := Sl.slice h.dS
  obtain ⟨om, cm, hmv⟩ := Sl.slice h.mS
  have hyd := hy.1
  have hya := hy.2
  obtain ⟨oy, cy, hydv⟩ := Sl.slice hy.1
  obtain ⟨oa, ca, hyav, ga1, ga2⟩ := RecS.slice hy.2
  have gd := (Sl.len (hydv ▸ hyd)).2
  rw [List.length_map] at hdv hmv hydv gd
  have hmax : maxLen = 9223372036854775807 := rfl
  rw [hmax] at gd
  refine enter28 _ _ ?_
  unfold B28
  obtain ⟨l2, s2, F⟩ := boxSR w dv mv y
  have s1 := World.size_alloc w (.cells #[dv, mv] 24)
  have eca : (Value.agg #[dv, mv]).cells = #[dv, mv] := rfl
  have ecb : (Value.agg #[.int .i64 y.t, y.dv, .int .i64 y.n, y.av]).cells = #[.int .i64 y.t, y.dv, .int .i64 y.n, y.av] := rfl
  repeat' (first | (simp (disch := omega) only [push_cast, ↓reduceIte, zA, zG, zB, zH, zI, zC, zJ, zK, zL, zD, zE, zF, zM, zN, zO, zP, zQ, reduceCtorEq, not_true_eq_false, not_false_eq_true, eca, ecb, s1, s2]) | (first | refine vIfE_of ?_ ?_ | refine vIfD_of ?_ ?_ | refine vIfQ_of ?_ ?_ | refine vIfV_of ?_ ?_) <;> intro _ | refine And.intro (by omega) ?_ | fail)
  generalize ((w.alloc (.cells #[dv, mv] 24)).alloc (.cells #[.int .i64 y.t, y.dv, .int .i64 y.n, y.av] 35)) = w2 at *
  have F' : ∀ w', Later w2 w' → w'.cell? ⟨w.heap.size, 0, none⟩ = some (.slice od d.length cd) ∧ w'.cell? ⟨w.heap.size, 1, none⟩ = some (.slice om m.length cm) ∧
      w'.cell? ⟨w.heap.size + 1, 0, none⟩ = some (.int .i64 y.t) ∧ w'.cell? ⟨w.heap.size + 1, 1, none⟩ = some (.slice oy y.d.length cy) ∧ w'.cell? ⟨w.heap.size + 1, 2, none⟩ = some (.int .i64 y.n) ∧ w'.cell? ⟨w.heap.size + 1, 3, none⟩ = some (.slice oa y.a.length ca) := by
    intro w' hl
    obtain ⟨f0, f1, _, b0, b1, b2, b3, _⟩ := F w' hl
    rw [hdv] at f0
    rw [hmv] at f1
    rw [hydv] at b1
    rw [hyav] at b3
    exact ⟨f0, f1, b0, b1, b2, b3⟩
  rw [hydv] at hyd
  rw [hyav] at hya
  clear F hdv hmv hydv hyav eca ecb s1 s2
  obtain ⟨f0, f1, b0, b1, b2, b3⟩ := F' w2 (Later.refl _)
  have no : (¬ RtOk d.length m.length y) → decide (RtOk d.length m.length y) = false := fun h => decide_eq_false h
  by_cases hd : y.d.length = d.length
  case neg =>
    have hno := no fun h => hd h.1
    repeat' (first | (simp (disch := omega) only [push_cast, ↓reduceIte, zA, zG, zB, zH, zI, zC, zJ, zK, zL, zD, zE, zF, zM, zN, zO, zP, zQ, reduceCtorEq, not_true_eq_false, not_false_eq_true, f0, f1, b1, b3, addr_add_eq, Nat.zero_add]) | (first | refine vIfE_of ?_ ?_ | refine vIfD_of ?_ ?_ | refine vIfQ_of ?_ ?_ | refine vIfV_of ?_ ?_) <;> intro _ | refine And.intro (by omega) ?_ | refine drawn_q ?_ | fail)
    first | exact ⟨by rw [hno], l2⟩ | exact l2
  by_cases hm : y.a.length = m.length
  case neg =>
    have hno := no fun h => hm h.2.1
    repeat' (first | (simp (disch := omega) only [push_cast, ↓reduceIte, zA, zG, zB, zH, zI, zC, zJ, zK, zL, zD, zE, zF, zM, zN, zO, zP, zQ, reduceCtorEq, not_true_eq_false, not_false_eq_true, f0, f1, b1, b3, addr_add_eq, Nat.zero_add]) | (first | refine vIfE_of ?_ ?_ | refine vIfD_of ?_ ?_ | refine vIfQ_of ?_ ?_ | refine vIfV_of ?_ ?_) <;> intro _ | refine And.intro (by omega) ?_ | refine drawn_q ?_ | fail)
    first | exact ⟨by rw [hno], l2⟩ | exact l2
  repeat' (first | (simp (disch := omega) only [push_cast, ↓reduceIte, zA, zG, zB, zH, zI, zC, zJ, zK, zL, zD, zE, zF, zM, zN, zO, zP, zQ, reduceCtorEq, not_true_eq_false, not_false_eq_true, f0, f1, b1, b3, addr_add_eq, Nat.zero_add]) | (first | refine vIfE_of ?_ ?_ | refine vIfD_of ?_ ?_ | refine vIfQ_of ?_ ?_ | refine vIfV_of ?_ ?_) <;> intro _ | refine And.intro (by omega) ?_ | refine drawn_q ?_ | fail)
  refine vc_loop W28_0 (fun i : Nat => [(4, .bool false), (5, .int .i64 (i : Int))])
    (fun i w' => i ≤ y.d.length ∧ Later w2 w' ∧ (∀ j (h : j < y.d.length), j < i → VlOk y.d[j])) (fun i => y.d.length - i) 0 (by decide) ?_ ?_ ?_
  · simp (disch := omega) only [push_cast, ↓reduceIte, zA, zG, zB, zH, zI, zC, zJ, zK, zL, zD, zE, zF, zM, zN, zO, zP, zQ, reduceCtorEq, not_true_eq_false, not_false_eq_true]
  · exact ⟨by omega, Later.refl _, fun j _ hj => absurd hj (Nat.not_lt_zero _)⟩
  rintro i uu w3 ⟨hi, l3, hA⟩
  have l03 := l2.trans l3
  obtain ⟨f0, f1, b0, b1, b2, b3⟩ := F' w3 l3
  by_cases hlt : i < y.d.length
  · cases oy with
    | none => have := (Sl.len hyd).2.2.2 rfl; simp at this; rw [this.1] at hlt; simp at hlt
    | some ad =>
    have hc := StS.atS (Sl.later hyd l03) hlt
    repeat' (first | (simp (disch := omega) only [push_cast, ↓reduceIte, zA, zG, zB, zH, zI, zC, zJ, zK, zL, zD, zE, zF, zM, zN, zO, zP, zQ, reduceCtorEq, not_true_eq_false, not_false_eq_true, b1, hc, addr_add_eq, Nat.zero_add]) | (first | refine vIfE_of ?_ ?_ | refine vIfD_of ?_ ?_ | refine vIfQ_of ?_ ?_ | refine vIfV_of ?_ ?_) <;> intro _ | refine And.intro (by omega) ?_ | refine drawn_q ?_ | fail)
    refine (dvalue_c y.d[i] w3 (hz _ (List.getElem_mem _))).mono ?_
    rintro _ w0 ⟨rfl, h0⟩
    obtain rfl := h0.symm
    by_cases hv : VlOk y.d[i]
    · rw [decide_eq_true hv]
      repeat' (first | (simp (disch := omega) only [push_cast, ↓reduceIte, zA, zG, zB, zH, zI, zC, zJ, zK, zL, zD, zE, zF, zM, zN, zO, zP, zQ, reduceCtorEq, not_true_eq_false, not_false_eq_true]) | (first | refine vIfE_of ?_ ?_ | refine vIfD_of ?_ ?_ | refine vIfQ_of ?_ ?_ | refine vIfV_of ?_ ?_) <;> intro _ | refine And.intro (by omega) ?_ | refine drawn_q ?_ | fail)
      refine ⟨rfl, i + 1, by simp (disch := omega) only [push_cast, ↓reduceIte, zA, zG, zB, zH, zI, zC, zJ, zK, zL, zD, zE, zF, zM, zN, zO, zP, zQ, reduceCtorEq, not_true_eq_false, not_false_eq_true], ⟨by omega, l3, fun j hj hji => ?_⟩, by dsimp only; omega⟩
      by_cases h : j < i
      · exact hA j hj h
      · have : j = i := by omega
        subst this
        exact hv
    · have hno := no fun h => hv (h.2.2.1 _ (List.getElem_mem _))
      rw [decide_eq_false hv]
      repeat' (first | (simp (disch := omega) only [push_cast, ↓reduceIte, zA, zG, zB, zH, zI, zC, zJ, zK, zL, zD, zE, zF, zM, zN, zO, zP, zQ, reduceCtorEq, not_true_eq_false, not_false_eq_true]) | (first | refine vIfE_of ?_ ?_ | refine vIfD_of ?_ ?_ | refine vIfQ_of ?_ ?_ | refine vIfV_of ?_ ?_) <;> intro _ | refine And.intro (by omega) ?_ | refine drawn_q ?_ | fail)
      first | exact ⟨by rw [hno], l03⟩ | exact l03
  have hvs : ∀ s ∈ y.d, VlOk s := fun s hs => by
    obtain ⟨j, hj, rfl⟩ := List.getElem_of_mem hs
    exact hA j hj (by omega)
  repeat' (first | (simp (disch := omega) only [push_cast, ↓reduceIte, zA, zG, zB, zH, zI, zC, zJ, zK, zL, zD, zE, zF, zM, zN, zO, zP, zQ, reduceCtorEq, not_true_eq_false, not_false_eq_true, b1, addr_add_eq, Nat.zero_add]) | (first | refine vIfE_of ?_ ?_ | refine vIfD_of ?_ ?_ | refine vIfQ_of ?_ ?_ | refine vIfV_of ?_ ?_) <;> intro _ | refine And.intro (by omega) ?_ | refine drawn_q ?_ | fail)
  refine vc_loop W28_1 (fun i : Nat => [(4, .bool false), (7, .int .i64 (i : Int))])
    (fun i w' => i ≤ y.a.length ∧ Later w2 w' ∧ (∀ j (h : j < y.a.length), j < i → ARt y.a[j])) (fun i => y.a.length - i) 0 (by decide) ?_ ?_ ?_
  · simp (disch := omega) only [push_cast, ↓reduceIte, zA, zG, zB, zH, zI, zC, zJ, zK, zL, zD, zE, zF, zM, zN, zO, zP, zQ, reduceCtorEq, not_true_eq_false, not_false_eq_true]
  · exact ⟨by omega, l3, fun j _ hj => absurd hj (Nat.not_lt_zero _)⟩
  rintro i uu2 w4 ⟨hi, l4, hB⟩
  have l04 := l2.trans l4
  obtain ⟨f0, f1, b0, b1, b2, b3⟩ := F' w4 l4
  by_cases hlt : i < y.a.length
  · obtain ⟨ad, rfl, hc⟩ := RecS.at agC_len (hya.later l04) hlt
    unfold agC at hc
    repeat' (first | (simp (disch := omega) only [push_cast, ↓reduceIte, zA, zG, zB, zH, zI, zC, zJ, zK, zL, zD, zE, zF, zM, zN, zO, zP, zQ, reduceCtorEq, not_true_eq_false, not_false_eq_true, b3, hc, addr_add_eq, Nat.zero_add]) | (first | refine vIfE_of ?_ ?_ | refine vIfD_of ?_ ?_ | refine vIfQ_of ?_ ?_ | refine vIfV_of ?_ ?_) <;> intro _ | refine And.intro (by omega) ?_ | refine drawn_q ?_ | fail)
    refine (caright_c y.a[i] w4).mono ?_
    rintro _ w5 ⟨rfl, l5⟩
    by_cases hv : ARt y.a[i]
    · rw [decide_eq_true hv]
      repeat' (first | (simp (disch := omega) only [push_cast, ↓reduceIte, zA, zG, zB, zH, zI, zC, zJ, zK, zL, zD, zE, zF, zM, zN, zO, zP, zQ, reduceCtorEq, not_true_eq_false, not_false_eq_true]) | (first | refine vIfE_of ?_ ?_ | refine vIfD_of ?_ ?_ | refine vIfQ_of ?_ ?_ | refine vIfV_of ?_ ?_) <;> intro _ | refine And.intro (by omega) ?_ | refine drawn_q ?_ | fail)
      refine ⟨rfl, i + 1, by simp (disch := omega) only [push_cast, ↓reduceIte, zA, zG, zB, zH, zI, zC, zJ, zK, zL, zD, zE, zF, zM, zN, zO, zP, zQ, reduceCtorEq, not_true_eq_false, not_false_eq_true], ⟨by omega, l4.trans l5, fun j hj hji => ?_⟩, by dsimp only; omega⟩
      by_cases h : j < i
      · exact hB j hj h
      · have : j = i := by omega
        subst this
        exact hv
    · have hno := no fun h => hv (h.2.2.2.1 _ (List.getElem_mem _))
      rw [decide_eq_false hv]
      repeat' (first | (simp (disch := omega) only [push_cast, ↓reduceIte, zA, zG, zB, zH, zI, zC, zJ, zK, zL, zD, zE, zF, zM, zN, zO, zP, zQ, reduceCtorEq, not_true_eq_false, not_false_eq_true]) | (first | refine vIfE_of ?_ ?_ | refine vIfD_of ?_ ?_ | refine vIfQ_of ?_ ?_ | refine vIfV_of ?_ ?_) <;> intro _ | refine And.intro (by omega) ?_ | refine drawn_q ?_ | fail)
      first | exact ⟨by rw [hno], (l04.trans l5)⟩ | exact (l04.trans l5)
  have has : ∀ a ∈ y.a, ARt a := fun s hs => by
    obtain ⟨j, hj, rfl⟩ := List.getElem_of_mem hs
    exact hB j hj (by omega)
  have hdec : RtOk d.length m.length y ↔ (0 ≤ y.t ∧ y.t ≤ 1099511627776 ∧ 1 ≤ y.n ∧ y.n ≤ 1048576) := ⟨fun h => h.2.2.2.2, fun h => ⟨hd, hm, hvs, has, h⟩⟩
  rw [decide_eq_decide.2 hdec]
  by_cases h1 : 0 ≤ y.t
  · by_cases h2 : y.t ≤ 1099511627776
    · by_cases h3 : 1 ≤ y.n
      · by_cases h4 : y.n ≤ 1048576
        · repeat' (first | (simp (disch := omega) only [push_cast, ↓reduceIte, zA, zG, zB, zH, zI, zC, zJ, zK, zL, zD, zE, zF, zM, zN, zO, zP, zQ, reduceCtorEq, not_true_eq_false, not_false_eq_true, b0, b2, b3, addr_add_eq, Nat.zero_add]) | (first | refine vIfE_of ?_ ?_ | refine vIfD_of ?_ ?_ | refine vIfQ_of ?_ ?_ | refine vIfV_of ?_ ?_) <;> intro _ | refine And.intro (by omega) ?_ | refine drawn_q ?_ | fail)
          first | exact ⟨congrArg Value.bool ((decide_eq_true (by omega)).trans (decide_eq_true (by omega)).symm), l04⟩ | exact l04
        · repeat' (first | (simp (disch := omega) only [push_cast, ↓reduceIte, zA, zG, zB, zH, zI, zC, zJ, zK, zL, zD, zE, zF, zM, zN, zO, zP, zQ, reduceCtorEq, not_true_eq_false, not_false_eq_true, b0, b2, b3, addr_add_eq, Nat.zero_add]) | (first | refine vIfE_of ?_ ?_ | refine vIfD_of ?_ ?_ | refine vIfQ_of ?_ ?_ | refine vIfV_of ?_ ?_) <;> intro _ | refine And.intro (by omega) ?_ | refine drawn_q ?_ | fail)
          first | exact ⟨congrArg Value.bool ((decide_eq_false (by omega)).trans (decide_eq_false (by omega)).symm), l04⟩ | exact l04
      · repeat' (first | (simp (disch := omega) only [push_cast, ↓reduceIte, zA, zG, zB, zH, zI, zC, zJ, zK, zL, zD, zE, zF, zM, zN, zO, zP, zQ, reduceCtorEq, not_true_eq_false, not_false_eq_true, b0, b2, b3, addr_add_eq, Nat.zero_add]) | (first | refine vIfE_of ?_ ?_ | refine vIfD_of ?_ ?_ | refine vIfQ_of ?_ ?_ | refine vIfV_of ?_ ?_) <;> intro _ | refine And.intro (by omega) ?_ | refine drawn_q ?_ | fail)
        first | exact ⟨congrArg Value.bool ((decide_eq_false (by omega)).trans (decide_eq_false (by omega)).symm), l04⟩ | exact ⟨congrArg Value.bool (decide_eq_false (by omega)).symm, l04⟩
    · repeat' (first | (simp (disch := omega) only [push_cast, ↓reduceIte, zA, zG, zB, zH, zI, zC, zJ, zK, zL, zD, zE, zF, zM, zN, zO, zP, zQ, reduceCtorEq, not_true_eq_false, not_false_eq_true, b0, b2, b3, addr_add_eq, Nat.zero_add]) | (first | refine vIfE_of ?_ ?_ | refine vIfD_of ?_ ?_ | refine vIfQ_of ?_ ?_ | refine vIfV_of ?_ ?_) <;> intro _ | refine And.intro (by omega) ?_ | refine drawn_q ?_ | fail)
      first | exact ⟨congrArg Value.bool ((decide_eq_false (by omega)).trans (decide_eq_false (by omega)).symm), l04⟩ | exact ⟨congrArg Value.bool (decide_eq_false (by omega)).symm, l04⟩
  · repeat' (first | (simp (disch := omega) only [push_cast, ↓reduceIte, zA, zG, zB, zH, zI, zC, zJ, zK, zL, zD, zE, zF, zM, zN, zO, zP, zQ, reduceCtorEq, not_true_eq_false, not_false_eq_true, b0, b2, b3, addr_add_eq, Nat.zero_add]) | (first | refine vIfE_of ?_ ?_ | refine vIfD_of ?_ ?_ | refine vIfQ_of ?_ ?_ | refine vIfV_of ?_ ?_) <;> intro _ | refine And.intro (by omega) ?_ | refine drawn_q ?_ | fail)
    first | exact ⟨congrArg Value.bool ((decide_eq_false (by omega)).trans (decide_eq_false (by omega)).symm), l04⟩ | exact ⟨congrArg Value.bool (decide_eq_false (by omega)).symm, l04⟩
/-- Rows that are gone through. -/
def F13 (d m : List ByteArray) (l : List El) : Prop := F10 d ∧ F10 m ∧ l.length ≤ 120 ∧ ScOk d m ∧ ∀ e ∈ l, RtOk d.length m.length e
instance (d m : List ByteArray) (l : List El) : Decidable (F13 d m l) := inferInstanceAs (Decidable (F10 d ∧ F10 m ∧ l.length ≤ 120 ∧ ScOk d m ∧ ∀ e ∈ l, RtOk d.length m.length e))
theorem fits13_c (dv mv v : Value) (d m : List ByteArray) (l : List El) (w : World) (h : ScIs w dv mv d m) (hl : RecS elC 4 w v l) (hes : ∀ e ∈ l, EIs w e ∧ StZ e.d) : FnC Try.prog 11 #[scV dv mv, v] w fun r w' => r = .bool (decide (F13 d m l)) ∧ Later w w' := by
  unfold scV
  obtain ⟨ol, cl, rfl, gl1, gl2⟩ := hl.slice
  refine enter11 _ _ ?_
  unfold B11
  obtain ⟨l1, s1, F⟩ := box2 w dv mv 24
  have eca : (Value.agg #[dv, mv]).cells = #[dv, mv] := rfl
  have no : (¬ F13 d m l) → decide (F13 d m l) = false := fun h => decide_eq_false h
  repeat' (first | (simp (disch := omega) only [push_cast, ↓reduceIte, zA, zG, zB, zH, zI, zC, zJ, zK, zL, zD, zE, zF, zM, zN, zO, zP, zQ, reduceCtorEq, not_true_eq_false, not_false_eq_true, eca, s1]) | (first | refine vIfE_of ?_ ?_ | refine vIfD_of ?_ ?_ | refine vIfQ_of ?_ ?_ | refine vIfV_of ?_ ?_) <;> intro _ | refine And.intro (by omega) ?_ | fail)
  generalize w.alloc (.cells #[dv, mv] 24) = w1 at *
  obtain ⟨a0, a1, a2⟩ := F w1 (Later.refl _)
  have h1 := h.later l1
  repeat' (first | (simp (disch := omega) only [push_cast, ↓reduceIte, zA, zG, zB, zH, zI, zC, zJ, zK, zL, zD, zE, zF, zM, zN, zO, zP, zQ, reduceCtorEq, not_true_eq_false, not_false_eq_true, a0, addr_add_eq, Nat.zero_add]) | (first | refine vIfE_of ?_ ?_ | refine vIfD_of ?_ ?_ | refine vIfQ_of ?_ ?_ | refine vIfV_of ?_ ?_) <;> intro _ | refine And.intro (by omega) ?_ | refine drawn_q ?_ | fail)
  refine (fits10_c dv d w1 h1.dS h.dZ).mono ?_
  rintro _ w0 ⟨rfl, h0⟩
  obtain rfl := h0.symm
  repeat' (first | (simp (disch := omega) only [push_cast, ↓reduceIte, zA, zG, zB, zH, zI, zC, zJ, zK, zL, zD, zE, zF, zM, zN, zO, zP, zQ, reduceCtorEq, not_true_eq_false, not_false_eq_true, a1, addr_add_eq, Nat.zero_add]) | (first | refine vIfE_of ?_ ?_ | refine vIfD_of ?_ ?_ | refine vIfQ_of ?_ ?_ | refine vIfV_of ?_ ?_) <;> intro _ | refine And.intro (by omega) ?_ | refine drawn_q ?_ | fail)
  refine (fits10_c mv m w1 h1.mS h.mZ).mono ?_
  rintro _ w0 ⟨rfl, h0⟩
  obtain rfl := h0.symm
  by_cases hd : F10 d
  case neg =>
    have hno := no fun h => hd h.1
    rw [decide_eq_false hd]
    repeat' (first | (simp (disch := omega) only [push_cast, ↓reduceIte, zA, zG, zB, zH, zI, zC, zJ, zK, zL, zD, zE, zF, zM, zN, zO, zP, zQ, reduceCtorEq, not_true_eq_false, not_false_eq_true]) | (first | refine vIfE_of ?_ ?_ | refine vIfD_of ?_ ?_ | refine vIfQ_of ?_ ?_ | refine vIfV_of ?_ ?_) <;> intro _ | refine And.intro (by omega) ?_ | refine drawn_q ?_ | fail)
    first | exact ⟨by rw [hno], l1⟩ | exact l1
  by_cases hm : F10 m
  case neg =>
    have hno := no fun h => hm h.2.1
    rw [decide_eq_true hd, decide_eq_false hm]
    repeat' (first | (simp (disch := omega) only [push_cast, ↓reduceIte, zA, zG, zB, zH, zI, zC, zJ, zK, zL, zD, zE, zF, zM, zN, zO, zP, zQ, reduceCtorEq, not_true_eq_false, not_false_eq_true]) | (first | refine vIfE_of ?_ ?_ | refine vIfD_of ?_ ?_ | refine vIfQ_of ?_ ?_ | refine vIfV_of ?_ ?_) <;> intro _ | refine And.intro (by omega) ?_ | refine drawn_q ?_ | fail)
    first | exact ⟨by rw [hno], l1⟩ | exact l1
  by_cases hn : l.length ≤ 120
  case neg =>
    have hno := no fun h => hn h.2.2.1
    rw [decide_eq_true hd, decide_eq_true hm]
    repeat' (first | (simp (disch := omega) only [push_cast, ↓reduceIte, zA, zG, zB, zH, zI, zC, zJ, zK, zL, zD, zE, zF, zM, zN, zO, zP, zQ, reduceCtorEq, not_true_eq_false, not_false_eq_true]) | (first | refine vIfE_of ?_ ?_ | refine vIfD_of ?_ ?_ | refine vIfQ_of ?_ ?_ | refine vIfV_of ?_ ?_) <;> intro _ | refine And.intro (by omega) ?_ | refine drawn_q ?_ | fail)
    first | exact ⟨by rw [hno], l1⟩ | exact l1
  rw [decide_eq_true hd, decide_eq_true hm]
  repeat' (first | (simp (disch := omega) only [push_cast, ↓reduceIte, zA, zG, zB, zH, zI, zC, zJ, zK, zL, zD, zE, zF, zM, zN, zO, zP, zQ, reduceCtorEq, not_true_eq_false, not_false_eq_true, a2]) | (first | refine vIfE_of ?_ ?_ | refine vIfD_of ?_ ?_ | refine vIfQ_of ?_ ?_ | refine vIfV_of ?_ ?_) <;> intro _ | refine And.intro (by omega) ?_ | refine drawn_q ?_ | fail)
  refine (dschema_c dv mv d m w1 h1 (by have := hd.1; omega) (by have := hm.1; omega)).mono ?_
  rintro _ w2 ⟨rfl, l2⟩
  by_cases hs : ScOk d m
  case neg =>
    have hno := no fun h => hs h.2.2.2.1
    rw [decide_eq_false hs]
    repeat' (first | (simp (disch := omega) only [push_cast, ↓reduceIte, zA, zG, zB, zH, zI, zC, zJ, zK, zL, zD, zE, zF, zM, zN, zO, zP, zQ, reduceCtorEq, not_true_eq_false, not_false_eq_true]) | (first | refine vIfE_of ?_ ?_ | refine vIfD_of ?_ ?_ | refine vIfQ_of ?_ ?_ | refine vIfV_of ?_ ?_) <;> intro _ | refine And.intro (by omega) ?_ | refine drawn_q ?_ | fail)
    first | exact ⟨by rw [hno], (l1.trans l2)⟩ | exact (l1.trans l2)
  rw [decide_eq_true hs]
  repeat' (first | (simp (disch := omega) only [push_cast, ↓reduceIte, zA, zG, zB, zH, zI, zC, zJ, zK, zL, zD, zE, zF, zM, zN, zO, zP, zQ, reduceCtorEq, not_true_eq_false, not_false_eq_true]) | (first | refine vIfE_of ?_ ?_ | refine vIfD_of ?_ ?_ | refine vIfQ_of ?_ ?_ | refine vIfV_of ?_ ?_) <;> intro _ | refine And.intro (by omega) ?_ | refine drawn_q ?_ | fail)
  refine vc_loop W11_0 (fun i : Nat => [(4, .bool false), (7, .int .i64 (i : Int))])
    (fun i w' => i ≤ l.length ∧ Later w2 w' ∧ (∀ j (h : j < l.length), j < i → RtOk d.length m.length l[j])) (fun i => l.length - i) 0 (by decide) ?_ ?_ ?_
  · simp (disch := omega) only [push_cast, ↓reduceIte, zA, zG, zB, zH, zI, zC, zJ, zK, zL, zD, zE, zF, zM, zN, zO, zP, zQ, reduceCtorEq, not_true_eq_false, not_false_eq_true]
  · exact ⟨by omega, Later.refl _, fun j _ hj => absurd hj (Nat.not_lt_zero _)⟩
  rintro i uu w3 ⟨hi, l3, hA⟩
  have l13 := l2.trans l3
  have l03 := l1.trans l13
  obtain ⟨_, _, a2⟩ := F w3 l13
  by_cases hlt : i < l.length
  · obtain ⟨ad, rfl, hc⟩ := RecS.at elC_len (hl.later l03) hlt
    have hy := hes _ (List.getElem_mem hlt)
    repeat' (first | (simp (disch := omega) only [push_cast, ↓reduceIte, zA, zG, zB, zH, zI, zC, zJ, zK, zL, zD, zE, zF, zM, zN, zO, zP, zQ, reduceCtorEq, not_true_eq_false, not_false_eq_true, a2, hc]) | (first | refine vIfE_of ?_ ?_ | refine vIfD_of ?_ ?_ | refine vIfQ_of ?_ ?_ | refine vIfV_of ?_ ?_) <;> intro _ | refine And.intro (by omega) ?_ | refine drawn_q ?_ | fail)
    refine QFn.of hb28 (v := .bool (decide (RtOk d.length m.length l[i]))) (fun w' hl => dright_c dv mv d m l[i] w' (h.later (l03.trans hl)) (hy.1.later (l03.trans hl)) hy.2) ?_
    by_cases hv : RtOk d.length m.length l[i]
    · rw [decide_eq_true hv]
      repeat' (first | (simp (disch := omega) only [push_cast, ↓reduceIte, zA, zG, zB, zH, zI, zC, zJ, zK, zL, zD, zE, zF, zM, zN, zO, zP, zQ, reduceCtorEq, not_true_eq_false, not_false_eq_true]) | (first | refine vIfE_of ?_ ?_ | refine vIfD_of ?_ ?_ | refine vIfQ_of ?_ ?_ | refine vIfV_of ?_ ?_) <;> intro _ | refine And.intro (by omega) ?_ | refine drawn_q ?_ | fail)
      intro w4 l4
      repeat' (first | (simp (disch := omega) only [push_cast, ↓reduceIte, zA, zG, zB, zH, zI, zC, zJ, zK, zL, zD, zE, zF, zM, zN, zO, zP, zQ, reduceCtorEq, not_true_eq_false, not_false_eq_true]) | (first | refine vIfE_of ?_ ?_ | refine vIfD_of ?_ ?_ | refine vIfQ_of ?_ ?_ | refine vIfV_of ?_ ?_) <;> intro _ | refine And.intro (by omega) ?_ | refine drawn_q ?_ | fail)
      refine ⟨rfl, i + 1, by simp (disch := omega) only [push_cast, ↓reduceIte, zA, zG, zB, zH, zI, zC, zJ, zK, zL, zD, zE, zF, zM, zN, zO, zP, zQ, reduceCtorEq, not_true_eq_false, not_false_eq_true], ⟨by omega, l3.trans l4, fun j hj hji => ?_⟩, by dsimp only; omega⟩
      by_cases h : j < i
      · exact hA j hj h
      · have : j = i := by omega
        subst this
        exact hv
    · have hno := no fun h => hv (h.2.2.2.2 _ (List.getElem_mem _))
      rw [decide_eq_false hv]
      repeat' (first | (simp (disch := omega) only [push_cast, ↓reduceIte, zA, zG, zB, zH, zI, zC, zJ, zK, zL, zD, zE, zF, zM, zN, zO, zP, zQ, reduceCtorEq, not_true_eq_false, not_false_eq_true]) | (first | refine vIfE_of ?_ ?_ | refine vIfD_of ?_ ?_ | refine vIfQ_of ?_ ?_ | refine vIfV_of ?_ ?_) <;> intro _ | refine And.intro (by omega) ?_ | refine drawn_q ?_ | fail)
      intro w4 l4
      repeat' (first | (simp (disch := omega) only [push_cast, ↓reduceIte, zA, zG, zB, zH, zI, zC, zJ, zK, zL, zD, zE, zF, zM, zN, zO, zP, zQ, reduceCtorEq, not_true_eq_false, not_false_eq_true]) | (first | refine vIfE_of ?_ ?_ | refine vIfD_of ?_ ?_ | refine vIfQ_of ?_ ?_ | refine vIfV_of ?_ ?_) <;> intro _ | refine And.intro (by omega) ?_ | refine drawn_q ?_ | fail)
      first | exact ⟨by rw [hno], (l03.trans l4)⟩ | exact (l03.trans l4)
  · have hyes : decide (F13 d m l) = true := decide_eq_true ⟨hd, hm, hn, hs, fun e he => by
      obtain ⟨j, hj, rfl⟩ := List.getElem_of_mem he
      exact hA j hj (by omega)⟩
    repeat' (first | (simp (disch := omega) only [push_cast, ↓reduceIte, zA, zG, zB, zH, zI, zC, zJ, zK, zL, zD, zE, zF, zM, zN, zO, zP, zQ, reduceCtorEq, not_true_eq_false, not_false_eq_true]) | (first | refine vIfE_of ?_ ?_ | refine vIfD_of ?_ ?_ | refine vIfQ_of ?_ ?_ | refine vIfV_of ?_ ?_) <;> intro _ | refine And.intro (by omega) ?_ | refine drawn_q ?_ | fail)
    first | exact ⟨by rw [hyes], l03⟩ | exact l03
end Go.Proofs.Ythihbgpaoldbjaa
end
section
namespace Go.Proofs
open Go.Shelf
end Go.Proofs
end
section
set_option linter.unusedSimpArgs false
namespace Go.Vc
end Go.Vc
namespace Go.Proofs.Ythihbgpaoldbjaa
open Go.Vc Go.Key
set_option maxRecDepth 100000
/-- All bytes are of seven bits. -/
def Asc (s : ByteArray) : Prop := ∀ i (h : i < s.size), s[i].toNat < 128
instance (s : ByteArray) : Decidable (Asc s) := inferInstanceAs (Decidable (∀ i (h : i < s.size), s[i].toNat < 128))
end Go.Proofs.Ythihbgpaoldbjaa
end
section
set_option linter.unusedSimpArgs false
namespace Go.Proofs.Ythihbgpaoldbjaa
open Go.Vc Go.Key
set_option maxRecDepth 100000
end Go.Proofs.Ythihbgpaoldbjaa
end
section
namespace Go.Proofs.Ythihbgpaoldbjaa
open Go.Vc Go.Key Go.RowKit Go.ChangeShapes
set_option maxRecDepth 100000
section
variable {H : Type} {enc : TypeId × Value → H} {w : World} {sp : Nat → Bool} {hd : Bool}
abbrev I64 (n : Int) : Prop := -9223372036854775808 ≤ n ∧ n ≤ 9223372036854775807
theorem o_int : Opens enc Try.prog w sp hd 3 1 (fun cs => ∃ n : Int, cs = [.int .i64 n] ∧ I64 n) := opens_i64 Try.underlying3 (by kernel_rfl)
theorem o_str : Opens enc Try.prog w sp hd 9 1 (fun cs => ∃ s : ByteArray, cs = [.string s] ∧ s.size ≤ 9223372036854775807) := opens_string Try.underlying9 (by kernel_rfl)
theorem o_strs : Opens enc Try.prog w sp hd 22 1 (fun cs => ∃ v l, cs = [v] ∧ StS w v l ∧ StZ l) :=
  (opens_slice (en := fun s => [Value.string s]) (Q := fun s => s.size ≤ 9223372036854775807) Try.underlying22 (by kernel_rfl) o_str).mono fun _ ⟨v, l, h1, h2, h3⟩ => ⟨v, l, h1, sl_of_rec h2, h3⟩
theorem o_agg : Opens enc Try.prog w sp hd 64 3 (fun cs => ∃ a : Ag, cs = agC a ∧ I64 a.1 ∧ I64 a.2.1 ∧ I64 a.2.2) :=
  (opens_struct Try.underlying64 (by kernel_rfl)).mono fun cs ⟨hl, hf⟩ => by
    match cs, hl with
    | [c0, c1, c2], _ =>
      obtain ⟨a, ha, wa⟩ := hf 0 _ 1 _ rfl o_int
      obtain ⟨b, hb, wb⟩ := hf 1 _ 1 _ rfl o_int
      obtain ⟨c, hc, wc⟩ := hf 2 _ 1 _ rfl o_int
      obtain rfl : c0 = _ := (List.cons.inj ha).1
      obtain rfl : c1 = _ := (List.cons.inj hb).1
      obtain rfl : c2 = _ := (List.cons.inj hc).1
      exact ⟨(a, b, c), rfl, wa, wb, wc⟩
theorem o_aggs : Opens enc Try.prog w sp hd 33 1 (fun cs => ∃ v l, cs = [v] ∧ AgS w v l) :=
  (opens_slice (en := agC) Try.underlying33 (by kernel_rfl) o_agg).mono fun _ ⟨v, l, h1, h2, _⟩ => ⟨v, l, h1, h2⟩
/-- A row that came in. -/
structure ElQ (w : World) (e : El) : Prop where
  is : EIs w e
  z : StZ e.d
  t : I64 e.t
  n : I64 e.n
theorem o_row : Opens enc Try.prog w sp hd 35 4 (fun cs => ∃ e : El, cs = elC e ∧ ElQ w e) :=
  (opens_struct Try.underlying35 (by kernel_rfl)).mono fun cs ⟨hl, hf⟩ => by
    match cs, hl with
    | [c0, c1, c2, c3], _ =>
      obtain ⟨t, ht, wt⟩ := hf 0 _ 1 _ rfl o_int
      obtain ⟨dv, d, hd, sd, zd⟩ := hf 1 _ 1 _ rfl o_strs
      obtain ⟨n, hn, wn⟩ := hf 2 _ 1 _ rfl o_int
      obtain ⟨av, a, ha, sa⟩ := hf 3 _ 1 _ rfl o_aggs
      obtain rfl : c0 = _ := (List.cons.inj ht).1
      obtain rfl : c1 = _ := (List.cons.inj hd).1
      obtain rfl : c2 = _ := (List.cons.inj hn).1
      obtain rfl : c3 = _ := (List.cons.inj ha).1
      exact ⟨⟨t, d, n, a, c1, c3⟩, rfl, ⟨sd, sa⟩, zd, wt, wn⟩
theorem o_rows : Opens enc Try.prog w sp hd 25 1 (fun cs => ∃ v l, cs = [v] ∧ RecS elC 4 w v l ∧ ∀ e ∈ l, ElQ w e) :=
  opens_slice (en := elC) Try.underlying25 (by kernel_rfl) o_row
theorem o_schema : Opens enc Try.prog w sp hd 24 2 (fun cs => ∃ dv mv d m, cs = [dv, mv] ∧ ScIs w dv mv d m) :=
  (opens_struct Try.underlying24 (by kernel_rfl)).mono fun cs ⟨hl, hf⟩ => by
    match cs, hl with
    | [c0, c1], _ =>
      obtain ⟨dv, d, hd, sd, zd⟩ := hf 0 _ 1 _ rfl o_strs
      obtain ⟨mv, m, hm, sm, zm⟩ := hf 1 _ 1 _ rfl o_strs
      obtain rfl : c0 = _ := (List.cons.inj hd).1
      obtain rfl : c1 = _ := (List.cons.inj hm).1
      exact ⟨c0, c1, d, m, rfl, sd, sm, zd, zm⟩
variable {v : Value} {d : DataW H} {ps : List MemPlace} {r : Reach} {b0 : Nat}
theorem open_schema (hval : Value.okWide Try.prog w r b0 24 v) (h : DataW.Trod enc Try.prog w 0 sp hd 24 v d ps) : ∃ a : Value × Value × List ByteArray × List ByteArray, v = scV a.1 a.2.1 ∧ ScIs w a.1 a.2.1 a.2.2.1 a.2.2.2 := by
  obtain ⟨cs, rfl, dv, mv, d, m, rfl, hs⟩ := open_agg (.inl ⟨_, Try.underlying24⟩) o_schema hval h
  exact ⟨(dv, mv, d, m), rfl, hs⟩
theorem open_rowsQ (hval : Value.okWide Try.prog w r b0 25 v) (h : DataW.Trod enc Try.prog w 0 sp hd 25 v d ps) : ∃ l : List El, RecS elC 4 w v l ∧ ∀ e ∈ l, ElQ w e := by
  obtain ⟨v', l, hv, h1, h2⟩ := open_sl Try.underlying25 o_rows hval h
  obtain rfl : v = v' := (List.cons.inj hv).1
  exact ⟨l, h1, h2⟩
end
end Go.Proofs.Ythihbgpaoldbjaa
end
section
set_option linter.unusedSimpArgs false
namespace Go.Proofs.Ythihbgpaoldbjaa
open Go.Vc Go.Key Go.Fold
set_option maxRecDepth 100000
end Go.Proofs.Ythihbgpaoldbjaa
end
section
set_option linter.unusedSimpArgs false
namespace Go.Proofs.Ythihbgpaoldbjaa
open Go.Vc Go.Key Go.Stab
set_option maxRecDepth 100000
theorem sw_near (A B : List El) (p e : El) : sw (A ++ p :: (e :: B)) (A.length + 1) A.length = A ++ e :: (p :: B) := by
  rw [sw_comm _ _ _ (by simp) (by simp)]
  have := sw_app A [] B p e
  simpa using this
set_option maxHeartbeats 1000000 in
theorem insertion_c (B B' g c : Nat) (L X M Y : List El) (w : World) (h : Sw w B B' g c L (X ++ M ++ Y)) :
    FnC Try.prog 109 #[.slice (some ⟨g, 0, none⟩) (X ++ M ++ Y).length c, .int .i64 X.length, .int .i64 ((X.length + M.length : Nat) : Int), cmpV] w fun r w' => ∃ M', Srt elt M' ∧ Stb elt M M' ∧ Sw w' B B' g c L (X ++ M' ++ Y) ∧ Chg w w' [g] := by
  have hs := elt_swo
  have hbig := h.big
  have hlen : (X ++ M ++ Y).length = X.length + M.length + Y.length := by simp; omega
  rw [hlen] at hbig
  generalize hN : (X ++ M ++ Y).length = N at *
  refine enter109 _ _ _ _ ?_
  unfold B109
  repeat' (first | (simp (disch := omega) only [push_cast, ↓reduceIte, zA, zG, zB, zH, zI, zC, zJ, zK, zL, zD, zE, zF, zM, zN, zO, zP, zQ, reduceCtorEq, not_true_eq_false, not_false_eq_true]) | (first | refine vIfE_of ?_ ?_ | refine vIfD_of ?_ ?_ | refine vIfQ_of ?_ ?_ | refine vIfV_of ?_ ?_) <;> intro _ | refine And.intro (by omega) ?_ | refine drawn_q ?_ | fail)
  refine vc_loop W109_0 (fun i : Nat => [(8, .int .i64 ((X.length : Int) + 1 + (i : Int)))])
    (fun i w' => i ≤ M.length ∧ ∃ S, S.length = (M.take (i + 1)).length ∧ Srt elt S ∧ Stb elt (M.take (i + 1)) S ∧ Sw w' B B' g c L (X ++ S ++ (M.drop (i + 1) ++ Y)) ∧ Chg w w' [g]) (fun i => M.length - i) 0 (by decide) ?_ ?_ ?_
  · simp (disch := omega) only [push_cast, ↓reduceIte, zA, zG, zB, zH, zI, zC, zJ, zK, zL, zD, zE, zF, zM, zN, zO, zP, zQ, reduceCtorEq, not_true_eq_false, not_false_eq_true, Int.add_zero]
  · refine ⟨by omega, M.take 1, rfl, ?_, Stb.refl _, ?_, Chg.refl _ _⟩
    · cases M with
      | nil => exact srt_nil
      | cons a M => simp [Srt]
    · have e : X ++ M.take (0 + 1) ++ (M.drop (0 + 1) ++ Y) = X ++ M ++ Y := by
        rw [List.append_assoc X, ← List.append_assoc (M.take _), List.take_append_drop, ← List.append_assoc]
      rw [e]; exact h
  rintro i uu w1 ⟨hi, S, hS, sS, tS, h1, c1⟩
  have hL1 : (X ++ S ++ (M.drop (i + 1) ++ Y)).length = N := by
    simp only [List.length_append, List.length_drop]
    rw [List.length_take] at hS
    omega
  by_cases hlt : i + 1 < M.length
  · obtain ⟨e, he⟩ : ∃ e, e = M[i + 1] := ⟨_, rfl⟩
    have hdr : M.drop (i + 1) = e :: M.drop (i + 2) := by rw [List.drop_eq_getElem_cons hlt, he]
    have htk : M.take (i + 2) = M.take (i + 1) ++ [e] := by rw [take_snoc M (i + 1) hlt, he]
    have hSl : S.length = i + 1 := by rw [hS, List.length_take]; omega
    rw [hdr] at h1
    generalize hR : M.drop (i + 2) = R at *
    repeat' (first | (simp (disch := omega) only [push_cast, ↓reduceIte, zA, zG, zB, zH, zI, zC, zJ, zK, zL, zD, zE, zF, zM, zN, zO, zP, zQ, reduceCtorEq, not_true_eq_false, not_false_eq_true]) | (first | refine vIfE_of ?_ ?_ | refine vIfD_of ?_ ?_ | refine vIfQ_of ?_ ?_ | refine vIfV_of ?_ ?_) <;> intro _ | refine And.intro (by omega) ?_ | refine drawn_q ?_ | fail)
    refine vc_loop W109_1 (fun k : Nat => [(9, .int .i64 ((X.length : Int) + (k : Int)))])
      (fun k w' => ∃ S1 S2, S = S1 ++ S2 ∧ S1.length = k ∧ (∀ s ∈ S2, elt e s = true) ∧ Sw w' B B' g c L ((X ++ S1) ++ e :: (S2 ++ (R ++ Y))) ∧ Chg w w' [g]) (fun k => k) (i + 1) (by decide) ?_ ?_ ?_
    · have e1 : (X.length : Int) + 1 + (i : Int) = (X.length : Int) + ((i : Int) + 1) := by omega
      simp (disch := omega) only [push_cast, ↓reduceIte, zA, zG, zB, zH, zI, zC, zJ, zK, zL, zD, zE, zF, zM, zN, zO, zP, zQ, reduceCtorEq, not_true_eq_false, not_false_eq_true, e1]
    · exact ⟨S, [], by simp, hSl, by simp, by simpa using h1, c1⟩
    rintro k uu2 w2 ⟨S1, S2, hSS, hk, hS2, h2, c2⟩
    have hL2 : ((X ++ S1) ++ e :: (S2 ++ (R ++ Y))).length = N := by
      rw [← hL1, hSS]
      simp only [List.length_append, List.length_cons, hdr]
      omega
    have hXk : (X ++ S1).length = X.length + k := by rw [List.length_append, hk]
    have hkN : X.length + k < N := by rw [← hL2, ← hXk]; simp
    have fin : ∀ w3, Later w2 w3 → (S1 = [] ∨ ∃ T p, S1 = T ++ [p] ∧ elt e p = false) → ∃ S', S'.length = (M.take (i + 1 + 1)).length ∧ Srt elt S' ∧ Stb elt (M.take (i + 1 + 1)) S' ∧ Sw w3 B B' g c L (X ++ S' ++ (M.drop (i + 1 + 1) ++ Y)) ∧ Chg w w3 [g] := by
      intro w3 l3 hp
      refine ⟨S1 ++ e :: S2, ?_, ins_srt hs (by rw [← hSS]; exact sS) hp hS2, ?_, ?_, c2.trans (Chg.of_later l3)⟩
      · rw [htk, List.length_append, List.length_append, ← hS, hSS]; simp; omega
      · rw [htk]
        have := (tS.append (Stb.refl (lt := elt) [e])).trans (by rw [hSS]; exact ins_stb hs hS2)
        exact this
      · have := h2.later l3
        rw [show M.drop (i + 1 + 1) = R from hR]
        simpa using this
    rcases Nat.eq_zero_or_pos k with hk0 | hk0
    · subst hk0
      have hS1 : S1 = [] := List.length_eq_zero_iff.1 hk
      repeat' (first | (simp (disch := omega) only [push_cast, ↓reduceIte, zA, zG, zB, zH, zI, zC, zJ, zK, zL, zD, zE, zF, zM, zN, zO, zP, zQ, reduceCtorEq, not_true_eq_false, not_false_eq_true]) | (first | refine vIfE_of ?_ ?_ | refine vIfD_of ?_ ?_ | refine vIfQ_of ?_ ?_ | refine vIfV_of ?_ ?_) <;> intro _ | refine And.intro (by omega) ?_ | refine drawn_q ?_ | fail)
      intro w3 l3
      repeat' (first | (simp (disch := omega) only [push_cast, ↓reduceIte, zA, zG, zB, zH, zI, zC, zJ, zK, zL, zD, zE, zF, zM, zN, zO, zP, zQ, reduceCtorEq, not_true_eq_false, not_false_eq_true]) | (first | refine vIfE_of ?_ ?_ | refine vIfD_of ?_ ?_ | refine vIfQ_of ?_ ?_ | refine vIfV_of ?_ ?_) <;> intro _ | refine And.intro (by omega) ?_ | refine drawn_q ?_ | fail)
      have e1 : (X.length : Int) + 1 + (i : Int) + 1 = (X.length : Int) + 1 + ((i : Int) + 1) := by omega
      exact ⟨rfl, i + 1, by simp (disch := omega) only [push_cast, ↓reduceIte, zA, zG, zB, zH, zI, zC, zJ, zK, zL, zD, zE, zF, zM, zN, zO, zP, zQ, reduceCtorEq, not_true_eq_false, not_false_eq_true, e1], ⟨by omega, fin w3 l3 (.inl hS1)⟩, by dsimp only; omega⟩
    · obtain ⟨T, p, rfl⟩ : ∃ T p, S1 = T ++ [p] := ⟨S1.dropLast, S1.getLast (by intro h; rw [h] at hk; simp at hk; omega), (List.dropLast_concat_getLast _).symm⟩
      have hTk : (X ++ T).length + 1 = X.length + k := by rw [← hXk]; simp; omega
      have hcur : (X ++ (T ++ [p])) ++ e :: (S2 ++ (R ++ Y)) = (X ++ T) ++ p :: (e :: (S2 ++ (R ++ Y))) := by simp
      have ge : ((X ++ (T ++ [p])) ++ e :: (S2 ++ (R ++ Y)))[X.length + k]! = e := by rw [← hXk]; exact get_app _ _ _
      have gp : ((X ++ (T ++ [p])) ++ e :: (S2 ++ (R ++ Y)))[X.length + k - 1]! = p := by
        have : X.length + k - 1 = (X ++ T).length := by omega
        rw [this, hcur]; exact get_app _ _ _
      have fe := h2.at (i := X.length + k) (by omega)
      have fp := h2.at (i := X.length + k - 1) (by omega)
      have oe := h2.elAt (i := X.length + k) (by omega)
      have op := h2.elAt (i := X.length + k - 1) (by omega)
      rw [ge] at fe oe
      rw [gp] at fp op
      have t1 : ((X.length : Int) + (k : Int)).toNat = X.length + k := by omega
      have t2 : ((X.length : Int) + (k : Int) - 1).toNat = X.length + k - 1 := by omega
      have hcmp : elt e p = decide (ecmp e p < 0) := rfl
      repeat' (first | (simp (disch := omega) only [push_cast, ↓reduceIte, zA, zG, zB, zH, zI, zC, zJ, zK, zL, zD, zE, zF, zM, zN, zO, zP, zQ, reduceCtorEq, not_true_eq_false, not_false_eq_true, t1, t2, fe, fp]) | (first | refine vIfE_of ?_ ?_ | refine vIfD_of ?_ ?_ | refine vIfQ_of ?_ ?_ | refine vIfV_of ?_ ?_) <;> intro _ | refine And.intro (by omega) ?_ | refine drawn_q ?_ | fail)
      refine QFn.of hb34 (v := .int .i64 (ecmp e p)) (fun w' hl => rcompare_c e p w' (oe.is.later hl) (op.is.later hl)) ?_
      by_cases hlt2 : ecmp e p < 0
      · repeat' (first | (simp (disch := omega) only [push_cast, ↓reduceIte, zA, zG, zB, zH, zI, zC, zJ, zK, zL, zD, zE, zF, zM, zN, zO, zP, zQ, reduceCtorEq, not_true_eq_false, not_false_eq_true]) | (first | refine vIfE_of ?_ ?_ | refine vIfD_of ?_ ?_ | refine vIfQ_of ?_ ?_ | refine vIfV_of ?_ ?_) <;> intro _ | refine And.intro (by omega) ?_ | refine drawn_q ?_ | fail)
        intro w3 l3
        have h3 := h2.later l3
        have fe := h3.at (i := X.length + k) (by omega)
        have fp := h3.at (i := X.length + k - 1) (by omega)
        rw [ge] at fe
        rw [gp] at fp
        repeat' (first | (simp (disch := omega) only [push_cast, ↓reduceIte, zA, zG, zB, zH, zI, zC, zJ, zK, zL, zD, zE, zF, zM, zN, zO, zP, zQ, reduceCtorEq, not_true_eq_false, not_false_eq_true]) | (first | refine vIfE_of ?_ ?_ | refine vIfD_of ?_ ?_ | refine vIfQ_of ?_ ?_ | refine vIfV_of ?_ ?_) <;> intro _ | refine And.intro (by omega) ?_ | fail)
        refine drawnS_k 15 ?_
        repeat' (first | (simp (disch := omega) only [push_cast, ↓reduceIte, zA, zG, zB, zH, zI, zC, zJ, zK, zL, zD, zE, zF, zM, zN, zO, zP, zQ, reduceCtorEq, not_true_eq_false, not_false_eq_true, t1, t2, fe, fp]) | (first | refine vIfE_of ?_ ?_ | refine vIfD_of ?_ ?_ | refine vIfQ_of ?_ ?_ | refine vIfV_of ?_ ?_) <;> intro _ | refine And.intro (by omega) ?_ | fail)
        refine ⟨rfl, fun w4 l4 => ⟨by simp (disch := omega) only [push_cast, ↓reduceIte, zA, zG, zB, zH, zI, zC, zJ, zK, zL, zD, zE, zF, zM, zN, zO, zP, zQ, reduceCtorEq, not_true_eq_false, not_false_eq_true, implies_true, and_self], ?_⟩⟩
        have h4 := h3.later l4
        repeat' (first | (simp (disch := omega) only [push_cast, ↓reduceIte, zA, zG, zB, zH, zI, zC, zJ, zK, zL, zD, zE, zF, zM, zN, zO, zP, zQ, reduceCtorEq, not_true_eq_false, not_false_eq_true, t1, t2]) | (first | refine vIfE_of ?_ ?_ | refine vIfD_of ?_ ?_ | refine vIfQ_of ?_ ?_ | refine vIfV_of ?_ ?_) <;> intro _ | refine And.intro (by omega) ?_ | fail)
        have mp := h4.mem (i := X.length + k - 1) (by omega)
        have me := h4.mem (i := X.length + k) (by omega)
        rw [gp] at mp
        rw [ge] at me
        refine h4.store (i := X.length + k) (by omega) mp fun w5 h5 c5 => ?_
        repeat' (first | (simp (disch := omega) only [push_cast, ↓reduceIte, zA, zG, zB, zH, zI, zC, zJ, zK, zL, zD, zE, zF, zM, zN, zO, zP, zQ, reduceCtorEq, not_true_eq_false, not_false_eq_true, t2]) | (first | refine vIfE_of ?_ ?_ | refine vIfD_of ?_ ?_ | refine vIfQ_of ?_ ?_ | refine vIfV_of ?_ ?_) <;> intro _ | refine And.intro (by omega) ?_ | fail)
        refine h5.store (i := X.length + k - 1) (by simp only [List.length_set]; omega) me fun w6 h6 c6 => ?_
        have e6 : ((((X ++ (T ++ [p])) ++ e :: (S2 ++ (R ++ Y))).set (X.length + k) p).set (X.length + k - 1) e) = (X ++ T) ++ e :: ((p :: S2) ++ (R ++ Y)) := by
          have := sw_near (X ++ T) (S2 ++ (R ++ Y)) p e
          rw [← hcur, hTk] at this
          rw [show X.length + k - 1 = (X ++ T).length by omega]
          unfold sw at this
          rw [ge, show ((X ++ (T ++ [p])) ++ e :: (S2 ++ (R ++ Y)))[(X ++ T).length]! = p by rw [hcur]; exact get_app _ _ _] at this
          simpa using this
        rw [e6] at h6
        have e7 : (X.length : Int) + (k : Int) - 1 = (X.length : Int) + ((k - 1 : Nat) : Int) := by omega
        repeat' (first | (simp (disch := omega) only [push_cast, ↓reduceIte, zA, zG, zB, zH, zI, zC, zJ, zK, zL, zD, zE, zF, zM, zN, zO, zP, zQ, reduceCtorEq, not_true_eq_false, not_false_eq_true, e7]) | (first | refine vIfE_of ?_ ?_ | refine vIfD_of ?_ ?_ | refine vIfQ_of ?_ ?_ | refine vIfV_of ?_ ?_) <;> intro _ | refine And.intro (by omega) ?_ | refine drawn_q ?_ | fail)
        exact ⟨rfl, k - 1, by simp (disch := omega) only [push_cast, ↓reduceIte, zA, zG, zB, zH, zI, zC, zJ, zK, zL, zD, zE, zF, zM, zN, zO, zP, zQ, reduceCtorEq, not_true_eq_false, not_false_eq_true, e7], ⟨T, p :: S2, by rw [hSS]; simp, by simp at hk; omega, by
          intro s hs'
          rcases List.mem_cons.1 hs' with rfl | hs'
          · rw [hcmp]; exact decide_eq_true hlt2
          · exact hS2 s hs', h6, ((c2.trans (Chg.of_later (l3.trans l4))).trans c5).trans c6⟩, by dsimp only; omega⟩
      · repeat' (first | (simp (disch := omega) only [push_cast, ↓reduceIte, zA, zG, zB, zH, zI, zC, zJ, zK, zL, zD, zE, zF, zM, zN, zO, zP, zQ, reduceCtorEq, not_true_eq_false, not_false_eq_true]) | (first | refine vIfE_of ?_ ?_ | refine vIfD_of ?_ ?_ | refine vIfQ_of ?_ ?_ | refine vIfV_of ?_ ?_) <;> intro _ | refine And.intro (by omega) ?_ | refine drawn_q ?_ | fail)
        intro w3 l3
        repeat' (first | (simp (disch := omega) only [push_cast, ↓reduceIte, zA, zG, zB, zH, zI, zC, zJ, zK, zL, zD, zE, zF, zM, zN, zO, zP, zQ, reduceCtorEq, not_true_eq_false, not_false_eq_true]) | (first | refine vIfE_of ?_ ?_ | refine vIfD_of ?_ ?_ | refine vIfQ_of ?_ ?_ | refine vIfV_of ?_ ?_) <;> intro _ | refine And.intro (by omega) ?_ | refine drawn_q ?_ | fail)
        have e1 : (X.length : Int) + 1 + (i : Int) + 1 = (X.length : Int) + 1 + ((i : Int) + 1) := by omega
        exact ⟨rfl, i + 1, by simp (disch := omega) only [push_cast, ↓reduceIte, zA, zG, zB, zH, zI, zC, zJ, zK, zL, zD, zE, zF, zM, zN, zO, zP, zQ, reduceCtorEq, not_true_eq_false, not_false_eq_true, e1], ⟨by omega, fin w3 l3 (.inr ⟨T, p, rfl, by rw [hcmp]; exact decide_eq_false hlt2⟩)⟩, by dsimp only; omega⟩
  · have e1 : M.take (i + 1) = M := List.take_of_length_le (by omega)
    have e2 : M.drop (i + 1) = [] := List.drop_eq_nil_of_le (by omega)
    rw [e1] at tS
    rw [e2] at h1
    have hf : ∃ M', Srt elt M' ∧ Stb elt M M' ∧ Sw w1 B B' g c L (X ++ M' ++ Y) ∧ Chg w w1 [g] := ⟨S, sS, tS, by simpa using h1, c1⟩
    repeat' (first | (simp (disch := omega) only [push_cast, ↓reduceIte, zA, zG, zB, zH, zI, zC, zJ, zK, zL, zD, zE, zF, zM, zN, zO, zP, zQ, reduceCtorEq, not_true_eq_false, not_false_eq_true]) | (first | refine vIfE_of ?_ ?_ | refine vIfD_of ?_ ?_ | refine vIfQ_of ?_ ?_ | refine vIfV_of ?_ ?_) <;> intro _ | refine And.intro (by omega) ?_ | refine drawn_q ?_ | fail)
    exact hf
end Go.Proofs.Ythihbgpaoldbjaa
end
