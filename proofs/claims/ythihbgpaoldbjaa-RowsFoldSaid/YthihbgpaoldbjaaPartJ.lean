/- Contracts: the document's Join. -/
import Derived.ArgAppend
import Derived.Shelf.GgClosure.StringsRunes
import Derived.Shelf.Strings.IndexAnyAll
import Derived.Shelf.Strings.FuncGrows
import Derived.Shelf.Slices.Turned
import Derived.Test.YthihbgpaoldbjaaProg
import Derived.Laws.RangeAny
import Derived.Test.YthihbgpaoldbjaaPartI
open Nat renaming reduceEqDiff → zA, reducePow → zB, reduceMul → zC, reduceAdd → zD, reduceSub → zE, reduceLeDiff → zF
open Int renaming reduceToNat → zG, reducePow → zH, reduceNeg → zI, reduceMul → zJ, reduceAdd → zK, reduceSub → zL, reduceLT → zM, reduceLE → zN, reduceEq → zO, reduceMod → zP, reduceDiv → zQ
section
set_option linter.unusedSimpArgs false
namespace Go.Vc
open Go.RowKit in
/-- An append to an empty literal. -/
theorem vAppend_fresh {P : Program} {w : World} {K : Value → World → Prop} {t e ty : TypeId} {z : Value} {s b : Nat} (ht : P.underlying t = some (.slice e)) (hi : (P.info? e).map (fun i => (i.zero, i.size, i.bytes)) = some (some z, s, b)) (hzs : z.cells.size = s) (hsz : 0 < s)
    {db : Nat} {x : Value} {m : Nat} {news : List Value} (hx : SlN w s x m news) (h63 : m ≤ maxLen) (hb : m * b ≤ 140737488355328)
    (hK : ∀ v' w', (m = 0 → v' = .slice (some ⟨db, 0, none⟩) 0 0 ∧ w' = w) → (0 < m → w'.ownsRow w.heap.size e s v' m news ∧ Later w w') → K v' w') : vAppend P #[t, t] ty #[.slice (some ⟨db, 0, none⟩) 0 0, x] K w := by
  obtain ⟨i, hi1, hz, hsi, hbi⟩ := info_parts hi
  unfold vAppend
  obtain ⟨hl, hr⟩ := hx
  rcases hr with ⟨rfl, rfl⟩ | ⟨ad, c, rfl, hc1, hc2, hc3⟩
  · rw [run_val_pure (run_append_nil_src ht hi (some ⟨db, 0, none⟩) 0 0 (Nat.le_refl _) (fun ho => by cases ho))]
    exact hK _ _ (fun _ => ⟨rfl, rfl⟩) (fun h => absurd h (Nat.lt_irrefl _))
  · by_cases hm : m = 0
    · subst hm
      have hn : news = [] := List.eq_nil_of_length_eq_zero (by simpa using hl)
      subst hn
      have hrun := run_append_room_cells (P := P) w t ty e i ht hi1 db 0 0 0 ad 0 c [] (by simp) (fun j u h => by simp at h) (fun u h => by simp at h) (by omega) (fun j h => by simp at h) (fun j h => by simp at h)
      rw [run_val_pure hrun]
      exact hK _ _ (fun _ => ⟨rfl, rfl⟩) (fun h => absurd h (Nat.lt_irrefl _))
    · obtain ⟨v', w', hrun, ho, hg⟩ := run_append_arg_grows (P := P) w t ty e i z s b ht hi1 hz hsi hbi hzs hsz ⟨db, 0, none⟩ 0 0 [] (by simp) (fun j u h => by simp at h) ad m c news hl hc3 (by omega) (by omega) (by simpa using hb)
      rw [run_val_pure hrun]
      refine hK _ _ (fun h => absurd h hm) (fun _ => ⟨by simpa using ho, hg.os, hg.tape, hg.output, hg.size, fun k hk => hg.block k hk (by simp)⟩)
/-- An append to what hangs on the world. -/
theorem nR_app {P : Program} {args : Array Operand} {ts : Array TypeId} {ty : TypeId} {rs : List Nat} {Ns : NS} {σ : Env} {w : World} {Kv : Value → Prop} {Kn : (Value → World → Prop) → Prop} (V' : Value → World → Prop) (hV' : Stb w V')
    (h : ∀ σ' w', Later w w' → psis Ns σ w' σ' rs → vAppend P ts ty (args.map (ev σ')) (fun v w'' => Later w' w'' ∧ V' v w'') w') (hk : Kn V') : nR P (.call ⟨.builtin .append, args, ts⟩) ty rs Ns σ w Kv Kn :=
  .inr ⟨V', hV', fun σ' w' hl hp => nUp_val (h σ' w' hl hp), hk⟩
end Go.Vc
namespace Go.Proofs.Ythihbgpaoldbjaa
open Go.Vc Go.Key Go.Stab Go.Fold
set_option maxRecDepth 100000
def Lit0 (B : Nat) (v : Value) (w : World) : Prop := (∃ b, v = .slice (some ⟨b, 0, none⟩) 0 0) ∧ OwnS w B v []
theorem stb_lit0 (w0 : World) (B : Nat) : Stb w0 (Lit0 B) := fun _ _ _ _ hl h => ⟨h.1, own_later h.2 hl⟩
set_option maxHeartbeats 1000000 in
theorem djoin_c (x y : El) (w : World) (hx : EIs w x) (hy : EIs w y) (rx : Rr x) (ry : Rr y) (hl : x.a.length = y.a.length) :
    FnC Try.prog 37 #[elV x, elV y] w fun r w' => ∃ z e, r = .tuple #[elV z, .int .i64 e] ∧ JR x y z e ∧ EO w' w.heap.size z ∧ Later w w' := by
  obtain ⟨n1, n2, ra, rd, rl⟩ := rx
  obtain ⟨m1, m2, sa, sd, sl⟩ := ry
  unfold elV
  refine enter37 _ _ ?_
  unfold B37
  have eca : (Value.agg #[.int .i64 x.t, x.dv, .int .i64 x.n, x.av]).cells = #[.int .i64 x.t, x.dv, .int .i64 x.n, x.av] := rfl
  have ecb : (Value.agg #[.int .i64 y.t, y.dv, .int .i64 y.n, y.av]).cells = #[.int .i64 y.t, y.dv, .int .i64 y.n, y.av] := rfl
  have s1 : (w.alloc (.cells #[.int .i64 x.t, x.dv, .int .i64 x.n, x.av] 35)).heap.size = w.heap.size + 1 := World.size_alloc w _
  obtain ⟨l2, F, hs⟩ := boxes w x y hx hy
  repeat' (first | (simp (disch := omega) only [push_cast, ↓reduceIte, zA, zG, zB, zH, zI, zC, zJ, zK, zL, zD, zE, zF, zM, zN, zO, zP, zQ, reduceCtorEq, not_true_eq_false, not_false_eq_true, eca, ecb, s1, hs]) | (first | refine vIfE_of ?_ ?_ | refine vIfD_of ?_ ?_ | refine vIfQ_of ?_ ?_ | refine vIfV_of ?_ ?_) <;> intro _ | refine And.intro (by omega) ?_ | fail)
  generalize ((w.alloc (.cells #[.int .i64 x.t, x.dv, .int .i64 x.n, x.av] 35)).alloc (.cells #[.int .i64 y.t, y.dv, .int .i64 y.n, y.av] 35)) = w2 at *
  have l3 := later_alloc w2 (.cells #[.int .i64 0, .slice none 0 0, .int .i64 0, .slice none 0 0] 35)
  have B3 := Blk.new w2 #[.int .i64 0, .slice none 0 0, .int .i64 0, .slice none 0 0] 35
  rw [hs] at B3
  generalize w2.alloc (.cells #[.int .i64 0, .slice none 0 0, .int .i64 0, .slice none 0 0] 35) = w3 at *
  have G := fun w' (hl : Later w3 w') => F w' (l3.trans hl)
  have l03 := l2.trans l3
  clear F eca ecb s1
  obtain ⟨hx3, hy3, _, _, a0, a1, a2, a3, a4, b0, b1, b2, b3, b4⟩ := G w3 (Later.refl _)
  obtain ⟨ox, cx, hax, gx1, gx2⟩ := RecS.slice hx.2
  obtain ⟨oy, cy, hay, gy1, gy2⟩ := RecS.slice hy.2
  have hbig : w.heap.size + 2 < w3.heap.size := B3.lt
  repeat' (first | (simp (disch := omega) only [push_cast, ↓reduceIte, zA, zG, zB, zH, zI, zC, zJ, zK, zL, zD, zE, zF, zM, zN, zO, zP, zQ, reduceCtorEq, not_true_eq_false, not_false_eq_true, a4, b4]) | (first | refine vIfE_of ?_ ?_ | refine vIfD_of ?_ ?_ | refine vIfQ_of ?_ ?_ | refine vIfV_of ?_ ?_) <;> intro _ | refine And.intro (by omega) ?_ | refine drawn_q ?_ | fail)
  refine (onekey_c x y w3 hx3 hy3).mono ?_
  rintro _ w4 ⟨rfl, l4⟩
  obtain ⟨hx4, hy4, _, _, a0, a1, a2, a3, a4, b0, b1, b2, b3, b4⟩ := G w4 l4
  rw [hax] at a3
  rw [hay] at b3
  by_cases hc : ecmp x y = 0
  case neg =>
    have hj : JR x y z0 131 := .inl ⟨hc, rfl, rfl⟩
    rw [decide_eq_false hc]
    repeat' (first | (simp (disch := omega) only [push_cast, ↓reduceIte, zA, zG, zB, zH, zI, zC, zJ, zK, zL, zD, zE, zF, zM, zN, zO, zP, zQ, reduceCtorEq, not_true_eq_false, not_false_eq_true, a2, a3, b2, b3, addr_add_eq, Nat.zero_add]) | (first | refine vIfE_of ?_ ?_ | refine vIfD_of ?_ ?_ | refine vIfQ_of ?_ ?_ | refine vIfV_of ?_ ?_) <;> intro _ | refine And.intro (by omega) ?_ | refine drawn_q ?_ | fail)
    refine vStore_blk (l := [.int .i64 0, .slice none 0 0, .int .i64 0, .slice none 0 0]) (xs := elC z0) (B3.chg (Chg.of_later (ks := []) (l4)) (by simp)) rfl rfl (elC_one (EO.zero w4 0).is) ?_
    intro w9 B9 c9
    repeat' (first | (simp (disch := omega) only [push_cast, ↓reduceIte, zA, zG, zB, zH, zI, zC, zJ, zK, zL, zD, zE, zF, zM, zN, zO, zP, zQ, reduceCtorEq, not_true_eq_false, not_false_eq_true]) | (first | refine vIfE_of ?_ ?_ | refine vIfD_of ?_ ?_ | refine vIfQ_of ?_ ?_ | refine vIfV_of ?_ ?_) <;> intro _ | refine And.intro (by omega) ?_ | refine drawn_q ?_ | fail)
    refine resK_cells (s := 4) (by simp (disch := omega) only [push_cast, ↓reduceIte, zA, zG, zB, zH, zI, zC, zJ, zK, zL, zD, zE, zF, zM, zN, zO, zP, zQ, reduceCtorEq, not_true_eq_false, not_false_eq_true]) (by rw [Try.underlying35]; exact sz35) (Blk.cellsAt (l := elC z0) B9) ?_
    repeat' (first | (simp (disch := omega) only [push_cast, ↓reduceIte, zA, zG, zB, zH, zI, zC, zJ, zK, zL, zD, zE, zF, zM, zN, zO, zP, zQ, reduceCtorEq, not_true_eq_false, not_false_eq_true]) | (first | refine vIfE_of ?_ ?_ | refine vIfD_of ?_ ?_ | refine vIfQ_of ?_ ?_ | refine vIfV_of ?_ ?_) <;> intro _ | refine And.intro (by omega) ?_ | refine drawn_q ?_ | fail)
    exact ⟨z0, 131, rfl, hj, EO.zero _ _, Chg.later (l03.trans (l4)) c9 (by intro j hj; rw [List.mem_singleton.1 hj]; omega)⟩
  rw [decide_eq_true hc]
  by_cases hn : 1048576 < x.n + y.n
  · have hj : JR x y z0 121 := .inr (.inl ⟨hc, by rw [jn_abs, if_pos hn], rfl, rfl⟩)
    repeat' (first | (simp (disch := omega) only [push_cast, ↓reduceIte, zA, zG, zB, zH, zI, zC, zJ, zK, zL, zD, zE, zF, zM, zN, zO, zP, zQ, reduceCtorEq, not_true_eq_false, not_false_eq_true, a2, a3, b2, b3, addr_add_eq, Nat.zero_add]) | (first | refine vIfE_of ?_ ?_ | refine vIfD_of ?_ ?_ | refine vIfQ_of ?_ ?_ | refine vIfV_of ?_ ?_) <;> intro _ | refine And.intro (by omega) ?_ | refine drawn_q ?_ | fail)
    refine vStore_blk (l := [.int .i64 0, .slice none 0 0, .int .i64 0, .slice none 0 0]) (xs := elC z0) (B3.chg (Chg.of_later (ks := []) (l4)) (by simp)) rfl rfl (elC_one (EO.zero w4 0).is) ?_
    intro w9 B9 c9
    repeat' (first | (simp (disch := omega) only [push_cast, ↓reduceIte, zA, zG, zB, zH, zI, zC, zJ, zK, zL, zD, zE, zF, zM, zN, zO, zP, zQ, reduceCtorEq, not_true_eq_false, not_false_eq_true]) | (first | refine vIfE_of ?_ ?_ | refine vIfD_of ?_ ?_ | refine vIfQ_of ?_ ?_ | refine vIfV_of ?_ ?_) <;> intro _ | refine And.intro (by omega) ?_ | refine drawn_q ?_ | fail)
    refine resK_cells (s := 4) (by simp (disch := omega) only [push_cast, ↓reduceIte, zA, zG, zB, zH, zI, zC, zJ, zK, zL, zD, zE, zF, zM, zN, zO, zP, zQ, reduceCtorEq, not_true_eq_false, not_false_eq_true]) (by rw [Try.underlying35]; exact sz35) (Blk.cellsAt (l := elC z0) B9) ?_
    repeat' (first | (simp (disch := omega) only [push_cast, ↓reduceIte, zA, zG, zB, zH, zI, zC, zJ, zK, zL, zD, zE, zF, zM, zN, zO, zP, zQ, reduceCtorEq, not_true_eq_false, not_false_eq_true]) | (first | refine vIfE_of ?_ ?_ | refine vIfD_of ?_ ?_ | refine vIfQ_of ?_ ?_ | refine vIfV_of ?_ ?_) <;> intro _ | refine And.intro (by omega) ?_ | refine drawn_q ?_ | fail)
    exact ⟨z0, 121, rfl, hj, EO.zero _ _, Chg.later (l03.trans (l4)) c9 (by intro j hj; rw [List.mem_singleton.1 hj]; omega)⟩
  repeat' (first | (simp (disch := omega) only [push_cast, ↓reduceIte, zA, zG, zB, zH, zI, zC, zJ, zK, zL, zD, zE, zF, zM, zN, zO, zP, zQ, reduceCtorEq, not_true_eq_false, not_false_eq_true, a2, a3, b2, b3, addr_add_eq, Nat.zero_add]) | (first | refine vIfE_of ?_ ?_ | refine vIfD_of ?_ ?_ | refine vIfQ_of ?_ ?_ | refine vIfV_of ?_ ?_) <;> intro _ | refine And.intro (by omega) ?_ | fail)
  refine drawn_k 13 ?_
  repeat' (first | (simp (disch := omega) only [push_cast, ↓reduceIte, zA, zG, zB, zH, zI, zC, zJ, zK, zL, zD, zE, zF, zM, zN, zO, zP, zQ, reduceCtorEq, not_true_eq_false, not_false_eq_true, a0, a1, a2, b2, addr_add_eq, Nat.zero_add]) | (first | refine vIfE_of ?_ ?_ | refine vIfD_of ?_ ?_ | refine vIfQ_of ?_ ?_ | refine vIfV_of ?_ ?_) <;> intro _ | refine And.intro (by omega) ?_ | fail)
  have hsz4 : w.heap.size ≤ w4.heap.size := (l03.trans l4).size
  refine nB_of _ (Lit0 w.heap.size) (stb_lit0 _ _) (fun w' hl => ?_) ?_
  · repeat' (first | (simp (disch := omega) only [push_cast, ↓reduceIte, zA, zG, zB, zH, zI, zC, zJ, zK, zL, zD, zE, zF, zM, zN, zO, zP, zQ, reduceCtorEq, not_true_eq_false, not_false_eq_true]) | (first | refine vIfE_of ?_ ?_ | refine vIfD_of ?_ ?_ | refine vIfQ_of ?_ ?_ | refine vIfV_of ?_ ?_) <;> intro _ | refine And.intro (by omega) ?_ | fail)
    exact ⟨later_alloc _ _, ⟨_, rfl⟩, own_lit w' [] _ 1 0 rfl (by unfold maxLen; omega) (Nat.le_trans hsz4 hl.size)⟩
  repeat' (first | (simp (disch := omega) only [push_cast, ↓reduceIte, zA, zG, zB, zH, zI, zC, zJ, zK, zL, zD, zE, zF, zM, zN, zO, zP, zQ, reduceCtorEq, not_true_eq_false, not_false_eq_true, a0, a1, a2, b2, addr_add_eq, Nat.zero_add]) | (first | refine vIfE_of ?_ ?_ | refine vIfD_of ?_ ?_ | refine vIfQ_of ?_ ?_ | refine vIfV_of ?_ ?_) <;> intro _ | refine And.intro (by omega) ?_ | fail)
  refine nR_app (fun v w' => OwnS w' w.heap.size v x.d) (stb_ownS _ _ _) (fun σ' w' hl hp => ?_) ?_
  · obtain ⟨hp26, hp28, _⟩ := hp
    obtain ⟨⟨lb, h26⟩, h26o⟩ : Lit0 w.heap.size (σ' 26) w' := hp26
    have h28 : σ' 28 = x.dv := hp28
    have hxs := (hx4.later hl).1
    have hsn : SlN w' 1 x.dv x.d.length (x.d.map Value.string) := by
      have := hxs
      unfold StS Sl at this
      rwa [List.length_map] at this
    rw [h26] at h26o
    repeat' (first | (simp (disch := omega) only [push_cast, ↓reduceIte, zA, zG, zB, zH, zI, zC, zJ, zK, zL, zD, zE, zF, zM, zN, zO, zP, zQ, reduceCtorEq, not_true_eq_false, not_false_eq_true, h28, h26]) | (first | refine vIfE_of ?_ ?_ | refine vIfD_of ?_ ?_ | refine vIfQ_of ?_ ?_ | refine vIfV_of ?_ ?_) <;> intro _ | refine And.intro (by omega) ?_ | fail)
    refine vAppend_fresh Try.underlying22 ti9 rfl (by decide) hsn (by unfold maxLen; omega) (by omega) ?_
    intro v' w'' h0 h1
    rcases Nat.eq_zero_or_pos x.d.length with hz | hz
    · obtain ⟨rfl, rfl⟩ := h0 hz
      have : x.d = [] := List.length_eq_zero_iff.1 hz
      rw [this]
      exact ⟨Later.refl _, h26o⟩
    · obtain ⟨ho, hll⟩ := h1 hz
      exact ⟨hll, own_base ho (Nat.le_trans hsz4 hl.size)⟩
  repeat' (first | (simp (disch := omega) only [push_cast, ↓reduceIte, zA, zG, zB, zH, zI, zC, zJ, zK, zL, zD, zE, zF, zM, zN, zO, zP, zQ, reduceCtorEq, not_true_eq_false, not_false_eq_true, a0, a1, a2, b2, addr_add_eq, Nat.zero_add]) | (first | refine vIfE_of ?_ ?_ | refine vIfD_of ?_ ?_ | refine vIfQ_of ?_ ?_ | refine vIfV_of ?_ ?_) <;> intro _ | refine And.intro (by omega) ?_ | fail)
  refine nR_bld (RowB w.heap.size x.t (x.n + y.n) x.d) (stb_rowB _ _ _ _ _) (fun σ' w' hl hp => ?_) ?_
  · obtain ⟨hp25, hp29, hp34, _⟩ := hp
    have h25 : σ' 25 = .int .i64 x.t := hp25
    have h29 : OwnS w' w.heap.size (σ' 29) x.d := hp29
    have h34 : σ' 34 = .int .i64 (x.n + y.n) := hp34
    obtain ⟨o3, c3, hv, _⟩ := Sl.openM (Sl.of_own h29 : Sl w' (σ' 29) (x.d.map Value.string))
    rw [hv] at h29
    repeat' (first | (simp (disch := omega) only [push_cast, ↓reduceIte, zA, zG, zB, zH, zI, zC, zJ, zK, zL, zD, zE, zF, zM, zN, zO, zP, zQ, reduceCtorEq, not_true_eq_false, not_false_eq_true, h25, hv, h34]) | (first | refine vIfE_of ?_ ?_ | refine vIfD_of ?_ ?_ | refine vIfQ_of ?_ ?_ | refine vIfV_of ?_ ?_) <;> intro _ | refine And.intro (by omega) ?_ | fail)
    exact ⟨Later.refl _, _, rfl, h29⟩
  repeat' (first | (simp (disch := omega) only [push_cast, ↓reduceIte, zA, zG, zB, zH, zI, zC, zJ, zK, zL, zD, zE, zF, zM, zN, zO, zP, zQ, reduceCtorEq, not_true_eq_false, not_false_eq_true]) | (first | refine vIfE_of ?_ ?_ | refine vIfD_of ?_ ?_ | refine vIfQ_of ?_ ?_ | refine vIfV_of ?_ ?_) <;> intro _ | refine And.intro (by omega) ?_ | fail)
  refine nA_of _ (PtV w4 35 #[.int .i64 0, .slice none 0 0, .int .i64 0, .slice none 0 0]) (stb_pt _ _ _ _) (fun w' hl => ?_) ?_
  · repeat' (first | (simp (disch := omega) only [push_cast, ↓reduceIte, zA, zG, zB, zH, zI, zC, zJ, zK, zL, zD, zE, zF, zM, zN, zO, zP, zQ, reduceCtorEq, not_true_eq_false, not_false_eq_true]) | (first | refine vIfE_of ?_ ?_ | refine vIfD_of ?_ ?_ | refine vIfQ_of ?_ ?_ | refine vIfV_of ?_ ?_) <;> intro _ | refine And.intro (by omega) ?_ | fail)
    exact ⟨later_alloc _ _, w'.heap.size, rfl, hl.size, Blk.new _ _ _⟩
  repeat' (first | (simp (disch := omega) only [push_cast, ↓reduceIte, zA, zG, zB, zH, zI, zC, zJ, zK, zL, zD, zE, zF, zM, zN, zO, zP, zQ, reduceCtorEq, not_true_eq_false, not_false_eq_true]) | (first | refine vIfE_of ?_ ?_ | refine vIfD_of ?_ ?_ | refine vIfQ_of ?_ ?_ | refine vIfV_of ?_ ?_) <;> intro _ | refine And.intro (by omega) ?_ | fail)
  rintro w5 l5 _ ⟨b, rfl, hb4, Bb⟩ _ ⟨u, rfl, hu⟩ _ _ _ _
  obtain ⟨ou, cu, rfl, _⟩ := Sl.openM (Sl.of_own hu : Sl w5 u (x.d.map Value.string))
  have hE0 : EO w5 w.heap.size ⟨x.t, x.d, x.n + y.n, [], .slice ou x.d.length cu, .slice none 0 0⟩ := ⟨hu, OwnR.nil _ _ _⟩
  generalize hU : Value.slice ou x.d.length cu = U at *
  refine vStore_blk (l := [.int .i64 0, .slice none 0 0, .int .i64 0, .slice none 0 0]) (xs := elC ⟨x.t, x.d, x.n + y.n, [], U, .slice none 0 0⟩) Bb rfl rfl (elC_one hE0.is) ?_
  intro w6 Bb6 c6
  have l35 := l4.trans l5
  have hb2 : w.heap.size + 2 < b := Nat.lt_of_lt_of_le hbig (Nat.le_trans l4.size hb4)
  have B35 := B3.chg (Chg.of_later (ks := []) l35) (by simp)
  obtain ⟨_, _, bx5, by5, _⟩ := G w5 l35
  have J0 : JS w w6 b x y U 0 := ⟨by omega, Chg.later (l03.trans l35) c6 (by intro j hj; rw [List.mem_singleton.1 hj]; omega), bx5.chg c6 (by simp; omega), by5.chg c6 (by simp; omega), B35.chg c6 (by simp; omega), [], .slice none 0 0, Bb6, hE0.chg Bb c6, by simp [jaggs]⟩
  clear hE0 Bb6 c6 Bb B35 bx5 by5 G hx4 hy4 a0 a1 a2 a3 a4 b0 b1 b2 b3 b4 hx3 hy3 B3 l2 l3 l03 l4 l5 l35 hu hs
  have f3 : w6.cell? ⟨w.heap.size, 3, none⟩ = some (.slice ox x.a.length cx) := by have := J0.bx.cell 3; rw [← hax]; exact this
  repeat' (first | (simp (disch := omega) only [push_cast, ↓reduceIte, zA, zG, zB, zH, zI, zC, zJ, zK, zL, zD, zE, zF, zM, zN, zO, zP, zQ, reduceCtorEq, not_true_eq_false, not_false_eq_true, f3, addr_add_eq, Nat.zero_add]) | (first | refine vIfE_of ?_ ?_ | refine vIfD_of ?_ ?_ | refine vIfQ_of ?_ ?_ | refine vIfV_of ?_ ?_) <;> intro _ | refine And.intro (by omega) ?_ | refine drawn_q ?_ | fail)
  clear f3
  have fin : ∀ w' z e, JR x y z e → EO w' w.heap.size z → Later w w' → ∃ z e', Value.tuple #[elV z, .int .i64 e] = .tuple #[elV z, .int .i64 e'] ∧ True := fun w' z e _ _ _ => ⟨z, e, rfl, trivial⟩
  refine vc_loop W37_0 (fun i : Nat => [(8, .int .i64 (i : Int))]) (fun i w' => JS w w' b x y U i) (fun i => x.a.length - i) 0 (by decide) ?_ ?_ ?_
  · simp (disch := omega) only [push_cast, ↓reduceIte, zA, zG, zB, zH, zI, zC, zJ, zK, zL, zD, zE, zF, zM, zN, zO, zP, zQ, reduceCtorEq, not_true_eq_false, not_false_eq_true]
  · exact J0
  clear J0 fin
  rintro i uu w7 J
  have hle := J.le
  have hx7 := (hx.later J.later).2
  have hy7 := (hy.later J.later).2
  rw [hax] at hx7
  rw [hay] at hy7
  by_cases hlt : i < x.a.length
  · have hlt2 : i < y.a.length := by omega
    obtain ⟨lst, av, Bc, hE, hjl⟩ := J.cur
    have hstep := jaggs_step hl hlt hlt2 hjl
    have hAa := ra _ (List.getElem_mem hlt)
    have hAc := sa _ (List.getElem_mem hlt2)
    obtain ⟨aa, rfl, f1⟩ := RecS.at agC_len hx7 hlt
    obtain ⟨bb, rfl, f2⟩ := RecS.at agC_len hy7 hlt2
    have g3 : w7.cell? ⟨w.heap.size + 1, 3, none⟩ = some (.slice (some bb) y.a.length cy) := by have := J.by_.cell 3; rw [← hay]; exact this
    generalize x.a[i] = a at *
    generalize y.a[i] = c at *
    have g2 : w7.cell? ⟨w.heap.size, 3, none⟩ = some (.slice (some aa) x.a.length cx) := by have := J.bx.cell 3; rw [← hax]; exact this
    have J8 := J
    repeat' (first | (simp (disch := omega) only [push_cast, ↓reduceIte, zA, zG, zB, zH, zI, zC, zJ, zK, zL, zD, zE, zF, zM, zN, zO, zP, zQ, reduceCtorEq, not_true_eq_false, not_false_eq_true, g2, addr_add_eq, Nat.zero_add]) | (first | refine vIfE_of ?_ ?_ | refine vIfD_of ?_ ?_ | refine vIfQ_of ?_ ?_ | refine vIfV_of ?_ ?_) <;> intro _ | refine And.intro (by omega) ?_ | fail)
    refine drawnS_k 15 ?_
    repeat' (first | (simp (disch := omega) only [push_cast, ↓reduceIte, zA, zG, zB, zH, zI, zC, zJ, zK, zL, zD, zE, zF, zM, zN, zO, zP, zQ, reduceCtorEq, not_true_eq_false, not_false_eq_true, g2, f1, g3, f2, addr_add_eq, Nat.zero_add]) | (first | refine vIfE_of ?_ ?_ | refine vIfD_of ?_ ?_ | refine vIfQ_of ?_ ?_ | refine vIfV_of ?_ ?_) <;> intro _ | refine And.intro (by omega) ?_ | fail)
    refine NFn.fix hb75 (v := jnV a c) (fun w' _ => cajoin_c a c w' hAa hAc) ?_
    by_cases hf : Fi (a.1 + c.1)
    · have jt : jnV a c = .tuple #[agV (ajn a c), .int .i64 0] := if_pos hf
      rw [jt]
      repeat' (first | (simp (disch := omega) only [push_cast, ↓reduceIte, zA, zG, zB, zH, zI, zC, zJ, zK, zL, zD, zE, zF, zM, zN, zO, zP, zQ, reduceCtorEq, not_true_eq_false, not_false_eq_true]) | (first | refine vIfE_of ?_ ?_ | refine vIfD_of ?_ ?_ | refine vIfQ_of ?_ ?_ | refine vIfV_of ?_ ?_) <;> intro _ | refine And.intro (by omega) ?_ | fail)
      refine nA_of _ (PtV w7 64 #[.int .i64 0, .int .i64 0, .int .i64 0]) (stb_pt _ _ _ _) (fun w' hl => ?_) ?_
      · repeat' (first | (simp (disch := omega) only [push_cast, ↓reduceIte, zA, zG, zB, zH, zI, zC, zJ, zK, zL, zD, zE, zF, zM, zN, zO, zP, zQ, reduceCtorEq, not_true_eq_false, not_false_eq_true]) | (first | refine vIfE_of ?_ ?_ | refine vIfD_of ?_ ?_ | refine vIfQ_of ?_ ?_ | refine vIfV_of ?_ ?_) <;> intro _ | refine And.intro (by omega) ?_ | fail)
        exact ⟨later_alloc _ _, w'.heap.size, rfl, hl.size, Blk.new _ _ _⟩
      repeat' (first | (simp (disch := omega) only [push_cast, ↓reduceIte, zA, zG, zB, zH, zI, zC, zJ, zK, zL, zD, zE, zF, zM, zN, zO, zP, zQ, reduceCtorEq, not_true_eq_false, not_false_eq_true]) | (first | refine vIfE_of ?_ ?_ | refine vIfD_of ?_ ?_ | refine vIfQ_of ?_ ?_ | refine vIfV_of ?_ ?_) <;> intro _ | refine And.intro (by omega) ?_ | fail)
      refine ⟨rfl, fun w9 l9 => ?_⟩
      rintro _ ⟨b9, rfl, hb9, B9⟩
      refine ⟨by simp (disch := omega) only [push_cast, ↓reduceIte, zA, zG, zB, zH, zI, zC, zJ, zK, zL, zD, zE, zF, zM, zN, zO, zP, zQ, reduceCtorEq, not_true_eq_false, not_false_eq_true, implies_true, and_self], ?_⟩
      repeat' (first | (simp (disch := omega) only [push_cast, ↓reduceIte, zA, zG, zB, zH, zI, zC, zJ, zK, zL, zD, zE, zF, zM, zN, zO, zP, zQ, reduceCtorEq, not_true_eq_false, not_false_eq_true]) | (first | refine vIfE_of ?_ ?_ | refine vIfD_of ?_ ?_ | refine vIfQ_of ?_ ?_ | refine vIfV_of ?_ ?_) <;> intro _ | refine And.intro (by omega) ?_ | fail)
      refine vStore_blk (l := [.int .i64 0, .int .i64 0, .int .i64 0]) (xs := agC (ajn a c)) B9 rfl rfl (agC_one _) ?_
      intro w10 B10 c10
      have l810 := Chg.later l9 c10 (by intro j hj; rw [List.mem_singleton.1 hj]; exact hb9)
      have J10 := J8.step l810
      have f10 : cellsAt w10 ⟨b9, 0, none⟩ 3 = some (agC (ajn a c)) := Blk.cellsAt (l := agC (ajn a c)) B10
      clear c10 B9 l9 hb9 J8
      obtain ⟨_, hla, hbx, hby, hbz, lst', av', Bc', hE', hjl'⟩ := J10
      have hll : lst' = lst := by rw [hjl] at hjl'; exact (Option.some.inj hjl').symm
      subst hll
      obtain ⟨oa, ca, hav, _⟩ := RecS.slice (OwnR.s hE'.2)
      have hav : av' = .slice oa lst'.length ca := hav
      subst hav
      have hll2 := jaggs_len _ _ _ (by simp; omega) hjl'
      rw [List.length_take] at hll2
      have f11 : w10.cell? ⟨b, 3, none⟩ = some (.slice oa lst'.length ca) := Bc'.cell 3
      have f10' : cellsAt w10 ⟨b9, 0, none⟩ 3 = some [.int .i64 (ajn a c).1, .int .i64 (ajn a c).2.1, .int .i64 (ajn a c).2.2] := f10
      repeat' (first | (simp (disch := omega) only [push_cast, ↓reduceIte, zA, zG, zB, zH, zI, zC, zJ, zK, zL, zD, zE, zF, zM, zN, zO, zP, zQ, reduceCtorEq, not_true_eq_false, not_false_eq_true, f10', f11, addr_add_eq, Nat.zero_add]) | (first | refine vIfE_of ?_ ?_ | refine vIfD_of ?_ ?_ | refine vIfQ_of ?_ ?_ | refine vIfV_of ?_ ?_) <;> intro _ | refine And.intro (by omega) ?_ | refine drawn_q ?_ | fail)
      have la := later_alloc w10 (.cells #[.int .i64 (ajn a c).1, .int .i64 (ajn a c).2.1, .int .i64 (ajn a c).2.2] 64)
      have Bl := Blk.new w10 #[.int .i64 (ajn a c).1, .int .i64 (ajn a c).2.1, .int .i64 (ajn a c).2.2] 64
      have hEa := hE'.later la
      have hOA : OwnA (w10.alloc (.cells #[.int .i64 (ajn a c).1, .int .i64 (ajn a c).2.1, .int .i64 (ajn a c).2.2] 64)) w.heap.size (.slice oa lst'.length ca) lst' := hEa.2
      refine vAppend_rs agC_len agC_one Try.underlying33 ti64 rfl (by decide) hOA (RecS.lit1 (agC_len _) Bl) (by simp; omega) (by omega) (Nat.le_trans hla.size la.size) ?_
      intro v' w12 ho hg _
      have cl := Chg.of_later (ks := []) la
      have q1 : Blk w12 _ _ 35 := grown_obj hOA hg (hbx.chg cl (by simp)) (fun cs h => by simp at h)
      have q2 : Blk w12 _ _ 35 := grown_obj hOA hg (hby.chg cl (by simp)) (fun cs h => by simp at h)
      have q3 : Blk w12 _ _ 35 := grown_obj hOA hg (hbz.chg cl (by simp)) (fun cs h => by simp at h)
      have q4 : Blk w12 b _ 35 := grown_obj hOA hg (Bc'.chg cl (by simp)) (fun cs h => by simp at h)
      have q5 := (hla.trans la).appended hOA (Nat.le_refl _) hg
      have q6 : OwnS w12 w.heap.size U x.d := ownS_grown hEa.1 hOA hg
      obtain ⟨o2, c2, hv2, _⟩ := RecS.slice (OwnR.s ho)
      subst hv2
      have hfz := q4.frozen 3
      have hce : ∃ y, w12.cell? ⟨b, 3, none⟩ = some y := ⟨_, q4.cell 3⟩
      have gc := chg_setCell (i := 3) w12 (ks := [b]) (k := b) (by simp) (.slice o2 (lst' ++ [ajn a c]).length c2)
      have z5 := q4.set 3 (.slice o2 (lst' ++ [ajn a c]).length c2)
      repeat' (first | (simp (disch := omega) only [push_cast, ↓reduceIte, zA, zG, zB, zH, zI, zC, zJ, zK, zL, zD, zE, zF, zM, zN, zO, zP, zQ, reduceCtorEq, not_true_eq_false, not_false_eq_true, hfz, hce, addr_add_eq, Nat.zero_add]) | (first | refine vIfE_of ?_ ?_ | refine vIfD_of ?_ ?_ | refine vIfQ_of ?_ ?_ | refine vIfV_of ?_ ?_) <;> intro _ | refine And.intro (by omega) ?_ | refine drawn_q ?_ | fail)
      have hJ : JS w (w12.setCell ⟨b, 3, none⟩ (.slice o2 (lst' ++ [ajn a c]).length c2)) b x y U (i + 1) :=
        ⟨by omega, gc.later q5 (by intro j hj; rw [List.mem_singleton.1 hj]; omega), q1.chg gc (by simp; omega), q2.chg gc (by simp; omega), q3.chg gc (by simp; omega), lst' ++ [ajn a c], _, z5, ⟨own_chg_ty q6 q4 (by decide) gc, own_chg_ty ho q4 (by decide) gc⟩, hstep.1 hf⟩
      exact ⟨rfl, i + 1, by simp (disch := omega) only [push_cast, ↓reduceIte, zA, zG, zB, zH, zI, zC, zJ, zK, zL, zD, zE, zF, zM, zN, zO, zP, zQ, reduceCtorEq, not_true_eq_false, not_false_eq_true], hJ, by dsimp only; omega⟩
    · have jt : jnV a c = .tuple #[agV (0, 0, 0), .int .i64 121] := if_neg hf
      have hj : JR x y z0 121 := .inr (.inl ⟨hc, by rw [jn_abs, if_neg hn, hstep.2 hf]; rfl, rfl, rfl⟩)
      rw [jt]
      repeat' (first | (simp (disch := omega) only [push_cast, ↓reduceIte, zA, zG, zB, zH, zI, zC, zJ, zK, zL, zD, zE, zF, zM, zN, zO, zP, zQ, reduceCtorEq, not_true_eq_false, not_false_eq_true]) | (first | refine vIfE_of ?_ ?_ | refine vIfD_of ?_ ?_ | refine vIfQ_of ?_ ?_ | refine vIfV_of ?_ ?_) <;> intro _ | refine And.intro (by omega) ?_ | fail)
      refine nA_of _ (PtV w7 64 #[.int .i64 0, .int .i64 0, .int .i64 0]) (stb_pt _ _ _ _) (fun w' hl => ?_) ?_
      · repeat' (first | (simp (disch := omega) only [push_cast, ↓reduceIte, zA, zG, zB, zH, zI, zC, zJ, zK, zL, zD, zE, zF, zM, zN, zO, zP, zQ, reduceCtorEq, not_true_eq_false, not_false_eq_true]) | (first | refine vIfE_of ?_ ?_ | refine vIfD_of ?_ ?_ | refine vIfQ_of ?_ ?_ | refine vIfV_of ?_ ?_) <;> intro _ | refine And.intro (by omega) ?_ | fail)
        exact ⟨later_alloc _ _, w'.heap.size, rfl, hl.size, Blk.new _ _ _⟩
      repeat' (first | (simp (disch := omega) only [push_cast, ↓reduceIte, zA, zG, zB, zH, zI, zC, zJ, zK, zL, zD, zE, zF, zM, zN, zO, zP, zQ, reduceCtorEq, not_true_eq_false, not_false_eq_true]) | (first | refine vIfE_of ?_ ?_ | refine vIfD_of ?_ ?_ | refine vIfQ_of ?_ ?_ | refine vIfV_of ?_ ?_) <;> intro _ | refine And.intro (by omega) ?_ | fail)
      refine ⟨rfl, fun w9 l9 => ?_⟩
      rintro _ ⟨b9, rfl, hb9, B9⟩
      refine ⟨by simp (disch := omega) only [push_cast, ↓reduceIte, zA, zG, zB, zH, zI, zC, zJ, zK, zL, zD, zE, zF, zM, zN, zO, zP, zQ, reduceCtorEq, not_true_eq_false, not_false_eq_true, implies_true, and_self], ?_⟩
      repeat' (first | (simp (disch := omega) only [push_cast, ↓reduceIte, zA, zG, zB, zH, zI, zC, zJ, zK, zL, zD, zE, zF, zM, zN, zO, zP, zQ, reduceCtorEq, not_true_eq_false, not_false_eq_true]) | (first | refine vIfE_of ?_ ?_ | refine vIfD_of ?_ ?_ | refine vIfQ_of ?_ ?_ | refine vIfV_of ?_ ?_) <;> intro _ | refine And.intro (by omega) ?_ | fail)
      refine vStore_blk (l := [.int .i64 0, .int .i64 0, .int .i64 0]) (xs := agC (0, 0, 0)) B9 rfl rfl (agC_one _) ?_
      intro w10 B10 c10
      have l810 := Chg.later l9 c10 (by intro j hj; rw [List.mem_singleton.1 hj]; exact hb9)
      have J10 := J8.step l810
      have f10 : cellsAt w10 ⟨b9, 0, none⟩ 3 = some (agC (0, 0, 0)) := Blk.cellsAt (l := agC (0, 0, 0)) B10
      clear c10 B9 l9 hb9 J8
      repeat' (first | (simp (disch := omega) only [push_cast, ↓reduceIte, zA, zG, zB, zH, zI, zC, zJ, zK, zL, zD, zE, zF, zM, zN, zO, zP, zQ, reduceCtorEq, not_true_eq_false, not_false_eq_true]) | (first | refine vIfE_of ?_ ?_ | refine vIfD_of ?_ ?_ | refine vIfQ_of ?_ ?_ | refine vIfV_of ?_ ?_) <;> intro _ | refine And.intro (by omega) ?_ | refine drawn_q ?_ | fail)
      refine vStore_blk (l := [.int .i64 0, .slice none 0 0, .int .i64 0, .slice none 0 0]) (xs := elC z0) J10.bz rfl rfl (elC_one (EO.zero w10 0).is) ?_
      intro w11 B11 c11
      repeat' (first | (simp (disch := omega) only [push_cast, ↓reduceIte, zA, zG, zB, zH, zI, zC, zJ, zK, zL, zD, zE, zF, zM, zN, zO, zP, zQ, reduceCtorEq, not_true_eq_false, not_false_eq_true]) | (first | refine vIfE_of ?_ ?_ | refine vIfD_of ?_ ?_ | refine vIfQ_of ?_ ?_ | refine vIfV_of ?_ ?_) <;> intro _ | refine And.intro (by omega) ?_ | refine drawn_q ?_ | fail)
      refine resK_cells (s := 4) (by simp (disch := omega) only [push_cast, ↓reduceIte, zA, zG, zB, zH, zI, zC, zJ, zK, zL, zD, zE, zF, zM, zN, zO, zP, zQ, reduceCtorEq, not_true_eq_false, not_false_eq_true]) (by rw [Try.underlying35]; exact sz35) (Blk.cellsAt (l := elC z0) B11) ?_
      repeat' (first | (simp (disch := omega) only [push_cast, ↓reduceIte, zA, zG, zB, zH, zI, zC, zJ, zK, zL, zD, zE, zF, zM, zN, zO, zP, zQ, reduceCtorEq, not_true_eq_false, not_false_eq_true]) | (first | refine vIfE_of ?_ ?_ | refine vIfD_of ?_ ?_ | refine vIfQ_of ?_ ?_ | refine vIfV_of ?_ ?_) <;> intro _ | refine And.intro (by omega) ?_ | refine drawn_q ?_ | fail)
      exact ⟨z0, 121, rfl, hj, EO.zero _ _, Chg.later J10.later c11 (by intro j hj; rw [List.mem_singleton.1 hj]; omega)⟩
  · have hi : i = x.a.length := by omega
    subst hi
    obtain ⟨lst, av, Bc, hE, hjl⟩ := J.cur
    rw [List.take_length, hl, List.take_length] at hjl
    have hj : JR x y ⟨x.t, x.d, x.n + y.n, lst, U, av⟩ 0 := .inr (.inr ⟨hc, rfl, by rw [jn_abs, if_neg hn, hjl]; rfl⟩)
    have f4 : cellsAt w7 ⟨b, 0, none⟩ 4 = some (elC ⟨x.t, x.d, x.n + y.n, lst, U, av⟩) := Blk.cellsAt (l := elC ⟨x.t, x.d, x.n + y.n, lst, U, av⟩) Bc
    have g2 : w7.cell? ⟨w.heap.size, 3, none⟩ = some (.slice ox x.a.length cx) := by have := J.bx.cell 3; rw [← hax]; exact this
    repeat' (first | (simp (disch := omega) only [push_cast, ↓reduceIte, zA, zG, zB, zH, zI, zC, zJ, zK, zL, zD, zE, zF, zM, zN, zO, zP, zQ, reduceCtorEq, not_true_eq_false, not_false_eq_true, f4, g2, addr_add_eq, Nat.zero_add]) | (first | refine vIfE_of ?_ ?_ | refine vIfD_of ?_ ?_ | refine vIfQ_of ?_ ?_ | refine vIfV_of ?_ ?_) <;> intro _ | refine And.intro (by omega) ?_ | refine drawn_q ?_ | fail)
    refine vStore_blk (l := [.int .i64 0, .slice none 0 0, .int .i64 0, .slice none 0 0]) (xs := elC ⟨x.t, x.d, x.n + y.n, lst, U, av⟩) J.bz rfl rfl (elC_one hE.is) ?_
    intro w11 B11 c11
    repeat' (first | (simp (disch := omega) only [push_cast, ↓reduceIte, zA, zG, zB, zH, zI, zC, zJ, zK, zL, zD, zE, zF, zM, zN, zO, zP, zQ, reduceCtorEq, not_true_eq_false, not_false_eq_true]) | (first | refine vIfE_of ?_ ?_ | refine vIfD_of ?_ ?_ | refine vIfQ_of ?_ ?_ | refine vIfV_of ?_ ?_) <;> intro _ | refine And.intro (by omega) ?_ | refine drawn_q ?_ | fail)
    refine resK_cells (s := 4) (by simp (disch := omega) only [push_cast, ↓reduceIte, zA, zG, zB, zH, zI, zC, zJ, zK, zL, zD, zE, zF, zM, zN, zO, zP, zQ, reduceCtorEq, not_true_eq_false, not_false_eq_true]) (by rw [Try.underlying35]; exact sz35) (Blk.cellsAt (l := elC ⟨x.t, x.d, x.n + y.n, lst, U, av⟩) B11) ?_
    repeat' (first | (simp (disch := omega) only [push_cast, ↓reduceIte, zA, zG, zB, zH, zI, zC, zJ, zK, zL, zD, zE, zF, zM, zN, zO, zP, zQ, reduceCtorEq, not_true_eq_false, not_false_eq_true]) | (first | refine vIfE_of ?_ ?_ | refine vIfD_of ?_ ?_ | refine vIfQ_of ?_ ?_ | refine vIfV_of ?_ ?_) <;> intro _ | refine And.intro (by omega) ?_ | refine drawn_q ?_ | fail)
    exact ⟨⟨x.t, x.d, x.n + y.n, lst, U, av⟩, 0, rfl, hj, hE.chg J.bz c11, Chg.later J.later c11 (by intro j hj; rw [List.mem_singleton.1 hj]; omega)⟩
end Go.Proofs.Ythihbgpaoldbjaa
end
section
set_option linter.unusedSimpArgs false
namespace Go.Proofs.Ythihbgpaoldbjaa
open Go.Vc Go.Key
set_option maxRecDepth 100000
def vlB (b : UInt8) : Bool := decide (32 ≤ b.toNat) && decide (b.toNat ≤ 126) && !decide (b.toNat = 34) && !decide (b.toNat = 92)
def VlOk (s : ByteArray) : Prop := (∀ i (h : i < s.size), vlB s[i] = true) ∧ s.size ≤ 24
instance (s : ByteArray) : Decidable (VlOk s) := inferInstanceAs (Decidable ((∀ i (h : i < s.size), vlB s[i] = true) ∧ s.size ≤ 24))
theorem dvalue_c (s : ByteArray) (w : World) (hs : s.size ≤ 9223372036854775807) : FnC Try.prog 65 #[.string s] w fun r w' => r = .bool (decide (VlOk s)) ∧ w' = w := by
  refine enter65 _ ?_
  unfold B65
  repeat' (first | (simp (disch := omega) only [push_cast, ↓reduceIte, zA, zG, zB, zH, zI, zC, zJ, zK, zL, zD, zE, zF, zM, zN, zO, zP, zQ, reduceCtorEq, not_true_eq_false, not_false_eq_true]) | (first | refine vIfE_of ?_ ?_ | refine vIfD_of ?_ ?_ | refine vIfQ_of ?_ ?_ | refine vIfV_of ?_ ?_) <;> intro _ | refine And.intro (by omega) ?_ | refine drawn_q ?_ | fail)
  refine vc_loop W65_0 (fun i : Nat => [(2, .bool false), (3, .int .i64 (i : Int))])
    (fun i w' => i ≤ s.size ∧ w' = w ∧ ∀ j (h : j < s.size), j < i → vlB s[j] = true) (fun i => s.size - i) 0 (by decide) ?_ ?_ ?_
  · simp (disch := omega) only [push_cast, ↓reduceIte, zA, zG, zB, zH, zI, zC, zJ, zK, zL, zD, zE, zF, zM, zN, zO, zP, zQ, reduceCtorEq, not_true_eq_false, not_false_eq_true]
  · exact ⟨by omega, rfl, fun j _ hj => absurd hj (Nat.not_lt_zero _)⟩
  rintro i uu w0 ⟨hi, h0, hA⟩
  obtain rfl := h0.symm
  by_cases hlt : i < s.size
  · have hg : s[i]? = some s[i] := getElem?_pos s i hlt
    by_cases hv : vlB s[i] = true
    · have hv' := hv
      simp only [vlB, Bool.and_eq_true, decide_eq_true_eq, Bool.not_eq_true', decide_eq_false_iff_not] at hv'
      repeat' (first | (simp (disch := omega) only [push_cast, ↓reduceIte, zA, zG, zB, zH, zI, zC, zJ, zK, zL, zD, zE, zF, zM, zN, zO, zP, zQ, reduceCtorEq, not_true_eq_false, not_false_eq_true, hg]) | (first | refine vIfE_of ?_ ?_ | refine vIfD_of ?_ ?_ | refine vIfQ_of ?_ ?_ | refine vIfV_of ?_ ?_) <;> intro _ | refine And.intro (by omega) ?_ | refine drawn_q ?_ | fail)
      refine ⟨rfl, i + 1, by simp (disch := omega) only [push_cast, ↓reduceIte, zA, zG, zB, zH, zI, zC, zJ, zK, zL, zD, zE, zF, zM, zN, zO, zP, zQ, reduceCtorEq, not_true_eq_false, not_false_eq_true], ⟨by omega, rfl, fun j hj hji => ?_⟩, by dsimp only; omega⟩
      by_cases h : j < i
      · exact hA j hj h
      · have : j = i := by omega
        subst this
        exact hv
    · have hno : decide (VlOk s) = false := decide_eq_false fun h => hv (h.1 i hlt)
      have hv' : ¬ (32 ≤ s[i].toNat ∧ s[i].toNat ≤ 126 ∧ ¬ s[i].toNat = 34 ∧ ¬ s[i].toNat = 92) := by
        intro hh
        apply hv
        simp only [vlB, Bool.and_eq_true, decide_eq_true_eq, Bool.not_eq_true', decide_eq_false_iff_not]
        exact ⟨⟨⟨hh.1, hh.2.1⟩, hh.2.2.1⟩, hh.2.2.2⟩
      repeat' (first | (simp (disch := omega) only [push_cast, ↓reduceIte, zA, zG, zB, zH, zI, zC, zJ, zK, zL, zD, zE, zF, zM, zN, zO, zP, zQ, reduceCtorEq, not_true_eq_false, not_false_eq_true, hg]) | (first | refine vIfE_of ?_ ?_ | refine vIfD_of ?_ ?_ | refine vIfQ_of ?_ ?_ | refine vIfV_of ?_ ?_) <;> intro _ | refine And.intro (by omega) ?_ | refine drawn_q ?_ | fail)
      all_goals first
        | exact ⟨by rw [hno], trivial⟩
        | exact ⟨by rw [hno], rfl⟩
        | (rw [hno])
        | (exfalso; omega)
  · by_cases h24 : s.size ≤ 24
    · have hyes : decide (VlOk s) = true := decide_eq_true ⟨fun j hj => hA j hj (by omega), h24⟩
      repeat' (first | (simp (disch := omega) only [push_cast, ↓reduceIte, zA, zG, zB, zH, zI, zC, zJ, zK, zL, zD, zE, zF, zM, zN, zO, zP, zQ, reduceCtorEq, not_true_eq_false, not_false_eq_true]) | (first | refine vIfE_of ?_ ?_ | refine vIfD_of ?_ ?_ | refine vIfQ_of ?_ ?_ | refine vIfV_of ?_ ?_) <;> intro _ | refine And.intro (by omega) ?_ | refine drawn_q ?_ | fail)
      rw [hyes]
      exact congrArg Value.bool (decide_eq_true (by omega))
    · have hno : decide (VlOk s) = false := decide_eq_false fun h => h24 h.2
      repeat' (first | (simp (disch := omega) only [push_cast, ↓reduceIte, zA, zG, zB, zH, zI, zC, zJ, zK, zL, zD, zE, zF, zM, zN, zO, zP, zQ, reduceCtorEq, not_true_eq_false, not_false_eq_true]) | (first | refine vIfE_of ?_ ?_ | refine vIfD_of ?_ ?_ | refine vIfQ_of ?_ ?_ | refine vIfV_of ?_ ?_) <;> intro _ | refine And.intro (by omega) ?_ | refine drawn_q ?_ | fail)
      rw [hno]
      exact congrArg Value.bool (decide_eq_false (by omega))
def wordsL : List ByteArray := [⟨#[99, 111, 117, 110, 116]⟩, ⟨#[115, 117, 109]⟩, ⟨#[109, 105, 110]⟩, ⟨#[109, 97, 120]⟩, ⟨#[102, 114, 111, 109]⟩, ⟨#[116, 111]⟩, ⟨#[98, 121]⟩, ⟨#[101, 118, 101, 114, 121]⟩, ⟨#[119, 104, 101, 114, 101]⟩, ⟨#[104, 97, 118, 105, 110, 103]⟩, ⟨#[111, 114, 100, 101, 114]⟩, ⟨#[108, 105, 109, 105, 116]⟩, ⟨#[97, 110, 100]⟩, ⟨#[111, 114]⟩, ⟨#[110, 111, 116]⟩, ⟨#[105, 115]⟩, ⟨#[110, 117, 108, 108]⟩, ⟨#[97, 115, 99]⟩, ⟨#[100, 101, 115, 99]⟩, ⟨#[115, 101, 108, 101, 99, 116]⟩]
theorem words_c (w : World) : FnC Try.prog 103 #[] w fun r w' => StS w' r wordsL ∧ Later w w' := by
  refine enter103 ?_
  unfold B103
  repeat' (first | (simp (disch := omega) only [push_cast, ↓reduceIte, zA, zG, zB, zH, zI, zC, zJ, zK, zL, zD, zE, zF, zM, zN, zO, zP, zQ, reduceCtorEq, not_true_eq_false, not_false_eq_true]) | (first | refine vIfE_of ?_ ?_ | refine vIfD_of ?_ ?_ | refine vIfQ_of ?_ ?_ | refine vIfV_of ?_ ?_) <;> intro _ | refine And.intro (by omega) ?_ | refine drawn_q ?_ | fail)
  exact ⟨Sl.of_blk (xs := wordsL.map Value.string) (Blk.new w _ _) rfl (by unfold maxLen; omega), later_alloc _ _⟩
def nmB (i : Nat) (b : UInt8) : Prop := (97 ≤ b.toNat ∧ b.toNat ≤ 122) ∨ (i ≠ 0 ∧ ((48 ≤ b.toNat ∧ b.toNat ≤ 57) ∨ b.toNat = 95))
instance (i : Nat) (b : UInt8) : Decidable (nmB i b) := inferInstanceAs (Decidable (_ ∨ _))
def NmOk (s : ByteArray) : Prop := (∀ x ∈ wordsL, x ≠ s) ∧ (∀ i (h : i < s.size), nmB i s[i]) ∧ 1 ≤ s.size ∧ s.size ≤ 12
instance (s : ByteArray) : Decidable (NmOk s) := inferInstanceAs (Decidable ((∀ x ∈ wordsL, x ≠ s) ∧ (∀ i (h : i < s.size), nmB i s[i]) ∧ 1 ≤ s.size ∧ s.size ≤ 12))
theorem dname_c (s : ByteArray) (w : World) (hs : s.size ≤ 9223372036854775807) : FnC Try.prog 79 #[.string s] w fun r w' => r = .bool (decide (NmOk s)) ∧ Later w w' := by
  refine enter79 _ ?_
  unfold B79
  repeat' (first | (simp (disch := omega) only [push_cast, ↓reduceIte, zA, zG, zB, zH, zI, zC, zJ, zK, zL, zD, zE, zF, zM, zN, zO, zP, zQ, reduceCtorEq, not_true_eq_false, not_false_eq_true]) | (first | refine vIfE_of ?_ ?_ | refine vIfD_of ?_ ?_ | refine vIfQ_of ?_ ?_ | refine vIfV_of ?_ ?_) <;> intro _ | refine And.intro (by omega) ?_ | refine drawn_q ?_ | fail)
  refine (words_c w).mono ?_
  rintro v w1 ⟨hW, l1⟩
  obtain ⟨o, c, rfl⟩ := Sl.slice hW
  have hl : (wordsL.map Value.string).length = 20 := rfl
  rw [hl]
  rw [hl] at hW
  repeat' (first | (simp (disch := omega) only [push_cast, ↓reduceIte, zA, zG, zB, zH, zI, zC, zJ, zK, zL, zD, zE, zF, zM, zN, zO, zP, zQ, reduceCtorEq, not_true_eq_false, not_false_eq_true]) | (first | refine vIfE_of ?_ ?_ | refine vIfD_of ?_ ?_ | refine vIfQ_of ?_ ?_ | refine vIfV_of ?_ ?_) <;> intro _ | refine And.intro (by omega) ?_ | refine drawn_q ?_ | fail)
  refine vc_loop W79_0 (fun i : Nat => [(2, .bool false), (4, .int .i64 (i : Int))])
    (fun i w' => i ≤ 20 ∧ Later w1 w' ∧ ∀ j (h : j < wordsL.length), j < i → wordsL[j] ≠ s) (fun i => 20 - i) 0 (by decide) ?_ ?_ ?_
  · simp (disch := omega) only [push_cast, ↓reduceIte, zA, zG, zB, zH, zI, zC, zJ, zK, zL, zD, zE, zF, zM, zN, zO, zP, zQ, reduceCtorEq, not_true_eq_false, not_false_eq_true]
  · exact ⟨by omega, Later.refl _, fun j _ hj => absurd hj (Nat.not_lt_zero _)⟩
  rintro i uu w2 ⟨hi, l2, hA⟩
  by_cases hlt : i < wordsL.length
  · have hlt' : i < 20 := hlt
    cases o with
    | none => have := Sl.len hW; simp [wordsL] at this
    | some a =>
    have hc := StS.atS (Sl.later hW l2) hlt
    by_cases hv : wordsL[i] = s
    · have hno : decide (NmOk s) = false := decide_eq_false fun h => h.1 _ (List.getElem_mem hlt) hv
      repeat' (first | (simp (disch := omega) only [push_cast, ↓reduceIte, zA, zG, zB, zH, zI, zC, zJ, zK, zL, zD, zE, zF, zM, zN, zO, zP, zQ, reduceCtorEq, not_true_eq_false, not_false_eq_true, hc, hv, decide_true]) | (first | refine vIfE_of ?_ ?_ | refine vIfD_of ?_ ?_ | refine vIfQ_of ?_ ?_ | refine vIfV_of ?_ ?_) <;> intro _ | refine And.intro (by omega) ?_ | refine drawn_q ?_ | fail)
      first | exact ⟨by rw [hno], (l1.trans l2)⟩ | exact (l1.trans l2)
    · repeat' (first | (simp (disch := omega) only [push_cast, ↓reduceIte, zA, zG, zB, zH, zI, zC, zJ, zK, zL, zD, zE, zF, zM, zN, zO, zP, zQ, reduceCtorEq, not_true_eq_false, not_false_eq_true, hc, hv, decide_false]) | (first | refine vIfE_of ?_ ?_ | refine vIfD_of ?_ ?_ | refine vIfQ_of ?_ ?_ | refine vIfV_of ?_ ?_) <;> intro _ | refine And.intro (by omega) ?_ | refine drawn_q ?_ | fail)
      refine ⟨rfl, i + 1, by simp (disch := omega) only [push_cast, ↓reduceIte, zA, zG, zB, zH, zI, zC, zJ, zK, zL, zD, zE, zF, zM, zN, zO, zP, zQ, reduceCtorEq, not_true_eq_false, not_false_eq_true], ⟨by omega, l2, fun j hj hji => ?_⟩, by dsimp only; omega⟩
      by_cases h : j < i
      · exact hA j hj h
      · have : j = i := by omega
        subst this
        exact hv
  have hi20 : i = 20 := by have : wordsL.length = 20 := rfl; omega
  subst hi20
  have hmem : ∀ x ∈ wordsL, x ≠ s := by
    intro x hm
    obtain ⟨j, hj, rfl⟩ := List.getElem_of_mem hm
    exact hA j hj hj
  have l12 := l1.trans l2
  repeat' (first | (simp (disch := omega) only [push_cast, ↓reduceIte, zA, zG, zB, zH, zI, zC, zJ, zK, zL, zD, zE, zF, zM, zN, zO, zP, zQ, reduceCtorEq, not_true_eq_false, not_false_eq_true]) | (first | refine vIfE_of ?_ ?_ | refine vIfD_of ?_ ?_ | refine vIfQ_of ?_ ?_ | refine vIfV_of ?_ ?_) <;> intro _ | refine And.intro (by omega) ?_ | refine drawn_q ?_ | fail)
  refine vc_loop W79_1 (fun i : Nat => [(2, .bool false), (5, .int .i64 (i : Int))])
    (fun i w' => i ≤ s.size ∧ w' = w2 ∧ ∀ j (h : j < s.size), j < i → nmB j s[j]) (fun i => s.size - i) 0 (by decide) ?_ ?_ ?_
  · simp (disch := omega) only [push_cast, ↓reduceIte, zA, zG, zB, zH, zI, zC, zJ, zK, zL, zD, zE, zF, zM, zN, zO, zP, zQ, reduceCtorEq, not_true_eq_false, not_false_eq_true]
  · exact ⟨by omega, rfl, fun j _ hj => absurd hj (Nat.not_lt_zero _)⟩
  rintro i uu2 w0 ⟨hi, h0, hB⟩
  obtain rfl := h0.symm
  by_cases hlt : i < s.size
  · have hg : s[i]? = some s[i] := getElem?_pos s i hlt
    have hno : ¬ nmB i s[i] → decide (NmOk s) = false := fun hv => decide_eq_false fun h => hv (h.2.1 i hlt)
    have hyes : nmB i s[i] → ∀ j (h : j < s.size), j < i + 1 → nmB j s[j] := by
      intro hv j hj hji
      by_cases h : j < i
      · exact hB j hj h
      · have : j = i := by omega
        subst this
        exact hv
    generalize hN : nmB i s[i] = N at hno hyes
    unfold nmB at hN
    generalize s[i] = ch at *
    repeat' (first | (simp (disch := omega) only [push_cast, ↓reduceIte, zA, zG, zB, zH, zI, zC, zJ, zK, zL, zD, zE, zF, zM, zN, zO, zP, zQ, reduceCtorEq, not_true_eq_false, not_false_eq_true, hg]) | (first | refine vIfE_of ?_ ?_ | refine vIfD_of ?_ ?_ | refine vIfQ_of ?_ ?_ | refine vIfV_of ?_ ?_) <;> intro _ | refine And.intro (by omega) ?_ | refine drawn_q ?_ | fail)
    all_goals first
      | (have hn : ¬ N := by rw [← hN]; omega
         first | exact ⟨by rw [hno hn], l12⟩ | (rw [hno hn]))
      | (have hn : N := by rw [← hN]; omega
         exact ⟨rfl, i + 1, by simp (disch := omega) only [push_cast, ↓reduceIte, zA, zG, zB, zH, zI, zC, zJ, zK, zL, zD, zE, zF, zM, zN, zO, zP, zQ, reduceCtorEq, not_true_eq_false, not_false_eq_true], ⟨by omega, rfl, hyes hn⟩, by dsimp only; omega⟩)
  · have hall : ∀ j (h : j < s.size), nmB j s[j] := fun j hj => hB j hj (by omega)
    have hd : decide (NmOk s) = (decide (1 ≤ s.size) && decide (s.size ≤ 12)) := by
      rw [← Bool.decide_and]
      exact decide_eq_decide.2 ⟨fun h => h.2.2, fun h => ⟨hmem, hall, h⟩⟩
    by_cases h1 : 1 ≤ s.size
    · by_cases h2 : s.size ≤ 12
      · rw [hd, decide_eq_true h1, decide_eq_true h2]
        repeat' (first | (simp (disch := omega) only [push_cast, ↓reduceIte, zA, zG, zB, zH, zI, zC, zJ, zK, zL, zD, zE, zF, zM, zN, zO, zP, zQ, reduceCtorEq, not_true_eq_false, not_false_eq_true]) | (first | refine vIfE_of ?_ ?_ | refine vIfD_of ?_ ?_ | refine vIfQ_of ?_ ?_ | refine vIfV_of ?_ ?_) <;> intro _ | refine And.intro (by omega) ?_ | refine drawn_q ?_ | fail)
        first | exact ⟨congrArg Value.bool (decide_eq_true (by omega)), l12⟩ | exact l12
      · rw [hd, decide_eq_true h1, decide_eq_false h2]
        repeat' (first | (simp (disch := omega) only [push_cast, ↓reduceIte, zA, zG, zB, zH, zI, zC, zJ, zK, zL, zD, zE, zF, zM, zN, zO, zP, zQ, reduceCtorEq, not_true_eq_false, not_false_eq_true]) | (first | refine vIfE_of ?_ ?_ | refine vIfD_of ?_ ?_ | refine vIfQ_of ?_ ?_ | refine vIfV_of ?_ ?_) <;> intro _ | refine And.intro (by omega) ?_ | refine drawn_q ?_ | fail)
        first | exact ⟨congrArg Value.bool (decide_eq_false (by omega)), l12⟩ | exact l12
    · rw [hd, decide_eq_false h1]
      repeat' (first | (simp (disch := omega) only [push_cast, ↓reduceIte, zA, zG, zB, zH, zI, zC, zJ, zK, zL, zD, zE, zF, zM, zN, zO, zP, zQ, reduceCtorEq, not_true_eq_false, not_false_eq_true]) | (first | refine vIfE_of ?_ ?_ | refine vIfD_of ?_ ?_ | refine vIfQ_of ?_ ?_ | refine vIfV_of ?_ ?_) <;> intro _ | refine And.intro (by omega) ?_ | refine drawn_q ?_ | fail)
      first | exact ⟨rfl, l12⟩ | exact l12
/-- Texts that are gone through. -/
def F10 (l : List ByteArray) : Prop := l.length ≤ 20 ∧ ∀ s ∈ l, s.size ≤ 80
instance (l : List ByteArray) : Decidable (F10 l) := inferInstanceAs (Decidable (_ ∧ _))
theorem fits10_c (v : Value) (l : List ByteArray) (w : World) (h : StS w v l) (hs : ∀ s ∈ l, s.size ≤ 9223372036854775807) : FnC Try.prog 16 #[v] w fun r w' => r = .bool (decide (F10 l)) ∧ w' = w := by
  obtain ⟨o, c, rfl⟩ := Sl.slice h
  rw [List.length_map] at h ⊢
  refine enter16 _ ?_
  unfold B16
  have hbig := (Sl.len h).2.1
  have hbig2 := (Sl.len h).2.2.1
  unfold maxLen at hbig2
  repeat' (first | (simp (disch := omega) only [push_cast, ↓reduceIte, zA, zG, zB, zH, zI, zC, zJ, zK, zL, zD, zE, zF, zM, zN, zO, zP, zQ, reduceCtorEq, not_true_eq_false, not_false_eq_true]) | (first | refine vIfE_of ?_ ?_ | refine vIfD_of ?_ ?_ | refine vIfQ_of ?_ ?_ | refine vIfV_of ?_ ?_) <;> intro _ | refine And.intro (by omega) ?_ | refine drawn_q ?_ | fail)
  refine vc_loop W16_0 (fun i : Nat => [(2, .bool false), (3, .int .i64 (i : Int))])
    (fun i w' => i ≤ l.length ∧ i ≤ 20 ∧ w' = w ∧ ∀ j (h : j < l.length), j < i → l[j].size ≤ 80) (fun i => l.length - i) 0 (by decide) ?_ ?_ ?_
  · simp (disch := omega) only [push_cast, ↓reduceIte, zA, zG, zB, zH, zI, zC, zJ, zK, zL, zD, zE, zF, zM, zN, zO, zP, zQ, reduceCtorEq, not_true_eq_false, not_false_eq_true]
  · exact ⟨by omega, by omega, rfl, fun j _ hj => absurd hj (Nat.not_lt_zero _)⟩
  rintro i uu w0 ⟨hi, hi20, h0, hA⟩
  obtain rfl := h0.symm
  by_cases hlt : i < l.length
  · cases o with
    | none => have := (Sl.len h).2.2.2 rfl; simp at this; rw [this.1] at hlt; simp at hlt
    | some a =>
    have hc := StS.atS h hlt
    have hz := hs _ (List.getElem_mem hlt)
    by_cases h20 : i = 20
    · have hno : decide (F10 l) = false := decide_eq_false fun h => by have := h.1; omega
      subst h20
      repeat' (first | (simp (disch := omega) only [push_cast, ↓reduceIte, zA, zG, zB, zH, zI, zC, zJ, zK, zL, zD, zE, zF, zM, zN, zO, zP, zQ, reduceCtorEq, not_true_eq_false, not_false_eq_true, hc]) | (first | refine vIfE_of ?_ ?_ | refine vIfD_of ?_ ?_ | refine vIfQ_of ?_ ?_ | refine vIfV_of ?_ ?_) <;> intro _ | refine And.intro (by omega) ?_ | refine drawn_q ?_ | fail)
      first | exact ⟨by rw [hno], trivial⟩ | (rw [hno])
    · by_cases h80 : l[i].size ≤ 80
      · repeat' (first | (simp (disch := omega) only [push_cast, ↓reduceIte, zA, zG, zB, zH, zI, zC, zJ, zK, zL, zD, zE, zF, zM, zN, zO, zP, zQ, reduceCtorEq, not_true_eq_false, not_false_eq_true, hc]) | (first | refine vIfE_of ?_ ?_ | refine vIfD_of ?_ ?_ | refine vIfQ_of ?_ ?_ | refine vIfV_of ?_ ?_) <;> intro _ | refine And.intro (by omega) ?_ | refine drawn_q ?_ | fail)
        refine ⟨rfl, i + 1, by simp (disch := omega) only [push_cast, ↓reduceIte, zA, zG, zB, zH, zI, zC, zJ, zK, zL, zD, zE, zF, zM, zN, zO, zP, zQ, reduceCtorEq, not_true_eq_false, not_false_eq_true], ⟨by omega, by omega, rfl, fun j hj hji => ?_⟩, by dsimp only; omega⟩
        by_cases h : j < i
        · exact hA j hj h
        · have : j = i := by omega
          subst this
          exact h80
      · have hno : decide (F10 l) = false := decide_eq_false fun h => h80 (h.2 _ (List.getElem_mem _))
        repeat' (first | (simp (disch := omega) only [push_cast, ↓reduceIte, zA, zG, zB, zH, zI, zC, zJ, zK, zL, zD, zE, zF, zM, zN, zO, zP, zQ, reduceCtorEq, not_true_eq_false, not_false_eq_true, hc]) | (first | refine vIfE_of ?_ ?_ | refine vIfD_of ?_ ?_ | refine vIfQ_of ?_ ?_ | refine vIfV_of ?_ ?_) <;> intro _ | refine And.intro (by omega) ?_ | refine drawn_q ?_ | fail)
        first | exact ⟨by rw [hno], trivial⟩ | (rw [hno])
  · have hyes : decide (F10 l) = true := decide_eq_true ⟨by omega, fun s hs => by
      obtain ⟨j, hj, rfl⟩ := List.getElem_of_mem hs
      exact hA j hj (by omega)⟩
    repeat' (first | (simp (disch := omega) only [push_cast, ↓reduceIte, zA, zG, zB, zH, zI, zC, zJ, zK, zL, zD, zE, zF, zM, zN, zO, zP, zQ, reduceCtorEq, not_true_eq_false, not_false_eq_true]) | (first | refine vIfE_of ?_ ?_ | refine vIfD_of ?_ ?_ | refine vIfQ_of ?_ ?_ | refine vIfV_of ?_ ?_) <;> intro _ | refine And.intro (by omega) ?_ | refine drawn_q ?_ | fail)
    rw [hyes]
end Go.Proofs.Ythihbgpaoldbjaa
end
section
namespace Go.Proofs.Ythihbgpaoldbjaa
open Go.Vc
set_option maxRecDepth 100000
variable (Q : Post) (ds : List Deferred) (σ : Env) (w : World)
/-! 7 columbary/columbarylaw13.RowsFold (params #[24, 25], results #[(.tmp 4)], 52 slots) -/
def r7_0 : List VOp :=
  [⟨some 2, .box 24 (.tmp 0), 0, none⟩,
   ⟨some 4, .assign (.const (.bool false)), 4, none⟩]
def r7_1 : List VOp :=
  [⟨some 11, .load 24 (.tmp 2), 24, none⟩,
   ⟨some 12, .move (.tmp 1), 25, none⟩,
   ⟨some 13, .call ⟨.value (.func 11), #[.tmp 11, .tmp 12], #[24, 25]⟩, 4, none⟩,
   ⟨some 5, .assign (.tmp 13), 4, none⟩]
def r7_2 : List VOp :=
  [⟨some 14, .move (.tmp 5), 4, none⟩,
   ⟨some 15, .unOp .not 4 (.tmp 14), 4, none⟩]
def r7_3 : List VOp :=
  [⟨some 16, .call ⟨.value (.func 24), #[], #[]⟩, 4, none⟩,
   ⟨some 4, .assign (.tmp 16), 4, none⟩]
def r7_4 : List VOp :=
  [⟨some 17, .move (.tmp 1), 25, none⟩,
   ⟨some 18, .call ⟨.value (.func 30), #[.tmp 17], #[25]⟩, 25, none⟩,
   ⟨some 6, .assign (.tmp 18), 25, none⟩]
def r7_5 : List VOp :=
  [⟨some 20, .move (.tmp 1), 25, none⟩,
   ⟨some 21, .call ⟨.value (.func 31), #[.tmp 20], #[25]⟩, 29, none⟩,
   ⟨some 19, .move (.tmp 21), 29, none⟩,
   ⟨some 22, .extract (.tmp 19) 0, 25, none⟩,
   ⟨some 23, .extract (.tmp 19) 1, 28, none⟩,
   ⟨some 7, .assign (.tmp 22), 25, none⟩,
   ⟨some 8, .assign (.tmp 23), 28, none⟩]
def r7_6 : List VOp :=
  [⟨some 25, .move (.tmp 1), 25, none⟩,
   ⟨some 26, .call ⟨.value (.func 14), #[.tmp 25], #[25]⟩, 29, none⟩,
   ⟨some 24, .move (.tmp 26), 29, none⟩,
   ⟨some 27, .extract (.tmp 24) 0, 25, none⟩,
   ⟨some 28, .extract (.tmp 24) 1, 28, none⟩,
   ⟨some 9, .assign (.tmp 27), 25, none⟩,
   ⟨some 10, .assign (.tmp 28), 28, none⟩]
def r7_7 : List VOp :=
  [⟨some 29, .call ⟨.value (.func 24), #[], #[]⟩, 4, none⟩,
   ⟨some 30, .move (.tmp 29), 4, none⟩,
   ⟨some 31, .move (.tmp 7), 25, some (30, true)⟩,
   ⟨some 32, .move (.tmp 9), 25, some (30, true)⟩,
   ⟨some 33, .call ⟨.value (.func 15), #[.tmp 31, .tmp 32], #[25, 25]⟩, 4, some (30, true)⟩,
   ⟨some 34, .pick (.tmp 30) (.tmp 33) (.const (.bool false)), 4, none⟩,
   ⟨some 35, .move (.tmp 34), 4, none⟩,
   ⟨some 36, .move (.tmp 8), 28, some (35, true)⟩,
   ⟨some 37, .move (.tmp 10), 28, some (35, true)⟩,
   ⟨some 38, .binOp .eql 28 (.tmp 36) (.tmp 37) 28, 4, some (35, true)⟩,
   ⟨some 39, .pick (.tmp 35) (.tmp 38) (.const (.bool false)), 4, none⟩,
   ⟨some 40, .move (.tmp 39), 4, none⟩,
   ⟨some 41, .move (.tmp 1), 25, some (40, true)⟩,
   ⟨some 42, .move (.tmp 6), 25, some (40, true)⟩,
   ⟨some 43, .call ⟨.value (.func 15), #[.tmp 41, .tmp 42], #[25, 25]⟩, 4, some (40, true)⟩,
   ⟨some 44, .pick (.tmp 40) (.tmp 43) (.const (.bool false)), 4, none⟩,
   ⟨some 45, .move (.tmp 44), 4, none⟩,
   ⟨some 46, .move (.tmp 1), 25, some (45, true)⟩,
   ⟨some 47, .call ⟨.value (.func 32), #[.tmp 46], #[25]⟩, 4, some (45, true)⟩,
   ⟨some 48, .move (.tmp 1), 25, some (45, true)⟩,
   ⟨some 49, .call ⟨.value (.func 33), #[.tmp 48], #[25]⟩, 4, some (45, true)⟩,
   ⟨some 50, .binOp .eql 4 (.tmp 47) (.tmp 49) 4, 4, some (45, true)⟩,
   ⟨some 51, .pick (.tmp 45) (.tmp 50) (.const (.bool false)), 4, none⟩,
   ⟨some 4, .assign (.tmp 51), 4, none⟩]
def B7 : VC :=
  (.seq (.region r7_0) (.seq (.region r7_1) (.seq (.seq (.region r7_2) (.cond (.tmp 15) (.seq (.region r7_3) .ret) .skip)) (.seq (.region r7_4) (.seq (.region r7_5) (.seq (.region r7_6) (.seq (.region r7_7) .ret)))))))
theorem code7 : ∃ c, Try.f7.body = some c ∧ abs Try.f7.ntmps c = B7 := ⟨_, rfl, by kernel_rfl⟩
theorem hb7 : HasBody Try.prog 7 := hasBody_of Try.func7 (by kernel_rfl)
theorem res7 : Try.f7.results = #[(.tmp 4)] := rfl
theorem enter7 {w : World} {R : Value → World → Prop} (x0 x1 : Value) (h : vc Try.prog B7 (retK Try.prog #[(.tmp 4)] R) [] (initEnv [x0, x1] 0) w) : FnC Try.prog 7 #[x0, x1] w R := by
  obtain ⟨c, h1, h2⟩ := code7
  exact hb7.fn (ret_of_vc mixed Try.func7 h1 (Nat.le_of_ble_eq_true rfl) B7 h2 h)
@[push_cast] theorem vr7_0 : vc Try.prog (.region r7_0) Q ds σ w = vcOps Try.prog [⟨some 2, .box 24 (.tmp 0), 0, none⟩, ⟨some 4, .assign (.const (.bool false)), 4, none⟩] (Q .normal ds) σ w := mk_eq rfl
@[push_cast] theorem vr7_1 : vc Try.prog (.region r7_1) Q ds σ w = vcOps Try.prog [⟨some 11, .load 24 (.tmp 2), 24, none⟩, ⟨some 12, .move (.tmp 1), 25, none⟩, ⟨some 13, .call ⟨.value (.func 11), #[.tmp 11, .tmp 12], #[24, 25]⟩, 4, none⟩, ⟨some 5, .assign (.tmp 13), 4, none⟩] (Q .normal ds) σ w := mk_eq rfl
@[push_cast] theorem vr7_2 : vc Try.prog (.region r7_2) Q ds σ w = vcOps Try.prog [⟨some 14, .move (.tmp 5), 4, none⟩, ⟨some 15, .unOp .not 4 (.tmp 14), 4, none⟩] (Q .normal ds) σ w := mk_eq rfl
@[push_cast] theorem vr7_3 : vc Try.prog (.region r7_3) Q ds σ w = vcOps Try.prog [⟨some 16, .call ⟨.value (.func 24), #[], #[]⟩, 4, none⟩, ⟨some 4, .assign (.tmp 16), 4, none⟩] (Q .normal ds) σ w := mk_eq rfl
@[push_cast] theorem vr7_4 : vc Try.prog (.region r7_4) Q ds σ w = vcOps Try.prog [⟨some 17, .move (.tmp 1), 25, none⟩, ⟨some 18, .call ⟨.value (.func 30), #[.tmp 17], #[25]⟩, 25, none⟩, ⟨some 6, .assign (.tmp 18), 25, none⟩] (Q .normal ds) σ w := mk_eq rfl
@[push_cast] theorem vr7_5 : vc Try.prog (.region r7_5) Q ds σ w = vcOps Try.prog [⟨some 20, .move (.tmp 1), 25, none⟩, ⟨some 21, .call ⟨.value (.func 31), #[.tmp 20], #[25]⟩, 29, none⟩, ⟨some 19, .move (.tmp 21), 29, none⟩, ⟨some 22, .extract (.tmp 19) 0, 25, none⟩, ⟨some 23, .extract (.tmp 19) 1, 28, none⟩, ⟨some 7, .assign (.tmp 22), 25, none⟩, ⟨some 8, .assign (.tmp 23), 28, none⟩] (Q .normal ds) σ w := mk_eq rfl
@[push_cast] theorem vr7_6 : vc Try.prog (.region r7_6) Q ds σ w = vcOps Try.prog [⟨some 25, .move (.tmp 1), 25, none⟩, ⟨some 26, .call ⟨.value (.func 14), #[.tmp 25], #[25]⟩, 29, none⟩, ⟨some 24, .move (.tmp 26), 29, none⟩, ⟨some 27, .extract (.tmp 24) 0, 25, none⟩, ⟨some 28, .extract (.tmp 24) 1, 28, none⟩, ⟨some 9, .assign (.tmp 27), 25, none⟩, ⟨some 10, .assign (.tmp 28), 28, none⟩] (Q .normal ds) σ w := mk_eq rfl
@[push_cast] theorem vr7_7 : vc Try.prog (.region r7_7) Q ds σ w = vcOps Try.prog [⟨some 29, .call ⟨.value (.func 24), #[], #[]⟩, 4, none⟩, ⟨some 30, .move (.tmp 29), 4, none⟩, ⟨some 31, .move (.tmp 7), 25, some (30, true)⟩, ⟨some 32, .move (.tmp 9), 25, some (30, true)⟩, ⟨some 33, .call ⟨.value (.func 15), #[.tmp 31, .tmp 32], #[25, 25]⟩, 4, some (30, true)⟩, ⟨some 34, .pick (.tmp 30) (.tmp 33) (.const (.bool false)), 4, none⟩, ⟨some 35, .move (.tmp 34), 4, none⟩, ⟨some 36, .move (.tmp 8), 28, some (35, true)⟩, ⟨some 37, .move (.tmp 10), 28, some (35, true)⟩, ⟨some 38, .binOp .eql 28 (.tmp 36) (.tmp 37) 28, 4, some (35, true)⟩, ⟨some 39, .pick (.tmp 35) (.tmp 38) (.const (.bool false)), 4, none⟩, ⟨some 40, .move (.tmp 39), 4, none⟩, ⟨some 41, .move (.tmp 1), 25, some (40, true)⟩, ⟨some 42, .move (.tmp 6), 25, some (40, true)⟩, ⟨some 43, .call ⟨.value (.func 15), #[.tmp 41, .tmp 42], #[25, 25]⟩, 4, some (40, true)⟩, ⟨some 44, .pick (.tmp 40) (.tmp 43) (.const (.bool false)), 4, none⟩, ⟨some 45, .move (.tmp 44), 4, none⟩, ⟨some 46, .move (.tmp 1), 25, some (45, true)⟩, ⟨some 47, .call ⟨.value (.func 32), #[.tmp 46], #[25]⟩, 4, some (45, true)⟩, ⟨some 48, .move (.tmp 1), 25, some (45, true)⟩, ⟨some 49, .call ⟨.value (.func 33), #[.tmp 48], #[25]⟩, 4, some (45, true)⟩, ⟨some 50, .binOp .eql 4 (.tmp 47) (.tmp 49) 4, 4, some (45, true)⟩, ⟨some 51, .pick (.tmp 45) (.tmp 50) (.const (.bool false)), 4, none⟩, ⟨some 4, .assign (.tmp 51), 4, none⟩] (Q .normal ds) σ w := mk_eq rfl
/-! 11 columbary/columbarylaw13.Fits (params #[24, 25], results #[(.tmp 4)], 45 slots) -/
def W11_0 : List Nat := [4, 7, 8, 31, 32, 33, 34, 35, 36, 37, 38, 39, 40, 41, 42, 43, 44]
@[push_cast] theorem W11_0_def : W11_0 = [4, 7, 8, 31, 32, 33, 34, 35, 36, 37, 38, 39, 40, 41, 42, 43, 44] := mk_eq rfl
def r11_0 : List VOp :=
  [⟨some 2, .box 24 (.tmp 0), 0, none⟩,
   ⟨some 4, .assign (.const (.bool false)), 4, none⟩]
def r11_1 : List VOp :=
  [⟨some 9, .fieldAddr 24 (.tmp 2) 0, 0, none⟩,
   ⟨some 10, .load 22 (.tmp 9), 22, none⟩,
   ⟨some 11, .call ⟨.value (.func 16), #[.tmp 10], #[22]⟩, 4, none⟩,
   ⟨some 5, .assign (.tmp 11), 4, none⟩]
def r11_2 : List VOp :=
  [⟨some 12, .fieldAddr 24 (.tmp 2) 1, 0, none⟩,
   ⟨some 13, .load 22 (.tmp 12), 22, none⟩,
   ⟨some 14, .call ⟨.value (.func 16), #[.tmp 13], #[22]⟩, 4, none⟩,
   ⟨some 6, .assign (.tmp 14), 4, none⟩]
def r11_3 : List VOp :=
  [⟨some 15, .move (.tmp 5), 4, none⟩,
   ⟨some 16, .unOp .not 4 (.tmp 15), 4, none⟩,
   ⟨some 17, .move (.tmp 16), 4, none⟩,
   ⟨some 18, .move (.tmp 6), 4, some (17, false)⟩,
   ⟨some 19, .unOp .not 4 (.tmp 18), 4, some (17, false)⟩,
   ⟨some 20, .pick (.tmp 17) (.const (.bool true)) (.tmp 19), 4, none⟩,
   ⟨some 21, .move (.tmp 20), 4, none⟩,
   ⟨some 22, .move (.tmp 1), 25, some (21, false)⟩,
   ⟨some 23, .call ⟨.builtin .len, #[.tmp 22], #[25]⟩, 3, some (21, false)⟩,
   ⟨some 24, .binOp .gtr 3 (.tmp 23) (.const (.int .i64 120)) 3, 4, some (21, false)⟩,
   ⟨some 25, .pick (.tmp 21) (.const (.bool true)) (.tmp 24), 4, none⟩,
   ⟨some 26, .move (.tmp 25), 4, none⟩,
   ⟨some 27, .load 24 (.tmp 2), 24, some (26, false)⟩,
   ⟨some 28, .call ⟨.value (.func 39), #[.tmp 27], #[24]⟩, 4, some (26, false)⟩,
   ⟨some 29, .unOp .not 4 (.tmp 28), 4, some (26, false)⟩,
   ⟨some 30, .pick (.tmp 26) (.const (.bool true)) (.tmp 29), 4, none⟩]
def r11_4 : List VOp :=
  [⟨some 4, .assign (.const (.bool false)), 4, none⟩]
def r11_5 : List VOp :=
  [⟨some 7, .assign (.const (.int .i64 0)), 3, none⟩]
def r11_6 : List VOp :=
  [⟨some 31, .move (.tmp 7), 3, none⟩,
   ⟨some 32, .move (.tmp 1), 25, none⟩,
   ⟨some 33, .call ⟨.builtin .len, #[.tmp 32], #[25]⟩, 3, none⟩,
   ⟨some 34, .binOp .lss 3 (.tmp 31) (.tmp 33) 3, 4, none⟩]
def r11_8 : List VOp :=
  [⟨some 37, .load 24 (.tmp 2), 24, none⟩,
   ⟨some 38, .move (.tmp 1), 25, none⟩,
   ⟨some 39, .move (.tmp 7), 3, none⟩,
   ⟨some 40, .indexAddr 25 (.tmp 38) (.tmp 39), 0, none⟩,
   ⟨some 41, .load 35 (.tmp 40), 35, none⟩,
   ⟨some 42, .call ⟨.value (.func 28), #[.tmp 37, .tmp 41], #[24, 35]⟩, 4, none⟩,
   ⟨some 8, .assign (.tmp 42), 4, none⟩]
def r11_9 : List VOp :=
  [⟨some 43, .move (.tmp 8), 4, none⟩,
   ⟨some 44, .unOp .not 4 (.tmp 43), 4, none⟩]
def r11_10 : List VOp :=
  [⟨some 4, .assign (.const (.bool false)), 4, none⟩]
def r11_7 : List VOp :=
  [⟨some 35, .move (.tmp 7), 3, none⟩,
   ⟨some 36, .binOp .add 3 (.tmp 35) (.const (.int .i64 1)) 3, 3, none⟩,
   ⟨some 7, .assign (.tmp 36), 3, none⟩]
def r11_11 : List VOp :=
  [⟨some 4, .assign (.const (.bool true)), 4, none⟩]
def B11 : VC :=
  (.seq (.region r11_0) (.seq (.region r11_1) (.seq (.region r11_2) (.seq (.seq (.region r11_3) (.cond (.tmp 30) (.seq (.region r11_4) .ret) .skip)) (.seq (.seq (.region r11_5) (.block 0 (.loop (.seq (.seq (.region r11_6) (.cond (.tmp 34) .skip (.exit 0))) (.seq (.block 1 (.seq (.draw r11_8 3) (.seq (.region r11_9) (.cond (.tmp 44) (.seq (.region r11_10) .ret) .skip)))) (.region r11_7)))))) (.seq (.region r11_11) .ret))))))
theorem code11 : ∃ c, Try.f11.body = some c ∧ abs Try.f11.ntmps c = B11 := ⟨_, rfl, by kernel_rfl⟩
theorem hb11 : HasBody Try.prog 11 := hasBody_of Try.func11 (by kernel_rfl)
theorem res11 : Try.f11.results = #[(.tmp 4)] := rfl
theorem enter11 {w : World} {R : Value → World → Prop} (x0 x1 : Value) (h : vc Try.prog B11 (retK Try.prog #[(.tmp 4)] R) [] (initEnv [x0, x1] 0) w) : FnC Try.prog 11 #[x0, x1] w R := by
  obtain ⟨c, h1, h2⟩ := code11
  exact hb11.fn (ret_of_vc mixed Try.func11 h1 (Nat.le_of_ble_eq_true rfl) B11 h2 h)
@[push_cast] theorem vr11_0 : vc Try.prog (.region r11_0) Q ds σ w = vcOps Try.prog [⟨some 2, .box 24 (.tmp 0), 0, none⟩, ⟨some 4, .assign (.const (.bool false)), 4, none⟩] (Q .normal ds) σ w := mk_eq rfl
@[push_cast] theorem vr11_1 : vc Try.prog (.region r11_1) Q ds σ w = vcOps Try.prog [⟨some 9, .fieldAddr 24 (.tmp 2) 0, 0, none⟩, ⟨some 10, .load 22 (.tmp 9), 22, none⟩, ⟨some 11, .call ⟨.value (.func 16), #[.tmp 10], #[22]⟩, 4, none⟩, ⟨some 5, .assign (.tmp 11), 4, none⟩] (Q .normal ds) σ w := mk_eq rfl
@[push_cast] theorem vr11_2 : vc Try.prog (.region r11_2) Q ds σ w = vcOps Try.prog [⟨some 12, .fieldAddr 24 (.tmp 2) 1, 0, none⟩, ⟨some 13, .load 22 (.tmp 12), 22, none⟩, ⟨some 14, .call ⟨.value (.func 16), #[.tmp 13], #[22]⟩, 4, none⟩, ⟨some 6, .assign (.tmp 14), 4, none⟩] (Q .normal ds) σ w := mk_eq rfl
@[push_cast] theorem vr11_3 : vc Try.prog (.region r11_3) Q ds σ w = vcOps Try.prog [⟨some 15, .move (.tmp 5), 4, none⟩, ⟨some 16, .unOp .not 4 (.tmp 15), 4, none⟩, ⟨some 17, .move (.tmp 16), 4, none⟩, ⟨some 18, .move (.tmp 6), 4, some (17, false)⟩, ⟨some 19, .unOp .not 4 (.tmp 18), 4, some (17, false)⟩, ⟨some 20, .pick (.tmp 17) (.const (.bool true)) (.tmp 19), 4, none⟩, ⟨some 21, .move (.tmp 20), 4, none⟩, ⟨some 22, .move (.tmp 1), 25, some (21, false)⟩, ⟨some 23, .call ⟨.builtin .len, #[.tmp 22], #[25]⟩, 3, some (21, false)⟩, ⟨some 24, .binOp .gtr 3 (.tmp 23) (.const (.int .i64 120)) 3, 4, some (21, false)⟩, ⟨some 25, .pick (.tmp 21) (.const (.bool true)) (.tmp 24), 4, none⟩, ⟨some 26, .move (.tmp 25), 4, none⟩, ⟨some 27, .load 24 (.tmp 2), 24, some (26, false)⟩, ⟨some 28, .call ⟨.value (.func 39), #[.tmp 27], #[24]⟩, 4, some (26, false)⟩, ⟨some 29, .unOp .not 4 (.tmp 28), 4, some (26, false)⟩, ⟨some 30, .pick (.tmp 26) (.const (.bool true)) (.tmp 29), 4, none⟩] (Q .normal ds) σ w := mk_eq rfl
@[push_cast] theorem vr11_4 : vc Try.prog (.region r11_4) Q ds σ w = vcOps Try.prog [⟨some 4, .assign (.const (.bool false)), 4, none⟩] (Q .normal ds) σ w := mk_eq rfl
@[push_cast] theorem vr11_5 : vc Try.prog (.region r11_5) Q ds σ w = vcOps Try.prog [⟨some 7, .assign (.const (.int .i64 0)), 3, none⟩] (Q .normal ds) σ w := mk_eq rfl
@[push_cast] theorem vr11_6 : vc Try.prog (.region r11_6) Q ds σ w = vcOps Try.prog [⟨some 31, .move (.tmp 7), 3, none⟩, ⟨some 32, .move (.tmp 1), 25, none⟩, ⟨some 33, .call ⟨.builtin .len, #[.tmp 32], #[25]⟩, 3, none⟩, ⟨some 34, .binOp .lss 3 (.tmp 31) (.tmp 33) 3, 4, none⟩] (Q .normal ds) σ w := mk_eq rfl
@[push_cast] theorem vr11_8 : vc Try.prog (.draw r11_8 3) Q ds σ w = drawn Try.prog [(⟨some 37, .load 24 (.tmp 2), 24, none⟩, [2]), (⟨some 38, .move (.tmp 1), 25, none⟩, [1]), (⟨some 39, .move (.tmp 7), 3, none⟩, [7]), (⟨some 40, .indexAddr 25 (.tmp 38) (.tmp 39), 0, none⟩, [38, 39]), (⟨some 41, .load 35 (.tmp 40), 35, none⟩, [40]), (⟨some 42, .call ⟨.value (.func 28), #[.tmp 37, .tmp 41], #[24, 35]⟩, 4, none⟩, [37, 41]), (⟨some 8, .assign (.tmp 42), 4, none⟩, [42])] 3 (Q .normal ds) σ w := mk_eq rfl
@[push_cast] theorem vr11_9 : vc Try.prog (.region r11_9) Q ds σ w = vcOps Try.prog [⟨some 43, .move (.tmp 8), 4, none⟩, ⟨some 44, .unOp .not 4 (.tmp 43), 4, none⟩] (Q .normal ds) σ w := mk_eq rfl
@[push_cast] theorem vr11_10 : vc Try.prog (.region r11_10) Q ds σ w = vcOps Try.prog [⟨some 4, .assign (.const (.bool false)), 4, none⟩] (Q .normal ds) σ w := mk_eq rfl
@[push_cast] theorem vr11_7 : vc Try.prog (.region r11_7) Q ds σ w = vcOps Try.prog [⟨some 35, .move (.tmp 7), 3, none⟩, ⟨some 36, .binOp .add 3 (.tmp 35) (.const (.int .i64 1)) 3, 3, none⟩, ⟨some 7, .assign (.tmp 36), 3, none⟩] (Q .normal ds) σ w := mk_eq rfl
@[push_cast] theorem vr11_11 : vc Try.prog (.region r11_11) Q ds σ w = vcOps Try.prog [⟨some 4, .assign (.const (.bool true)), 4, none⟩] (Q .normal ds) σ w := mk_eq rfl
/-! 24 columbary/columbarylaw13.alive (params #[], results #[(.tmp 0)], 77 slots) -/
def r24_0 : List VOp :=
  [⟨some 0, .assign (.const (.bool false)), 4, none⟩]
def r24_1 : List VOp :=
  [⟨some 10, .call ⟨.value (.func 54), #[], #[]⟩, 24, none⟩,
   ⟨some 11, .buildSlice 22 1 #[(0, (.const (.string { data := #[118] })))], 22, none⟩,
   ⟨some 12, .buildSlice 47 1 #[(0, (.const (.int .i64 7)))], 47, none⟩,
   ⟨some 13, .build 49 #[(0, (.const (.int .i64 4))), (1, (.tmp 11)), (2, (.tmp 12))], 49, none⟩,
   ⟨some 14, .call ⟨.value (.func 25), #[.tmp 10, .tmp 13], #[24, 49]⟩, 50, none⟩,
   ⟨some 9, .move (.tmp 14), 50, none⟩,
   ⟨some 15, .extract (.tmp 9) 0, 35, none⟩,
   ⟨some 16, .extract (.tmp 9) 1, 28, none⟩,
   ⟨some 1, .alloc 35, 0, none⟩,
   ⟨none, .store 35 (.tmp 1) (.tmp 15), 0, none⟩,
   ⟨some 2, .assign (.tmp 16), 28, none⟩]
def r24_2 : List VOp :=
  [⟨some 18, .call ⟨.value (.func 54), #[], #[]⟩, 24, none⟩,
   ⟨some 19, .buildSlice 22 1 #[(0, (.const (.string { data := #[118] })))], 22, none⟩,
   ⟨some 20, .buildSlice 47 1 #[(0, (.const (.int .i64 (-2))))], 47, none⟩,
   ⟨some 21, .build 49 #[(0, (.const (.int .i64 4))), (1, (.tmp 19)), (2, (.tmp 20))], 49, none⟩,
   ⟨some 22, .call ⟨.value (.func 25), #[.tmp 18, .tmp 21], #[24, 49]⟩, 50, none⟩,
   ⟨some 17, .move (.tmp 22), 50, none⟩,
   ⟨some 23, .extract (.tmp 17) 0, 35, none⟩,
   ⟨some 24, .extract (.tmp 17) 1, 28, none⟩,
   ⟨some 3, .alloc 35, 0, none⟩,
   ⟨none, .store 35 (.tmp 3) (.tmp 23), 0, none⟩,
   ⟨some 4, .assign (.tmp 24), 28, none⟩]
def r24_3 : List VOp :=
  [⟨some 26, .call ⟨.value (.func 54), #[], #[]⟩, 24, none⟩,
   ⟨some 27, .buildSlice 22 1 #[(0, (.const (.string { data := #[] })))], 22, none⟩,
   ⟨some 28, .buildSlice 47 1 #[(0, (.const (.int .i64 0)))], 47, none⟩,
   ⟨some 29, .build 49 #[(0, (.const (.int .i64 4))), (1, (.tmp 27)), (2, (.tmp 28))], 49, none⟩,
   ⟨some 30, .call ⟨.value (.func 25), #[.tmp 26, .tmp 29], #[24, 49]⟩, 50, none⟩,
   ⟨some 25, .move (.tmp 30), 50, none⟩,
   ⟨some 31, .extract (.tmp 25) 0, 35, none⟩,
   ⟨some 32, .extract (.tmp 25) 1, 28, none⟩,
   ⟨some 5, .alloc 35, 0, none⟩,
   ⟨none, .store 35 (.tmp 5) (.tmp 31), 0, none⟩,
   ⟨some 6, .assign (.tmp 32), 28, none⟩]
def r24_4 : List VOp :=
  [⟨some 34, .load 35 (.tmp 1), 35, none⟩,
   ⟨some 35, .load 35 (.tmp 3), 35, none⟩,
   ⟨some 36, .load 35 (.tmp 5), 35, none⟩,
   ⟨some 37, .buildSlice 25 3 #[(0, (.tmp 34)), (1, (.tmp 35)), (2, (.tmp 36))], 25, none⟩,
   ⟨some 38, .call ⟨.value (.func 31), #[.tmp 37], #[25]⟩, 29, none⟩,
   ⟨some 33, .move (.tmp 38), 29, none⟩,
   ⟨some 39, .extract (.tmp 33) 0, 25, none⟩,
   ⟨some 40, .extract (.tmp 33) 1, 28, none⟩,
   ⟨some 7, .assign (.tmp 39), 25, none⟩,
   ⟨some 8, .assign (.tmp 40), 28, none⟩]
def r24_5 : List VOp :=
  [⟨some 41, .move (.tmp 2), 28, none⟩,
   ⟨some 42, .binOp .eql 28 (.tmp 41) (.const (.int .i64 0)) 28, 4, none⟩,
   ⟨some 43, .move (.tmp 42), 4, none⟩,
   ⟨some 44, .move (.tmp 4), 28, some (43, true)⟩,
   ⟨some 45, .binOp .eql 28 (.tmp 44) (.const (.int .i64 0)) 28, 4, some (43, true)⟩,
   ⟨some 46, .pick (.tmp 43) (.tmp 45) (.const (.bool false)), 4, none⟩,
   ⟨some 47, .move (.tmp 46), 4, none⟩,
   ⟨some 48, .move (.tmp 6), 28, some (47, true)⟩,
   ⟨some 49, .binOp .eql 28 (.tmp 48) (.const (.int .i64 0)) 28, 4, some (47, true)⟩,
   ⟨some 50, .pick (.tmp 47) (.tmp 49) (.const (.bool false)), 4, none⟩,
   ⟨some 51, .move (.tmp 50), 4, none⟩,
   ⟨some 52, .move (.tmp 8), 28, some (51, true)⟩,
   ⟨some 53, .binOp .eql 28 (.tmp 52) (.const (.int .i64 0)) 28, 4, some (51, true)⟩,
   ⟨some 54, .pick (.tmp 51) (.tmp 53) (.const (.bool false)), 4, none⟩,
   ⟨some 55, .move (.tmp 54), 4, none⟩,
   ⟨some 56, .move (.tmp 7), 25, some (55, true)⟩,
   ⟨some 57, .call ⟨.builtin .len, #[.tmp 56], #[25]⟩, 3, some (55, true)⟩,
   ⟨some 58, .binOp .eql 3 (.tmp 57) (.const (.int .i64 2)) 3, 4, some (55, true)⟩,
   ⟨some 59, .pick (.tmp 55) (.tmp 58) (.const (.bool false)), 4, none⟩,
   ⟨some 60, .move (.tmp 59), 4, none⟩,
   ⟨some 61, .move (.tmp 7), 25, some (60, true)⟩,
   ⟨some 62, .indexAddr 25 (.tmp 61) (.const (.int .i64 1)), 0, some (60, true)⟩,
   ⟨some 63, .fieldAddr 35 (.tmp 62) 2, 0, some (60, true)⟩,
   ⟨some 64, .load 3 (.tmp 63), 3, some (60, true)⟩,
   ⟨some 65, .binOp .eql 3 (.tmp 64) (.const (.int .i64 2)) 3, 4, some (60, true)⟩,
   ⟨some 66, .pick (.tmp 60) (.tmp 65) (.const (.bool false)), 4, none⟩,
   ⟨some 67, .move (.tmp 66), 4, none⟩,
   ⟨some 68, .move (.tmp 7), 25, some (67, true)⟩,
   ⟨some 69, .indexAddr 25 (.tmp 68) (.const (.int .i64 1)), 0, some (67, true)⟩,
   ⟨some 70, .fieldAddr 35 (.tmp 69) 3, 0, some (67, true)⟩,
   ⟨some 71, .load 33 (.tmp 70), 33, some (67, true)⟩,
   ⟨some 72, .indexAddr 33 (.tmp 71) (.const (.int .i64 0)), 0, some (67, true)⟩,
   ⟨some 73, .load 64 (.tmp 72), 64, some (67, true)⟩,
   ⟨some 74, .build 64 #[(0, (.const (.int .i64 5))), (1, (.const (.int .i64 (-2)))), (2, (.const (.int .i64 7)))], 64, some (67, true)⟩,
   ⟨some 75, .binOp .eql 64 (.tmp 73) (.tmp 74) 64, 4, some (67, true)⟩,
   ⟨some 76, .pick (.tmp 67) (.tmp 75) (.const (.bool false)), 4, none⟩,
   ⟨some 0, .assign (.tmp 76), 4, none⟩]
def B24 : VC :=
  (.seq (.region r24_0) (.seq (.region r24_1) (.seq (.region r24_2) (.seq (.region r24_3) (.seq (.region r24_4) (.seq (.region r24_5) .ret))))))
theorem code24 : ∃ c, Try.f24.body = some c ∧ abs Try.f24.ntmps c = B24 := ⟨_, rfl, by kernel_rfl⟩
theorem hb24 : HasBody Try.prog 24 := hasBody_of Try.func24 (by kernel_rfl)
theorem res24 : Try.f24.results = #[(.tmp 0)] := rfl
theorem enter24 {w : World} {R : Value → World → Prop} (h : vc Try.prog B24 (retK Try.prog #[(.tmp 0)] R) [] (initEnv [] 0) w) : FnC Try.prog 24 #[] w R := by
  obtain ⟨c, h1, h2⟩ := code24
  exact hb24.fn (ret_of_vc mixed Try.func24 h1 (Nat.le_of_ble_eq_true rfl) B24 h2 h)
@[push_cast] theorem vr24_0 : vc Try.prog (.region r24_0) Q ds σ w = vcOps Try.prog [⟨some 0, .assign (.const (.bool false)), 4, none⟩] (Q .normal ds) σ w := mk_eq rfl
@[push_cast] theorem vr24_1 : vc Try.prog (.region r24_1) Q ds σ w = vcOps Try.prog [⟨some 10, .call ⟨.value (.func 54), #[], #[]⟩, 24, none⟩, ⟨some 11, .buildSlice 22 1 #[(0, (.const (.string { data := #[118] })))], 22, none⟩, ⟨some 12, .buildSlice 47 1 #[(0, (.const (.int .i64 7)))], 47, none⟩, ⟨some 13, .build 49 #[(0, (.const (.int .i64 4))), (1, (.tmp 11)), (2, (.tmp 12))], 49, none⟩, ⟨some 14, .call ⟨.value (.func 25), #[.tmp 10, .tmp 13], #[24, 49]⟩, 50, none⟩, ⟨some 9, .move (.tmp 14), 50, none⟩, ⟨some 15, .extract (.tmp 9) 0, 35, none⟩, ⟨some 16, .extract (.tmp 9) 1, 28, none⟩, ⟨some 1, .alloc 35, 0, none⟩, ⟨none, .store 35 (.tmp 1) (.tmp 15), 0, none⟩, ⟨some 2, .assign (.tmp 16), 28, none⟩] (Q .normal ds) σ w := mk_eq rfl
@[push_cast] theorem vr24_2 : vc Try.prog (.region r24_2) Q ds σ w = vcOps Try.prog [⟨some 18, .call ⟨.value (.func 54), #[], #[]⟩, 24, none⟩, ⟨some 19, .buildSlice 22 1 #[(0, (.const (.string { data := #[118] })))], 22, none⟩, ⟨some 20, .buildSlice 47 1 #[(0, (.const (.int .i64 (-2))))], 47, none⟩, ⟨some 21, .build 49 #[(0, (.const (.int .i64 4))), (1, (.tmp 19)), (2, (.tmp 20))], 49, none⟩, ⟨some 22, .call ⟨.value (.func 25), #[.tmp 18, .tmp 21], #[24, 49]⟩, 50, none⟩, ⟨some 17, .move (.tmp 22), 50, none⟩, ⟨some 23, .extract (.tmp 17) 0, 35, none⟩, ⟨some 24, .extract (.tmp 17) 1, 28, none⟩, ⟨some 3, .alloc 35, 0, none⟩, ⟨none, .store 35 (.tmp 3) (.tmp 23), 0, none⟩, ⟨some 4, .assign (.tmp 24), 28, none⟩] (Q .normal ds) σ w := mk_eq rfl
@[push_cast] theorem vr24_3 : vc Try.prog (.region r24_3) Q ds σ w = vcOps Try.prog [⟨some 26, .call ⟨.value (.func 54), #[], #[]⟩, 24, none⟩, ⟨some 27, .buildSlice 22 1 #[(0, (.const (.string { data := #[] })))], 22, none⟩, ⟨some 28, .buildSlice 47 1 #[(0, (.const (.int .i64 0)))], 47, none⟩, ⟨some 29, .build 49 #[(0, (.const (.int .i64 4))), (1, (.tmp 27)), (2, (.tmp 28))], 49, none⟩, ⟨some 30, .call ⟨.value (.func 25), #[.tmp 26, .tmp 29], #[24, 49]⟩, 50, none⟩, ⟨some 25, .move (.tmp 30), 50, none⟩, ⟨some 31, .extract (.tmp 25) 0, 35, none⟩, ⟨some 32, .extract (.tmp 25) 1, 28, none⟩, ⟨some 5, .alloc 35, 0, none⟩, ⟨none, .store 35 (.tmp 5) (.tmp 31), 0, none⟩, ⟨some 6, .assign (.tmp 32), 28, none⟩] (Q .normal ds) σ w := mk_eq rfl
@[push_cast] theorem vr24_4 : vc Try.prog (.region r24_4) Q ds σ w = vcOps Try.prog [⟨some 34, .load 35 (.tmp 1), 35, none⟩, ⟨some 35, .load 35 (.tmp 3), 35, none⟩, ⟨some 36, .load 35 (.tmp 5), 35, none⟩, ⟨some 37, .buildSlice 25 3 #[(0, (.tmp 34)), (1, (.tmp 35)), (2, (.tmp 36))], 25, none⟩, ⟨some 38, .call ⟨.value (.func 31), #[.tmp 37], #[25]⟩, 29, none⟩, ⟨some 33, .move (.tmp 38), 29, none⟩, ⟨some 39, .extract (.tmp 33) 0, 25, none⟩, ⟨some 40, .extract (.tmp 33) 1, 28, none⟩, ⟨some 7, .assign (.tmp 39), 25, none⟩, ⟨some 8, .assign (.tmp 40), 28, none⟩] (Q .normal ds) σ w := mk_eq rfl
@[push_cast] theorem vr24_5 : vc Try.prog (.region r24_5) Q ds σ w = vcOps Try.prog [⟨some 41, .move (.tmp 2), 28, none⟩, ⟨some 42, .binOp .eql 28 (.tmp 41) (.const (.int .i64 0)) 28, 4, none⟩, ⟨some 43, .move (.tmp 42), 4, none⟩, ⟨some 44, .move (.tmp 4), 28, some (43, true)⟩, ⟨some 45, .binOp .eql 28 (.tmp 44) (.const (.int .i64 0)) 28, 4, some (43, true)⟩, ⟨some 46, .pick (.tmp 43) (.tmp 45) (.const (.bool false)), 4, none⟩, ⟨some 47, .move (.tmp 46), 4, none⟩, ⟨some 48, .move (.tmp 6), 28, some (47, true)⟩, ⟨some 49, .binOp .eql 28 (.tmp 48) (.const (.int .i64 0)) 28, 4, some (47, true)⟩, ⟨some 50, .pick (.tmp 47) (.tmp 49) (.const (.bool false)), 4, none⟩, ⟨some 51, .move (.tmp 50), 4, none⟩, ⟨some 52, .move (.tmp 8), 28, some (51, true)⟩, ⟨some 53, .binOp .eql 28 (.tmp 52) (.const (.int .i64 0)) 28, 4, some (51, true)⟩, ⟨some 54, .pick (.tmp 51) (.tmp 53) (.const (.bool false)), 4, none⟩, ⟨some 55, .move (.tmp 54), 4, none⟩, ⟨some 56, .move (.tmp 7), 25, some (55, true)⟩, ⟨some 57, .call ⟨.builtin .len, #[.tmp 56], #[25]⟩, 3, some (55, true)⟩, ⟨some 58, .binOp .eql 3 (.tmp 57) (.const (.int .i64 2)) 3, 4, some (55, true)⟩, ⟨some 59, .pick (.tmp 55) (.tmp 58) (.const (.bool false)), 4, none⟩, ⟨some 60, .move (.tmp 59), 4, none⟩, ⟨some 61, .move (.tmp 7), 25, some (60, true)⟩, ⟨some 62, .indexAddr 25 (.tmp 61) (.const (.int .i64 1)), 0, some (60, true)⟩, ⟨some 63, .fieldAddr 35 (.tmp 62) 2, 0, some (60, true)⟩, ⟨some 64, .load 3 (.tmp 63), 3, some (60, true)⟩, ⟨some 65, .binOp .eql 3 (.tmp 64) (.const (.int .i64 2)) 3, 4, some (60, true)⟩, ⟨some 66, .pick (.tmp 60) (.tmp 65) (.const (.bool false)), 4, none⟩, ⟨some 67, .move (.tmp 66), 4, none⟩, ⟨some 68, .move (.tmp 7), 25, some (67, true)⟩, ⟨some 69, .indexAddr 25 (.tmp 68) (.const (.int .i64 1)), 0, some (67, true)⟩, ⟨some 70, .fieldAddr 35 (.tmp 69) 3, 0, some (67, true)⟩, ⟨some 71, .load 33 (.tmp 70), 33, some (67, true)⟩, ⟨some 72, .indexAddr 33 (.tmp 71) (.const (.int .i64 0)), 0, some (67, true)⟩, ⟨some 73, .load 64 (.tmp 72), 64, some (67, true)⟩, ⟨some 74, .build 64 #[(0, (.const (.int .i64 5))), (1, (.const (.int .i64 (-2)))), (2, (.const (.int .i64 7)))], 64, some (67, true)⟩, ⟨some 75, .binOp .eql 64 (.tmp 73) (.tmp 74) 64, 4, some (67, true)⟩, ⟨some 76, .pick (.tmp 67) (.tmp 75) (.const (.bool false)), 4, none⟩, ⟨some 0, .assign (.tmp 76), 4, none⟩] (Q .normal ds) σ w := mk_eq rfl
@[push_cast] theorem bsl22_1_CodesWL {K : Value → World → Prop} {w : World} (x0 : ByteArray) : vBuildSlice Try.prog 22 1 #[(0, (.string x0))] K w = K (.slice (some ⟨w.heap.size, 0, none⟩) 1 1) (w.alloc (.cells #[(.string x0)] 9)) :=
  vBuildSlice_ok Try.underlying22 ti9 (by kernel_rfl) (by decide)
@[push_cast] theorem bsl25_1_CodesWL {K : Value → World → Prop} {w : World} (x00 x01 x02 x03 : Value) : vBuildSlice Try.prog 25 1 #[(0, (.agg #[x00, x01, x02, x03]))] K w = K (.slice (some ⟨w.heap.size, 0, none⟩) 1 1) (w.alloc (.cells #[x00, x01, x02, x03] 35)) :=
  vBuildSlice_ok Try.underlying25 ti35 (by kernel_rfl) (by decide)
@[push_cast] theorem bsl25_3_CodesWL {K : Value → World → Prop} {w : World} (x00 x01 x02 x03 : Value) (x10 x11 x12 x13 : Value) (x20 x21 x22 x23 : Value) : vBuildSlice Try.prog 25 3 #[(0, (.agg #[x00, x01, x02, x03])), (1, (.agg #[x10, x11, x12, x13])), (2, (.agg #[x20, x21, x22, x23]))] K w = K (.slice (some ⟨w.heap.size, 0, none⟩) 3 3) (w.alloc (.cells #[x00, x01, x02, x03, x10, x11, x12, x13, x20, x21, x22, x23] 35)) :=
  vBuildSlice_ok Try.underlying25 ti35 (by kernel_rfl) (by decide)
@[push_cast] theorem bsl47_1_CodesWL {K : Value → World → Prop} {w : World} (x0 : Int) : vBuildSlice Try.prog 47 1 #[(0, (.int .i64 x0))] K w = K (.slice (some ⟨w.heap.size, 0, none⟩) 1 1) (w.alloc (.cells #[(.int .i64 x0)] 3)) :=
  vBuildSlice_ok Try.underlying47 ti3 (by kernel_rfl) (by decide)
@[push_cast] theorem bld49_0_1_2_CodesWL {K : Value → World → Prop} {w : World} (x0 : Int) (x1o : Option Addr) (x1n x1c : Nat) (x2o : Option Addr) (x2n x2c : Nat) : vBuild Try.prog 49 #[(0, (.int .i64 x0)), (1, (.slice x1o x1n x1c)), (2, (.slice x2o x2n x2c))] K w = K (.agg #[(.int .i64 x0), (.slice x1o x1n x1c), (.slice x2o x2n x2c)]) w :=
  vBuild_ok (by kernel_rfl)
@[push_cast] theorem bld64__CodesWL {K : Value → World → Prop} {w : World}  : vBuild Try.prog 64 #[] K w = K (.agg #[(.int .i64 0), (.int .i64 0), (.int .i64 0)]) w :=
  vBuild_ok (by kernel_rfl)
@[push_cast] theorem bld64_0_1_2_CodesWL {K : Value → World → Prop} {w : World} (x0 : Int) (x1 : Int) (x2 : Int) : vBuild Try.prog 64 #[(0, (.int .i64 x0)), (1, (.int .i64 x1)), (2, (.int .i64 x2))] K w = K (.agg #[(.int .i64 x0), (.int .i64 x1), (.int .i64 x2)]) w :=
  vBuild_ok (by kernel_rfl)
end Go.Proofs.Ythihbgpaoldbjaa
end
section
set_option linter.unusedSimpArgs false
namespace Go.Proofs.Ythihbgpaoldbjaa
open Go.Vc Go.Key
set_option maxRecDepth 100000
theorem box2 (w : World) (a b : Value) (e : TypeId) : Later w (w.alloc (.cells #[a, b] e)) ∧ (w.alloc (.cells #[a, b] e)).heap.size = w.heap.size + 1 ∧ ∀ w', Later (w.alloc (.cells #[a, b] e)) w' → w'.cell? ⟨w.heap.size, 0, none⟩ = some a ∧ w'.cell? ⟨w.heap.size, 1, none⟩ = some b ∧ cellsAt w' ⟨w.heap.size, 0, none⟩ 2 = some [a, b] := by
  refine ⟨later_alloc _ _, World.size_alloc _ _, fun w' hl => ?_⟩
  have := (Blk.new w #[a, b] e).chg (Chg.of_later (ks := []) hl) (by simp)
  exact ⟨this.cell 0, this.cell 1, Blk.cellsAt (l := [a, b]) this⟩
/-- Texts, whose lengths are numbers. -/
def StZ (l : List ByteArray) : Prop := ∀ s ∈ l, s.size ≤ 9223372036854775807
structure ScIs (w : World) (dv mv : Value) (d m : List ByteArray) : Prop where
  dS : StS w dv d
  mS : StS w mv m
  dZ : StZ d
  mZ : StZ m
theorem ScIs.later {w w' : World} {dv mv : Value} {d m : List ByteArray} (h : ScIs w dv mv d m) (hl : Later w w') : ScIs w' dv mv d m := ⟨Sl.later h.dS hl, Sl.later h.mS hl, h.dZ, h.mZ⟩
def scV (dv mv : Value) : Value := .agg #[dv, mv]
def ScOk (d m : List ByteArray) : Prop := (∀ x ∈ d ++ m, NmOk x) ∧ (d ++ m).Pairwise (fun x y => x ≠ y) ∧ 1 ≤ d.length ∧ d.length ≤ 6 ∧ m.length ≤ 4
instance (d m : List ByteArray) : Decidable (ScOk d m) := inferInstanceAs (Decidable ((∀ x ∈ d ++ m, NmOk x) ∧ (d ++ m).Pairwise (fun x y => x ≠ y) ∧ 1 ≤ d.length ∧ d.length ≤ 6 ∧ m.length ≤ 4))
theorem StS.n {w : World} {v : Value} {l : List ByteArray} (h : StS w v l) : SlN w 1 v l.length (l.map Value.string) := by
  have := h
  unfold StS Sl at this
  rwa [List.length_map] at this
/-- Texts behind texts of the call's own. -/
theorem vAppend_ss {w : World} {K : Value → World → Prop} {ty : TypeId} {B : Nat} {v x : Value} {l r : List ByteArray} (hown : OwnS w B v l) (hx : StS w x r) (h63 : l.length + r.length ≤ 100000000) (hbase : B ≤ w.heap.size)
    (hK : ∀ v' w', OwnS w' B v' (l ++ r) → w.grownBy w' v.ownBlock → (v'.ownBlock = v.ownBlock ∨ v'.ownBlock = some w.heap.size) → K v' w') : vAppend Try.prog #[22, 22] ty #[v, x] K w := by
  refine vAppend_at Try.underlying22 ti9 rfl (by decide) hown hx.n ?_ (by unfold maxLen; omega) (by omega) hbase ?_
  · intro u hu
    obtain ⟨p, hp, rfl⟩ := List.mem_map.1 hu
    rfl
  · intro v' w' ho hg hs
    refine hK v' w' ?_ hg hs
    unfold OwnS
    simpa using ho
theorem ok_step {L : List ByteArray} {i : Nat} (hi : i < L.length) (hd : (L.take i).Pairwise (fun x y => x ≠ y)) (hn : ∀ j (h : j < L.length), j < i → L[j] ≠ L[i]) : (L.take (i + 1)).Pairwise (fun x y => x ≠ y) := by
  rw [take_snoc L i hi, List.pairwise_append]
  refine ⟨hd, by simp, fun a ha b hb => ?_⟩
  rw [List.mem_singleton.1 hb]
  obtain ⟨j, hj, rfl⟩ := List.getElem_of_mem ha
  rw [List.length_take] at hj
  rw [List.getElem_take]
  exact hn j (by omega) (by omega)
theorem dschema_c (dv mv : Value) (d m : List ByteArray) (w : World) (h : ScIs w dv mv d m) (fd : d.length ≤ 1000) (fm : m.length ≤ 1000) : FnC Try.prog 39 #[scV dv mv] w fun r w' => r = .bool (decide (ScOk d m)) ∧ Later w w' := by
  unfold scV
  obtain ⟨od, cd, hdv⟩ := Sl.slice h.dS
  obtain ⟨om, cm, hmv⟩ := Sl.slice h.mS
  rw [List.length_map] at hdv hmv
  refine enter39 _ ?_
  unfold B39
  obtain ⟨l1, s1, F⟩ := box2 w dv mv 24
  have eca : (Value.agg #[dv, mv]).cells = #[dv, mv] := rfl
  repeat' (first | (simp (disch := omega) only [push_cast, ↓reduceIte, zA, zG, zB, zH, zI, zC, zJ, zK, zL, zD, zE, zF, zM, zN, zO, zP, zQ, reduceCtorEq, not_true_eq_false, not_false_eq_true, eca, s1]) | (first | refine vIfE_of ?_ ?_ | refine vIfD_of ?_ ?_ | refine vIfQ_of ?_ ?_ | refine vIfV_of ?_ ?_) <;> intro _ | refine And.intro (by omega) ?_ | fail)
  generalize w.alloc (.cells #[dv, mv] 24) = w1 at *
  obtain ⟨a0, a1, _⟩ := F w1 (Later.refl _)
  have h1 := h.later l1
  refine drawn_k 6 ?_
  repeat' (first | (simp (disch := omega) only [push_cast, ↓reduceIte, zA, zG, zB, zH, zI, zC, zJ, zK, zL, zD, zE, zF, zM, zN, zO, zP, zQ, reduceCtorEq, not_true_eq_false, not_false_eq_true, a0, a1, addr_add_eq, Nat.zero_add]) | (first | refine vIfE_of ?_ ?_ | refine vIfD_of ?_ ?_ | refine vIfQ_of ?_ ?_ | refine vIfV_of ?_ ?_) <;> intro _ | refine And.intro (by omega) ?_ | fail)
  refine nB_of _ (Lit0 w1.heap.size) (stb_lit0 _ _) (fun w' hl => ?_) ?_
  · repeat' (first | (simp (disch := omega) only [push_cast, ↓reduceIte, zA, zG, zB, zH, zI, zC, zJ, zK, zL, zD, zE, zF, zM, zN, zO, zP, zQ, reduceCtorEq, not_true_eq_false, not_false_eq_true]) | (first | refine vIfE_of ?_ ?_ | refine vIfD_of ?_ ?_ | refine vIfQ_of ?_ ?_ | refine vIfV_of ?_ ?_) <;> intro _ | refine And.intro (by omega) ?_ | fail)
    exact ⟨later_alloc _ _, ⟨_, rfl⟩, own_lit w' [] _ 1 0 rfl (by unfold maxLen; omega) hl.size⟩
  repeat' (first | (simp (disch := omega) only [push_cast, ↓reduceIte, zA, zG, zB, zH, zI, zC, zJ, zK, zL, zD, zE, zF, zM, zN, zO, zP, zQ, reduceCtorEq, not_true_eq_false, not_false_eq_true, a0, a1, addr_add_eq, Nat.zero_add]) | (first | refine vIfE_of ?_ ?_ | refine vIfD_of ?_ ?_ | refine vIfQ_of ?_ ?_ | refine vIfV_of ?_ ?_) <;> intro _ | refine And.intro (by omega) ?_ | fail)
  refine nR_app (fun v w' => OwnS w' w1.heap.size v d) (stb_ownS _ _ _) (fun σ' w' hl hp => ?_) ?_
  · obtain ⟨hp26, hp28, _⟩ := hp
    obtain ⟨⟨lb, h26⟩, h26o⟩ : Lit0 w1.heap.size (σ' 7) w' := hp26
    have h28 : σ' 9 = dv := hp28
    have hsn := (h1.later hl).dS.n
    rw [h26] at h26o
    repeat' (first | (simp (disch := omega) only [push_cast, ↓reduceIte, zA, zG, zB, zH, zI, zC, zJ, zK, zL, zD, zE, zF, zM, zN, zO, zP, zQ, reduceCtorEq, not_true_eq_false, not_false_eq_true, h28, h26]) | (first | refine vIfE_of ?_ ?_ | refine vIfD_of ?_ ?_ | refine vIfQ_of ?_ ?_ | refine vIfV_of ?_ ?_) <;> intro _ | refine And.intro (by omega) ?_ | fail)
    refine vAppend_fresh Try.underlying22 ti9 rfl (by decide) hsn (by unfold maxLen; omega) (by omega) ?_
    intro v' w'' h0 h1
    rcases Nat.eq_zero_or_pos d.length with hz | hz
    · obtain ⟨rfl, rfl⟩ := h0 hz
      have : d = [] := List.length_eq_zero_iff.1 hz
      rw [this]
      exact ⟨Later.refl _, h26o⟩
    · obtain ⟨ho, hll⟩ := h1 hz
      exact ⟨hll, own_base ho hl.size⟩
  repeat' (first | (simp (disch := omega) only [push_cast, ↓reduceIte, zA, zG, zB, zH, zI, zC, zJ, zK, zL, zD, zE, zF, zM, zN, zO, zP, zQ, reduceCtorEq, not_true_eq_false, not_false_eq_true, a0, a1, addr_add_eq, Nat.zero_add]) | (first | refine vIfE_of ?_ ?_ | refine vIfD_of ?_ ?_ | refine vIfQ_of ?_ ?_ | refine vIfV_of ?_ ?_) <;> intro _ | refine And.intro (by omega) ?_ | fail)
  rintro w2 l2 X hX _ _
  refine vAppend_ss hX (h1.later l2).mS (by omega) l2.size ?_
  intro v3 w3 ho3 hg3 _
  have l13 := l2.appended hX (Nat.le_refl _) hg3
  have hL := Sl.of_own ho3
  have hLn : (d ++ m).length = d.length + m.length := List.length_append
  have hZ : StZ (d ++ m) := fun s hs => by
    rcases List.mem_append.1 hs with hs | hs
    · exact h.dZ s hs
    · exact h.mZ s hs
  have hL : StS w3 v3 (d ++ m) := hL
  have hOk : ScOk d m = ((∀ x ∈ d ++ m, NmOk x) ∧ (d ++ m).Pairwise (fun x y => x ≠ y) ∧ 1 ≤ d.length ∧ d.length ≤ 6 ∧ m.length ≤ 4) := rfl
  generalize d ++ m = L at *
  obtain ⟨o3, c3, rfl⟩ := Sl.slice hL
  rw [List.length_map] at hL ⊢
  clear hX ho3 hg3
  repeat' (first | (simp (disch := omega) only [push_cast, ↓reduceIte, zA, zG, zB, zH, zI, zC, zJ, zK, zL, zD, zE, zF, zM, zN, zO, zP, zQ, reduceCtorEq, not_true_eq_false, not_false_eq_true]) | (first | refine vIfE_of ?_ ?_ | refine vIfD_of ?_ ?_ | refine vIfQ_of ?_ ?_ | refine vIfV_of ?_ ?_) <;> intro _ | refine And.intro (by omega) ?_ | refine drawn_q ?_ | fail)
  refine vc_loop W39_0 (fun i : Nat => [(2, .bool false), (4, .int .i64 (i : Int))])
    (fun i w' => i ≤ L.length ∧ Later w3 w' ∧ (∀ j (h : j < L.length), j < i → NmOk L[j]) ∧ (L.take i).Pairwise (fun x y => x ≠ y)) (fun i => L.length - i) 0 (by decide) ?_ ?_ ?_
  · simp (disch := omega) only [push_cast, ↓reduceIte, zA, zG, zB, zH, zI, zC, zJ, zK, zL, zD, zE, zF, zM, zN, zO, zP, zQ, reduceCtorEq, not_true_eq_false, not_false_eq_true]
  · exact ⟨by omega, Later.refl _, fun j _ hj => absurd hj (Nat.not_lt_zero _), by simp⟩
  rintro i uu w4 ⟨hi, l4, hA, hP⟩
  have l04 := (l1.trans l13).trans l4
  by_cases hlt : i < L.length
  · cases o3 with
    | none => have := (Sl.len hL).2.2.2 rfl; simp at this; rw [this.1] at hlt; simp at hlt
    | some a =>
    have hc := StS.atS (Sl.later hL l4) hlt
    repeat' (first | (simp (disch := omega) only [push_cast, ↓reduceIte, zA, zG, zB, zH, zI, zC, zJ, zK, zL, zD, zE, zF, zM, zN, zO, zP, zQ, reduceCtorEq, not_true_eq_false, not_false_eq_true, hc]) | (first | refine vIfE_of ?_ ?_ | refine vIfD_of ?_ ?_ | refine vIfQ_of ?_ ?_ | refine vIfV_of ?_ ?_) <;> intro _ | refine And.intro (by omega) ?_ | refine drawn_q ?_ | fail)
    refine (dname_c L[i] w4 (hZ _ (List.getElem_mem _))).mono ?_
    rintro _ w5 ⟨rfl, l5⟩
    by_cases hn : NmOk L[i]
    · rw [decide_eq_true hn]
      repeat' (first | (simp (disch := omega) only [push_cast, ↓reduceIte, zA, zG, zB, zH, zI, zC, zJ, zK, zL, zD, zE, zF, zM, zN, zO, zP, zQ, reduceCtorEq, not_true_eq_false, not_false_eq_true]) | (first | refine vIfE_of ?_ ?_ | refine vIfD_of ?_ ?_ | refine vIfQ_of ?_ ?_ | refine vIfV_of ?_ ?_) <;> intro _ | refine And.intro (by omega) ?_ | refine drawn_q ?_ | fail)
      refine vc_loop W39_1 (fun i : Nat => [(2, .bool false), (6, .int .i64 (i : Int))])
        (fun k w' => k ≤ i ∧ Later w5 w' ∧ (∀ j (h : j < L.length), j < k → L[j] ≠ L[i])) (fun k => i - k) 0 (by decide) ?_ ?_ ?_
      · simp (disch := omega) only [push_cast, ↓reduceIte, zA, zG, zB, zH, zI, zC, zJ, zK, zL, zD, zE, zF, zM, zN, zO, zP, zQ, reduceCtorEq, not_true_eq_false, not_false_eq_true]
      · exact ⟨by omega, Later.refl _, fun j _ hj => absurd hj (Nat.not_lt_zero _)⟩
      rintro k uu2 w6 ⟨hk, l6, hB⟩
      have l46 := l5.trans l6
      by_cases hki : k < i
      · have c1 := StS.atS (Sl.later hL (l4.trans l46)) (show k < L.length by omega)
        have c2 := StS.atS (Sl.later hL (l4.trans l46)) hlt
        by_cases he : L[k] = L[i]
        · have hno : decide (ScOk d m) = false := decide_eq_false fun h => by
            rw [hOk] at h
            exact List.pairwise_iff_getElem.1 h.2.1 k i (by omega) hlt hki he
          repeat' (first | (simp (disch := omega) only [push_cast, ↓reduceIte, zA, zG, zB, zH, zI, zC, zJ, zK, zL, zD, zE, zF, zM, zN, zO, zP, zQ, reduceCtorEq, not_true_eq_false, not_false_eq_true, c1, c2, he, decide_true]) | (first | refine vIfE_of ?_ ?_ | refine vIfD_of ?_ ?_ | refine vIfQ_of ?_ ?_ | refine vIfV_of ?_ ?_) <;> intro _ | refine And.intro (by omega) ?_ | refine drawn_q ?_ | fail)
          intro w7 l7
          repeat' (first | (simp (disch := omega) only [push_cast, ↓reduceIte, zA, zG, zB, zH, zI, zC, zJ, zK, zL, zD, zE, zF, zM, zN, zO, zP, zQ, reduceCtorEq, not_true_eq_false, not_false_eq_true]) | (first | refine vIfE_of ?_ ?_ | refine vIfD_of ?_ ?_ | refine vIfQ_of ?_ ?_ | refine vIfV_of ?_ ?_) <;> intro _ | refine And.intro (by omega) ?_ | refine drawn_q ?_ | fail)
          first | exact ⟨by rw [hno], ((l04.trans l46).trans l7)⟩ | exact ((l04.trans l46).trans l7)
        · repeat' (first | (simp (disch := omega) only [push_cast, ↓reduceIte, zA, zG, zB, zH, zI, zC, zJ, zK, zL, zD, zE, zF, zM, zN, zO, zP, zQ, reduceCtorEq, not_true_eq_false, not_false_eq_true, c1, c2, he, decide_false]) | (first | refine vIfE_of ?_ ?_ | refine vIfD_of ?_ ?_ | refine vIfQ_of ?_ ?_ | refine vIfV_of ?_ ?_) <;> intro _ | refine And.intro (by omega) ?_ | refine drawn_q ?_ | fail)
          intro w7 l7
          repeat' (first | (simp (disch := omega) only [push_cast, ↓reduceIte, zA, zG, zB, zH, zI, zC, zJ, zK, zL, zD, zE, zF, zM, zN, zO, zP, zQ, reduceCtorEq, not_true_eq_false, not_false_eq_true]) | (first | refine vIfE_of ?_ ?_ | refine vIfD_of ?_ ?_ | refine vIfQ_of ?_ ?_ | refine vIfV_of ?_ ?_) <;> intro _ | refine And.intro (by omega) ?_ | refine drawn_q ?_ | fail)
          refine ⟨rfl, k + 1, by simp (disch := omega) only [push_cast, ↓reduceIte, zA, zG, zB, zH, zI, zC, zJ, zK, zL, zD, zE, zF, zM, zN, zO, zP, zQ, reduceCtorEq, not_true_eq_false, not_false_eq_true], ⟨by omega, l6.trans l7, fun j hj hjk => ?_⟩, by dsimp only; omega⟩
          by_cases h : j < k
          · exact hB j hj h
          · have : j = k := by omega
            subst this
            exact he
      · have hki' : k = i := by omega
        subst hki'
        repeat' (first | (simp (disch := omega) only [push_cast, ↓reduceIte, zA, zG, zB, zH, zI, zC, zJ, zK, zL, zD, zE, zF, zM, zN, zO, zP, zQ, reduceCtorEq, not_true_eq_false, not_false_eq_true]) | (first | refine vIfE_of ?_ ?_ | refine vIfD_of ?_ ?_ | refine vIfQ_of ?_ ?_ | refine vIfV_of ?_ ?_) <;> intro _ | refine And.intro (by omega) ?_ | refine drawn_q ?_ | fail)
        refine ⟨rfl, k + 1, by simp (disch := omega) only [push_cast, ↓reduceIte, zA, zG, zB, zH, zI, zC, zJ, zK, zL, zD, zE, zF, zM, zN, zO, zP, zQ, reduceCtorEq, not_true_eq_false, not_false_eq_true], ⟨by omega, l4.trans l46, fun j hj hjk => ?_, ok_step hlt hP hB⟩, by dsimp only; omega⟩
        by_cases h : j < k
        · exact hA j hj h
        · have : j = k := by omega
          subst this
          exact hn
    · have hno : decide (ScOk d m) = false := decide_eq_false fun h => by
        rw [hOk] at h
        exact hn (h.1 _ (List.getElem_mem _))
      rw [decide_eq_false hn]
      repeat' (first | (simp (disch := omega) only [push_cast, ↓reduceIte, zA, zG, zB, zH, zI, zC, zJ, zK, zL, zD, zE, zF, zM, zN, zO, zP, zQ, reduceCtorEq, not_true_eq_false, not_false_eq_true]) | (first | refine vIfE_of ?_ ?_ | refine vIfD_of ?_ ?_ | refine vIfQ_of ?_ ?_ | refine vIfV_of ?_ ?_) <;> intro _ | refine And.intro (by omega) ?_ | refine drawn_q ?_ | fail)
      first | exact ⟨by rw [hno], (l04.trans l5)⟩ | exact (l04.trans l5)
  · have hd : decide (ScOk d m) = decide (1 ≤ d.length ∧ d.length ≤ 6 ∧ m.length ≤ 4) := by
      refine decide_eq_decide.2 ?_
      rw [hOk]
      refine ⟨fun h => h.2.2, fun h => ⟨fun x hx => ?_, ?_, h⟩⟩
      · obtain ⟨j, hj, rfl⟩ := List.getElem_of_mem hx
        exact hA j hj (by omega)
      · rw [List.take_of_length_le (by omega)] at hP
        exact hP
    obtain ⟨a0, a1, _⟩ := F w4 (l13.trans l4)
    rw [hdv] at a0
    rw [hmv] at a1
    rw [hd]
    by_cases h1 : 1 ≤ d.length
    · by_cases h2 : d.length ≤ 6
      · by_cases h3 : m.length ≤ 4
        · repeat' (first | (simp (disch := omega) only [push_cast, ↓reduceIte, zA, zG, zB, zH, zI, zC, zJ, zK, zL, zD, zE, zF, zM, zN, zO, zP, zQ, reduceCtorEq, not_true_eq_false, not_false_eq_true, a0, a1, addr_add_eq, Nat.zero_add]) | (first | refine vIfE_of ?_ ?_ | refine vIfD_of ?_ ?_ | refine vIfQ_of ?_ ?_ | refine vIfV_of ?_ ?_) <;> intro _ | refine And.intro (by omega) ?_ | refine drawn_q ?_ | fail)
          first | exact ⟨congrArg Value.bool ((decide_eq_true (by omega)).trans (decide_eq_true (by omega)).symm), l04⟩ | exact l04
        · repeat' (first | (simp (disch := omega) only [push_cast, ↓reduceIte, zA, zG, zB, zH, zI, zC, zJ, zK, zL, zD, zE, zF, zM, zN, zO, zP, zQ, reduceCtorEq, not_true_eq_false, not_false_eq_true, a0, a1, addr_add_eq, Nat.zero_add]) | (first | refine vIfE_of ?_ ?_ | refine vIfD_of ?_ ?_ | refine vIfQ_of ?_ ?_ | refine vIfV_of ?_ ?_) <;> intro _ | refine And.intro (by omega) ?_ | refine drawn_q ?_ | fail)
          first | exact ⟨congrArg Value.bool ((decide_eq_false (by omega)).trans (decide_eq_false (by omega)).symm), l04⟩ | exact l04
      · repeat' (first | (simp (disch := omega) only [push_cast, ↓reduceIte, zA, zG, zB, zH, zI, zC, zJ, zK, zL, zD, zE, zF, zM, zN, zO, zP, zQ, reduceCtorEq, not_true_eq_false, not_false_eq_true, a0, a1, addr_add_eq, Nat.zero_add]) | (first | refine vIfE_of ?_ ?_ | refine vIfD_of ?_ ?_ | refine vIfQ_of ?_ ?_ | refine vIfV_of ?_ ?_) <;> intro _ | refine And.intro (by omega) ?_ | refine drawn_q ?_ | fail)
        first | exact ⟨congrArg Value.bool ((decide_eq_false (by omega)).trans (decide_eq_false (by omega)).symm), congrArg Value.bool (decide_eq_false (by omega)).symm, l04⟩ | exact ⟨congrArg Value.bool (decide_eq_false (by omega)).symm, l04⟩ | exact l04
    · repeat' (first | (simp (disch := omega) only [push_cast, ↓reduceIte, zA, zG, zB, zH, zI, zC, zJ, zK, zL, zD, zE, zF, zM, zN, zO, zP, zQ, reduceCtorEq, not_true_eq_false, not_false_eq_true, a0, a1, addr_add_eq, Nat.zero_add]) | (first | refine vIfE_of ?_ ?_ | refine vIfD_of ?_ ?_ | refine vIfQ_of ?_ ?_ | refine vIfV_of ?_ ?_) <;> intro _ | refine And.intro (by omega) ?_ | refine drawn_q ?_ | fail)
      first | exact ⟨congrArg Value.bool ((decide_eq_false (by omega)).trans (decide_eq_false (by omega)).symm), l04⟩ | exact ⟨congrArg Value.bool (decide_eq_false (by omega)).symm, l04⟩ | trace_state
/-- A right row. -/
def RtOk (nd nm : Nat) (e : El) : Prop := e.d.length = nd ∧ e.a.length = nm ∧ (∀ s ∈ e.d, VlOk s) ∧ (∀ a ∈ e.a, ARt a) ∧ 0 ≤ e.t ∧ e.t ≤ 1099511627776 ∧ 1 ≤ e.n ∧ e.n ≤ 1048576
instance (nd nm : Nat) (e : El) : Decidable (RtOk nd nm e) := inferInstanceAs (Decidable (e.d.length = nd ∧ e.a.length = nm ∧ (∀ s ∈ e.d, VlOk s) ∧ (∀ a ∈ e.a, ARt a) ∧ 0 ≤ e.t ∧ e.t ≤ 1099511627776 ∧ 1 ≤ e.n ∧ e.n ≤ 1048576))
/-- A schema and a row that came as values: their boxes. -/
theorem boxSR (w : World) (dv mv : Value) (y : El) : Later w ((w.alloc (.cells #[dv, mv] 24)).alloc (.cells #[.int .i64 y.t, y.dv, .int .i64 y.n, y.av] 35)) ∧ ((w.alloc (.cells #[dv, mv] 24)).alloc (.cells #[.int .i64 y.t, y.dv, .int .i64 y.n, y.av] 35)).heap.size = w.heap.size + 2 ∧
    ∀ w', Later ((w.alloc (.cells #[dv, mv] 24)).alloc (.cells #[.int .i64 y.t, y.dv, .int .i64 y.n, y.av] 35)) w' →
      w'.cell? ⟨w.heap.size, 0, none⟩ = some dv ∧ w'.cell? ⟨w.heap.size, 1, none⟩ = some mv ∧ cellsAt w' ⟨w.heap.size, 0, none⟩ 2 = some [dv, mv] ∧
      w'.cell? ⟨w.heap.size + 1, 0, none⟩ = some (.int .i64 y.t) ∧ w'.cell? ⟨w.heap.size + 1, 1, none⟩ = some y.dv ∧ w'.cell? ⟨w.heap.size + 1, 2, none⟩ = some (.int .i64 y.n) ∧ w'.cell? ⟨w.heap.size + 1, 3, none⟩ = some y.av ∧ cellsAt w' ⟨w.heap.size + 1, 0, none⟩ 4 = some (elC y) := by
  obtain ⟨l1, s1, F⟩ := box2 w dv mv 24
  generalize w.alloc (.cells #[dv, mv] 24) = w1 at *
  have l2 := later_alloc w1 (.cells #[.int .i64 y.t, y.dv, .int .i64 y.n, y.av] 35)
  have B2 := Blk.new w1 #[.int .i64 y.t, y.dv, .int .i64 y.n, y.av] 35
  have s2 : (w1.alloc (.cells #[.int .i64 y.t, y.dv, .int .i64 y.n, y.av] 35)).heap.size = w1.heap.size + 1 := World.size_alloc w1 _
  generalize w1.alloc (.cells #[.int .i64 y.t, y.dv, .int .i64 y.n, y.av] 35) = w2 at *
  rw [s1] at B2
  refine ⟨l1.trans l2, by omega, fun w' hl => ?_⟩
  obtain ⟨f0, f1, f2⟩ := F w' (l2.trans hl)
  obtain ⟨b0, b1, b2, b3, b4⟩ := box4_later B2 hl
  exact ⟨f0, f1, f2, b0, b1, b2, b3, b4⟩
theorem dright_c (dv mv : Value) (d m : List ByteArray) (y : El) (w : World) (h : ScIs w dv mv d m) (hy : EIs w y) (hz : StZ y.d) : FnC Try.prog 28 #[scV dv mv, elV y] w fun r w' => r = .bool (decide (RtOk d.length m.length y)) ∧ Later w w' := by
  unfold scV elV
  obtain ⟨od, cd, hdv⟩ := Sl.slice h.dS
  obtain ⟨om, cm, hmv⟩ := Sl.slice h.mS
  have hyd := hy.1
  have hya := hy.2
  obtain ⟨oy, cy, hydv⟩ := Sl.slice hy.1
  obtain ⟨oa, ca, hyav, ga1, ga2⟩ := RecS.slice hy.2
  have gd := (Sl.len (hydv ▸ hyd)).2
  rw [List.length_map] at hdv hmv hydv gd
  have hmax : maxLen = 9223372036854775807 := rfl
  rw [hmax] at gd
  refine enter28 _ _ ?_
  unfold B28
  obtain ⟨l2, s2, F⟩ := boxSR w dv mv y
  have s1 := World.size_alloc w (.cells #[dv, mv] 24)
  have eca : (Value.agg #[dv, mv]).cells = #[dv, mv] := rfl
  have ecb : (Value.agg #[.int .i64 y.t, y.dv, .int .i64 y.n, y.av]).cells = #[.int .i64 y.t, y.dv, .int .i64 y.n, y.av] := rfl
  repeat' (first | (simp (disch := omega) only [push_cast, ↓reduceIte, zA, zG, zB, zH, zI, zC, zJ, zK, zL, zD, zE, zF, zM, zN, zO, zP, zQ, reduceCtorEq, not_true_eq_false, not_false_eq_true, eca, ecb, s1, s2]) | (first | refine vIfE_of ?_ ?_ | refine vIfD_of ?_ ?_ | refine vIfQ_of ?_ ?_ | refine vIfV_of ?_ ?_) <;> intro _ | refine And.intro (by omega) ?_ | fail)
  generalize ((w.alloc (.cells #[dv, mv] 24)).alloc (.cells #[.int .i64 y.t, y.dv, .int .i64 y.n, y.av] 35)) = w2 at *
  have F' : ∀ w', Later w2 w' → w'.cell? ⟨w.heap.size, 0, none⟩ = some (.slice od d.length cd) ∧ w'.cell? ⟨w.heap.size, 1, none⟩ = some (.slice om m.length cm) ∧
      w'.cell? ⟨w.heap.size + 1, 0, none⟩ = some (.int .i64 y.t) ∧ w'.cell? ⟨w.heap.size + 1, 1, none⟩ = some (.slice oy y.d.length cy) ∧ w'.cell? ⟨w.heap.size + 1, 2, none⟩ = some (.int .i64 y.n) ∧ w'.cell? ⟨w.heap.size + 1, 3, none⟩ = some (.slice oa y.a.length ca) := by
    intro w' hl
    obtain ⟨f0, f1, _, b0, b1, b2, b3, _⟩ := F w' hl
    rw [hdv] at f0
    rw [hmv] at f1
    rw [hydv] at b1
    rw [hyav] at b3
    exact ⟨f0, f1, b0, b1, b2, b3⟩
  rw [hydv] at hyd
  rw [hyav] at hya
  clear F hdv hmv hydv hyav eca ecb s1 s2
  obtain ⟨f0, f1, b0, b1, b2, b3⟩ := F' w2 (Later.refl _)
  have no : (¬ RtOk d.length m.length y) → decide (RtOk d.length m.length y) = false := fun h => decide_eq_false h
  by_cases hd : y.d.length = d.length
  case neg =>
    have hno := no fun h => hd h.1
    repeat' (first | (simp (disch := omega) only [push_cast, ↓reduceIte, zA, zG, zB, zH, zI, zC, zJ, zK, zL, zD, zE, zF, zM, zN, zO, zP, zQ, reduceCtorEq, not_true_eq_false, not_false_eq_true, f0, f1, b1, b3, addr_add_eq, Nat.zero_add]) | (first | refine vIfE_of ?_ ?_ | refine vIfD_of ?_ ?_ | refine vIfQ_of ?_ ?_ | refine vIfV_of ?_ ?_) <;> intro _ | refine And.intro (by omega) ?_ | refine drawn_q ?_ | fail)
    first | exact ⟨by rw [hno], l2⟩ | exact l2
  by_cases hm : y.a.length = m.length
  case neg =>
    have hno := no fun h => hm h.2.1
    repeat' (first | (simp (disch := omega) only [push_cast, ↓reduceIte, zA, zG, zB, zH, zI, zC, zJ, zK, zL, zD, zE, zF, zM, zN, zO, zP, zQ, reduceCtorEq, not_true_eq_false, not_false_eq_true, f0, f1, b1, b3, addr_add_eq, Nat.zero_add]) | (first | refine vIfE_of ?_ ?_ | refine vIfD_of ?_ ?_ | refine vIfQ_of ?_ ?_ | refine vIfV_of ?_ ?_) <;> intro _ | refine And.intro (by omega) ?_ | refine drawn_q ?_ | fail)
    first | exact ⟨by rw [hno], l2⟩ | exact l2
  repeat' (first | (simp (disch := omega) only [push_cast, ↓reduceIte, zA, zG, zB, zH, zI, zC, zJ, zK, zL, zD, zE, zF, zM, zN, zO, zP, zQ, reduceCtorEq, not_true_eq_false, not_false_eq_true, f0, f1, b1, b3, addr_add_eq, Nat.zero_add]) | (first | refine vIfE_of ?_ ?_ | refine vIfD_of ?_ ?_ | refine vIfQ_of ?_ ?_ | refine vIfV_of ?_ ?_) <;> intro _ | refine And.intro (by omega) ?_ | refine drawn_q ?_ | fail)
  refine vc_loop W28_0 (fun i : Nat => [(4, .bool false), (5, .int .i64 (i : Int))])
    (fun i w' => i ≤ y.d.length ∧ Later w2 w' ∧ (∀ j (h : j < y.d.length), j < i → VlOk y.d[j])) (fun i => y.d.length - i) 0 (by decide) ?_ ?_ ?_
  · simp (disch := omega) only [push_cast, ↓reduceIte, zA, zG, zB, zH, zI, zC, zJ, zK, zL, zD, zE, zF, zM, zN, zO, zP, zQ, reduceCtorEq, not_true_eq_false, not_false_eq_true]
  · exact ⟨by omega, Later.refl _, fun j _ hj => absurd hj (Nat.not_lt_zero _)⟩
  rintro i uu w3 ⟨hi, l3, hA⟩
  have l03 := l2.trans l3
  obtain ⟨f0, f1, b0, b1, b2, b3⟩ := F' w3 l3
  by_cases hlt : i < y.d.length
  · cases oy with
    | none => have := (Sl.len hyd).2.2.2 rfl; simp at this; rw [this.1] at hlt; simp at hlt
    | some ad =>
    have hc := StS.atS (Sl.later hyd l03) hlt
    repeat' (first | (simp (disch := omega) only [push_cast, ↓reduceIte, zA, zG, zB, zH, zI, zC, zJ, zK, zL, zD, zE, zF, zM, zN, zO, zP, zQ, reduceCtorEq, not_true_eq_false, not_false_eq_true, b1, hc, addr_add_eq, Nat.zero_add]) | (first | refine vIfE_of ?_ ?_ | refine vIfD_of ?_ ?_ | refine vIfQ_of ?_ ?_ | refine vIfV_of ?_ ?_) <;> intro _ | refine And.intro (by omega) ?_ | refine drawn_q ?_ | fail)
    refine (dvalue_c y.d[i] w3 (hz _ (List.getElem_mem _))).mono ?_
    rintro _ w0 ⟨rfl, h0⟩
    obtain rfl := h0.symm
    by_cases hv : VlOk y.d[i]
    · rw [decide_eq_true hv]
      repeat' (first | (simp (disch := omega) only [push_cast, ↓reduceIte, zA, zG, zB, zH, zI, zC, zJ, zK, zL, zD, zE, zF, zM, zN, zO, zP, zQ, reduceCtorEq, not_true_eq_false, not_false_eq_true]) | (first | refine vIfE_of ?_ ?_ | refine vIfD_of ?_ ?_ | refine vIfQ_of ?_ ?_ | refine vIfV_of ?_ ?_) <;> intro _ | refine And.intro (by omega) ?_ | refine drawn_q ?_ | fail)
      refine ⟨rfl, i + 1, by simp (disch := omega) only [push_cast, ↓reduceIte, zA, zG, zB, zH, zI, zC, zJ, zK, zL, zD, zE, zF, zM, zN, zO, zP, zQ, reduceCtorEq, not_true_eq_false, not_false_eq_true], ⟨by omega, l3, fun j hj hji => ?_⟩, by dsimp only; omega⟩
      by_cases h : j < i
      · exact hA j hj h
      · have : j = i := by omega
        subst this
        exact hv
    · have hno := no fun h => hv (h.2.2.1 _ (List.getElem_mem _))
      rw [decide_eq_false hv]
      repeat' (first | (simp (disch := omega) only [push_cast, ↓reduceIte, zA, zG, zB, zH, zI, zC, zJ, zK, zL, zD, zE, zF, zM, zN, zO, zP, zQ, reduceCtorEq, not_true_eq_false, not_false_eq_true]) | (first | refine vIfE_of ?_ ?_ | refine vIfD_of ?_ ?_ | refine vIfQ_of ?_ ?_ | refine vIfV_of ?_ ?_) <;> intro _ | refine And.intro (by omega) ?_ | refine drawn_q ?_ | fail)
      first | exact ⟨by rw [hno], l03⟩ | exact l03
  have hvs : ∀ s ∈ y.d, VlOk s := fun s hs => by
    obtain ⟨j, hj, rfl⟩ := List.getElem_of_mem hs
    exact hA j hj (by omega)
  repeat' (first | (simp (disch := omega) only [push_cast, ↓reduceIte, zA, zG, zB, zH, zI, zC, zJ, zK, zL, zD, zE, zF, zM, zN, zO, zP, zQ, reduceCtorEq, not_true_eq_false, not_false_eq_true, b1, addr_add_eq, Nat.zero_add]) | (first | refine vIfE_of ?_ ?_ | refine vIfD_of ?_ ?_ | refine vIfQ_of ?_ ?_ | refine vIfV_of ?_ ?_) <;> intro _ | refine And.intro (by omega) ?_ | refine drawn_q ?_ | fail)
  refine vc_loop W28_1 (fun i : Nat => [(4, .bool false), (7, .int .i64 (i : Int))])
    (fun i w' => i ≤ y.a.length ∧ Later w2 w' ∧ (∀ j (h : j < y.a.length), j < i → ARt y.a[j])) (fun i => y.a.length - i) 0 (by decide) ?_ ?_ ?_
  · simp (disch := omega) only [push_cast, ↓reduceIte, zA, zG, zB, zH, zI, zC, zJ, zK, zL, zD, zE, zF, zM, zN, zO, zP, zQ, reduceCtorEq, not_true_eq_false, not_false_eq_true]
  · exact ⟨by omega, l3, fun j _ hj => absurd hj (Nat.not_lt_zero _)⟩
  rintro i uu2 w4 ⟨hi, l4, hB⟩
  have l04 := l2.trans l4
  obtain ⟨f0, f1, b0, b1, b2, b3⟩ := F' w4 l4
  by_cases hlt : i < y.a.length
  · obtain ⟨ad, rfl, hc⟩ := RecS.at agC_len (hya.later l04) hlt
    unfold agC at hc
    repeat' (first | (simp (disch := omega) only [push_cast, ↓reduceIte, zA, zG, zB, zH, zI, zC, zJ, zK, zL, zD, zE, zF, zM, zN, zO, zP, zQ, reduceCtorEq, not_true_eq_false, not_false_eq_true, b3, hc, addr_add_eq, Nat.zero_add]) | (first | refine vIfE_of ?_ ?_ | refine vIfD_of ?_ ?_ | refine vIfQ_of ?_ ?_ | refine vIfV_of ?_ ?_) <;> intro _ | refine And.intro (by omega) ?_ | refine drawn_q ?_ | fail)
    refine (caright_c y.a[i] w4).mono ?_
    rintro _ w5 ⟨rfl, l5⟩
    by_cases hv : ARt y.a[i]
    · rw [decide_eq_true hv]
      repeat' (first | (simp (disch := omega) only [push_cast, ↓reduceIte, zA, zG, zB, zH, zI, zC, zJ, zK, zL, zD, zE, zF, zM, zN, zO, zP, zQ, reduceCtorEq, not_true_eq_false, not_false_eq_true]) | (first | refine vIfE_of ?_ ?_ | refine vIfD_of ?_ ?_ | refine vIfQ_of ?_ ?_ | refine vIfV_of ?_ ?_) <;> intro _ | refine And.intro (by omega) ?_ | refine drawn_q ?_ | fail)
      refine ⟨rfl, i + 1, by simp (disch := omega) only [push_cast, ↓reduceIte, zA, zG, zB, zH, zI, zC, zJ, zK, zL, zD, zE, zF, zM, zN, zO, zP, zQ, reduceCtorEq, not_true_eq_false, not_false_eq_true], ⟨by omega, l4.trans l5, fun j hj hji => ?_⟩, by dsimp only; omega⟩
      by_cases h : j < i
      · exact hB j hj h
      · have : j = i := by omega
        subst this
        exact hv
    · have hno := no fun h => hv (h.2.2.2.1 _ (List.getElem_mem _))
      rw [decide_eq_false hv]
      repeat' (first | (simp (disch := omega) only [push_cast, ↓reduceIte, zA, zG, zB, zH, zI, zC, zJ, zK, zL, zD, zE, zF, zM, zN, zO, zP, zQ, reduceCtorEq, not_true_eq_false, not_false_eq_true]) | (first | refine vIfE_of ?_ ?_ | refine vIfD_of ?_ ?_ | refine vIfQ_of ?_ ?_ | refine vIfV_of ?_ ?_) <;> intro _ | refine And.intro (by omega) ?_ | refine drawn_q ?_ | fail)
      first | exact ⟨by rw [hno], (l04.trans l5)⟩ | exact (l04.trans l5)
  have has : ∀ a ∈ y.a, ARt a := fun s hs => by
    obtain ⟨j, hj, rfl⟩ := List.getElem_of_mem hs
    exact hB j hj (by omega)
  have hdec : RtOk d.length m.length y ↔ (0 ≤ y.t ∧ y.t ≤ 1099511627776 ∧ 1 ≤ y.n ∧ y.n ≤ 1048576) := ⟨fun h => h.2.2.2.2, fun h => ⟨hd, hm, hvs, has, h⟩⟩
  rw [decide_eq_decide.2 hdec]
  by_cases h1 : 0 ≤ y.t
  · by_cases h2 : y.t ≤ 1099511627776
    · by_cases h3 : 1 ≤ y.n
      · by_cases h4 : y.n ≤ 1048576
        · repeat' (first | (simp (disch := omega) only [push_cast, ↓reduceIte, zA, zG, zB, zH, zI, zC, zJ, zK, zL, zD, zE, zF, zM, zN, zO, zP, zQ, reduceCtorEq, not_true_eq_false, not_false_eq_true, b0, b2, b3, addr_add_eq, Nat.zero_add]) | (first | refine vIfE_of ?_ ?_ | refine vIfD_of ?_ ?_ | refine vIfQ_of ?_ ?_ | refine vIfV_of ?_ ?_) <;> intro _ | refine And.intro (by omega) ?_ | refine drawn_q ?_ | fail)
          first | exact ⟨congrArg Value.bool ((decide_eq_true (by omega)).trans (decide_eq_true (by omega)).symm), l04⟩ | exact l04
        · repeat' (first | (simp (disch := omega) only [push_cast, ↓reduceIte, zA, zG, zB, zH, zI, zC, zJ, zK, zL, zD, zE, zF, zM, zN, zO, zP, zQ, reduceCtorEq, not_true_eq_false, not_false_eq_true, b0, b2, b3, addr_add_eq, Nat.zero_add]) | (first | refine vIfE_of ?_ ?_ | refine vIfD_of ?_ ?_ | refine vIfQ_of ?_ ?_ | refine vIfV_of ?_ ?_) <;> intro _ | refine And.intro (by omega) ?_ | refine drawn_q ?_ | fail)
          first | exact ⟨congrArg Value.bool ((decide_eq_false (by omega)).trans (decide_eq_false (by omega)).symm), l04⟩ | exact l04
      · repeat' (first | (simp (disch := omega) only [push_cast, ↓reduceIte, zA, zG, zB, zH, zI, zC, zJ, zK, zL, zD, zE, zF, zM, zN, zO, zP, zQ, reduceCtorEq, not_true_eq_false, not_false_eq_true, b0, b2, b3, addr_add_eq, Nat.zero_add]) | (first | refine vIfE_of ?_ ?_ | refine vIfD_of ?_ ?_ | refine vIfQ_of ?_ ?_ | refine vIfV_of ?_ ?_) <;> intro _ | refine And.intro (by omega) ?_ | refine drawn_q ?_ | fail)
        first | exact ⟨congrArg Value.bool ((decide_eq_false (by omega)).trans (decide_eq_false (by omega)).symm), l04⟩ | exact ⟨congrArg Value.bool (decide_eq_false (by omega)).symm, l04⟩
    · repeat' (first | (simp (disch := omega) only [push_cast, ↓reduceIte, zA, zG, zB, zH, zI, zC, zJ, zK, zL, zD, zE, zF, zM, zN, zO, zP, zQ, reduceCtorEq, not_true_eq_false, not_false_eq_true, b0, b2, b3, addr_add_eq, Nat.zero_add]) | (first | refine vIfE_of ?_ ?_ | refine vIfD_of ?_ ?_ | refine vIfQ_of ?_ ?_ | refine vIfV_of ?_ ?_) <;> intro _ | refine And.intro (by omega) ?_ | refine drawn_q ?_ | fail)
      first | exact ⟨congrArg Value.bool ((decide_eq_false (by omega)).trans (decide_eq_false (by omega)).symm), l04⟩ | exact ⟨congrArg Value.bool (decide_eq_false (by omega)).symm, l04⟩
  · repeat' (first | (simp (disch := omega) only [push_cast, ↓reduceIte, zA, zG, zB, zH, zI, zC, zJ, zK, zL, zD, zE, zF, zM, zN, zO, zP, zQ, reduceCtorEq, not_true_eq_false, not_false_eq_true, b0, b2, b3, addr_add_eq, Nat.zero_add]) | (first | refine vIfE_of ?_ ?_ | refine vIfD_of ?_ ?_ | refine vIfQ_of ?_ ?_ | refine vIfV_of ?_ ?_) <;> intro _ | refine And.intro (by omega) ?_ | refine drawn_q ?_ | fail)
    first | exact ⟨congrArg Value.bool ((decide_eq_false (by omega)).trans (decide_eq_false (by omega)).symm), l04⟩ | exact ⟨congrArg Value.bool (decide_eq_false (by omega)).symm, l04⟩
/-- Rows that are gone through. -/
def F13 (d m : List ByteArray) (l : List El) : Prop := F10 d ∧ F10 m ∧ l.length ≤ 120 ∧ ScOk d m ∧ ∀ e ∈ l, RtOk d.length m.length e
instance (d m : List ByteArray) (l : List El) : Decidable (F13 d m l) := inferInstanceAs (Decidable (F10 d ∧ F10 m ∧ l.length ≤ 120 ∧ ScOk d m ∧ ∀ e ∈ l, RtOk d.length m.length e))
theorem fits13_c (dv mv v : Value) (d m : List ByteArray) (l : List El) (w : World) (h : ScIs w dv mv d m) (hl : RecS elC 4 w v l) (hes : ∀ e ∈ l, EIs w e ∧ StZ e.d) : FnC Try.prog 11 #[scV dv mv, v] w fun r w' => r = .bool (decide (F13 d m l)) ∧ Later w w' := by
  unfold scV
  obtain ⟨ol, cl, rfl, gl1, gl2⟩ := hl.slice
  refine enter11 _ _ ?_
  unfold B11
  obtain ⟨l1, s1, F⟩ := box2 w dv mv 24
  have eca : (Value.agg #[dv, mv]).cells = #[dv, mv] := rfl
  have no : (¬ F13 d m l) → decide (F13 d m l) = false := fun h => decide_eq_false h
  repeat' (first | (simp (disch := omega) only [push_cast, ↓reduceIte, zA, zG, zB, zH, zI, zC, zJ, zK, zL, zD, zE, zF, zM, zN, zO, zP, zQ, reduceCtorEq, not_true_eq_false, not_false_eq_true, eca, s1]) | (first | refine vIfE_of ?_ ?_ | refine vIfD_of ?_ ?_ | refine vIfQ_of ?_ ?_ | refine vIfV_of ?_ ?_) <;> intro _ | refine And.intro (by omega) ?_ | fail)
  generalize w.alloc (.cells #[dv, mv] 24) = w1 at *
  obtain ⟨a0, a1, a2⟩ := F w1 (Later.refl _)
  have h1 := h.later l1
  repeat' (first | (simp (disch := omega) only [push_cast, ↓reduceIte, zA, zG, zB, zH, zI, zC, zJ, zK, zL, zD, zE, zF, zM, zN, zO, zP, zQ, reduceCtorEq, not_true_eq_false, not_false_eq_true, a0, addr_add_eq, Nat.zero_add]) | (first | refine vIfE_of ?_ ?_ | refine vIfD_of ?_ ?_ | refine vIfQ_of ?_ ?_ | refine vIfV_of ?_ ?_) <;> intro _ | refine And.intro (by omega) ?_ | refine drawn_q ?_ | fail)
  refine (fits10_c dv d w1 h1.dS h.dZ).mono ?_
  rintro _ w0 ⟨rfl, h0⟩
  obtain rfl := h0.symm
  repeat' (first | (simp (disch := omega) only [push_cast, ↓reduceIte, zA, zG, zB, zH, zI, zC, zJ, zK, zL, zD, zE, zF, zM, zN, zO, zP, zQ, reduceCtorEq, not_true_eq_false, not_false_eq_true, a1, addr_add_eq, Nat.zero_add]) | (first | refine vIfE_of ?_ ?_ | refine vIfD_of ?_ ?_ | refine vIfQ_of ?_ ?_ | refine vIfV_of ?_ ?_) <;> intro _ | refine And.intro (by omega) ?_ | refine drawn_q ?_ | fail)
  refine (fits10_c mv m w1 h1.mS h.mZ).mono ?_
  rintro _ w0 ⟨rfl, h0⟩
  obtain rfl := h0.symm
  by_cases hd : F10 d
  case neg =>
    have hno := no fun h => hd h.1
    rw [decide_eq_false hd]
    repeat' (first | (simp (disch := omega) only [push_cast, ↓reduceIte, zA, zG, zB, zH, zI, zC, zJ, zK, zL, zD, zE, zF, zM, zN, zO, zP, zQ, reduceCtorEq, not_true_eq_false, not_false_eq_true]) | (first | refine vIfE_of ?_ ?_ | refine vIfD_of ?_ ?_ | refine vIfQ_of ?_ ?_ | refine vIfV_of ?_ ?_) <;> intro _ | refine And.intro (by omega) ?_ | refine drawn_q ?_ | fail)
    first | exact ⟨by rw [hno], l1⟩ | exact l1
  by_cases hm : F10 m
  case neg =>
    have hno := no fun h => hm h.2.1
    rw [decide_eq_true hd, decide_eq_false hm]
    repeat' (first | (simp (disch := omega) only [push_cast, ↓reduceIte, zA, zG, zB, zH, zI, zC, zJ, zK, zL, zD, zE, zF, zM, zN, zO, zP, zQ, reduceCtorEq, not_true_eq_false, not_false_eq_true]) | (first | refine vIfE_of ?_ ?_ | refine vIfD_of ?_ ?_ | refine vIfQ_of ?_ ?_ | refine vIfV_of ?_ ?_) <;> intro _ | refine And.intro (by omega) ?_ | refine drawn_q ?_ | fail)
    first | exact ⟨by rw [hno], l1⟩ | exact l1
  by_cases hn : l.length ≤ 120
  case neg =>
    have hno := no fun h => hn h.2.2.1
    rw [decide_eq_true hd, decide_eq_true hm]
    repeat' (first | (simp (disch := omega) only [push_cast, ↓reduceIte, zA, zG, zB, zH, zI, zC, zJ, zK, zL, zD, zE, zF, zM, zN, zO, zP, zQ, reduceCtorEq, not_true_eq_false, not_false_eq_true]) | (first | refine vIfE_of ?_ ?_ | refine vIfD_of ?_ ?_ | refine vIfQ_of ?_ ?_ | refine vIfV_of ?_ ?_) <;> intro _ | refine And.intro (by omega) ?_ | refine drawn_q ?_ | fail)
    first | exact ⟨by rw [hno], l1⟩ | exact l1
  rw [decide_eq_true hd, decide_eq_true hm]
  repeat' (first | (simp (disch := omega) only [push_cast, ↓reduceIte, zA, zG, zB, zH, zI, zC, zJ, zK, zL, zD, zE, zF, zM, zN, zO, zP, zQ, reduceCtorEq, not_true_eq_false, not_false_eq_true, a2]) | (first | refine vIfE_of ?_ ?_ | refine vIfD_of ?_ ?_ | refine vIfQ_of ?_ ?_ | refine vIfV_of ?_ ?_) <;> intro _ | refine And.intro (by omega) ?_ | refine drawn_q ?_ | fail)
  refine (dschema_c dv mv d m w1 h1 (by have := hd.1; omega) (by have := hm.1; omega)).mono ?_
  rintro _ w2 ⟨rfl, l2⟩
  by_cases hs : ScOk d m
  case neg =>
    have hno := no fun h => hs h.2.2.2.1
    rw [decide_eq_false hs]
    repeat' (first | (simp (disch := omega) only [push_cast, ↓reduceIte, zA, zG, zB, zH, zI, zC, zJ, zK, zL, zD, zE, zF, zM, zN, zO, zP, zQ, reduceCtorEq, not_true_eq_false, not_false_eq_true]) | (first | refine vIfE_of ?_ ?_ | refine vIfD_of ?_ ?_ | refine vIfQ_of ?_ ?_ | refine vIfV_of ?_ ?_) <;> intro _ | refine And.intro (by omega) ?_ | refine drawn_q ?_ | fail)
    first | exact ⟨by rw [hno], (l1.trans l2)⟩ | exact (l1.trans l2)
  rw [decide_eq_true hs]
  repeat' (first | (simp (disch := omega) only [push_cast, ↓reduceIte, zA, zG, zB, zH, zI, zC, zJ, zK, zL, zD, zE, zF, zM, zN, zO, zP, zQ, reduceCtorEq, not_true_eq_false, not_false_eq_true]) | (first | refine vIfE_of ?_ ?_ | refine vIfD_of ?_ ?_ | refine vIfQ_of ?_ ?_ | refine vIfV_of ?_ ?_) <;> intro _ | refine And.intro (by omega) ?_ | refine drawn_q ?_ | fail)
  refine vc_loop W11_0 (fun i : Nat => [(4, .bool false), (7, .int .i64 (i : Int))])
    (fun i w' => i ≤ l.length ∧ Later w2 w' ∧ (∀ j (h : j < l.length), j < i → RtOk d.length m.length l[j])) (fun i => l.length - i) 0 (by decide) ?_ ?_ ?_
  · simp (disch := omega) only [push_cast, ↓reduceIte, zA, zG, zB, zH, zI, zC, zJ, zK, zL, zD, zE, zF, zM, zN, zO, zP, zQ, reduceCtorEq, not_true_eq_false, not_false_eq_true]
  · exact ⟨by omega, Later.refl _, fun j _ hj => absurd hj (Nat.not_lt_zero _)⟩
  rintro i uu w3 ⟨hi, l3, hA⟩
  have l13 := l2.trans l3
  have l03 := l1.trans l13
  obtain ⟨_, _, a2⟩ := F w3 l13
  by_cases hlt : i < l.length
  · obtain ⟨ad, rfl, hc⟩ := RecS.at elC_len (hl.later l03) hlt
    have hy := hes _ (List.getElem_mem hlt)
    repeat' (first | (simp (disch := omega) only [push_cast, ↓reduceIte, zA, zG, zB, zH, zI, zC, zJ, zK, zL, zD, zE, zF, zM, zN, zO, zP, zQ, reduceCtorEq, not_true_eq_false, not_false_eq_true, a2, hc]) | (first | refine vIfE_of ?_ ?_ | refine vIfD_of ?_ ?_ | refine vIfQ_of ?_ ?_ | refine vIfV_of ?_ ?_) <;> intro _ | refine And.intro (by omega) ?_ | refine drawn_q ?_ | fail)
    refine QFn.of hb28 (v := .bool (decide (RtOk d.length m.length l[i]))) (fun w' hl => dright_c dv mv d m l[i] w' (h.later (l03.trans hl)) (hy.1.later (l03.trans hl)) hy.2) ?_
    by_cases hv : RtOk d.length m.length l[i]
    · rw [decide_eq_true hv]
      repeat' (first | (simp (disch := omega) only [push_cast, ↓reduceIte, zA, zG, zB, zH, zI, zC, zJ, zK, zL, zD, zE, zF, zM, zN, zO, zP, zQ, reduceCtorEq, not_true_eq_false, not_false_eq_true]) | (first | refine vIfE_of ?_ ?_ | refine vIfD_of ?_ ?_ | refine vIfQ_of ?_ ?_ | refine vIfV_of ?_ ?_) <;> intro _ | refine And.intro (by omega) ?_ | refine drawn_q ?_ | fail)
      intro w4 l4
      repeat' (first | (simp (disch := omega) only [push_cast, ↓reduceIte, zA, zG, zB, zH, zI, zC, zJ, zK, zL, zD, zE, zF, zM, zN, zO, zP, zQ, reduceCtorEq, not_true_eq_false, not_false_eq_true]) | (first | refine vIfE_of ?_ ?_ | refine vIfD_of ?_ ?_ | refine vIfQ_of ?_ ?_ | refine vIfV_of ?_ ?_) <;> intro _ | refine And.intro (by omega) ?_ | refine drawn_q ?_ | fail)
      refine ⟨rfl, i + 1, by simp (disch := omega) only [push_cast, ↓reduceIte, zA, zG, zB, zH, zI, zC, zJ, zK, zL, zD, zE, zF, zM, zN, zO, zP, zQ, reduceCtorEq, not_true_eq_false, not_false_eq_true], ⟨by omega, l3.trans l4, fun j hj hji => ?_⟩, by dsimp only; omega⟩
      by_cases h : j < i
      · exact hA j hj h
      · have : j = i := by omega
        subst this
        exact hv
    · have hno := no fun h => hv (h.2.2.2.2 _ (List.getElem_mem _))
      rw [decide_eq_false hv]
      repeat' (first | (simp (disch := omega) only [push_cast, ↓reduceIte, zA, zG, zB, zH, zI, zC, zJ, zK, zL, zD, zE, zF, zM, zN, zO, zP, zQ, reduceCtorEq, not_true_eq_false, not_false_eq_true]) | (first | refine vIfE_of ?_ ?_ | refine vIfD_of ?_ ?_ | refine vIfQ_of ?_ ?_ | refine vIfV_of ?_ ?_) <;> intro _ | refine And.intro (by omega) ?_ | refine drawn_q ?_ | fail)
      intro w4 l4
      repeat' (first | (simp (disch := omega) only [push_cast, ↓reduceIte, zA, zG, zB, zH, zI, zC, zJ, zK, zL, zD, zE, zF, zM, zN, zO, zP, zQ, reduceCtorEq, not_true_eq_false, not_false_eq_true]) | (first | refine vIfE_of ?_ ?_ | refine vIfD_of ?_ ?_ | refine vIfQ_of ?_ ?_ | refine vIfV_of ?_ ?_) <;> intro _ | refine And.intro (by omega) ?_ | refine drawn_q ?_ | fail)
      first | exact ⟨by rw [hno], (l03.trans l4)⟩ | exact (l03.trans l4)
  · have hyes : decide (F13 d m l) = true := decide_eq_true ⟨hd, hm, hn, hs, fun e he => by
      obtain ⟨j, hj, rfl⟩ := List.getElem_of_mem he
      exact hA j hj (by omega)⟩
    repeat' (first | (simp (disch := omega) only [push_cast, ↓reduceIte, zA, zG, zB, zH, zI, zC, zJ, zK, zL, zD, zE, zF, zM, zN, zO, zP, zQ, reduceCtorEq, not_true_eq_false, not_false_eq_true]) | (first | refine vIfE_of ?_ ?_ | refine vIfD_of ?_ ?_ | refine vIfQ_of ?_ ?_ | refine vIfV_of ?_ ?_) <;> intro _ | refine And.intro (by omega) ?_ | refine drawn_q ?_ | fail)
    first | exact ⟨by rw [hyes], l03⟩ | exact l03
end Go.Proofs.Ythihbgpaoldbjaa
end
section
namespace Go.Proofs
open Go.Shelf
def Try.laysGw17_ren : Go.Shelf.Ren := ⟨fun | 17 => 95 | 15 => 108 | 20 => 116 | n => n, fun | 9 => 9 | 23 => 104 | 4 => 4 | 3 => 3 | 0 => 0 | 21 => 21 | n => n, fun | n => n⟩
theorem Try.laysGw17 : Go.Proofs.LaysGw.n17 Try.prog Try.laysGw17_ren := {
  mixed := by kernel_rfl
  f15 := Try.func108.trans (congrArg some (by kernel_rfl))
  f17 := Try.func95.trans (congrArg some (by kernel_rfl))
  f20 := Try.func116.trans (congrArg some (by kernel_rfl))
  t0 := Try.underlying0
  a0 := Try.isAgg0
  z0 := Try.sizeOf0
  v0 := Try.zeroValue0
  i0 := by kernel_rfl
  t3 := Try.underlying3
  a3 := Try.isAgg3
  z3 := Try.sizeOf3
  v3 := Try.zeroValue3
  i3 := by kernel_rfl
  t4 := Try.underlying4
  a4 := Try.isAgg4
  z4 := Try.sizeOf4
  v4 := Try.zeroValue4
  i4 := by kernel_rfl
  t9 := Try.underlying9
  a9 := Try.isAgg9
  z9 := Try.sizeOf9
  v9 := Try.zeroValue9
  i9 := by kernel_rfl
  t21 := Try.underlying21
  a21 := Try.isAgg21
  z21 := Try.sizeOf21
  v21 := Try.zeroValue21
  i21 := by kernel_rfl
  t23 := Try.underlying104
  a23 := Try.isAgg104
  z23 := Try.sizeOf104
  v23 := Try.zeroValue104
  i23 := by kernel_rfl }
def Try.lays150_ren : Go.Shelf.Ren := ⟨fun | 150 => 94 | 153 => 107 | 152 => 112 | 226 => 113 | 227 => 114 | 228 => 115 | 137 => 118 | 119 => 119 | 224 => 120 | 225 => 121 | 217 => 123 | 266 => 124 | n => n, fun | 9 => 9 | 4 => 4 | 3 => 3 | 5 => 5 | 21 => 21 | 117 => 119 | 116 => 118 | 0 => 0 | 46 => 123 | 124 => 126 | n => n, fun | n => n⟩
theorem Try.lays150 : Go.Proofs.Lays.n150 Try.prog Try.lays150_ren := {
  mixed := by kernel_rfl
  f119 := Try.func119.trans (congrArg some (by kernel_rfl))
  f137 := Try.func118.trans (congrArg some (by kernel_rfl))
  f150 := Try.func94.trans (congrArg some (by kernel_rfl))
  f152 := Try.func112.trans (congrArg some (by kernel_rfl))
  f153 := Try.func107.trans (congrArg some (by kernel_rfl))
  f217 := Try.func123.trans (congrArg some (by kernel_rfl))
  f224 := Try.func120.trans (congrArg some (by kernel_rfl))
  f225 := Try.func121.trans (congrArg some (by kernel_rfl))
  f226 := Try.func113.trans (congrArg some (by kernel_rfl))
  f227 := Try.func114.trans (congrArg some (by kernel_rfl))
  f228 := Try.func115.trans (congrArg some (by kernel_rfl))
  f266 := Try.func124.trans (congrArg some (by kernel_rfl))
  t0 := Try.underlying0
  a0 := Try.isAgg0
  z0 := Try.sizeOf0
  v0 := Try.zeroValue0
  t3 := Try.underlying3
  a3 := Try.isAgg3
  z3 := Try.sizeOf3
  v3 := Try.zeroValue3
  t4 := Try.underlying4
  a4 := Try.isAgg4
  z4 := Try.sizeOf4
  v4 := Try.zeroValue4
  t5 := Try.underlying5
  a5 := Try.isAgg5
  z5 := Try.sizeOf5
  v5 := Try.zeroValue5
  t9 := Try.underlying9
  a9 := Try.isAgg9
  z9 := Try.sizeOf9
  v9 := Try.zeroValue9
  t21 := Try.underlying21
  a21 := Try.isAgg21
  z21 := Try.sizeOf21
  v21 := Try.zeroValue21
  t46 := Try.underlying123
  a46 := Try.isAgg123
  z46 := Try.sizeOf123
  v46 := Try.zeroValue123
  t116 := Try.underlying118
  a116 := Try.isAgg118
  z116 := Try.sizeOf118
  t117 := Try.underlying119
  a117 := Try.isAgg119
  z117 := Try.sizeOf119
  v117 := Try.zeroValue119
  t124 := Try.underlying126
  a124 := Try.isAgg126
  z124 := Try.sizeOf126
  v124 := Try.zeroValue126 }
open Go.RowKit Go.Lib in
theorem Try.strings_ContainsAny_laid (s chars : ByteArray) (w : World) (hs : s.size < 4294967281) (hcs : chars.size < 4294967281) (has : ∀ (j : Nat) b, s.data.toList[j]? = some b → b.toNat < 128) (hac : ∀ (j : Nat) b, chars.data.toList[j]? = some b → b.toNat < 128) :
    Calls Try.prog 94 #[.string s, .string chars] w fun e w' => e = .returned (.bool (Lib.containsAny s.data.toList chars.data.toList)) ∧ Below w.heap.size w w' := Any.strings_ContainsAny_laid Try.lays150 (by kernel_rfl) s chars w hs hcs has hac
open Go.RowKit Go.Lib in
theorem Try.strings_ContainsFunc_grows (g : Nat) (lb : Array Value) (eg : ∀ args w, (callFunc g args).run Try.prog w = .ok (.enter g args) w) (p : Nat → Bool) (s : ByteArray) (w : World) (hp : PredGrows Try.prog g lb p w) :
    Calls Try.prog 95 #[.string s, .func (.func g) #[] lb] w fun e w' => e = .returned (.bool (decide (0 ≤ Lib.idxFunc p true s))) ∧ Below w.heap.size w w' := Any.strings_ContainsFunc_grows Try.laysGw17 g lb eg p s w hp
end Go.Proofs
end
section
set_option linter.unusedSimpArgs false
namespace Go.Vc
/-- A contract in the plain sense, as a contract of mine. -/
theorem FnC.of_calls {P : Program} {f : FuncId} {args : Array Value} {w : World} {R : Value → World → Prop} {Q : Ending → World → Prop} (hb : HasBody P f) (h : Calls P f args w Q) (hR : ∀ e w', Q e w' → ∃ v, e = .returned v ∧ R v w') : FnC P f args w R :=
  hb.fn (Calls.mono h hR)
/-- A contract of mine as a contract in the plain sense. -/
theorem calls_of_fn {P : Program} {f : FuncId} {args : Array Value} {w : World} {R : Value → World → Prop} {Q : Ending → World → Prop} (hb : HasBody P f) (h : FnC P f args w R) (hR : ∀ v w', R v w' → Q (.returned v) w') : Calls P f args w Q := by
  unfold FnC at h
  rw [hb args w] at h
  have h : Ret P f args w R := h
  refine Calls.mono h ?_
  rintro e w' ⟨v, rfl, hr⟩
  exact hR v w' hr
end Go.Vc
namespace Go.Proofs.Ythihbgpaoldbjaa
open Go.Vc Go.Key
set_option maxRecDepth 100000
theorem hbCF : HasBody Try.prog 95 := hasBody_of Try.func95 (by kernel_rfl)
theorem hbCA : HasBody Try.prog 94 := hasBody_of Try.func94 (by kernel_rfl)
def outR (x : Nat) : Bool := decide (x < 32) || decide (126 < x)
theorem value1_c (x : Nat) (w : World) : FnC Try.prog 96 #[.int .i32 (x : Int)] w fun r w' => r = .bool (outR x) ∧ w' = w := by
  refine enter96 _ ?_
  unfold B96
  unfold outR
  by_cases h1 : x < 32
  · rw [decide_eq_true h1]
    repeat' (first | (simp (disch := omega) only [push_cast, ↓reduceIte, zA, zG, zB, zH, zI, zC, zJ, zK, zL, zD, zE, zF, zM, zN, zO, zP, zQ, reduceCtorEq, not_true_eq_false, not_false_eq_true]) | (first | refine vIfE_of ?_ ?_ | refine vIfD_of ?_ ?_ | refine vIfQ_of ?_ ?_ | refine vIfV_of ?_ ?_) <;> intro _ | refine And.intro (by omega) ?_ | refine drawn_q ?_ | fail)
    all_goals simp
  · rw [decide_eq_false h1]
    repeat' (first | (simp (disch := omega) only [push_cast, ↓reduceIte, zA, zG, zB, zH, zI, zC, zJ, zK, zL, zD, zE, zF, zM, zN, zO, zP, zQ, reduceCtorEq, not_true_eq_false, not_false_eq_true]) | (first | refine vIfE_of ?_ ?_ | refine vIfD_of ?_ ?_ | refine vIfQ_of ?_ ?_ | refine vIfV_of ?_ ?_) <;> intro _ | refine And.intro (by omega) ?_ | refine drawn_q ?_ | fail)
    first | exact ⟨congrArg Value.bool (by first | (rw [Bool.false_or]; exact decide_eq_decide.2 (by omega)) | exact decide_eq_decide.2 (by omega)), rfl⟩ | (exact congrArg Value.bool (by first | (rw [Bool.false_or]; exact decide_eq_decide.2 (by omega)) | exact decide_eq_decide.2 (by omega)))
/-- All bytes are of seven bits. -/
def Asc (s : ByteArray) : Prop := ∀ i (h : i < s.size), s[i].toNat < 128
instance (s : ByteArray) : Decidable (Asc s) := inferInstanceAs (Decidable (∀ i (h : i < s.size), s[i].toNat < 128))
theorem idx_out {s : ByteArray} : (decide (0 ≤ Go.Lib.idxFunc outR true s) = false) ↔ ∀ i (h : i < s.size), 32 ≤ s[i].toNat ∧ s[i].toNat ≤ 126 := by
  have key : ∀ (f pos : Nat), s.size - pos ≤ f → (¬ 0 ≤ Go.Lib.idxFuncFrom outR true s f pos ↔ ∀ i (h : i < s.size), pos ≤ i → 32 ≤ s[i].toNat ∧ s[i].toNat ≤ 126) := by
    intro f
    induction f with
    | zero =>
      intro pos hp
      unfold Go.Lib.idxFuncFrom
      exact ⟨fun _ i hi h => by omega, fun _ => by omega⟩
    | succ f ih =>
      intro pos hp
      unfold Go.Lib.idxFuncFrom
      by_cases hlt : pos < s.size
      · rw [if_pos hlt]
        by_cases hb : s[pos].toNat < 128
        · rw [decode_ascii s pos hlt hb]
          dsimp only
          by_cases ho : outR s[pos].toNat = true
          · rw [if_pos ho]
            refine ⟨fun h => absurd (by omega) h, fun h => ?_⟩
            have := h pos hlt (Nat.le_refl _)
            simp [outR] at ho
            omega
          · rw [if_neg ho, ih (pos + 1) (by omega)]
            refine ⟨fun h i hi hpi => ?_, fun h i hi hpi => h i hi (by omega)⟩
            by_cases he : i = pos
            · subst he
              simp [outR] at ho
              omega
            · exact h i hi (by omega)
        · have hd := (decode_high s pos hlt (by omega)).1
          have ho : outR (Utf8.decode s pos).1 = true := by simp [outR]; omega
          rw [if_pos ho]
          refine ⟨fun h => absurd (by omega) h, fun h => ?_⟩
          have := h pos hlt (Nat.le_refl _)
          omega
      · rw [if_neg hlt]
        exact ⟨fun _ i hi h => by omega, fun _ => by omega⟩
  unfold Go.Lib.idxFunc
  rw [decide_eq_false_iff_not, key s.size 0 (by omega)]
  exact ⟨fun h i hi => h i hi (Nat.zero_le _), fun h i hi _ => h i hi⟩
abbrev quotes : ByteArray := ⟨#[34, 92]⟩
/-- What is told of the bytes that bar a text. -/
def CanyAt (s : ByteArray) : Prop := ∀ w, FnC Try.prog 94 #[.string s, .string quotes] w fun r w' => (∃ t, r = .bool t ∧ (Asc s → (t = true ↔ ∃ i, ∃ h : i < s.size, s[i].toNat = 34 ∨ s[i].toNat = 92))) ∧ Later w w'
theorem any_is (chars : List UInt8) : ∀ l : List UInt8, Go.Lib.containsAny l chars = true ↔ ∃ b ∈ l, chars.contains b = true := by
  intro l
  unfold Go.Lib.containsAny
  rw [decide_eq_true_eq]
  induction l with
  | nil => simp [Go.Lib.indexAny]
  | cons b l ih =>
    unfold Go.Lib.indexAny
    by_cases hb : chars.contains b = true
    · rw [if_pos hb]
      exact ⟨fun _ => ⟨b, by simp, hb⟩, fun _ => by omega⟩
    · have hb' : chars.contains b = false := by simpa using hb
      rw [if_neg hb]
      have hge := Go.Lib.indexAny_ge chars l
      by_cases he : (Go.Lib.indexAny l chars == -1) = true
      · rw [if_pos he]
        have he' : Go.Lib.indexAny l chars = -1 := by simpa using he
        rw [he'] at ih
        constructor
        · intro h; omega
        · rintro ⟨x, hx, hc⟩
          rcases List.mem_cons.1 hx with rfl | hx
          · rw [hb'] at hc; cases hc
          · exact ih.2 ⟨x, hx, hc⟩
      · rw [if_neg he]
        have he' : Go.Lib.indexAny l chars ≠ -1 := by simpa using he
        constructor
        · intro h
          obtain ⟨x, hx, hc⟩ := ih.1 (by omega)
          exact ⟨x, List.mem_cons_of_mem _ hx, hc⟩
        · rintro _; omega
theorem cany_asc (s : ByteArray) (ha : Asc s) (hs : s.size ≤ 1000) : CanyAt s := by
  intro w
  refine FnC.of_calls hbCA (Try.strings_ContainsAny_laid s quotes w (by omega) (by decide) (fun j b hb => ?_) (fun j b hb => ?_)) ?_
  · obtain ⟨hj, rfl⟩ := List.getElem?_eq_some_iff.1 hb
    exact ha j (by simpa using hj)
  · match j, hb with
    | 0, hb => cases hb; decide
    | 1, hb => cases hb; decide
    | n + 2, hb => simp at hb
  · rintro e w' ⟨rfl, hl⟩
    refine ⟨_, rfl, ⟨_, rfl, fun _ => ?_⟩, hl⟩
    rw [any_is]
    constructor
    · rintro ⟨b, hb, hc⟩
      obtain ⟨i, hi, rfl⟩ := List.getElem_of_mem hb
      refine ⟨i, by simpa using hi, ?_⟩
      simp at hc
      rcases hc with hc | hc
      · left; exact congrArg UInt8.toNat hc
      · right; exact congrArg UInt8.toNat hc
    · rintro ⟨i, hi, hc⟩
      refine ⟨s[i], ?_, ?_⟩
      · have : s[i] = s.data.toList[i]'(by simpa using hi) := rfl
        rw [this]
        exact List.getElem_mem _
      · simp
        rcases hc with hc | hc
        · left; exact UInt8.toNat_inj.1 hc
        · right; exact UInt8.toNat_inj.1 hc
theorem value_c (s : ByteArray) (w : World) (hC : s.size ≤ 24 → CanyAt s) : FnC Try.prog 61 #[.string s] w fun r w' => r = .bool (decide (VlOk s)) ∧ Later w w' := by
  refine enter61 _ ?_
  unfold B61
  by_cases h24 : s.size ≤ 24
  case neg =>
    have hno : decide (VlOk s) = false := decide_eq_false fun h => h24 h.2
    repeat' (first | (simp (disch := omega) only [push_cast, ↓reduceIte, zA, zG, zB, zH, zI, zC, zJ, zK, zL, zD, zE, zF, zM, zN, zO, zP, zQ, reduceCtorEq, not_true_eq_false, not_false_eq_true]) | (first | refine vIfE_of ?_ ?_ | refine vIfD_of ?_ ?_ | refine vIfQ_of ?_ ?_ | refine vIfV_of ?_ ?_) <;> intro _ | refine And.intro (by omega) ?_ | refine drawn_q ?_ | fail)
    first | exact ⟨by rw [hno], Later.refl _⟩ | exact Later.refl _
  repeat' (first | (simp (disch := omega) only [push_cast, ↓reduceIte, zA, zG, zB, zH, zI, zC, zJ, zK, zL, zD, zE, zF, zM, zN, zO, zP, zQ, reduceCtorEq, not_true_eq_false, not_false_eq_true]) | (first | refine vIfE_of ?_ ?_ | refine vIfD_of ?_ ?_ | refine vIfQ_of ?_ ?_ | refine vIfV_of ?_ ?_) <;> intro _ | refine And.intro (by omega) ?_ | refine drawn_q ?_ | fail)
  refine (hC h24 w).mono ?_
  rintro _ w1 ⟨⟨t, rfl, ht⟩, l1⟩
  have hidx : FnC Try.prog 95 #[.string s, .func (.func 96) #[] #[]] w1 fun r w' => r = .bool (decide (0 ≤ Go.Lib.idxFunc outR true s)) ∧ Later w1 w' := by
    refine FnC.of_calls hbCF (Try.strings_ContainsFunc_grows 96 #[] hb96 outR s w1 ?_) ?_
    · intro W x hx hW
      refine calls_of_fn hb96 (value1_c x W) ?_
      rintro v w' ⟨rfl, rfl⟩
      exact ⟨rfl, Later.refl _⟩
    · rintro e w' ⟨rfl, hl⟩
      exact ⟨_, rfl, rfl, hl⟩
  have asc_of : decide (0 ≤ Go.Lib.idxFunc outR true s) = false → Asc s := fun h i hi => by have := idx_out.1 h i hi; omega
  cases t with
  | true =>
    have hno : decide (VlOk s) = false := decide_eq_false fun h => by
      have ha : Asc s := fun i hi => by
        have := h.1 i hi
        simp [vlB] at this
        omega
      obtain ⟨i, hi, hc⟩ := (ht ha).1 rfl
      have := h.1 i hi
      simp [vlB] at this
      omega
    repeat' (first | (simp (disch := omega) only [push_cast, ↓reduceIte, zA, zG, zB, zH, zI, zC, zJ, zK, zL, zD, zE, zF, zM, zN, zO, zP, zQ, reduceCtorEq, not_true_eq_false, not_false_eq_true]) | (first | refine vIfE_of ?_ ?_ | refine vIfD_of ?_ ?_ | refine vIfQ_of ?_ ?_ | refine vIfV_of ?_ ?_) <;> intro _ | refine And.intro (by omega) ?_ | refine drawn_q ?_ | fail)
    first | exact ⟨by rw [hno], l1⟩ | exact l1
  | false =>
    repeat' (first | (simp (disch := omega) only [push_cast, ↓reduceIte, zA, zG, zB, zH, zI, zC, zJ, zK, zL, zD, zE, zF, zM, zN, zO, zP, zQ, reduceCtorEq, not_true_eq_false, not_false_eq_true]) | (first | refine vIfE_of ?_ ?_ | refine vIfD_of ?_ ?_ | refine vIfQ_of ?_ ?_ | refine vIfV_of ?_ ?_) <;> intro _ | refine And.intro (by omega) ?_ | refine drawn_q ?_ | fail)
    refine hidx.mono ?_
    rintro _ w2 ⟨rfl, l2⟩
    cases hi : decide (0 ≤ Go.Lib.idxFunc outR true s) with
    | true =>
      have hno : decide (VlOk s) = false := decide_eq_false fun h => by
        have : decide (0 ≤ Go.Lib.idxFunc outR true s) = false := idx_out.2 fun i hi => by
          have := h.1 i hi
          simp [vlB] at this
          omega
        rw [hi] at this; cases this
      repeat' (first | (simp (disch := omega) only [push_cast, ↓reduceIte, zA, zG, zB, zH, zI, zC, zJ, zK, zL, zD, zE, zF, zM, zN, zO, zP, zQ, reduceCtorEq, not_true_eq_false, not_false_eq_true]) | (first | refine vIfE_of ?_ ?_ | refine vIfD_of ?_ ?_ | refine vIfQ_of ?_ ?_ | refine vIfV_of ?_ ?_) <;> intro _ | refine And.intro (by omega) ?_ | refine drawn_q ?_ | fail)
      first | exact ⟨by rw [hno], (l1.trans l2)⟩ | exact (l1.trans l2)
    | false =>
      have hasc := asc_of hi
      have hyes : decide (VlOk s) = true := decide_eq_true ⟨fun i hii => by
        have h1 := idx_out.1 hi i hii
        have h2 : ¬ (s[i].toNat = 34 ∨ s[i].toNat = 92) := fun hc => by
          have := (ht hasc).2 ⟨i, hii, hc⟩
          cases this
        simp [vlB]
        omega, h24⟩
      repeat' (first | (simp (disch := omega) only [push_cast, ↓reduceIte, zA, zG, zB, zH, zI, zC, zJ, zK, zL, zD, zE, zF, zM, zN, zO, zP, zQ, reduceCtorEq, not_true_eq_false, not_false_eq_true]) | (first | refine vIfE_of ?_ ?_ | refine vIfD_of ?_ ?_ | refine vIfQ_of ?_ ?_ | refine vIfV_of ?_ ?_) <;> intro _ | refine And.intro (by omega) ?_ | refine drawn_q ?_ | fail)
      first | exact ⟨by rw [hyes], (l1.trans l2)⟩ | exact (l1.trans l2)
end Go.Proofs.Ythihbgpaoldbjaa
end
