/- Contracts: the document's Join. -/
import Derived.ArgAppend
import Derived.Test.YthihbgpaoldbjaaPartI
set_option linter.all false
open Nat renaming reduceEqDiff → zA, reducePow → zB, reduceMul → zC, reduceAdd → zD, reduceSub → zE, reduceLeDiff → zF
open Int renaming reduceToNat → zG, reducePow → zH, reduceNeg → zI, reduceMul → zJ, reduceAdd → zK, reduceSub → zL, reduceLT → zM, reduceLE → zN, reduceEq → zO, reduceMod → zP, reduceDiv → zQ
section
set_option linter.unusedSimpArgs false
namespace Go.Vc
open Go.RowKit in
/-- An append to an empty literal. -/
theorem vAppend_fresh {P : Program} {w : World} {K : Value → World → Prop} {t e ty : TypeId} {z : Value} {s b : Nat} (ht : P.underlying t = some (.slice e)) (hi : (P.info? e).map (fun i => (i.zero, i.size, i.bytes)) = some (some z, s, b)) (hzs : z.cells.size = s) (hsz : 0 < s)
    {db : Nat} {x : Value} {m : Nat} {news : List Value} (hx : SlN w s x m news) (h63 : m ≤ maxLen) (hb : m * b ≤ 140737488355328)
    (hK : ∀ v' w', (m = 0 → v' = .slice (some ⟨db, 0, none⟩) 0 0 ∧ w' = w) → (0 < m → w'.ownsRow w.heap.size e s v' m news ∧ Later w w') → K v' w') : vAppend P #[t, t] ty #[.slice (some ⟨db, 0, none⟩) 0 0, x] K w := by
  obtain ⟨i, hi1, hz, hsi, hbi⟩ := info_parts hi
  unfold vAppend
  obtain ⟨hl, hr⟩ := hx
  rcases hr with ⟨rfl, rfl⟩ | ⟨ad, c, rfl, hc1, hc2, hc3⟩
  · rw [run_val_pure (run_append_nil_src ht hi (some ⟨db, 0, none⟩) 0 0 (Nat.le_refl _) (fun ho => by cases ho))]
    exact hK _ _ (fun _ => ⟨rfl, rfl⟩) (fun h => absurd h (Nat.lt_irrefl _))
  · by_cases hm : m = 0
    · subst hm
      have hn : news = [] := List.eq_nil_of_length_eq_zero (by simpa using hl)
      subst hn
      have hrun := run_append_room_cells (P := P) w t ty e i ht hi1 db 0 0 0 ad 0 c [] (by simp) (fun j u h => by simp at h) (fun u h => by simp at h) (by omega) (fun j h => by simp at h) (fun j h => by simp at h)
      rw [run_val_pure hrun]
      exact hK _ _ (fun _ => ⟨rfl, rfl⟩) (fun h => absurd h (Nat.lt_irrefl _))
    · obtain ⟨v', w', hrun, ho, hg⟩ := run_append_arg_grows (P := P) w t ty e i z s b ht hi1 hz hsi hbi hzs hsz ⟨db, 0, none⟩ 0 0 [] (by simp) (fun j u h => by simp at h) ad m c news hl hc3 (by omega) (by omega) (by simpa using hb)
      rw [run_val_pure hrun]
      refine hK _ _ (fun h => absurd h hm) (fun _ => ⟨by simpa using ho, hg.os, hg.tape, hg.output, hg.size, fun k hk => hg.block k hk (by simp)⟩)
/-- An append to what hangs on the world. -/
theorem nR_app {P : Program} {args : Array Operand} {ts : Array TypeId} {ty : TypeId} {rs : List Nat} {Ns : NS} {σ : Env} {w : World} {Kv : Value → Prop} {Kn : (Value → World → Prop) → Prop} (V' : Value → World → Prop) (hV' : Stb w V')
    (h : ∀ σ' w', Later w w' → psis Ns σ w' σ' rs → vAppend P ts ty (args.map (ev σ')) (fun v w'' => Later w' w'' ∧ V' v w'') w') (hk : Kn V') : nR P (.call ⟨.builtin .append, args, ts⟩) ty rs Ns σ w Kv Kn :=
  .inr ⟨V', hV', fun σ' w' hl hp => nUp_val (h σ' w' hl hp), hk⟩
end Go.Vc
namespace Go.Proofs.Ythihbgpaoldbjaa
open Go.Vc Go.Key Go.Stab Go.Fold
set_option maxRecDepth 100000
def Lit0 (B : Nat) (v : Value) (w : World) : Prop := (∃ b, v = .slice (some ⟨b, 0, none⟩) 0 0) ∧ OwnS w B v []
theorem stb_lit0 (w0 : World) (B : Nat) : Stb w0 (Lit0 B) := fun _ _ _ _ hl h => ⟨h.1, own_later h.2 hl⟩
set_option maxHeartbeats 1000000 in
theorem djoin_c (x y : El) (w : World) (hx : EIs w x) (hy : EIs w y) (rx : Rr x) (ry : Rr y) (hl : x.a.length = y.a.length) :
    FnC Try.prog 37 #[elV x, elV y] w fun r w' => ∃ z e, r = .tuple #[elV z, .int .i64 e] ∧ JR x y z e ∧ EO w' w.heap.size z ∧ Later w w' := by
  obtain ⟨n1, n2, ra, rd, rl⟩ := rx
  obtain ⟨m1, m2, sa, sd, sl⟩ := ry
  unfold elV
  refine enter37 _ _ ?_
  unfold B37
  have eca : (Value.agg #[.int .i64 x.t, x.dv, .int .i64 x.n, x.av]).cells = #[.int .i64 x.t, x.dv, .int .i64 x.n, x.av] := rfl
  have ecb : (Value.agg #[.int .i64 y.t, y.dv, .int .i64 y.n, y.av]).cells = #[.int .i64 y.t, y.dv, .int .i64 y.n, y.av] := rfl
  have s1 : (w.alloc (.cells #[.int .i64 x.t, x.dv, .int .i64 x.n, x.av] 35)).heap.size = w.heap.size + 1 := World.size_alloc w _
  obtain ⟨l2, F, hs⟩ := boxes w x y hx hy
  repeat' (first | (simp (disch := omega) only [push_cast, ↓reduceIte, zA, zG, zB, zH, zI, zC, zJ, zK, zL, zD, zE, zF, zM, zN, zO, zP, zQ, reduceCtorEq, not_true_eq_false, not_false_eq_true, eca, ecb, s1, hs]) | (first | refine vIfE_of ?_ ?_ | refine vIfD_of ?_ ?_ | refine vIfQ_of ?_ ?_ | refine vIfV_of ?_ ?_) <;> intro _ | refine And.intro (by omega) ?_ | fail)
  generalize ((w.alloc (.cells #[.int .i64 x.t, x.dv, .int .i64 x.n, x.av] 35)).alloc (.cells #[.int .i64 y.t, y.dv, .int .i64 y.n, y.av] 35)) = w2 at *
  have l3 := later_alloc w2 (.cells #[.int .i64 0, .slice none 0 0, .int .i64 0, .slice none 0 0] 35)
  have B3 := Blk.new w2 #[.int .i64 0, .slice none 0 0, .int .i64 0, .slice none 0 0] 35
  rw [hs] at B3
  generalize w2.alloc (.cells #[.int .i64 0, .slice none 0 0, .int .i64 0, .slice none 0 0] 35) = w3 at *
  have G := fun w' (hl : Later w3 w') => F w' (l3.trans hl)
  have l03 := l2.trans l3
  clear F eca ecb s1
  obtain ⟨hx3, hy3, _, _, a0, a1, a2, a3, a4, b0, b1, b2, b3, b4⟩ := G w3 (Later.refl _)
  obtain ⟨ox, cx, hax, gx1, gx2⟩ := RecS.slice hx.2
  obtain ⟨oy, cy, hay, gy1, gy2⟩ := RecS.slice hy.2
  have hbig : w.heap.size + 2 < w3.heap.size := B3.lt
  repeat' (first | (simp (disch := omega) only [push_cast, ↓reduceIte, zA, zG, zB, zH, zI, zC, zJ, zK, zL, zD, zE, zF, zM, zN, zO, zP, zQ, reduceCtorEq, not_true_eq_false, not_false_eq_true, a4, b4]) | (first | refine vIfE_of ?_ ?_ | refine vIfD_of ?_ ?_ | refine vIfQ_of ?_ ?_ | refine vIfV_of ?_ ?_) <;> intro _ | refine And.intro (by omega) ?_ | refine drawn_q ?_ | fail)
  refine (onekey_c x y w3 hx3 hy3).mono ?_
  rintro _ w4 ⟨rfl, l4⟩
  obtain ⟨hx4, hy4, _, _, a0, a1, a2, a3, a4, b0, b1, b2, b3, b4⟩ := G w4 l4
  rw [hax] at a3
  rw [hay] at b3
  by_cases hc : ecmp x y = 0
  case neg =>
    have hj : JR x y z0 131 := .inl ⟨hc, rfl, rfl⟩
    rw [decide_eq_false hc]
    repeat' (first | (simp (disch := omega) only [push_cast, ↓reduceIte, zA, zG, zB, zH, zI, zC, zJ, zK, zL, zD, zE, zF, zM, zN, zO, zP, zQ, reduceCtorEq, not_true_eq_false, not_false_eq_true, a2, a3, b2, b3, addr_add_eq, Nat.zero_add]) | (first | refine vIfE_of ?_ ?_ | refine vIfD_of ?_ ?_ | refine vIfQ_of ?_ ?_ | refine vIfV_of ?_ ?_) <;> intro _ | refine And.intro (by omega) ?_ | refine drawn_q ?_ | fail)
    refine vStore_blk (l := [.int .i64 0, .slice none 0 0, .int .i64 0, .slice none 0 0]) (xs := elC z0) (B3.chg (Chg.of_later (ks := []) (l4)) (by simp)) rfl rfl (elC_one (EO.zero w4 0).is) ?_
    intro w9 B9 c9
    repeat' (first | (simp (disch := omega) only [push_cast, ↓reduceIte, zA, zG, zB, zH, zI, zC, zJ, zK, zL, zD, zE, zF, zM, zN, zO, zP, zQ, reduceCtorEq, not_true_eq_false, not_false_eq_true]) | (first | refine vIfE_of ?_ ?_ | refine vIfD_of ?_ ?_ | refine vIfQ_of ?_ ?_ | refine vIfV_of ?_ ?_) <;> intro _ | refine And.intro (by omega) ?_ | refine drawn_q ?_ | fail)
    refine resK_cells (s := 4) (by simp (disch := omega) only [push_cast, ↓reduceIte, zA, zG, zB, zH, zI, zC, zJ, zK, zL, zD, zE, zF, zM, zN, zO, zP, zQ, reduceCtorEq, not_true_eq_false, not_false_eq_true]) (by rw [Try.underlying35]; exact sz35) (Blk.cellsAt (l := elC z0) B9) ?_
    repeat' (first | (simp (disch := omega) only [push_cast, ↓reduceIte, zA, zG, zB, zH, zI, zC, zJ, zK, zL, zD, zE, zF, zM, zN, zO, zP, zQ, reduceCtorEq, not_true_eq_false, not_false_eq_true]) | (first | refine vIfE_of ?_ ?_ | refine vIfD_of ?_ ?_ | refine vIfQ_of ?_ ?_ | refine vIfV_of ?_ ?_) <;> intro _ | refine And.intro (by omega) ?_ | refine drawn_q ?_ | fail)
    exact ⟨z0, 131, rfl, hj, EO.zero _ _, Chg.later (l03.trans (l4)) c9 (by intro j hj; rw [List.mem_singleton.1 hj]; omega)⟩
  rw [decide_eq_true hc]
  by_cases hn : 1048576 < x.n + y.n
  · have hj : JR x y z0 121 := .inr (.inl ⟨hc, by rw [jn_abs, if_pos hn], rfl, rfl⟩)
    repeat' (first | (simp (disch := omega) only [push_cast, ↓reduceIte, zA, zG, zB, zH, zI, zC, zJ, zK, zL, zD, zE, zF, zM, zN, zO, zP, zQ, reduceCtorEq, not_true_eq_false, not_false_eq_true, a2, a3, b2, b3, addr_add_eq, Nat.zero_add]) | (first | refine vIfE_of ?_ ?_ | refine vIfD_of ?_ ?_ | refine vIfQ_of ?_ ?_ | refine vIfV_of ?_ ?_) <;> intro _ | refine And.intro (by omega) ?_ | refine drawn_q ?_ | fail)
    refine vStore_blk (l := [.int .i64 0, .slice none 0 0, .int .i64 0, .slice none 0 0]) (xs := elC z0) (B3.chg (Chg.of_later (ks := []) (l4)) (by simp)) rfl rfl (elC_one (EO.zero w4 0).is) ?_
    intro w9 B9 c9
    repeat' (first | (simp (disch := omega) only [push_cast, ↓reduceIte, zA, zG, zB, zH, zI, zC, zJ, zK, zL, zD, zE, zF, zM, zN, zO, zP, zQ, reduceCtorEq, not_true_eq_false, not_false_eq_true]) | (first | refine vIfE_of ?_ ?_ | refine vIfD_of ?_ ?_ | refine vIfQ_of ?_ ?_ | refine vIfV_of ?_ ?_) <;> intro _ | refine And.intro (by omega) ?_ | refine drawn_q ?_ | fail)
    refine resK_cells (s := 4) (by simp (disch := omega) only [push_cast, ↓reduceIte, zA, zG, zB, zH, zI, zC, zJ, zK, zL, zD, zE, zF, zM, zN, zO, zP, zQ, reduceCtorEq, not_true_eq_false, not_false_eq_true]) (by rw [Try.underlying35]; exact sz35) (Blk.cellsAt (l := elC z0) B9) ?_
    repeat' (first | (simp (disch := omega) only [push_cast, ↓reduceIte, zA, zG, zB, zH, zI, zC, zJ, zK, zL, zD, zE, zF, zM, zN, zO, zP, zQ, reduceCtorEq, not_true_eq_false, not_false_eq_true]) | (first | refine vIfE_of ?_ ?_ | refine vIfD_of ?_ ?_ | refine vIfQ_of ?_ ?_ | refine vIfV_of ?_ ?_) <;> intro _ | refine And.intro (by omega) ?_ | refine drawn_q ?_ | fail)
    exact ⟨z0, 121, rfl, hj, EO.zero _ _, Chg.later (l03.trans (l4)) c9 (by intro j hj; rw [List.mem_singleton.1 hj]; omega)⟩
  repeat' (first | (simp (disch := omega) only [push_cast, ↓reduceIte, zA, zG, zB, zH, zI, zC, zJ, zK, zL, zD, zE, zF, zM, zN, zO, zP, zQ, reduceCtorEq, not_true_eq_false, not_false_eq_true, a2, a3, b2, b3, addr_add_eq, Nat.zero_add]) | (first | refine vIfE_of ?_ ?_ | refine vIfD_of ?_ ?_ | refine vIfQ_of ?_ ?_ | refine vIfV_of ?_ ?_) <;> intro _ | refine And.intro (by omega) ?_ | fail)
  refine drawn_k 13 ?_
  repeat' (first | (simp (disch := omega) only [push_cast, ↓reduceIte, zA, zG, zB, zH, zI, zC, zJ, zK, zL, zD, zE, zF, zM, zN, zO, zP, zQ, reduceCtorEq, not_true_eq_false, not_false_eq_true, a0, a1, a2, b2, addr_add_eq, Nat.zero_add]) | (first | refine vIfE_of ?_ ?_ | refine vIfD_of ?_ ?_ | refine vIfQ_of ?_ ?_ | refine vIfV_of ?_ ?_) <;> intro _ | refine And.intro (by omega) ?_ | fail)
  have hsz4 : w.heap.size ≤ w4.heap.size := (l03.trans l4).size
  refine nB_of _ (Lit0 w.heap.size) (stb_lit0 _ _) (fun w' hl => ?_) ?_
  · repeat' (first | (simp (disch := omega) only [push_cast, ↓reduceIte, zA, zG, zB, zH, zI, zC, zJ, zK, zL, zD, zE, zF, zM, zN, zO, zP, zQ, reduceCtorEq, not_true_eq_false, not_false_eq_true]) | (first | refine vIfE_of ?_ ?_ | refine vIfD_of ?_ ?_ | refine vIfQ_of ?_ ?_ | refine vIfV_of ?_ ?_) <;> intro _ | refine And.intro (by omega) ?_ | fail)
    exact ⟨later_alloc _ _, ⟨_, rfl⟩, own_lit w' [] _ 1 0 rfl (by unfold maxLen; omega) (Nat.le_trans hsz4 hl.size)⟩
  repeat' (first | (simp (disch := omega) only [push_cast, ↓reduceIte, zA, zG, zB, zH, zI, zC, zJ, zK, zL, zD, zE, zF, zM, zN, zO, zP, zQ, reduceCtorEq, not_true_eq_false, not_false_eq_true, a0, a1, a2, b2, addr_add_eq, Nat.zero_add]) | (first | refine vIfE_of ?_ ?_ | refine vIfD_of ?_ ?_ | refine vIfQ_of ?_ ?_ | refine vIfV_of ?_ ?_) <;> intro _ | refine And.intro (by omega) ?_ | fail)
  refine nR_app (fun v w' => OwnS w' w.heap.size v x.d) (stb_ownS _ _ _) (fun σ' w' hl hp => ?_) ?_
  · obtain ⟨hp26, hp28, _⟩ := hp
    obtain ⟨⟨lb, h26⟩, h26o⟩ : Lit0 w.heap.size (σ' 26) w' := hp26
    have h28 : σ' 28 = x.dv := hp28
    have hxs := (hx4.later hl).1
    have hsn : SlN w' 1 x.dv x.d.length (x.d.map Value.string) := by
      have := hxs
      unfold StS Sl at this
      rwa [List.length_map] at this
    rw [h26] at h26o
    repeat' (first | (simp (disch := omega) only [push_cast, ↓reduceIte, zA, zG, zB, zH, zI, zC, zJ, zK, zL, zD, zE, zF, zM, zN, zO, zP, zQ, reduceCtorEq, not_true_eq_false, not_false_eq_true, h28, h26]) | (first | refine vIfE_of ?_ ?_ | refine vIfD_of ?_ ?_ | refine vIfQ_of ?_ ?_ | refine vIfV_of ?_ ?_) <;> intro _ | refine And.intro (by omega) ?_ | fail)
    refine vAppend_fresh Try.underlying22 ti9 rfl (by decide) hsn (by unfold maxLen; omega) (by omega) ?_
    intro v' w'' h0 h1
    rcases Nat.eq_zero_or_pos x.d.length with hz | hz
    · obtain ⟨rfl, rfl⟩ := h0 hz
      have : x.d = [] := List.length_eq_zero_iff.1 hz
      rw [this]
      exact ⟨Later.refl _, h26o⟩
    · obtain ⟨ho, hll⟩ := h1 hz
      exact ⟨hll, own_base ho (Nat.le_trans hsz4 hl.size)⟩
  repeat' (first | (simp (disch := omega) only [push_cast, ↓reduceIte, zA, zG, zB, zH, zI, zC, zJ, zK, zL, zD, zE, zF, zM, zN, zO, zP, zQ, reduceCtorEq, not_true_eq_false, not_false_eq_true, a0, a1, a2, b2, addr_add_eq, Nat.zero_add]) | (first | refine vIfE_of ?_ ?_ | refine vIfD_of ?_ ?_ | refine vIfQ_of ?_ ?_ | refine vIfV_of ?_ ?_) <;> intro _ | refine And.intro (by omega) ?_ | fail)
  refine nR_bld (RowB w.heap.size x.t (x.n + y.n) x.d) (stb_rowB _ _ _ _ _) (fun σ' w' hl hp => ?_) ?_
  · obtain ⟨hp25, hp29, hp34, _⟩ := hp
    have h25 : σ' 25 = .int .i64 x.t := hp25
    have h29 : OwnS w' w.heap.size (σ' 29) x.d := hp29
    have h34 : σ' 34 = .int .i64 (x.n + y.n) := hp34
    obtain ⟨o3, c3, hv, _⟩ := Sl.openM (Sl.of_own h29 : Sl w' (σ' 29) (x.d.map Value.string))
    rw [hv] at h29
    repeat' (first | (simp (disch := omega) only [push_cast, ↓reduceIte, zA, zG, zB, zH, zI, zC, zJ, zK, zL, zD, zE, zF, zM, zN, zO, zP, zQ, reduceCtorEq, not_true_eq_false, not_false_eq_true, h25, hv, h34]) | (first | refine vIfE_of ?_ ?_ | refine vIfD_of ?_ ?_ | refine vIfQ_of ?_ ?_ | refine vIfV_of ?_ ?_) <;> intro _ | refine And.intro (by omega) ?_ | fail)
    exact ⟨Later.refl _, _, rfl, h29⟩
  repeat' (first | (simp (disch := omega) only [push_cast, ↓reduceIte, zA, zG, zB, zH, zI, zC, zJ, zK, zL, zD, zE, zF, zM, zN, zO, zP, zQ, reduceCtorEq, not_true_eq_false, not_false_eq_true]) | (first | refine vIfE_of ?_ ?_ | refine vIfD_of ?_ ?_ | refine vIfQ_of ?_ ?_ | refine vIfV_of ?_ ?_) <;> intro _ | refine And.intro (by omega) ?_ | fail)
  refine nA_of _ (PtV w4 35 #[.int .i64 0, .slice none 0 0, .int .i64 0, .slice none 0 0]) (stb_pt _ _ _ _) (fun w' hl => ?_) ?_
  · repeat' (first | (simp (disch := omega) only [push_cast, ↓reduceIte, zA, zG, zB, zH, zI, zC, zJ, zK, zL, zD, zE, zF, zM, zN, zO, zP, zQ, reduceCtorEq, not_true_eq_false, not_false_eq_true]) | (first | refine vIfE_of ?_ ?_ | refine vIfD_of ?_ ?_ | refine vIfQ_of ?_ ?_ | refine vIfV_of ?_ ?_) <;> intro _ | refine And.intro (by omega) ?_ | fail)
    exact ⟨later_alloc _ _, w'.heap.size, rfl, hl.size, Blk.new _ _ _⟩
  repeat' (first | (simp (disch := omega) only [push_cast, ↓reduceIte, zA, zG, zB, zH, zI, zC, zJ, zK, zL, zD, zE, zF, zM, zN, zO, zP, zQ, reduceCtorEq, not_true_eq_false, not_false_eq_true]) | (first | refine vIfE_of ?_ ?_ | refine vIfD_of ?_ ?_ | refine vIfQ_of ?_ ?_ | refine vIfV_of ?_ ?_) <;> intro _ | refine And.intro (by omega) ?_ | fail)
  rintro w5 l5 _ ⟨b, rfl, hb4, Bb⟩ _ ⟨u, rfl, hu⟩ _ _ _ _
  obtain ⟨ou, cu, rfl, _⟩ := Sl.openM (Sl.of_own hu : Sl w5 u (x.d.map Value.string))
  have hE0 : EO w5 w.heap.size ⟨x.t, x.d, x.n + y.n, [], .slice ou x.d.length cu, .slice none 0 0⟩ := ⟨hu, OwnR.nil _ _ _⟩
  generalize hU : Value.slice ou x.d.length cu = U at *
  refine vStore_blk (l := [.int .i64 0, .slice none 0 0, .int .i64 0, .slice none 0 0]) (xs := elC ⟨x.t, x.d, x.n + y.n, [], U, .slice none 0 0⟩) Bb rfl rfl (elC_one hE0.is) ?_
  intro w6 Bb6 c6
  have l35 := l4.trans l5
  have hb2 : w.heap.size + 2 < b := Nat.lt_of_lt_of_le hbig (Nat.le_trans l4.size hb4)
  have B35 := B3.chg (Chg.of_later (ks := []) l35) (by simp)
  obtain ⟨_, _, bx5, by5, _⟩ := G w5 l35
  have J0 : JS w w6 b x y U 0 := ⟨by omega, Chg.later (l03.trans l35) c6 (by intro j hj; rw [List.mem_singleton.1 hj]; omega), bx5.chg c6 (by simp; omega), by5.chg c6 (by simp; omega), B35.chg c6 (by simp; omega), [], .slice none 0 0, Bb6, hE0.chg Bb c6, by simp [jaggs]⟩
  clear hE0 Bb6 c6 Bb B35 bx5 by5 G hx4 hy4 a0 a1 a2 a3 a4 b0 b1 b2 b3 b4 hx3 hy3 B3 l2 l3 l03 l4 l5 l35 hu hs
  have f3 : w6.cell? ⟨w.heap.size, 3, none⟩ = some (.slice ox x.a.length cx) := by have := J0.bx.cell 3; rw [← hax]; exact this
  repeat' (first | (simp (disch := omega) only [push_cast, ↓reduceIte, zA, zG, zB, zH, zI, zC, zJ, zK, zL, zD, zE, zF, zM, zN, zO, zP, zQ, reduceCtorEq, not_true_eq_false, not_false_eq_true, f3, addr_add_eq, Nat.zero_add]) | (first | refine vIfE_of ?_ ?_ | refine vIfD_of ?_ ?_ | refine vIfQ_of ?_ ?_ | refine vIfV_of ?_ ?_) <;> intro _ | refine And.intro (by omega) ?_ | refine drawn_q ?_ | fail)
  clear f3
  have fin : ∀ w' z e, JR x y z e → EO w' w.heap.size z → Later w w' → ∃ z e', Value.tuple #[elV z, .int .i64 e] = .tuple #[elV z, .int .i64 e'] ∧ True := fun w' z e _ _ _ => ⟨z, e, rfl, trivial⟩
  refine vc_loop W37_0 (fun i : Nat => [(8, .int .i64 (i : Int))]) (fun i w' => JS w w' b x y U i) (fun i => x.a.length - i) 0 (by decide) ?_ ?_ ?_
  · simp (disch := omega) only [push_cast, ↓reduceIte, zA, zG, zB, zH, zI, zC, zJ, zK, zL, zD, zE, zF, zM, zN, zO, zP, zQ, reduceCtorEq, not_true_eq_false, not_false_eq_true]
  · exact J0
  clear J0 fin
  rintro i uu w7 J
  have hle := J.le
  have hx7 := (hx.later J.later).2
  have hy7 := (hy.later J.later).2
  rw [hax] at hx7
  rw [hay] at hy7
  by_cases hlt : i < x.a.length
  · have hlt2 : i < y.a.length := by omega
    obtain ⟨lst, av, Bc, hE, hjl⟩ := J.cur
    have hstep := jaggs_step hl hlt hlt2 hjl
    have hAa := ra _ (List.getElem_mem hlt)
    have hAc := sa _ (List.getElem_mem hlt2)
    obtain ⟨aa, rfl, f1⟩ := RecS.at agC_len hx7 hlt
    obtain ⟨bb, rfl, f2⟩ := RecS.at agC_len hy7 hlt2
    have g3 : w7.cell? ⟨w.heap.size + 1, 3, none⟩ = some (.slice (some bb) y.a.length cy) := by have := J.by_.cell 3; rw [← hay]; exact this
    generalize x.a[i] = a at *
    generalize y.a[i] = c at *
    have g2 : w7.cell? ⟨w.heap.size, 3, none⟩ = some (.slice (some aa) x.a.length cx) := by have := J.bx.cell 3; rw [← hax]; exact this
    have J8 := J
    repeat' (first | (simp (disch := omega) only [push_cast, ↓reduceIte, zA, zG, zB, zH, zI, zC, zJ, zK, zL, zD, zE, zF, zM, zN, zO, zP, zQ, reduceCtorEq, not_true_eq_false, not_false_eq_true, g2, addr_add_eq, Nat.zero_add]) | (first | refine vIfE_of ?_ ?_ | refine vIfD_of ?_ ?_ | refine vIfQ_of ?_ ?_ | refine vIfV_of ?_ ?_) <;> intro _ | refine And.intro (by omega) ?_ | fail)
    refine drawnS_k 15 ?_
    repeat' (first | (simp (disch := omega) only [push_cast, ↓reduceIte, zA, zG, zB, zH, zI, zC, zJ, zK, zL, zD, zE, zF, zM, zN, zO, zP, zQ, reduceCtorEq, not_true_eq_false, not_false_eq_true, g2, f1, g3, f2, addr_add_eq, Nat.zero_add]) | (first | refine vIfE_of ?_ ?_ | refine vIfD_of ?_ ?_ | refine vIfQ_of ?_ ?_ | refine vIfV_of ?_ ?_) <;> intro _ | refine And.intro (by omega) ?_ | fail)
    refine NFn.fix hb75 (v := jnV a c) (fun w' _ => cajoin_c a c w' hAa hAc) ?_
    by_cases hf : Fi (a.1 + c.1)
    · have jt : jnV a c = .tuple #[agV (ajn a c), .int .i64 0] := if_pos hf
      rw [jt]
      repeat' (first | (simp (disch := omega) only [push_cast, ↓reduceIte, zA, zG, zB, zH, zI, zC, zJ, zK, zL, zD, zE, zF, zM, zN, zO, zP, zQ, reduceCtorEq, not_true_eq_false, not_false_eq_true]) | (first | refine vIfE_of ?_ ?_ | refine vIfD_of ?_ ?_ | refine vIfQ_of ?_ ?_ | refine vIfV_of ?_ ?_) <;> intro _ | refine And.intro (by omega) ?_ | fail)
      refine nA_of _ (PtV w7 64 #[.int .i64 0, .int .i64 0, .int .i64 0]) (stb_pt _ _ _ _) (fun w' hl => ?_) ?_
      · repeat' (first | (simp (disch := omega) only [push_cast, ↓reduceIte, zA, zG, zB, zH, zI, zC, zJ, zK, zL, zD, zE, zF, zM, zN, zO, zP, zQ, reduceCtorEq, not_true_eq_false, not_false_eq_true]) | (first | refine vIfE_of ?_ ?_ | refine vIfD_of ?_ ?_ | refine vIfQ_of ?_ ?_ | refine vIfV_of ?_ ?_) <;> intro _ | refine And.intro (by omega) ?_ | fail)
        exact ⟨later_alloc _ _, w'.heap.size, rfl, hl.size, Blk.new _ _ _⟩
      repeat' (first | (simp (disch := omega) only [push_cast, ↓reduceIte, zA, zG, zB, zH, zI, zC, zJ, zK, zL, zD, zE, zF, zM, zN, zO, zP, zQ, reduceCtorEq, not_true_eq_false, not_false_eq_true]) | (first | refine vIfE_of ?_ ?_ | refine vIfD_of ?_ ?_ | refine vIfQ_of ?_ ?_ | refine vIfV_of ?_ ?_) <;> intro _ | refine And.intro (by omega) ?_ | fail)
      refine ⟨rfl, fun w9 l9 => ?_⟩
      rintro _ ⟨b9, rfl, hb9, B9⟩
      refine ⟨by simp (disch := omega) only [push_cast, ↓reduceIte, zA, zG, zB, zH, zI, zC, zJ, zK, zL, zD, zE, zF, zM, zN, zO, zP, zQ, reduceCtorEq, not_true_eq_false, not_false_eq_true, implies_true, and_self], ?_⟩
      repeat' (first | (simp (disch := omega) only [push_cast, ↓reduceIte, zA, zG, zB, zH, zI, zC, zJ, zK, zL, zD, zE, zF, zM, zN, zO, zP, zQ, reduceCtorEq, not_true_eq_false, not_false_eq_true]) | (first | refine vIfE_of ?_ ?_ | refine vIfD_of ?_ ?_ | refine vIfQ_of ?_ ?_ | refine vIfV_of ?_ ?_) <;> intro _ | refine And.intro (by omega) ?_ | fail)
      refine vStore_blk (l := [.int .i64 0, .int .i64 0, .int .i64 0]) (xs := agC (ajn a c)) B9 rfl rfl (agC_one _) ?_
      intro w10 B10 c10
      have l810 := Chg.later l9 c10 (by intro j hj; rw [List.mem_singleton.1 hj]; exact hb9)
      have J10 := J8.step l810
      have f10 : cellsAt w10 ⟨b9, 0, none⟩ 3 = some (agC (ajn a c)) := Blk.cellsAt (l := agC (ajn a c)) B10
      clear c10 B9 l9 hb9 J8
      obtain ⟨_, hla, hbx, hby, hbz, lst', av', Bc', hE', hjl'⟩ := J10
      have hll : lst' = lst := by rw [hjl] at hjl'; exact (Option.some.inj hjl').symm
      subst hll
      obtain ⟨oa, ca, hav, _⟩ := RecS.slice (OwnR.s hE'.2)
      have hav : av' = .slice oa lst'.length ca := hav
      subst hav
      have hll2 := jaggs_len _ _ _ (by simp; omega) hjl'
      rw [List.length_take] at hll2
      have f11 : w10.cell? ⟨b, 3, none⟩ = some (.slice oa lst'.length ca) := Bc'.cell 3
      have f10' : cellsAt w10 ⟨b9, 0, none⟩ 3 = some [.int .i64 (ajn a c).1, .int .i64 (ajn a c).2.1, .int .i64 (ajn a c).2.2] := f10
      repeat' (first | (simp (disch := omega) only [push_cast, ↓reduceIte, zA, zG, zB, zH, zI, zC, zJ, zK, zL, zD, zE, zF, zM, zN, zO, zP, zQ, reduceCtorEq, not_true_eq_false, not_false_eq_true, f10', f11, addr_add_eq, Nat.zero_add]) | (first | refine vIfE_of ?_ ?_ | refine vIfD_of ?_ ?_ | refine vIfQ_of ?_ ?_ | refine vIfV_of ?_ ?_) <;> intro _ | refine And.intro (by omega) ?_ | refine drawn_q ?_ | fail)
      have la := later_alloc w10 (.cells #[.int .i64 (ajn a c).1, .int .i64 (ajn a c).2.1, .int .i64 (ajn a c).2.2] 64)
      have Bl := Blk.new w10 #[.int .i64 (ajn a c).1, .int .i64 (ajn a c).2.1, .int .i64 (ajn a c).2.2] 64
      have hEa := hE'.later la
      have hOA : OwnA (w10.alloc (.cells #[.int .i64 (ajn a c).1, .int .i64 (ajn a c).2.1, .int .i64 (ajn a c).2.2] 64)) w.heap.size (.slice oa lst'.length ca) lst' := hEa.2
      refine vAppend_rs agC_len agC_one Try.underlying33 ti64 rfl (by decide) hOA (RecS.lit1 (agC_len _) Bl) (by simp; omega) (by omega) (Nat.le_trans hla.size la.size) ?_
      intro v' w12 ho hg _
      have cl := Chg.of_later (ks := []) la
      have q1 : Blk w12 _ _ 35 := grown_obj hOA hg (hbx.chg cl (by simp)) (fun cs h => by simp at h)
      have q2 : Blk w12 _ _ 35 := grown_obj hOA hg (hby.chg cl (by simp)) (fun cs h => by simp at h)
      have q3 : Blk w12 _ _ 35 := grown_obj hOA hg (hbz.chg cl (by simp)) (fun cs h => by simp at h)
      have q4 : Blk w12 b _ 35 := grown_obj hOA hg (Bc'.chg cl (by simp)) (fun cs h => by simp at h)
      have q5 := (hla.trans la).appended hOA (Nat.le_refl _) hg
      have q6 : OwnS w12 w.heap.size U x.d := ownS_grown hEa.1 hOA hg
      obtain ⟨o2, c2, hv2, _⟩ := RecS.slice (OwnR.s ho)
      subst hv2
      have hfz := q4.frozen 3
      have hce : ∃ y, w12.cell? ⟨b, 3, none⟩ = some y := ⟨_, q4.cell 3⟩
      have gc := chg_setCell (i := 3) w12 (ks := [b]) (k := b) (by simp) (.slice o2 (lst' ++ [ajn a c]).length c2)
      have z5 := q4.set 3 (.slice o2 (lst' ++ [ajn a c]).length c2)
      repeat' (first | (simp (disch := omega) only [push_cast, ↓reduceIte, zA, zG, zB, zH, zI, zC, zJ, zK, zL, zD, zE, zF, zM, zN, zO, zP, zQ, reduceCtorEq, not_true_eq_false, not_false_eq_true, hfz, hce, addr_add_eq, Nat.zero_add]) | (first | refine vIfE_of ?_ ?_ | refine vIfD_of ?_ ?_ | refine vIfQ_of ?_ ?_ | refine vIfV_of ?_ ?_) <;> intro _ | refine And.intro (by omega) ?_ | refine drawn_q ?_ | fail)
      have hJ : JS w (w12.setCell ⟨b, 3, none⟩ (.slice o2 (lst' ++ [ajn a c]).length c2)) b x y U (i + 1) :=
        ⟨by omega, gc.later q5 (by intro j hj; rw [List.mem_singleton.1 hj]; omega), q1.chg gc (by simp; omega), q2.chg gc (by simp; omega), q3.chg gc (by simp; omega), lst' ++ [ajn a c], _, z5, ⟨own_chg_ty q6 q4 (by decide) gc, own_chg_ty ho q4 (by decide) gc⟩, hstep.1 hf⟩
      exact ⟨rfl, i + 1, by simp (disch := omega) only [push_cast, ↓reduceIte, zA, zG, zB, zH, zI, zC, zJ, zK, zL, zD, zE, zF, zM, zN, zO, zP, zQ, reduceCtorEq, not_true_eq_false, not_false_eq_true], hJ, by dsimp only; omega⟩
    · have jt : jnV a c = .tuple #[agV (0, 0, 0), .int .i64 121] := if_neg hf
      have hj : JR x y z0 121 := .inr (.inl ⟨hc, by rw [jn_abs, if_neg hn, hstep.2 hf]; rfl, rfl, rfl⟩)
      rw [jt]
      repeat' (first | (simp (disch := omega) only [push_cast, ↓reduceIte, zA, zG, zB, zH, zI, zC, zJ, zK, zL, zD, zE, zF, zM, zN, zO, zP, zQ, reduceCtorEq, not_true_eq_false, not_false_eq_true]) | (first | refine vIfE_of ?_ ?_ | refine vIfD_of ?_ ?_ | refine vIfQ_of ?_ ?_ | refine vIfV_of ?_ ?_) <;> intro _ | refine And.intro (by omega) ?_ | fail)
      refine nA_of _ (PtV w7 64 #[.int .i64 0, .int .i64 0, .int .i64 0]) (stb_pt _ _ _ _) (fun w' hl => ?_) ?_
      · repeat' (first | (simp (disch := omega) only [push_cast, ↓reduceIte, zA, zG, zB, zH, zI, zC, zJ, zK, zL, zD, zE, zF, zM, zN, zO, zP, zQ, reduceCtorEq, not_true_eq_false, not_false_eq_true]) | (first | refine vIfE_of ?_ ?_ | refine vIfD_of ?_ ?_ | refine vIfQ_of ?_ ?_ | refine vIfV_of ?_ ?_) <;> intro _ | refine And.intro (by omega) ?_ | fail)
        exact ⟨later_alloc _ _, w'.heap.size, rfl, hl.size, Blk.new _ _ _⟩
      repeat' (first | (simp (disch := omega) only [push_cast, ↓reduceIte, zA, zG, zB, zH, zI, zC, zJ, zK, zL, zD, zE, zF, zM, zN, zO, zP, zQ, reduceCtorEq, not_true_eq_false, not_false_eq_true]) | (first | refine vIfE_of ?_ ?_ | refine vIfD_of ?_ ?_ | refine vIfQ_of ?_ ?_ | refine vIfV_of ?_ ?_) <;> intro _ | refine And.intro (by omega) ?_ | fail)
      refine ⟨rfl, fun w9 l9 => ?_⟩
      rintro _ ⟨b9, rfl, hb9, B9⟩
      refine ⟨by simp (disch := omega) only [push_cast, ↓reduceIte, zA, zG, zB, zH, zI, zC, zJ, zK, zL, zD, zE, zF, zM, zN, zO, zP, zQ, reduceCtorEq, not_true_eq_false, not_false_eq_true, implies_true, and_self], ?_⟩
      repeat' (first | (simp (disch := omega) only [push_cast, ↓reduceIte, zA, zG, zB, zH, zI, zC, zJ, zK, zL, zD, zE, zF, zM, zN, zO, zP, zQ, reduceCtorEq, not_true_eq_false, not_false_eq_true]) | (first | refine vIfE_of ?_ ?_ | refine vIfD_of ?_ ?_ | refine vIfQ_of ?_ ?_ | refine vIfV_of ?_ ?_) <;> intro _ | refine And.intro (by omega) ?_ | fail)
      refine vStore_blk (l := [.int .i64 0, .int .i64 0, .int .i64 0]) (xs := agC (0, 0, 0)) B9 rfl rfl (agC_one _) ?_
      intro w10 B10 c10
      have l810 := Chg.later l9 c10 (by intro j hj; rw [List.mem_singleton.1 hj]; exact hb9)
      have J10 := J8.step l810
      have f10 : cellsAt w10 ⟨b9, 0, none⟩ 3 = some (agC (0, 0, 0)) := Blk.cellsAt (l := agC (0, 0, 0)) B10
      clear c10 B9 l9 hb9 J8
      repeat' (first | (simp (disch := omega) only [push_cast, ↓reduceIte, zA, zG, zB, zH, zI, zC, zJ, zK, zL, zD, zE, zF, zM, zN, zO, zP, zQ, reduceCtorEq, not_true_eq_false, not_false_eq_true]) | (first | refine vIfE_of ?_ ?_ | refine vIfD_of ?_ ?_ | refine vIfQ_of ?_ ?_ | refine vIfV_of ?_ ?_) <;> intro _ | refine And.intro (by omega) ?_ | refine drawn_q ?_ | fail)
      refine vStore_blk (l := [.int .i64 0, .slice none 0 0, .int .i64 0, .slice none 0 0]) (xs := elC z0) J10.bz rfl rfl (elC_one (EO.zero w10 0).is) ?_
      intro w11 B11 c11
      repeat' (first | (simp (disch := omega) only [push_cast, ↓reduceIte, zA, zG, zB, zH, zI, zC, zJ, zK, zL, zD, zE, zF, zM, zN, zO, zP, zQ, reduceCtorEq, not_true_eq_false, not_false_eq_true]) | (first | refine vIfE_of ?_ ?_ | refine vIfD_of ?_ ?_ | refine vIfQ_of ?_ ?_ | refine vIfV_of ?_ ?_) <;> intro _ | refine And.intro (by omega) ?_ | refine drawn_q ?_ | fail)
      refine resK_cells (s := 4) (by simp (disch := omega) only [push_cast, ↓reduceIte, zA, zG, zB, zH, zI, zC, zJ, zK, zL, zD, zE, zF, zM, zN, zO, zP, zQ, reduceCtorEq, not_true_eq_false, not_false_eq_true]) (by rw [Try.underlying35]; exact sz35) (Blk.cellsAt (l := elC z0) B11) ?_
      repeat' (first | (simp (disch := omega) only [push_cast, ↓reduceIte, zA, zG, zB, zH, zI, zC, zJ, zK, zL, zD, zE, zF, zM, zN, zO, zP, zQ, reduceCtorEq, not_true_eq_false, not_false_eq_true]) | (first | refine vIfE_of ?_ ?_ | refine vIfD_of ?_ ?_ | refine vIfQ_of ?_ ?_ | refine vIfV_of ?_ ?_) <;> intro _ | refine And.intro (by omega) ?_ | refine drawn_q ?_ | fail)
      exact ⟨z0, 121, rfl, hj, EO.zero _ _, Chg.later J10.later c11 (by intro j hj; rw [List.mem_singleton.1 hj]; omega)⟩
  · have hi : i = x.a.length := by omega
    subst hi
    obtain ⟨lst, av, Bc, hE, hjl⟩ := J.cur
    rw [List.take_length, hl, List.take_length] at hjl
    have hj : JR x y ⟨x.t, x.d, x.n + y.n, lst, U, av⟩ 0 := .inr (.inr ⟨hc, rfl, by rw [jn_abs, if_neg hn, hjl]; rfl⟩)
    have f4 : cellsAt w7 ⟨b, 0, none⟩ 4 = some (elC ⟨x.t, x.d, x.n + y.n, lst, U, av⟩) := Blk.cellsAt (l := elC ⟨x.t, x.d, x.n + y.n, lst, U, av⟩) Bc
    have g2 : w7.cell? ⟨w.heap.size, 3, none⟩ = some (.slice ox x.a.length cx) := by have := J.bx.cell 3; rw [← hax]; exact this
    repeat' (first | (simp (disch := omega) only [push_cast, ↓reduceIte, zA, zG, zB, zH, zI, zC, zJ, zK, zL, zD, zE, zF, zM, zN, zO, zP, zQ, reduceCtorEq, not_true_eq_false, not_false_eq_true, f4, g2, addr_add_eq, Nat.zero_add]) | (first | refine vIfE_of ?_ ?_ | refine vIfD_of ?_ ?_ | refine vIfQ_of ?_ ?_ | refine vIfV_of ?_ ?_) <;> intro _ | refine And.intro (by omega) ?_ | refine drawn_q ?_ | fail)
    refine vStore_blk (l := [.int .i64 0, .slice none 0 0, .int .i64 0, .slice none 0 0]) (xs := elC ⟨x.t, x.d, x.n + y.n, lst, U, av⟩) J.bz rfl rfl (elC_one hE.is) ?_
    intro w11 B11 c11
    repeat' (first | (simp (disch := omega) only [push_cast, ↓reduceIte, zA, zG, zB, zH, zI, zC, zJ, zK, zL, zD, zE, zF, zM, zN, zO, zP, zQ, reduceCtorEq, not_true_eq_false, not_false_eq_true]) | (first | refine vIfE_of ?_ ?_ | refine vIfD_of ?_ ?_ | refine vIfQ_of ?_ ?_ | refine vIfV_of ?_ ?_) <;> intro _ | refine And.intro (by omega) ?_ | refine drawn_q ?_ | fail)
    refine resK_cells (s := 4) (by simp (disch := omega) only [push_cast, ↓reduceIte, zA, zG, zB, zH, zI, zC, zJ, zK, zL, zD, zE, zF, zM, zN, zO, zP, zQ, reduceCtorEq, not_true_eq_false, not_false_eq_true]) (by rw [Try.underlying35]; exact sz35) (Blk.cellsAt (l := elC ⟨x.t, x.d, x.n + y.n, lst, U, av⟩) B11) ?_
    repeat' (first | (simp (disch := omega) only [push_cast, ↓reduceIte, zA, zG, zB, zH, zI, zC, zJ, zK, zL, zD, zE, zF, zM, zN, zO, zP, zQ, reduceCtorEq, not_true_eq_false, not_false_eq_true]) | (first | refine vIfE_of ?_ ?_ | refine vIfD_of ?_ ?_ | refine vIfQ_of ?_ ?_ | refine vIfV_of ?_ ?_) <;> intro _ | refine And.intro (by omega) ?_ | refine drawn_q ?_ | fail)
    exact ⟨⟨x.t, x.d, x.n + y.n, lst, U, av⟩, 0, rfl, hj, hE.chg J.bz c11, Chg.later J.later c11 (by intro j hj; rw [List.mem_singleton.1 hj]; omega)⟩
end Go.Proofs.Ythihbgpaoldbjaa
end
section
set_option linter.unusedSimpArgs false
namespace Go.Proofs.Ythihbgpaoldbjaa
open Go.Vc Go.Key
set_option maxRecDepth 100000
def vlB (b : UInt8) : Bool := decide (32 ≤ b.toNat) && decide (b.toNat ≤ 126) && !decide (b.toNat = 34) && !decide (b.toNat = 92)
def VlOk (s : ByteArray) : Prop := (∀ i (h : i < s.size), vlB s[i] = true) ∧ s.size ≤ 24
instance (s : ByteArray) : Decidable (VlOk s) := inferInstanceAs (Decidable ((∀ i (h : i < s.size), vlB s[i] = true) ∧ s.size ≤ 24))
theorem dvalue_c (s : ByteArray) (w : World) (hs : s.size ≤ 9223372036854775807) : FnC Try.prog 65 #[.string s] w fun r w' => r = .bool (decide (VlOk s)) ∧ w' = w := by
  refine enter65 _ ?_
  unfold B65
  repeat' (first | (simp (disch := omega) only [push_cast, ↓reduceIte, zA, zG, zB, zH, zI, zC, zJ, zK, zL, zD, zE, zF, zM, zN, zO, zP, zQ, reduceCtorEq, not_true_eq_false, not_false_eq_true]) | (first | refine vIfE_of ?_ ?_ | refine vIfD_of ?_ ?_ | refine vIfQ_of ?_ ?_ | refine vIfV_of ?_ ?_) <;> intro _ | refine And.intro (by omega) ?_ | refine drawn_q ?_ | fail)
  refine vc_loop W65_0 (fun i : Nat => [(2, .bool false), (3, .int .i64 (i : Int))])
    (fun i w' => i ≤ s.size ∧ w' = w ∧ ∀ j (h : j < s.size), j < i → vlB s[j] = true) (fun i => s.size - i) 0 (by decide) ?_ ?_ ?_
  · simp (disch := omega) only [push_cast, ↓reduceIte, zA, zG, zB, zH, zI, zC, zJ, zK, zL, zD, zE, zF, zM, zN, zO, zP, zQ, reduceCtorEq, not_true_eq_false, not_false_eq_true]
  · exact ⟨by omega, rfl, fun j _ hj => absurd hj (Nat.not_lt_zero _)⟩
  rintro i uu w0 ⟨hi, h0, hA⟩
  obtain rfl := h0.symm
  by_cases hlt : i < s.size
  · have hg : s[i]? = some s[i] := getElem?_pos s i hlt
    by_cases hv : vlB s[i] = true
    · have hv' := hv
      simp only [vlB, Bool.and_eq_true, decide_eq_true_eq, Bool.not_eq_true', decide_eq_false_iff_not] at hv'
      repeat' (first | (simp (disch := omega) only [push_cast, ↓reduceIte, zA, zG, zB, zH, zI, zC, zJ, zK, zL, zD, zE, zF, zM, zN, zO, zP, zQ, reduceCtorEq, not_true_eq_false, not_false_eq_true, hg]) | (first | refine vIfE_of ?_ ?_ | refine vIfD_of ?_ ?_ | refine vIfQ_of ?_ ?_ | refine vIfV_of ?_ ?_) <;> intro _ | refine And.intro (by omega) ?_ | refine drawn_q ?_ | fail)
      refine ⟨rfl, i + 1, by simp (disch := omega) only [push_cast, ↓reduceIte, zA, zG, zB, zH, zI, zC, zJ, zK, zL, zD, zE, zF, zM, zN, zO, zP, zQ, reduceCtorEq, not_true_eq_false, not_false_eq_true], ⟨by omega, rfl, fun j hj hji => ?_⟩, by dsimp only; omega⟩
      by_cases h : j < i
      · exact hA j hj h
      · have : j = i := by omega
        subst this
        exact hv
    · have hno : decide (VlOk s) = false := decide_eq_false fun h => hv (h.1 i hlt)
      have hv' : ¬ (32 ≤ s[i].toNat ∧ s[i].toNat ≤ 126 ∧ ¬ s[i].toNat = 34 ∧ ¬ s[i].toNat = 92) := by
        intro hh
        apply hv
        simp only [vlB, Bool.and_eq_true, decide_eq_true_eq, Bool.not_eq_true', decide_eq_false_iff_not]
        exact ⟨⟨⟨hh.1, hh.2.1⟩, hh.2.2.1⟩, hh.2.2.2⟩
      repeat' (first | (simp (disch := omega) only [push_cast, ↓reduceIte, zA, zG, zB, zH, zI, zC, zJ, zK, zL, zD, zE, zF, zM, zN, zO, zP, zQ, reduceCtorEq, not_true_eq_false, not_false_eq_true, hg]) | (first | refine vIfE_of ?_ ?_ | refine vIfD_of ?_ ?_ | refine vIfQ_of ?_ ?_ | refine vIfV_of ?_ ?_) <;> intro _ | refine And.intro (by omega) ?_ | refine drawn_q ?_ | fail)
      all_goals first
        | exact ⟨by rw [hno], trivial⟩
        | exact ⟨by rw [hno], rfl⟩
        | (rw [hno])
        | (exfalso; omega)
  · by_cases h24 : s.size ≤ 24
    · have hyes : decide (VlOk s) = true := decide_eq_true ⟨fun j hj => hA j hj (by omega), h24⟩
      repeat' (first | (simp (disch := omega) only [push_cast, ↓reduceIte, zA, zG, zB, zH, zI, zC, zJ, zK, zL, zD, zE, zF, zM, zN, zO, zP, zQ, reduceCtorEq, not_true_eq_false, not_false_eq_true]) | (first | refine vIfE_of ?_ ?_ | refine vIfD_of ?_ ?_ | refine vIfQ_of ?_ ?_ | refine vIfV_of ?_ ?_) <;> intro _ | refine And.intro (by omega) ?_ | refine drawn_q ?_ | fail)
      rw [hyes]
      exact congrArg Value.bool (decide_eq_true (by omega))
    · have hno : decide (VlOk s) = false := decide_eq_false fun h => h24 h.2
      repeat' (first | (simp (disch := omega) only [push_cast, ↓reduceIte, zA, zG, zB, zH, zI, zC, zJ, zK, zL, zD, zE, zF, zM, zN, zO, zP, zQ, reduceCtorEq, not_true_eq_false, not_false_eq_true]) | (first | refine vIfE_of ?_ ?_ | refine vIfD_of ?_ ?_ | refine vIfQ_of ?_ ?_ | refine vIfV_of ?_ ?_) <;> intro _ | refine And.intro (by omega) ?_ | refine drawn_q ?_ | fail)
      rw [hno]
      exact congrArg Value.bool (decide_eq_false (by omega))
def wordsL : List ByteArray := [⟨#[99, 111, 117, 110, 116]⟩, ⟨#[115, 117, 109]⟩, ⟨#[109, 105, 110]⟩, ⟨#[109, 97, 120]⟩, ⟨#[102, 114, 111, 109]⟩, ⟨#[116, 111]⟩, ⟨#[98, 121]⟩, ⟨#[101, 118, 101, 114, 121]⟩, ⟨#[119, 104, 101, 114, 101]⟩, ⟨#[104, 97, 118, 105, 110, 103]⟩, ⟨#[111, 114, 100, 101, 114]⟩, ⟨#[108, 105, 109, 105, 116]⟩, ⟨#[97, 110, 100]⟩, ⟨#[111, 114]⟩, ⟨#[110, 111, 116]⟩, ⟨#[105, 115]⟩, ⟨#[110, 117, 108, 108]⟩, ⟨#[97, 115, 99]⟩, ⟨#[100, 101, 115, 99]⟩, ⟨#[115, 101, 108, 101, 99, 116]⟩]
theorem words_c (w : World) : FnC Try.prog 103 #[] w fun r w' => StS w' r wordsL ∧ Later w w' := by
  refine enter103 ?_
  unfold B103
  repeat' (first | (simp (disch := omega) only [push_cast, ↓reduceIte, zA, zG, zB, zH, zI, zC, zJ, zK, zL, zD, zE, zF, zM, zN, zO, zP, zQ, reduceCtorEq, not_true_eq_false, not_false_eq_true]) | (first | refine vIfE_of ?_ ?_ | refine vIfD_of ?_ ?_ | refine vIfQ_of ?_ ?_ | refine vIfV_of ?_ ?_) <;> intro _ | refine And.intro (by omega) ?_ | refine drawn_q ?_ | fail)
  exact ⟨Sl.of_blk (xs := wordsL.map Value.string) (Blk.new w _ _) rfl (by unfold maxLen; omega), later_alloc _ _⟩
def nmB (i : Nat) (b : UInt8) : Prop := (97 ≤ b.toNat ∧ b.toNat ≤ 122) ∨ (i ≠ 0 ∧ ((48 ≤ b.toNat ∧ b.toNat ≤ 57) ∨ b.toNat = 95))
instance (i : Nat) (b : UInt8) : Decidable (nmB i b) := inferInstanceAs (Decidable (_ ∨ _))
def NmOk (s : ByteArray) : Prop := (∀ x ∈ wordsL, x ≠ s) ∧ (∀ i (h : i < s.size), nmB i s[i]) ∧ 1 ≤ s.size ∧ s.size ≤ 12
instance (s : ByteArray) : Decidable (NmOk s) := inferInstanceAs (Decidable ((∀ x ∈ wordsL, x ≠ s) ∧ (∀ i (h : i < s.size), nmB i s[i]) ∧ 1 ≤ s.size ∧ s.size ≤ 12))
theorem dname_c (s : ByteArray) (w : World) (hs : s.size ≤ 9223372036854775807) : FnC Try.prog 79 #[.string s] w fun r w' => r = .bool (decide (NmOk s)) ∧ Later w w' := by
  refine enter79 _ ?_
  unfold B79
  repeat' (first | (simp (disch := omega) only [push_cast, ↓reduceIte, zA, zG, zB, zH, zI, zC, zJ, zK, zL, zD, zE, zF, zM, zN, zO, zP, zQ, reduceCtorEq, not_true_eq_false, not_false_eq_true]) | (first | refine vIfE_of ?_ ?_ | refine vIfD_of ?_ ?_ | refine vIfQ_of ?_ ?_ | refine vIfV_of ?_ ?_) <;> intro _ | refine And.intro (by omega) ?_ | refine drawn_q ?_ | fail)
  refine (words_c w).mono ?_
  rintro v w1 ⟨hW, l1⟩
  obtain ⟨o, c, rfl⟩ := Sl.slice hW
  have hl : (wordsL.map Value.string).length = 20 := rfl
  rw [hl]
  rw [hl] at hW
  repeat' (first | (simp (disch := omega) only [push_cast, ↓reduceIte, zA, zG, zB, zH, zI, zC, zJ, zK, zL, zD, zE, zF, zM, zN, zO, zP, zQ, reduceCtorEq, not_true_eq_false, not_false_eq_true]) | (first | refine vIfE_of ?_ ?_ | refine vIfD_of ?_ ?_ | refine vIfQ_of ?_ ?_ | refine vIfV_of ?_ ?_) <;> intro _ | refine And.intro (by omega) ?_ | refine drawn_q ?_ | fail)
  refine vc_loop W79_0 (fun i : Nat => [(2, .bool false), (4, .int .i64 (i : Int))])
    (fun i w' => i ≤ 20 ∧ Later w1 w' ∧ ∀ j (h : j < wordsL.length), j < i → wordsL[j] ≠ s) (fun i => 20 - i) 0 (by decide) ?_ ?_ ?_
  · simp (disch := omega) only [push_cast, ↓reduceIte, zA, zG, zB, zH, zI, zC, zJ, zK, zL, zD, zE, zF, zM, zN, zO, zP, zQ, reduceCtorEq, not_true_eq_false, not_false_eq_true]
  · exact ⟨by omega, Later.refl _, fun j _ hj => absurd hj (Nat.not_lt_zero _)⟩
  rintro i uu w2 ⟨hi, l2, hA⟩
  by_cases hlt : i < wordsL.length
  · have hlt' : i < 20 := hlt
    cases o with
    | none => have := Sl.len hW; simp [wordsL] at this
    | some a =>
    have hc := StS.atS (Sl.later hW l2) hlt
    by_cases hv : wordsL[i] = s
    · have hno : decide (NmOk s) = false := decide_eq_false fun h => h.1 _ (List.getElem_mem hlt) hv
      repeat' (first | (simp (disch := omega) only [push_cast, ↓reduceIte, zA, zG, zB, zH, zI, zC, zJ, zK, zL, zD, zE, zF, zM, zN, zO, zP, zQ, reduceCtorEq, not_true_eq_false, not_false_eq_true, hc, hv, decide_true]) | (first | refine vIfE_of ?_ ?_ | refine vIfD_of ?_ ?_ | refine vIfQ_of ?_ ?_ | refine vIfV_of ?_ ?_) <;> intro _ | refine And.intro (by omega) ?_ | refine drawn_q ?_ | fail)
      first | exact ⟨by rw [hno], (l1.trans l2)⟩ | exact (l1.trans l2)
    · repeat' (first | (simp (disch := omega) only [push_cast, ↓reduceIte, zA, zG, zB, zH, zI, zC, zJ, zK, zL, zD, zE, zF, zM, zN, zO, zP, zQ, reduceCtorEq, not_true_eq_false, not_false_eq_true, hc, hv, decide_false]) | (first | refine vIfE_of ?_ ?_ | refine vIfD_of ?_ ?_ | refine vIfQ_of ?_ ?_ | refine vIfV_of ?_ ?_) <;> intro _ | refine And.intro (by omega) ?_ | refine drawn_q ?_ | fail)
      refine ⟨rfl, i + 1, by simp (disch := omega) only [push_cast, ↓reduceIte, zA, zG, zB, zH, zI, zC, zJ, zK, zL, zD, zE, zF, zM, zN, zO, zP, zQ, reduceCtorEq, not_true_eq_false, not_false_eq_true], ⟨by omega, l2, fun j hj hji => ?_⟩, by dsimp only; omega⟩
      by_cases h : j < i
      · exact hA j hj h
      · have : j = i := by omega
        subst this
        exact hv
  have hi20 : i = 20 := by have : wordsL.length = 20 := rfl; omega
  subst hi20
  have hmem : ∀ x ∈ wordsL, x ≠ s := by
    intro x hm
    obtain ⟨j, hj, rfl⟩ := List.getElem_of_mem hm
    exact hA j hj hj
  have l12 := l1.trans l2
  repeat' (first | (simp (disch := omega) only [push_cast, ↓reduceIte, zA, zG, zB, zH, zI, zC, zJ, zK, zL, zD, zE, zF, zM, zN, zO, zP, zQ, reduceCtorEq, not_true_eq_false, not_false_eq_true]) | (first | refine vIfE_of ?_ ?_ | refine vIfD_of ?_ ?_ | refine vIfQ_of ?_ ?_ | refine vIfV_of ?_ ?_) <;> intro _ | refine And.intro (by omega) ?_ | refine drawn_q ?_ | fail)
  refine vc_loop W79_1 (fun i : Nat => [(2, .bool false), (5, .int .i64 (i : Int))])
    (fun i w' => i ≤ s.size ∧ w' = w2 ∧ ∀ j (h : j < s.size), j < i → nmB j s[j]) (fun i => s.size - i) 0 (by decide) ?_ ?_ ?_
  · simp (disch := omega) only [push_cast, ↓reduceIte, zA, zG, zB, zH, zI, zC, zJ, zK, zL, zD, zE, zF, zM, zN, zO, zP, zQ, reduceCtorEq, not_true_eq_false, not_false_eq_true]
  · exact ⟨by omega, rfl, fun j _ hj => absurd hj (Nat.not_lt_zero _)⟩
  rintro i uu2 w0 ⟨hi, h0, hB⟩
  obtain rfl := h0.symm
  by_cases hlt : i < s.size
  · have hg : s[i]? = some s[i] := getElem?_pos s i hlt
    have hno : ¬ nmB i s[i] → decide (NmOk s) = false := fun hv => decide_eq_false fun h => hv (h.2.1 i hlt)
    have hyes : nmB i s[i] → ∀ j (h : j < s.size), j < i + 1 → nmB j s[j] := by
      intro hv j hj hji
      by_cases h : j < i
      · exact hB j hj h
      · have : j = i := by omega
        subst this
        exact hv
    generalize hN : nmB i s[i] = N at hno hyes
    unfold nmB at hN
    generalize s[i] = ch at *
    repeat' (first | (simp (disch := omega) only [push_cast, ↓reduceIte, zA, zG, zB, zH, zI, zC, zJ, zK, zL, zD, zE, zF, zM, zN, zO, zP, zQ, reduceCtorEq, not_true_eq_false, not_false_eq_true, hg]) | (first | refine vIfE_of ?_ ?_ | refine vIfD_of ?_ ?_ | refine vIfQ_of ?_ ?_ | refine vIfV_of ?_ ?_) <;> intro _ | refine And.intro (by omega) ?_ | refine drawn_q ?_ | fail)
    all_goals first
      | (have hn : ¬ N := by rw [← hN]; omega
         first | exact ⟨by rw [hno hn], l12⟩ | (rw [hno hn]))
      | (have hn : N := by rw [← hN]; omega
         exact ⟨rfl, i + 1, by simp (disch := omega) only [push_cast, ↓reduceIte, zA, zG, zB, zH, zI, zC, zJ, zK, zL, zD, zE, zF, zM, zN, zO, zP, zQ, reduceCtorEq, not_true_eq_false, not_false_eq_true], ⟨by omega, rfl, hyes hn⟩, by dsimp only; omega⟩)
  · have hall : ∀ j (h : j < s.size), nmB j s[j] := fun j hj => hB j hj (by omega)
    have hd : decide (NmOk s) = (decide (1 ≤ s.size) && decide (s.size ≤ 12)) := by
      rw [← Bool.decide_and]
      exact decide_eq_decide.2 ⟨fun h => h.2.2, fun h => ⟨hmem, hall, h⟩⟩
    by_cases h1 : 1 ≤ s.size
    · by_cases h2 : s.size ≤ 12
      · rw [hd, decide_eq_true h1, decide_eq_true h2]
        repeat' (first | (simp (disch := omega) only [push_cast, ↓reduceIte, zA, zG, zB, zH, zI, zC, zJ, zK, zL, zD, zE, zF, zM, zN, zO, zP, zQ, reduceCtorEq, not_true_eq_false, not_false_eq_true]) | (first | refine vIfE_of ?_ ?_ | refine vIfD_of ?_ ?_ | refine vIfQ_of ?_ ?_ | refine vIfV_of ?_ ?_) <;> intro _ | refine And.intro (by omega) ?_ | refine drawn_q ?_ | fail)
        first | exact ⟨congrArg Value.bool (decide_eq_true (by omega)), l12⟩ | exact l12
      · rw [hd, decide_eq_true h1, decide_eq_false h2]
        repeat' (first | (simp (disch := omega) only [push_cast, ↓reduceIte, zA, zG, zB, zH, zI, zC, zJ, zK, zL, zD, zE, zF, zM, zN, zO, zP, zQ, reduceCtorEq, not_true_eq_false, not_false_eq_true]) | (first | refine vIfE_of ?_ ?_ | refine vIfD_of ?_ ?_ | refine vIfQ_of ?_ ?_ | refine vIfV_of ?_ ?_) <;> intro _ | refine And.intro (by omega) ?_ | refine drawn_q ?_ | fail)
        first | exact ⟨congrArg Value.bool (decide_eq_false (by omega)), l12⟩ | exact l12
    · rw [hd, decide_eq_false h1]
      repeat' (first | (simp (disch := omega) only [push_cast, ↓reduceIte, zA, zG, zB, zH, zI, zC, zJ, zK, zL, zD, zE, zF, zM, zN, zO, zP, zQ, reduceCtorEq, not_true_eq_false, not_false_eq_true]) | (first | refine vIfE_of ?_ ?_ | refine vIfD_of ?_ ?_ | refine vIfQ_of ?_ ?_ | refine vIfV_of ?_ ?_) <;> intro _ | refine And.intro (by omega) ?_ | refine drawn_q ?_ | fail)
      first | exact ⟨rfl, l12⟩ | exact l12
/-- Texts that are gone through. -/
def F10 (l : List ByteArray) : Prop := l.length ≤ 20 ∧ ∀ s ∈ l, s.size ≤ 80
instance (l : List ByteArray) : Decidable (F10 l) := inferInstanceAs (Decidable (_ ∧ _))
theorem fits10_c (v : Value) (l : List ByteArray) (w : World) (h : StS w v l) (hs : ∀ s ∈ l, s.size ≤ 9223372036854775807) : FnC Try.prog 16 #[v] w fun r w' => r = .bool (decide (F10 l)) ∧ w' = w := by
  obtain ⟨o, c, rfl⟩ := Sl.slice h
  rw [List.length_map] at h ⊢
  refine enter16 _ ?_
  unfold B16
  have hbig := (Sl.len h).2.1
  have hbig2 := (Sl.len h).2.2.1
  unfold maxLen at hbig2
  repeat' (first | (simp (disch := omega) only [push_cast, ↓reduceIte, zA, zG, zB, zH, zI, zC, zJ, zK, zL, zD, zE, zF, zM, zN, zO, zP, zQ, reduceCtorEq, not_true_eq_false, not_false_eq_true]) | (first | refine vIfE_of ?_ ?_ | refine vIfD_of ?_ ?_ | refine vIfQ_of ?_ ?_ | refine vIfV_of ?_ ?_) <;> intro _ | refine And.intro (by omega) ?_ | refine drawn_q ?_ | fail)
  refine vc_loop W16_0 (fun i : Nat => [(2, .bool false), (3, .int .i64 (i : Int))])
    (fun i w' => i ≤ l.length ∧ i ≤ 20 ∧ w' = w ∧ ∀ j (h : j < l.length), j < i → l[j].size ≤ 80) (fun i => l.length - i) 0 (by decide) ?_ ?_ ?_
  · simp (disch := omega) only [push_cast, ↓reduceIte, zA, zG, zB, zH, zI, zC, zJ, zK, zL, zD, zE, zF, zM, zN, zO, zP, zQ, reduceCtorEq, not_true_eq_false, not_false_eq_true]
  · exact ⟨by omega, by omega, rfl, fun j _ hj => absurd hj (Nat.not_lt_zero _)⟩
  rintro i uu w0 ⟨hi, hi20, h0, hA⟩
  obtain rfl := h0.symm
  by_cases hlt : i < l.length
  · cases o with
    | none => have := (Sl.len h).2.2.2 rfl; simp at this; rw [this.1] at hlt; simp at hlt
    | some a =>
    have hc := StS.atS h hlt
    have hz := hs _ (List.getElem_mem hlt)
    by_cases h20 : i = 20
    · have hno : decide (F10 l) = false := decide_eq_false fun h => by have := h.1; omega
      subst h20
      repeat' (first | (simp (disch := omega) only [push_cast, ↓reduceIte, zA, zG, zB, zH, zI, zC, zJ, zK, zL, zD, zE, zF, zM, zN, zO, zP, zQ, reduceCtorEq, not_true_eq_false, not_false_eq_true, hc]) | (first | refine vIfE_of ?_ ?_ | refine vIfD_of ?_ ?_ | refine vIfQ_of ?_ ?_ | refine vIfV_of ?_ ?_) <;> intro _ | refine And.intro (by omega) ?_ | refine drawn_q ?_ | fail)
      first | exact ⟨by rw [hno], trivial⟩ | (rw [hno])
    · by_cases h80 : l[i].size ≤ 80
      · repeat' (first | (simp (disch := omega) only [push_cast, ↓reduceIte, zA, zG, zB, zH, zI, zC, zJ, zK, zL, zD, zE, zF, zM, zN, zO, zP, zQ, reduceCtorEq, not_true_eq_false, not_false_eq_true, hc]) | (first | refine vIfE_of ?_ ?_ | refine vIfD_of ?_ ?_ | refine vIfQ_of ?_ ?_ | refine vIfV_of ?_ ?_) <;> intro _ | refine And.intro (by omega) ?_ | refine drawn_q ?_ | fail)
        refine ⟨rfl, i + 1, by simp (disch := omega) only [push_cast, ↓reduceIte, zA, zG, zB, zH, zI, zC, zJ, zK, zL, zD, zE, zF, zM, zN, zO, zP, zQ, reduceCtorEq, not_true_eq_false, not_false_eq_true], ⟨by omega, by omega, rfl, fun j hj hji => ?_⟩, by dsimp only; omega⟩
        by_cases h : j < i
        · exact hA j hj h
        · have : j = i := by omega
          subst this
          exact h80
      · have hno : decide (F10 l) = false := decide_eq_false fun h => h80 (h.2 _ (List.getElem_mem _))
        repeat' (first | (simp (disch := omega) only [push_cast, ↓reduceIte, zA, zG, zB, zH, zI, zC, zJ, zK, zL, zD, zE, zF, zM, zN, zO, zP, zQ, reduceCtorEq, not_true_eq_false, not_false_eq_true, hc]) | (first | refine vIfE_of ?_ ?_ | refine vIfD_of ?_ ?_ | refine vIfQ_of ?_ ?_ | refine vIfV_of ?_ ?_) <;> intro _ | refine And.intro (by omega) ?_ | refine drawn_q ?_ | fail)
        first | exact ⟨by rw [hno], trivial⟩ | (rw [hno])
  · have hyes : decide (F10 l) = true := decide_eq_true ⟨by omega, fun s hs => by
      obtain ⟨j, hj, rfl⟩ := List.getElem_of_mem hs
      exact hA j hj (by omega)⟩
    repeat' (first | (simp (disch := omega) only [push_cast, ↓reduceIte, zA, zG, zB, zH, zI, zC, zJ, zK, zL, zD, zE, zF, zM, zN, zO, zP, zQ, reduceCtorEq, not_true_eq_false, not_false_eq_true]) | (first | refine vIfE_of ?_ ?_ | refine vIfD_of ?_ ?_ | refine vIfQ_of ?_ ?_ | refine vIfV_of ?_ ?_) <;> intro _ | refine And.intro (by omega) ?_ | refine drawn_q ?_ | fail)
    rw [hyes]
end Go.Proofs.Ythihbgpaoldbjaa
end
section
namespace Go.Proofs.Ythihbgpaoldbjaa
open Go.Vc
set_option maxRecDepth 100000
variable (Q : Post) (ds : List Deferred) (σ : Env) (w : World)
/-! 8 columbary/columbarylaw13.RowsOrder (params #[24, 57], results #[(.tmp 4)], 105 slots) -/
def r8_0 : List VOp :=
  [⟨some 2, .box 24 (.tmp 0), 0, none⟩,
   ⟨some 3, .box 57 (.tmp 1), 0, none⟩,
   ⟨some 4, .assign (.const (.bool false)), 4, none⟩]
def r8_1 : List VOp :=
  [⟨some 11, .load 24 (.tmp 2), 24, none⟩,
   ⟨some 12, .slice 57 (.tmp 3) none none none, 25, none⟩,
   ⟨some 13, .call ⟨.value (.func 11), #[.tmp 11, .tmp 12], #[24, 25]⟩, 4, none⟩,
   ⟨some 5, .assign (.tmp 13), 4, none⟩]
def r8_2 : List VOp :=
  [⟨some 14, .move (.tmp 5), 4, none⟩,
   ⟨some 15, .unOp .not 4 (.tmp 14), 4, none⟩]
def r8_3 : List VOp :=
  [⟨some 16, .call ⟨.value (.func 24), #[], #[]⟩, 4, none⟩,
   ⟨some 4, .assign (.tmp 16), 4, none⟩]
def r8_4 : List VOp :=
  [⟨some 17, .indexAddr 57 (.tmp 3) (.const (.int .i64 0)), 0, none⟩,
   ⟨some 18, .load 35 (.tmp 17), 35, none⟩,
   ⟨some 19, .indexAddr 57 (.tmp 3) (.const (.int .i64 1)), 0, none⟩,
   ⟨some 20, .load 35 (.tmp 19), 35, none⟩,
   ⟨some 21, .call ⟨.value (.func 34), #[.tmp 18, .tmp 20], #[35, 35]⟩, 3, none⟩,
   ⟨some 6, .assign (.tmp 21), 3, none⟩]
def r8_5 : List VOp :=
  [⟨some 22, .indexAddr 57 (.tmp 3) (.const (.int .i64 1)), 0, none⟩,
   ⟨some 23, .load 35 (.tmp 22), 35, none⟩,
   ⟨some 24, .indexAddr 57 (.tmp 3) (.const (.int .i64 2)), 0, none⟩,
   ⟨some 25, .load 35 (.tmp 24), 35, none⟩,
   ⟨some 26, .call ⟨.value (.func 34), #[.tmp 23, .tmp 25], #[35, 35]⟩, 3, none⟩,
   ⟨some 7, .assign (.tmp 26), 3, none⟩]
def r8_6 : List VOp :=
  [⟨some 27, .indexAddr 57 (.tmp 3) (.const (.int .i64 0)), 0, none⟩,
   ⟨some 28, .load 35 (.tmp 27), 35, none⟩,
   ⟨some 29, .indexAddr 57 (.tmp 3) (.const (.int .i64 2)), 0, none⟩,
   ⟨some 30, .load 35 (.tmp 29), 35, none⟩,
   ⟨some 31, .call ⟨.value (.func 34), #[.tmp 28, .tmp 30], #[35, 35]⟩, 3, none⟩,
   ⟨some 8, .assign (.tmp 31), 3, none⟩]
def r8_7 : List VOp :=
  [⟨some 33, .indexAddr 57 (.tmp 3) (.const (.int .i64 0)), 0, none⟩,
   ⟨some 34, .load 35 (.tmp 33), 35, none⟩,
   ⟨some 35, .indexAddr 57 (.tmp 3) (.const (.int .i64 1)), 0, none⟩,
   ⟨some 36, .load 35 (.tmp 35), 35, none⟩,
   ⟨some 37, .call ⟨.value (.func 35), #[.tmp 34, .tmp 36], #[35, 35]⟩, 50, none⟩,
   ⟨some 32, .move (.tmp 37), 50, none⟩,
   ⟨some 38, .extract (.tmp 32) 0, 35, none⟩,
   ⟨some 39, .extract (.tmp 32) 1, 28, none⟩,
   ⟨some 9, .alloc 35, 0, none⟩,
   ⟨none, .store 35 (.tmp 9) (.tmp 38), 0, none⟩,
   ⟨some 10, .assign (.tmp 39), 28, none⟩]
def r8_8 : List VOp :=
  [⟨some 40, .indexAddr 57 (.tmp 3) (.const (.int .i64 1)), 0, none⟩,
   ⟨some 41, .load 35 (.tmp 40), 35, none⟩,
   ⟨some 42, .indexAddr 57 (.tmp 3) (.const (.int .i64 0)), 0, none⟩,
   ⟨some 43, .load 35 (.tmp 42), 35, none⟩,
   ⟨some 44, .call ⟨.value (.func 34), #[.tmp 41, .tmp 43], #[35, 35]⟩, 3, none⟩,
   ⟨some 45, .move (.tmp 6), 3, none⟩,
   ⟨some 46, .unOp .neg 3 (.tmp 45), 3, none⟩,
   ⟨some 47, .binOp .neq 3 (.tmp 44) (.tmp 46) 3, 4, none⟩,
   ⟨some 48, .move (.tmp 47), 4, none⟩,
   ⟨some 49, .indexAddr 57 (.tmp 3) (.const (.int .i64 0)), 0, some (48, false)⟩,
   ⟨some 50, .load 35 (.tmp 49), 35, some (48, false)⟩,
   ⟨some 51, .indexAddr 57 (.tmp 3) (.const (.int .i64 0)), 0, some (48, false)⟩,
   ⟨some 52, .load 35 (.tmp 51), 35, some (48, false)⟩,
   ⟨some 53, .call ⟨.value (.func 34), #[.tmp 50, .tmp 52], #[35, 35]⟩, 3, some (48, false)⟩,
   ⟨some 54, .binOp .neq 3 (.tmp 53) (.const (.int .i64 0)) 3, 4, some (48, false)⟩,
   ⟨some 55, .pick (.tmp 48) (.const (.bool true)) (.tmp 54), 4, none⟩,
   ⟨some 56, .move (.tmp 55), 4, none⟩,
   ⟨some 57, .move (.tmp 10), 28, some (56, false)⟩,
   ⟨some 58, .binOp .eql 28 (.tmp 57) (.const (.int .i64 131)) 28, 4, some (56, false)⟩,
   ⟨some 59, .move (.tmp 6), 3, some (56, false)⟩,
   ⟨some 60, .binOp .neq 3 (.tmp 59) (.const (.int .i64 0)) 3, 4, some (56, false)⟩,
   ⟨some 61, .binOp .neq 4 (.tmp 58) (.tmp 60) 4, 4, some (56, false)⟩,
   ⟨some 62, .pick (.tmp 56) (.const (.bool true)) (.tmp 61), 4, none⟩]
def r8_9 : List VOp :=
  [⟨some 4, .assign (.const (.bool false)), 4, none⟩]
def r8_10 : List VOp :=
  [⟨some 63, .move (.tmp 6), 3, none⟩,
   ⟨some 64, .binOp .eql 3 (.tmp 63) (.const (.int .i64 0)) 3, 4, none⟩,
   ⟨some 65, .move (.tmp 64), 4, none⟩,
   ⟨some 66, .move (.tmp 7), 3, some (65, true)⟩,
   ⟨some 67, .move (.tmp 8), 3, some (65, true)⟩,
   ⟨some 68, .binOp .neq 3 (.tmp 66) (.tmp 67) 3, 4, some (65, true)⟩,
   ⟨some 69, .pick (.tmp 65) (.tmp 68) (.const (.bool false)), 4, none⟩,
   ⟨some 70, .move (.tmp 69), 4, none⟩,
   ⟨some 71, .move (.tmp 7), 3, some (70, false)⟩,
   ⟨some 72, .binOp .eql 3 (.tmp 71) (.const (.int .i64 0)) 3, 4, some (70, false)⟩,
   ⟨some 73, .move (.tmp 72), 4, some (70, false)⟩,
   ⟨some 74, .move (.tmp 6), 3, some (73, true)⟩,
   ⟨some 75, .move (.tmp 8), 3, some (73, true)⟩,
   ⟨some 76, .binOp .neq 3 (.tmp 74) (.tmp 75) 3, 4, some (73, true)⟩,
   ⟨some 77, .pick (.tmp 73) (.tmp 76) (.const (.bool false)), 4, some (70, false)⟩,
   ⟨some 78, .pick (.tmp 70) (.const (.bool true)) (.tmp 77), 4, none⟩,
   ⟨some 79, .move (.tmp 78), 4, none⟩,
   ⟨some 80, .move (.tmp 6), 3, some (79, false)⟩,
   ⟨some 81, .move (.tmp 7), 3, some (79, false)⟩,
   ⟨some 82, .binOp .eql 3 (.tmp 80) (.tmp 81) 3, 4, some (79, false)⟩,
   ⟨some 83, .move (.tmp 82), 4, some (79, false)⟩,
   ⟨some 84, .move (.tmp 6), 3, some (83, true)⟩,
   ⟨some 85, .binOp .neq 3 (.tmp 84) (.const (.int .i64 0)) 3, 4, some (83, true)⟩,
   ⟨some 86, .pick (.tmp 83) (.tmp 85) (.const (.bool false)), 4, some (79, false)⟩,
   ⟨some 87, .move (.tmp 86), 4, some (79, false)⟩,
   ⟨some 88, .move (.tmp 8), 3, some (87, true)⟩,
   ⟨some 89, .move (.tmp 6), 3, some (87, true)⟩,
   ⟨some 90, .binOp .neq 3 (.tmp 88) (.tmp 89) 3, 4, some (87, true)⟩,
   ⟨some 91, .pick (.tmp 87) (.tmp 90) (.const (.bool false)), 4, some (79, false)⟩,
   ⟨some 92, .pick (.tmp 79) (.const (.bool true)) (.tmp 91), 4, none⟩]
def r8_11 : List VOp :=
  [⟨some 4, .assign (.const (.bool false)), 4, none⟩]
def r8_12 : List VOp :=
  [⟨some 93, .call ⟨.value (.func 24), #[], #[]⟩, 4, none⟩,
   ⟨some 94, .move (.tmp 93), 4, none⟩,
   ⟨some 95, .slice 57 (.tmp 3) none none none, 25, some (94, true)⟩,
   ⟨some 96, .call ⟨.value (.func 32), #[.tmp 95], #[25]⟩, 4, some (94, true)⟩,
   ⟨some 97, .move (.tmp 6), 3, some (94, true)⟩,
   ⟨some 98, .binOp .lss 3 (.tmp 97) (.const (.int .i64 0)) 3, 4, some (94, true)⟩,
   ⟨some 99, .move (.tmp 98), 4, some (94, true)⟩,
   ⟨some 100, .move (.tmp 7), 3, some (99, true)⟩,
   ⟨some 101, .binOp .lss 3 (.tmp 100) (.const (.int .i64 0)) 3, 4, some (99, true)⟩,
   ⟨some 102, .pick (.tmp 99) (.tmp 101) (.const (.bool false)), 4, some (94, true)⟩,
   ⟨some 103, .binOp .eql 4 (.tmp 96) (.tmp 102) 4, 4, some (94, true)⟩,
   ⟨some 104, .pick (.tmp 94) (.tmp 103) (.const (.bool false)), 4, none⟩,
   ⟨some 4, .assign (.tmp 104), 4, none⟩]
def B8 : VC :=
  (.seq (.region r8_0) (.seq (.draw r8_1 3) (.seq (.seq (.region r8_2) (.cond (.tmp 15) (.seq (.region r8_3) .ret) .skip)) (.seq (.region r8_4) (.seq (.region r8_5) (.seq (.region r8_6) (.seq (.region r8_7) (.seq (.seq (.region r8_8) (.cond (.tmp 62) (.seq (.region r8_9) .ret) .skip)) (.seq (.seq (.region r8_10) (.cond (.tmp 92) (.seq (.region r8_11) .ret) .skip)) (.seq (.region r8_12) .ret))))))))))
theorem code8 : ∃ c, Try.f8.body = some c ∧ abs Try.f8.ntmps c = B8 := ⟨_, rfl, by kernel_rfl⟩
theorem hb8 : HasBody Try.prog 8 := hasBody_of Try.func8 (by kernel_rfl)
theorem res8 : Try.f8.results = #[(.tmp 4)] := rfl
theorem enter8 {w : World} {R : Value → World → Prop} (x0 x1 : Value) (h : vc Try.prog B8 (retK Try.prog #[(.tmp 4)] R) [] (initEnv [x0, x1] 0) w) : FnC Try.prog 8 #[x0, x1] w R := by
  obtain ⟨c, h1, h2⟩ := code8
  exact hb8.fn (ret_of_vc mixed Try.func8 h1 (Nat.le_of_ble_eq_true rfl) B8 h2 h)
@[push_cast] theorem vr8_0 : vc Try.prog (.region r8_0) Q ds σ w = vcOps Try.prog [⟨some 2, .box 24 (.tmp 0), 0, none⟩, ⟨some 3, .box 57 (.tmp 1), 0, none⟩, ⟨some 4, .assign (.const (.bool false)), 4, none⟩] (Q .normal ds) σ w := mk_eq rfl
@[push_cast] theorem vr8_1 : vc Try.prog (.draw r8_1 3) Q ds σ w = drawn Try.prog [(⟨some 11, .load 24 (.tmp 2), 24, none⟩, [2]), (⟨some 12, .slice 57 (.tmp 3) none none none, 25, none⟩, [3]), (⟨some 13, .call ⟨.value (.func 11), #[.tmp 11, .tmp 12], #[24, 25]⟩, 4, none⟩, [11, 12]), (⟨some 5, .assign (.tmp 13), 4, none⟩, [13])] 3 (Q .normal ds) σ w := mk_eq rfl
@[push_cast] theorem vr8_2 : vc Try.prog (.region r8_2) Q ds σ w = vcOps Try.prog [⟨some 14, .move (.tmp 5), 4, none⟩, ⟨some 15, .unOp .not 4 (.tmp 14), 4, none⟩] (Q .normal ds) σ w := mk_eq rfl
@[push_cast] theorem vr8_3 : vc Try.prog (.region r8_3) Q ds σ w = vcOps Try.prog [⟨some 16, .call ⟨.value (.func 24), #[], #[]⟩, 4, none⟩, ⟨some 4, .assign (.tmp 16), 4, none⟩] (Q .normal ds) σ w := mk_eq rfl
@[push_cast] theorem vr8_4 : vc Try.prog (.region r8_4) Q ds σ w = vcOps Try.prog [⟨some 17, .indexAddr 57 (.tmp 3) (.const (.int .i64 0)), 0, none⟩, ⟨some 18, .load 35 (.tmp 17), 35, none⟩, ⟨some 19, .indexAddr 57 (.tmp 3) (.const (.int .i64 1)), 0, none⟩, ⟨some 20, .load 35 (.tmp 19), 35, none⟩, ⟨some 21, .call ⟨.value (.func 34), #[.tmp 18, .tmp 20], #[35, 35]⟩, 3, none⟩, ⟨some 6, .assign (.tmp 21), 3, none⟩] (Q .normal ds) σ w := mk_eq rfl
@[push_cast] theorem vr8_5 : vc Try.prog (.region r8_5) Q ds σ w = vcOps Try.prog [⟨some 22, .indexAddr 57 (.tmp 3) (.const (.int .i64 1)), 0, none⟩, ⟨some 23, .load 35 (.tmp 22), 35, none⟩, ⟨some 24, .indexAddr 57 (.tmp 3) (.const (.int .i64 2)), 0, none⟩, ⟨some 25, .load 35 (.tmp 24), 35, none⟩, ⟨some 26, .call ⟨.value (.func 34), #[.tmp 23, .tmp 25], #[35, 35]⟩, 3, none⟩, ⟨some 7, .assign (.tmp 26), 3, none⟩] (Q .normal ds) σ w := mk_eq rfl
@[push_cast] theorem vr8_6 : vc Try.prog (.region r8_6) Q ds σ w = vcOps Try.prog [⟨some 27, .indexAddr 57 (.tmp 3) (.const (.int .i64 0)), 0, none⟩, ⟨some 28, .load 35 (.tmp 27), 35, none⟩, ⟨some 29, .indexAddr 57 (.tmp 3) (.const (.int .i64 2)), 0, none⟩, ⟨some 30, .load 35 (.tmp 29), 35, none⟩, ⟨some 31, .call ⟨.value (.func 34), #[.tmp 28, .tmp 30], #[35, 35]⟩, 3, none⟩, ⟨some 8, .assign (.tmp 31), 3, none⟩] (Q .normal ds) σ w := mk_eq rfl
@[push_cast] theorem vr8_7 : vc Try.prog (.region r8_7) Q ds σ w = vcOps Try.prog [⟨some 33, .indexAddr 57 (.tmp 3) (.const (.int .i64 0)), 0, none⟩, ⟨some 34, .load 35 (.tmp 33), 35, none⟩, ⟨some 35, .indexAddr 57 (.tmp 3) (.const (.int .i64 1)), 0, none⟩, ⟨some 36, .load 35 (.tmp 35), 35, none⟩, ⟨some 37, .call ⟨.value (.func 35), #[.tmp 34, .tmp 36], #[35, 35]⟩, 50, none⟩, ⟨some 32, .move (.tmp 37), 50, none⟩, ⟨some 38, .extract (.tmp 32) 0, 35, none⟩, ⟨some 39, .extract (.tmp 32) 1, 28, none⟩, ⟨some 9, .alloc 35, 0, none⟩, ⟨none, .store 35 (.tmp 9) (.tmp 38), 0, none⟩, ⟨some 10, .assign (.tmp 39), 28, none⟩] (Q .normal ds) σ w := mk_eq rfl
@[push_cast] theorem vr8_8 : vc Try.prog (.region r8_8) Q ds σ w = vcOps Try.prog [⟨some 40, .indexAddr 57 (.tmp 3) (.const (.int .i64 1)), 0, none⟩, ⟨some 41, .load 35 (.tmp 40), 35, none⟩, ⟨some 42, .indexAddr 57 (.tmp 3) (.const (.int .i64 0)), 0, none⟩, ⟨some 43, .load 35 (.tmp 42), 35, none⟩, ⟨some 44, .call ⟨.value (.func 34), #[.tmp 41, .tmp 43], #[35, 35]⟩, 3, none⟩, ⟨some 45, .move (.tmp 6), 3, none⟩, ⟨some 46, .unOp .neg 3 (.tmp 45), 3, none⟩, ⟨some 47, .binOp .neq 3 (.tmp 44) (.tmp 46) 3, 4, none⟩, ⟨some 48, .move (.tmp 47), 4, none⟩, ⟨some 49, .indexAddr 57 (.tmp 3) (.const (.int .i64 0)), 0, some (48, false)⟩, ⟨some 50, .load 35 (.tmp 49), 35, some (48, false)⟩, ⟨some 51, .indexAddr 57 (.tmp 3) (.const (.int .i64 0)), 0, some (48, false)⟩, ⟨some 52, .load 35 (.tmp 51), 35, some (48, false)⟩, ⟨some 53, .call ⟨.value (.func 34), #[.tmp 50, .tmp 52], #[35, 35]⟩, 3, some (48, false)⟩, ⟨some 54, .binOp .neq 3 (.tmp 53) (.const (.int .i64 0)) 3, 4, some (48, false)⟩, ⟨some 55, .pick (.tmp 48) (.const (.bool true)) (.tmp 54), 4, none⟩, ⟨some 56, .move (.tmp 55), 4, none⟩, ⟨some 57, .move (.tmp 10), 28, some (56, false)⟩, ⟨some 58, .binOp .eql 28 (.tmp 57) (.const (.int .i64 131)) 28, 4, some (56, false)⟩, ⟨some 59, .move (.tmp 6), 3, some (56, false)⟩, ⟨some 60, .binOp .neq 3 (.tmp 59) (.const (.int .i64 0)) 3, 4, some (56, false)⟩, ⟨some 61, .binOp .neq 4 (.tmp 58) (.tmp 60) 4, 4, some (56, false)⟩, ⟨some 62, .pick (.tmp 56) (.const (.bool true)) (.tmp 61), 4, none⟩] (Q .normal ds) σ w := mk_eq rfl
@[push_cast] theorem vr8_9 : vc Try.prog (.region r8_9) Q ds σ w = vcOps Try.prog [⟨some 4, .assign (.const (.bool false)), 4, none⟩] (Q .normal ds) σ w := mk_eq rfl
@[push_cast] theorem vr8_10 : vc Try.prog (.region r8_10) Q ds σ w = vcOps Try.prog [⟨some 63, .move (.tmp 6), 3, none⟩, ⟨some 64, .binOp .eql 3 (.tmp 63) (.const (.int .i64 0)) 3, 4, none⟩, ⟨some 65, .move (.tmp 64), 4, none⟩, ⟨some 66, .move (.tmp 7), 3, some (65, true)⟩, ⟨some 67, .move (.tmp 8), 3, some (65, true)⟩, ⟨some 68, .binOp .neq 3 (.tmp 66) (.tmp 67) 3, 4, some (65, true)⟩, ⟨some 69, .pick (.tmp 65) (.tmp 68) (.const (.bool false)), 4, none⟩, ⟨some 70, .move (.tmp 69), 4, none⟩, ⟨some 71, .move (.tmp 7), 3, some (70, false)⟩, ⟨some 72, .binOp .eql 3 (.tmp 71) (.const (.int .i64 0)) 3, 4, some (70, false)⟩, ⟨some 73, .move (.tmp 72), 4, some (70, false)⟩, ⟨some 74, .move (.tmp 6), 3, some (73, true)⟩, ⟨some 75, .move (.tmp 8), 3, some (73, true)⟩, ⟨some 76, .binOp .neq 3 (.tmp 74) (.tmp 75) 3, 4, some (73, true)⟩, ⟨some 77, .pick (.tmp 73) (.tmp 76) (.const (.bool false)), 4, some (70, false)⟩, ⟨some 78, .pick (.tmp 70) (.const (.bool true)) (.tmp 77), 4, none⟩, ⟨some 79, .move (.tmp 78), 4, none⟩, ⟨some 80, .move (.tmp 6), 3, some (79, false)⟩, ⟨some 81, .move (.tmp 7), 3, some (79, false)⟩, ⟨some 82, .binOp .eql 3 (.tmp 80) (.tmp 81) 3, 4, some (79, false)⟩, ⟨some 83, .move (.tmp 82), 4, some (79, false)⟩, ⟨some 84, .move (.tmp 6), 3, some (83, true)⟩, ⟨some 85, .binOp .neq 3 (.tmp 84) (.const (.int .i64 0)) 3, 4, some (83, true)⟩, ⟨some 86, .pick (.tmp 83) (.tmp 85) (.const (.bool false)), 4, some (79, false)⟩, ⟨some 87, .move (.tmp 86), 4, some (79, false)⟩, ⟨some 88, .move (.tmp 8), 3, some (87, true)⟩, ⟨some 89, .move (.tmp 6), 3, some (87, true)⟩, ⟨some 90, .binOp .neq 3 (.tmp 88) (.tmp 89) 3, 4, some (87, true)⟩, ⟨some 91, .pick (.tmp 87) (.tmp 90) (.const (.bool false)), 4, some (79, false)⟩, ⟨some 92, .pick (.tmp 79) (.const (.bool true)) (.tmp 91), 4, none⟩] (Q .normal ds) σ w := mk_eq rfl
@[push_cast] theorem vr8_11 : vc Try.prog (.region r8_11) Q ds σ w = vcOps Try.prog [⟨some 4, .assign (.const (.bool false)), 4, none⟩] (Q .normal ds) σ w := mk_eq rfl
@[push_cast] theorem vr8_12 : vc Try.prog (.region r8_12) Q ds σ w = vcOps Try.prog [⟨some 93, .call ⟨.value (.func 24), #[], #[]⟩, 4, none⟩, ⟨some 94, .move (.tmp 93), 4, none⟩, ⟨some 95, .slice 57 (.tmp 3) none none none, 25, some (94, true)⟩, ⟨some 96, .call ⟨.value (.func 32), #[.tmp 95], #[25]⟩, 4, some (94, true)⟩, ⟨some 97, .move (.tmp 6), 3, some (94, true)⟩, ⟨some 98, .binOp .lss 3 (.tmp 97) (.const (.int .i64 0)) 3, 4, some (94, true)⟩, ⟨some 99, .move (.tmp 98), 4, some (94, true)⟩, ⟨some 100, .move (.tmp 7), 3, some (99, true)⟩, ⟨some 101, .binOp .lss 3 (.tmp 100) (.const (.int .i64 0)) 3, 4, some (99, true)⟩, ⟨some 102, .pick (.tmp 99) (.tmp 101) (.const (.bool false)), 4, some (94, true)⟩, ⟨some 103, .binOp .eql 4 (.tmp 96) (.tmp 102) 4, 4, some (94, true)⟩, ⟨some 104, .pick (.tmp 94) (.tmp 103) (.const (.bool false)), 4, none⟩, ⟨some 4, .assign (.tmp 104), 4, none⟩] (Q .normal ds) σ w := mk_eq rfl
/-! 9 columbary/columbarylaw13.RowsBoth (params #[24, 61], results #[(.tmp 4)], 80 slots) -/
def r9_0 : List VOp :=
  [⟨some 2, .box 24 (.tmp 0), 0, none⟩,
   ⟨some 3, .box 61 (.tmp 1), 0, none⟩,
   ⟨some 4, .assign (.const (.bool false)), 4, none⟩]
def r9_1 : List VOp :=
  [⟨some 15, .indexAddr 61 (.tmp 3) (.const (.int .i64 0)), 0, none⟩,
   ⟨some 16, .load 35 (.tmp 15), 35, none⟩,
   ⟨some 5, .alloc 35, 0, none⟩,
   ⟨none, .store 35 (.tmp 5) (.tmp 16), 0, none⟩]
def r9_2 : List VOp :=
  [⟨some 17, .indexAddr 61 (.tmp 3) (.const (.int .i64 1)), 0, none⟩,
   ⟨some 18, .load 35 (.tmp 17), 35, none⟩,
   ⟨some 6, .alloc 35, 0, none⟩,
   ⟨none, .store 35 (.tmp 6) (.tmp 18), 0, none⟩]
def r9_3 : List VOp :=
  [⟨some 19, .load 24 (.tmp 2), 24, none⟩,
   ⟨some 20, .slice 61 (.tmp 3) none none none, 25, none⟩,
   ⟨some 21, .call ⟨.value (.func 11), #[.tmp 19, .tmp 20], #[24, 25]⟩, 4, none⟩,
   ⟨some 7, .assign (.tmp 21), 4, none⟩]
def r9_4 : List VOp :=
  [⟨some 22, .move (.tmp 7), 4, none⟩,
   ⟨some 23, .unOp .not 4 (.tmp 22), 4, none⟩]
def r9_5 : List VOp :=
  [⟨some 24, .call ⟨.value (.func 24), #[], #[]⟩, 4, none⟩,
   ⟨some 4, .assign (.tmp 24), 4, none⟩]
def r9_6 : List VOp :=
  [⟨some 25, .slice 61 (.tmp 3) none none none, 25, none⟩,
   ⟨some 26, .call ⟨.value (.func 30), #[.tmp 25], #[25]⟩, 25, none⟩,
   ⟨some 8, .assign (.tmp 26), 25, none⟩]
def r9_7 : List VOp :=
  [⟨some 9, .assign (.const (.int .i64 0)), 3, none⟩]
def r9_8 : List VOp :=
  [⟨some 27, .load 35 (.tmp 5), 35, none⟩,
   ⟨some 28, .load 35 (.tmp 6), 35, none⟩,
   ⟨some 29, .call ⟨.value (.func 36), #[.tmp 27, .tmp 28], #[35, 35]⟩, 4, none⟩]
def r9_9 : List VOp :=
  [⟨some 9, .assign (.const (.int .i64 (-1))), 3, none⟩]
def r9_10 : List VOp :=
  [⟨some 30, .load 35 (.tmp 6), 35, none⟩,
   ⟨some 31, .load 35 (.tmp 5), 35, none⟩,
   ⟨some 32, .call ⟨.value (.func 36), #[.tmp 30, .tmp 31], #[35, 35]⟩, 4, none⟩]
def r9_11 : List VOp :=
  [⟨some 9, .assign (.const (.int .i64 1)), 3, none⟩]
def r9_12 : List VOp :=
  [⟨some 34, .load 35 (.tmp 5), 35, none⟩,
   ⟨some 35, .load 35 (.tmp 6), 35, none⟩,
   ⟨some 36, .call ⟨.value (.func 35), #[.tmp 34, .tmp 35], #[35, 35]⟩, 50, none⟩,
   ⟨some 33, .move (.tmp 36), 50, none⟩,
   ⟨some 37, .extract (.tmp 33) 0, 35, none⟩,
   ⟨some 38, .extract (.tmp 33) 1, 28, none⟩,
   ⟨some 10, .alloc 35, 0, none⟩,
   ⟨none, .store 35 (.tmp 10) (.tmp 37), 0, none⟩,
   ⟨some 11, .assign (.tmp 38), 28, none⟩]
def r9_13 : List VOp :=
  [⟨some 40, .load 35 (.tmp 5), 35, none⟩,
   ⟨some 41, .load 35 (.tmp 6), 35, none⟩,
   ⟨some 42, .call ⟨.value (.func 37), #[.tmp 40, .tmp 41], #[35, 35]⟩, 50, none⟩,
   ⟨some 39, .move (.tmp 42), 50, none⟩,
   ⟨some 43, .extract (.tmp 39) 0, 35, none⟩,
   ⟨some 44, .extract (.tmp 39) 1, 28, none⟩,
   ⟨some 12, .alloc 35, 0, none⟩,
   ⟨none, .store 35 (.tmp 12) (.tmp 43), 0, none⟩,
   ⟨some 13, .assign (.tmp 44), 28, none⟩]
def r9_14 : List VOp :=
  [⟨some 45, .move (.tmp 8), 25, none⟩,
   ⟨some 46, .slice 61 (.tmp 3) none none none, 25, none⟩,
   ⟨some 47, .call ⟨.value (.func 15), #[.tmp 45, .tmp 46], #[25, 25]⟩, 4, none⟩,
   ⟨some 14, .assign (.tmp 47), 4, none⟩]
def r9_15 : List VOp :=
  [⟨some 48, .call ⟨.value (.func 24), #[], #[]⟩, 4, none⟩,
   ⟨some 49, .move (.tmp 48), 4, none⟩,
   ⟨some 50, .load 35 (.tmp 5), 35, some (49, true)⟩,
   ⟨some 51, .load 35 (.tmp 6), 35, some (49, true)⟩,
   ⟨some 52, .call ⟨.value (.func 34), #[.tmp 50, .tmp 51], #[35, 35]⟩, 3, some (49, true)⟩,
   ⟨some 53, .move (.tmp 9), 3, some (49, true)⟩,
   ⟨some 54, .binOp .eql 3 (.tmp 52) (.tmp 53) 3, 4, some (49, true)⟩,
   ⟨some 55, .pick (.tmp 49) (.tmp 54) (.const (.bool false)), 4, none⟩,
   ⟨some 56, .move (.tmp 55), 4, none⟩,
   ⟨some 57, .load 35 (.tmp 10), 35, some (56, true)⟩,
   ⟨some 58, .load 35 (.tmp 12), 35, some (56, true)⟩,
   ⟨some 59, .call ⟨.value (.func 29), #[.tmp 57, .tmp 58], #[35, 35]⟩, 4, some (56, true)⟩,
   ⟨some 60, .pick (.tmp 56) (.tmp 59) (.const (.bool false)), 4, none⟩,
   ⟨some 61, .move (.tmp 60), 4, none⟩,
   ⟨some 62, .move (.tmp 11), 28, some (61, true)⟩,
   ⟨some 63, .move (.tmp 13), 28, some (61, true)⟩,
   ⟨some 64, .binOp .eql 28 (.tmp 62) (.tmp 63) 28, 4, some (61, true)⟩,
   ⟨some 65, .pick (.tmp 61) (.tmp 64) (.const (.bool false)), 4, none⟩,
   ⟨some 66, .move (.tmp 65), 4, none⟩,
   ⟨some 67, .move (.tmp 14), 4, some (66, true)⟩,
   ⟨some 68, .pick (.tmp 66) (.tmp 67) (.const (.bool false)), 4, none⟩,
   ⟨some 69, .move (.tmp 68), 4, none⟩,
   ⟨some 70, .load 35 (.tmp 5), 35, some (69, true)⟩,
   ⟨some 71, .buildSlice 25 1 #[(0, (.tmp 70))], 25, some (69, true)⟩,
   ⟨some 72, .load 35 (.tmp 6), 35, some (69, true)⟩,
   ⟨some 73, .buildSlice 25 1 #[(0, (.tmp 72))], 25, some (69, true)⟩,
   ⟨some 74, .call ⟨.value (.func 38), #[.tmp 71, .tmp 73], #[25, 25]⟩, 4, some (69, true)⟩,
   ⟨some 75, .load 35 (.tmp 5), 35, some (69, true)⟩,
   ⟨some 76, .load 35 (.tmp 6), 35, some (69, true)⟩,
   ⟨some 77, .call ⟨.value (.func 29), #[.tmp 75, .tmp 76], #[35, 35]⟩, 4, some (69, true)⟩,
   ⟨some 78, .binOp .eql 4 (.tmp 74) (.tmp 77) 4, 4, some (69, true)⟩,
   ⟨some 79, .pick (.tmp 69) (.tmp 78) (.const (.bool false)), 4, none⟩,
   ⟨some 4, .assign (.tmp 79), 4, none⟩]
def B9 : VC :=
  (.seq (.region r9_0) (.seq (.region r9_1) (.seq (.region r9_2) (.seq (.draw r9_3 3) (.seq (.seq (.region r9_4) (.cond (.tmp 23) (.seq (.region r9_5) .ret) .skip)) (.seq (.region r9_6) (.seq (.region r9_7) (.seq (.seq (.region r9_8) (.cond (.tmp 29) (.region r9_9) .skip)) (.seq (.seq (.region r9_10) (.cond (.tmp 32) (.region r9_11) .skip)) (.seq (.region r9_12) (.seq (.region r9_13) (.seq (.region r9_14) (.seq (.draw r9_15 5) .ret)))))))))))))
theorem code9 : ∃ c, Try.f9.body = some c ∧ abs Try.f9.ntmps c = B9 := ⟨_, rfl, by kernel_rfl⟩
theorem hb9 : HasBody Try.prog 9 := hasBody_of Try.func9 (by kernel_rfl)
theorem res9 : Try.f9.results = #[(.tmp 4)] := rfl
theorem enter9 {w : World} {R : Value → World → Prop} (x0 x1 : Value) (h : vc Try.prog B9 (retK Try.prog #[(.tmp 4)] R) [] (initEnv [x0, x1] 0) w) : FnC Try.prog 9 #[x0, x1] w R := by
  obtain ⟨c, h1, h2⟩ := code9
  exact hb9.fn (ret_of_vc mixed Try.func9 h1 (Nat.le_of_ble_eq_true rfl) B9 h2 h)
@[push_cast] theorem vr9_0 : vc Try.prog (.region r9_0) Q ds σ w = vcOps Try.prog [⟨some 2, .box 24 (.tmp 0), 0, none⟩, ⟨some 3, .box 61 (.tmp 1), 0, none⟩, ⟨some 4, .assign (.const (.bool false)), 4, none⟩] (Q .normal ds) σ w := mk_eq rfl
@[push_cast] theorem vr9_1 : vc Try.prog (.region r9_1) Q ds σ w = vcOps Try.prog [⟨some 15, .indexAddr 61 (.tmp 3) (.const (.int .i64 0)), 0, none⟩, ⟨some 16, .load 35 (.tmp 15), 35, none⟩, ⟨some 5, .alloc 35, 0, none⟩, ⟨none, .store 35 (.tmp 5) (.tmp 16), 0, none⟩] (Q .normal ds) σ w := mk_eq rfl
@[push_cast] theorem vr9_2 : vc Try.prog (.region r9_2) Q ds σ w = vcOps Try.prog [⟨some 17, .indexAddr 61 (.tmp 3) (.const (.int .i64 1)), 0, none⟩, ⟨some 18, .load 35 (.tmp 17), 35, none⟩, ⟨some 6, .alloc 35, 0, none⟩, ⟨none, .store 35 (.tmp 6) (.tmp 18), 0, none⟩] (Q .normal ds) σ w := mk_eq rfl
@[push_cast] theorem vr9_3 : vc Try.prog (.draw r9_3 3) Q ds σ w = drawn Try.prog [(⟨some 19, .load 24 (.tmp 2), 24, none⟩, [2]), (⟨some 20, .slice 61 (.tmp 3) none none none, 25, none⟩, [3]), (⟨some 21, .call ⟨.value (.func 11), #[.tmp 19, .tmp 20], #[24, 25]⟩, 4, none⟩, [19, 20]), (⟨some 7, .assign (.tmp 21), 4, none⟩, [21])] 3 (Q .normal ds) σ w := mk_eq rfl
@[push_cast] theorem vr9_4 : vc Try.prog (.region r9_4) Q ds σ w = vcOps Try.prog [⟨some 22, .move (.tmp 7), 4, none⟩, ⟨some 23, .unOp .not 4 (.tmp 22), 4, none⟩] (Q .normal ds) σ w := mk_eq rfl
@[push_cast] theorem vr9_5 : vc Try.prog (.region r9_5) Q ds σ w = vcOps Try.prog [⟨some 24, .call ⟨.value (.func 24), #[], #[]⟩, 4, none⟩, ⟨some 4, .assign (.tmp 24), 4, none⟩] (Q .normal ds) σ w := mk_eq rfl
@[push_cast] theorem vr9_6 : vc Try.prog (.region r9_6) Q ds σ w = vcOps Try.prog [⟨some 25, .slice 61 (.tmp 3) none none none, 25, none⟩, ⟨some 26, .call ⟨.value (.func 30), #[.tmp 25], #[25]⟩, 25, none⟩, ⟨some 8, .assign (.tmp 26), 25, none⟩] (Q .normal ds) σ w := mk_eq rfl
@[push_cast] theorem vr9_7 : vc Try.prog (.region r9_7) Q ds σ w = vcOps Try.prog [⟨some 9, .assign (.const (.int .i64 0)), 3, none⟩] (Q .normal ds) σ w := mk_eq rfl
@[push_cast] theorem vr9_8 : vc Try.prog (.region r9_8) Q ds σ w = vcOps Try.prog [⟨some 27, .load 35 (.tmp 5), 35, none⟩, ⟨some 28, .load 35 (.tmp 6), 35, none⟩, ⟨some 29, .call ⟨.value (.func 36), #[.tmp 27, .tmp 28], #[35, 35]⟩, 4, none⟩] (Q .normal ds) σ w := mk_eq rfl
@[push_cast] theorem vr9_9 : vc Try.prog (.region r9_9) Q ds σ w = vcOps Try.prog [⟨some 9, .assign (.const (.int .i64 (-1))), 3, none⟩] (Q .normal ds) σ w := mk_eq rfl
@[push_cast] theorem vr9_10 : vc Try.prog (.region r9_10) Q ds σ w = vcOps Try.prog [⟨some 30, .load 35 (.tmp 6), 35, none⟩, ⟨some 31, .load 35 (.tmp 5), 35, none⟩, ⟨some 32, .call ⟨.value (.func 36), #[.tmp 30, .tmp 31], #[35, 35]⟩, 4, none⟩] (Q .normal ds) σ w := mk_eq rfl
@[push_cast] theorem vr9_11 : vc Try.prog (.region r9_11) Q ds σ w = vcOps Try.prog [⟨some 9, .assign (.const (.int .i64 1)), 3, none⟩] (Q .normal ds) σ w := mk_eq rfl
@[push_cast] theorem vr9_12 : vc Try.prog (.region r9_12) Q ds σ w = vcOps Try.prog [⟨some 34, .load 35 (.tmp 5), 35, none⟩, ⟨some 35, .load 35 (.tmp 6), 35, none⟩, ⟨some 36, .call ⟨.value (.func 35), #[.tmp 34, .tmp 35], #[35, 35]⟩, 50, none⟩, ⟨some 33, .move (.tmp 36), 50, none⟩, ⟨some 37, .extract (.tmp 33) 0, 35, none⟩, ⟨some 38, .extract (.tmp 33) 1, 28, none⟩, ⟨some 10, .alloc 35, 0, none⟩, ⟨none, .store 35 (.tmp 10) (.tmp 37), 0, none⟩, ⟨some 11, .assign (.tmp 38), 28, none⟩] (Q .normal ds) σ w := mk_eq rfl
@[push_cast] theorem vr9_13 : vc Try.prog (.region r9_13) Q ds σ w = vcOps Try.prog [⟨some 40, .load 35 (.tmp 5), 35, none⟩, ⟨some 41, .load 35 (.tmp 6), 35, none⟩, ⟨some 42, .call ⟨.value (.func 37), #[.tmp 40, .tmp 41], #[35, 35]⟩, 50, none⟩, ⟨some 39, .move (.tmp 42), 50, none⟩, ⟨some 43, .extract (.tmp 39) 0, 35, none⟩, ⟨some 44, .extract (.tmp 39) 1, 28, none⟩, ⟨some 12, .alloc 35, 0, none⟩, ⟨none, .store 35 (.tmp 12) (.tmp 43), 0, none⟩, ⟨some 13, .assign (.tmp 44), 28, none⟩] (Q .normal ds) σ w := mk_eq rfl
@[push_cast] theorem vr9_14 : vc Try.prog (.region r9_14) Q ds σ w = vcOps Try.prog [⟨some 45, .move (.tmp 8), 25, none⟩, ⟨some 46, .slice 61 (.tmp 3) none none none, 25, none⟩, ⟨some 47, .call ⟨.value (.func 15), #[.tmp 45, .tmp 46], #[25, 25]⟩, 4, none⟩, ⟨some 14, .assign (.tmp 47), 4, none⟩] (Q .normal ds) σ w := mk_eq rfl
@[push_cast] theorem vr9_15 : vc Try.prog (.draw r9_15 5) Q ds σ w = drawn Try.prog [(⟨some 48, .call ⟨.value (.func 24), #[], #[]⟩, 4, none⟩, []), (⟨some 49, .move (.tmp 48), 4, none⟩, [48]), (⟨some 50, .load 35 (.tmp 5), 35, some (49, true)⟩, [5, 49]), (⟨some 51, .load 35 (.tmp 6), 35, some (49, true)⟩, [6, 49]), (⟨some 52, .call ⟨.value (.func 34), #[.tmp 50, .tmp 51], #[35, 35]⟩, 3, some (49, true)⟩, [50, 51, 49]), (⟨some 53, .move (.tmp 9), 3, some (49, true)⟩, [9, 49]), (⟨some 54, .binOp .eql 3 (.tmp 52) (.tmp 53) 3, 4, some (49, true)⟩, [52, 53, 49]), (⟨some 55, .pick (.tmp 49) (.tmp 54) (.const (.bool false)), 4, none⟩, [49, 54]), (⟨some 56, .move (.tmp 55), 4, none⟩, [55]), (⟨some 57, .load 35 (.tmp 10), 35, some (56, true)⟩, [10, 56]), (⟨some 58, .load 35 (.tmp 12), 35, some (56, true)⟩, [12, 56]), (⟨some 59, .call ⟨.value (.func 29), #[.tmp 57, .tmp 58], #[35, 35]⟩, 4, some (56, true)⟩, [57, 58, 56]), (⟨some 60, .pick (.tmp 56) (.tmp 59) (.const (.bool false)), 4, none⟩, [56, 59]), (⟨some 61, .move (.tmp 60), 4, none⟩, [60]), (⟨some 62, .move (.tmp 11), 28, some (61, true)⟩, [11, 61]), (⟨some 63, .move (.tmp 13), 28, some (61, true)⟩, [13, 61]), (⟨some 64, .binOp .eql 28 (.tmp 62) (.tmp 63) 28, 4, some (61, true)⟩, [62, 63, 61]), (⟨some 65, .pick (.tmp 61) (.tmp 64) (.const (.bool false)), 4, none⟩, [61, 64]), (⟨some 66, .move (.tmp 65), 4, none⟩, [65]), (⟨some 67, .move (.tmp 14), 4, some (66, true)⟩, [14, 66]), (⟨some 68, .pick (.tmp 66) (.tmp 67) (.const (.bool false)), 4, none⟩, [66, 67]), (⟨some 69, .move (.tmp 68), 4, none⟩, [68]), (⟨some 70, .load 35 (.tmp 5), 35, some (69, true)⟩, [5, 69]), (⟨some 71, .buildSlice 25 1 #[(0, (.tmp 70))], 25, some (69, true)⟩, [70, 69]), (⟨some 72, .load 35 (.tmp 6), 35, some (69, true)⟩, [6, 69]), (⟨some 73, .buildSlice 25 1 #[(0, (.tmp 72))], 25, some (69, true)⟩, [72, 69]), (⟨some 74, .call ⟨.value (.func 38), #[.tmp 71, .tmp 73], #[25, 25]⟩, 4, some (69, true)⟩, [71, 73, 69]), (⟨some 75, .load 35 (.tmp 5), 35, some (69, true)⟩, [5, 69]), (⟨some 76, .load 35 (.tmp 6), 35, some (69, true)⟩, [6, 69]), (⟨some 77, .call ⟨.value (.func 29), #[.tmp 75, .tmp 76], #[35, 35]⟩, 4, some (69, true)⟩, [75, 76, 69]), (⟨some 78, .binOp .eql 4 (.tmp 74) (.tmp 77) 4, 4, some (69, true)⟩, [74, 77, 69]), (⟨some 79, .pick (.tmp 69) (.tmp 78) (.const (.bool false)), 4, none⟩, [69, 78]), (⟨some 4, .assign (.tmp 79), 4, none⟩, [79])] 5 (Q .normal ds) σ w := mk_eq rfl
/-! 10 columbary/columbarylaw13.RowsOwn (params #[24, 25], results #[(.tmp 4)], 88 slots) -/
def W10_0 : List Nat := [9, 10, 26, 27, 28, 29, 30, 31, 32, 33, 34, 35, 36, 37, 38, 39, 40, 41, 42, 43, 44, 45, 46, 47, 48, 49, 50, 51, 52, 53, 54, 55, 56, 57, 58, 59]
@[push_cast] theorem W10_0_def : W10_0 = [9, 10, 26, 27, 28, 29, 30, 31, 32, 33, 34, 35, 36, 37, 38, 39, 40, 41, 42, 43, 44, 45, 46, 47, 48, 49, 50, 51, 52, 53, 54, 55, 56, 57, 58, 59] := mk_eq rfl
def W10_1 : List Nat := [10, 42, 43, 44, 45, 46, 47, 48, 49, 50, 51, 52, 53, 54, 55, 56, 57, 58, 59]
@[push_cast] theorem W10_1_def : W10_1 = [10, 42, 43, 44, 45, 46, 47, 48, 49, 50, 51, 52, 53, 54, 55, 56, 57, 58, 59] := mk_eq rfl
def W10_2 : List Nat := [12, 62, 63, 64, 65, 66, 67, 68, 69, 70, 71, 72, 73]
@[push_cast] theorem W10_2_def : W10_2 = [12, 62, 63, 64, 65, 66, 67, 68, 69, 70, 71, 72, 73] := mk_eq rfl
def r10_0 : List VOp :=
  [⟨some 2, .box 24 (.tmp 0), 0, none⟩,
   ⟨some 4, .assign (.const (.bool false)), 4, none⟩]
def r10_1 : List VOp :=
  [⟨some 13, .load 24 (.tmp 2), 24, none⟩,
   ⟨some 14, .move (.tmp 1), 25, none⟩,
   ⟨some 15, .call ⟨.value (.func 11), #[.tmp 13, .tmp 14], #[24, 25]⟩, 4, none⟩,
   ⟨some 5, .assign (.tmp 15), 4, none⟩]
def r10_2 : List VOp :=
  [⟨some 16, .move (.tmp 5), 4, none⟩,
   ⟨some 17, .unOp .not 4 (.tmp 16), 4, none⟩]
def r10_3 : List VOp :=
  [⟨some 18, .call ⟨.value (.func 24), #[], #[]⟩, 4, none⟩,
   ⟨some 4, .assign (.tmp 18), 4, none⟩]
def r10_4 : List VOp :=
  [⟨some 19, .move (.tmp 1), 25, none⟩,
   ⟨some 20, .call ⟨.value (.func 30), #[.tmp 19], #[25]⟩, 25, none⟩,
   ⟨some 6, .assign (.tmp 20), 25, none⟩]
def r10_5 : List VOp :=
  [⟨some 22, .move (.tmp 1), 25, none⟩,
   ⟨some 23, .call ⟨.value (.func 31), #[.tmp 22], #[25]⟩, 29, none⟩,
   ⟨some 21, .move (.tmp 23), 29, none⟩,
   ⟨some 24, .extract (.tmp 21) 0, 25, none⟩,
   ⟨some 25, .extract (.tmp 21) 1, 28, none⟩,
   ⟨some 7, .assign (.tmp 24), 25, none⟩,
   ⟨some 8, .assign (.tmp 25), 28, none⟩]
def r10_6 : List VOp :=
  [⟨some 9, .assign (.const (.int .i64 0)), 3, none⟩]
def r10_7 : List VOp :=
  [⟨some 26, .move (.tmp 9), 3, none⟩,
   ⟨some 27, .move (.tmp 7), 25, none⟩,
   ⟨some 28, .call ⟨.builtin .len, #[.tmp 27], #[25]⟩, 3, none⟩,
   ⟨some 29, .binOp .lss 3 (.tmp 26) (.tmp 28) 3, 4, none⟩]
def r10_9 : List VOp :=
  [⟨some 32, .move (.tmp 7), 25, none⟩,
   ⟨some 33, .move (.tmp 9), 3, none⟩,
   ⟨some 34, .indexAddr 25 (.tmp 32) (.tmp 33), 0, none⟩,
   ⟨some 35, .fieldAddr 35 (.tmp 34) 1, 0, none⟩,
   ⟨some 36, .load 22 (.tmp 35), 22, none⟩,
   ⟨some 37, .indexAddr 22 (.tmp 36) (.const (.int .i64 0)), 0, none⟩,
   ⟨none, .store 9 (.tmp 37) (.const (.string { data := #[116, 117, 114, 110, 101, 100] })), 0, none⟩]
def r10_10 : List VOp :=
  [⟨some 38, .move (.tmp 7), 25, none⟩,
   ⟨some 39, .move (.tmp 9), 3, none⟩,
   ⟨some 40, .indexAddr 25 (.tmp 38) (.tmp 39), 0, none⟩,
   ⟨some 41, .fieldAddr 35 (.tmp 40) 2, 0, none⟩,
   ⟨none, .store 3 (.tmp 41) (.const (.int .i64 0)), 0, none⟩]
def r10_11 : List VOp :=
  [⟨some 10, .assign (.const (.int .i64 0)), 3, none⟩]
def r10_12 : List VOp :=
  [⟨some 42, .move (.tmp 10), 3, none⟩,
   ⟨some 43, .move (.tmp 7), 25, none⟩,
   ⟨some 44, .move (.tmp 9), 3, none⟩,
   ⟨some 45, .indexAddr 25 (.tmp 43) (.tmp 44), 0, none⟩,
   ⟨some 46, .fieldAddr 35 (.tmp 45) 3, 0, none⟩,
   ⟨some 47, .load 33 (.tmp 46), 33, none⟩,
   ⟨some 48, .call ⟨.builtin .len, #[.tmp 47], #[33]⟩, 3, none⟩,
   ⟨some 49, .binOp .lss 3 (.tmp 42) (.tmp 48) 3, 4, none⟩]
def r10_14 : List VOp :=
  [⟨some 52, .move (.tmp 7), 25, none⟩,
   ⟨some 53, .move (.tmp 9), 3, none⟩,
   ⟨some 54, .indexAddr 25 (.tmp 52) (.tmp 53), 0, none⟩,
   ⟨some 55, .fieldAddr 35 (.tmp 54) 3, 0, none⟩,
   ⟨some 56, .load 33 (.tmp 55), 33, none⟩,
   ⟨some 57, .move (.tmp 10), 3, none⟩,
   ⟨some 58, .build 64 #[], 64, none⟩,
   ⟨some 59, .indexAddr 33 (.tmp 56) (.tmp 57), 0, none⟩,
   ⟨none, .store 64 (.tmp 59) (.tmp 58), 0, none⟩]
def r10_13 : List VOp :=
  [⟨some 50, .move (.tmp 10), 3, none⟩,
   ⟨some 51, .binOp .add 3 (.tmp 50) (.const (.int .i64 1)) 3, 3, none⟩,
   ⟨some 10, .assign (.tmp 51), 3, none⟩]
def r10_8 : List VOp :=
  [⟨some 30, .move (.tmp 9), 3, none⟩,
   ⟨some 31, .binOp .add 3 (.tmp 30) (.const (.int .i64 1)) 3, 3, none⟩,
   ⟨some 9, .assign (.tmp 31), 3, none⟩]
def r10_15 : List VOp :=
  [⟨some 60, .move (.tmp 1), 25, none⟩,
   ⟨some 61, .call ⟨.value (.func 30), #[.tmp 60], #[25]⟩, 25, none⟩,
   ⟨some 11, .assign (.tmp 61), 25, none⟩]
def r10_16 : List VOp :=
  [⟨some 12, .assign (.const (.int .i64 0)), 3, none⟩]
def r10_17 : List VOp :=
  [⟨some 62, .move (.tmp 12), 3, none⟩,
   ⟨some 63, .move (.tmp 11), 25, none⟩,
   ⟨some 64, .call ⟨.builtin .len, #[.tmp 63], #[25]⟩, 3, none⟩,
   ⟨some 65, .binOp .lss 3 (.tmp 62) (.tmp 64) 3, 4, none⟩]
def r10_19 : List VOp :=
  [⟨some 68, .move (.tmp 11), 25, none⟩,
   ⟨some 69, .move (.tmp 12), 3, none⟩,
   ⟨some 70, .indexAddr 25 (.tmp 68) (.tmp 69), 0, none⟩,
   ⟨some 71, .fieldAddr 35 (.tmp 70) 1, 0, none⟩,
   ⟨some 72, .load 22 (.tmp 71), 22, none⟩,
   ⟨some 73, .indexAddr 22 (.tmp 72) (.const (.int .i64 0)), 0, none⟩,
   ⟨none, .store 9 (.tmp 73) (.const (.string { data := #[116, 117, 114, 110, 101, 100] })), 0, none⟩]
def r10_18 : List VOp :=
  [⟨some 66, .move (.tmp 12), 3, none⟩,
   ⟨some 67, .binOp .add 3 (.tmp 66) (.const (.int .i64 1)) 3, 3, none⟩,
   ⟨some 12, .assign (.tmp 67), 3, none⟩]
def r10_20 : List VOp :=
  [⟨some 74, .call ⟨.value (.func 24), #[], #[]⟩, 4, none⟩,
   ⟨some 75, .move (.tmp 74), 4, none⟩,
   ⟨some 76, .move (.tmp 8), 28, some (75, true)⟩,
   ⟨some 77, .binOp .eql 28 (.tmp 76) (.const (.int .i64 0)) 28, 4, some (75, true)⟩,
   ⟨some 78, .move (.tmp 77), 4, some (75, true)⟩,
   ⟨some 79, .move (.tmp 8), 28, some (78, false)⟩,
   ⟨some 80, .binOp .eql 28 (.tmp 79) (.const (.int .i64 121)) 28, 4, some (78, false)⟩,
   ⟨some 81, .pick (.tmp 78) (.const (.bool true)) (.tmp 80), 4, some (75, true)⟩,
   ⟨some 82, .pick (.tmp 75) (.tmp 81) (.const (.bool false)), 4, none⟩,
   ⟨some 83, .move (.tmp 82), 4, none⟩,
   ⟨some 84, .move (.tmp 1), 25, some (83, true)⟩,
   ⟨some 85, .move (.tmp 6), 25, some (83, true)⟩,
   ⟨some 86, .call ⟨.value (.func 38), #[.tmp 84, .tmp 85], #[25, 25]⟩, 4, some (83, true)⟩,
   ⟨some 87, .pick (.tmp 83) (.tmp 86) (.const (.bool false)), 4, none⟩,
   ⟨some 4, .assign (.tmp 87), 4, none⟩]
def B10 : VC :=
  (.seq (.region r10_0) (.seq (.region r10_1) (.seq (.seq (.region r10_2) (.cond (.tmp 17) (.seq (.region r10_3) .ret) .skip)) (.seq (.region r10_4) (.seq (.region r10_5) (.seq (.seq (.region r10_6) (.block 0 (.loop (.seq (.seq (.region r10_7) (.cond (.tmp 29) .skip (.exit 0))) (.seq (.block 1 (.seq (.region r10_9) (.seq (.region r10_10) (.seq (.region r10_11) (.block 2 (.loop (.seq (.seq (.region r10_12) (.cond (.tmp 49) .skip (.exit 2))) (.seq (.block 3 (.region r10_14)) (.region r10_13))))))))) (.region r10_8)))))) (.seq (.region r10_15) (.seq (.seq (.region r10_16) (.block 4 (.loop (.seq (.seq (.region r10_17) (.cond (.tmp 65) .skip (.exit 4))) (.seq (.block 5 (.region r10_19)) (.region r10_18)))))) (.seq (.region r10_20) .ret)))))))))
theorem code10 : ∃ c, Try.f10.body = some c ∧ abs Try.f10.ntmps c = B10 := ⟨_, rfl, by kernel_rfl⟩
theorem hb10 : HasBody Try.prog 10 := hasBody_of Try.func10 (by kernel_rfl)
theorem res10 : Try.f10.results = #[(.tmp 4)] := rfl
theorem enter10 {w : World} {R : Value → World → Prop} (x0 x1 : Value) (h : vc Try.prog B10 (retK Try.prog #[(.tmp 4)] R) [] (initEnv [x0, x1] 0) w) : FnC Try.prog 10 #[x0, x1] w R := by
  obtain ⟨c, h1, h2⟩ := code10
  exact hb10.fn (ret_of_vc mixed Try.func10 h1 (Nat.le_of_ble_eq_true rfl) B10 h2 h)
@[push_cast] theorem vr10_0 : vc Try.prog (.region r10_0) Q ds σ w = vcOps Try.prog [⟨some 2, .box 24 (.tmp 0), 0, none⟩, ⟨some 4, .assign (.const (.bool false)), 4, none⟩] (Q .normal ds) σ w := mk_eq rfl
@[push_cast] theorem vr10_1 : vc Try.prog (.region r10_1) Q ds σ w = vcOps Try.prog [⟨some 13, .load 24 (.tmp 2), 24, none⟩, ⟨some 14, .move (.tmp 1), 25, none⟩, ⟨some 15, .call ⟨.value (.func 11), #[.tmp 13, .tmp 14], #[24, 25]⟩, 4, none⟩, ⟨some 5, .assign (.tmp 15), 4, none⟩] (Q .normal ds) σ w := mk_eq rfl
@[push_cast] theorem vr10_2 : vc Try.prog (.region r10_2) Q ds σ w = vcOps Try.prog [⟨some 16, .move (.tmp 5), 4, none⟩, ⟨some 17, .unOp .not 4 (.tmp 16), 4, none⟩] (Q .normal ds) σ w := mk_eq rfl
@[push_cast] theorem vr10_3 : vc Try.prog (.region r10_3) Q ds σ w = vcOps Try.prog [⟨some 18, .call ⟨.value (.func 24), #[], #[]⟩, 4, none⟩, ⟨some 4, .assign (.tmp 18), 4, none⟩] (Q .normal ds) σ w := mk_eq rfl
@[push_cast] theorem vr10_4 : vc Try.prog (.region r10_4) Q ds σ w = vcOps Try.prog [⟨some 19, .move (.tmp 1), 25, none⟩, ⟨some 20, .call ⟨.value (.func 30), #[.tmp 19], #[25]⟩, 25, none⟩, ⟨some 6, .assign (.tmp 20), 25, none⟩] (Q .normal ds) σ w := mk_eq rfl
@[push_cast] theorem vr10_5 : vc Try.prog (.region r10_5) Q ds σ w = vcOps Try.prog [⟨some 22, .move (.tmp 1), 25, none⟩, ⟨some 23, .call ⟨.value (.func 31), #[.tmp 22], #[25]⟩, 29, none⟩, ⟨some 21, .move (.tmp 23), 29, none⟩, ⟨some 24, .extract (.tmp 21) 0, 25, none⟩, ⟨some 25, .extract (.tmp 21) 1, 28, none⟩, ⟨some 7, .assign (.tmp 24), 25, none⟩, ⟨some 8, .assign (.tmp 25), 28, none⟩] (Q .normal ds) σ w := mk_eq rfl
@[push_cast] theorem vr10_6 : vc Try.prog (.region r10_6) Q ds σ w = vcOps Try.prog [⟨some 9, .assign (.const (.int .i64 0)), 3, none⟩] (Q .normal ds) σ w := mk_eq rfl
@[push_cast] theorem vr10_7 : vc Try.prog (.region r10_7) Q ds σ w = vcOps Try.prog [⟨some 26, .move (.tmp 9), 3, none⟩, ⟨some 27, .move (.tmp 7), 25, none⟩, ⟨some 28, .call ⟨.builtin .len, #[.tmp 27], #[25]⟩, 3, none⟩, ⟨some 29, .binOp .lss 3 (.tmp 26) (.tmp 28) 3, 4, none⟩] (Q .normal ds) σ w := mk_eq rfl
@[push_cast] theorem vr10_9 : vc Try.prog (.region r10_9) Q ds σ w = vcOps Try.prog [⟨some 32, .move (.tmp 7), 25, none⟩, ⟨some 33, .move (.tmp 9), 3, none⟩, ⟨some 34, .indexAddr 25 (.tmp 32) (.tmp 33), 0, none⟩, ⟨some 35, .fieldAddr 35 (.tmp 34) 1, 0, none⟩, ⟨some 36, .load 22 (.tmp 35), 22, none⟩, ⟨some 37, .indexAddr 22 (.tmp 36) (.const (.int .i64 0)), 0, none⟩, ⟨none, .store 9 (.tmp 37) (.const (.string { data := #[116, 117, 114, 110, 101, 100] })), 0, none⟩] (Q .normal ds) σ w := mk_eq rfl
@[push_cast] theorem vr10_10 : vc Try.prog (.region r10_10) Q ds σ w = vcOps Try.prog [⟨some 38, .move (.tmp 7), 25, none⟩, ⟨some 39, .move (.tmp 9), 3, none⟩, ⟨some 40, .indexAddr 25 (.tmp 38) (.tmp 39), 0, none⟩, ⟨some 41, .fieldAddr 35 (.tmp 40) 2, 0, none⟩, ⟨none, .store 3 (.tmp 41) (.const (.int .i64 0)), 0, none⟩] (Q .normal ds) σ w := mk_eq rfl
@[push_cast] theorem vr10_11 : vc Try.prog (.region r10_11) Q ds σ w = vcOps Try.prog [⟨some 10, .assign (.const (.int .i64 0)), 3, none⟩] (Q .normal ds) σ w := mk_eq rfl
@[push_cast] theorem vr10_12 : vc Try.prog (.region r10_12) Q ds σ w = vcOps Try.prog [⟨some 42, .move (.tmp 10), 3, none⟩, ⟨some 43, .move (.tmp 7), 25, none⟩, ⟨some 44, .move (.tmp 9), 3, none⟩, ⟨some 45, .indexAddr 25 (.tmp 43) (.tmp 44), 0, none⟩, ⟨some 46, .fieldAddr 35 (.tmp 45) 3, 0, none⟩, ⟨some 47, .load 33 (.tmp 46), 33, none⟩, ⟨some 48, .call ⟨.builtin .len, #[.tmp 47], #[33]⟩, 3, none⟩, ⟨some 49, .binOp .lss 3 (.tmp 42) (.tmp 48) 3, 4, none⟩] (Q .normal ds) σ w := mk_eq rfl
@[push_cast] theorem vr10_14 : vc Try.prog (.region r10_14) Q ds σ w = vcOps Try.prog [⟨some 52, .move (.tmp 7), 25, none⟩, ⟨some 53, .move (.tmp 9), 3, none⟩, ⟨some 54, .indexAddr 25 (.tmp 52) (.tmp 53), 0, none⟩, ⟨some 55, .fieldAddr 35 (.tmp 54) 3, 0, none⟩, ⟨some 56, .load 33 (.tmp 55), 33, none⟩, ⟨some 57, .move (.tmp 10), 3, none⟩, ⟨some 58, .build 64 #[], 64, none⟩, ⟨some 59, .indexAddr 33 (.tmp 56) (.tmp 57), 0, none⟩, ⟨none, .store 64 (.tmp 59) (.tmp 58), 0, none⟩] (Q .normal ds) σ w := mk_eq rfl
@[push_cast] theorem vr10_13 : vc Try.prog (.region r10_13) Q ds σ w = vcOps Try.prog [⟨some 50, .move (.tmp 10), 3, none⟩, ⟨some 51, .binOp .add 3 (.tmp 50) (.const (.int .i64 1)) 3, 3, none⟩, ⟨some 10, .assign (.tmp 51), 3, none⟩] (Q .normal ds) σ w := mk_eq rfl
@[push_cast] theorem vr10_8 : vc Try.prog (.region r10_8) Q ds σ w = vcOps Try.prog [⟨some 30, .move (.tmp 9), 3, none⟩, ⟨some 31, .binOp .add 3 (.tmp 30) (.const (.int .i64 1)) 3, 3, none⟩, ⟨some 9, .assign (.tmp 31), 3, none⟩] (Q .normal ds) σ w := mk_eq rfl
@[push_cast] theorem vr10_15 : vc Try.prog (.region r10_15) Q ds σ w = vcOps Try.prog [⟨some 60, .move (.tmp 1), 25, none⟩, ⟨some 61, .call ⟨.value (.func 30), #[.tmp 60], #[25]⟩, 25, none⟩, ⟨some 11, .assign (.tmp 61), 25, none⟩] (Q .normal ds) σ w := mk_eq rfl
@[push_cast] theorem vr10_16 : vc Try.prog (.region r10_16) Q ds σ w = vcOps Try.prog [⟨some 12, .assign (.const (.int .i64 0)), 3, none⟩] (Q .normal ds) σ w := mk_eq rfl
@[push_cast] theorem vr10_17 : vc Try.prog (.region r10_17) Q ds σ w = vcOps Try.prog [⟨some 62, .move (.tmp 12), 3, none⟩, ⟨some 63, .move (.tmp 11), 25, none⟩, ⟨some 64, .call ⟨.builtin .len, #[.tmp 63], #[25]⟩, 3, none⟩, ⟨some 65, .binOp .lss 3 (.tmp 62) (.tmp 64) 3, 4, none⟩] (Q .normal ds) σ w := mk_eq rfl
@[push_cast] theorem vr10_19 : vc Try.prog (.region r10_19) Q ds σ w = vcOps Try.prog [⟨some 68, .move (.tmp 11), 25, none⟩, ⟨some 69, .move (.tmp 12), 3, none⟩, ⟨some 70, .indexAddr 25 (.tmp 68) (.tmp 69), 0, none⟩, ⟨some 71, .fieldAddr 35 (.tmp 70) 1, 0, none⟩, ⟨some 72, .load 22 (.tmp 71), 22, none⟩, ⟨some 73, .indexAddr 22 (.tmp 72) (.const (.int .i64 0)), 0, none⟩, ⟨none, .store 9 (.tmp 73) (.const (.string { data := #[116, 117, 114, 110, 101, 100] })), 0, none⟩] (Q .normal ds) σ w := mk_eq rfl
@[push_cast] theorem vr10_18 : vc Try.prog (.region r10_18) Q ds σ w = vcOps Try.prog [⟨some 66, .move (.tmp 12), 3, none⟩, ⟨some 67, .binOp .add 3 (.tmp 66) (.const (.int .i64 1)) 3, 3, none⟩, ⟨some 12, .assign (.tmp 67), 3, none⟩] (Q .normal ds) σ w := mk_eq rfl
@[push_cast] theorem vr10_20 : vc Try.prog (.region r10_20) Q ds σ w = vcOps Try.prog [⟨some 74, .call ⟨.value (.func 24), #[], #[]⟩, 4, none⟩, ⟨some 75, .move (.tmp 74), 4, none⟩, ⟨some 76, .move (.tmp 8), 28, some (75, true)⟩, ⟨some 77, .binOp .eql 28 (.tmp 76) (.const (.int .i64 0)) 28, 4, some (75, true)⟩, ⟨some 78, .move (.tmp 77), 4, some (75, true)⟩, ⟨some 79, .move (.tmp 8), 28, some (78, false)⟩, ⟨some 80, .binOp .eql 28 (.tmp 79) (.const (.int .i64 121)) 28, 4, some (78, false)⟩, ⟨some 81, .pick (.tmp 78) (.const (.bool true)) (.tmp 80), 4, some (75, true)⟩, ⟨some 82, .pick (.tmp 75) (.tmp 81) (.const (.bool false)), 4, none⟩, ⟨some 83, .move (.tmp 82), 4, none⟩, ⟨some 84, .move (.tmp 1), 25, some (83, true)⟩, ⟨some 85, .move (.tmp 6), 25, some (83, true)⟩, ⟨some 86, .call ⟨.value (.func 38), #[.tmp 84, .tmp 85], #[25, 25]⟩, 4, some (83, true)⟩, ⟨some 87, .pick (.tmp 83) (.tmp 86) (.const (.bool false)), 4, none⟩, ⟨some 4, .assign (.tmp 87), 4, none⟩] (Q .normal ds) σ w := mk_eq rfl
/-! 11 columbary/columbarylaw13.Fits (params #[24, 25], results #[(.tmp 4)], 45 slots) -/
def W11_0 : List Nat := [4, 7, 8, 31, 32, 33, 34, 35, 36, 37, 38, 39, 40, 41, 42, 43, 44]
@[push_cast] theorem W11_0_def : W11_0 = [4, 7, 8, 31, 32, 33, 34, 35, 36, 37, 38, 39, 40, 41, 42, 43, 44] := mk_eq rfl
def r11_0 : List VOp :=
  [⟨some 2, .box 24 (.tmp 0), 0, none⟩,
   ⟨some 4, .assign (.const (.bool false)), 4, none⟩]
def r11_1 : List VOp :=
  [⟨some 9, .fieldAddr 24 (.tmp 2) 0, 0, none⟩,
   ⟨some 10, .load 22 (.tmp 9), 22, none⟩,
   ⟨some 11, .call ⟨.value (.func 16), #[.tmp 10], #[22]⟩, 4, none⟩,
   ⟨some 5, .assign (.tmp 11), 4, none⟩]
def r11_2 : List VOp :=
  [⟨some 12, .fieldAddr 24 (.tmp 2) 1, 0, none⟩,
   ⟨some 13, .load 22 (.tmp 12), 22, none⟩,
   ⟨some 14, .call ⟨.value (.func 16), #[.tmp 13], #[22]⟩, 4, none⟩,
   ⟨some 6, .assign (.tmp 14), 4, none⟩]
def r11_3 : List VOp :=
  [⟨some 15, .move (.tmp 5), 4, none⟩,
   ⟨some 16, .unOp .not 4 (.tmp 15), 4, none⟩,
   ⟨some 17, .move (.tmp 16), 4, none⟩,
   ⟨some 18, .move (.tmp 6), 4, some (17, false)⟩,
   ⟨some 19, .unOp .not 4 (.tmp 18), 4, some (17, false)⟩,
   ⟨some 20, .pick (.tmp 17) (.const (.bool true)) (.tmp 19), 4, none⟩,
   ⟨some 21, .move (.tmp 20), 4, none⟩,
   ⟨some 22, .move (.tmp 1), 25, some (21, false)⟩,
   ⟨some 23, .call ⟨.builtin .len, #[.tmp 22], #[25]⟩, 3, some (21, false)⟩,
   ⟨some 24, .binOp .gtr 3 (.tmp 23) (.const (.int .i64 120)) 3, 4, some (21, false)⟩,
   ⟨some 25, .pick (.tmp 21) (.const (.bool true)) (.tmp 24), 4, none⟩,
   ⟨some 26, .move (.tmp 25), 4, none⟩,
   ⟨some 27, .load 24 (.tmp 2), 24, some (26, false)⟩,
   ⟨some 28, .call ⟨.value (.func 39), #[.tmp 27], #[24]⟩, 4, some (26, false)⟩,
   ⟨some 29, .unOp .not 4 (.tmp 28), 4, some (26, false)⟩,
   ⟨some 30, .pick (.tmp 26) (.const (.bool true)) (.tmp 29), 4, none⟩]
def r11_4 : List VOp :=
  [⟨some 4, .assign (.const (.bool false)), 4, none⟩]
def r11_5 : List VOp :=
  [⟨some 7, .assign (.const (.int .i64 0)), 3, none⟩]
def r11_6 : List VOp :=
  [⟨some 31, .move (.tmp 7), 3, none⟩,
   ⟨some 32, .move (.tmp 1), 25, none⟩,
   ⟨some 33, .call ⟨.builtin .len, #[.tmp 32], #[25]⟩, 3, none⟩,
   ⟨some 34, .binOp .lss 3 (.tmp 31) (.tmp 33) 3, 4, none⟩]
def r11_8 : List VOp :=
  [⟨some 37, .load 24 (.tmp 2), 24, none⟩,
   ⟨some 38, .move (.tmp 1), 25, none⟩,
   ⟨some 39, .move (.tmp 7), 3, none⟩,
   ⟨some 40, .indexAddr 25 (.tmp 38) (.tmp 39), 0, none⟩,
   ⟨some 41, .load 35 (.tmp 40), 35, none⟩,
   ⟨some 42, .call ⟨.value (.func 28), #[.tmp 37, .tmp 41], #[24, 35]⟩, 4, none⟩,
   ⟨some 8, .assign (.tmp 42), 4, none⟩]
def r11_9 : List VOp :=
  [⟨some 43, .move (.tmp 8), 4, none⟩,
   ⟨some 44, .unOp .not 4 (.tmp 43), 4, none⟩]
def r11_10 : List VOp :=
  [⟨some 4, .assign (.const (.bool false)), 4, none⟩]
def r11_7 : List VOp :=
  [⟨some 35, .move (.tmp 7), 3, none⟩,
   ⟨some 36, .binOp .add 3 (.tmp 35) (.const (.int .i64 1)) 3, 3, none⟩,
   ⟨some 7, .assign (.tmp 36), 3, none⟩]
def r11_11 : List VOp :=
  [⟨some 4, .assign (.const (.bool true)), 4, none⟩]
def B11 : VC :=
  (.seq (.region r11_0) (.seq (.region r11_1) (.seq (.region r11_2) (.seq (.seq (.region r11_3) (.cond (.tmp 30) (.seq (.region r11_4) .ret) .skip)) (.seq (.seq (.region r11_5) (.block 0 (.loop (.seq (.seq (.region r11_6) (.cond (.tmp 34) .skip (.exit 0))) (.seq (.block 1 (.seq (.draw r11_8 3) (.seq (.region r11_9) (.cond (.tmp 44) (.seq (.region r11_10) .ret) .skip)))) (.region r11_7)))))) (.seq (.region r11_11) .ret))))))
theorem code11 : ∃ c, Try.f11.body = some c ∧ abs Try.f11.ntmps c = B11 := ⟨_, rfl, by kernel_rfl⟩
theorem hb11 : HasBody Try.prog 11 := hasBody_of Try.func11 (by kernel_rfl)
theorem res11 : Try.f11.results = #[(.tmp 4)] := rfl
theorem enter11 {w : World} {R : Value → World → Prop} (x0 x1 : Value) (h : vc Try.prog B11 (retK Try.prog #[(.tmp 4)] R) [] (initEnv [x0, x1] 0) w) : FnC Try.prog 11 #[x0, x1] w R := by
  obtain ⟨c, h1, h2⟩ := code11
  exact hb11.fn (ret_of_vc mixed Try.func11 h1 (Nat.le_of_ble_eq_true rfl) B11 h2 h)
@[push_cast] theorem vr11_0 : vc Try.prog (.region r11_0) Q ds σ w = vcOps Try.prog [⟨some 2, .box 24 (.tmp 0), 0, none⟩, ⟨some 4, .assign (.const (.bool false)), 4, none⟩] (Q .normal ds) σ w := mk_eq rfl
@[push_cast] theorem vr11_1 : vc Try.prog (.region r11_1) Q ds σ w = vcOps Try.prog [⟨some 9, .fieldAddr 24 (.tmp 2) 0, 0, none⟩, ⟨some 10, .load 22 (.tmp 9), 22, none⟩, ⟨some 11, .call ⟨.value (.func 16), #[.tmp 10], #[22]⟩, 4, none⟩, ⟨some 5, .assign (.tmp 11), 4, none⟩] (Q .normal ds) σ w := mk_eq rfl
@[push_cast] theorem vr11_2 : vc Try.prog (.region r11_2) Q ds σ w = vcOps Try.prog [⟨some 12, .fieldAddr 24 (.tmp 2) 1, 0, none⟩, ⟨some 13, .load 22 (.tmp 12), 22, none⟩, ⟨some 14, .call ⟨.value (.func 16), #[.tmp 13], #[22]⟩, 4, none⟩, ⟨some 6, .assign (.tmp 14), 4, none⟩] (Q .normal ds) σ w := mk_eq rfl
@[push_cast] theorem vr11_3 : vc Try.prog (.region r11_3) Q ds σ w = vcOps Try.prog [⟨some 15, .move (.tmp 5), 4, none⟩, ⟨some 16, .unOp .not 4 (.tmp 15), 4, none⟩, ⟨some 17, .move (.tmp 16), 4, none⟩, ⟨some 18, .move (.tmp 6), 4, some (17, false)⟩, ⟨some 19, .unOp .not 4 (.tmp 18), 4, some (17, false)⟩, ⟨some 20, .pick (.tmp 17) (.const (.bool true)) (.tmp 19), 4, none⟩, ⟨some 21, .move (.tmp 20), 4, none⟩, ⟨some 22, .move (.tmp 1), 25, some (21, false)⟩, ⟨some 23, .call ⟨.builtin .len, #[.tmp 22], #[25]⟩, 3, some (21, false)⟩, ⟨some 24, .binOp .gtr 3 (.tmp 23) (.const (.int .i64 120)) 3, 4, some (21, false)⟩, ⟨some 25, .pick (.tmp 21) (.const (.bool true)) (.tmp 24), 4, none⟩, ⟨some 26, .move (.tmp 25), 4, none⟩, ⟨some 27, .load 24 (.tmp 2), 24, some (26, false)⟩, ⟨some 28, .call ⟨.value (.func 39), #[.tmp 27], #[24]⟩, 4, some (26, false)⟩, ⟨some 29, .unOp .not 4 (.tmp 28), 4, some (26, false)⟩, ⟨some 30, .pick (.tmp 26) (.const (.bool true)) (.tmp 29), 4, none⟩] (Q .normal ds) σ w := mk_eq rfl
@[push_cast] theorem vr11_4 : vc Try.prog (.region r11_4) Q ds σ w = vcOps Try.prog [⟨some 4, .assign (.const (.bool false)), 4, none⟩] (Q .normal ds) σ w := mk_eq rfl
@[push_cast] theorem vr11_5 : vc Try.prog (.region r11_5) Q ds σ w = vcOps Try.prog [⟨some 7, .assign (.const (.int .i64 0)), 3, none⟩] (Q .normal ds) σ w := mk_eq rfl
@[push_cast] theorem vr11_6 : vc Try.prog (.region r11_6) Q ds σ w = vcOps Try.prog [⟨some 31, .move (.tmp 7), 3, none⟩, ⟨some 32, .move (.tmp 1), 25, none⟩, ⟨some 33, .call ⟨.builtin .len, #[.tmp 32], #[25]⟩, 3, none⟩, ⟨some 34, .binOp .lss 3 (.tmp 31) (.tmp 33) 3, 4, none⟩] (Q .normal ds) σ w := mk_eq rfl
@[push_cast] theorem vr11_8 : vc Try.prog (.draw r11_8 3) Q ds σ w = drawn Try.prog [(⟨some 37, .load 24 (.tmp 2), 24, none⟩, [2]), (⟨some 38, .move (.tmp 1), 25, none⟩, [1]), (⟨some 39, .move (.tmp 7), 3, none⟩, [7]), (⟨some 40, .indexAddr 25 (.tmp 38) (.tmp 39), 0, none⟩, [38, 39]), (⟨some 41, .load 35 (.tmp 40), 35, none⟩, [40]), (⟨some 42, .call ⟨.value (.func 28), #[.tmp 37, .tmp 41], #[24, 35]⟩, 4, none⟩, [37, 41]), (⟨some 8, .assign (.tmp 42), 4, none⟩, [42])] 3 (Q .normal ds) σ w := mk_eq rfl
@[push_cast] theorem vr11_9 : vc Try.prog (.region r11_9) Q ds σ w = vcOps Try.prog [⟨some 43, .move (.tmp 8), 4, none⟩, ⟨some 44, .unOp .not 4 (.tmp 43), 4, none⟩] (Q .normal ds) σ w := mk_eq rfl
@[push_cast] theorem vr11_10 : vc Try.prog (.region r11_10) Q ds σ w = vcOps Try.prog [⟨some 4, .assign (.const (.bool false)), 4, none⟩] (Q .normal ds) σ w := mk_eq rfl
@[push_cast] theorem vr11_7 : vc Try.prog (.region r11_7) Q ds σ w = vcOps Try.prog [⟨some 35, .move (.tmp 7), 3, none⟩, ⟨some 36, .binOp .add 3 (.tmp 35) (.const (.int .i64 1)) 3, 3, none⟩, ⟨some 7, .assign (.tmp 36), 3, none⟩] (Q .normal ds) σ w := mk_eq rfl
@[push_cast] theorem vr11_11 : vc Try.prog (.region r11_11) Q ds σ w = vcOps Try.prog [⟨some 4, .assign (.const (.bool true)), 4, none⟩] (Q .normal ds) σ w := mk_eq rfl
/-! 24 columbary/columbarylaw13.alive (params #[], results #[(.tmp 0)], 77 slots) -/
def r24_0 : List VOp :=
  [⟨some 0, .assign (.const (.bool false)), 4, none⟩]
def r24_1 : List VOp :=
  [⟨some 10, .call ⟨.value (.func 54), #[], #[]⟩, 24, none⟩,
   ⟨some 11, .buildSlice 22 1 #[(0, (.const (.string { data := #[118] })))], 22, none⟩,
   ⟨some 12, .buildSlice 47 1 #[(0, (.const (.int .i64 7)))], 47, none⟩,
   ⟨some 13, .build 49 #[(0, (.const (.int .i64 4))), (1, (.tmp 11)), (2, (.tmp 12))], 49, none⟩,
   ⟨some 14, .call ⟨.value (.func 25), #[.tmp 10, .tmp 13], #[24, 49]⟩, 50, none⟩,
   ⟨some 9, .move (.tmp 14), 50, none⟩,
   ⟨some 15, .extract (.tmp 9) 0, 35, none⟩,
   ⟨some 16, .extract (.tmp 9) 1, 28, none⟩,
   ⟨some 1, .alloc 35, 0, none⟩,
   ⟨none, .store 35 (.tmp 1) (.tmp 15), 0, none⟩,
   ⟨some 2, .assign (.tmp 16), 28, none⟩]
def r24_2 : List VOp :=
  [⟨some 18, .call ⟨.value (.func 54), #[], #[]⟩, 24, none⟩,
   ⟨some 19, .buildSlice 22 1 #[(0, (.const (.string { data := #[118] })))], 22, none⟩,
   ⟨some 20, .buildSlice 47 1 #[(0, (.const (.int .i64 (-2))))], 47, none⟩,
   ⟨some 21, .build 49 #[(0, (.const (.int .i64 4))), (1, (.tmp 19)), (2, (.tmp 20))], 49, none⟩,
   ⟨some 22, .call ⟨.value (.func 25), #[.tmp 18, .tmp 21], #[24, 49]⟩, 50, none⟩,
   ⟨some 17, .move (.tmp 22), 50, none⟩,
   ⟨some 23, .extract (.tmp 17) 0, 35, none⟩,
   ⟨some 24, .extract (.tmp 17) 1, 28, none⟩,
   ⟨some 3, .alloc 35, 0, none⟩,
   ⟨none, .store 35 (.tmp 3) (.tmp 23), 0, none⟩,
   ⟨some 4, .assign (.tmp 24), 28, none⟩]
def r24_3 : List VOp :=
  [⟨some 26, .call ⟨.value (.func 54), #[], #[]⟩, 24, none⟩,
   ⟨some 27, .buildSlice 22 1 #[(0, (.const (.string { data := #[] })))], 22, none⟩,
   ⟨some 28, .buildSlice 47 1 #[(0, (.const (.int .i64 0)))], 47, none⟩,
   ⟨some 29, .build 49 #[(0, (.const (.int .i64 4))), (1, (.tmp 27)), (2, (.tmp 28))], 49, none⟩,
   ⟨some 30, .call ⟨.value (.func 25), #[.tmp 26, .tmp 29], #[24, 49]⟩, 50, none⟩,
   ⟨some 25, .move (.tmp 30), 50, none⟩,
   ⟨some 31, .extract (.tmp 25) 0, 35, none⟩,
   ⟨some 32, .extract (.tmp 25) 1, 28, none⟩,
   ⟨some 5, .alloc 35, 0, none⟩,
   ⟨none, .store 35 (.tmp 5) (.tmp 31), 0, none⟩,
   ⟨some 6, .assign (.tmp 32), 28, none⟩]
def r24_4 : List VOp :=
  [⟨some 34, .load 35 (.tmp 1), 35, none⟩,
   ⟨some 35, .load 35 (.tmp 3), 35, none⟩,
   ⟨some 36, .load 35 (.tmp 5), 35, none⟩,
   ⟨some 37, .buildSlice 25 3 #[(0, (.tmp 34)), (1, (.tmp 35)), (2, (.tmp 36))], 25, none⟩,
   ⟨some 38, .call ⟨.value (.func 31), #[.tmp 37], #[25]⟩, 29, none⟩,
   ⟨some 33, .move (.tmp 38), 29, none⟩,
   ⟨some 39, .extract (.tmp 33) 0, 25, none⟩,
   ⟨some 40, .extract (.tmp 33) 1, 28, none⟩,
   ⟨some 7, .assign (.tmp 39), 25, none⟩,
   ⟨some 8, .assign (.tmp 40), 28, none⟩]
def r24_5 : List VOp :=
  [⟨some 41, .move (.tmp 2), 28, none⟩,
   ⟨some 42, .binOp .eql 28 (.tmp 41) (.const (.int .i64 0)) 28, 4, none⟩,
   ⟨some 43, .move (.tmp 42), 4, none⟩,
   ⟨some 44, .move (.tmp 4), 28, some (43, true)⟩,
   ⟨some 45, .binOp .eql 28 (.tmp 44) (.const (.int .i64 0)) 28, 4, some (43, true)⟩,
   ⟨some 46, .pick (.tmp 43) (.tmp 45) (.const (.bool false)), 4, none⟩,
   ⟨some 47, .move (.tmp 46), 4, none⟩,
   ⟨some 48, .move (.tmp 6), 28, some (47, true)⟩,
   ⟨some 49, .binOp .eql 28 (.tmp 48) (.const (.int .i64 0)) 28, 4, some (47, true)⟩,
   ⟨some 50, .pick (.tmp 47) (.tmp 49) (.const (.bool false)), 4, none⟩,
   ⟨some 51, .move (.tmp 50), 4, none⟩,
   ⟨some 52, .move (.tmp 8), 28, some (51, true)⟩,
   ⟨some 53, .binOp .eql 28 (.tmp 52) (.const (.int .i64 0)) 28, 4, some (51, true)⟩,
   ⟨some 54, .pick (.tmp 51) (.tmp 53) (.const (.bool false)), 4, none⟩,
   ⟨some 55, .move (.tmp 54), 4, none⟩,
   ⟨some 56, .move (.tmp 7), 25, some (55, true)⟩,
   ⟨some 57, .call ⟨.builtin .len, #[.tmp 56], #[25]⟩, 3, some (55, true)⟩,
   ⟨some 58, .binOp .eql 3 (.tmp 57) (.const (.int .i64 2)) 3, 4, some (55, true)⟩,
   ⟨some 59, .pick (.tmp 55) (.tmp 58) (.const (.bool false)), 4, none⟩,
   ⟨some 60, .move (.tmp 59), 4, none⟩,
   ⟨some 61, .move (.tmp 7), 25, some (60, true)⟩,
   ⟨some 62, .indexAddr 25 (.tmp 61) (.const (.int .i64 1)), 0, some (60, true)⟩,
   ⟨some 63, .fieldAddr 35 (.tmp 62) 2, 0, some (60, true)⟩,
   ⟨some 64, .load 3 (.tmp 63), 3, some (60, true)⟩,
   ⟨some 65, .binOp .eql 3 (.tmp 64) (.const (.int .i64 2)) 3, 4, some (60, true)⟩,
   ⟨some 66, .pick (.tmp 60) (.tmp 65) (.const (.bool false)), 4, none⟩,
   ⟨some 67, .move (.tmp 66), 4, none⟩,
   ⟨some 68, .move (.tmp 7), 25, some (67, true)⟩,
   ⟨some 69, .indexAddr 25 (.tmp 68) (.const (.int .i64 1)), 0, some (67, true)⟩,
   ⟨some 70, .fieldAddr 35 (.tmp 69) 3, 0, some (67, true)⟩,
   ⟨some 71, .load 33 (.tmp 70), 33, some (67, true)⟩,
   ⟨some 72, .indexAddr 33 (.tmp 71) (.const (.int .i64 0)), 0, some (67, true)⟩,
   ⟨some 73, .load 64 (.tmp 72), 64, some (67, true)⟩,
   ⟨some 74, .build 64 #[(0, (.const (.int .i64 5))), (1, (.const (.int .i64 (-2)))), (2, (.const (.int .i64 7)))], 64, some (67, true)⟩,
   ⟨some 75, .binOp .eql 64 (.tmp 73) (.tmp 74) 64, 4, some (67, true)⟩,
   ⟨some 76, .pick (.tmp 67) (.tmp 75) (.const (.bool false)), 4, none⟩,
   ⟨some 0, .assign (.tmp 76), 4, none⟩]
def B24 : VC :=
  (.seq (.region r24_0) (.seq (.region r24_1) (.seq (.region r24_2) (.seq (.region r24_3) (.seq (.region r24_4) (.seq (.region r24_5) .ret))))))
theorem code24 : ∃ c, Try.f24.body = some c ∧ abs Try.f24.ntmps c = B24 := ⟨_, rfl, by kernel_rfl⟩
theorem hb24 : HasBody Try.prog 24 := hasBody_of Try.func24 (by kernel_rfl)
theorem res24 : Try.f24.results = #[(.tmp 0)] := rfl
theorem enter24 {w : World} {R : Value → World → Prop} (h : vc Try.prog B24 (retK Try.prog #[(.tmp 0)] R) [] (initEnv [] 0) w) : FnC Try.prog 24 #[] w R := by
  obtain ⟨c, h1, h2⟩ := code24
  exact hb24.fn (ret_of_vc mixed Try.func24 h1 (Nat.le_of_ble_eq_true rfl) B24 h2 h)
@[push_cast] theorem vr24_0 : vc Try.prog (.region r24_0) Q ds σ w = vcOps Try.prog [⟨some 0, .assign (.const (.bool false)), 4, none⟩] (Q .normal ds) σ w := mk_eq rfl
@[push_cast] theorem vr24_1 : vc Try.prog (.region r24_1) Q ds σ w = vcOps Try.prog [⟨some 10, .call ⟨.value (.func 54), #[], #[]⟩, 24, none⟩, ⟨some 11, .buildSlice 22 1 #[(0, (.const (.string { data := #[118] })))], 22, none⟩, ⟨some 12, .buildSlice 47 1 #[(0, (.const (.int .i64 7)))], 47, none⟩, ⟨some 13, .build 49 #[(0, (.const (.int .i64 4))), (1, (.tmp 11)), (2, (.tmp 12))], 49, none⟩, ⟨some 14, .call ⟨.value (.func 25), #[.tmp 10, .tmp 13], #[24, 49]⟩, 50, none⟩, ⟨some 9, .move (.tmp 14), 50, none⟩, ⟨some 15, .extract (.tmp 9) 0, 35, none⟩, ⟨some 16, .extract (.tmp 9) 1, 28, none⟩, ⟨some 1, .alloc 35, 0, none⟩, ⟨none, .store 35 (.tmp 1) (.tmp 15), 0, none⟩, ⟨some 2, .assign (.tmp 16), 28, none⟩] (Q .normal ds) σ w := mk_eq rfl
@[push_cast] theorem vr24_2 : vc Try.prog (.region r24_2) Q ds σ w = vcOps Try.prog [⟨some 18, .call ⟨.value (.func 54), #[], #[]⟩, 24, none⟩, ⟨some 19, .buildSlice 22 1 #[(0, (.const (.string { data := #[118] })))], 22, none⟩, ⟨some 20, .buildSlice 47 1 #[(0, (.const (.int .i64 (-2))))], 47, none⟩, ⟨some 21, .build 49 #[(0, (.const (.int .i64 4))), (1, (.tmp 19)), (2, (.tmp 20))], 49, none⟩, ⟨some 22, .call ⟨.value (.func 25), #[.tmp 18, .tmp 21], #[24, 49]⟩, 50, none⟩, ⟨some 17, .move (.tmp 22), 50, none⟩, ⟨some 23, .extract (.tmp 17) 0, 35, none⟩, ⟨some 24, .extract (.tmp 17) 1, 28, none⟩, ⟨some 3, .alloc 35, 0, none⟩, ⟨none, .store 35 (.tmp 3) (.tmp 23), 0, none⟩, ⟨some 4, .assign (.tmp 24), 28, none⟩] (Q .normal ds) σ w := mk_eq rfl
@[push_cast] theorem vr24_3 : vc Try.prog (.region r24_3) Q ds σ w = vcOps Try.prog [⟨some 26, .call ⟨.value (.func 54), #[], #[]⟩, 24, none⟩, ⟨some 27, .buildSlice 22 1 #[(0, (.const (.string { data := #[] })))], 22, none⟩, ⟨some 28, .buildSlice 47 1 #[(0, (.const (.int .i64 0)))], 47, none⟩, ⟨some 29, .build 49 #[(0, (.const (.int .i64 4))), (1, (.tmp 27)), (2, (.tmp 28))], 49, none⟩, ⟨some 30, .call ⟨.value (.func 25), #[.tmp 26, .tmp 29], #[24, 49]⟩, 50, none⟩, ⟨some 25, .move (.tmp 30), 50, none⟩, ⟨some 31, .extract (.tmp 25) 0, 35, none⟩, ⟨some 32, .extract (.tmp 25) 1, 28, none⟩, ⟨some 5, .alloc 35, 0, none⟩, ⟨none, .store 35 (.tmp 5) (.tmp 31), 0, none⟩, ⟨some 6, .assign (.tmp 32), 28, none⟩] (Q .normal ds) σ w := mk_eq rfl
@[push_cast] theorem vr24_4 : vc Try.prog (.region r24_4) Q ds σ w = vcOps Try.prog [⟨some 34, .load 35 (.tmp 1), 35, none⟩, ⟨some 35, .load 35 (.tmp 3), 35, none⟩, ⟨some 36, .load 35 (.tmp 5), 35, none⟩, ⟨some 37, .buildSlice 25 3 #[(0, (.tmp 34)), (1, (.tmp 35)), (2, (.tmp 36))], 25, none⟩, ⟨some 38, .call ⟨.value (.func 31), #[.tmp 37], #[25]⟩, 29, none⟩, ⟨some 33, .move (.tmp 38), 29, none⟩, ⟨some 39, .extract (.tmp 33) 0, 25, none⟩, ⟨some 40, .extract (.tmp 33) 1, 28, none⟩, ⟨some 7, .assign (.tmp 39), 25, none⟩, ⟨some 8, .assign (.tmp 40), 28, none⟩] (Q .normal ds) σ w := mk_eq rfl
@[push_cast] theorem vr24_5 : vc Try.prog (.region r24_5) Q ds σ w = vcOps Try.prog [⟨some 41, .move (.tmp 2), 28, none⟩, ⟨some 42, .binOp .eql 28 (.tmp 41) (.const (.int .i64 0)) 28, 4, none⟩, ⟨some 43, .move (.tmp 42), 4, none⟩, ⟨some 44, .move (.tmp 4), 28, some (43, true)⟩, ⟨some 45, .binOp .eql 28 (.tmp 44) (.const (.int .i64 0)) 28, 4, some (43, true)⟩, ⟨some 46, .pick (.tmp 43) (.tmp 45) (.const (.bool false)), 4, none⟩, ⟨some 47, .move (.tmp 46), 4, none⟩, ⟨some 48, .move (.tmp 6), 28, some (47, true)⟩, ⟨some 49, .binOp .eql 28 (.tmp 48) (.const (.int .i64 0)) 28, 4, some (47, true)⟩, ⟨some 50, .pick (.tmp 47) (.tmp 49) (.const (.bool false)), 4, none⟩, ⟨some 51, .move (.tmp 50), 4, none⟩, ⟨some 52, .move (.tmp 8), 28, some (51, true)⟩, ⟨some 53, .binOp .eql 28 (.tmp 52) (.const (.int .i64 0)) 28, 4, some (51, true)⟩, ⟨some 54, .pick (.tmp 51) (.tmp 53) (.const (.bool false)), 4, none⟩, ⟨some 55, .move (.tmp 54), 4, none⟩, ⟨some 56, .move (.tmp 7), 25, some (55, true)⟩, ⟨some 57, .call ⟨.builtin .len, #[.tmp 56], #[25]⟩, 3, some (55, true)⟩, ⟨some 58, .binOp .eql 3 (.tmp 57) (.const (.int .i64 2)) 3, 4, some (55, true)⟩, ⟨some 59, .pick (.tmp 55) (.tmp 58) (.const (.bool false)), 4, none⟩, ⟨some 60, .move (.tmp 59), 4, none⟩, ⟨some 61, .move (.tmp 7), 25, some (60, true)⟩, ⟨some 62, .indexAddr 25 (.tmp 61) (.const (.int .i64 1)), 0, some (60, true)⟩, ⟨some 63, .fieldAddr 35 (.tmp 62) 2, 0, some (60, true)⟩, ⟨some 64, .load 3 (.tmp 63), 3, some (60, true)⟩, ⟨some 65, .binOp .eql 3 (.tmp 64) (.const (.int .i64 2)) 3, 4, some (60, true)⟩, ⟨some 66, .pick (.tmp 60) (.tmp 65) (.const (.bool false)), 4, none⟩, ⟨some 67, .move (.tmp 66), 4, none⟩, ⟨some 68, .move (.tmp 7), 25, some (67, true)⟩, ⟨some 69, .indexAddr 25 (.tmp 68) (.const (.int .i64 1)), 0, some (67, true)⟩, ⟨some 70, .fieldAddr 35 (.tmp 69) 3, 0, some (67, true)⟩, ⟨some 71, .load 33 (.tmp 70), 33, some (67, true)⟩, ⟨some 72, .indexAddr 33 (.tmp 71) (.const (.int .i64 0)), 0, some (67, true)⟩, ⟨some 73, .load 64 (.tmp 72), 64, some (67, true)⟩, ⟨some 74, .build 64 #[(0, (.const (.int .i64 5))), (1, (.const (.int .i64 (-2)))), (2, (.const (.int .i64 7)))], 64, some (67, true)⟩, ⟨some 75, .binOp .eql 64 (.tmp 73) (.tmp 74) 64, 4, some (67, true)⟩, ⟨some 76, .pick (.tmp 67) (.tmp 75) (.const (.bool false)), 4, none⟩, ⟨some 0, .assign (.tmp 76), 4, none⟩] (Q .normal ds) σ w := mk_eq rfl
@[push_cast] theorem bsl22_1_CodesWL {K : Value → World → Prop} {w : World} (x0 : ByteArray) : vBuildSlice Try.prog 22 1 #[(0, (.string x0))] K w = K (.slice (some ⟨w.heap.size, 0, none⟩) 1 1) (w.alloc (.cells #[(.string x0)] 9)) :=
  vBuildSlice_ok Try.underlying22 ti9 (by kernel_rfl) (by decide)
@[push_cast] theorem bsl25_1_CodesWL {K : Value → World → Prop} {w : World} (x00 x01 x02 x03 : Value) : vBuildSlice Try.prog 25 1 #[(0, (.agg #[x00, x01, x02, x03]))] K w = K (.slice (some ⟨w.heap.size, 0, none⟩) 1 1) (w.alloc (.cells #[x00, x01, x02, x03] 35)) :=
  vBuildSlice_ok Try.underlying25 ti35 (by kernel_rfl) (by decide)
@[push_cast] theorem bsl25_3_CodesWL {K : Value → World → Prop} {w : World} (x00 x01 x02 x03 : Value) (x10 x11 x12 x13 : Value) (x20 x21 x22 x23 : Value) : vBuildSlice Try.prog 25 3 #[(0, (.agg #[x00, x01, x02, x03])), (1, (.agg #[x10, x11, x12, x13])), (2, (.agg #[x20, x21, x22, x23]))] K w = K (.slice (some ⟨w.heap.size, 0, none⟩) 3 3) (w.alloc (.cells #[x00, x01, x02, x03, x10, x11, x12, x13, x20, x21, x22, x23] 35)) :=
  vBuildSlice_ok Try.underlying25 ti35 (by kernel_rfl) (by decide)
@[push_cast] theorem bsl47_1_CodesWL {K : Value → World → Prop} {w : World} (x0 : Int) : vBuildSlice Try.prog 47 1 #[(0, (.int .i64 x0))] K w = K (.slice (some ⟨w.heap.size, 0, none⟩) 1 1) (w.alloc (.cells #[(.int .i64 x0)] 3)) :=
  vBuildSlice_ok Try.underlying47 ti3 (by kernel_rfl) (by decide)
@[push_cast] theorem bld49_0_1_2_CodesWL {K : Value → World → Prop} {w : World} (x0 : Int) (x1o : Option Addr) (x1n x1c : Nat) (x2o : Option Addr) (x2n x2c : Nat) : vBuild Try.prog 49 #[(0, (.int .i64 x0)), (1, (.slice x1o x1n x1c)), (2, (.slice x2o x2n x2c))] K w = K (.agg #[(.int .i64 x0), (.slice x1o x1n x1c), (.slice x2o x2n x2c)]) w :=
  vBuild_ok (by kernel_rfl)
@[push_cast] theorem bld64__CodesWL {K : Value → World → Prop} {w : World}  : vBuild Try.prog 64 #[] K w = K (.agg #[(.int .i64 0), (.int .i64 0), (.int .i64 0)]) w :=
  vBuild_ok (by kernel_rfl)
@[push_cast] theorem bld64_0_1_2_CodesWL {K : Value → World → Prop} {w : World} (x0 : Int) (x1 : Int) (x2 : Int) : vBuild Try.prog 64 #[(0, (.int .i64 x0)), (1, (.int .i64 x1)), (2, (.int .i64 x2))] K w = K (.agg #[(.int .i64 x0), (.int .i64 x1), (.int .i64 x2)]) w :=
  vBuild_ok (by kernel_rfl)
end Go.Proofs.Ythihbgpaoldbjaa
end
