/- Contracts: a cuboid's schema; the live question of the cuboids. -/
import Derived.Test.YthihbgpaoldbjaaPartM
set_option linter.all false
open Nat renaming reduceEqDiff → zA, reducePow → zB, reduceMul → zC, reduceAdd → zD, reduceSub → zE, reduceLeDiff → zF
open Int renaming reduceToNat → zG, reducePow → zH, reduceNeg → zI, reduceMul → zJ, reduceAdd → zK, reduceSub → zL, reduceLT → zM, reduceLE → zN, reduceEq → zO, reduceMod → zP, reduceDiv → zQ
section
set_option linter.unusedSimpArgs false
namespace Go.Proofs.Ythihbgpaoldbjaa
open Go.Vc Go.Key Go.Cub Go.Fold Go.Stab
set_option maxRecDepth 100000
/-- What either Schema answers. -/
def ScR (w : World) (r : Value) (d m dims : List ByteArray) : Prop := ∃ dv mv d' m' e, r = .tuple #[scV dv mv, .int .i64 e] ∧ StS w dv d' ∧ StS w mv m' ∧ ((sub d 0 dims = true ∧ e = 0 ∧ d' = dims ∧ m' = m) ∨ (sub d 0 dims = false ∧ e = 141 ∧ d' = [] ∧ m' = []))
theorem sl2_one (o o' : Option Addr) (n n' c c' : Nat) : ∀ u ∈ [Value.slice o n c, .slice o' n' c'], u.oneCell' = true := by
  intro u hu
  simp only [List.mem_cons, List.not_mem_nil, or_false] at hu
  rcases hu with rfl | rfl <;> rfl
theorem own_sS {w w' : World} {B g : Nat} {v : Value} {l : List ByteArray} {cs : Array Value} (h : OwnS w B v l) (hb : Blk w g cs 24) (c : Chg w w' [g]) : StS w' v l := Sl.of_own (own_chg_ty h hb (by decide) c)
set_option maxHeartbeats 1000000 in
theorem cschema_c (dv mv u : Value) (d m dims : List ByteArray) (w : World) (h : ScIs w dv mv d m) (hap : Ap d) (hu : StS w u dims) (hdl : dims.length ≤ 1000) (hml : m.length ≤ 1000) : FnC Try.prog 19 #[scV dv mv, u] w fun r w' => ScR w' r d m dims ∧ Later w w' := by
  unfold scV
  refine enter19 _ _ ?_
  unfold B19
  obtain ⟨l1, s1, F⟩ := box2 w dv mv 24
  have eca : (Value.agg #[dv, mv]).cells = #[dv, mv] := rfl
  repeat' (first | (simp (disch := omega) only [push_cast, ↓reduceIte, zA, zG, zB, zH, zI, zC, zJ, zK, zL, zD, zE, zF, zM, zN, zO, zP, zQ, reduceCtorEq, not_true_eq_false, not_false_eq_true, eca, s1]) | (first | refine vIfE_of ?_ ?_ | refine vIfD_of ?_ ?_ | refine vIfQ_of ?_ ?_ | refine vIfV_of ?_ ?_) <;> intro _ | refine And.intro (by omega) ?_ | fail)
  generalize w.alloc (.cells #[dv, mv] 24) = w1 at *
  have l2 := later_alloc w1 (.cells #[.slice none 0 0, .slice none 0 0] 24)
  have B2 := Blk.new w1 #[.slice none 0 0, .slice none 0 0] 24
  rw [s1] at B2
  generalize w1.alloc (.cells #[.slice none 0 0, .slice none 0 0] 24) = w2 at *
  have l02 := l1.trans l2
  obtain ⟨a0, a1, _⟩ := F w2 l2
  repeat' (first | (simp (disch := omega) only [push_cast, ↓reduceIte, zA, zG, zB, zH, zI, zC, zJ, zK, zL, zD, zE, zF, zM, zN, zO, zP, zQ, reduceCtorEq, not_true_eq_false, not_false_eq_true, a0, addr_add_eq, Nat.zero_add]) | (first | refine vIfE_of ?_ ?_ | refine vIfD_of ?_ ?_ | refine vIfQ_of ?_ ?_ | refine vIfV_of ?_ ?_) <;> intro _ | refine And.intro (by omega) ?_ | refine drawn_q ?_ | fail)
  refine (subset_c _ dv dims d w2 (Sl.later hu l02) (Sl.later h.dS l02) hap).mono ?_
  rintro _ w0 ⟨rfl, h0⟩
  obtain rfl := h0.symm
  cases hsub : sub d 0 dims with
  | false =>
    repeat' (first | (simp (disch := omega) only [push_cast, ↓reduceIte, zA, zG, zB, zH, zI, zC, zJ, zK, zL, zD, zE, zF, zM, zN, zO, zP, zQ, reduceCtorEq, not_true_eq_false, not_false_eq_true]) | (first | refine vIfE_of ?_ ?_ | refine vIfD_of ?_ ?_ | refine vIfQ_of ?_ ?_ | refine vIfV_of ?_ ?_) <;> intro _ | refine And.intro (by omega) ?_ | refine drawn_q ?_ | fail)
    refine vStore_blk (l := [.slice none 0 0, .slice none 0 0]) (xs := [.slice none 0 0, .slice none 0 0]) B2 rfl rfl (sl2_one _ _ _ _ _ _) ?_
    intro w9 B9 c9
    repeat' (first | (simp (disch := omega) only [push_cast, ↓reduceIte, zA, zG, zB, zH, zI, zC, zJ, zK, zL, zD, zE, zF, zM, zN, zO, zP, zQ, reduceCtorEq, not_true_eq_false, not_false_eq_true]) | (first | refine vIfE_of ?_ ?_ | refine vIfD_of ?_ ?_ | refine vIfQ_of ?_ ?_ | refine vIfV_of ?_ ?_) <;> intro _ | refine And.intro (by omega) ?_ | refine drawn_q ?_ | fail)
    refine resK_cells (s := 2) (by simp (disch := omega) only [push_cast, ↓reduceIte, zA, zG, zB, zH, zI, zC, zJ, zK, zL, zD, zE, zF, zM, zN, zO, zP, zQ, reduceCtorEq, not_true_eq_false, not_false_eq_true]) (by rw [Try.underlying24]; exact sz24) (Blk.cellsAt (l := [.slice none 0 0, .slice none 0 0]) B9) ?_
    repeat' (first | (simp (disch := omega) only [push_cast, ↓reduceIte, zA, zG, zB, zH, zI, zC, zJ, zK, zL, zD, zE, zF, zM, zN, zO, zP, zQ, reduceCtorEq, not_true_eq_false, not_false_eq_true]) | (first | refine vIfE_of ?_ ?_ | refine vIfD_of ?_ ?_ | refine vIfQ_of ?_ ?_ | refine vIfV_of ?_ ?_) <;> intro _ | refine And.intro (by omega) ?_ | refine drawn_q ?_ | fail)
    have hr : ScR w9 (.tuple #[.agg #[.slice none 0 0, .slice none 0 0], .int .i64 141]) d m dims := ⟨_, _, [], [], _, rfl, Sl.nil _, Sl.nil _, .inr ⟨hsub, rfl, rfl, rfl⟩⟩
    have l9 : Later w w9 := Chg.later l02 c9 (by intro j hj; rw [List.mem_singleton.1 hj]; omega)
    first | exact ⟨hr, l9⟩ | exact l9
  | true =>
    repeat' (first | (simp (disch := omega) only [push_cast, ↓reduceIte, zA, zG, zB, zH, zI, zC, zJ, zK, zL, zD, zE, zF, zM, zN, zO, zP, zQ, reduceCtorEq, not_true_eq_false, not_false_eq_true]) | (first | refine vIfE_of ?_ ?_ | refine vIfD_of ?_ ?_ | refine vIfQ_of ?_ ?_ | refine vIfV_of ?_ ?_) <;> intro _ | refine And.intro (by omega) ?_ | fail)
    refine drawn_k 4 ?_
    repeat' (first | (simp (disch := omega) only [push_cast, ↓reduceIte, zA, zG, zB, zH, zI, zC, zJ, zK, zL, zD, zE, zF, zM, zN, zO, zP, zQ, reduceCtorEq, not_true_eq_false, not_false_eq_true, a1, addr_add_eq, Nat.zero_add]) | (first | refine vIfE_of ?_ ?_ | refine vIfD_of ?_ ?_ | refine vIfQ_of ?_ ?_ | refine vIfV_of ?_ ?_) <;> intro _ | refine And.intro (by omega) ?_ | fail)
    refine NFn.of hb52 (fun v w' => OwnS w' w2.heap.size v dims) (stb_ownS _ _ _) (fun w' hl => (cloneS_c _ _ w' (Sl.later hu (l02.trans hl)) (by omega)).mono fun v w'' hv => ⟨own_base hv.1 hl.size, hv.2⟩) ?_
    repeat' (first | (simp (disch := omega) only [push_cast, ↓reduceIte, zA, zG, zB, zH, zI, zC, zJ, zK, zL, zD, zE, zF, zM, zN, zO, zP, zQ, reduceCtorEq, not_true_eq_false, not_false_eq_true, a1, addr_add_eq, Nat.zero_add]) | (first | refine vIfE_of ?_ ?_ | refine vIfD_of ?_ ?_ | refine vIfQ_of ?_ ?_ | refine vIfV_of ?_ ?_) <;> intro _ | refine And.intro (by omega) ?_ | fail)
    rintro w3 l3 x hx
    refine (cloneS_c _ m w3 (Sl.later h.mS (l02.trans l3)) (by omega)).mono ?_
    rintro y w4 ⟨hy, l4⟩
    obtain ⟨ox, cx, rfl, _⟩ := StS.opn (Sl.of_own hx)
    obtain ⟨oy, cy, rfl, _⟩ := StS.opn (Sl.of_own hy)
    have B4 := B2.chg (Chg.of_later (ks := []) (l3.trans l4)) (by simp)
    repeat' (first | (simp (disch := omega) only [push_cast, ↓reduceIte, zA, zG, zB, zH, zI, zC, zJ, zK, zL, zD, zE, zF, zM, zN, zO, zP, zQ, reduceCtorEq, not_true_eq_false, not_false_eq_true]) | (first | refine vIfE_of ?_ ?_ | refine vIfD_of ?_ ?_ | refine vIfQ_of ?_ ?_ | refine vIfV_of ?_ ?_) <;> intro _ | refine And.intro (by omega) ?_ | refine drawn_q ?_ | fail)
    refine vStore_blk (l := [.slice none 0 0, .slice none 0 0]) (xs := [.slice ox dims.length cx, .slice oy m.length cy]) B4 rfl rfl (sl2_one _ _ _ _ _ _) ?_
    intro w9 B9 c9
    repeat' (first | (simp (disch := omega) only [push_cast, ↓reduceIte, zA, zG, zB, zH, zI, zC, zJ, zK, zL, zD, zE, zF, zM, zN, zO, zP, zQ, reduceCtorEq, not_true_eq_false, not_false_eq_true]) | (first | refine vIfE_of ?_ ?_ | refine vIfD_of ?_ ?_ | refine vIfQ_of ?_ ?_ | refine vIfV_of ?_ ?_) <;> intro _ | refine And.intro (by omega) ?_ | refine drawn_q ?_ | fail)
    refine resK_cells (s := 2) (by simp (disch := omega) only [push_cast, ↓reduceIte, zA, zG, zB, zH, zI, zC, zJ, zK, zL, zD, zE, zF, zM, zN, zO, zP, zQ, reduceCtorEq, not_true_eq_false, not_false_eq_true]) (by rw [Try.underlying24]; exact sz24) (Blk.cellsAt (l := [.slice ox dims.length cx, .slice oy m.length cy]) B9) ?_
    repeat' (first | (simp (disch := omega) only [push_cast, ↓reduceIte, zA, zG, zB, zH, zI, zC, zJ, zK, zL, zD, zE, zF, zM, zN, zO, zP, zQ, reduceCtorEq, not_true_eq_false, not_false_eq_true]) | (first | refine vIfE_of ?_ ?_ | refine vIfD_of ?_ ?_ | refine vIfQ_of ?_ ?_ | refine vIfV_of ?_ ?_) <;> intro _ | refine And.intro (by omega) ?_ | refine drawn_q ?_ | fail)
    have hr : ScR w9 (.tuple #[.agg #[.slice ox dims.length cx, .slice oy m.length cy], .int .i64 0]) d m dims := ⟨_, _, dims, m, _, rfl, own_sS (own_later hx l4) B4 c9, own_sS hy B4 c9, .inl ⟨hsub, rfl, rfl, rfl⟩⟩
    have l9 : Later w w9 := Chg.later (l02.trans (l3.trans l4)) c9 (by intro j hj; rw [List.mem_singleton.1 hj]; omega)
    first | exact ⟨hr, l9⟩ | exact l9
theorem dcschema_c (dv mv u : Value) (d m dims : List ByteArray) (w : World) (h : ScIs w dv mv d m) (hu : StS w u dims) : FnC Try.prog 20 #[scV dv mv, u] w fun r w' => ScR w' r d m dims ∧ Later w w' := by
  unfold scV
  obtain ⟨om, cm, hmv, _⟩ := StS.opn h.mS
  obtain ⟨ou, cu, huv, _⟩ := StS.opn hu
  refine enter20 _ _ ?_
  unfold B20
  obtain ⟨l1, s1, F⟩ := box2 w dv mv 24
  have eca : (Value.agg #[dv, mv]).cells = #[dv, mv] := rfl
  repeat' (first | (simp (disch := omega) only [push_cast, ↓reduceIte, zA, zG, zB, zH, zI, zC, zJ, zK, zL, zD, zE, zF, zM, zN, zO, zP, zQ, reduceCtorEq, not_true_eq_false, not_false_eq_true, eca, s1]) | (first | refine vIfE_of ?_ ?_ | refine vIfD_of ?_ ?_ | refine vIfQ_of ?_ ?_ | refine vIfV_of ?_ ?_) <;> intro _ | refine And.intro (by omega) ?_ | fail)
  generalize w.alloc (.cells #[dv, mv] 24) = w1 at *
  have l2 := later_alloc w1 (.cells #[.slice none 0 0, .slice none 0 0] 24)
  have B2 := Blk.new w1 #[.slice none 0 0, .slice none 0 0] 24
  rw [s1] at B2
  generalize w1.alloc (.cells #[.slice none 0 0, .slice none 0 0] 24) = w2 at *
  have l02 := l1.trans l2
  obtain ⟨a0, a1, _⟩ := F w2 l2
  repeat' (first | (simp (disch := omega) only [push_cast, ↓reduceIte, zA, zG, zB, zH, zI, zC, zJ, zK, zL, zD, zE, zF, zM, zN, zO, zP, zQ, reduceCtorEq, not_true_eq_false, not_false_eq_true, a0, addr_add_eq, Nat.zero_add]) | (first | refine vIfE_of ?_ ?_ | refine vIfD_of ?_ ?_ | refine vIfQ_of ?_ ?_ | refine vIfV_of ?_ ?_) <;> intro _ | refine And.intro (by omega) ?_ | refine drawn_q ?_ | fail)
  refine (dsubset_c _ dv dims d w2 (Sl.later hu l02) (Sl.later h.dS l02)).mono ?_
  rintro _ w0 ⟨rfl, h0⟩
  obtain rfl := h0.symm
  cases hsub : sub d 0 dims with
  | false =>
    repeat' (first | (simp (disch := omega) only [push_cast, ↓reduceIte, zA, zG, zB, zH, zI, zC, zJ, zK, zL, zD, zE, zF, zM, zN, zO, zP, zQ, reduceCtorEq, not_true_eq_false, not_false_eq_true]) | (first | refine vIfE_of ?_ ?_ | refine vIfD_of ?_ ?_ | refine vIfQ_of ?_ ?_ | refine vIfV_of ?_ ?_) <;> intro _ | refine And.intro (by omega) ?_ | refine drawn_q ?_ | fail)
    refine vStore_blk (l := [.slice none 0 0, .slice none 0 0]) (xs := [.slice none 0 0, .slice none 0 0]) B2 rfl rfl (sl2_one _ _ _ _ _ _) ?_
    intro w9 B9 c9
    repeat' (first | (simp (disch := omega) only [push_cast, ↓reduceIte, zA, zG, zB, zH, zI, zC, zJ, zK, zL, zD, zE, zF, zM, zN, zO, zP, zQ, reduceCtorEq, not_true_eq_false, not_false_eq_true]) | (first | refine vIfE_of ?_ ?_ | refine vIfD_of ?_ ?_ | refine vIfQ_of ?_ ?_ | refine vIfV_of ?_ ?_) <;> intro _ | refine And.intro (by omega) ?_ | refine drawn_q ?_ | fail)
    refine resK_cells (s := 2) (by simp (disch := omega) only [push_cast, ↓reduceIte, zA, zG, zB, zH, zI, zC, zJ, zK, zL, zD, zE, zF, zM, zN, zO, zP, zQ, reduceCtorEq, not_true_eq_false, not_false_eq_true]) (by rw [Try.underlying24]; exact sz24) (Blk.cellsAt (l := [.slice none 0 0, .slice none 0 0]) B9) ?_
    repeat' (first | (simp (disch := omega) only [push_cast, ↓reduceIte, zA, zG, zB, zH, zI, zC, zJ, zK, zL, zD, zE, zF, zM, zN, zO, zP, zQ, reduceCtorEq, not_true_eq_false, not_false_eq_true]) | (first | refine vIfE_of ?_ ?_ | refine vIfD_of ?_ ?_ | refine vIfQ_of ?_ ?_ | refine vIfV_of ?_ ?_) <;> intro _ | refine And.intro (by omega) ?_ | refine drawn_q ?_ | fail)
    have hr : ScR w9 (.tuple #[.agg #[.slice none 0 0, .slice none 0 0], .int .i64 141]) d m dims := ⟨_, _, [], [], _, rfl, Sl.nil _, Sl.nil _, .inr ⟨hsub, rfl, rfl, rfl⟩⟩
    have l9 : Later w w9 := Chg.later l02 c9 (by intro j hj; rw [List.mem_singleton.1 hj]; omega)
    first | exact ⟨hr, l9⟩ | exact l9
  | true =>
    rw [hmv] at a1
    rw [huv]
    repeat' (first | (simp (disch := omega) only [push_cast, ↓reduceIte, zA, zG, zB, zH, zI, zC, zJ, zK, zL, zD, zE, zF, zM, zN, zO, zP, zQ, reduceCtorEq, not_true_eq_false, not_false_eq_true, a1, addr_add_eq, Nat.zero_add]) | (first | refine vIfE_of ?_ ?_ | refine vIfD_of ?_ ?_ | refine vIfQ_of ?_ ?_ | refine vIfV_of ?_ ?_) <;> intro _ | refine And.intro (by omega) ?_ | refine drawn_q ?_ | fail)
    refine vStore_blk (l := [.slice none 0 0, .slice none 0 0]) (xs := [.slice ou dims.length cu, .slice om m.length cm]) B2 rfl rfl (sl2_one _ _ _ _ _ _) ?_
    intro w9 B9 c9
    have l9 : Later w w9 := Chg.later l02 c9 (by intro j hj; rw [List.mem_singleton.1 hj]; omega)
    repeat' (first | (simp (disch := omega) only [push_cast, ↓reduceIte, zA, zG, zB, zH, zI, zC, zJ, zK, zL, zD, zE, zF, zM, zN, zO, zP, zQ, reduceCtorEq, not_true_eq_false, not_false_eq_true]) | (first | refine vIfE_of ?_ ?_ | refine vIfD_of ?_ ?_ | refine vIfQ_of ?_ ?_ | refine vIfV_of ?_ ?_) <;> intro _ | refine And.intro (by omega) ?_ | refine drawn_q ?_ | fail)
    refine resK_cells (s := 2) (by simp (disch := omega) only [push_cast, ↓reduceIte, zA, zG, zB, zH, zI, zC, zJ, zK, zL, zD, zE, zF, zM, zN, zO, zP, zQ, reduceCtorEq, not_true_eq_false, not_false_eq_true]) (by rw [Try.underlying24]; exact sz24) (Blk.cellsAt (l := [.slice ou dims.length cu, .slice om m.length cm]) B9) ?_
    repeat' (first | (simp (disch := omega) only [push_cast, ↓reduceIte, zA, zG, zB, zH, zI, zC, zJ, zK, zL, zD, zE, zF, zM, zN, zO, zP, zQ, reduceCtorEq, not_true_eq_false, not_false_eq_true]) | (first | refine vIfE_of ?_ ?_ | refine vIfD_of ?_ ?_ | refine vIfQ_of ?_ ?_ | refine vIfV_of ?_ ?_) <;> intro _ | refine And.intro (by omega) ?_ | refine drawn_q ?_ | fail)
    have hr : ScR w9 (.tuple #[.agg #[.slice ou dims.length cu, .slice om m.length cm], .int .i64 0]) d m dims := ⟨_, _, dims, m, _, rfl, by rw [← huv]; exact Sl.later hu l9, by rw [← hmv]; exact Sl.later h.mS l9, .inl ⟨hsub, rfl, rfl, rfl⟩⟩
    first | exact ⟨hr, l9⟩ | exact l9
def sB : ByteArray := ⟨#[98]⟩
def sX : ByteArray := ⟨#[120]⟩
def sP : ByteArray := ⟨#[112]⟩
def sQ : ByteArray := ⟨#[113]⟩
theorem sl2s (w : World) (a b : ByteArray) (e : TypeId) : StS (w.alloc (.cells #[.string a, .string b] e)) (.slice (some ⟨w.heap.size, 0, none⟩) 2 2) [a, b] := Sl.of_blk (xs := [.string a, .string b]) (Blk.new w _ _) rfl (by unfold maxLen; omega)
def two1 : R := (3, [sX, sP], 1, [])
def two2 : R := (4, [sX, sQ], 2, [])
theorem two_c (w : World) : FnC Try.prog 40 #[] w fun r w' => (∃ dv mv v x y, r = .tuple #[scV dv mv, v] ∧ ScIs w' dv mv [sA, sB] [] ∧ RecS elC 4 w' v [x, y] ∧ EIs w' x ∧ EIs w' y ∧ x.abs = two1 ∧ y.abs = two2) ∧ Later w w' := by
  refine enter40 ?_
  unfold B40
  have l1 := later_alloc w (.cells #[.slice none 0 0, .slice none 0 0] 24)
  have B1 := Blk.new w #[.slice none 0 0, .slice none 0 0] 24
  repeat' (first | (simp (disch := omega) only [push_cast, ↓reduceIte, zA, zG, zB, zH, zI, zC, zJ, zK, zL, zD, zE, zF, zM, zN, zO, zP, zQ, reduceCtorEq, not_true_eq_false, not_false_eq_true]) | (first | refine vIfE_of ?_ ?_ | refine vIfD_of ?_ ?_ | refine vIfQ_of ?_ ?_ | refine vIfV_of ?_ ?_) <;> intro _ | refine And.intro (by omega) ?_ | refine drawn_q ?_ | fail)
  have hw1 := B1.lt
  generalize w.alloc (.cells #[.slice none 0 0, .slice none 0 0] 24) = w1 at *
  have e1 : (⟨#[97]⟩ : ByteArray) = sA := rfl
  have e2 : (⟨#[98]⟩ : ByteArray) = sB := rfl
  have e3 : (⟨#[120]⟩ : ByteArray) = sX := rfl
  have e4 : (⟨#[112]⟩ : ByteArray) = sP := rfl
  have e5 : (⟨#[113]⟩ : ByteArray) = sQ := rfl
  rw [e1, e2]
  have l2 := later_alloc w1 (.cells #[.string sA, .string sB] 9)
  have h2 := sl2s w1 sA sB 9
  generalize w1.alloc (.cells #[.string sA, .string sB] 9) = w2 at *
  generalize hk1 : w1.heap.size = k1 at *
  have hk2 := l2.size
  rw [hk1] at hk2
  refine vStore_new rfl rfl (by intro u hu; exact sl2_one _ _ _ _ _ _ u (by simpa using hu)) ?_
  have l3 := later_alloc w2 (.cells #[.slice (some ⟨k1, 0, none⟩) 2 2, .slice none 0 0] 24)
  have b3 : cellsAt (w2.alloc (.cells #[.slice (some ⟨k1, 0, none⟩) 2 2, .slice none 0 0] 24)) ⟨w2.heap.size, 0, none⟩ 2 = some [.slice (some ⟨k1, 0, none⟩) 2 2, .slice none 0 0] := Blk.cellsAt (l := [.slice (some ⟨k1, 0, none⟩) 2 2, .slice none 0 0]) (Blk.new w2 _ _)
  generalize w2.alloc (.cells #[.slice (some ⟨k1, 0, none⟩) 2 2, .slice none 0 0] 24) = w3 at *
  have hk3 := l3.size
  repeat' (first | (simp (disch := omega) only [push_cast, ↓reduceIte, zA, zG, zB, zH, zI, zC, zJ, zK, zL, zD, zE, zF, zM, zN, zO, zP, zQ, reduceCtorEq, not_true_eq_false, not_false_eq_true, b3]) | (first | refine vIfE_of ?_ ?_ | refine vIfD_of ?_ ?_ | refine vIfQ_of ?_ ?_ | refine vIfV_of ?_ ?_) <;> intro _ | refine And.intro (by omega) ?_ | refine drawn_q ?_ | fail)
  rw [e3, e4]
  have l4 := later_alloc w3 (.cells #[.string sX, .string sP] 9)
  have h4 := sl2s w3 sX sP 9
  generalize w3.alloc (.cells #[.string sX, .string sP] 9) = w4 at *
  rw [e5]
  have l5 := later_alloc w4 (.cells #[.string sX, .string sQ] 9)
  have h5 := sl2s w4 sX sQ 9
  generalize w4.alloc (.cells #[.string sX, .string sQ] 9) = w5 at *
  have hR := SlN.lit w5 [.int .i64 3, .slice (some ⟨w3.heap.size, 0, none⟩) 2 2, .int .i64 1, .slice none 0 0, .int .i64 4, .slice (some ⟨w4.heap.size, 0, none⟩) 2 2, .int .i64 2, .slice none 0 0] 35 4 2 rfl (by unfold maxLen; omega)
  have l6 := later_alloc w5 (.cells #[.int .i64 3, .slice (some ⟨w3.heap.size, 0, none⟩) 2 2, .int .i64 1, .slice none 0 0, .int .i64 4, .slice (some ⟨w4.heap.size, 0, none⟩) 2 2, .int .i64 2, .slice none 0 0] 35)
  generalize w5.alloc (.cells #[.int .i64 3, .slice (some ⟨w3.heap.size, 0, none⟩) 2 2, .int .i64 1, .slice none 0 0, .int .i64 4, .slice (some ⟨w4.heap.size, 0, none⟩) 2 2, .int .i64 2, .slice none 0 0] 35) = w6 at *
  have hk36 := ((l4.trans l5).trans l6).size
  have B6 := B1.chg (Chg.of_later (ks := []) (l2.trans (l3.trans (l4.trans (l5.trans l6))))) (by simp)
  refine vStore_blk (l := [.slice none 0 0, .slice none 0 0]) (xs := [.slice (some ⟨k1, 0, none⟩) 2 2, .slice none 0 0]) B6 rfl rfl (sl2_one _ _ _ _ _ _) ?_
  intro w9 B9 c9
  have l9 : Later w w9 := Chg.later (l1.trans (l2.trans (l3.trans (l4.trans (l5.trans l6))))) c9 (by intro j hj; rw [List.mem_singleton.1 hj]; omega)
  repeat' (first | (simp (disch := omega) only [push_cast, ↓reduceIte, zA, zG, zB, zH, zI, zC, zJ, zK, zL, zD, zE, zF, zM, zN, zO, zP, zQ, reduceCtorEq, not_true_eq_false, not_false_eq_true]) | (first | refine vIfE_of ?_ ?_ | refine vIfD_of ?_ ?_ | refine vIfQ_of ?_ ?_ | refine vIfV_of ?_ ?_) <;> intro _ | refine And.intro (by omega) ?_ | refine drawn_q ?_ | fail)
  refine resK_cells (s := 2) (by simp (disch := omega) only [push_cast, ↓reduceIte, zA, zG, zB, zH, zI, zC, zJ, zK, zL, zD, zE, zF, zM, zN, zO, zP, zQ, reduceCtorEq, not_true_eq_false, not_false_eq_true]) (by rw [Try.underlying24]; exact sz24) (Blk.cellsAt (l := [.slice (some ⟨k1, 0, none⟩) 2 2, .slice none 0 0]) B9) ?_
  repeat' (first | (simp (disch := omega) only [push_cast, ↓reduceIte, zA, zG, zB, zH, zI, zC, zJ, zK, zL, zD, zE, zF, zM, zN, zO, zP, zQ, reduceCtorEq, not_true_eq_false, not_false_eq_true]) | (first | refine vIfE_of ?_ ?_ | refine vIfD_of ?_ ?_ | refine vIfQ_of ?_ ?_ | refine vIfV_of ?_ ?_) <;> intro _ | refine And.intro (by omega) ?_ | refine drawn_q ?_ | fail)
  have g2 : StS w9 (.slice (some ⟨k1, 0, none⟩) 2 2) [sA, sB] := Sl.chg (Sl.later h2 (l3.trans (l4.trans (l5.trans l6)))) c9 (k := k1) (by simp; omega) (.inr rfl)
  have hk3w : w.heap.size < w3.heap.size := by omega
  have hk4w : w.heap.size < w4.heap.size := by have := l4.size; omega
  have hk5w : w.heap.size < w5.heap.size := by have := l5.size; omega
  have g4 := Sl.chg (Sl.later h4 (l5.trans l6)) c9 (k := w3.heap.size) (by simp; omega) (.inr rfl)
  have g5 := Sl.chg (Sl.later h5 l6) c9 (k := w4.heap.size) (by simp; omega) (.inr rfl)
  have gR := SlN.chg hR c9 (k := w5.heap.size) (by simp; omega) (.inr rfl)
  have hz : StZ [sA, sB] := fun x hx => by
    simp only [List.mem_cons, List.not_mem_nil, or_false] at hx
    rcases hx with rfl | rfl <;> decide +kernel
  refine ⟨⟨_, _, _, ⟨3, [sX, sP], 1, [], .slice (some ⟨w3.heap.size, 0, none⟩) 2 2, .slice none 0 0⟩, ⟨4, [sX, sQ], 2, [], .slice (some ⟨w4.heap.size, 0, none⟩) 2 2, .slice none 0 0⟩, rfl, ⟨g2, Sl.nil _, hz, by simp [StZ]⟩, gR, ⟨g4, SlN.nil _ _⟩, ⟨g5, SlN.nil _ _⟩, rfl, rfl⟩, l9⟩
end Go.Proofs.Ythihbgpaoldbjaa
end
section
set_option linter.unusedSimpArgs false
namespace Go.Proofs.Ythihbgpaoldbjaa
open Go.Vc Go.Key Go.Cub Go.Fold Go.Stab
set_option maxRecDepth 100000
def out14 : R := (0, [sX], 3, [])
theorem fold14 : F [(0, [sX], 1, []), (0, [sX], 2, [])] [out14] := by
  have h1 : F [(0, [sX], 1, [])] [(0, [sX], 1, [])] := F.add (l := []) (A := []) (B := []) (r := (0, [sX], 1, [])) F.start (by simp) (by simp)
  exact (F.join (l := [(0, [sX], 1, [])]) (A := []) (B := []) (b := (0, [sX], 1, [])) (r := (0, [sX], 2, [])) h1 ⟨rfl, rfl⟩).2 out14 (by rfl)
theorem prj14 : [two1, two2].map (prj [sA, sB] [sA] 5) = [(0, [sX], 1, []), (0, [sX], 2, [])] := by
  have h : fi [sA, sB] sA = some 0 := by decide +kernel
  simp only [List.map_cons, List.map_nil, prj, two1, two2, h]; rfl
theorem sub14 : sub [sA, sB] 0 [sA] = true := by decide +kernel
theorem sub14' : sub [sA, sB] 0 [sB, sA] = false := by decide +kernel
theorem ap14 : Ap [sA, sB] := by decide +kernel
theorem rt14 : Rt 5 := by decide +kernel
set_option maxHeartbeats 2000000 in
theorem alive14_c (w : World) : FnC Try.prog 12 #[] w fun v w' => v = .bool true ∧ Later w w' := by
  refine enter12 ?_
  unfold B12
  repeat' (first | (simp (disch := omega) only [push_cast, ↓reduceIte, zA, zG, zB, zH, zI, zC, zJ, zK, zL, zD, zE, zF, zM, zN, zO, zP, zQ, reduceCtorEq, not_true_eq_false, not_false_eq_true]) | (first | refine vIfE_of ?_ ?_ | refine vIfD_of ?_ ?_ | refine vIfQ_of ?_ ?_ | refine vIfV_of ?_ ?_) <;> intro _ | refine And.intro (by omega) ?_ | refine drawn_q ?_ | fail)
  refine (two_c w).mono ?_
  rintro _ w1 ⟨⟨dv, mv, v, x, y, rfl, hS, hR, hx, hy, ex, ey⟩, l1⟩
  obtain ⟨o, c, rfl, g1, g2⟩ := RecS.slice hR
  unfold scV
  repeat' (first | (simp (disch := omega) only [push_cast, ↓reduceIte, zA, zG, zB, zH, zI, zC, zJ, zK, zL, zD, zE, zF, zM, zN, zO, zP, zQ, reduceCtorEq, not_true_eq_false, not_false_eq_true]) | (first | refine vIfE_of ?_ ?_ | refine vIfD_of ?_ ?_ | refine vIfQ_of ?_ ?_ | refine vIfV_of ?_ ?_) <;> intro _ | refine And.intro (by omega) ?_ | refine drawn_q ?_ | fail)
  refine vStore_new rfl rfl (by intro u hu; obtain ⟨od, cd, rfl, _⟩ := StS.opn hS.dS; obtain ⟨om, cm, rfl, _⟩ := StS.opn hS.mS; exact sl2_one _ _ _ _ _ _ u (by simpa using hu)) ?_
  have l2 := later_alloc w1 (.cells #[dv, mv] 24)
  have b2 : cellsAt (w1.alloc (.cells #[dv, mv] 24)) ⟨w1.heap.size, 0, none⟩ 2 = some [dv, mv] := Blk.cellsAt (l := [dv, mv]) (Blk.new w1 _ _)
  generalize w1.alloc (.cells #[dv, mv] 24) = w2 at *
  have e1 : (⟨#[97]⟩ : ByteArray) = sA := rfl
  have e2 : (⟨#[98]⟩ : ByteArray) = sB := rfl
  repeat' (first | (simp (disch := omega) only [push_cast, ↓reduceIte, zA, zG, zB, zH, zI, zC, zJ, zK, zL, zD, zE, zF, zM, zN, zO, zP, zQ, reduceCtorEq, not_true_eq_false, not_false_eq_true, b2]) | (first | refine vIfE_of ?_ ?_ | refine vIfD_of ?_ ?_ | refine vIfQ_of ?_ ?_ | refine vIfV_of ?_ ?_) <;> intro _ | refine And.intro (by omega) ?_ | refine drawn_q ?_ | fail)
  rw [e1]
  have l3 := later_alloc w2 (.cells #[.string sA] 9)
  have h3 : StS (w2.alloc (.cells #[.string sA] 9)) (.slice (some ⟨w2.heap.size, 0, none⟩) 1 1) [sA] := Sl.of_blk (xs := [.string sA]) (Blk.new w2 _ _) rfl (by unfold maxLen; omega)
  generalize w2.alloc (.cells #[.string sA] 9) = w3 at *
  have l13 := l2.trans l3
  have hcr : ∀ e ∈ [x, y], Cr 2 0 e := fun e he => by
    simp only [List.mem_cons, List.not_mem_nil, or_false] at he
    have gt : ∀ q : R, (1 ≤ q.2.2.1 ∧ q.2.2.1 ≤ 1048576 ∧ q.2.2.2 = [] ∧ q.2.1.length = 2 ∧ 0 ≤ q.1 ∧ q.1 ≤ 1099511627776) → Gd 2 0 q ∧ 0 ≤ q.1 ∧ q.1 ≤ 1099511627776 := fun q h => ⟨⟨h.1, h.2.1, by rw [h.2.2.1]; simp, h.2.2.2.1, by rw [h.2.2.1]; rfl, by omega, by omega⟩, h.2.2.2.2⟩
    rcases he with rfl | rfl
    · exact gt e.abs (by rw [ex]; decide +kernel)
    · exact gt e.abs (by rw [ey]; decide +kernel)
  have hes : ∀ e ∈ [x, y], EIs w1 e := fun e he => by
    simp only [List.mem_cons, List.not_mem_nil, or_false] at he
    rcases he with rfl | rfl
    · exact hx
    · exact hy
  refine (project_c 0 dv mv _ _ [sA, sB] [] [sA] [x, y] 5 w3 (hS.later l13) ap14 (RecS.later hR l13) h3 (fun e he => ⟨(hes e he).later l13, hcr e he⟩) (by simp) (by simp) (by decide)).mono ?_
  have hm : [x, y].map El.abs = [two1, two2] := by simp only [List.map_cons, List.map_nil, ex, ey]
  rintro _ w4 ⟨⟨vv, er, rfl, hp⟩, l4⟩
  rw [hm, prj14] at hp
  rcases hp with ⟨_, _, h⟩ | ⟨_, _, _, h⟩ | ⟨_, _, hf⟩
  · rw [sub14] at h; cases h
  · exact absurd rt14 h
  rcases hf with ⟨_, _, hb⟩ | ⟨rfl, es, ho, hF, hE⟩
  · exact absurd hb fold14.ok
  have hes' : es.map El.abs = [out14] := Option.some.inj (Res.one (o := some [out14]) (o' := some (es.map El.abs)) (Stb.refl _) fold14 hF)
  obtain ⟨q, rfl⟩ : ∃ q, es = [q] := by
    have := congrArg List.length hes'
    rw [List.length_map] at this
    match es, this with
    | [q], _ => exact ⟨q, rfl⟩
  have hq : q.abs = out14 := by simpa using hes'
  have b24 := cellsAt_later (l3.trans l4) 2 b2
  have l14 := l13.trans l4
  have hRs := OwnR.s ho
  obtain ⟨ao, ac, rfl, _⟩ := RecS.slice hRs
  repeat' (first | (simp (disch := omega) only [push_cast, ↓reduceIte, zA, zG, zB, zH, zI, zC, zJ, zK, zL, zD, zE, zF, zM, zN, zO, zP, zQ, reduceCtorEq, not_true_eq_false, not_false_eq_true, b24]) | (first | refine vIfE_of ?_ ?_ | refine vIfD_of ?_ ?_ | refine vIfQ_of ?_ ?_ | refine vIfV_of ?_ ?_) <;> intro _ | refine And.intro (by omega) ?_ | refine drawn_q ?_ | fail)
  rw [e1, e2]
  have l5 := later_alloc w4 (.cells #[.string sB, .string sA] 9)
  have h5 := sl2s w4 sB sA 9
  generalize w4.alloc (.cells #[.string sB, .string sA] 9) = w5 at *
  have l15 := l14.trans l5
  refine (project_c 0 dv mv _ _ [sA, sB] [] [sB, sA] [x, y] 5 w5 (hS.later l15) ap14 (RecS.later hR l15) h5 (fun e he => ⟨(hes e he).later l15, hcr e he⟩) (by simp) (by simp) (by decide)).mono ?_
  rintro _ w6 ⟨⟨vv, er, rfl, hp⟩, l6⟩
  rcases hp with ⟨rfl, _, _⟩ | ⟨_, _, h, _⟩ | ⟨h, _⟩
  rotate_left
  · rw [sub14'] at h; cases h
  · rw [sub14'] at h; cases h
  have l16 := l15.trans l6
  repeat' (first | (simp (disch := omega) only [push_cast, ↓reduceIte, zA, zG, zB, zH, zI, zC, zJ, zK, zL, zD, zE, zF, zM, zN, zO, zP, zQ, reduceCtorEq, not_true_eq_false, not_false_eq_true]) | (first | refine vIfE_of ?_ ?_ | refine vIfD_of ?_ ?_ | refine vIfQ_of ?_ ?_ | refine vIfV_of ?_ ?_) <;> intro _ | refine And.intro (by omega) ?_ | refine drawn_q ?_ | fail)
  refine (split_c o _ c [x, y] 4 w6 (RecS.later hR l16) (fun e he => ⟨(hes e he).later l16, by have := (hcr e he).1.rr.2; omega⟩) (by simp)).mono ?_
  rintro _ w7 ⟨⟨u, v, rfl, ⟨us, hu, hue, _⟩, ⟨vs, hv, hve, _⟩⟩, l7⟩
  rw [hm] at hue hve
  have hul : us.length = 1 := by have := congrArg List.length hue; rw [List.length_map] at this; rw [this]; rfl
  have hvl : vs.length = 1 := by have := congrArg List.length hve; rw [List.length_map] at this; rw [this]; rfl
  obtain ⟨ou, cu, rfl, _⟩ := RecS.slice hu
  obtain ⟨ov, cv, rfl, _⟩ := RecS.slice hv
  rw [hul, hvl]
  cases ao with
  | none => have h1 := SlN.len hRs; have h2 := (h1.2.2.2.2 rfl).1; simp at h2
  | some a =>
  obtain ⟨ga, rfl, _⟩ := own_writes ho
  have hR7 : RecS elC 4 w7 _ [q] := RecS.later hRs ((l5.trans l6).trans l7)
  have f0 := RecS.cell elC_len hR7 (i := 0) (j := 0) (by simp) (x := .int .i64 q.t) rfl
  have f1 := RecS.cell elC_len hR7 (i := 0) (j := 1) (by simp) (x := q.dv) rfl
  have f2 := RecS.cell elC_len hR7 (i := 0) (j := 2) (by simp) (x := .int .i64 q.n) rfl
  have t0 : q.t = 0 := congrArg (fun r : R => r.1) hq
  have t1 : q.d = [sX] := congrArg (fun r : R => r.2.1) hq
  have t2 : q.n = 3 := congrArg (fun r : R => r.2.2.1) hq
  have hqd := (hE q (by simp)).1.is.1
  obtain ⟨od, cd, hdv, _⟩ := StS.opn hqd
  rw [hdv, t1] at f1
  rw [t0] at f0
  rw [t2] at f2
  rw [addr_add_eq, addr_add_eq] at f0 f1 f2
  repeat' (first | (simp (disch := omega) only [push_cast, ↓reduceIte, zA, zG, zB, zH, zI, zC, zJ, zK, zL, zD, zE, zF, zM, zN, zO, zP, zQ, reduceCtorEq, not_true_eq_false, not_false_eq_true, f0, f1, f2, addr_add_eq, Nat.zero_add, List.length_cons, List.length_nil]) | (first | refine vIfE_of ?_ ?_ | refine vIfD_of ?_ ?_ | refine vIfQ_of ?_ ?_ | refine vIfV_of ?_ ?_) <;> intro _ | refine And.intro (by omega) ?_ | refine drawn_q ?_ | fail)
  have lz : Later w w7 := (l1.trans l16).trans l7
  first | exact ⟨rfl, lz⟩ | exact lz
end Go.Proofs.Ythihbgpaoldbjaa
end
section
namespace Go.Vc
open Go.RowKit
variable {P : Program}
end Go.Vc
namespace Go.Proofs.Ythihbgpaoldbjaa
open Go.Vc Go.Key
set_option maxRecDepth 100000
/-- A schema and an array that came as values: their boxes. -/
theorem boxSA (w : World) (dv mv : Value) (cs : Array Value) (ta : TypeId) : Later w ((w.alloc (.cells #[dv, mv] 24)).alloc (.cells cs ta)) ∧ ((w.alloc (.cells #[dv, mv] 24)).alloc (.cells cs ta)).heap.size = w.heap.size + 2 ∧
    ∀ w', Later ((w.alloc (.cells #[dv, mv] 24)).alloc (.cells cs ta)) w' → cellsAt w' ⟨w.heap.size, 0, none⟩ 2 = some [dv, mv] ∧ Blk w' (w.heap.size + 1) cs ta := by
  obtain ⟨l1, s1, F⟩ := box2 w dv mv 24
  generalize w.alloc (.cells #[dv, mv] 24) = w1 at *
  have l2 := later_alloc w1 (.cells cs ta)
  have B2 := Blk.new w1 cs ta
  have s2 : (w1.alloc (.cells cs ta)).heap.size = w1.heap.size + 1 := World.size_alloc w1 _
  generalize w1.alloc (.cells cs ta) = w2 at *
  rw [s1] at B2
  exact ⟨l1.trans l2, by omega, fun w' hl => ⟨(F w' (l2.trans hl)).2.2, B2.chg (Chg.of_later (ks := []) hl) (by simp)⟩⟩
end Go.Proofs.Ythihbgpaoldbjaa
end
section
namespace Go.Proofs.Ythihbgpaoldbjaa
open Go.Vc Go.Key Go.RowKit Go.ChangeShapes
set_option maxRecDepth 100000
section
variable {H : Type} {enc : TypeId × Value → H} {w : World} {sp : Nat → Bool} {hd : Bool}
theorem o_where : Opens enc Try.prog w sp hd 38 4 (fun cs => ∃ (uv : Value) (u : List ByteArray) (g a b : Int), cs = [uv, .int .i64 g, .int .i64 a, .int .i64 b] ∧ (StS w uv u ∧ StZ u) ∧ I64 g ∧ I64 a ∧ I64 b) :=
  (opens_struct Try.underlying38 (by kernel_rfl)).mono fun cs ⟨hl, hf⟩ => by
    match cs, hl with
    | [c0, c1, c2, c3], _ =>
      obtain ⟨dv, d, hd, sd, zd⟩ := hf 0 _ 1 _ rfl o_strs
      obtain ⟨g, hg, wg⟩ := hf 1 _ 1 _ rfl o_int
      obtain ⟨a, ha, wa⟩ := hf 2 _ 1 _ rfl o_int
      obtain ⟨b, hb, wb⟩ := hf 3 _ 1 _ rfl o_int
      obtain rfl : c0 = _ := (List.cons.inj hd).1
      obtain rfl : c1 = _ := (List.cons.inj hg).1
      obtain rfl : c2 = _ := (List.cons.inj ha).1
      obtain rfl : c3 = _ := (List.cons.inj hb).1
      exact ⟨c0, d, g, a, b, rfl, ⟨sd, zd⟩, wg, wa, wb⟩
variable {v : Value} {d : DataW H} {ps : List MemPlace} {r : Reach} {b0 : Nat}
theorem open_where (hval : Value.okWide Try.prog w r b0 38 v) (h : DataW.Trod enc Try.prog w 0 sp hd 38 v d ps) : ∃ a : Value × List ByteArray × Int × Int × Int, v = .agg #[a.1, .int .i64 a.2.2.1, .int .i64 a.2.2.2.1, .int .i64 a.2.2.2.2] ∧ (StS w a.1 a.2.1 ∧ StZ a.2.1) ∧ I64 a.2.2.1 ∧ I64 a.2.2.2.1 ∧ I64 a.2.2.2.2 := by
  obtain ⟨cs, rfl, dv, u, g, a, b, rfl, hs⟩ := open_agg (.inl ⟨_, Try.underlying38⟩) o_where hval h
  exact ⟨(dv, u, g, a, b), rfl, hs⟩
end
end Go.Proofs.Ythihbgpaoldbjaa
end
