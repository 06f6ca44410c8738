/- The conditions of a filter, one behind the other: a function that calls itself through its own variable. -/
import Derived.Sort.Grow
import Derived.Lib.SlicesCompact
import Derived.Shelf.Strings.IndexAnyAll
import Derived.Shelf.Small.Utf8
import Derived.WalkMore
import Derived.Handy
import Derived.Lib.BufferKept
import Derived.Deep.DeepBigQuietO
import Derived.Shelf.Strings.Search1
import Derived.Laws.Runes
import Derived.Laws.RangeAny
import Derived.Shelf.Sort.Plain
import Derived.Shelf.GgClosure.StringsRunes
import Derived.Shelf.Strings.FuncGrows
import Derived.Shelf.Slices.Cells
import Derived.Shelf.Slices.In.SortNone
import Derived.Test.YtnofalhkapmcnaaProg
import Derived.Test.YtnofalhkapmcnaaPartF
set_option linter.all false
open Nat renaming reduceEqDiff → zA, reducePow → zB, reduceMul → zC, reduceAdd → zD, reduceSub → zE, reduceLeDiff → zF
open Int renaming reduceToNat → zG, reducePow → zH, reduceNeg → zI, reduceMul → zJ, reduceAdd → zK, reduceSub → zL, reduceLT → zM, reduceLE → zN, reduceEq → zO, reduceMod → zP, reduceDiv → zQ
section
set_option linter.unusedSimpArgs false
namespace Go.Vc
mutual
def FT.conds : FT → List FT
  | .mk op d v kv l => (if op = 1 ∨ op = 2 then [.mk op d v kv l] else []) ++ FT.condsL l
def FT.condsL : List FT → List FT
  | [] => []
  | k :: l => k.conds ++ FT.condsL l
end
theorem FT.conds_is (f : FT) : f.conds = (if f.op = 1 ∨ f.op = 2 then [f] else []) ++ f.kids.flatMap FT.conds := by
  obtain ⟨op, d, v, kv, l⟩ := f
  have : ∀ l : List FT, FT.condsL l = l.flatMap FT.conds := by
    intro l
    induction l with
    | nil => rfl
    | cons k l ih => show k.conds ++ FT.condsL l = _; rw [ih]; rfl
  show _ ++ FT.condsL l = _
  rw [this]
  rfl
theorem FT.conds_dims : ∀ f : FT, f.conds.map FT.dim = f.dims := by
  intro f
  induction f using FT.ind with
  | h f ih =>
    rw [FT.conds_is, FT.dims_is, List.map_append]
    congr 1
    · split <;> rfl
    · rw [List.map_flatMap]
      generalize f.kids = l at *
      induction l with
      | nil => rfl
      | cons k l ihl => rw [List.flatMap_cons, List.flatMap_cons, ih k (by simp), ihl fun x hx => ih x (by simp [hx])]
theorem FT.conds_vals : ∀ f : FT, f.conds.map FT.value = f.cvals := by
  intro f
  induction f using FT.ind with
  | h f ih =>
    rw [FT.conds_is, FT.cvals_is, List.map_append]
    congr 1
    · split <;> rfl
    · rw [List.map_flatMap]
      generalize f.kids = l at *
      induction l with
      | nil => rfl
      | cons k l ihl => rw [List.flatMap_cons, List.flatMap_cons, ih k (by simp), ihl fun x hx => ih x (by simp [hx])]
theorem FT.conds_ok {w : World} : ∀ f : FT, f.Ok w → ∀ k ∈ f.conds, k.Ok w := by
  intro f
  induction f using FT.ind with
  | h f ih =>
    intro hf k hk
    rw [FT.conds_is] at hk
    rcases List.mem_append.1 hk with h | h
    · split at h
      · rw [List.mem_singleton.1 h]; exact hf
      · cases h
    · obtain ⟨x, hx, hk⟩ := List.mem_flatMap.1 h
      exact ih x hx ((FT.ok_iff.1 hf).2.2.2.2 x hx) k hk
theorem FT.conds_cnt (f : FT) : f.conds.length ≤ f.cnt := by
  have h := FT.dims_cnt f
  rw [← FT.conds_dims, List.length_map] at h
  exact h
/-- Their kinds, for the words of the document. -/
theorem FT.cnt_kids (f : FT) : (f.kids.map FT.cnt).sum + 1 = f.cnt := by
  rw [FT.cnt_is]
  congr 1
  generalize f.kids = l
  induction l with
  | nil => rfl
  | cons k l ih => show _ = k.cnt + FT.cntL l; rw [← ih]; rfl
end Go.Vc
namespace Go.Proofs.Ytnofalhkapmcnaa
open Go.Vc Go.Key
set_option maxRecDepth 100000
def zeroF : FT := .mk 0 ⟨#[]⟩ ⟨#[]⟩ (.slice none 0 0) []
theorem ftC_one {f : FT} {w : World} (h : f.Ok w) : ∀ u ∈ ftC f, u.oneCell' = true := by
  obtain ⟨o, c, hkv, _⟩ := RecS.slice (FT.ok_iff.1 h).2.2.2.1
  intro u hu
  simp only [ftC, List.mem_cons, List.not_mem_nil, or_false] at hu
  rcases hu with rfl | rfl | rfl | rfl
  · rfl
  · rfl
  · rfl
  · rw [hkv]; rfl
abbrev pt (k : Nat) : Value := .pointer (some ⟨k, 0, none⟩)
/-- The captured variables: the list so far, and the function itself. -/
structure WSt (w0 : World) (ko kw : Nat) (w : World) (acc : List FT) : Prop where
  l : Later w0 w
  hko : w0.heap.size ≤ ko
  hkw : w0.heap.size ≤ kw
  out : ∃ ov, Blk w ko #[ov] 37 ∧ OwnR ftC 4 w w0.heap.size 39 ov acc
  fn : Blk w kw #[.func (.func 149) #[] #[pt ko, pt kw]] 178
/-- What holds when some of the operations are done. -/
def IB (ko kw kf : Nat) (f : FT) (acc : List FT) (ov : Value) (w0 w1 : World) (b0 b1 b2 b3 b4 b5 b6 b7 : Bool) (s1 s2 s3 s14 s15 s16 s17 s18 s19 : Value) (w : World) : Prop :=
  (s1 = pt ko ∧ s2 = pt kw ∧ s3 = pt kf) ∧
  ((b4 = false ∧ b5 = false ∧ b6 = false ∧ b7 = false ∧ Later w1 w ∧ (b0 = true → s14 = ov) ∧ (b1 = true → s15 = .agg (ftC f).toArray) ∧ (b2 = true → s16 = .int .i64 (acc.length : Int)) ∧ (b3 = true → ∃ b, s17 = .slice (some ⟨b, 0, none⟩) 1 1 ∧ Blk w b (ftC zeroF).toArray 39)) ∨
   (b0 = true ∧ b1 = true ∧ b2 = true ∧ b3 = true ∧ b4 = true ∧ s15 = .agg (ftC f).toArray ∧ s16 = .int .i64 (acc.length : Int) ∧ Later w0 w ∧ Blk w kf (ftC f).toArray 39 ∧ Blk w kw #[.func (.func 149) #[] #[pt ko, pt kw]] 178 ∧
     ∃ g c, g ≠ kf ∧ s18 = .slice (some ⟨g, 0, none⟩) (acc.length + 1) c ∧ OwnR ftC 4 w w0.heap.size 39 (.slice (some ⟨g, 0, none⟩) (acc.length + 1) c) (acc ++ [if b6 = true then f else zeroF]) ∧
       (b5 = true → s19 = .pointer (some ⟨g, acc.length * 4, none⟩)) ∧ Blk w ko #[if b7 = true then .slice (some ⟨g, 0, none⟩) (acc.length + 1) c else ov] 37))
theorem waits_at' {dps : List (List Nat)} {D : Nat → Bool} {j : Nat} (h : waitsOk dps D j) {ds : List Nat} (hd : dps[j]? = some ds) {i : Nat} (hi : i ∈ ds) : D i = true := h ds hd i hi
theorem grown_not {w w' : World} {r : Option Nat} {k : Nat} {cs : Array Value} {e : TypeId} (g : w.grownBy w' r) (h : Blk w k cs e) (hk : r ≠ some k) : Blk w' k cs e := by
  unfold Blk at *
  rw [g.block k (Blk.lt h) fun he => hk (by first | exact he | exact he.symm)]; exact h
theorem own_succ {w : World} {base s n : Nat} {e : TypeId} {v : Value} {xs : List Value} (h : w.ownsRow base e s v (n + 1) xs) : ∃ g c, v = .slice (some ⟨g, 0, none⟩) (n + 1) c := by
  obtain ⟨_, h⟩ := h
  rcases h with ⟨_, h0⟩ | ⟨g, cap, cur, hv, _⟩
  · simp at h0
  · exact ⟨g, cap, hv⟩
theorem blk_ne {w : World} {k j : Nat} {cs ds : Array Value} {e e' : TypeId} (h : Blk w k cs e) (g : Blk w j ds e') (hne : e ≠ e') : k ≠ j := by
  intro hk
  subst hk
  unfold Blk at *
  rw [h] at g
  simp only [Option.some.injEq, Obj.cells.injEq] at g
  exact hne g.2.1
set_option maxHeartbeats 2000000 in
theorem reg_c {w0 w1 : World} {ko kw kf oc : Nat} {oo : Option Addr} {f : FT} {acc : List FT} {K : Env → World → Prop} {σ : Env} (e1 : σ 1 = pt ko) (e2 : σ 2 = pt kw) (e3 : σ 3 = pt kf) (l01 : Later w0 w1) (hf : f.Ok w0) (hko : w0.heap.size ≤ ko) (hkw : w0.heap.size ≤ kw)
    (Bo : Blk w1 ko #[.slice oo acc.length oc] 37) (ho : OwnR ftC 4 w1 w0.heap.size 39 (.slice oo acc.length oc) acc) (Bw : Blk w1 kw #[.func (.func 149) #[] #[pt ko, pt kw]] 178) (B1 : Blk w1 kf (ftC f).toArray 39)
    (hbig : ∀ k, (Value.slice oo acc.length oc).ownBlock = some k → k < kf) (hkf : kf < w1.heap.size) (hcn : acc.length ≤ 100000000)
    (hK : ∀ (σ1 : Env) (w2 : World), σ1 2 = pt kw → σ1 3 = pt kf → Blk w2 kf (ftC f).toArray 39 → WSt w0 ko kw w2 (acc ++ [f]) → K σ1 w2) :
    anyA Try.prog r149_2 [[], [], [0], [], [0, 3, 0, 1, 2, 3], [4, 2, 0, 1, 2, 3, 4], [5, 1, 4, 0, 1, 2, 3, 4], [4, 4, 0, 1, 2, 3, 4]] K σ w1 := by
  refine ⟨fun D σ w => IB ko kw kf f acc (.slice oo acc.length oc) w0 w1 (D 0) (D 1) (D 2) (D 3) (D 4) (D 5) (D 6) (D 7) (σ 1) (σ 2) (σ 3) (σ 14) (σ 15) (σ 16) (σ 17) (σ 18) (σ 19) w, ?_, ?_, ?_⟩
  · intro w' hl
    exact ⟨⟨e1, e2, e3⟩, .inl ⟨rfl, rfl, rfl, rfl, hl, (fun h => by cases h), (fun h => by cases h), (fun h => by cases h), (fun h => by cases h)⟩⟩
  · intro D σ1 w2 j o hcl hI hoj hDj hwt
    obtain ⟨⟨g1, g2, g3⟩, hI⟩ := hI
    match j, hoj with
    | 0, hoj =>
      obtain rfl := Option.some.inj hoj
      rcases hI with ⟨d4, d5, d6, d7, l2, k0, k1, k2, k3⟩ | ⟨q0, _⟩
      · have bo := (Bo.chg (Chg.of_later (ks := []) l2) (by simp)).cell 0
        repeat' (first | (simp (disch := omega) only [push_cast, ↓reduceIte, zA, zG, zB, zH, zI, zC, zJ, zK, zL, zD, zE, zF, zM, zN, zO, zP, zQ, reduceCtorEq, not_true_eq_false, not_false_eq_true, g1, bo]) | (first | refine iE ?_ ?_ | refine iD ?_ ?_ | refine iQ ?_ ?_ | refine iV ?_ ?_) <;> intro _ | refine And.intro (by omega) ?_ | refine drawn_q ?_ | fail)
        exact ⟨⟨rfl, g2, g3⟩, .inl ⟨d4, d5, d6, d7, l2, fun _ => rfl, k1, k2, k3⟩⟩
      · rw [q0] at hDj; cases hDj
    | 1, hoj =>
      obtain rfl := Option.some.inj hoj
      rcases hI with ⟨d4, d5, d6, d7, l2, k0, k1, k2, k3⟩ | ⟨_, q0, _⟩
      · have f2 : cellsAt w2 ⟨kf, 0, none⟩ 4 = some (ftC f) := Blk.cellsAt (l := ftC f) (ftLater B1 l2)
        repeat' (first | (simp (disch := omega) only [push_cast, ↓reduceIte, zA, zG, zB, zH, zI, zC, zJ, zK, zL, zD, zE, zF, zM, zN, zO, zP, zQ, reduceCtorEq, not_true_eq_false, not_false_eq_true, g3, f2]) | (first | refine iE ?_ ?_ | refine iD ?_ ?_ | refine iQ ?_ ?_ | refine iV ?_ ?_) <;> intro _ | refine And.intro (by omega) ?_ | refine drawn_q ?_ | fail)
        exact ⟨⟨g1, g2, rfl⟩, .inl ⟨d4, d5, d6, d7, l2, k0, fun _ => rfl, k2, k3⟩⟩
      · rw [q0] at hDj; cases hDj
    | 2, hoj =>
      obtain rfl := Option.some.inj hoj
      rcases hI with ⟨d4, d5, d6, d7, l2, k0, k1, k2, k3⟩ | ⟨_, _, q0, _⟩
      · have h14 := k0 (waits_at' hwt rfl (by simp))
        repeat' (first | (simp (disch := omega) only [push_cast, ↓reduceIte, zA, zG, zB, zH, zI, zC, zJ, zK, zL, zD, zE, zF, zM, zN, zO, zP, zQ, reduceCtorEq, not_true_eq_false, not_false_eq_true, h14]) | (first | refine iE ?_ ?_ | refine iD ?_ ?_ | refine iQ ?_ ?_ | refine iV ?_ ?_) <;> intro _ | refine And.intro (by omega) ?_ | refine drawn_q ?_ | fail)
        exact ⟨⟨g1, g2, g3⟩, .inl ⟨d4, d5, d6, d7, l2, fun _ => rfl, k1, fun _ => rfl, k3⟩⟩
      · rw [q0] at hDj; cases hDj
    | 3, hoj =>
      obtain rfl := Option.some.inj hoj
      rcases hI with ⟨d4, d5, d6, d7, l2, k0, k1, k2, k3⟩ | ⟨_, _, _, q0, _⟩
      · repeat' (first | (simp (disch := omega) only [push_cast, ↓reduceIte, zA, zG, zB, zH, zI, zC, zJ, zK, zL, zD, zE, zF, zM, zN, zO, zP, zQ, reduceCtorEq, not_true_eq_false, not_false_eq_true]) | (first | refine iE ?_ ?_ | refine iD ?_ ?_ | refine iQ ?_ ?_ | refine iV ?_ ?_) <;> intro _ | refine And.intro (by omega) ?_ | refine drawn_q ?_ | fail)
        exact ⟨⟨g1, g2, g3⟩, .inl ⟨d4, d5, d6, d7, l2.trans (later_alloc _ _), k0, k1, k2, fun _ => ⟨_, rfl, Blk.new _ _ _⟩⟩⟩
      · rw [q0] at hDj; cases hDj
    | 4, hoj =>
      obtain rfl := Option.some.inj hoj
      rcases hI with ⟨d4, d5, d6, d7, l2, k0, k1, k2, k3⟩ | ⟨_, _, _, _, q0, _⟩
      · have D0 := waits_at' hwt rfl (i := 0) (by simp)
        have D1 := waits_at' hwt rfl (i := 1) (by simp)
        have D2 := waits_at' hwt rfl (i := 2) (by simp)
        have D3 := waits_at' hwt rfl (i := 3) (by simp)
        have h14 := k0 D0
        have h15 := k1 D1
        have h16 := k2 D2
        obtain ⟨b, h17, Bb⟩ := k3 D3
        have ho2 := ho.later l2
        repeat' (first | (simp (disch := omega) only [push_cast, ↓reduceIte, zA, zG, zB, zH, zI, zC, zJ, zK, zL, zD, zE, zF, zM, zN, zO, zP, zQ, reduceCtorEq, not_true_eq_false, not_false_eq_true, h14, h17]) | (first | refine iE ?_ ?_ | refine iD ?_ ?_ | refine iQ ?_ ?_ | refine iV ?_ ?_) <;> intro _ | refine And.intro (by omega) ?_ | refine drawn_q ?_ | fail)
        refine vAppend_at Try.underlying37 ti39 rfl (by decide) ho2 (RecS.lit1 (enc := ftC) (k := 4) (y := zeroF) rfl Bb) (by decide) (by unfold maxLen; simp only [List.length_cons, List.length_nil]; omega) (by simp only [List.length_cons, List.length_nil]; omega) (Nat.le_trans l01.size l2.size) ?_
        intro v' w' ho' hg hs
        obtain ⟨g, c, rfl⟩ := own_succ ho'
        have hgk : g ≠ kf := by
          rcases hs with h | h
          · have := hbig g (by rw [← h]; rfl)
            omega
          · have h : some g = some w2.heap.size := h
            have := Option.some.inj h
            have := l2.size
            omega
        have Bw2 := Bw.chg (Chg.of_later (ks := []) l2) (by simp)
        have Bo2 := Bo.chg (Chg.of_later (ks := []) l2) (by simp)
        have hB2 := grown_not hg (ftLater B1 l2) (fun h => by have := hbig kf h; omega)
        repeat' (first | (simp (disch := omega) only [push_cast, ↓reduceIte, zA, zG, zB, zH, zI, zC, zJ, zK, zL, zD, zE, zF, zM, zN, zO, zP, zQ, reduceCtorEq, not_true_eq_false, not_false_eq_true]) | (first | refine iE ?_ ?_ | refine iD ?_ ?_ | refine iQ ?_ ?_ | refine iV ?_ ?_) <;> intro _ | refine And.intro (by omega) ?_ | refine drawn_q ?_ | fail)
        refine ⟨⟨g1, g2, g3⟩, .inr ⟨D0, D1, D2, D3, rfl, h15, h16, (l01.trans l2).appended ho2 (Nat.le_refl _) hg, hB2, grown_ne ho2 hg Bw2 (by decide), g, c, hgk, rfl, ?_, ?_, ?_⟩⟩
        · show OwnR ftC 4 w' w0.heap.size 39 _ (acc ++ [if D 6 = true then f else zeroF])
          rw [d6]
          unfold OwnR
          simpa using ho'
        · intro h
          have h : D 5 = true := h
          rw [d5] at h; cases h
        · show Blk w' ko #[if D 7 = true then _ else _] _
          rw [d7]
          exact grown_ne ho2 hg Bo2 (by decide)
      · rw [q0] at hDj; cases hDj
    | 5, hoj =>
      obtain rfl := Option.some.inj hoj
      have D4 := waits_at' hwt rfl (i := 4) (by simp)
      rcases hI with ⟨d4, _⟩ | ⟨q0, q1, q2, q3, q4, h15, h16, hl, hB, hw, g, c, hgk, h18, hO, h19, hBo⟩
      · rw [d4] at D4; cases D4
      · have t1 : ((acc.length : Int)).toNat = acc.length := Int.toNat_natCast _
        repeat' (first | (simp (disch := omega) only [push_cast, ↓reduceIte, zA, zG, zB, zH, zI, zC, zJ, zK, zL, zD, zE, zF, zM, zN, zO, zP, zQ, reduceCtorEq, not_true_eq_false, not_false_eq_true, h18, h16, t1, addr_add_eq, Nat.zero_add]) | (first | refine iE ?_ ?_ | refine iD ?_ ?_ | refine iQ ?_ ?_ | refine iV ?_ ?_) <;> intro _ | refine And.intro (by omega) ?_ | refine drawn_q ?_ | fail)
        exact ⟨⟨g1, g2, g3⟩, .inr ⟨q0, q1, q2, q3, q4, h15, rfl, hl, hB, hw, g, c, hgk, rfl, hO, fun _ => rfl, hBo⟩⟩
    | 6, hoj =>
      obtain rfl := Option.some.inj hoj
      have D5 := waits_at' hwt rfl (i := 5) (by simp)
      rcases hI with ⟨d4, d5, _⟩ | ⟨q0, q1, q2, q3, q4, h15, h16, hl, hB, hw, g, c, hgk, h18, hO, h19, hBo⟩
      · rw [d5] at D5; cases D5
      · have h19' := h19 D5
        rw [hDj] at hO
        obtain ⟨g', hg', hgB, ⟨cs, hb⟩, hcan, ho8, hc8⟩ := OwnR.set ftC_len hO (i := acc.length) (by simp) f
        obtain rfl : g = g' := congrArg Addr.block hg'
        rw [addr_add_eq, Nat.zero_add] at hcan ho8 hc8
        repeat' (first | (simp (disch := omega) only [push_cast, ↓reduceIte, zA, zG, zB, zH, zI, zC, zJ, zK, zL, zD, zE, zF, zM, zN, zO, zP, zQ, reduceCtorEq, not_true_eq_false, not_false_eq_true, h19', h15]) | (first | refine iE ?_ ?_ | refine iD ?_ ?_ | refine iQ ?_ ?_ | refine iV ?_ ?_) <;> intro _ | refine And.intro (by omega) ?_ | refine drawn_q ?_ | fail)
        refine ⟨rfl, fun u hu => ftC_one hf u (by simpa [Value.cells] using hu), hcan, ?_⟩
        have ex : (Value.agg (ftC f).toArray).cells.toList = ftC f := rfl
        rw [ex]
        have hset : (acc ++ [if (false : Bool) = true then f else zeroF]).set acc.length f = acc ++ [f] := by simp
        rw [hset] at ho8
        generalize storeAll w2 ⟨g, acc.length * 4, none⟩ (ftC f) = w8 at *
        have n1 := blk_ne hBo hb (by decide)
        have n2 := blk_ne hw hb (by decide)
        repeat' (first | (simp (disch := omega) only [push_cast, ↓reduceIte, zA, zG, zB, zH, zI, zC, zJ, zK, zL, zD, zE, zF, zM, zN, zO, zP, zQ, reduceCtorEq, not_true_eq_false, not_false_eq_true]) | (first | refine iE ?_ ?_ | refine iD ?_ ?_ | refine iQ ?_ ?_ | refine iV ?_ ?_) <;> intro _ | refine And.intro (by omega) ?_ | refine drawn_q ?_ | fail)
        refine ⟨⟨g1, g2, g3⟩, .inr ⟨q0, q1, q2, q3, q4, ?_, h16, Chg.later hl hc8 (by intro j hj; rw [List.mem_singleton.1 hj]; exact hgB), hB.chg hc8 (by simpa using Ne.symm hgk), hw.chg hc8 (by simpa using n2), g, c, hgk, h18, ?_, h19, hBo.chg hc8 (by simpa using n1)⟩⟩
        · first | exact h15 | rfl
        · exact ho8
    | 7, hoj =>
      obtain rfl := Option.some.inj hoj
      have D4 := waits_at' hwt rfl (i := 4) (by simp)
      rcases hI with ⟨d4, _⟩ | ⟨q0, q1, q2, q3, q4, h15, h16, hl, hB, hw, g, c, hgk, h18, hO, h19, hBo⟩
      · rw [d4] at D4; cases D4
      · rw [hDj] at hBo
        have hcell : w2.cell? ⟨ko, 0, none⟩ = some (.slice oo acc.length oc) := hBo.cell 0
        have hfz := hBo.frozen 0
        have n1 := blk_ne hB hBo (by decide)
        have n2 := blk_ne hw hBo (by decide)
        have hc8 : Chg w2 (w2.setCell ⟨ko, 0, none⟩ (.slice (some ⟨g, 0, none⟩) (acc.length + 1) c)) [ko] := chg_setCell w2 (by simp) _
        have hBo8 : Blk (w2.setCell ⟨ko, 0, none⟩ (.slice (some ⟨g, 0, none⟩) (acc.length + 1) c)) ko #[.slice (some ⟨g, 0, none⟩) (acc.length + 1) c] 37 := hBo.set 0 _
        have hO8 := own_chg_ty hO hBo (by decide) hc8
        repeat' (first | (simp (disch := omega) only [push_cast, ↓reduceIte, zA, zG, zB, zH, zI, zC, zJ, zK, zL, zD, zE, zF, zM, zN, zO, zP, zQ, reduceCtorEq, not_true_eq_false, not_false_eq_true, g1, h18, hcell, hfz]) | (first | refine iE ?_ ?_ | refine iD ?_ ?_ | refine iQ ?_ ?_ | refine iV ?_ ?_) <;> intro _ | refine And.intro (by omega) ?_ | refine drawn_q ?_ | fail)
        generalize w2.setCell ⟨ko, 0, none⟩ (.slice (some ⟨g, 0, none⟩) (acc.length + 1) c) = w8 at *
        refine ⟨⟨rfl, g2, g3⟩, .inr ⟨q0, q1, q2, q3, q4, h15, h16, Chg.later hl hc8 (by intro j hj; rw [List.mem_singleton.1 hj]; exact hko), hB.chg hc8 (by simpa using n1), hw.chg hc8 (by simpa using n2), g, c, hgk, ?_, hO8, h19, hBo8⟩⟩
        first | exact h18 | rfl
    | n + 8, hoj => exact absurd hoj (by simp [r149_2])
  · intro D σ1 w2 hI hall
    obtain ⟨⟨g1, g2, g3⟩, hI⟩ := hI
    have hall : ∀ j, j < 8 → D j = true := hall
    rcases hI with ⟨d4, _⟩ | ⟨q0, q1, q2, q3, q4, h15, h16, hl, hB, hw, g, c, hgk, h18, hO, h19, hBo⟩
    · rw [hall 4 (by decide)] at d4; cases d4
    · rw [hall 6 (by decide)] at hO
      rw [hall 7 (by decide)] at hBo
      exact hK σ1 w2 g2 g3 hB ⟨hl, hko, hkw, ⟨_, hBo, hO⟩, hw⟩
set_option maxHeartbeats 4000000 in
theorem walk_c {w0 : World} {ko kw : Nat} : ∀ (f : FT) (acc : List FT) (w : World), f.Ok w0 → WSt w0 ko kw w acc → acc.length + f.cnt ≤ 100000000 → FnC Try.prog 149 #[.agg (ftC f).toArray, pt ko, pt kw] w fun _ w' => WSt w0 ko kw w' (acc ++ f.conds) := by
  intro f
  induction f using FT.ind with
  | h f ih =>
  intro acc w hf hW hcn
  obtain ⟨l0, hko, hkw, ⟨ov, Bo, ho⟩, Bw⟩ := hW
  obtain ⟨oo, oc, rfl, _⟩ := RecS.slice (OwnR.s ho)
  obtain ⟨h1, h2, h3, h4, h5⟩ := FT.ok_iff.1 hf
  obtain ⟨o, c, hkv, hc1, hc2⟩ := RecS.slice h4
  refine enter149 _ _ _ ?_
  unfold B149
  have eca : (Value.agg (ftC f).toArray).cells = (ftC f).toArray := rfl
  obtain ⟨l1, s1, B1⟩ := ftBox w f
  have hbig : ∀ k, (Value.slice oo acc.length oc).ownBlock = some k → k < w.heap.size := fun k hk => (World.ownsRow.lt ho k hk).2
  repeat' (first | (simp (disch := omega) only [push_cast, ↓reduceIte, zA, zG, zB, zH, zI, zC, zJ, zK, zL, zD, zE, zF, zM, zN, zO, zP, zQ, reduceCtorEq, not_true_eq_false, not_false_eq_true, eca]) | (first | refine iE ?_ ?_ | refine iD ?_ ?_ | refine iQ ?_ ?_ | refine iV ?_ ?_) <;> intro _ | refine And.intro (by omega) ?_ | fail)
  have Bo := Bo.alloc (.cells (ftC f).toArray 39)
  have Bw := Bw.alloc (.cells (ftC f).toArray 39)
  have ho := ho.alloc (.cells (ftC f).toArray 39)
  generalize w.alloc (.cells (ftC f).toArray 39) = w1 at *
  generalize hkf : w.heap.size = kf at *
  obtain ⟨a0, a1, a2, a3⟩ := ftAt B1
  have l01 := l0.trans l1
  -- the loop over the kids
  have loop : ∀ (σ1 : Env) (w2 : World) (acc2 : List FT), σ1 2 = pt kw → σ1 21 = f.kv → σ1 22 = .int .i64 (f.kids.length : Int) → σ1 23 = .int .i64 0 → WSt w0 ko kw w2 acc2 → acc2.length + (f.kids.map FT.cnt).sum ≤ 100000000 → acc2 ++ f.kids.flatMap FT.conds = acc ++ f.conds →
      vc Try.prog (VC.loop ((VC.region r149_4).seq ((VC.cond (Operand.tmp 24) VC.skip (VC.exit 0)).seq ((VC.block 1 ((VC.region r149_5).seq (VC.region r149_6))).seq (VC.region r149_7))))) (inBlk 0 (retK Try.prog #[] fun _ w' => WSt w0 ko kw w' (acc ++ f.conds))) [] σ1 w2 := by
    intro σ1 w2 acc2 e2 e21 e22 e23 hW2 hcn2 hac
    have hkc := FT.cnt_kids f
    refine vc_loop W149_0 (fun i : Nat => [(23, .int .i64 (i : Int))]) (fun i w' => i ≤ f.kids.length ∧ WSt w0 ko kw w' (acc2 ++ (f.kids.take i).flatMap FT.conds)) (fun i => f.kids.length - i) 0 (by decide) ?_ ?_ ?_
    · simp (disch := omega) only [push_cast, ↓reduceIte, zA, zG, zB, zH, zI, zC, zJ, zK, zL, zD, zE, zF, zM, zN, zO, zP, zQ, reduceCtorEq, not_true_eq_false, not_false_eq_true, e23]
      try rfl
    · exact ⟨Nat.zero_le _, by simpa using hW2⟩
    rintro i uu w3 ⟨hi, hW3⟩
    by_cases hik : i < f.kids.length
    · have hd2 : decide ((i : Int) < (f.kids.length : Int)) = true := decide_eq_true (by omega)
      have h4' := h4
      rw [hkv] at h4' e21
      obtain ⟨a, rfl, fa⟩ := RecS.at ftC_len (h4'.later hW3.l) hik
      have hk := h5 _ (List.getElem_mem hik)
      have hb := hW3.fn.cell 0
      have hstep : (f.kids.take (i + 1)).flatMap FT.conds = (f.kids.take i).flatMap FT.conds ++ (f.kids[i]).conds := by
        rw [List.take_succ_eq_append_getElem hik, List.flatMap_append]; simp
      have hlen : ((f.kids.take i).flatMap FT.conds).length + (f.kids[i]).cnt ≤ (f.kids.map FT.cnt).sum := by
        have e : f.kids = f.kids.take i ++ f.kids[i] :: f.kids.drop (i + 1) := by rw [List.getElem_cons_drop, List.take_append_drop]
        have e3 : (f.kids.map FT.cnt).sum = ((f.kids.take i).map FT.cnt).sum + ((f.kids[i]).cnt + ((f.kids.drop (i + 1)).map FT.cnt).sum) := by
          rw [← List.sum_cons, ← List.map_cons, ← List.sum_append, ← List.map_append, ← e]
        have aux : ∀ l : List FT, (l.flatMap FT.conds).length ≤ (l.map FT.cnt).sum := by
          intro l
          induction l with
          | nil => simp
          | cons k l ih => rw [List.flatMap_cons, List.length_append, List.map_cons, List.sum_cons]; have := FT.conds_cnt k; omega
        have := aux (f.kids.take i)
        omega
      have hkm := List.getElem_mem hik
      generalize f.kids[i] = kid at *
      repeat' (first | (simp (disch := omega) only [push_cast, ↓reduceIte, zA, zG, zB, zH, zI, zC, zJ, zK, zL, zD, zE, zF, zM, zN, zO, zP, zQ, reduceCtorEq, not_true_eq_false, not_false_eq_true, e2, e21, e22, hd2, fa, addr_add_eq, Nat.zero_add]) | (first | refine iE ?_ ?_ | refine iD ?_ ?_ | refine iQ ?_ ?_ | refine iV ?_ ?_) <;> intro _ | refine And.intro (by omega) ?_ | refine drawn_q ?_ | fail)
      refine vStore_new rfl rfl (fun u hu => ftC_one hk u (by simpa using hu)) ?_
      have l3 := later_alloc w3 (.cells (ftC kid).toArray 39)
      have B3 := Blk.new w3 (ftC kid).toArray 39
      have hW4 : WSt w0 ko kw (w3.alloc (.cells (ftC kid).toArray 39)) (acc2 ++ (f.kids.take i).flatMap FT.conds) := by
        obtain ⟨q1, q2, q3, ⟨x, q4, q5⟩, q6⟩ := hW3
        exact ⟨q1.trans l3, q2, q3, ⟨x, q4.alloc _, q5.alloc _⟩, q6.alloc _⟩
      generalize w3.alloc (.cells (ftC kid).toArray 39) = w4 at *
      generalize w3.heap.size = k3 at *
      have f4 : cellsAt w4 ⟨k3, 0, none⟩ 4 = some (ftC kid) := Blk.cellsAt (l := ftC kid) B3
      have hb : w4.cell? ⟨kw, 0, none⟩ = some (.func (.func 149) #[] #[pt ko, pt kw]) := hW4.fn.cell 0
      repeat' (first | (simp (disch := omega) only [push_cast, ↓reduceIte, zA, zG, zB, zH, zI, zC, zJ, zK, zL, zD, zE, zF, zM, zN, zO, zP, zQ, reduceCtorEq, not_true_eq_false, not_false_eq_true, e2, f4, hb, addr_add_eq, Nat.zero_add]) | (first | refine iE ?_ ?_ | refine iD ?_ ?_ | refine iQ ?_ ?_ | refine iV ?_ ?_) <;> intro _ | refine And.intro (by omega) ?_ | refine drawn_q ?_ | fail)
      refine (ih kid hkm (acc2 ++ (f.kids.take i).flatMap FT.conds) w4 hk hW4 (by rw [List.length_append]; omega)).mono ?_
      intro v5 w5 hW5
      repeat' (first | (simp (disch := omega) only [push_cast, ↓reduceIte, zA, zG, zB, zH, zI, zC, zJ, zK, zL, zD, zE, zF, zM, zN, zO, zP, zQ, reduceCtorEq, not_true_eq_false, not_false_eq_true]) | (first | refine iE ?_ ?_ | refine iD ?_ ?_ | refine iQ ?_ ?_ | refine iV ?_ ?_) <;> intro _ | refine And.intro (by omega) ?_ | refine drawn_q ?_ | fail)
      refine ⟨rfl, i + 1, by simp (disch := omega) only [push_cast, ↓reduceIte, zA, zG, zB, zH, zI, zC, zJ, zK, zL, zD, zE, zF, zM, zN, zO, zP, zQ, reduceCtorEq, not_true_eq_false, not_false_eq_true], ⟨by omega, ?_⟩, by dsimp only; omega⟩
      rw [hstep, ← List.append_assoc]
      exact hW5
    · have hdm : i = f.kids.length := by omega
      subst hdm
      have hd2 : decide (((f.kids.length : Nat) : Int) < (f.kids.length : Int)) = false := decide_eq_false (by omega)
      rw [List.take_length, hac] at hW3
      repeat' (first | (simp (disch := omega) only [push_cast, ↓reduceIte, zA, zG, zB, zH, zI, zC, zJ, zK, zL, zD, zE, zF, zM, zN, zO, zP, zQ, reduceCtorEq, not_true_eq_false, not_false_eq_true, e2, e21, e22, hd2]) | (first | refine iE ?_ ?_ | refine iD ?_ ?_ | refine iQ ?_ ?_ | refine iV ?_ ?_) <;> intro _ | refine And.intro (by omega) ?_ | refine drawn_q ?_ | fail)
      all_goals first | exact hW3 | trace_state
  have hkc := FT.cnt_kids f
  by_cases hop : f.op = 1 ∨ f.op = 2
  · have hcd : acc ++ [f] ++ f.kids.flatMap FT.conds = acc ++ f.conds := by rw [FT.conds_is, if_pos hop, List.append_assoc]
    have hkl : kf < w1.heap.size := by omega
    have hcl : acc.length ≤ 100000000 := by omega
    have cont : ∀ (σ1 : Env) (w2 : World), σ1 2 = pt kw → σ1 3 = pt kf → Blk w2 kf (ftC f).toArray 39 → WSt w0 ko kw w2 (acc ++ [f]) →
        vc Try.prog ((VC.region r149_3).seq (VC.block 0 (VC.loop ((VC.region r149_4).seq ((VC.cond (Operand.tmp 24) VC.skip (VC.exit 0)).seq ((VC.block 1 ((VC.region r149_5).seq (VC.region r149_6))).seq (VC.region r149_7))))))) (retK Try.prog #[] fun _ w' => WSt w0 ko kw w' (acc ++ f.conds)) [] σ1 w2 := by
      intro σ1 w2 g2 g3 hB hW
      obtain ⟨_, _, _, b3⟩ := ftAt hB
      rw [hkv] at b3
      repeat' (first | (simp (disch := omega) only [push_cast, ↓reduceIte, zA, zG, zB, zH, zI, zC, zJ, zK, zL, zD, zE, zF, zM, zN, zO, zP, zQ, reduceCtorEq, not_true_eq_false, not_false_eq_true, g3, b3, addr_add_eq, Nat.zero_add]) | (first | refine iE ?_ ?_ | refine iD ?_ ?_ | refine iQ ?_ ?_ | refine iV ?_ ?_) <;> intro _ | refine And.intro (by omega) ?_ | refine drawn_q ?_ | fail)
      refine loop _ _ (acc ++ [f]) (by simp (disch := omega) only [push_cast, ↓reduceIte, zA, zG, zB, zH, zI, zC, zJ, zK, zL, zD, zE, zF, zM, zN, zO, zP, zQ, reduceCtorEq, not_true_eq_false, not_false_eq_true, g2]) (by simp (disch := omega) only [push_cast, ↓reduceIte, zA, zG, zB, zH, zI, zC, zJ, zK, zL, zD, zE, zF, zM, zN, zO, zP, zQ, reduceCtorEq, not_true_eq_false, not_false_eq_true, hkv]) (by simp (disch := omega) only [push_cast, ↓reduceIte, zA, zG, zB, zH, zI, zC, zJ, zK, zL, zD, zE, zF, zM, zN, zO, zP, zQ, reduceCtorEq, not_true_eq_false, not_false_eq_true]) (by simp (disch := omega) only [push_cast, ↓reduceIte, zA, zG, zB, zH, zI, zC, zJ, zK, zL, zD, zE, zF, zM, zN, zO, zP, zQ, reduceCtorEq, not_true_eq_false, not_false_eq_true]) hW (by rw [List.length_append, List.length_singleton]; omega) hcd
    rcases hop with e1 | e1
    · have d1 : decide (f.op = 1) = true := decide_eq_true e1
      repeat' (first | (simp (disch := omega) only [push_cast, ↓reduceIte, zA, zG, zB, zH, zI, zC, zJ, zK, zL, zD, zE, zF, zM, zN, zO, zP, zQ, reduceCtorEq, not_true_eq_false, not_false_eq_true, a0, d1, addr_add_eq, Nat.zero_add]) | (first | refine iE ?_ ?_ | refine iD ?_ ?_ | refine iQ ?_ ?_ | refine iV ?_ ?_) <;> intro _ | refine And.intro (by omega) ?_ | refine drawn_q ?_ | fail)
      exact Or.inr (reg_c rfl rfl rfl l01 hf hko hkw Bo ho Bw B1 hbig hkl hcl cont)
    · have d1 : decide (f.op = 1) = false := decide_eq_false (by omega)
      have d2 : decide (f.op = 2) = true := decide_eq_true e1
      repeat' (first | (simp (disch := omega) only [push_cast, ↓reduceIte, zA, zG, zB, zH, zI, zC, zJ, zK, zL, zD, zE, zF, zM, zN, zO, zP, zQ, reduceCtorEq, not_true_eq_false, not_false_eq_true, a0, d1, d2, addr_add_eq, Nat.zero_add]) | (first | refine iE ?_ ?_ | refine iD ?_ ?_ | refine iQ ?_ ?_ | refine iV ?_ ?_) <;> intro _ | refine And.intro (by omega) ?_ | refine drawn_q ?_ | fail)
      exact Or.inr (reg_c rfl rfl rfl l01 hf hko hkw Bo ho Bw B1 hbig hkl hcl cont)
  · have hcd : acc ++ f.kids.flatMap FT.conds = acc ++ f.conds := by rw [FT.conds_is, if_neg hop, List.nil_append]
    have d1 : decide (f.op = 1) = false := decide_eq_false (by omega)
    have d2 : decide (f.op = 2) = false := decide_eq_false (by omega)
    rw [hkv] at a3
    repeat' (first | (simp (disch := omega) only [push_cast, ↓reduceIte, zA, zG, zB, zH, zI, zC, zJ, zK, zL, zD, zE, zF, zM, zN, zO, zP, zQ, reduceCtorEq, not_true_eq_false, not_false_eq_true, a0, a3, d1, d2, addr_add_eq, Nat.zero_add]) | (first | refine iE ?_ ?_ | refine iD ?_ ?_ | refine iQ ?_ ?_ | refine iV ?_ ?_) <;> intro _ | refine And.intro (by omega) ?_ | refine drawn_q ?_ | fail)
    exact loop _ _ acc (by simp (disch := omega) only [push_cast, ↓reduceIte, zA, zG, zB, zH, zI, zC, zJ, zK, zL, zD, zE, zF, zM, zN, zO, zP, zQ, reduceCtorEq, not_true_eq_false, not_false_eq_true]) (by simp (disch := omega) only [push_cast, ↓reduceIte, zA, zG, zB, zH, zI, zC, zJ, zK, zL, zD, zE, zF, zM, zN, zO, zP, zQ, reduceCtorEq, not_true_eq_false, not_false_eq_true, hkv]) (by simp (disch := omega) only [push_cast, ↓reduceIte, zA, zG, zB, zH, zI, zC, zJ, zK, zL, zD, zE, zF, zM, zN, zO, zP, zQ, reduceCtorEq, not_true_eq_false, not_false_eq_true]) (by simp (disch := omega) only [push_cast, ↓reduceIte, zA, zG, zB, zH, zI, zC, zJ, zK, zL, zD, zE, zF, zM, zN, zO, zP, zQ, reduceCtorEq, not_true_eq_false, not_false_eq_true]) ⟨l01, hko, hkw, ⟨_, Bo, ho⟩, Bw⟩ (by omega) hcd
end Go.Proofs.Ytnofalhkapmcnaa
end
section
set_option linter.unusedSimpArgs false
namespace Go.Proofs.Ytnofalhkapmcnaa
open Go.Vc Go.Key
set_option maxRecDepth 100000
theorem conditions_c (f : FT) (w : World) (hf : f.Ok w) (hcn : f.cnt ≤ 1000000) : FnC Try.prog 119 #[.agg (ftC f).toArray] w fun v w' => OwnR ftC 4 w' w.heap.size 39 v f.conds ∧ Later w w' := by
  refine enter119 _ ?_
  unfold B119
  have eca : (Value.agg (ftC f).toArray).cells = (ftC f).toArray := rfl
  obtain ⟨l1, s1, B1⟩ := ftBox w f
  repeat' (first | (simp (disch := omega) only [push_cast, ↓reduceIte, zA, zG, zB, zH, zI, zC, zJ, zK, zL, zD, zE, zF, zM, zN, zO, zP, zQ, reduceCtorEq, not_true_eq_false, not_false_eq_true, eca, s1]) | (first | refine iE ?_ ?_ | refine iD ?_ ?_ | refine iQ ?_ ?_ | refine iV ?_ ?_) <;> intro _ | refine And.intro (by omega) ?_ | fail)
  generalize w.alloc (.cells (ftC f).toArray 39) = w1 at *
  have l2 := later_alloc w1 (.cells #[.slice none 0 0] 37)
  have s2 : (w1.alloc (.cells #[.slice none 0 0] 37)).heap.size = w.heap.size + 2 := by rw [World.size_alloc, s1]
  have Bo := Blk.new w1 #[.slice none 0 0] 37
  rw [s1] at Bo
  generalize w1.alloc (.cells #[.slice none 0 0] 37) = w2 at *
  repeat' (first | (simp (disch := omega) only [push_cast, ↓reduceIte, zA, zG, zB, zH, zI, zC, zJ, zK, zL, zD, zE, zF, zM, zN, zO, zP, zQ, reduceCtorEq, not_true_eq_false, not_false_eq_true, s2]) | (first | refine iE ?_ ?_ | refine iD ?_ ?_ | refine iQ ?_ ?_ | refine iV ?_ ?_) <;> intro _ | refine And.intro (by omega) ?_ | fail)
  have l3 := later_alloc w2 (.cells #[.func (.func 149) #[] #[.pointer (some ⟨w.heap.size + 1, 0, none⟩), .pointer (some ⟨w.heap.size + 2, 0, none⟩)]] 178)
  have Bw := Blk.new w2 #[.func (.func 149) #[] #[.pointer (some ⟨w.heap.size + 1, 0, none⟩), .pointer (some ⟨w.heap.size + 2, 0, none⟩)]] 178
  rw [s2] at Bw
  generalize w2.alloc (.cells #[.func (.func 149) #[] #[.pointer (some ⟨w.heap.size + 1, 0, none⟩), .pointer (some ⟨w.heap.size + 2, 0, none⟩)]] 178) = w3 at *
  have l13 := l2.trans l3
  have l03 := l1.trans l13
  have f1 : cellsAt w3 ⟨w.heap.size, 0, none⟩ 4 = some (ftC f) := Blk.cellsAt (l := ftC f) (ftLater B1 l13)
  have Bo3 := Bo.chg (Chg.of_later (ks := []) l3) (by simp)
  have fw : w3.cell? ⟨w.heap.size + 2, 0, none⟩ = some (.func (.func 149) #[] #[.pointer (some ⟨w.heap.size + 1, 0, none⟩), .pointer (some ⟨w.heap.size + 2, 0, none⟩)]) := Bw.cell 0
  repeat' (first | (simp (disch := omega) only [push_cast, ↓reduceIte, zA, zG, zB, zH, zI, zC, zJ, zK, zL, zD, zE, zF, zM, zN, zO, zP, zQ, reduceCtorEq, not_true_eq_false, not_false_eq_true, f1, fw]) | (first | refine iE ?_ ?_ | refine iD ?_ ?_ | refine iQ ?_ ?_ | refine iV ?_ ?_) <;> intro _ | refine And.intro (by omega) ?_ | fail)
  refine (walk_c (w0 := w) (ko := w.heap.size + 1) (kw := w.heap.size + 2) f [] w3 hf ⟨l03, by omega, by omega, ⟨_, Bo3, own_nil _ _ _ _⟩, Bw⟩ (by simp; omega)).mono ?_
  rintro v4 w4 ⟨l4, _, _, ⟨ov, Bo4, ho⟩, _⟩
  have f4 : w4.cell? ⟨w.heap.size + 1, 0, none⟩ = some ov := Bo4.cell 0
  rw [List.nil_append] at ho
  repeat' (first | (simp (disch := omega) only [push_cast, ↓reduceIte, zA, zG, zB, zH, zI, zC, zJ, zK, zL, zD, zE, zF, zM, zN, zO, zP, zQ, reduceCtorEq, not_true_eq_false, not_false_eq_true, f4]) | (first | refine iE ?_ ?_ | refine iD ?_ ?_ | refine iQ ?_ ?_ | refine iV ?_ ?_) <;> intro _ | refine And.intro (by omega) ?_ | refine drawn_q ?_ | fail)
  first | exact ⟨ho, l4⟩ | exact l4
theorem conds_at {f : FT} {w : World} (hf : f.Ok w) {i : Nat} (hi : i < f.conds.length) : (f.conds[i]).Ok w := FT.conds_ok f hf _ (List.getElem_mem hi)
set_option maxHeartbeats 1000000 in
theorem tdims_c (q : QD) (w : World) (hq : q.Ok w) (hcn : q.wh.cnt ≤ 1000000) (hbl : q.bl.length ≤ 1000) : FnC Try.prog 73 #[.agg (qdC q).toArray] w fun v w' => OwnS w' w.heap.size v (q.bl ++ q.wh.dims) ∧ Later w w' := by
  refine enter73 _ ?_
  unfold B73
  have eca : (Value.agg (qdC q).toArray).cells = (qdC q).toArray := rfl
  have B1 := Blk.new w (qdC q).toArray 42
  have l1 := later_alloc w (.cells (qdC q).toArray 42)
  repeat' (first | (simp (disch := omega) only [push_cast, ↓reduceIte, zA, zG, zB, zH, zI, zC, zJ, zK, zL, zD, zE, zF, zM, zN, zO, zP, zQ, reduceCtorEq, not_true_eq_false, not_false_eq_true, eca]) | (first | refine iE ?_ ?_ | refine iD ?_ ?_ | refine iQ ?_ ?_ | refine iV ?_ ?_) <;> intro _ | refine And.intro (by omega) ?_ | fail)
  generalize w.alloc (.cells (qdC q).toArray 42) = w1 at *
  generalize hkf : w.heap.size = kf at *
  have q1 := hq.later l1
  obtain ⟨_, _, _, _, a4, _⟩ := qdAt B1
  repeat' (first | (simp (disch := omega) only [push_cast, ↓reduceIte, zA, zG, zB, zH, zI, zC, zJ, zK, zL, zD, zE, zF, zM, zN, zO, zP, zQ, reduceCtorEq, not_true_eq_false, not_false_eq_true, a4, addr_add_eq, Nat.zero_add]) | (first | refine iE ?_ ?_ | refine iD ?_ ?_ | refine iQ ?_ ?_ | refine iV ?_ ?_) <;> intro _ | refine And.intro (by omega) ?_ | fail)
  refine (sclone_c q.bv q.bl w1 q1.bv (by omega)).mono ?_
  rintro bv w2 ⟨ho2, l2⟩
  obtain ⟨_, _, _, _, _, b5, b6, b7, b8, _⟩ := qdAt (qdLater B1 l2)
  have fw : cellsAt w2 ⟨kf, 5, none⟩ 4 = some (ftC q.wh) := by
    refine cellsAt_of 4 _ _ rfl fun i x hx => ?_
    rw [addr_add_eq]
    match i, hx with
    | 0, hx => cases hx; exact b5
    | 1, hx => cases hx; exact b6
    | 2, hx => cases hx; exact b7
    | 3, hx => cases hx; exact b8
    | n + 4, hx => exact absurd hx (by simp [ftC])
  repeat' (first | (simp (disch := omega) only [push_cast, ↓reduceIte, zA, zG, zB, zH, zI, zC, zJ, zK, zL, zD, zE, zF, zM, zN, zO, zP, zQ, reduceCtorEq, not_true_eq_false, not_false_eq_true, fw, addr_add_eq, Nat.zero_add]) | (first | refine iE ?_ ?_ | refine iD ?_ ?_ | refine iQ ?_ ?_ | refine iV ?_ ?_) <;> intro _ | refine And.intro (by omega) ?_ | fail)
  have l12 := l1.trans l2
  have hwh := hq.wh.later l12
  refine (conditions_c q.wh w2 hwh hcn).mono ?_
  rintro cv w3 ⟨hc3, l3⟩
  have hcl := FT.conds_cnt q.wh
  have hcr := OwnR.s hc3
  obtain ⟨o, c, rfl, hc1, hc2⟩ := RecS.slice hcr
  have hok := fun (i : Nat) (hi : i < q.wh.conds.length) => conds_at q1.wh hi
  have hds := FT.conds_dims q.wh
  generalize q.wh.conds = cs at *
  repeat' (first | (simp (disch := omega) only [push_cast, ↓reduceIte, zA, zG, zB, zH, zI, zC, zJ, zK, zL, zD, zE, zF, zM, zN, zO, zP, zQ, reduceCtorEq, not_true_eq_false, not_false_eq_true]) | (first | refine iE ?_ ?_ | refine iD ?_ ?_ | refine iQ ?_ ?_ | refine iV ?_ ?_) <;> intro _ | refine And.intro (by omega) ?_ | refine drawn_q ?_ | fail)
  refine vc_loop W73_0 (fun p : Nat × Value => [(3, p.2), (13, .int .i64 (p.1 : Int))]) (fun p w' => p.1 ≤ cs.length ∧ Later w1 w' ∧ OwnS w' w1.heap.size p.2 (q.bl ++ (cs.take p.1).map FT.dim) ∧ OwnR ftC 4 w' w2.heap.size 39 (.slice o cs.length c) cs) (fun p => cs.length - p.1) (0, bv) (by decide) ?_ ?_ ?_
  · simp (disch := omega) only [push_cast, ↓reduceIte, zA, zG, zB, zH, zI, zC, zJ, zK, zL, zD, zE, zF, zM, zN, zO, zP, zQ, reduceCtorEq, not_true_eq_false, not_false_eq_true]
    try rfl
  · exact ⟨Nat.zero_le _, l2.trans l3, by simpa using own_later ho2 l3, hc3⟩
  rintro ⟨i, x⟩ uu w4 ⟨hi, l4, ho, hC⟩
  dsimp only at hi ho ⊢
  by_cases hik : i < cs.length
  · have hd2 : decide ((i : Int) < (cs.length : Int)) = true := decide_eq_true (by omega)
    obtain ⟨a, rfl, fa⟩ := RecS.at ftC_len (OwnR.s hC) hik
    have hk := (hok i hik).later l4
    have hst : (cs.take (i + 1)).map FT.dim = (cs.take i).map FT.dim ++ [(cs[i]).dim] := by
      rw [List.take_succ_eq_append_getElem hik, List.map_append]; rfl
    generalize cs[i] = kid at *
    repeat' (first | (simp (disch := omega) only [push_cast, ↓reduceIte, zA, zG, zB, zH, zI, zC, zJ, zK, zL, zD, zE, zF, zM, zN, zO, zP, zQ, reduceCtorEq, not_true_eq_false, not_false_eq_true, hd2, fa, addr_add_eq, Nat.zero_add]) | (first | refine iE ?_ ?_ | refine iD ?_ ?_ | refine iQ ?_ ?_ | refine iV ?_ ?_) <;> intro _ | refine And.intro (by omega) ?_ | refine drawn_q ?_ | fail)
    refine vStore_new rfl rfl (fun u hu => ftC_one hk u (by simpa using hu)) ?_
    have l5 := later_alloc w4 (.cells (ftC kid).toArray 39)
    have B5 := Blk.new w4 (ftC kid).toArray 39
    generalize w4.alloc (.cells (ftC kid).toArray 39) = w5 at *
    generalize w4.heap.size = k4 at *
    obtain ⟨_, c1, _, _⟩ := ftAt B5
    repeat' (first | (simp (disch := omega) only [push_cast, ↓reduceIte, zA, zG, zB, zH, zI, zC, zJ, zK, zL, zD, zE, zF, zM, zN, zO, zP, zQ, reduceCtorEq, not_true_eq_false, not_false_eq_true, c1, addr_add_eq, Nat.zero_add]) | (first | refine iE ?_ ?_ | refine iD ?_ ?_ | refine iQ ?_ ?_ | refine iV ?_ ?_) <;> intro _ | refine And.intro (by omega) ?_ | refine drawn_q ?_ | fail)
    have ho5 := own_later ho l5
    have hll : (q.bl ++ (cs.take i).map FT.dim).length ≤ 2000000 := by
      rw [List.length_append, List.length_map, List.length_take]; omega
    have hC5 := hC.later l5
    have l15 := l4.trans l5
    have l7 := later_alloc w5 (.cells #[.string kid.dim] 9)
    have hx7 := Sl.one w5 (.string kid.dim) 9
    generalize w5.alloc (.cells #[.string kid.dim] 9) = w7 at *
    replace ho5 := own_later ho5 l7
    replace hC5 := hC5.later l7
    replace l15 := l15.trans l7
    have hx7 : SlN w7 1 (.slice (some ⟨w5.heap.size, 0, none⟩) 1 1) 1 [.string kid.dim] := hx7
    refine vAppend_own Try.underlying22 ti9 rfl (by decide) ho5 hx7 (fun u hu => by rw [List.mem_singleton.1 hu]; rfl) (by unfold maxLen; omega) (by omega) l15.size ?_
    intro v' w' ho' hg _
    have l6 : Later w1 w' := l15.appended ho5 (Nat.le_refl _) hg
    have ho6 : OwnS w' w1.heap.size v' (q.bl ++ (cs.take (i + 1)).map FT.dim) := by
      rw [hst, ← List.append_assoc]
      unfold OwnS
      simpa [Nat.add_assoc] using ho'
    have hC6 : OwnR ftC 4 w' w2.heap.size 39 (.slice (some a) cs.length c) cs := own_grown_ty hC5 ho5 (by decide) hg
    repeat' (first | (simp (disch := omega) only [push_cast, ↓reduceIte, zA, zG, zB, zH, zI, zC, zJ, zK, zL, zD, zE, zF, zM, zN, zO, zP, zQ, reduceCtorEq, not_true_eq_false, not_false_eq_true]) | (first | refine iE ?_ ?_ | refine iD ?_ ?_ | refine iQ ?_ ?_ | refine iV ?_ ?_) <;> intro _ | refine And.intro (by omega) ?_ | refine drawn_q ?_ | fail)
    exact ⟨rfl, (i + 1, v'), by simp (disch := omega) only [push_cast, ↓reduceIte, zA, zG, zB, zH, zI, zC, zJ, zK, zL, zD, zE, zF, zM, zN, zO, zP, zQ, reduceCtorEq, not_true_eq_false, not_false_eq_true], ⟨by dsimp only; omega, l6, ho6, hC6⟩, by dsimp only; omega⟩
  have hd2 : decide ((i : Int) < (cs.length : Int)) = false := decide_eq_false (by omega)
  rw [List.take_of_length_le (by omega), hds] at ho
  repeat' (first | (simp (disch := omega) only [push_cast, ↓reduceIte, zA, zG, zB, zH, zI, zC, zJ, zK, zL, zD, zE, zF, zM, zN, zO, zP, zQ, reduceCtorEq, not_true_eq_false, not_false_eq_true, hd2, addr_add_eq, Nat.zero_add]) | (first | refine iE ?_ ?_ | refine iD ?_ ?_ | refine iQ ?_ ?_ | refine iV ?_ ?_) <;> intro _ | refine And.intro (by omega) ?_ | refine drawn_q ?_ | fail)
  have hbs : kf ≤ w1.heap.size := by rw [← hkf]; exact l1.size
  first | exact ⟨(own_base ho hbs), (l1.trans l4)⟩ | exact (l1.trans l4)
theorem used1_c (x : ByteArray) (k : Nat) (v : Value) (l : List ByteArray) (w : World) (hk : w.cell? ⟨k, 0, none⟩ = some v) (h : StS w v l) : FnC Try.prog 76 #[.string x, pt k] w fun r w' => r = .bool (!inL x l) ∧ w' = w := by
  refine enter76 _ _ ?_
  unfold B76
  repeat' (first | (simp (disch := omega) only [push_cast, ↓reduceIte, zA, zG, zB, zH, zI, zC, zJ, zK, zL, zD, zE, zF, zM, zN, zO, zP, zQ, reduceCtorEq, not_true_eq_false, not_false_eq_true, hk]) | (first | refine iE ?_ ?_ | refine iD ?_ ?_ | refine iQ ?_ ?_ | refine iV ?_ ?_) <;> intro _ | refine And.intro (by omega) ?_ | refine drawn_q ?_ | fail)
  refine (scontains_c v l x w h).mono ?_
  rintro _ w0 ⟨rfl, h0⟩; obtain rfl := h0.symm
  repeat' (first | (simp (disch := omega) only [push_cast, ↓reduceIte, zA, zG, zB, zH, zI, zC, zJ, zK, zL, zD, zE, zF, zM, zN, zO, zP, zQ, reduceCtorEq, not_true_eq_false, not_false_eq_true]) | (first | refine iE ?_ ?_ | refine iD ?_ ?_ | refine iQ ?_ ?_ | refine iV ?_ ?_) <;> intro _ | refine And.intro (by omega) ?_ | refine drawn_q ?_ | fail)
theorem tused_c (dv mv : Value) (d m : List ByteArray) (q : QD) (w : World) (h : ScIs w dv mv d m) (hq : q.Ok w) (hcn : q.wh.cnt ≤ 1000000) (hbl : q.bl.length ≤ 1000) (hdl : d.length ≤ 1000) : FnC Try.prog 30 #[scV dv mv, .agg (qdC q).toArray] w fun v w' => StS w' v (usedL d q) ∧ Later w w' := by
  have esc : scV dv mv = .agg #[dv, mv] := rfl
  rw [esc]
  refine enter30 _ _ ?_
  unfold B30
  have eca : (Value.agg (qdC q).toArray).cells = (qdC q).toArray := rfl
  have ecb : (Value.agg #[dv, mv]).cells = #[dv, mv] := rfl
  obtain ⟨l1, s1, F⟩ := box2 w dv mv 24
  have B2 := Blk.new (w.alloc (.cells #[dv, mv] 24)) (qdC q).toArray 42
  have l2 := later_alloc (w.alloc (.cells #[dv, mv] 24)) (.cells (qdC q).toArray 42)
  rw [s1] at B2
  repeat' (first | (simp (disch := omega) only [push_cast, ↓reduceIte, zA, zG, zB, zH, zI, zC, zJ, zK, zL, zD, zE, zF, zM, zN, zO, zP, zQ, reduceCtorEq, not_true_eq_false, not_false_eq_true, eca, ecb, s1]) | (first | refine iE ?_ ?_ | refine iD ?_ ?_ | refine iQ ?_ ?_ | refine iV ?_ ?_) <;> intro _ | refine And.intro (by omega) ?_ | fail)
  have l12 := l1.trans l2
  have FF : ∀ w', Later ((w.alloc (.cells #[dv, mv] 24)).alloc (.cells (qdC q).toArray 42)) w' → w'.cell? ⟨w.heap.size, 0, none⟩ = some dv := fun w' hl => (F w' (l2.trans hl)).1
  clear F
  generalize (w.alloc (.cells #[dv, mv] 24)).alloc (.cells (qdC q).toArray 42) = w1 at *
  generalize hkf : w.heap.size = kf at *
  have h1 := h.later l12
  have q1 := hq.later l12
  have c1 : cellsAt w1 ⟨kf + 1, 0, none⟩ 12 = some (qdC q) := Blk.cellsAt (l := qdC q) B2
  repeat' (first | (simp (disch := omega) only [push_cast, ↓reduceIte, zA, zG, zB, zH, zI, zC, zJ, zK, zL, zD, zE, zF, zM, zN, zO, zP, zQ, reduceCtorEq, not_true_eq_false, not_false_eq_true, c1]) | (first | refine iE ?_ ?_ | refine iD ?_ ?_ | refine iQ ?_ ?_ | refine iV ?_ ?_) <;> intro _ | refine And.intro (by omega) ?_ | fail)
  refine (tdims_c q w1 q1 hcn hbl).mono ?_
  rintro av w2 ⟨ho2, l2⟩
  have hav := OwnS.st ho2
  obtain ⟨ao, ac, hae⟩ := Sl.slice hav
  rw [hae] at hav
  subst hae
  have l3 := later_alloc w2 (.cells #[.slice ao ((q.bl ++ q.wh.dims).map Value.string).length ac] 22)
  repeat' (first | (simp (disch := omega) only [push_cast, ↓reduceIte, zA, zG, zB, zH, zI, zC, zJ, zK, zL, zD, zE, zF, zM, zN, zO, zP, zQ, reduceCtorEq, not_true_eq_false, not_false_eq_true]) | (first | refine iE ?_ ?_ | refine iD ?_ ?_ | refine iQ ?_ ?_ | refine iV ?_ ?_) <;> intro _ | refine And.intro (by omega) ?_ | fail)
  have B3 := Blk.new w2 #[.slice ao ((q.bl ++ q.wh.dims).map Value.string).length ac] 22
  generalize w2.alloc (.cells #[.slice ao ((q.bl ++ q.wh.dims).map Value.string).length ac] 22) = w3 at *
  have l13 := l2.trans l3
  have f3 := FF w3 l13
  repeat' (first | (simp (disch := omega) only [push_cast, ↓reduceIte, zA, zG, zB, zH, zI, zC, zJ, zK, zL, zD, zE, zF, zM, zN, zO, zP, zQ, reduceCtorEq, not_true_eq_false, not_false_eq_true, f3, addr_add_eq, Nat.zero_add]) | (first | refine iE ?_ ?_ | refine iD ?_ ?_ | refine iQ ?_ ?_ | refine iV ?_ ?_) <;> intro _ | refine And.intro (by omega) ?_ | fail)
  have h3 := (h1.later l13).dS
  refine (sclone_c dv d w3 h3 (by omega)).mono ?_
  rintro cv w4 ⟨ho4, l4⟩
  repeat' (first | (simp (disch := omega) only [push_cast, ↓reduceIte, zA, zG, zB, zH, zI, zC, zJ, zK, zL, zD, zE, zF, zM, zN, zO, zP, zQ, reduceCtorEq, not_true_eq_false, not_false_eq_true]) | (first | refine iE ?_ ?_ | refine iD ?_ ?_ | refine iQ ?_ ?_ | refine iV ?_ ?_) <;> intro _ | refine And.intro (by omega) ?_ | fail)
  have hpr : ∀ x ∈ d, Prd Try.prog w3 76 #[pt w2.heap.size] (.string x) (!inL x (q.bl ++ q.wh.dims)) := by
    intro x _ w' hl
    have b := hl.cell (B3.cell 0)
    refine (used1_c x w2.heap.size _ (q.bl ++ q.wh.dims) w' b ((hav.later l3).later hl)).mono ?_
    rintro r w'' ⟨rfl, rfl⟩
    exact ⟨rfl, Later.refl _⟩
  refine (sdelete_c w3.heap.size cv d 76 #[pt w2.heap.size] (fun x => !inL x (q.bl ++ q.wh.dims)) w3 w4 l4 (Nat.le_refl _) ho4 hpr (by omega)).mono ?_
  rintro r w5 ⟨hr, l5⟩
  have hr : StS w5 r (usedL d q) := by
    unfold usedL
    simpa using hr
  repeat' (first | (simp (disch := omega) only [push_cast, ↓reduceIte, zA, zG, zB, zH, zI, zC, zJ, zK, zL, zD, zE, zF, zM, zN, zO, zP, zQ, reduceCtorEq, not_true_eq_false, not_false_eq_true]) | (first | refine iE ?_ ?_ | refine iD ?_ ?_ | refine iQ ?_ ?_ | refine iV ?_ ?_) <;> intro _ | refine And.intro (by omega) ?_ | refine drawn_q ?_ | fail)
  first | exact ⟨hr, (l12.trans (l13.trans l5))⟩ | exact (l12.trans (l13.trans l5))
end Go.Proofs.Ytnofalhkapmcnaa
end
section
set_option linter.unusedSimpArgs false
namespace Go.Proofs.Ytnofalhkapmcnaa
open Go.Vc Go.Key
set_option maxRecDepth 100000
theorem findexF_c (v : Value) (l : List FT) (g : FuncId) (lb : Array Value) (p : FT → Bool) (w : World) (h : RecS ftC 4 w v l) (hp : ∀ x ∈ l, Prd Try.prog w g lb (.agg (ftC x).toArray) (p x)) : FnC Try.prog 129 #[v, .func (.func g) #[] lb] w fun r w' => r = .int .i64 (idxI p l) ∧ Later w w' := by
  obtain ⟨o, c, rfl, g1, g2⟩ := h.slice
  refine enter129 _ _ ?_
  unfold B129
  repeat' (first | (simp (disch := omega) only [push_cast, ↓reduceIte, zA, zG, zB, zH, zI, zC, zJ, zK, zL, zD, zE, zF, zM, zN, zO, zP, zQ, reduceCtorEq, not_true_eq_false, not_false_eq_true]) | (first | refine iE ?_ ?_ | refine iD ?_ ?_ | refine iQ ?_ ?_ | refine iV ?_ ?_) <;> intro _ | refine And.intro (by omega) ?_ | refine drawn_q ?_ | fail)
  refine vc_loop W129_0 (fun i : Nat => [(8, .int .i64 (i : Int))]) (fun i w' => i ≤ l.length ∧ Later w w' ∧ (l.take i).any p = false) (fun i => l.length - i) 0 (by decide) ?_ ?_ ?_
  · simp (disch := omega) only [push_cast, ↓reduceIte, zA, zG, zB, zH, zI, zC, zJ, zK, zL, zD, zE, zF, zM, zN, zO, zP, zQ, reduceCtorEq, not_true_eq_false, not_false_eq_true]
    try rfl
  · exact ⟨Nat.zero_le _, Later.refl _, by simp⟩
  rintro i uu w1 ⟨hi, l1, hno⟩
  by_cases hil : i < l.length
  · have hd : decide ((i : Int) < (l.length : Int)) = true := decide_eq_true (by omega)
    obtain ⟨a, rfl, c0⟩ := RecS.at ftC_len (h.later l1) hil
    repeat' (first | (simp (disch := omega) only [push_cast, ↓reduceIte, zA, zG, zB, zH, zI, zC, zJ, zK, zL, zD, zE, zF, zM, zN, zO, zP, zQ, reduceCtorEq, not_true_eq_false, not_false_eq_true, hd, c0]) | (first | refine iE ?_ ?_ | refine iD ?_ ?_ | refine iQ ?_ ?_ | refine iV ?_ ?_) <;> intro _ | refine And.intro (by omega) ?_ | refine drawn_q ?_ | fail)
    refine (hp l[i] (List.getElem_mem hil) w1 l1).mono ?_
    rintro _ w2 ⟨rfl, l2⟩
    cases hx : p l[i] with
    | true =>
      rw [idxI_hit hil hx hno]
      repeat' (first | (simp (disch := omega) only [push_cast, ↓reduceIte, zA, zG, zB, zH, zI, zC, zJ, zK, zL, zD, zE, zF, zM, zN, zO, zP, zQ, reduceCtorEq, not_true_eq_false, not_false_eq_true]) | (first | refine iE ?_ ?_ | refine iD ?_ ?_ | refine iQ ?_ ?_ | refine iV ?_ ?_) <;> intro _ | refine And.intro (by omega) ?_ | refine drawn_q ?_ | fail)
      first | exact ⟨rfl, (l1.trans l2)⟩ | exact (l1.trans l2)
    | false =>
      repeat' (first | (simp (disch := omega) only [push_cast, ↓reduceIte, zA, zG, zB, zH, zI, zC, zJ, zK, zL, zD, zE, zF, zM, zN, zO, zP, zQ, reduceCtorEq, not_true_eq_false, not_false_eq_true]) | (first | refine iE ?_ ?_ | refine iD ?_ ?_ | refine iQ ?_ ?_ | refine iV ?_ ?_) <;> intro _ | refine And.intro (by omega) ?_ | refine drawn_q ?_ | fail)
      exact ⟨rfl, i + 1, by simp (disch := omega) only [push_cast, ↓reduceIte, zA, zG, zB, zH, zI, zC, zJ, zK, zL, zD, zE, zF, zM, zN, zO, zP, zQ, reduceCtorEq, not_true_eq_false, not_false_eq_true], ⟨by omega, l1.trans l2, any_step hil hx hno⟩, by dsimp only; omega⟩
  · have hd : decide ((i : Int) < (l.length : Int)) = false := decide_eq_false (by omega)
    rw [List.take_of_length_le (by omega)] at hno
    rw [idxI_miss hno]
    repeat' (first | (simp (disch := omega) only [push_cast, ↓reduceIte, zA, zG, zB, zH, zI, zC, zJ, zK, zL, zD, zE, zF, zM, zN, zO, zP, zQ, reduceCtorEq, not_true_eq_false, not_false_eq_true, hd]) | (first | refine iE ?_ ?_ | refine iD ?_ ?_ | refine iQ ?_ ?_ | refine iV ?_ ?_) <;> intro _ | refine And.intro (by omega) ?_ | refine drawn_q ?_ | fail)
    first | exact ⟨rfl, l1⟩ | exact l1
theorem fcontainsF_c (v : Value) (l : List FT) (g : FuncId) (lb : Array Value) (p : FT → Bool) (w : World) (h : RecS ftC 4 w v l) (hp : ∀ x ∈ l, Prd Try.prog w g lb (.agg (ftC x).toArray) (p x)) : FnC Try.prog 96 #[v, .func (.func g) #[] lb] w fun r w' => r = .bool (l.any p) ∧ Later w w' := by
  obtain ⟨o, c, rfl, g1, g2⟩ := h.slice
  refine enter96 _ _ ?_
  unfold B96
  repeat' (first | (simp (disch := omega) only [push_cast, ↓reduceIte, zA, zG, zB, zH, zI, zC, zJ, zK, zL, zD, zE, zF, zM, zN, zO, zP, zQ, reduceCtorEq, not_true_eq_false, not_false_eq_true]) | (first | refine iE ?_ ?_ | refine iD ?_ ?_ | refine iQ ?_ ?_ | refine iV ?_ ?_) <;> intro _ | refine And.intro (by omega) ?_ | refine drawn_q ?_ | fail)
  refine (findexF_c _ l g lb p w h hp).mono ?_
  rintro _ w1 ⟨rfl, l1⟩
  have e := idxI_ge p l
  repeat' (first | (simp (disch := omega) only [push_cast, ↓reduceIte, zA, zG, zB, zH, zI, zC, zJ, zK, zL, zD, zE, zF, zM, zN, zO, zP, zQ, reduceCtorEq, not_true_eq_false, not_false_eq_true, e]) | (first | refine iE ?_ ?_ | refine iD ?_ ?_ | refine iQ ?_ ?_ | refine iV ?_ ?_) <;> intro _ | refine And.intro (by omega) ?_ | refine drawn_q ?_ | fail)
  first | exact ⟨rfl, l1⟩ | exact l1
theorem tindexF_c (v : Value) (l : List TD) (g : FuncId) (lb : Array Value) (p : TD → Bool) (w : World) (h : RecS tdC 2 w v l) (hp : ∀ x ∈ l, Prd Try.prog w g lb (.agg (tdC x).toArray) (p x)) : FnC Try.prog 144 #[v, .func (.func g) #[] lb] w fun r w' => r = .int .i64 (idxI p l) ∧ Later w w' := by
  obtain ⟨o, c, rfl, g1, g2⟩ := h.slice
  refine enter144 _ _ ?_
  unfold B144
  repeat' (first | (simp (disch := omega) only [push_cast, ↓reduceIte, zA, zG, zB, zH, zI, zC, zJ, zK, zL, zD, zE, zF, zM, zN, zO, zP, zQ, reduceCtorEq, not_true_eq_false, not_false_eq_true]) | (first | refine iE ?_ ?_ | refine iD ?_ ?_ | refine iQ ?_ ?_ | refine iV ?_ ?_) <;> intro _ | refine And.intro (by omega) ?_ | refine drawn_q ?_ | fail)
  refine vc_loop W144_0 (fun i : Nat => [(8, .int .i64 (i : Int))]) (fun i w' => i ≤ l.length ∧ Later w w' ∧ (l.take i).any p = false) (fun i => l.length - i) 0 (by decide) ?_ ?_ ?_
  · simp (disch := omega) only [push_cast, ↓reduceIte, zA, zG, zB, zH, zI, zC, zJ, zK, zL, zD, zE, zF, zM, zN, zO, zP, zQ, reduceCtorEq, not_true_eq_false, not_false_eq_true]
    try rfl
  · exact ⟨Nat.zero_le _, Later.refl _, by simp⟩
  rintro i uu w1 ⟨hi, l1, hno⟩
  by_cases hil : i < l.length
  · have hd : decide ((i : Int) < (l.length : Int)) = true := decide_eq_true (by omega)
    obtain ⟨a, rfl, c0⟩ := RecS.at tdC_len (h.later l1) hil
    repeat' (first | (simp (disch := omega) only [push_cast, ↓reduceIte, zA, zG, zB, zH, zI, zC, zJ, zK, zL, zD, zE, zF, zM, zN, zO, zP, zQ, reduceCtorEq, not_true_eq_false, not_false_eq_true, hd, c0]) | (first | refine iE ?_ ?_ | refine iD ?_ ?_ | refine iQ ?_ ?_ | refine iV ?_ ?_) <;> intro _ | refine And.intro (by omega) ?_ | refine drawn_q ?_ | fail)
    refine (hp l[i] (List.getElem_mem hil) w1 l1).mono ?_
    rintro _ w2 ⟨rfl, l2⟩
    cases hx : p l[i] with
    | true =>
      rw [idxI_hit hil hx hno]
      repeat' (first | (simp (disch := omega) only [push_cast, ↓reduceIte, zA, zG, zB, zH, zI, zC, zJ, zK, zL, zD, zE, zF, zM, zN, zO, zP, zQ, reduceCtorEq, not_true_eq_false, not_false_eq_true]) | (first | refine iE ?_ ?_ | refine iD ?_ ?_ | refine iQ ?_ ?_ | refine iV ?_ ?_) <;> intro _ | refine And.intro (by omega) ?_ | refine drawn_q ?_ | fail)
      first | exact ⟨rfl, (l1.trans l2)⟩ | exact (l1.trans l2)
    | false =>
      repeat' (first | (simp (disch := omega) only [push_cast, ↓reduceIte, zA, zG, zB, zH, zI, zC, zJ, zK, zL, zD, zE, zF, zM, zN, zO, zP, zQ, reduceCtorEq, not_true_eq_false, not_false_eq_true]) | (first | refine iE ?_ ?_ | refine iD ?_ ?_ | refine iQ ?_ ?_ | refine iV ?_ ?_) <;> intro _ | refine And.intro (by omega) ?_ | refine drawn_q ?_ | fail)
      exact ⟨rfl, i + 1, by simp (disch := omega) only [push_cast, ↓reduceIte, zA, zG, zB, zH, zI, zC, zJ, zK, zL, zD, zE, zF, zM, zN, zO, zP, zQ, reduceCtorEq, not_true_eq_false, not_false_eq_true], ⟨by omega, l1.trans l2, any_step hil hx hno⟩, by dsimp only; omega⟩
  · have hd : decide ((i : Int) < (l.length : Int)) = false := decide_eq_false (by omega)
    rw [List.take_of_length_le (by omega)] at hno
    rw [idxI_miss hno]
    repeat' (first | (simp (disch := omega) only [push_cast, ↓reduceIte, zA, zG, zB, zH, zI, zC, zJ, zK, zL, zD, zE, zF, zM, zN, zO, zP, zQ, reduceCtorEq, not_true_eq_false, not_false_eq_true, hd]) | (first | refine iE ?_ ?_ | refine iD ?_ ?_ | refine iQ ?_ ?_ | refine iV ?_ ?_) <;> intro _ | refine And.intro (by omega) ?_ | refine drawn_q ?_ | fail)
    first | exact ⟨rfl, l1⟩ | exact l1
theorem tcontainsF_c (v : Value) (l : List TD) (g : FuncId) (lb : Array Value) (p : TD → Bool) (w : World) (h : RecS tdC 2 w v l) (hp : ∀ x ∈ l, Prd Try.prog w g lb (.agg (tdC x).toArray) (p x)) : FnC Try.prog 108 #[v, .func (.func g) #[] lb] w fun r w' => r = .bool (l.any p) ∧ Later w w' := by
  obtain ⟨o, c, rfl, g1, g2⟩ := h.slice
  refine enter108 _ _ ?_
  unfold B108
  repeat' (first | (simp (disch := omega) only [push_cast, ↓reduceIte, zA, zG, zB, zH, zI, zC, zJ, zK, zL, zD, zE, zF, zM, zN, zO, zP, zQ, reduceCtorEq, not_true_eq_false, not_false_eq_true]) | (first | refine iE ?_ ?_ | refine iD ?_ ?_ | refine iQ ?_ ?_ | refine iV ?_ ?_) <;> intro _ | refine And.intro (by omega) ?_ | refine drawn_q ?_ | fail)
  refine (tindexF_c _ l g lb p w h hp).mono ?_
  rintro _ w1 ⟨rfl, l1⟩
  have e := idxI_ge p l
  repeat' (first | (simp (disch := omega) only [push_cast, ↓reduceIte, zA, zG, zB, zH, zI, zC, zJ, zK, zL, zD, zE, zF, zM, zN, zO, zP, zQ, reduceCtorEq, not_true_eq_false, not_false_eq_true, e]) | (first | refine iE ?_ ?_ | refine iD ?_ ?_ | refine iQ ?_ ?_ | refine iV ?_ ?_) <;> intro _ | refine And.intro (by omega) ?_ | refine drawn_q ?_ | fail)
  first | exact ⟨rfl, l1⟩ | exact l1
theorem hindexF_c (v : Value) (l : List HD) (g : FuncId) (lb : Array Value) (p : HD → Bool) (w : World) (h : RecS hdC 4 w v l) (hp : ∀ x ∈ l, Prd Try.prog w g lb (.agg (hdC x).toArray) (p x)) : FnC Try.prog 137 #[v, .func (.func g) #[] lb] w fun r w' => r = .int .i64 (idxI p l) ∧ Later w w' := by
  obtain ⟨o, c, rfl, g1, g2⟩ := h.slice
  refine enter137 _ _ ?_
  unfold B137
  repeat' (first | (simp (disch := omega) only [push_cast, ↓reduceIte, zA, zG, zB, zH, zI, zC, zJ, zK, zL, zD, zE, zF, zM, zN, zO, zP, zQ, reduceCtorEq, not_true_eq_false, not_false_eq_true]) | (first | refine iE ?_ ?_ | refine iD ?_ ?_ | refine iQ ?_ ?_ | refine iV ?_ ?_) <;> intro _ | refine And.intro (by omega) ?_ | refine drawn_q ?_ | fail)
  refine vc_loop W137_0 (fun i : Nat => [(8, .int .i64 (i : Int))]) (fun i w' => i ≤ l.length ∧ Later w w' ∧ (l.take i).any p = false) (fun i => l.length - i) 0 (by decide) ?_ ?_ ?_
  · simp (disch := omega) only [push_cast, ↓reduceIte, zA, zG, zB, zH, zI, zC, zJ, zK, zL, zD, zE, zF, zM, zN, zO, zP, zQ, reduceCtorEq, not_true_eq_false, not_false_eq_true]
    try rfl
  · exact ⟨Nat.zero_le _, Later.refl _, by simp⟩
  rintro i uu w1 ⟨hi, l1, hno⟩
  by_cases hil : i < l.length
  · have hd : decide ((i : Int) < (l.length : Int)) = true := decide_eq_true (by omega)
    obtain ⟨a, rfl, c0⟩ := RecS.at hdC_len (h.later l1) hil
    repeat' (first | (simp (disch := omega) only [push_cast, ↓reduceIte, zA, zG, zB, zH, zI, zC, zJ, zK, zL, zD, zE, zF, zM, zN, zO, zP, zQ, reduceCtorEq, not_true_eq_false, not_false_eq_true, hd, c0]) | (first | refine iE ?_ ?_ | refine iD ?_ ?_ | refine iQ ?_ ?_ | refine iV ?_ ?_) <;> intro _ | refine And.intro (by omega) ?_ | refine drawn_q ?_ | fail)
    refine (hp l[i] (List.getElem_mem hil) w1 l1).mono ?_
    rintro _ w2 ⟨rfl, l2⟩
    cases hx : p l[i] with
    | true =>
      rw [idxI_hit hil hx hno]
      repeat' (first | (simp (disch := omega) only [push_cast, ↓reduceIte, zA, zG, zB, zH, zI, zC, zJ, zK, zL, zD, zE, zF, zM, zN, zO, zP, zQ, reduceCtorEq, not_true_eq_false, not_false_eq_true]) | (first | refine iE ?_ ?_ | refine iD ?_ ?_ | refine iQ ?_ ?_ | refine iV ?_ ?_) <;> intro _ | refine And.intro (by omega) ?_ | refine drawn_q ?_ | fail)
      first | exact ⟨rfl, (l1.trans l2)⟩ | exact (l1.trans l2)
    | false =>
      repeat' (first | (simp (disch := omega) only [push_cast, ↓reduceIte, zA, zG, zB, zH, zI, zC, zJ, zK, zL, zD, zE, zF, zM, zN, zO, zP, zQ, reduceCtorEq, not_true_eq_false, not_false_eq_true]) | (first | refine iE ?_ ?_ | refine iD ?_ ?_ | refine iQ ?_ ?_ | refine iV ?_ ?_) <;> intro _ | refine And.intro (by omega) ?_ | refine drawn_q ?_ | fail)
      exact ⟨rfl, i + 1, by simp (disch := omega) only [push_cast, ↓reduceIte, zA, zG, zB, zH, zI, zC, zJ, zK, zL, zD, zE, zF, zM, zN, zO, zP, zQ, reduceCtorEq, not_true_eq_false, not_false_eq_true], ⟨by omega, l1.trans l2, any_step hil hx hno⟩, by dsimp only; omega⟩
  · have hd : decide ((i : Int) < (l.length : Int)) = false := decide_eq_false (by omega)
    rw [List.take_of_length_le (by omega)] at hno
    rw [idxI_miss hno]
    repeat' (first | (simp (disch := omega) only [push_cast, ↓reduceIte, zA, zG, zB, zH, zI, zC, zJ, zK, zL, zD, zE, zF, zM, zN, zO, zP, zQ, reduceCtorEq, not_true_eq_false, not_false_eq_true, hd]) | (first | refine iE ?_ ?_ | refine iD ?_ ?_ | refine iQ ?_ ?_ | refine iV ?_ ?_) <;> intro _ | refine And.intro (by omega) ?_ | refine drawn_q ?_ | fail)
    first | exact ⟨rfl, l1⟩ | exact l1
theorem hcontainsF_c (v : Value) (l : List HD) (g : FuncId) (lb : Array Value) (p : HD → Bool) (w : World) (h : RecS hdC 4 w v l) (hp : ∀ x ∈ l, Prd Try.prog w g lb (.agg (hdC x).toArray) (p x)) : FnC Try.prog 103 #[v, .func (.func g) #[] lb] w fun r w' => r = .bool (l.any p) ∧ Later w w' := by
  obtain ⟨o, c, rfl, g1, g2⟩ := h.slice
  refine enter103 _ _ ?_
  unfold B103
  repeat' (first | (simp (disch := omega) only [push_cast, ↓reduceIte, zA, zG, zB, zH, zI, zC, zJ, zK, zL, zD, zE, zF, zM, zN, zO, zP, zQ, reduceCtorEq, not_true_eq_false, not_false_eq_true]) | (first | refine iE ?_ ?_ | refine iD ?_ ?_ | refine iQ ?_ ?_ | refine iV ?_ ?_) <;> intro _ | refine And.intro (by omega) ?_ | refine drawn_q ?_ | fail)
  refine (hindexF_c _ l g lb p w h hp).mono ?_
  rintro _ w1 ⟨rfl, l1⟩
  have e := idxI_ge p l
  repeat' (first | (simp (disch := omega) only [push_cast, ↓reduceIte, zA, zG, zB, zH, zI, zC, zJ, zK, zL, zD, zE, zF, zM, zN, zO, zP, zQ, reduceCtorEq, not_true_eq_false, not_false_eq_true, e]) | (first | refine iE ?_ ?_ | refine iD ?_ ?_ | refine iQ ?_ ?_ | refine iV ?_ ?_) <;> intro _ | refine And.intro (by omega) ?_ | refine drawn_q ?_ | fail)
  first | exact ⟨rfl, l1⟩ | exact l1
end Go.Proofs.Ytnofalhkapmcnaa
end
section
set_option linter.unusedSimpArgs false
namespace Go.Proofs.Ytnofalhkapmcnaa
open Go.Vc Go.Key
set_option maxRecDepth 100000
theorem termed_c (t : TD) (w : World) : FnC Try.prog 110 #[.agg (tdC t).toArray] w fun v w' => v = .bool (tmOk t) ∧ Later w w' := by
  refine enter110 _ ?_
  unfold B110
  have eca : (Value.agg (tdC t).toArray).cells = (tdC t).toArray := rfl
  have l1 := later_alloc w (.cells (tdC t).toArray 63)
  have B1 := Blk.new w (tdC t).toArray 63
  repeat' (first | (simp (disch := omega) only [push_cast, ↓reduceIte, zA, zG, zB, zH, zI, zC, zJ, zK, zL, zD, zE, zF, zM, zN, zO, zP, zQ, reduceCtorEq, not_true_eq_false, not_false_eq_true, eca]) | (first | refine iE ?_ ?_ | refine iD ?_ ?_ | refine iQ ?_ ?_ | refine iV ?_ ?_) <;> intro _ | refine And.intro (by omega) ?_ | refine drawn_q ?_ | fail)
  generalize w.alloc (.cells (tdC t).toArray 63) = w1 at *
  generalize w.heap.size = kf at *
  have a0 : w1.cell? ⟨kf, 0, none⟩ = some (.int .i64 t.f) := B1.cell 0
  have a1 : w1.cell? ⟨kf, 1, none⟩ = some (.string t.m) := B1.cell 1
  unfold tmOk
  repeat' (first | (simp (disch := omega) only [push_cast, ↓reduceIte, zA, zG, zB, zH, zI, zC, zJ, zK, zL, zD, zE, zF, zM, zN, zO, zP, zQ, reduceCtorEq, not_true_eq_false, not_false_eq_true, a0, a1, addr_add_eq, Nat.zero_add]) | (first | refine iE ?_ ?_ | refine iD ?_ ?_ | refine iQ ?_ ?_ | refine iV ?_ ?_) <;> intro _ | refine And.intro (by omega) ?_ | refine drawn_q ?_ | fail)
  all_goals (refine ⟨congrArg Value.bool ?_, l1⟩)
  all_goals (clear a0 a1 B1 l1 eca)
  all_goals simp_all
  all_goals (intros; omega)
theorem shaped1_c (t : TD) (w : World) : FnC Try.prog 109 #[.agg (tdC t).toArray] w fun v w' => v = .bool (!tmOk t) ∧ Later w w' := by
  refine enter109 _ ?_
  unfold B109
  have eca : (Value.agg (tdC t).toArray).cells = (tdC t).toArray := rfl
  have l1 := later_alloc w (.cells (tdC t).toArray 63)
  have B1 := Blk.new w (tdC t).toArray 63
  repeat' (first | (simp (disch := omega) only [push_cast, ↓reduceIte, zA, zG, zB, zH, zI, zC, zJ, zK, zL, zD, zE, zF, zM, zN, zO, zP, zQ, reduceCtorEq, not_true_eq_false, not_false_eq_true, eca]) | (first | refine iE ?_ ?_ | refine iD ?_ ?_ | refine iQ ?_ ?_ | refine iV ?_ ?_) <;> intro _ | refine And.intro (by omega) ?_ | refine drawn_q ?_ | fail)
  generalize w.alloc (.cells (tdC t).toArray 63) = w1 at *
  generalize w.heap.size = kf at *
  have a0 := Blk.cellsAt (l := tdC t) B1
  have a0 : cellsAt w1 ⟨kf, 0, none⟩ 2 = some (tdC t) := a0
  repeat' (first | (simp (disch := omega) only [push_cast, ↓reduceIte, zA, zG, zB, zH, zI, zC, zJ, zK, zL, zD, zE, zF, zM, zN, zO, zP, zQ, reduceCtorEq, not_true_eq_false, not_false_eq_true, a0]) | (first | refine iE ?_ ?_ | refine iD ?_ ?_ | refine iQ ?_ ?_ | refine iV ?_ ?_) <;> intro _ | refine And.intro (by omega) ?_ | refine drawn_q ?_ | fail)
  refine (termed_c t w1).mono ?_
  rintro _ w2 ⟨rfl, l2⟩
  repeat' (first | (simp (disch := omega) only [push_cast, ↓reduceIte, zA, zG, zB, zH, zI, zC, zJ, zK, zL, zD, zE, zF, zM, zN, zO, zP, zQ, reduceCtorEq, not_true_eq_false, not_false_eq_true]) | (first | refine iE ?_ ?_ | refine iD ?_ ?_ | refine iQ ?_ ?_ | refine iV ?_ ?_) <;> intro _ | refine And.intro (by omega) ?_ | refine drawn_q ?_ | fail)
  first | exact ⟨rfl, (l1.trans l2)⟩ | exact (l1.trans l2)
theorem shaped2_c (h : HD) (w : World) : FnC Try.prog 111 #[.agg (hdC h).toArray] w fun v w' => v = .bool (!hvOk h) ∧ Later w w' := by
  refine enter111 _ ?_
  unfold B111
  have eca : (Value.agg (hdC h).toArray).cells = (hdC h).toArray := rfl
  have l1 := later_alloc w (.cells (hdC h).toArray 146)
  have B1 := Blk.new w (hdC h).toArray 146
  repeat' (first | (simp (disch := omega) only [push_cast, ↓reduceIte, zA, zG, zB, zH, zI, zC, zJ, zK, zL, zD, zE, zF, zM, zN, zO, zP, zQ, reduceCtorEq, not_true_eq_false, not_false_eq_true, eca]) | (first | refine iE ?_ ?_ | refine iD ?_ ?_ | refine iQ ?_ ?_ | refine iV ?_ ?_) <;> intro _ | refine And.intro (by omega) ?_ | refine drawn_q ?_ | fail)
  generalize w.alloc (.cells (hdC h).toArray 146) = w1 at *
  generalize w.heap.size = kf at *
  have a0 : cellsAt w1 ⟨kf, 0, none⟩ 2 = some (tdC h.t) := by
    refine cellsAt_of 2 _ _ rfl fun i x hx => ?_
    rw [addr_add_eq]
    match i, hx with
    | 0, hx => cases hx; exact B1.cell 0
    | 1, hx => cases hx; exact B1.cell 1
    | n + 2, hx => exact absurd hx (by simp [tdC])
  repeat' (first | (simp (disch := omega) only [push_cast, ↓reduceIte, zA, zG, zB, zH, zI, zC, zJ, zK, zL, zD, zE, zF, zM, zN, zO, zP, zQ, reduceCtorEq, not_true_eq_false, not_false_eq_true, a0, addr_add_eq, Nat.zero_add]) | (first | refine iE ?_ ?_ | refine iD ?_ ?_ | refine iQ ?_ ?_ | refine iV ?_ ?_) <;> intro _ | refine And.intro (by omega) ?_ | refine drawn_q ?_ | fail)
  refine (termed_c h.t w1).mono ?_
  rintro _ w2 ⟨rfl, l2⟩
  have B2 := B1.chg (Chg.of_later (ks := []) l2) (by simp)
  have a1 : w2.cell? ⟨kf, 2, none⟩ = some (.int .i64 h.sign) := B2.cell 2
  have a2 : w2.cell? ⟨kf, 3, none⟩ = some (.int .i64 h.value) := B2.cell 3
  have e : hvOk h = (tmOk h.t && decide (-1 ≤ h.sign) && decide (h.sign ≤ 1) && decide (-4611686018427387904 ≤ h.value) && decide (h.value ≤ 4611686018427387904)) := rfl
  rw [e]
  cases tmOk h.t with
  | false =>
    repeat' (first | (simp (disch := omega) only [push_cast, ↓reduceIte, zA, zG, zB, zH, zI, zC, zJ, zK, zL, zD, zE, zF, zM, zN, zO, zP, zQ, reduceCtorEq, not_true_eq_false, not_false_eq_true]) | (first | refine iE ?_ ?_ | refine iD ?_ ?_ | refine iQ ?_ ?_ | refine iV ?_ ?_) <;> intro _ | refine And.intro (by omega) ?_ | refine drawn_q ?_ | fail)
    first | exact ⟨rfl, (l1.trans l2)⟩ | exact (l1.trans l2)
  | true =>
    repeat' (first | (simp (disch := omega) only [push_cast, ↓reduceIte, zA, zG, zB, zH, zI, zC, zJ, zK, zL, zD, zE, zF, zM, zN, zO, zP, zQ, reduceCtorEq, not_true_eq_false, not_false_eq_true, a1, a2, addr_add_eq, Nat.zero_add]) | (first | refine iE ?_ ?_ | refine iD ?_ ?_ | refine iQ ?_ ?_ | refine iV ?_ ?_) <;> intro _ | refine And.intro (by omega) ?_ | refine drawn_q ?_ | fail)
    all_goals (refine ⟨congrArg Value.bool ?_, l1.trans l2⟩)
    all_goals (clear a1 a2 B1 B2 l1 l2 eca e a0)
    all_goals (rw [Bool.eq_iff_iff]; simp only [true_iff, Bool.not_eq_true', Bool.and_eq_false_iff, decide_eq_true_eq, decide_eq_false_iff_not]; omega)
theorem any_not {α : Type} (p : α → Bool) (l : List α) : l.any (fun x => !p x) = !l.all p := by
  induction l with
  | nil => rfl
  | cons a l ih => simp [ih]
set_option maxHeartbeats 800000 in
theorem formed_c : ∀ (f : FT) (deep : Nat) (w : World), deep ≤ 1000000 → f.Ok w → FnC Try.prog 112 #[.agg (ftC f).toArray, .int .i64 (deep : Int)] w fun v w' => v = .bool (f.form deep) ∧ Later w w' := by
  intro f
  induction f using FT.ind with
  | h f ih =>
  intro deep w hdp hf
  obtain ⟨h1, h2, h3, h4, h5⟩ := FT.ok_iff.1 hf
  obtain ⟨o, c, hkv, hc1, hc2⟩ := RecS.slice h4
  refine enter112 _ _ ?_
  unfold B112
  have eca : (Value.agg (ftC f).toArray).cells = (ftC f).toArray := rfl
  obtain ⟨l1, s1, B1⟩ := ftBox w f
  rw [FT.form_is]
  repeat' (first | (simp (disch := omega) only [push_cast, ↓reduceIte, zA, zG, zB, zH, zI, zC, zJ, zK, zL, zD, zE, zF, zM, zN, zO, zP, zQ, reduceCtorEq, not_true_eq_false, not_false_eq_true, eca]) | (first | refine iE ?_ ?_ | refine iD ?_ ?_ | refine iQ ?_ ?_ | refine iV ?_ ?_) <;> intro _ | refine And.intro (by omega) ?_ | refine drawn_q ?_ | fail)
  generalize w.alloc (.cells (ftC f).toArray 39) = w1 at *
  have l2 := later_alloc w1 (.cells #[.int .i64 (deep : Int)] 3)
  have B2 := Blk.new w1 #[.int .i64 (deep : Int)] 3
  have ecc : (Value.int .i64 (deep : Int)).cells = #[.int .i64 (deep : Int)] := rfl
  have hkd := Nat.ne_of_lt (Nat.lt_of_lt_of_eq (Nat.lt_succ_self w.heap.size) s1.symm)
  generalize hw2 : w1.alloc (.cells #[.int .i64 (deep : Int)] 3) = w2 at *
  have l02 := l1.trans l2
  obtain ⟨a0, a1, a2, a3⟩ := ftAt (ftLater B1 l2)
  have d0 : w2.cell? ⟨w1.heap.size, 0, none⟩ = some (.int .i64 (deep : Int)) := B2.cell 0
  generalize w1.heap.size = kd at *
  generalize w.heap.size = kf at *
  rw [hkv] at a3
  by_cases hz : deep = 0
  · have hd : decide ((deep : Int) = 0) = true := decide_eq_true (by omega)
    have hdb : (deep == 0) = true := by simp [hz]
    rw [hdb]
    repeat' (first | (simp (disch := omega) only [push_cast, ↓reduceIte, zA, zG, zB, zH, zI, zC, zJ, zK, zL, zD, zE, zF, zM, zN, zO, zP, zQ, reduceCtorEq, not_true_eq_false, not_false_eq_true, ecc, hw2, d0, hd, addr_add_eq, Nat.zero_add]) | (first | refine iE ?_ ?_ | refine iD ?_ ?_ | refine iQ ?_ ?_ | refine iV ?_ ?_) <;> intro _ | refine And.intro (by omega) ?_ | refine drawn_q ?_ | fail)
    first | exact ⟨rfl, l02⟩ | exact l02
  have hd : decide ((deep : Int) = 0) = false := decide_eq_false (by omega)
  have hdd : (deep : Int) - 1 = ((deep - 1 : Nat) : Int) := by omega
  have hdb : (deep == 0) = false := by simp [hz]
  have hp : ∀ k ∈ f.kids, Prd Try.prog w2 145 #[pt kd] (.agg (ftC k).toArray) (!k.form (deep - 1)) := by
    intro k hk w' hl
    have hcall := fun w3 (h3 : Later w' w3) => ih k hk (deep - 1) w3 (by omega) ((h5 k hk).later (l02.trans (hl.trans h3)))
    rw [← hdd] at hcall
    show FnC Try.prog 145 #[.agg (ftC k).toArray, pt kd] w' _
    have eck : (Value.agg (ftC k).toArray).cells = (ftC k).toArray := rfl
    obtain ⟨m1, s3, C1⟩ := ftBox w' k
    refine enter145 _ _ ?_
    unfold B145
    repeat' (first | (simp (disch := omega) only [push_cast, ↓reduceIte, zA, zG, zB, zH, zI, zC, zJ, zK, zL, zD, zE, zF, zM, zN, zO, zP, zQ, reduceCtorEq, not_true_eq_false, not_false_eq_true, eck]) | (first | refine iE ?_ ?_ | refine iD ?_ ?_ | refine iQ ?_ ?_ | refine iV ?_ ?_) <;> intro _ | refine And.intro (by omega) ?_ | refine drawn_q ?_ | fail)
    generalize w'.alloc (.cells (ftC k).toArray 39) = w3 at *
    generalize w'.heap.size = kk at *
    have b0 := Blk.cellsAt (l := ftC k) C1
    have b0 : cellsAt w3 ⟨kk, 0, none⟩ 4 = some (ftC k) := b0
    have b1 := (hl.trans m1).cell d0
    repeat' (first | (simp (disch := omega) only [push_cast, ↓reduceIte, zA, zG, zB, zH, zI, zC, zJ, zK, zL, zD, zE, zF, zM, zN, zO, zP, zQ, reduceCtorEq, not_true_eq_false, not_false_eq_true, b0, b1]) | (first | refine iE ?_ ?_ | refine iD ?_ ?_ | refine iQ ?_ ?_ | refine iV ?_ ?_) <;> intro _ | refine And.intro (by omega) ?_ | refine drawn_q ?_ | fail)
    refine (hcall w3 m1).mono ?_
    rintro _ w4 ⟨rfl, m4⟩
    repeat' (first | (simp (disch := omega) only [push_cast, ↓reduceIte, zA, zG, zB, zH, zI, zC, zJ, zK, zL, zD, zE, zF, zM, zN, zO, zP, zQ, reduceCtorEq, not_true_eq_false, not_false_eq_true]) | (first | refine iE ?_ ?_ | refine iD ?_ ?_ | refine iQ ?_ ?_ | refine iV ?_ ?_) <;> intro _ | refine And.intro (by omega) ?_ | refine drawn_q ?_ | fail)
    first | exact ⟨rfl, (m1.trans m4)⟩ | exact (m1.trans m4)
  repeat' (first | (simp (disch := omega) only [push_cast, ↓reduceIte, zA, zG, zB, zH, zI, zC, zJ, zK, zL, zD, zE, zF, zM, zN, zO, zP, zQ, reduceCtorEq, not_true_eq_false, not_false_eq_true, ecc, hw2, d0, a3, hd, addr_add_eq, Nat.zero_add]) | (first | refine iE ?_ ?_ | refine iD ?_ ?_ | refine iQ ?_ ?_ | refine iV ?_ ?_) <;> intro _ | refine And.intro (by omega) ?_ | refine drawn_q ?_ | fail)
  rw [hkv] at h4
  refine (fcontainsF_c _ _ _ #[pt kd] (fun k => !k.form (deep - 1)) w2 (h4.later l02) hp).mono ?_
  rintro _ w3 ⟨rfl, l3⟩
  obtain ⟨b0, b1, b2, b3⟩ := ftAt (ftLater B1 (l2.trans l3))
  rw [hkv] at b3
  rw [any_not, hdb]
  have l03 := l02.trans l3
  cases f.kids.all (fun k => k.form (deep - 1)) with
  | false =>
    repeat' (first | (simp (disch := omega) only [push_cast, ↓reduceIte, zA, zG, zB, zH, zI, zC, zJ, zK, zL, zD, zE, zF, zM, zN, zO, zP, zQ, reduceCtorEq, not_true_eq_false, not_false_eq_true]) | (first | refine iE ?_ ?_ | refine iD ?_ ?_ | refine iQ ?_ ?_ | refine iV ?_ ?_) <;> intro _ | refine And.intro (by omega) ?_ | refine drawn_q ?_ | fail)
    first | exact ⟨rfl, l03⟩ | exact l03
  | true =>
  rw [own_is]
  clear ih h5 hp d0 a0 a1 a2 a3
  have hl := l03
  clear l03 hd hdd ecc eca s1 hw2 B2 l1 l2 l3 l02 hkd hdb hz
  by_cases k1 : f.op = 1
  · have e1 : decide (f.op = 1) = true := decide_eq_true k1
    rw [if_pos k1]
    repeat' (first | (simp (disch := omega) only [push_cast, ↓reduceIte, zA, zG, zB, zH, zI, zC, zJ, zK, zL, zD, zE, zF, zM, zN, zO, zP, zQ, reduceCtorEq, not_true_eq_false, not_false_eq_true, b0, b1, b2, b3, e1, addr_add_eq, Nat.zero_add]) | (first | refine iE ?_ ?_ | refine iD ?_ ?_ | refine iQ ?_ ?_ | refine iV ?_ ?_) <;> intro _ | refine And.intro (by omega) ?_ | refine drawn_q ?_ | fail)
    all_goals (refine ⟨congrArg Value.bool ?_, hl⟩)
    all_goals (clear h1 h2 h3 h4 b0 b1 b2 b3 B1 hl)
    all_goals (try (have hnat : ∀ n : Nat, ((f.kids.length : Int) = (n : Int)) = (f.kids.length = n) := fun n => by rw [Int.ofNat_inj]))
    all_goals simp_all
    all_goals (first | omega | done)
  have e1 : decide (f.op = 1) = false := decide_eq_false k1
  by_cases k2 : f.op = 2
  · have e2 : decide (f.op = 2) = true := decide_eq_true k2
    rw [if_neg k1, if_pos k2]
    repeat' (first | (simp (disch := omega) only [push_cast, ↓reduceIte, zA, zG, zB, zH, zI, zC, zJ, zK, zL, zD, zE, zF, zM, zN, zO, zP, zQ, reduceCtorEq, not_true_eq_false, not_false_eq_true, b0, b1, b2, b3, e1, e2, addr_add_eq, Nat.zero_add]) | (first | refine iE ?_ ?_ | refine iD ?_ ?_ | refine iQ ?_ ?_ | refine iV ?_ ?_) <;> intro _ | refine And.intro (by omega) ?_ | refine drawn_q ?_ | fail)
    all_goals (refine ⟨congrArg Value.bool ?_, hl⟩)
    all_goals (clear h1 h2 h3 h4 b0 b1 b2 b3 B1 hl)
    all_goals (try (have hnat : ∀ n : Nat, ((f.kids.length : Int) = (n : Int)) = (f.kids.length = n) := fun n => by rw [Int.ofNat_inj]))
    all_goals simp_all
    all_goals (first | omega | done)
  have e2 : decide (f.op = 2) = false := decide_eq_false k2
  by_cases k3 : f.op = 3
  · have e3 : decide (f.op = 3) = true := decide_eq_true k3
    rw [if_neg k1, if_neg k2, if_pos k3]
    repeat' (first | (simp (disch := omega) only [push_cast, ↓reduceIte, zA, zG, zB, zH, zI, zC, zJ, zK, zL, zD, zE, zF, zM, zN, zO, zP, zQ, reduceCtorEq, not_true_eq_false, not_false_eq_true, b0, b1, b2, b3, e1, e2, e3, addr_add_eq, Nat.zero_add]) | (first | refine iE ?_ ?_ | refine iD ?_ ?_ | refine iQ ?_ ?_ | refine iV ?_ ?_) <;> intro _ | refine And.intro (by omega) ?_ | refine drawn_q ?_ | fail)
    all_goals (refine ⟨congrArg Value.bool ?_, hl⟩)
    all_goals (clear h1 h2 h3 h4 b0 b1 b2 b3 B1 hl)
    all_goals (try (have hnat : ∀ n : Nat, ((f.kids.length : Int) = (n : Int)) = (f.kids.length = n) := fun n => by rw [Int.ofNat_inj]))
    all_goals simp_all
    all_goals (first | omega | done)
  have e3 : decide (f.op = 3) = false := decide_eq_false k3
  by_cases k4 : f.op = 4
  · have e4 : decide (f.op = 4) = true := decide_eq_true k4
    rw [if_neg k1, if_neg k2, if_neg k3, if_pos (Or.inl k4)]
    repeat' (first | (simp (disch := omega) only [push_cast, ↓reduceIte, zA, zG, zB, zH, zI, zC, zJ, zK, zL, zD, zE, zF, zM, zN, zO, zP, zQ, reduceCtorEq, not_true_eq_false, not_false_eq_true, b0, b1, b2, b3, e1, e2, e3, e4, addr_add_eq, Nat.zero_add]) | (first | refine iE ?_ ?_ | refine iD ?_ ?_ | refine iQ ?_ ?_ | refine iV ?_ ?_) <;> intro _ | refine And.intro (by omega) ?_ | refine drawn_q ?_ | fail)
    all_goals (refine ⟨congrArg Value.bool ?_, hl⟩)
    all_goals (clear h1 h2 h3 h4 b0 b1 b2 b3 B1 hl)
    all_goals (try (have hnat : ∀ n : Nat, ((f.kids.length : Int) = (n : Int)) = (f.kids.length = n) := fun n => by rw [Int.ofNat_inj]))
    all_goals simp_all
    all_goals (first | omega | done)
  have e4 : decide (f.op = 4) = false := decide_eq_false k4
  by_cases k5 : f.op = 5
  · have e5 : decide (f.op = 5) = true := decide_eq_true k5
    rw [if_neg k1, if_neg k2, if_neg k3, if_pos (Or.inr k5)]
    repeat' (first | (simp (disch := omega) only [push_cast, ↓reduceIte, zA, zG, zB, zH, zI, zC, zJ, zK, zL, zD, zE, zF, zM, zN, zO, zP, zQ, reduceCtorEq, not_true_eq_false, not_false_eq_true, b0, b1, b2, b3, e1, e2, e3, e4, e5, addr_add_eq, Nat.zero_add]) | (first | refine iE ?_ ?_ | refine iD ?_ ?_ | refine iQ ?_ ?_ | refine iV ?_ ?_) <;> intro _ | refine And.intro (by omega) ?_ | refine drawn_q ?_ | fail)
    all_goals (refine ⟨congrArg Value.bool ?_, hl⟩)
    all_goals (clear h1 h2 h3 h4 b0 b1 b2 b3 B1 hl)
    all_goals (try (have hnat : ∀ n : Nat, ((f.kids.length : Int) = (n : Int)) = (f.kids.length = n) := fun n => by rw [Int.ofNat_inj]))
    all_goals simp_all
    all_goals (first | omega | done)
  have e5 : decide (f.op = 5) = false := decide_eq_false k5
  rw [if_neg k1, if_neg k2, if_neg k3, if_neg (by omega)]
  repeat' (first | (simp (disch := omega) only [push_cast, ↓reduceIte, zA, zG, zB, zH, zI, zC, zJ, zK, zL, zD, zE, zF, zM, zN, zO, zP, zQ, reduceCtorEq, not_true_eq_false, not_false_eq_true, b0, b1, b2, b3, e1, e2, e3, e4, e5, addr_add_eq, Nat.zero_add]) | (first | refine iE ?_ ?_ | refine iD ?_ ?_ | refine iQ ?_ ?_ | refine iV ?_ ?_) <;> intro _ | refine And.intro (by omega) ?_ | refine drawn_q ?_ | fail)
  first | exact ⟨(by simp), hl⟩ | exact hl
end Go.Proofs.Ytnofalhkapmcnaa
end
section
set_option linter.unusedSimpArgs false
namespace Go.Proofs.Ytnofalhkapmcnaa
open Go.Vc Go.Key
set_option maxRecDepth 100000
theorem vStore_ft {K : Value → World → Prop} (f : FT) (w : World) (hf : f.Ok w) (hK : K undef (w.alloc (.cells (ftC f).toArray 39))) :
    vStoreD Try.prog 39 (some 4) (.pointer (some ⟨w.heap.size, 0, none⟩)) (.agg (ftC f).toArray) K (w.alloc (.cells #[.int .i64 0, .string ⟨#[]⟩, .string ⟨#[]⟩, .slice none 0 0] 39)) :=
  vStore_new rfl rfl (fun u hu => ftC_one hf u (by simpa using hu)) hK
set_option maxHeartbeats 1000000 in
theorem shaped_c (q : QD) (w : World) (hq : q.Ok w) : FnC Try.prog 70 #[.agg (qdC q).toArray] w fun v w' => v = .bool (shOk q) ∧ Later w w' := by
  obtain ⟨to, tc, htv, ht1, ht2⟩ := RecS.slice hq.tv
  obtain ⟨ho, hc, hhv, hh1, hh2⟩ := RecS.slice hq.hv
  obtain ⟨bo, bc, hbv⟩ := Sl.slice hq.bv
  rw [List.length_map] at hbv
  refine enter70 _ ?_
  unfold B70
  have eca : (Value.agg (qdC q).toArray).cells = (qdC q).toArray := rfl
  have l1 := later_alloc w (.cells (qdC q).toArray 42)
  have B1 := Blk.new w (qdC q).toArray 42
  repeat' (first | (simp (disch := omega) only [push_cast, ↓reduceIte, zA, zG, zB, zH, zI, zC, zJ, zK, zL, zD, zE, zF, zM, zN, zO, zP, zQ, reduceCtorEq, not_true_eq_false, not_false_eq_true, eca]) | (first | refine iE ?_ ?_ | refine iD ?_ ?_ | refine iQ ?_ ?_ | refine iV ?_ ?_) <;> intro _ | refine And.intro (by omega) ?_ | refine drawn_q ?_ | fail)
  generalize w.alloc (.cells (qdC q).toArray 42) = w1 at *
  generalize w.heap.size = kf at *
  obtain ⟨a0, _, _, _, a4, a5, a6, a7, a8, a9, _, _⟩ := qdAt B1
  rw [htv] at a0
  rw [hbv] at a4
  rw [hhv] at a9
  cases hsz : szOk q with
  | false =>
    have hsh : shOk q = false := by unfold shOk; rw [hsz]; rfl
    have hn : ¬ (1 ≤ q.tl.length ∧ q.tl.length ≤ 8 ∧ q.bl.length ≤ 6 ∧ q.hl.length ≤ 8) := by
      unfold szOk at hsz
      intro ⟨p1, p2, p3, p4⟩
      simp [p1, p2, p3, p4] at hsz
    rw [hsh]
    have hfail : ∀ b : Bool, (b = true ↔ (1 ≤ q.tl.length ∧ q.tl.length ≤ 8 ∧ q.bl.length ≤ 6 ∧ q.hl.length ≤ 8)) → b = false := fun b hb => by
      cases b with
      | false => rfl
      | true => exact absurd (hb.1 rfl) hn
    by_cases p1 : 1 ≤ q.tl.length
    · have d1 : decide (1 ≤ (q.tl.length : Int)) = true := decide_eq_true (by omega)
      by_cases p2 : q.tl.length ≤ 8
      · have d2 : decide ((q.tl.length : Int) ≤ 8) = true := decide_eq_true (by omega)
        by_cases p3 : q.bl.length ≤ 6
        · have d3 : decide ((q.bl.length : Int) ≤ 6) = true := decide_eq_true (by omega)
          have d4 : decide ((q.hl.length : Int) ≤ 8) = false := decide_eq_false (by omega)
          repeat' (first | (simp (disch := omega) only [push_cast, ↓reduceIte, zA, zG, zB, zH, zI, zC, zJ, zK, zL, zD, zE, zF, zM, zN, zO, zP, zQ, reduceCtorEq, not_true_eq_false, not_false_eq_true, a0, a4, a9, d1, d2, d3, d4, addr_add_eq, Nat.zero_add]) | (first | refine iE ?_ ?_ | refine iD ?_ ?_ | refine iQ ?_ ?_ | refine iV ?_ ?_) <;> intro _ | refine And.intro (by omega) ?_ | refine drawn_q ?_ | fail)
          first | exact ⟨rfl, l1⟩ | exact l1
        · have d3 : decide ((q.bl.length : Int) ≤ 6) = false := decide_eq_false (by omega)
          repeat' (first | (simp (disch := omega) only [push_cast, ↓reduceIte, zA, zG, zB, zH, zI, zC, zJ, zK, zL, zD, zE, zF, zM, zN, zO, zP, zQ, reduceCtorEq, not_true_eq_false, not_false_eq_true, a0, a4, a9, d1, d2, d3, addr_add_eq, Nat.zero_add]) | (first | refine iE ?_ ?_ | refine iD ?_ ?_ | refine iQ ?_ ?_ | refine iV ?_ ?_) <;> intro _ | refine And.intro (by omega) ?_ | refine drawn_q ?_ | fail)
          first | exact ⟨rfl, l1⟩ | exact l1
      · have d2 : decide ((q.tl.length : Int) ≤ 8) = false := decide_eq_false (by omega)
        repeat' (first | (simp (disch := omega) only [push_cast, ↓reduceIte, zA, zG, zB, zH, zI, zC, zJ, zK, zL, zD, zE, zF, zM, zN, zO, zP, zQ, reduceCtorEq, not_true_eq_false, not_false_eq_true, a0, a4, a9, d1, d2, addr_add_eq, Nat.zero_add]) | (first | refine iE ?_ ?_ | refine iD ?_ ?_ | refine iQ ?_ ?_ | refine iV ?_ ?_) <;> intro _ | refine And.intro (by omega) ?_ | refine drawn_q ?_ | fail)
        first | exact ⟨rfl, l1⟩ | exact l1
    · have d1 : decide (1 ≤ (q.tl.length : Int)) = false := decide_eq_false (by omega)
      repeat' (first | (simp (disch := omega) only [push_cast, ↓reduceIte, zA, zG, zB, zH, zI, zC, zJ, zK, zL, zD, zE, zF, zM, zN, zO, zP, zQ, reduceCtorEq, not_true_eq_false, not_false_eq_true, a0, a4, a9, d1, addr_add_eq, Nat.zero_add]) | (first | refine iE ?_ ?_ | refine iD ?_ ?_ | refine iQ ?_ ?_ | refine iV ?_ ?_) <;> intro _ | refine And.intro (by omega) ?_ | refine drawn_q ?_ | fail)
      first | exact ⟨rfl, l1⟩ | exact l1
  | true =>
  have hn : 1 ≤ q.tl.length ∧ q.tl.length ≤ 8 ∧ q.bl.length ≤ 6 ∧ q.hl.length ≤ 8 := by
    unfold szOk at hsz
    simpa [and_assoc] using hsz
  have d1 : decide (1 ≤ (q.tl.length : Int)) = true := decide_eq_true (by omega)
  have d2 : decide ((q.tl.length : Int) ≤ 8) = true := decide_eq_true (by omega)
  have d3 : decide ((q.bl.length : Int) ≤ 6) = true := decide_eq_true (by omega)
  have d4 : decide ((q.hl.length : Int) ≤ 8) = true := decide_eq_true (by omega)
  repeat' (first | (simp (disch := omega) only [push_cast, ↓reduceIte, zA, zG, zB, zH, zI, zC, zJ, zK, zL, zD, zE, zF, zM, zN, zO, zP, zQ, reduceCtorEq, not_true_eq_false, not_false_eq_true, a0, a4, a9, d1, d2, d3, d4, addr_add_eq, Nat.zero_add]) | (first | refine iE ?_ ?_ | refine iD ?_ ?_ | refine iQ ?_ ?_ | refine iV ?_ ?_) <;> intro _ | refine And.intro (by omega) ?_ | refine drawn_q ?_ | fail)
  have h4 := hq.tv
  rw [htv] at h4
  refine (tcontainsF_c _ _ _ #[] (fun t => !tmOk t) w1 (h4.later l1) (fun x _ w' hl => shaped1_c x w')).mono ?_
  rintro _ w2 ⟨rfl, l2⟩
  rw [any_not]
  have l02 := l1.trans l2
  obtain ⟨b0, _, _, _, b4, b5, b6, b7, b8, b9, _, _⟩ := qdAt (qdLater B1 l2)
  rw [hhv] at b9
  cases hta : q.tl.all tmOk with
  | false =>
    have hsh : shOk q = false := by unfold shOk; rw [hsz, hta]; simp
    rw [hsh]
    repeat' (first | (simp (disch := omega) only [push_cast, ↓reduceIte, zA, zG, zB, zH, zI, zC, zJ, zK, zL, zD, zE, zF, zM, zN, zO, zP, zQ, reduceCtorEq, not_true_eq_false, not_false_eq_true]) | (first | refine iE ?_ ?_ | refine iD ?_ ?_ | refine iQ ?_ ?_ | refine iV ?_ ?_) <;> intro _ | refine And.intro (by omega) ?_ | refine drawn_q ?_ | fail)
    first | exact ⟨rfl, l02⟩ | exact l02
  | true =>
  have h5 := hq.hv
  rw [hhv] at h5
  repeat' (first | (simp (disch := omega) only [push_cast, ↓reduceIte, zA, zG, zB, zH, zI, zC, zJ, zK, zL, zD, zE, zF, zM, zN, zO, zP, zQ, reduceCtorEq, not_true_eq_false, not_false_eq_true, b9, addr_add_eq, Nat.zero_add]) | (first | refine iE ?_ ?_ | refine iD ?_ ?_ | refine iQ ?_ ?_ | refine iV ?_ ?_) <;> intro _ | refine And.intro (by omega) ?_ | refine drawn_q ?_ | fail)
  refine (hcontainsF_c _ _ _ #[] (fun t => !hvOk t) w2 (h5.later l02) (fun x _ w' hl => shaped2_c x w')).mono ?_
  rintro _ w3 ⟨rfl, l3⟩
  rw [any_not]
  have l03 := l02.trans l3
  have B3 := qdLater B1 (l2.trans l3)
  obtain ⟨_, _, _, _, _, b5, b6, b7, b8, b9, _, _⟩ := qdAt B3
  cases hha : q.hl.all hvOk with
  | false =>
    have hsh : shOk q = false := by unfold shOk; rw [hsz, hta, hha]; simp
    rw [hsh]
    repeat' (first | (simp (disch := omega) only [push_cast, ↓reduceIte, zA, zG, zB, zH, zI, zC, zJ, zK, zL, zD, zE, zF, zM, zN, zO, zP, zQ, reduceCtorEq, not_true_eq_false, not_false_eq_true]) | (first | refine iE ?_ ?_ | refine iD ?_ ?_ | refine iQ ?_ ?_ | refine iV ?_ ?_) <;> intro _ | refine And.intro (by omega) ?_ | refine drawn_q ?_ | fail)
    first | exact ⟨rfl, l03⟩ | exact l03
  | true =>
  have hsh : shOk q = whOk q.wh := by unfold shOk; rw [hsz, hta, hha]; simp
  rw [hsh]
  have FW : ∀ w', Later w1 w' → cellsAt w' ⟨kf, 5, none⟩ 4 = some (ftC q.wh) := by
    intro w' hl
    obtain ⟨_, _, _, _, _, b5, b6, b7, b8, _, _, _⟩ := qdAt (qdLater B1 hl)
    refine cellsAt_of 4 _ _ rfl fun i y hx => ?_
    rw [addr_add_eq]
    match i, hx with
    | 0, hx => cases hx; exact b5
    | 1, hx => cases hx; exact b6
    | 2, hx => cases hx; exact b7
    | 3, hx => cases hx; exact b8
    | n + 4, hx => exact absurd hx (by simp [ftC])
  have fw := FW w3 (l2.trans l3)
  have hwh := hq.wh.later l03
  repeat' (first | (simp (disch := omega) only [push_cast, ↓reduceIte, zA, zG, zB, zH, zI, zC, zJ, zK, zL, zD, zE, zF, zM, zN, zO, zP, zQ, reduceCtorEq, not_true_eq_false, not_false_eq_true, fw, addr_add_eq, Nat.zero_add]) | (first | refine iE ?_ ?_ | refine iD ?_ ?_ | refine iQ ?_ ?_ | refine iV ?_ ?_) <;> intro _ | refine And.intro (by omega) ?_ | refine drawn_q ?_ | fail)
  refine vStore_ft q.wh w3 hwh ?_
  obtain ⟨l4, s4, B4⟩ := ftBox w3 q.wh
  generalize w3.alloc (.cells (ftC q.wh).toArray 39) = w4 at *
  generalize w3.heap.size = kw at *
  obtain ⟨c0, c1, c2, c3⟩ := ftAt B4
  obtain ⟨h1, h2, h3, h4k, h5k⟩ := FT.ok_iff.1 hwh
  obtain ⟨ko, kc, hkv, hc1, hc2⟩ := RecS.slice h4k
  rw [hkv] at c3
  have fw4 := FW w4 (l2.trans (l3.trans l4))
  unfold whOk
  have l04 := l03.trans l4
  by_cases k0 : q.wh.op = 0
  · have e0 : decide (q.wh.op = 0) = true := decide_eq_true k0
    rw [if_pos k0]
    repeat' (first | (simp (disch := omega) only [push_cast, ↓reduceIte, zA, zG, zB, zH, zI, zC, zJ, zK, zL, zD, zE, zF, zM, zN, zO, zP, zQ, reduceCtorEq, not_true_eq_false, not_false_eq_true, c0, c1, c2, c3, e0, addr_add_eq, Nat.zero_add]) | (first | refine iE ?_ ?_ | refine iD ?_ ?_ | refine iQ ?_ ?_ | refine iV ?_ ?_) <;> intro _ | refine And.intro (by omega) ?_ | refine drawn_q ?_ | fail)
    all_goals (refine ⟨congrArg Value.bool ?_, l04⟩)
    all_goals (clear c0 c1 c2 c3 b5 b6 b7 b8 b9 B1 B3 B4 FW fw fw4 hwh h4k h5k h4 h5 l1 l2 l3 l4 l03 l04 l02 hq a0 a4 a5 a6 a7 a8 a9 eca htv hhv hbv hkv)
    all_goals simp_all
  · have e0 : decide (q.wh.op = 0) = false := decide_eq_false k0
    rw [if_neg k0]
    repeat' (first | (simp (disch := omega) only [push_cast, ↓reduceIte, zA, zG, zB, zH, zI, zC, zJ, zK, zL, zD, zE, zF, zM, zN, zO, zP, zQ, reduceCtorEq, not_true_eq_false, not_false_eq_true, c0, e0, fw4, addr_add_eq, Nat.zero_add]) | (first | refine iE ?_ ?_ | refine iD ?_ ?_ | refine iQ ?_ ?_ | refine iV ?_ ?_) <;> intro _ | refine And.intro (by omega) ?_ | refine drawn_q ?_ | fail)
    refine (formed_c q.wh 30 w4 (by omega) (hq.wh.later l04)).mono ?_
    rintro _ w5 ⟨rfl, l5⟩
    repeat' (first | (simp (disch := omega) only [push_cast, ↓reduceIte, zA, zG, zB, zH, zI, zC, zJ, zK, zL, zD, zE, zF, zM, zN, zO, zP, zQ, reduceCtorEq, not_true_eq_false, not_false_eq_true]) | (first | refine iE ?_ ?_ | refine iD ?_ ?_ | refine iQ ?_ ?_ | refine iV ?_ ?_) <;> intro _ | refine And.intro (by omega) ?_ | refine drawn_q ?_ | fail)
    first | exact ⟨rfl, (l04.trans l5)⟩ | exact (l04.trans l5)
end Go.Proofs.Ytnofalhkapmcnaa
end
section
set_option linter.unusedSimpArgs false
namespace Go.Proofs.Ytnofalhkapmcnaa
open Go.Vc Go.Key
set_option maxRecDepth 100000
theorem tdC_one (t : TD) : ∀ u ∈ tdC t, u.oneCell' = true := by
  intro u hu
  simp only [tdC, List.mem_cons, List.not_mem_nil, or_false] at hu
  rcases hu with rfl | rfl <;> rfl
abbrev OwnT (w : World) (B : Nat) (v : Value) (l : List TD) : Prop := OwnR tdC 2 w B 63 v l
theorem tclone_c (v : Value) (l : List TD) (w : World) (h : RecS tdC 2 w v l) (hb : l.length ≤ 1000000) : FnC Try.prog 113 #[v] w fun r w' => OwnT w' w.heap.size r l ∧ Later w w' := by
  have hlen : l.length = 0 → l = [] := List.length_eq_zero_iff.1
  have h0 := h
  obtain ⟨hl, hr⟩ := h
  refine enter113 _ ?_
  unfold B113
  rcases hr with ⟨rfl, hz⟩ | ⟨ad, c, rfl, hc1, hc2, hc3⟩
  · rw [hlen hz]
    repeat' (first | (simp (disch := omega) only [push_cast, ↓reduceIte, zA, zG, zB, zH, zI, zC, zJ, zK, zL, zD, zE, zF, zM, zN, zO, zP, zQ, reduceCtorEq, not_true_eq_false, not_false_eq_true]) | (first | refine iE ?_ ?_ | refine iD ?_ ?_ | refine iQ ?_ ?_ | refine iV ?_ ?_) <;> intro _ | refine And.intro (by omega) ?_ | refine drawn_q ?_ | fail)
    first | exact ⟨(OwnR.nil w w.heap.size 63), (Later.refl _)⟩ | exact (Later.refl _)
  · repeat' (first | (simp (disch := omega) only [push_cast, ↓reduceIte, zA, zG, zB, zH, zI, zC, zJ, zK, zL, zD, zE, zF, zM, zN, zO, zP, zQ, reduceCtorEq, not_true_eq_false, not_false_eq_true]) | (first | refine iE ?_ ?_ | refine iD ?_ ?_ | refine iQ ?_ ?_ | refine iV ?_ ?_) <;> intro _ | refine And.intro (by omega) ?_ | refine drawn_q ?_ | fail)
    have l1 := later_alloc w (.cells #[] 63)
    refine vAppend_fresh Try.underlying35 ti63 rfl (by decide) (h0.later l1) (by unfold maxLen; omega) (by omega) ?_
    intro v' w'' h0 h1
    rcases Nat.eq_zero_or_pos l.length with hz | hz
    · obtain ⟨rfl, rfl⟩ := h0 hz
      rw [hlen hz]
      have hno : OwnT (w.alloc (.cells #[] 63)) w.heap.size (.slice (some ⟨w.heap.size, 0, none⟩) 0 0) [] := OwnR.lit0 w _ (Nat.le_refl _)
      repeat' (first | (simp (disch := omega) only [push_cast, ↓reduceIte, zA, zG, zB, zH, zI, zC, zJ, zK, zL, zD, zE, zF, zM, zN, zO, zP, zQ, reduceCtorEq, not_true_eq_false, not_false_eq_true]) | (first | refine iE ?_ ?_ | refine iD ?_ ?_ | refine iQ ?_ ?_ | refine iV ?_ ?_) <;> intro _ | refine And.intro (by omega) ?_ | refine drawn_q ?_ | fail)
      first | exact ⟨hno, l1⟩ | exact l1
    · obtain ⟨ho, hll⟩ := h1 hz
      repeat' (first | (simp (disch := omega) only [push_cast, ↓reduceIte, zA, zG, zB, zH, zI, zC, zJ, zK, zL, zD, zE, zF, zM, zN, zO, zP, zQ, reduceCtorEq, not_true_eq_false, not_false_eq_true]) | (first | refine iE ?_ ?_ | refine iD ?_ ?_ | refine iQ ?_ ?_ | refine iV ?_ ?_) <;> intro _ | refine And.intro (by omega) ?_ | refine drawn_q ?_ | fail)
      first | exact ⟨(own_base ho l1.size), (l1.trans hll)⟩ | exact (l1.trans hll)
theorem vAppend_td {w : World} {K : Value → World → Prop} {ty : TypeId} {B : Nat} {v x : Value} {l r : List TD} (hown : OwnT w B v l) (hx : RecS tdC 2 w x r) (h63 : l.length + r.length ≤ 1000000000) (hbase : B ≤ w.heap.size)
    (hK : ∀ v' w', OwnT w' B v' (l ++ r) → w.grownBy w' v.ownBlock → (v'.ownBlock = v.ownBlock ∨ v'.ownBlock = some w.heap.size) → K v' w') : vAppend Try.prog #[35, 35] ty #[v, x] K w :=
  vAppend_rs tdC_len tdC_one Try.underlying35 ti63 rfl (by decide) hown hx h63 (by decide) hbase hK
/-- What the names' closures ask of where the schema stands. -/
def ScAt (k : Nat) (d m : List ByteArray) (w : World) : Prop := ∃ dv mv, w.cell? ⟨k, 0, none⟩ = some dv ∧ w.cell? ⟨k, 1, none⟩ = some mv ∧ StS w dv d ∧ StS w mv m
theorem ScAt.later {k : Nat} {d m : List ByteArray} {w w' : World} (h : ScAt k d m w) (hl : Later w w') : ScAt k d m w' := by
  obtain ⟨dv, mv, h1, h2, h3, h4⟩ := h
  exact ⟨dv, mv, hl.cell h1, hl.cell h2, Sl.later h3 hl, Sl.later h4 hl⟩
theorem named1_c (t : TD) (k : Nat) (d m : List ByteArray) (w : World) (h : ScAt k d m w) : FnC Try.prog 114 #[.agg (tdC t).toArray, pt k] w fun r w' => r = .bool (!mtOk m t) ∧ Later w w' := by
  refine enter114 _ _ ?_
  unfold B114
  have eca : (Value.agg (tdC t).toArray).cells = (tdC t).toArray := rfl
  have l1 := later_alloc w (.cells (tdC t).toArray 63)
  have B1 := Blk.new w (tdC t).toArray 63
  repeat' (first | (simp (disch := omega) only [push_cast, ↓reduceIte, zA, zG, zB, zH, zI, zC, zJ, zK, zL, zD, zE, zF, zM, zN, zO, zP, zQ, reduceCtorEq, not_true_eq_false, not_false_eq_true, eca]) | (first | refine iE ?_ ?_ | refine iD ?_ ?_ | refine iQ ?_ ?_ | refine iV ?_ ?_) <;> intro _ | refine And.intro (by omega) ?_ | refine drawn_q ?_ | fail)
  generalize w.alloc (.cells (tdC t).toArray 63) = w1 at *
  generalize w.heap.size = kf at *
  obtain ⟨dv, mv, h1, h2, h3, h4⟩ := h.later l1
  have a0 : w1.cell? ⟨kf, 0, none⟩ = some (.int .i64 t.f) := B1.cell 0
  have a1 : w1.cell? ⟨kf, 1, none⟩ = some (.string t.m) := B1.cell 1
  unfold mtOk
  obtain ⟨mo, mc, hmv, hm1, hm2, hm3, hm4⟩ := h4.openM
  by_cases hz : t.f = 0
  · have e0 : decide (t.f = 0) = true := decide_eq_true hz
    rw [e0]
    repeat' (first | (simp (disch := omega) only [push_cast, ↓reduceIte, zA, zG, zB, zH, zI, zC, zJ, zK, zL, zD, zE, zF, zM, zN, zO, zP, zQ, reduceCtorEq, not_true_eq_false, not_false_eq_true, a0, a1, h2, e0, addr_add_eq, Nat.zero_add]) | (first | refine iE ?_ ?_ | refine iD ?_ ?_ | refine iQ ?_ ?_ | refine iV ?_ ?_) <;> intro _ | refine And.intro (by omega) ?_ | refine drawn_q ?_ | fail)
    first | exact ⟨rfl, l1⟩ | exact l1
  · have e0 : decide (t.f = 0) = false := decide_eq_false hz
    rw [e0]
    rw [hmv] at h2 h4
    repeat' (first | (simp (disch := omega) only [push_cast, ↓reduceIte, zA, zG, zB, zH, zI, zC, zJ, zK, zL, zD, zE, zF, zM, zN, zO, zP, zQ, reduceCtorEq, not_true_eq_false, not_false_eq_true, a0, a1, h2, e0, addr_add_eq, Nat.zero_add]) | (first | refine iE ?_ ?_ | refine iD ?_ ?_ | refine iQ ?_ ?_ | refine iV ?_ ?_) <;> intro _ | refine And.intro (by omega) ?_ | refine drawn_q ?_ | fail)
    refine (scontains_c _ m t.m w1 h4).mono ?_
    rintro _ w2 ⟨rfl, hw⟩; obtain rfl := hw.symm
    repeat' (first | (simp (disch := omega) only [push_cast, ↓reduceIte, zA, zG, zB, zH, zI, zC, zJ, zK, zL, zD, zE, zF, zM, zN, zO, zP, zQ, reduceCtorEq, not_true_eq_false, not_false_eq_true]) | (first | refine iE ?_ ?_ | refine iD ?_ ?_ | refine iQ ?_ ?_ | refine iV ?_ ?_) <;> intro _ | refine And.intro (by omega) ?_ | refine drawn_q ?_ | fail)
    first | exact ⟨rfl, l1⟩ | exact l1
theorem named2_c (x : ByteArray) (k : Nat) (d m : List ByteArray) (w : World) (h : ScAt k d m w) : FnC Try.prog 115 #[.string x, pt k] w fun r w' => r = .bool (!inL x d) ∧ Later w w' := by
  refine enter115 _ _ ?_
  unfold B115
  obtain ⟨dv, mv, h1, h2, h3, h4⟩ := h
  obtain ⟨mo, mc, hmv, hm1, hm2, hm3, hm4⟩ := h3.openM
  rw [hmv] at h1 h3
  repeat' (first | (simp (disch := omega) only [push_cast, ↓reduceIte, zA, zG, zB, zH, zI, zC, zJ, zK, zL, zD, zE, zF, zM, zN, zO, zP, zQ, reduceCtorEq, not_true_eq_false, not_false_eq_true, h1, addr_add_eq, Nat.zero_add]) | (first | refine iE ?_ ?_ | refine iD ?_ ?_ | refine iQ ?_ ?_ | refine iV ?_ ?_) <;> intro _ | refine And.intro (by omega) ?_ | refine drawn_q ?_ | fail)
  refine (scontains_c _ d x w h3).mono ?_
  rintro _ w2 ⟨rfl, hw⟩; obtain rfl := hw.symm
  repeat' (first | (simp (disch := omega) only [push_cast, ↓reduceIte, zA, zG, zB, zH, zI, zC, zJ, zK, zL, zD, zE, zF, zM, zN, zO, zP, zQ, reduceCtorEq, not_true_eq_false, not_false_eq_true]) | (first | refine iE ?_ ?_ | refine iD ?_ ?_ | refine iQ ?_ ?_ | refine iV ?_ ?_) <;> intro _ | refine And.intro (by omega) ?_ | refine drawn_q ?_ | fail)
  first | exact ⟨rfl, (Later.refl _)⟩ | exact (Later.refl _)
set_option maxHeartbeats 1000000 in
theorem named_c (dv mv : Value) (d m : List ByteArray) (q : QD) (w : World) (h : ScIs w dv mv d m) (hq : q.Ok w) (hcn : q.wh.cnt ≤ 1000000) (hbl : q.bl.length ≤ 1000) (htl : q.tl.length ≤ 1000) (hhl : q.hl.length ≤ 1000) : FnC Try.prog 71 #[scV dv mv, .agg (qdC q).toArray] w fun v w' => v = .bool (nsOk d m q) ∧ Later w w' := by
  have esc : scV dv mv = .agg #[dv, mv] := rfl
  rw [esc]
  refine enter71 _ _ ?_
  unfold B71
  have eca : (Value.agg (qdC q).toArray).cells = (qdC q).toArray := rfl
  have ecb : (Value.agg #[dv, mv]).cells = #[dv, mv] := rfl
  obtain ⟨l1, s1, F⟩ := box2 w dv mv 24
  have B2 := Blk.new (w.alloc (.cells #[dv, mv] 24)) (qdC q).toArray 42
  have l2 := later_alloc (w.alloc (.cells #[dv, mv] 24)) (.cells (qdC q).toArray 42)
  rw [s1] at B2
  repeat' (first | (simp (disch := omega) only [push_cast, ↓reduceIte, zA, zG, zB, zH, zI, zC, zJ, zK, zL, zD, zE, zF, zM, zN, zO, zP, zQ, reduceCtorEq, not_true_eq_false, not_false_eq_true, eca, ecb, s1]) | (first | refine iE ?_ ?_ | refine iD ?_ ?_ | refine iQ ?_ ?_ | refine iV ?_ ?_) <;> intro _ | refine And.intro (by omega) ?_ | fail)
  have l12 := l1.trans l2
  have FF : ∀ w', Later ((w.alloc (.cells #[dv, mv] 24)).alloc (.cells (qdC q).toArray 42)) w' → w'.cell? ⟨w.heap.size, 0, none⟩ = some dv ∧ w'.cell? ⟨w.heap.size, 1, none⟩ = some mv := fun w' hl => ⟨(F w' (l2.trans hl)).1, (F w' (l2.trans hl)).2.1⟩
  clear F
  generalize (w.alloc (.cells #[dv, mv] 24)).alloc (.cells (qdC q).toArray 42) = w1 at *
  generalize hkf : w.heap.size = kf at *
  have h1 := h.later l12
  have q1 := hq.later l12
  have SA : ScAt kf d m w1 := ⟨dv, mv, (FF w1 (Later.refl _)).1, (FF w1 (Later.refl _)).2, h1.dS, h1.mS⟩
  obtain ⟨a0, _⟩ := qdAt B2
  repeat' (first | (simp (disch := omega) only [push_cast, ↓reduceIte, zA, zG, zB, zH, zI, zC, zJ, zK, zL, zD, zE, zF, zM, zN, zO, zP, zQ, reduceCtorEq, not_true_eq_false, not_false_eq_true, a0, addr_add_eq, Nat.zero_add]) | (first | refine iE ?_ ?_ | refine iD ?_ ?_ | refine iQ ?_ ?_ | refine iV ?_ ?_) <;> intro _ | refine And.intro (by omega) ?_ | refine drawn_q ?_ | fail)
  refine (tclone_c q.tv q.tl w1 q1.tv (by omega)).mono ?_
  rintro tv w2 ⟨ho2, l3⟩
  obtain ⟨_, _, _, _, _, _, _, _, _, b9, _⟩ := qdAt (qdLater B2 l3)
  obtain ⟨ho, hc, hhv, hh1, hh2⟩ := RecS.slice hq.hv
  rw [hhv] at b9
  repeat' (first | (simp (disch := omega) only [push_cast, ↓reduceIte, zA, zG, zB, zH, zI, zC, zJ, zK, zL, zD, zE, zF, zM, zN, zO, zP, zQ, reduceCtorEq, not_true_eq_false, not_false_eq_true, b9, addr_add_eq, Nat.zero_add]) | (first | refine iE ?_ ?_ | refine iD ?_ ?_ | refine iQ ?_ ?_ | refine iV ?_ ?_) <;> intro _ | refine And.intro (by omega) ?_ | refine drawn_q ?_ | fail)
  have hhs := (q1.later l3).hv
  rw [hhv] at hhs
  refine vc_loop W71_0 (fun p : Nat × Value => [(5, p.2), (14, .int .i64 (p.1 : Int))]) (fun p w' => p.1 ≤ q.hl.length ∧ Later w1 w' ∧ OwnT w' w1.heap.size p.2 (q.tl ++ (q.hl.take p.1).map HD.t) ∧ RecS hdC 4 w' (.slice ho q.hl.length hc) q.hl) (fun p => q.hl.length - p.1) (0, tv) (by decide) ?_ ?_ ?_
  · simp (disch := omega) only [push_cast, ↓reduceIte, zA, zG, zB, zH, zI, zC, zJ, zK, zL, zD, zE, zF, zM, zN, zO, zP, zQ, reduceCtorEq, not_true_eq_false, not_false_eq_true]
    try rfl
  · exact ⟨Nat.zero_le _, l3, by simpa using ho2, hhs⟩
  rintro ⟨i, x⟩ uu w4 ⟨hi, l4, ho4, hH⟩
  dsimp only at hi ho4 ⊢
  by_cases hik : i < q.hl.length
  · have hd2 : decide ((i : Int) < (q.hl.length : Int)) = true := decide_eq_true (by omega)
    obtain ⟨a, rfl, fa⟩ := RecS.at hdC_len hH hik
    have hst : (q.hl.take (i + 1)).map HD.t = (q.hl.take i).map HD.t ++ [(q.hl[i]).t] := by
      rw [List.take_succ_eq_append_getElem hik, List.map_append]; rfl
    generalize q.hl[i] = y at *
    repeat' (first | (simp (disch := omega) only [push_cast, ↓reduceIte, zA, zG, zB, zH, zI, zC, zJ, zK, zL, zD, zE, zF, zM, zN, zO, zP, zQ, reduceCtorEq, not_true_eq_false, not_false_eq_true, hd2, fa, addr_add_eq, Nat.zero_add]) | (first | refine iE ?_ ?_ | refine iD ?_ ?_ | refine iQ ?_ ?_ | refine iV ?_ ?_) <;> intro _ | refine And.intro (by omega) ?_ | refine drawn_q ?_ | fail)
    refine vStore_hd y w4 ?_
    have l5 := later_alloc w4 (.cells (hdC y).toArray 146)
    have B5 := Blk.new w4 (hdC y).toArray 146
    generalize w4.alloc (.cells (hdC y).toArray 146) = w5 at *
    generalize w4.heap.size = k4 at *
    have fx : cellsAt w5 ⟨k4, 0, none⟩ 2 = some (tdC y.t) := by
      refine cellsAt_of 2 _ _ rfl fun i z hx => ?_
      rw [addr_add_eq]
      match i, hx with
      | 0, hx => cases hx; exact B5.cell 0
      | 1, hx => cases hx; exact B5.cell 1
      | n + 2, hx => exact absurd hx (by simp [tdC])
    have etd : (Value.agg (tdC y.t).toArray) = .agg #[.int .i64 y.t.f, .string y.t.m] := rfl
    repeat' (first | (simp (disch := omega) only [push_cast, ↓reduceIte, zA, zG, zB, zH, zI, zC, zJ, zK, zL, zD, zE, zF, zM, zN, zO, zP, zQ, reduceCtorEq, not_true_eq_false, not_false_eq_true, fx, etd, addr_add_eq, Nat.zero_add]) | (first | refine iE ?_ ?_ | refine iD ?_ ?_ | refine iQ ?_ ?_ | refine iV ?_ ?_) <;> intro _ | refine And.intro (by omega) ?_ | refine drawn_q ?_ | fail)
    have ho5 := OwnR.later ho4 l5
    have hll : (q.tl ++ (q.hl.take i).map HD.t).length ≤ 2000 := by
      rw [List.length_append, List.length_map, List.length_take]; omega
    have hH5 := hH.later l5
    have l15 := l4.trans l5
    have e2 : (tdC y.t).toArray = #[.int .i64 y.t.f, .string y.t.m] := rfl
    have l7 := later_alloc w5 (.cells (tdC y.t).toArray 63)
    have Bl := Blk.new w5 (tdC y.t).toArray 63
    have hx7 := RecS.lit1 (tdC_len y.t) Bl
    rw [e2] at l7 Bl hx7
    generalize w5.alloc (.cells #[.int .i64 y.t.f, .string y.t.m] 63) = w7 at *
    replace ho5 := OwnR.later ho5 l7
    replace hH5 := hH5.later l7
    replace l15 := l15.trans l7
    refine vAppend_td (r := [y.t]) ho5 hx7 (by simp only [List.length_cons, List.length_nil]; omega) l15.size ?_
    intro v' w' ho' hg _
    have l6 : Later w1 w' := l15.appended ho5 (Nat.le_refl _) hg
    rw [List.append_assoc, ← hst] at ho'
    have hH6 : RecS hdC 4 w' (.slice (some a) q.hl.length hc) q.hl := by
      have := (q1.later l6).hv
      rwa [hhv] at this
    repeat' (first | (simp (disch := omega) only [push_cast, ↓reduceIte, zA, zG, zB, zH, zI, zC, zJ, zK, zL, zD, zE, zF, zM, zN, zO, zP, zQ, reduceCtorEq, not_true_eq_false, not_false_eq_true]) | (first | refine iE ?_ ?_ | refine iD ?_ ?_ | refine iQ ?_ ?_ | refine iV ?_ ?_) <;> intro _ | refine And.intro (by omega) ?_ | refine drawn_q ?_ | fail)
    exact ⟨rfl, (i + 1, v'), by simp (disch := omega) only [push_cast, ↓reduceIte, zA, zG, zB, zH, zI, zC, zJ, zK, zL, zD, zE, zF, zM, zN, zO, zP, zQ, reduceCtorEq, not_true_eq_false, not_false_eq_true], ⟨by dsimp only; omega, l6, ho', hH6⟩, by dsimp only; omega⟩
  have hd2 : decide ((i : Int) < (q.hl.length : Int)) = false := decide_eq_false (by omega)
  rw [List.take_of_length_le (by omega)] at ho4
  have S4 := SA.later l4
  repeat' (first | (simp (disch := omega) only [push_cast, ↓reduceIte, zA, zG, zB, zH, zI, zC, zJ, zK, zL, zD, zE, zF, zM, zN, zO, zP, zQ, reduceCtorEq, not_true_eq_false, not_false_eq_true, hd2, addr_add_eq, Nat.zero_add]) | (first | refine iE ?_ ?_ | refine iD ?_ ?_ | refine iQ ?_ ?_ | refine iV ?_ ?_) <;> intro _ | refine And.intro (by omega) ?_ | refine drawn_q ?_ | fail)
  refine (tcontainsF_c _ _ _ #[pt kf] (fun t => !mtOk m t) w4 (OwnR.s ho4) (fun x _ w' hl => named1_c x kf d m w' (S4.later hl))).mono ?_
  rintro _ w5 ⟨rfl, l5⟩
  rw [any_not]
  have hns : nsOk d m q = ((q.bl ++ q.wh.dims).all (fun s => inL s d) && (q.tl ++ q.hl.map HD.t).all (mtOk m)) := by
    unfold nsOk
    rw [List.all_append (xs := q.tl), List.all_map, Bool.and_assoc]
    rfl
  rw [hns]
  have l05 := l12.trans (l4.trans l5)
  cases (q.tl ++ q.hl.map HD.t).all (mtOk m) with
  | false =>
    rw [Bool.and_false]
    repeat' (first | (simp (disch := omega) only [push_cast, ↓reduceIte, zA, zG, zB, zH, zI, zC, zJ, zK, zL, zD, zE, zF, zM, zN, zO, zP, zQ, reduceCtorEq, not_true_eq_false, not_false_eq_true]) | (first | refine iE ?_ ?_ | refine iD ?_ ?_ | refine iQ ?_ ?_ | refine iV ?_ ?_) <;> intro _ | refine And.intro (by omega) ?_ | refine drawn_q ?_ | fail)
    first | exact ⟨rfl, l05⟩ | exact l05
  | true =>
  rw [Bool.and_true]
  have c5 := Blk.cellsAt (l := qdC q) (qdLater B2 (l4.trans l5))
  have c5 : cellsAt w5 ⟨kf + 1, 0, none⟩ 12 = some (qdC q) := c5
  repeat' (first | (simp (disch := omega) only [push_cast, ↓reduceIte, zA, zG, zB, zH, zI, zC, zJ, zK, zL, zD, zE, zF, zM, zN, zO, zP, zQ, reduceCtorEq, not_true_eq_false, not_false_eq_true, c5, addr_add_eq, Nat.zero_add]) | (first | refine iE ?_ ?_ | refine iD ?_ ?_ | refine iQ ?_ ?_ | refine iV ?_ ?_) <;> intro _ | refine And.intro (by omega) ?_ | refine drawn_q ?_ | fail)
  refine (tdims_c q w5 (q1.later (l4.trans l5)) hcn hbl).mono ?_
  rintro nv w6 ⟨hn6, l6⟩
  have S6 := S4.later (l5.trans l6)
  repeat' (first | (simp (disch := omega) only [push_cast, ↓reduceIte, zA, zG, zB, zH, zI, zC, zJ, zK, zL, zD, zE, zF, zM, zN, zO, zP, zQ, reduceCtorEq, not_true_eq_false, not_false_eq_true]) | (first | refine iE ?_ ?_ | refine iD ?_ ?_ | refine iQ ?_ ?_ | refine iV ?_ ?_) <;> intro _ | refine And.intro (by omega) ?_ | refine drawn_q ?_ | fail)
  refine (scontainsF_c _ _ _ #[pt kf] (fun x => !inL x d) w6 hn6.st (fun x _ w' hl => named2_c x kf d m w' (S6.later hl))).mono ?_
  rintro _ w7 ⟨rfl, l7⟩
  rw [any_not]
  repeat' (first | (simp (disch := omega) only [push_cast, ↓reduceIte, zA, zG, zB, zH, zI, zC, zJ, zK, zL, zD, zE, zF, zM, zN, zO, zP, zQ, reduceCtorEq, not_true_eq_false, not_false_eq_true]) | (first | refine iE ?_ ?_ | refine iD ?_ ?_ | refine iQ ?_ ?_ | refine iV ?_ ?_) <;> intro _ | refine And.intro (by omega) ?_ | refine drawn_q ?_ | fail)
  first | exact ⟨(by simp), (l05.trans (l6.trans l7))⟩ | exact (l05.trans (l6.trans l7))
end Go.Proofs.Ytnofalhkapmcnaa
end
section
namespace Go.Vc
open Go.RowKit Go.Sort
/-- A contract in the plain sense, as a contract of mine. -/
theorem FnC.of_calls {P : Program} {f : FuncId} {args : Array Value} {w : World} {R : Value → World → Prop} {Q : Ending → World → Prop} (hb : HasBody P f) (h : Calls P f args w Q) (hR : ∀ e w', Q e w' → ∃ v, e = .returned v ∧ R v w') : FnC P f args w R :=
  hb.fn (Calls.mono h hR)
theorem heap_mapBlock {w : World} {k : Nat} {f : Array Value → Array Value} {cs : Array Value} {e : TypeId} (h : Blk w k cs e) : Blk (mapBlock w k f) k (f cs) e := by
  unfold Blk at *
  unfold mapBlock
  simp [Array.getElem?_modify, h, onCells]
theorem heap_mapBlock_ne (w : World) {k j : Nat} (f : Array Value → Array Value) (h : k ≠ j) : (mapBlock w k f).heap[j]? = w.heap[j]? := by
  unfold mapBlock
  simp [Array.getElem?_modify, h]
/-- A row that the call owns, put anew in place; blocks behind. -/
theorem own_put {α : Type} [Inhabited α] {enc : α → Value} {w : World} {base n c g q : Nat} {e : TypeId} {l : List α} {d : Array α} {os : Array Obj} (h : w.ownsRow base e 1 (.slice (some ⟨g, 0, none⟩) n c) n (l.map enc)) (hd : d.size = n) :
    (grow (putRow enc (Sort.ahead w q) g 0 d) os).ownsRow base e 1 (.slice (some ⟨g, 0, none⟩) n c) n (d.toList.map enc) ∧ Chg w (grow (putRow enc (Sort.ahead w q) g 0 d) os) [g] := by
  obtain ⟨h0, h⟩ := h
  rcases h with ⟨h, _⟩ | ⟨g', cap, cur, hv, hb, hh, h1, h2, h3, h4⟩
  · cases h
  · simp only [Value.slice.injEq, Option.some.injEq] at hv
    obtain ⟨e1, -, e2⟩ := hv
    subst e2
    have hg : g' = g := by have := congrArg Addr.block e1; simpa using this.symm
    subst hg
    have hB : Blk (Sort.ahead w q) g' cur e := hh
    have hB2 := heap_mapBlock (f := putCells enc 0 d) hB
    have hlt : g' < w.heap.size := Blk.lt (cs := cur) (e := e) hh
    have hsz : (putRow enc (Sort.ahead w q) g' 0 d).heap.size = w.heap.size := by rw [size_putRow]; rfl
    refine ⟨⟨by simp [hd], .inr ⟨g', c, putCells enc 0 d cur, rfl, hb, ?_, h1, h2, by simpa [putCells] using h3, ?_⟩⟩, ⟨rfl, rfl, rfl, ?_, ?_⟩⟩
    · rw [heap_grow_old _ _ (by rw [hsz]; exact hlt)]
      exact hB2
    · have hc : cur.size = c := by simpa using h3
      apply List.ext_getElem
      · simp [putCells, hd]; omega
      · intro i i1 i2
        have hi : i < d.size := by simpa using i2
        simp [putCells, hi, getElem!_pos]
    · show w.heap.size ≤ ((putRow enc (Sort.ahead w q) g' 0 d).heap ++ os).size
      rw [Array.size_append, hsz]; omega
    · intro k hk hn
      rw [heap_grow_old _ _ (by rw [hsz]; exact hk)]
      exact heap_mapBlock_ne _ _ (fun e => hn (by simp [e]))
theorem holds_own {α : Type} [Inhabited α] {enc : α → Value} {w : World} {base n c g : Nat} {e : TypeId} {l : List α} (h : w.ownsRow base e 1 (.slice (some ⟨g, 0, none⟩) n c) n (l.map enc)) : Holds enc w g 0 l.toArray ∧ g < w.heap.size ∧ base ≤ g := by
  obtain ⟨h0, h⟩ := h
  rcases h with ⟨h, _⟩ | ⟨g', cap, cur, hv, hb, hh, h1, h2, h3, h4⟩
  · cases h
  · simp only [Value.slice.injEq, Option.some.injEq] at hv
    obtain ⟨e1, -, e2⟩ := hv
    subst e2
    have hg : g' = g := by have := congrArg Addr.block e1; simpa using this.symm
    subst hg
    have hB : Blk w g' cur e := hh
    refine ⟨fun j hj => ⟨?_, hB.frozen _⟩, hB.lt, hb⟩
    have hj : j < l.length := by simpa using hj
    rw [hB.cell, Nat.zero_add]
    have : (cur.toList.take (n * 1))[j]? = (l.map enc)[j]? := by rw [h4]
    rw [List.getElem?_take_of_lt (by simp at h0; omega)] at this
    simp only [List.getElem?_map] at this
    rw [Array.getElem?_toList] at this
    rw [this, List.getElem?_eq_getElem hj]
    simp [getElem!_pos, hj]
/-- An owned row with an element begins its block. -/
theorem own_addr {w : World} {base n m c : Nat} {e : TypeId} {o : Option Addr} {xs : List Value} (h : w.ownsRow base e 1 (.slice o m c) n xs) (hn : 0 < n) : ∃ g, o = some ⟨g, 0, none⟩ ∧ m = n := by
  obtain ⟨h0, h⟩ := h
  rcases h with ⟨_, h⟩ | ⟨g', cap, cur, hv, hb, hh, h1, h2, h3, h4⟩
  · omega
  · simp only [Value.slice.injEq] at hv
    exact ⟨g', hv.1, hv.2.1⟩
/-! ### in order, each once -/
end Go.Vc
end
section
namespace Go.Proofs
open Go.Shelf Go.RowKit Go.Lib BigFrame
variable {P : Program} {ρ : Ren}
set_option maxHeartbeats 4000000 in
set_option maxRecDepth 1000000 in
theorem Any.IndexRune_high (L : Lays.n152 P ρ) (r : Int) (w : World) (h1 : 128 ≤ r) (hne : ¬ r = 65533) (hv : Utf8.valid r = true) :
    Calls P (ρ.f 152) #[.string ⟨#[34, 92]⟩, .int .i32 r] w fun e w' => e = .returned (.int .i64 (-1)) ∧ ∃ n, w' = w.drewN n := by
  obtain ⟨g1, g2, g3⟩ := encode_facts r hv h1
  have hvr : Lib.validRune r = true := by
    have := validRune_eq r
    rw [hv] at this
    unfold Go.validRune at this
    unfold Lib.validRune
    exact this.symm
  have mixed := L.mixed
  have t3 := L.t3; have a3 := L.a3; have z3 := L.z3; have v3 := L.v3
  have t4 := L.t4; have a4 := L.a4; have z4 := L.z4; have v4 := L.v4
  have t5 := L.t5; have a5 := L.a5; have z5 := L.z5; have v5 := L.v5
  have t9 := L.t9; have a9 := L.a9; have z9 := L.z9; have v9 := L.v9
  have t21 := L.t21; have a21 := L.a21; have z21 := L.z21; have v21 := L.v21
  have e119 : ∀ args w, (callFunc (ρ.f 119) args).run P w = .ok (.enter (ρ.f 119) args) w := enters_of L.f119 (by kernel_rfl) rfl
  go_enter L.f152, Body.n152_ntmps ρ
  go_wp2_with (go_at_fn (ρ.f 119); refine (Any.utf8_ValidRune { L with } _ _).mono ?_; rintro e w' ⟨rfl, hw⟩; rw [hw, hvr])
  subst hw
  have hcv : ∀ w, (convert (ρ.t 21) (ρ.t 9) (.int .i32 r)).run P w = .ok (.string (Utf8.encode r)) w := fun w => run_convert_int_string w _ _ _ _ (by rw [t21]; rfl) t9
  generalize Utf8.encode r = rs at *
  clear hv hvr
  by_cases h2 : rs.size = 2
  · have hi : ((rs.size : Int) - 1 < 2) := by omega
    have hi2 : ((rs.size : Int) - 1) = 1 := by omega
    have g4 : 128 ≤ (rs[1]'(by omega)).toNat := by
      have := g3 (by omega)
      simpa only [h2] using this
    clear g3
    go_step3
    go_wp2
    go_rounds 1
    obtain ⟨y, hy⟩ : ∃ y : UInt8, ∀ h, rs[1]'h = y := ⟨rs[1]'(by omega), fun _ => rfl⟩
    rw [hy] at g4
    have hne2 : ((92 : Int) == (y.toNat : Int)) = false := beq_eq_false_iff_ne.2 (by omega)
    have hlt1 : (1 : Int) < (rs.size : Int) := by omega
    have hlt2 : (0 : Int) ≤ 1 ∧ (1 : Int) < (rs.size : Int) := by omega
    clear h2
    go_step3
    refine wp_seq_k fun K1 hK1 => ?_
    refine wp_seq_k fun K2 hK2 => ?_
    go_big_quiet_o (fail)
    refine hK2 _ _ ?_
    clear hK2
    have e92 : (((({ data := #[34, 92] } : ByteArray)[1]'(by decide)).toNat : Int) != (y.toNat : Int)) = true := by
      have e : ((({ data := #[34, 92] } : ByteArray)[1]'(by decide)).toNat : Int) = 92 := rfl
      rw [e, bne_iff_ne]
      omega
    rw [e92]
    go_wp2
    have e137 : ∀ args w, (callFunc (ρ.f 137) args).run P w = .ok (.enter (ρ.f 137) args) w := enters_of L.f137 (by kernel_rfl) rfl
    have hIB := fun (w : World) => Any.strings_IndexByte (P := P) (ρ := ρ) { L with } ByteArray.empty (y.toNat : Int) w
    obtain ⟨w1, hw1⟩ : ∃ w1, w'.drewN nq = w1 := ⟨_, rfl⟩
    rw [hw1]
    go_big_quiet_o (first | (go_at_fn (ρ.f 137); refine Calls.quiet_of_same (hIB _)))
    go_wp2
    rw [Exit.noGoto_ret]
    simp only [Exit.inBlock, Exit.then, Exit.noGoto_ret]
    go_ret
    rw [← hw1, World.drewN_drewN]
    exact ⟨rfl, _, rfl⟩
  · have hn : ¬ ((rs.size : Int) - 1 < 2) := by omega
    clear g3
    go_step3
    go_wp2
    go_rounds 1
    rw [Exit.noGoto_ret]
    go_ret
    exact ⟨rfl, 0, rfl⟩
set_option maxHeartbeats 4000000 in
set_option maxRecDepth 1000000 in
theorem Any.IndexRune_err (L : Lays.n152 P ρ) (w : World) :
    Calls P (ρ.f 152) #[.string ⟨#[34, 92]⟩, .int .i32 65533] w fun e w' => e = .returned (.int .i64 (-1)) ∧ ∃ n, w' = w.iter ⟨#[34, 92]⟩ n := by
  have mixed := L.mixed
  have t3 := L.t3; have a3 := L.a3; have z3 := L.z3; have v3 := L.v3
  have t4 := L.t4; have a4 := L.a4; have z4 := L.z4; have v4 := L.v4
  have t5 := L.t5; have a5 := L.a5; have z5 := L.z5; have v5 := L.v5
  have t9 := L.t9; have a9 := L.a9; have z9 := L.z9; have v9 := L.v9
  have t21 := L.t21; have a21 := L.a21; have z21 := L.z21; have v21 := L.v21
  have hn0 := fun ty => run_next_ascii (P := P) w (⟨#[34, 92]⟩ : ByteArray) 0 ty (by decide) (by decide)
  have hn1 := fun ty => run_next_ascii (P := P) w (⟨#[34, 92]⟩ : ByteArray) 1 ty (by decide) (by decide)
  have hn2 := fun ty => run_next_end (P := P) w (⟨#[34, 92]⟩ : ByteArray) 2 ty (by decide)
  go_enter L.f152, Body.n152_ntmps ρ
  go_wp2
  go_rounds 3
  go_ret
  exact ⟨rfl, _, rfl⟩
set_option maxHeartbeats 4000000 in
set_option maxRecDepth 1000000 in
theorem Any.IndexRune_bad (L : Lays.n152 P ρ) (r : Int) (w : World) (h1 : 128 ≤ r) (hne : ¬ r = 65533) (hv : Utf8.valid r = false) :
    Calls P (ρ.f 152) #[.string ⟨#[34, 92]⟩, .int .i32 r] w fun e w' => e = .returned (.int .i64 (-1)) ∧ w' = w := by
  have hvr : Lib.validRune r = false := by
    have := validRune_eq r
    rw [hv] at this
    unfold Go.validRune at this
    unfold Lib.validRune
    exact this.symm
  have mixed := L.mixed
  have t3 := L.t3; have a3 := L.a3; have z3 := L.z3; have v3 := L.v3
  have t4 := L.t4; have a4 := L.a4; have z4 := L.z4; have v4 := L.v4
  have t5 := L.t5; have a5 := L.a5; have z5 := L.z5; have v5 := L.v5
  have t9 := L.t9; have a9 := L.a9; have z9 := L.z9; have v9 := L.v9
  have t21 := L.t21; have a21 := L.a21; have z21 := L.z21; have v21 := L.v21
  have e119 : ∀ args w, (callFunc (ρ.f 119) args).run P w = .ok (.enter (ρ.f 119) args) w := enters_of L.f119 (by kernel_rfl) rfl
  go_enter L.f152, Body.n152_ntmps ρ
  go_wp2_with (go_at_fn (ρ.f 119); refine (Any.utf8_ValidRune { L with } _ _).mono ?_; rintro e w' ⟨rfl, hw⟩; rw [hw, hvr])
  go_ret
  exact ⟨rfl, rfl⟩
theorem below_drewN_any (w : World) (n : Nat) : Below w.heap.size w (w.drewN n) := ⟨rfl, rfl, rfl, Nat.le_refl _, fun _ _ => rfl⟩
theorem Any.IndexRune_any (L : Lays.n152 P ρ) (r : Int) (w : World) (h0 : 0 ≤ r) (hr : r ≤ 2147483647) :
    Calls P (ρ.f 152) #[.string ⟨#[34, 92]⟩, .int .i32 r] w fun e w' => (∃ n : Int, e = .returned (.int .i64 n)) ∧ Below w.heap.size w w' := by
  by_cases h1 : r < 128
  · exact (Any.strings_IndexRune_ascii L _ r w h0 h1).mono fun e w' ⟨h, hw⟩ => ⟨⟨_, h⟩, hw ▸ Below.refl _ _⟩
  by_cases hne : r = 65533
  · subst hne
    exact (Any.IndexRune_err L w).mono fun e w' ⟨h, n, hw⟩ => ⟨⟨_, h⟩, hw ▸ (Below.refl _ _).alloc (Nat.le_refl _) _⟩
  cases hv : Utf8.valid r with
  | false => exact (Any.IndexRune_bad L r w (by omega) hne hv).mono fun e w' ⟨h, hw⟩ => ⟨⟨_, h⟩, hw ▸ Below.refl _ _⟩
  | true => exact (Any.IndexRune_high L r w (by omega) hne hv).mono fun e w' ⟨h, n, hw⟩ => ⟨⟨_, h⟩, hw ▸ below_drewN_any w n⟩
set_option maxHeartbeats 8000000 in
set_option maxRecDepth 1000000 in
theorem Any.IndexAny_short_any (L : Lays.n153 P ρ) (s : ByteArray) (w : World) (h8 : s.size ≤ 8) :
    Calls P (ρ.f 153) #[.string s, .string ⟨#[34, 92]⟩] w fun e w' => (∃ n : Int, e = .returned (.int .i64 n)) ∧ Below w.heap.size w w' := by
  have h8z : decide ((8 : Int) < (s.size : Int)) = false := decide_eq_false (by omega)
  have t3 := L.t3; have a3 := L.a3; have z3 := L.z3; have v3 := L.v3
  have t4 := L.t4; have a4 := L.a4; have z4 := L.z4; have v4 := L.v4
  have t5 := L.t5; have a5 := L.a5; have z5 := L.z5; have v5 := L.v5
  have t9 := L.t9; have a9 := L.a9; have z9 := L.z9; have v9 := L.v9
  have t21 := L.t21; have a21 := L.a21; have z21 := L.z21; have v21 := L.v21
  have e152 : ∀ args w, (callFunc (ρ.f 152) args).run P w = .ok (.enter (ρ.f 152) args) w := enters_of L.f152 (by kernel_rfl) rfl
  have e226 : ∀ args w, (callFunc (ρ.f 226) args).run P w = .ok (.enter (ρ.f 226) args) w := enters_of L.f226 (by kernel_rfl) rfl
  go_enter L.f153, Body.n153_ntmps ρ
  go_wp2_with (go_at_fn (ρ.f 226); refine (Any.strings_shouldUseASCIISet { L with } _ _).mono ?_; rintro e w' ⟨rfl, hw⟩; rw [hw, h8z])
  go_loopw [9, 10] (fun _ _ wr => ∃ pos : Nat, wr.heap[w.heap.size]? = some (.stringIter s pos) ∧ Below w.heap.size w wr) (fun _ _ wr => s.size - wr.iterPos w.heap.size)
  case atStart => exact ⟨0, World.iter_heap w s 0, (Below.refl _ _).alloc (Nat.le_refl _) _⟩
  case round =>
    obtain ⟨pos, hit, hbw⟩ := hrel
    have hsz : w.heap.size < wr.heap.size := (Array.getElem?_eq_some_iff.1 hit).1
    by_cases hp : pos < s.size
    · have hnx : ∀ ty, (Instr.next (.pointer (some ⟨w.heap.size, 0, none⟩)) true ty).run P wr = _ := fun ty => Lib.run_next_any_at wr w.heap.size s pos ty hit hp
      have hwd : 1 ≤ (Utf8.decode s pos).2 := by
        by_cases ha : (s[pos]'hp).toNat < 128
        · rw [decode_ascii s pos hp ha]; exact Nat.le_refl _
        · exact (decode_high s pos hp (by omega)).2
      have hd1 := decode_le s pos
      have hit2 := Lib.iterAt_heap wr w.heap.size s pos (pos + (Utf8.decode s pos).2) hit
      have hbw2 := Lib.below_iterAt hbw (k := w.heap.size) (by omega) s (pos + (Utf8.decode s pos).2)
      have hsz2 : w.heap.size < (wr.iterAt w.heap.size s (pos + (Utf8.decode s pos).2)).heap.size := by rw [Lib.iterAt_size]; omega
      go_wp2_with (go_at_fn (ρ.f 152); refine (Any.IndexRune_any { L with } _ _ (by omega) (by omega)).mono ?_; rintro e w1 ⟨⟨n, rfl⟩, hb1⟩)
      all_goals have hit3 : w1.heap[w.heap.size]? = some (.stringIter s (pos + (Utf8.decode s pos).2)) := (hb1.block _ hsz2).trans hit2
      all_goals have hbw3 := hbw2.trans (hb1.mono (Nat.le_of_lt hsz2))
      · go_ret
        exact ⟨⟨_, rfl⟩, hbw3⟩
      · refine ⟨⟨_, hit3, hbw3⟩, ?_⟩
        simp only [World.iterPos, hit3, hit]
        omega
    · have hnx : ∀ ty, (Instr.next (.pointer (some ⟨w.heap.size, 0, none⟩)) true ty).run P wr = _ := fun ty => Lib.run_next_end_at wr w.heap.size s pos ty hit hp
      go_wp2
      go_ret
      exact ⟨⟨_, rfl⟩, hbw⟩
set_option maxHeartbeats 1000000 in
theorem Any.ContainsAny_quotes (L : Lays.n150 P ρ) (h116 : (P.info? (ρ.t 116)).map (fun i => (i.zero, i.size)) = some (some (.agg (Array.replicate 256 (.bool false))), 256)) (s : ByteArray) (w : World) (hs : s.size < 4294967281) :
    Calls P (ρ.f 150) #[.string s, .string ⟨#[34, 92]⟩] w fun e w' => (∃ t : Bool, e = .returned (.bool t)) ∧ Below w.heap.size w w' := by
  have c : Calls P (ρ.f 153) #[.string s, .string ⟨#[34, 92]⟩] w fun e w' => (∃ n : Int, e = .returned (.int .i64 n)) ∧ Below w.heap.size w w' := by
    by_cases h8 : s.size ≤ 8
    · exact Any.IndexAny_short_any { L with } s w h8
    · refine (Any.strings_IndexAny_long { L with } (zero_of_info h116).1 (zero_of_info h116).2 s ⟨#[34, 92]⟩ w (by decide) (by omega) hs (by decide) (fun j b hb => ?_)).mono fun e w' ⟨h1, h2⟩ => ⟨⟨_, h1⟩, ?_⟩
      · match j, hb with
        | 0, hb => cases hb; decide
        | 1, hb => cases hb; decide
        | n + 2, hb => simp at hb
      · rw [h2]
        exact ((Below.refl _ _).alloc (Nat.le_refl _) _).alloc (by simp) _
  have t3 := L.t3; have a3 := L.a3; have z3 := L.z3; have v3 := L.v3
  have t4 := L.t4; have a4 := L.a4; have z4 := L.z4; have v4 := L.v4
  have t9 := L.t9; have a9 := L.a9; have z9 := L.z9; have v9 := L.v9
  have e153 : ∀ args w, (callFunc (ρ.f 153) args).run P w = .ok (.enter (ρ.f 153) args) w := enters_of L.f153 (by kernel_rfl) rfl
  go_enter L.f150, Body.n150_ntmps ρ
  go_wp2_with (go_at_fn (ρ.f 153); refine c.mono ?_; rintro e w' ⟨⟨n, rfl⟩, hw⟩)
  go_ret
  exact ⟨⟨_, rfl⟩, hw⟩
end Go.Proofs
end
section
namespace Go.Proofs
open Go.Shelf
def Try.lays190_ren : Go.Shelf.Ren := ⟨fun | 190 => 147 | 125 => 163 | 258 => 162 | 128 => 179 | 129 => 180 | 302 => 170 | 303 => 171 | 304 => 172 | 305 => 173 | 306 => 174 | 307 => 175 | 308 => 176 | 309 => 177 | 310 => 178 | 333 => 187 | 329 => 188 | 330 => 189 | 334 => 190 | 335 => 191 | 336 => 167 | 344 => 196 | n => n, fun | 31 => 22 | 9 => 9 | 3 => 3 | 46 => 69 | 0 => 0 | 51 => 200 | 53 => 202 | 4 => 4 | 183 => 194 | 182 => 193 | 131 => 94 | 5 => 5 | 218 => 210 | 222 => 214 | 228 => 219 | 229 => 220 | n => n, fun | n => n⟩
theorem Try.lays190 : Go.Proofs.Lays.n190 Try.prog Try.lays190_ren := {
  mixed := by kernel_rfl
  f125 := Try.func163.trans (congrArg some (by kernel_rfl))
  f128 := Try.func179.trans (congrArg some (by kernel_rfl))
  f129 := Try.func180.trans (congrArg some (by kernel_rfl))
  f190 := Try.func147.trans (congrArg some (by kernel_rfl))
  f258 := Try.func162.trans (congrArg some (by kernel_rfl))
  f302 := Try.func170.trans (congrArg some (by kernel_rfl))
  f303 := Try.func171.trans (congrArg some (by kernel_rfl))
  f304 := Try.func172.trans (congrArg some (by kernel_rfl))
  f305 := Try.func173.trans (congrArg some (by kernel_rfl))
  f306 := Try.func174.trans (congrArg some (by kernel_rfl))
  f307 := Try.func175.trans (congrArg some (by kernel_rfl))
  f308 := Try.func176.trans (congrArg some (by kernel_rfl))
  f309 := Try.func177.trans (congrArg some (by kernel_rfl))
  f310 := Try.func178.trans (congrArg some (by kernel_rfl))
  f329 := Try.func188.trans (congrArg some (by kernel_rfl))
  f330 := Try.func189.trans (congrArg some (by kernel_rfl))
  f333 := Try.func187.trans (congrArg some (by kernel_rfl))
  f334 := Try.func190.trans (congrArg some (by kernel_rfl))
  f335 := Try.func191.trans (congrArg some (by kernel_rfl))
  f336 := Try.func167.trans (congrArg some (by kernel_rfl))
  f344 := Try.func196.trans (congrArg some (by kernel_rfl))
  t0 := Try.underlying0
  a0 := Try.isAgg0
  z0 := Try.sizeOf0
  v0 := Try.zeroValue0
  t3 := Try.underlying3
  a3 := Try.isAgg3
  z3 := Try.sizeOf3
  v3 := Try.zeroValue3
  t4 := Try.underlying4
  a4 := Try.isAgg4
  z4 := Try.sizeOf4
  v4 := Try.zeroValue4
  t5 := Try.underlying5
  a5 := Try.isAgg5
  z5 := Try.sizeOf5
  v5 := Try.zeroValue5
  t9 := Try.underlying9
  a9 := Try.isAgg9
  z9 := Try.sizeOf9
  v9 := Try.zeroValue9
  t31 := Try.underlying22
  a31 := Try.isAgg22
  z31 := Try.sizeOf22
  v31 := Try.zeroValue22
  t46 := Try.underlying69
  a46 := Try.isAgg69
  z46 := Try.sizeOf69
  v46 := Try.zeroValue69
  t51 := Try.underlying200
  a51 := Try.isAgg200
  z51 := Try.sizeOf200
  v51 := Try.zeroValue200
  t53 := Try.underlying202
  a53 := Try.isAgg202
  z53 := Try.sizeOf202
  v53 := Try.zeroValue202
  t131 := Try.underlying94
  a131 := Try.isAgg94
  z131 := Try.sizeOf94
  v131 := Try.zeroValue94
  t182 := Try.underlying193
  a182 := Try.isAgg193
  z182 := Try.sizeOf193
  v182 := Try.zeroValue193
  t183 := Try.underlying194
  a183 := Try.isAgg194
  z183 := Try.sizeOf194
  v183 := Try.zeroValue194
  t218 := Try.underlying210
  a218 := Try.isAgg210
  z218 := Try.sizeOf210
  v218 := Try.zeroValue210
  t222 := Try.underlying214
  a222 := Try.isAgg214
  z222 := Try.sizeOf214
  v222 := Try.zeroValue214
  t228 := Try.underlying219
  a228 := Try.isAgg219
  z228 := Try.sizeOf219
  v228 := Try.zeroValue219
  t229 := Try.underlying220
  a229 := Try.isAgg220
  z229 := Try.sizeOf220
  v229 := Try.zeroValue220 }
def Try.laysGw17_ren : Go.Shelf.Ren := ⟨fun | 17 => 151 | 15 => 165 | 20 => 185 | n => n, fun | 9 => 9 | 23 => 181 | 4 => 4 | 3 => 3 | 0 => 0 | 21 => 21 | n => n, fun | n => n⟩
theorem Try.laysGw17 : Go.Proofs.LaysGw.n17 Try.prog Try.laysGw17_ren := {
  mixed := by kernel_rfl
  f15 := Try.func165.trans (congrArg some (by kernel_rfl))
  f17 := Try.func151.trans (congrArg some (by kernel_rfl))
  f20 := Try.func185.trans (congrArg some (by kernel_rfl))
  t0 := Try.underlying0
  a0 := Try.isAgg0
  z0 := Try.sizeOf0
  v0 := Try.zeroValue0
  i0 := by kernel_rfl
  t3 := Try.underlying3
  a3 := Try.isAgg3
  z3 := Try.sizeOf3
  v3 := Try.zeroValue3
  i3 := by kernel_rfl
  t4 := Try.underlying4
  a4 := Try.isAgg4
  z4 := Try.sizeOf4
  v4 := Try.zeroValue4
  i4 := by kernel_rfl
  t9 := Try.underlying9
  a9 := Try.isAgg9
  z9 := Try.sizeOf9
  v9 := Try.zeroValue9
  i9 := by kernel_rfl
  t21 := Try.underlying21
  a21 := Try.isAgg21
  z21 := Try.sizeOf21
  v21 := Try.zeroValue21
  i21 := by kernel_rfl
  t23 := Try.underlying181
  a23 := Try.isAgg181
  z23 := Try.sizeOf181
  v23 := Try.zeroValue181
  i23 := by kernel_rfl }
def Try.lays150_ren : Go.Shelf.Ren := ⟨fun | 150 => 150 | 153 => 164 | 152 => 181 | 226 => 182 | 227 => 183 | 228 => 184 | 137 => 192 | 119 => 193 | 224 => 194 | 225 => 195 | 217 => 197 | 266 => 198 | n => n, fun | 9 => 9 | 4 => 4 | 3 => 3 | 5 => 5 | 21 => 21 | 117 => 206 | 116 => 205 | 0 => 0 | 46 => 69 | 124 => 218 | n => n, fun | n => n⟩
theorem Try.lays150 : Go.Proofs.Lays.n150 Try.prog Try.lays150_ren := {
  mixed := by kernel_rfl
  f119 := Try.func193.trans (congrArg some (by kernel_rfl))
  f137 := Try.func192.trans (congrArg some (by kernel_rfl))
  f150 := Try.func150.trans (congrArg some (by kernel_rfl))
  f152 := Try.func181.trans (congrArg some (by kernel_rfl))
  f153 := Try.func164.trans (congrArg some (by kernel_rfl))
  f217 := Try.func197.trans (congrArg some (by kernel_rfl))
  f224 := Try.func194.trans (congrArg some (by kernel_rfl))
  f225 := Try.func195.trans (congrArg some (by kernel_rfl))
  f226 := Try.func182.trans (congrArg some (by kernel_rfl))
  f227 := Try.func183.trans (congrArg some (by kernel_rfl))
  f228 := Try.func184.trans (congrArg some (by kernel_rfl))
  f266 := Try.func198.trans (congrArg some (by kernel_rfl))
  t0 := Try.underlying0
  a0 := Try.isAgg0
  z0 := Try.sizeOf0
  v0 := Try.zeroValue0
  t3 := Try.underlying3
  a3 := Try.isAgg3
  z3 := Try.sizeOf3
  v3 := Try.zeroValue3
  t4 := Try.underlying4
  a4 := Try.isAgg4
  z4 := Try.sizeOf4
  v4 := Try.zeroValue4
  t5 := Try.underlying5
  a5 := Try.isAgg5
  z5 := Try.sizeOf5
  v5 := Try.zeroValue5
  t9 := Try.underlying9
  a9 := Try.isAgg9
  z9 := Try.sizeOf9
  v9 := Try.zeroValue9
  t21 := Try.underlying21
  a21 := Try.isAgg21
  z21 := Try.sizeOf21
  v21 := Try.zeroValue21
  t46 := Try.underlying69
  a46 := Try.isAgg69
  z46 := Try.sizeOf69
  v46 := Try.zeroValue69
  t116 := Try.underlying205
  a116 := Try.isAgg205
  z116 := Try.sizeOf205
  t117 := Try.underlying206
  a117 := Try.isAgg206
  z117 := Try.sizeOf206
  v117 := Try.zeroValue206
  t124 := Try.underlying218
  a124 := Try.isAgg218
  z124 := Try.sizeOf218
  v124 := Try.zeroValue218 }
def Try.lays194_ren : Go.Shelf.Ren := ⟨fun | 194 => 118 | n => n, fun | 31 => 22 | 9 => 9 | 3 => 3 | 4 => 4 | 0 => 0 | n => n, fun | n => n⟩
theorem Try.lays194 : Go.Proofs.Lays.n194 Try.prog Try.lays194_ren := {
  mixed := by kernel_rfl
  f194 := Try.func118.trans (congrArg some (by kernel_rfl))
  t0 := Try.underlying0
  a0 := Try.isAgg0
  z0 := Try.sizeOf0
  v0 := Try.zeroValue0
  t3 := Try.underlying3
  a3 := Try.isAgg3
  z3 := Try.sizeOf3
  v3 := Try.zeroValue3
  t4 := Try.underlying4
  a4 := Try.isAgg4
  z4 := Try.sizeOf4
  v4 := Try.zeroValue4
  t9 := Try.underlying9
  a9 := Try.isAgg9
  z9 := Try.sizeOf9
  v9 := Try.zeroValue9
  t31 := Try.underlying22
  a31 := Try.isAgg22
  z31 := Try.sizeOf22
  v31 := Try.zeroValue22 }
open Go.Sort Go.RowKit in
theorem Try.slices_Sort_string (blk off cap : Nat) (ss : List (List UInt8)) (w : World) (hH : Holds encStr w blk off ss.toArray) (hblk : blk < w.heap.size) (hsz : ss.length < 4611686018427387904) :
    Calls Try.prog 147 #[.slice (some ⟨blk, off, none⟩) ss.length cap] w fun e w' =>
      e = .returned (.tuple #[]) ∧ ∃ n os, w' = grow (putRow encStr (Sort.ahead w n) blk off (ss.mergeSort fun x y => decide (x ≤ y)).toArray) os := Any.slices_Sort_string Try.lays190 blk off cap ss w hH hblk hsz
open Go.RowKit Go.Lib in
theorem Try.strings_ContainsAny_laid (s chars : ByteArray) (w : World) (hs : s.size < 4294967281) (hcs : chars.size < 4294967281) (has : ∀ (j : Nat) b, s.data.toList[j]? = some b → b.toNat < 128) (hac : ∀ (j : Nat) b, chars.data.toList[j]? = some b → b.toNat < 128) :
    Calls Try.prog 150 #[.string s, .string chars] w fun e w' => e = .returned (.bool (Lib.containsAny s.data.toList chars.data.toList)) ∧ Below w.heap.size w w' := Any.strings_ContainsAny_laid Try.lays150 (by kernel_rfl) s chars w hs hcs has hac
open Go.RowKit Go.Lib in
theorem Try.strings_ContainsFunc_grows (g : Nat) (lb : Array Value) (eg : ∀ args w, (callFunc g args).run Try.prog w = .ok (.enter g args) w) (p : Nat → Bool) (s : ByteArray) (w : World) (hp : PredGrows Try.prog g lb p w) :
    Calls Try.prog 151 #[.string s, .func (.func g) #[] lb] w fun e w' => e = .returned (.bool (decide (0 ≤ Lib.idxFunc p true s))) ∧ Below w.heap.size w w' := Any.strings_ContainsFunc_grows Try.laysGw17 g lb eg p s w hp
open Go.RowKit Go.Lib Go.Sort in
theorem Try.slices_Compact_string (blk off cap : Nat) (zs : List (List UInt8)) (w : World) (hH : Holds encStr w blk off zs.toArray) (hsz : zs.length ≤ 9223372036854775807) (hcap : zs.length ≤ cap) :
    Calls Try.prog 118 #[.slice (some ⟨blk, off, none⟩) zs.length cap] w fun e w' => e = .returned (.slice (some ⟨blk, off, none⟩) (Lib.compact zs).length cap) ∧ ∃ q, w' = putRow encStr (Sort.ahead w q) blk off (Lib.compact zs ++ List.replicate (zs.length - (Lib.compact zs).length) []).toArray := Any.slices_Compact_string Try.lays194 blk off cap zs w hH hsz hcap
open Go.RowKit Go.Lib Go.Sort in
theorem Try.slices_Compact_string_empty (a : Option Addr) (cap : Nat) (w : World) :
    Calls Try.prog 118 #[.slice a 0 cap] w fun e w' => e = .returned (.slice a 0 cap) ∧ w' = w := Any.slices_Compact_string_empty Try.lays194 a cap w
open Go.RowKit Go.Sort in
theorem Try.slices_Sort_string_none (p : Option Addr) (cap : Nat) (w : World) :
    Calls Try.prog 147 #[.slice p 0 cap] w fun e w' => e = .returned (.tuple #[]) ∧ w' = w := Any.slices_Sort_string_none Try.lays190 p cap w
end Go.Proofs
end
section
set_option linter.unusedSimpArgs false
namespace Go.Vc
/-- A contract of mine as a contract in the plain sense. -/
theorem calls_of_fn {P : Program} {f : FuncId} {args : Array Value} {w : World} {R : Value → World → Prop} {Q : Ending → World → Prop} (hb : HasBody P f) (h : FnC P f args w R) (hR : ∀ v w', R v w' → Q (.returned v) w') : Calls P f args w Q := by
  unfold FnC at h
  rw [hb args w] at h
  have h : Ret P f args w R := h
  refine Calls.mono h ?_
  rintro e w' ⟨v, rfl, hr⟩
  exact hR v w' hr
end Go.Vc
namespace Go.Proofs.Ytnofalhkapmcnaa
open Go.Vc Go.Key
set_option maxRecDepth 100000
theorem hbCF : HasBody Try.prog 151 := hasBody_of Try.func151 (by kernel_rfl)
theorem hbCA : HasBody Try.prog 150 := hasBody_of Try.func150 (by kernel_rfl)
def outR (x : Nat) : Bool := decide (x < 32) || decide (126 < x)
theorem value1_c (x : Nat) (w : World) : FnC Try.prog 152 #[.int .i32 (x : Int)] w fun r w' => r = .bool (outR x) ∧ w' = w := by
  refine enter152 _ ?_
  unfold B152
  unfold outR
  by_cases h1 : x < 32
  · rw [decide_eq_true h1]
    repeat' (first | (simp (disch := omega) only [push_cast, ↓reduceIte, zA, zG, zB, zH, zI, zC, zJ, zK, zL, zD, zE, zF, zM, zN, zO, zP, zQ, reduceCtorEq, not_true_eq_false, not_false_eq_true]) | (first | refine iE ?_ ?_ | refine iD ?_ ?_ | refine iQ ?_ ?_ | refine iV ?_ ?_) <;> intro _ | refine And.intro (by omega) ?_ | refine drawn_q ?_ | fail)
    all_goals simp
  · rw [decide_eq_false h1]
    repeat' (first | (simp (disch := omega) only [push_cast, ↓reduceIte, zA, zG, zB, zH, zI, zC, zJ, zK, zL, zD, zE, zF, zM, zN, zO, zP, zQ, reduceCtorEq, not_true_eq_false, not_false_eq_true]) | (first | refine iE ?_ ?_ | refine iD ?_ ?_ | refine iQ ?_ ?_ | refine iV ?_ ?_) <;> intro _ | refine And.intro (by omega) ?_ | refine drawn_q ?_ | fail)
    first | exact ⟨congrArg Value.bool (by first | (rw [Bool.false_or]; exact decide_eq_decide.2 (by omega)) | exact decide_eq_decide.2 (by omega)), rfl⟩ | (exact congrArg Value.bool (by first | (rw [Bool.false_or]; exact decide_eq_decide.2 (by omega)) | exact decide_eq_decide.2 (by omega)))
/-- All bytes are of seven bits. -/
def Asc (s : ByteArray) : Prop := ∀ i (h : i < s.size), s[i].toNat < 128
instance (s : ByteArray) : Decidable (Asc s) := inferInstanceAs (Decidable (∀ i (h : i < s.size), s[i].toNat < 128))
theorem idx_out {s : ByteArray} : (decide (0 ≤ Go.Lib.idxFunc outR true s) = false) ↔ ∀ i (h : i < s.size), 32 ≤ s[i].toNat ∧ s[i].toNat ≤ 126 := by
  have key : ∀ (f pos : Nat), s.size - pos ≤ f → (¬ 0 ≤ Go.Lib.idxFuncFrom outR true s f pos ↔ ∀ i (h : i < s.size), pos ≤ i → 32 ≤ s[i].toNat ∧ s[i].toNat ≤ 126) := by
    intro f
    induction f with
    | zero =>
      intro pos hp
      unfold Go.Lib.idxFuncFrom
      exact ⟨fun _ i hi h => by omega, fun _ => by omega⟩
    | succ f ih =>
      intro pos hp
      unfold Go.Lib.idxFuncFrom
      by_cases hlt : pos < s.size
      · rw [if_pos hlt]
        by_cases hb : s[pos].toNat < 128
        · rw [decode_ascii s pos hlt hb]
          dsimp only
          by_cases ho : outR s[pos].toNat = true
          · rw [if_pos ho]
            refine ⟨fun h => absurd (by omega) h, fun h => ?_⟩
            have := h pos hlt (Nat.le_refl _)
            simp [outR] at ho
            omega
          · rw [if_neg ho, ih (pos + 1) (by omega)]
            refine ⟨fun h i hi hpi => ?_, fun h i hi hpi => h i hi (by omega)⟩
            by_cases he : i = pos
            · subst he
              simp [outR] at ho
              omega
            · exact h i hi (by omega)
        · have hd := (decode_high s pos hlt (by omega)).1
          have ho : outR (Utf8.decode s pos).1 = true := by simp [outR]; omega
          rw [if_pos ho]
          refine ⟨fun h => absurd (by omega) h, fun h => ?_⟩
          have := h pos hlt (Nat.le_refl _)
          omega
      · rw [if_neg hlt]
        exact ⟨fun _ i hi h => by omega, fun _ => by omega⟩
  unfold Go.Lib.idxFunc
  rw [decide_eq_false_iff_not, key s.size 0 (by omega)]
  exact ⟨fun h i hi => h i hi (Nat.zero_le _), fun h i hi _ => h i hi⟩
abbrev quotes : ByteArray := ⟨#[34, 92]⟩
/-- What is told of the bytes that bar a text. -/
def CanyAt (s : ByteArray) : Prop := ∀ w, FnC Try.prog 150 #[.string s, .string quotes] w fun r w' => (∃ t, r = .bool t ∧ (Asc s → (t = true ↔ ∃ i, ∃ h : i < s.size, s[i].toNat = 34 ∨ s[i].toNat = 92))) ∧ Later w w'
theorem any_is (chars : List UInt8) : ∀ l : List UInt8, Go.Lib.containsAny l chars = true ↔ ∃ b ∈ l, chars.contains b = true := by
  intro l
  unfold Go.Lib.containsAny
  rw [decide_eq_true_eq]
  induction l with
  | nil => simp [Go.Lib.indexAny]
  | cons b l ih =>
    unfold Go.Lib.indexAny
    by_cases hb : chars.contains b = true
    · rw [if_pos hb]
      exact ⟨fun _ => ⟨b, by simp, hb⟩, fun _ => by omega⟩
    · have hb' : chars.contains b = false := by simpa using hb
      rw [if_neg hb]
      have hge := Go.Lib.indexAny_ge chars l
      by_cases he : (Go.Lib.indexAny l chars == -1) = true
      · rw [if_pos he]
        have he' : Go.Lib.indexAny l chars = -1 := by simpa using he
        rw [he'] at ih
        constructor
        · intro h; omega
        · rintro ⟨x, hx, hc⟩
          rcases List.mem_cons.1 hx with rfl | hx
          · rw [hb'] at hc; cases hc
          · exact ih.2 ⟨x, hx, hc⟩
      · rw [if_neg he]
        have he' : Go.Lib.indexAny l chars ≠ -1 := by simpa using he
        constructor
        · intro h
          obtain ⟨x, hx, hc⟩ := ih.1 (by omega)
          exact ⟨x, List.mem_cons_of_mem _ hx, hc⟩
        · rintro _; omega
theorem cany_asc (s : ByteArray) (ha : Asc s) (hs : s.size ≤ 1000) : CanyAt s := by
  intro w
  refine FnC.of_calls hbCA (Try.strings_ContainsAny_laid s quotes w (by omega) (by decide) (fun j b hb => ?_) (fun j b hb => ?_)) ?_
  · obtain ⟨hj, rfl⟩ := List.getElem?_eq_some_iff.1 hb
    exact ha j (by simpa using hj)
  · match j, hb with
    | 0, hb => cases hb; decide
    | 1, hb => cases hb; decide
    | n + 2, hb => simp at hb
  · rintro e w' ⟨rfl, hl⟩
    refine ⟨_, rfl, ⟨_, rfl, fun _ => ?_⟩, hl⟩
    rw [any_is]
    constructor
    · rintro ⟨b, hb, hc⟩
      obtain ⟨i, hi, rfl⟩ := List.getElem_of_mem hb
      refine ⟨i, by simpa using hi, ?_⟩
      simp at hc
      rcases hc with hc | hc
      · left; exact congrArg UInt8.toNat hc
      · right; exact congrArg UInt8.toNat hc
    · rintro ⟨i, hi, hc⟩
      refine ⟨s[i], ?_, ?_⟩
      · have : s[i] = s.data.toList[i]'(by simpa using hi) := rfl
        rw [this]
        exact List.getElem_mem _
      · simp
        rcases hc with hc | hc
        · left; exact UInt8.toNat_inj.1 hc
        · right; exact UInt8.toNat_inj.1 hc
theorem value_c (s : ByteArray) (w : World) (hC : s.size ≤ 24 → CanyAt s) : FnC Try.prog 121 #[.string s] w fun r w' => r = .bool (decide (VlOk s)) ∧ Later w w' := by
  refine enter121 _ ?_
  unfold B121
  by_cases h24 : s.size ≤ 24
  case neg =>
    have hno : decide (VlOk s) = false := decide_eq_false fun h => h24 h.2
    repeat' (first | (simp (disch := omega) only [push_cast, ↓reduceIte, zA, zG, zB, zH, zI, zC, zJ, zK, zL, zD, zE, zF, zM, zN, zO, zP, zQ, reduceCtorEq, not_true_eq_false, not_false_eq_true]) | (first | refine iE ?_ ?_ | refine iD ?_ ?_ | refine iQ ?_ ?_ | refine iV ?_ ?_) <;> intro _ | refine And.intro (by omega) ?_ | refine drawn_q ?_ | fail)
    first | exact ⟨by rw [hno], Later.refl _⟩ | exact Later.refl _
  repeat' (first | (simp (disch := omega) only [push_cast, ↓reduceIte, zA, zG, zB, zH, zI, zC, zJ, zK, zL, zD, zE, zF, zM, zN, zO, zP, zQ, reduceCtorEq, not_true_eq_false, not_false_eq_true]) | (first | refine iE ?_ ?_ | refine iD ?_ ?_ | refine iQ ?_ ?_ | refine iV ?_ ?_) <;> intro _ | refine And.intro (by omega) ?_ | refine drawn_q ?_ | fail)
  refine (hC h24 w).mono ?_
  rintro _ w1 ⟨⟨t, rfl, ht⟩, l1⟩
  have hidx : FnC Try.prog 151 #[.string s, .func (.func 152) #[] #[]] w1 fun r w' => r = .bool (decide (0 ≤ Go.Lib.idxFunc outR true s)) ∧ Later w1 w' := by
    refine FnC.of_calls hbCF (Try.strings_ContainsFunc_grows 152 #[] hb152 outR s w1 ?_) ?_
    · intro W x hx hW
      refine calls_of_fn hb152 (value1_c x W) ?_
      rintro v w' ⟨rfl, rfl⟩
      exact ⟨rfl, Later.refl _⟩
    · rintro e w' ⟨rfl, hl⟩
      exact ⟨_, rfl, rfl, hl⟩
  have asc_of : decide (0 ≤ Go.Lib.idxFunc outR true s) = false → Asc s := fun h i hi => by have := idx_out.1 h i hi; omega
  cases t with
  | true =>
    have hno : decide (VlOk s) = false := decide_eq_false fun h => by
      have ha : Asc s := fun i hi => by
        have := h.1 i hi
        simp [vlB] at this
        omega
      obtain ⟨i, hi, hc⟩ := (ht ha).1 rfl
      have := h.1 i hi
      simp [vlB] at this
      omega
    repeat' (first | (simp (disch := omega) only [push_cast, ↓reduceIte, zA, zG, zB, zH, zI, zC, zJ, zK, zL, zD, zE, zF, zM, zN, zO, zP, zQ, reduceCtorEq, not_true_eq_false, not_false_eq_true]) | (first | refine iE ?_ ?_ | refine iD ?_ ?_ | refine iQ ?_ ?_ | refine iV ?_ ?_) <;> intro _ | refine And.intro (by omega) ?_ | refine drawn_q ?_ | fail)
    first | exact ⟨by rw [hno], l1⟩ | exact l1
  | false =>
    repeat' (first | (simp (disch := omega) only [push_cast, ↓reduceIte, zA, zG, zB, zH, zI, zC, zJ, zK, zL, zD, zE, zF, zM, zN, zO, zP, zQ, reduceCtorEq, not_true_eq_false, not_false_eq_true]) | (first | refine iE ?_ ?_ | refine iD ?_ ?_ | refine iQ ?_ ?_ | refine iV ?_ ?_) <;> intro _ | refine And.intro (by omega) ?_ | refine drawn_q ?_ | fail)
    refine hidx.mono ?_
    rintro _ w2 ⟨rfl, l2⟩
    cases hi : decide (0 ≤ Go.Lib.idxFunc outR true s) with
    | true =>
      have hno : decide (VlOk s) = false := decide_eq_false fun h => by
        have : decide (0 ≤ Go.Lib.idxFunc outR true s) = false := idx_out.2 fun i hi => by
          have := h.1 i hi
          simp [vlB] at this
          omega
        rw [hi] at this; cases this
      repeat' (first | (simp (disch := omega) only [push_cast, ↓reduceIte, zA, zG, zB, zH, zI, zC, zJ, zK, zL, zD, zE, zF, zM, zN, zO, zP, zQ, reduceCtorEq, not_true_eq_false, not_false_eq_true]) | (first | refine iE ?_ ?_ | refine iD ?_ ?_ | refine iQ ?_ ?_ | refine iV ?_ ?_) <;> intro _ | refine And.intro (by omega) ?_ | refine drawn_q ?_ | fail)
      first | exact ⟨by rw [hno], (l1.trans l2)⟩ | exact (l1.trans l2)
    | false =>
      have hasc := asc_of hi
      have hyes : decide (VlOk s) = true := decide_eq_true ⟨fun i hii => by
        have h1 := idx_out.1 hi i hii
        have h2 : ¬ (s[i].toNat = 34 ∨ s[i].toNat = 92) := fun hc => by
          have := (ht hasc).2 ⟨i, hii, hc⟩
          cases this
        simp [vlB]
        omega, h24⟩
      repeat' (first | (simp (disch := omega) only [push_cast, ↓reduceIte, zA, zG, zB, zH, zI, zC, zJ, zK, zL, zD, zE, zF, zM, zN, zO, zP, zQ, reduceCtorEq, not_true_eq_false, not_false_eq_true]) | (first | refine iE ?_ ?_ | refine iD ?_ ?_ | refine iQ ?_ ?_ | refine iV ?_ ?_) <;> intro _ | refine And.intro (by omega) ?_ | refine drawn_q ?_ | fail)
      first | exact ⟨by rw [hyes], (l1.trans l2)⟩ | exact (l1.trans l2)
theorem cany_all (s : ByteArray) (hs : s.size ≤ 1000) : CanyAt s := by
  by_cases ha : Asc s
  · exact cany_asc s ha hs
  intro w
  refine FnC.of_calls hbCA (Go.Proofs.Any.ContainsAny_quotes Try.lays150 (by kernel_rfl) s w (by omega)) ?_
  rintro e w' ⟨⟨t, rfl⟩, hl⟩
  exact ⟨_, rfl, ⟨t, rfl, fun h => absurd h ha⟩, hl⟩
theorem tvalue_c (s : ByteArray) (w : World) : FnC Try.prog 121 #[.string s] w fun r w' => r = .bool (decide (VlOk s)) ∧ Later w w' := value_c s w fun h => cany_all s (by omega)
end Go.Proofs.Ytnofalhkapmcnaa
end
