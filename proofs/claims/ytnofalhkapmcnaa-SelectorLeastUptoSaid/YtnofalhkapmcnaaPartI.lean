/- The conditions of a filter, one behind the other: a function that calls itself through its own variable. -/
import Derived.Test.YtnofalhkapmcnaaPartH
set_option linter.all false
open Nat renaming reduceEqDiff → zA, reducePow → zB, reduceMul → zC, reduceAdd → zD, reduceSub → zE, reduceLeDiff → zF
open Int renaming reduceToNat → zG, reducePow → zH, reduceNeg → zI, reduceMul → zJ, reduceAdd → zK, reduceSub → zL, reduceLT → zM, reduceLE → zN, reduceEq → zO, reduceMod → zP, reduceDiv → zQ
section
set_option linter.unusedSimpArgs false
namespace Go.Vc
mutual
def FT.conds : FT → List FT
  | .mk op d v kv l => (if op = 1 ∨ op = 2 then [.mk op d v kv l] else []) ++ FT.condsL l
def FT.condsL : List FT → List FT
  | [] => []
  | k :: l => k.conds ++ FT.condsL l
end
theorem FT.conds_is (f : FT) : f.conds = (if f.op = 1 ∨ f.op = 2 then [f] else []) ++ f.kids.flatMap FT.conds := by
  obtain ⟨op, d, v, kv, l⟩ := f
  have : ∀ l : List FT, FT.condsL l = l.flatMap FT.conds := by
    intro l
    induction l with
    | nil => rfl
    | cons k l ih => show k.conds ++ FT.condsL l = _; rw [ih]; rfl
  show _ ++ FT.condsL l = _
  rw [this]
  rfl
theorem FT.conds_dims : ∀ f : FT, f.conds.map FT.dim = f.dims := by
  intro f
  induction f using FT.ind with
  | h f ih =>
    rw [FT.conds_is, FT.dims_is, List.map_append]
    congr 1
    · split <;> rfl
    · rw [List.map_flatMap]
      generalize f.kids = l at *
      induction l with
      | nil => rfl
      | cons k l ihl => rw [List.flatMap_cons, List.flatMap_cons, ih k (by simp), ihl fun x hx => ih x (by simp [hx])]
theorem FT.conds_ok {w : World} : ∀ f : FT, f.Ok w → ∀ k ∈ f.conds, k.Ok w := by
  intro f
  induction f using FT.ind with
  | h f ih =>
    intro hf k hk
    rw [FT.conds_is] at hk
    rcases List.mem_append.1 hk with h | h
    · split at h
      · rw [List.mem_singleton.1 h]; exact hf
      · cases h
    · obtain ⟨x, hx, hk⟩ := List.mem_flatMap.1 h
      exact ih x hx ((FT.ok_iff.1 hf).2.2.2.2 x hx) k hk
theorem FT.conds_cnt (f : FT) : f.conds.length ≤ f.cnt := by
  have h := FT.dims_cnt f
  rw [← FT.conds_dims, List.length_map] at h
  exact h
/-- Their kinds, for the words of the document. -/
theorem FT.cnt_kids (f : FT) : (f.kids.map FT.cnt).sum + 1 = f.cnt := by
  rw [FT.cnt_is]
  congr 1
  generalize f.kids = l
  induction l with
  | nil => rfl
  | cons k l ih => show _ = k.cnt + FT.cntL l; rw [← ih]; rfl
end Go.Vc
namespace Go.Proofs.Ytnofalhkapmcnaa
open Go.Vc Go.Key
set_option maxRecDepth 100000
def zeroF : FT := .mk 0 ⟨#[]⟩ ⟨#[]⟩ (.slice none 0 0) []
theorem ftC_one {f : FT} {w : World} (h : f.Ok w) : ∀ u ∈ ftC f, u.oneCell' = true := by
  obtain ⟨o, c, hkv, _⟩ := RecS.slice (FT.ok_iff.1 h).2.2.2.1
  intro u hu
  simp only [ftC, List.mem_cons, List.not_mem_nil, or_false] at hu
  rcases hu with rfl | rfl | rfl | rfl
  · rfl
  · rfl
  · rfl
  · rw [hkv]; rfl
abbrev pt (k : Nat) : Value := .pointer (some ⟨k, 0, none⟩)
/-- The captured variables: the list so far, and the function itself. -/
structure WSt (w0 : World) (ko kw : Nat) (w : World) (acc : List FT) : Prop where
  l : Later w0 w
  hko : w0.heap.size ≤ ko
  hkw : w0.heap.size ≤ kw
  out : ∃ ov, Blk w ko #[ov] 37 ∧ OwnR ftC 4 w w0.heap.size 39 ov acc
  fn : Blk w kw #[.func (.func 149) #[] #[pt ko, pt kw]] 178
/-- What holds when some of the operations are done. -/
def IB (ko kw kf : Nat) (f : FT) (acc : List FT) (ov : Value) (w0 w1 : World) (b0 b1 b2 b3 b4 b5 b6 b7 : Bool) (s1 s2 s3 s14 s15 s16 s17 s18 s19 : Value) (w : World) : Prop :=
  (s1 = pt ko ∧ s2 = pt kw ∧ s3 = pt kf) ∧
  ((b4 = false ∧ b5 = false ∧ b6 = false ∧ b7 = false ∧ Later w1 w ∧ (b0 = true → s14 = ov) ∧ (b1 = true → s15 = .agg (ftC f).toArray) ∧ (b2 = true → s16 = .int .i64 (acc.length : Int)) ∧ (b3 = true → ∃ b, s17 = .slice (some ⟨b, 0, none⟩) 1 1 ∧ Blk w b (ftC zeroF).toArray 39)) ∨
   (b0 = true ∧ b1 = true ∧ b2 = true ∧ b3 = true ∧ b4 = true ∧ s15 = .agg (ftC f).toArray ∧ s16 = .int .i64 (acc.length : Int) ∧ Later w0 w ∧ Blk w kf (ftC f).toArray 39 ∧ Blk w kw #[.func (.func 149) #[] #[pt ko, pt kw]] 178 ∧
     ∃ g c, g ≠ kf ∧ s18 = .slice (some ⟨g, 0, none⟩) (acc.length + 1) c ∧ OwnR ftC 4 w w0.heap.size 39 (.slice (some ⟨g, 0, none⟩) (acc.length + 1) c) (acc ++ [if b6 = true then f else zeroF]) ∧
       (b5 = true → s19 = .pointer (some ⟨g, acc.length * 4, none⟩)) ∧ Blk w ko #[if b7 = true then .slice (some ⟨g, 0, none⟩) (acc.length + 1) c else ov] 37))
theorem waits_at' {dps : List (List Nat)} {D : Nat → Bool} {j : Nat} (h : waitsOk dps D j) {ds : List Nat} (hd : dps[j]? = some ds) {i : Nat} (hi : i ∈ ds) : D i = true := h ds hd i hi
theorem grown_not {w w' : World} {r : Option Nat} {k : Nat} {cs : Array Value} {e : TypeId} (g : w.grownBy w' r) (h : Blk w k cs e) (hk : r ≠ some k) : Blk w' k cs e := by
  unfold Blk at *
  rw [g.block k (Blk.lt h) fun he => hk (by first | exact he | exact he.symm)]; exact h
theorem own_succ {w : World} {base s n : Nat} {e : TypeId} {v : Value} {xs : List Value} (h : w.ownsRow base e s v (n + 1) xs) : ∃ g c, v = .slice (some ⟨g, 0, none⟩) (n + 1) c := by
  obtain ⟨_, h⟩ := h
  rcases h with ⟨_, h0⟩ | ⟨g, cap, cur, hv, _⟩
  · simp at h0
  · exact ⟨g, cap, hv⟩
theorem blk_ne {w : World} {k j : Nat} {cs ds : Array Value} {e e' : TypeId} (h : Blk w k cs e) (g : Blk w j ds e') (hne : e ≠ e') : k ≠ j := by
  intro hk
  subst hk
  unfold Blk at *
  rw [h] at g
  simp only [Option.some.injEq, Obj.cells.injEq] at g
  exact hne g.2.1
set_option maxHeartbeats 2000000 in
theorem reg_c {w0 w1 : World} {ko kw kf oc : Nat} {oo : Option Addr} {f : FT} {acc : List FT} {K : Env → World → Prop} {σ : Env} (e1 : σ 1 = pt ko) (e2 : σ 2 = pt kw) (e3 : σ 3 = pt kf) (l01 : Later w0 w1) (hf : f.Ok w0) (hko : w0.heap.size ≤ ko) (hkw : w0.heap.size ≤ kw)
    (Bo : Blk w1 ko #[.slice oo acc.length oc] 37) (ho : OwnR ftC 4 w1 w0.heap.size 39 (.slice oo acc.length oc) acc) (Bw : Blk w1 kw #[.func (.func 149) #[] #[pt ko, pt kw]] 178) (B1 : Blk w1 kf (ftC f).toArray 39)
    (hbig : ∀ k, (Value.slice oo acc.length oc).ownBlock = some k → k < kf) (hkf : kf < w1.heap.size) (hcn : acc.length ≤ 100000000)
    (hK : ∀ (σ1 : Env) (w2 : World), σ1 2 = pt kw → σ1 3 = pt kf → Blk w2 kf (ftC f).toArray 39 → WSt w0 ko kw w2 (acc ++ [f]) → K σ1 w2) :
    anyA Try.prog r149_2 [[], [], [0], [], [0, 3, 0, 1, 2, 3], [4, 2, 0, 1, 2, 3, 4], [5, 1, 4, 0, 1, 2, 3, 4], [4, 4, 0, 1, 2, 3, 4]] K σ w1 := by
  refine ⟨fun D σ w => IB ko kw kf f acc (.slice oo acc.length oc) w0 w1 (D 0) (D 1) (D 2) (D 3) (D 4) (D 5) (D 6) (D 7) (σ 1) (σ 2) (σ 3) (σ 14) (σ 15) (σ 16) (σ 17) (σ 18) (σ 19) w, ?_, ?_, ?_⟩
  · intro w' hl
    exact ⟨⟨e1, e2, e3⟩, .inl ⟨rfl, rfl, rfl, rfl, hl, (fun h => by cases h), (fun h => by cases h), (fun h => by cases h), (fun h => by cases h)⟩⟩
  · intro D σ1 w2 j o hcl hI hoj hDj hwt
    obtain ⟨⟨g1, g2, g3⟩, hI⟩ := hI
    match j, hoj with
    | 0, hoj =>
      obtain rfl := Option.some.inj hoj
      rcases hI with ⟨d4, d5, d6, d7, l2, k0, k1, k2, k3⟩ | ⟨q0, _⟩
      · have bo := (Bo.chg (Chg.of_later (ks := []) l2) (by simp)).cell 0
        repeat' (first | (simp (disch := omega) only [push_cast, ↓reduceIte, zA, zG, zB, zH, zI, zC, zJ, zK, zL, zD, zE, zF, zM, zN, zO, zP, zQ, reduceCtorEq, not_true_eq_false, not_false_eq_true, g1, bo]) | (first | refine iE ?_ ?_ | refine iD ?_ ?_ | refine iQ ?_ ?_ | refine iV ?_ ?_) <;> intro _ | refine And.intro (by omega) ?_ | refine drawn_q ?_ | fail)
        exact ⟨⟨rfl, g2, g3⟩, .inl ⟨d4, d5, d6, d7, l2, fun _ => rfl, k1, k2, k3⟩⟩
      · rw [q0] at hDj; cases hDj
    | 1, hoj =>
      obtain rfl := Option.some.inj hoj
      rcases hI with ⟨d4, d5, d6, d7, l2, k0, k1, k2, k3⟩ | ⟨_, q0, _⟩
      · have f2 : cellsAt w2 ⟨kf, 0, none⟩ 4 = some (ftC f) := Blk.cellsAt (l := ftC f) (ftLater B1 l2)
        repeat' (first | (simp (disch := omega) only [push_cast, ↓reduceIte, zA, zG, zB, zH, zI, zC, zJ, zK, zL, zD, zE, zF, zM, zN, zO, zP, zQ, reduceCtorEq, not_true_eq_false, not_false_eq_true, g3, f2]) | (first | refine iE ?_ ?_ | refine iD ?_ ?_ | refine iQ ?_ ?_ | refine iV ?_ ?_) <;> intro _ | refine And.intro (by omega) ?_ | refine drawn_q ?_ | fail)
        exact ⟨⟨g1, g2, rfl⟩, .inl ⟨d4, d5, d6, d7, l2, k0, fun _ => rfl, k2, k3⟩⟩
      · rw [q0] at hDj; cases hDj
    | 2, hoj =>
      obtain rfl := Option.some.inj hoj
      rcases hI with ⟨d4, d5, d6, d7, l2, k0, k1, k2, k3⟩ | ⟨_, _, q0, _⟩
      · have h14 := k0 (waits_at' hwt rfl (by simp))
        repeat' (first | (simp (disch := omega) only [push_cast, ↓reduceIte, zA, zG, zB, zH, zI, zC, zJ, zK, zL, zD, zE, zF, zM, zN, zO, zP, zQ, reduceCtorEq, not_true_eq_false, not_false_eq_true, h14]) | (first | refine iE ?_ ?_ | refine iD ?_ ?_ | refine iQ ?_ ?_ | refine iV ?_ ?_) <;> intro _ | refine And.intro (by omega) ?_ | refine drawn_q ?_ | fail)
        exact ⟨⟨g1, g2, g3⟩, .inl ⟨d4, d5, d6, d7, l2, fun _ => rfl, k1, fun _ => rfl, k3⟩⟩
      · rw [q0] at hDj; cases hDj
    | 3, hoj =>
      obtain rfl := Option.some.inj hoj
      rcases hI with ⟨d4, d5, d6, d7, l2, k0, k1, k2, k3⟩ | ⟨_, _, _, q0, _⟩
      · repeat' (first | (simp (disch := omega) only [push_cast, ↓reduceIte, zA, zG, zB, zH, zI, zC, zJ, zK, zL, zD, zE, zF, zM, zN, zO, zP, zQ, reduceCtorEq, not_true_eq_false, not_false_eq_true]) | (first | refine iE ?_ ?_ | refine iD ?_ ?_ | refine iQ ?_ ?_ | refine iV ?_ ?_) <;> intro _ | refine And.intro (by omega) ?_ | refine drawn_q ?_ | fail)
        exact ⟨⟨g1, g2, g3⟩, .inl ⟨d4, d5, d6, d7, l2.trans (later_alloc _ _), k0, k1, k2, fun _ => ⟨_, rfl, Blk.new _ _ _⟩⟩⟩
      · rw [q0] at hDj; cases hDj
    | 4, hoj =>
      obtain rfl := Option.some.inj hoj
      rcases hI with ⟨d4, d5, d6, d7, l2, k0, k1, k2, k3⟩ | ⟨_, _, _, _, q0, _⟩
      · have D0 := waits_at' hwt rfl (i := 0) (by simp)
        have D1 := waits_at' hwt rfl (i := 1) (by simp)
        have D2 := waits_at' hwt rfl (i := 2) (by simp)
        have D3 := waits_at' hwt rfl (i := 3) (by simp)
        have h14 := k0 D0
        have h15 := k1 D1
        have h16 := k2 D2
        obtain ⟨b, h17, Bb⟩ := k3 D3
        have ho2 := ho.later l2
        repeat' (first | (simp (disch := omega) only [push_cast, ↓reduceIte, zA, zG, zB, zH, zI, zC, zJ, zK, zL, zD, zE, zF, zM, zN, zO, zP, zQ, reduceCtorEq, not_true_eq_false, not_false_eq_true, h14, h17]) | (first | refine iE ?_ ?_ | refine iD ?_ ?_ | refine iQ ?_ ?_ | refine iV ?_ ?_) <;> intro _ | refine And.intro (by omega) ?_ | refine drawn_q ?_ | fail)
        refine vAppend_at Try.underlying37 ti39 rfl (by decide) ho2 (RecS.lit1 (enc := ftC) (k := 4) (y := zeroF) rfl Bb) (by decide) (by unfold maxLen; simp only [List.length_cons, List.length_nil]; omega) (by simp only [List.length_cons, List.length_nil]; omega) (Nat.le_trans l01.size l2.size) ?_
        intro v' w' ho' hg hs
        obtain ⟨g, c, rfl⟩ := own_succ ho'
        have hgk : g ≠ kf := by
          rcases hs with h | h
          · have := hbig g (by rw [← h]; rfl)
            omega
          · have h : some g = some w2.heap.size := h
            have := Option.some.inj h
            have := l2.size
            omega
        have Bw2 := Bw.chg (Chg.of_later (ks := []) l2) (by simp)
        have Bo2 := Bo.chg (Chg.of_later (ks := []) l2) (by simp)
        have hB2 := grown_not hg (ftLater B1 l2) (fun h => by have := hbig kf h; omega)
        repeat' (first | (simp (disch := omega) only [push_cast, ↓reduceIte, zA, zG, zB, zH, zI, zC, zJ, zK, zL, zD, zE, zF, zM, zN, zO, zP, zQ, reduceCtorEq, not_true_eq_false, not_false_eq_true]) | (first | refine iE ?_ ?_ | refine iD ?_ ?_ | refine iQ ?_ ?_ | refine iV ?_ ?_) <;> intro _ | refine And.intro (by omega) ?_ | refine drawn_q ?_ | fail)
        refine ⟨⟨g1, g2, g3⟩, .inr ⟨D0, D1, D2, D3, rfl, h15, h16, (l01.trans l2).appended ho2 (Nat.le_refl _) hg, hB2, grown_ne ho2 hg Bw2 (by decide), g, c, hgk, rfl, ?_, ?_, ?_⟩⟩
        · show OwnR ftC 4 w' w0.heap.size 39 _ (acc ++ [if D 6 = true then f else zeroF])
          rw [d6]
          unfold OwnR
          simpa using ho'
        · intro h
          have h : D 5 = true := h
          rw [d5] at h; cases h
        · show Blk w' ko #[if D 7 = true then _ else _] _
          rw [d7]
          exact grown_ne ho2 hg Bo2 (by decide)
      · rw [q0] at hDj; cases hDj
    | 5, hoj =>
      obtain rfl := Option.some.inj hoj
      have D4 := waits_at' hwt rfl (i := 4) (by simp)
      rcases hI with ⟨d4, _⟩ | ⟨q0, q1, q2, q3, q4, h15, h16, hl, hB, hw, g, c, hgk, h18, hO, h19, hBo⟩
      · rw [d4] at D4; cases D4
      · have t1 : ((acc.length : Int)).toNat = acc.length := Int.toNat_natCast _
        repeat' (first | (simp (disch := omega) only [push_cast, ↓reduceIte, zA, zG, zB, zH, zI, zC, zJ, zK, zL, zD, zE, zF, zM, zN, zO, zP, zQ, reduceCtorEq, not_true_eq_false, not_false_eq_true, h18, h16, t1, addr_add_eq, Nat.zero_add]) | (first | refine iE ?_ ?_ | refine iD ?_ ?_ | refine iQ ?_ ?_ | refine iV ?_ ?_) <;> intro _ | refine And.intro (by omega) ?_ | refine drawn_q ?_ | fail)
        exact ⟨⟨g1, g2, g3⟩, .inr ⟨q0, q1, q2, q3, q4, h15, rfl, hl, hB, hw, g, c, hgk, rfl, hO, fun _ => rfl, hBo⟩⟩
    | 6, hoj =>
      obtain rfl := Option.some.inj hoj
      have D5 := waits_at' hwt rfl (i := 5) (by simp)
      rcases hI with ⟨d4, d5, _⟩ | ⟨q0, q1, q2, q3, q4, h15, h16, hl, hB, hw, g, c, hgk, h18, hO, h19, hBo⟩
      · rw [d5] at D5; cases D5
      · have h19' := h19 D5
        rw [hDj] at hO
        obtain ⟨g', hg', hgB, ⟨cs, hb⟩, hcan, ho8, hc8⟩ := OwnR.set ftC_len hO (i := acc.length) (by simp) f
        obtain rfl : g = g' := congrArg Addr.block hg'
        rw [addr_add_eq, Nat.zero_add] at hcan ho8 hc8
        repeat' (first | (simp (disch := omega) only [push_cast, ↓reduceIte, zA, zG, zB, zH, zI, zC, zJ, zK, zL, zD, zE, zF, zM, zN, zO, zP, zQ, reduceCtorEq, not_true_eq_false, not_false_eq_true, h19', h15]) | (first | refine iE ?_ ?_ | refine iD ?_ ?_ | refine iQ ?_ ?_ | refine iV ?_ ?_) <;> intro _ | refine And.intro (by omega) ?_ | refine drawn_q ?_ | fail)
        refine ⟨rfl, fun u hu => ftC_one hf u (by simpa [Value.cells] using hu), hcan, ?_⟩
        have ex : (Value.agg (ftC f).toArray).cells.toList = ftC f := rfl
        rw [ex]
        have hset : (acc ++ [if (false : Bool) = true then f else zeroF]).set acc.length f = acc ++ [f] := by simp
        rw [hset] at ho8
        generalize storeAll w2 ⟨g, acc.length * 4, none⟩ (ftC f) = w8 at *
        have n1 := blk_ne hBo hb (by decide)
        have n2 := blk_ne hw hb (by decide)
        repeat' (first | (simp (disch := omega) only [push_cast, ↓reduceIte, zA, zG, zB, zH, zI, zC, zJ, zK, zL, zD, zE, zF, zM, zN, zO, zP, zQ, reduceCtorEq, not_true_eq_false, not_false_eq_true]) | (first | refine iE ?_ ?_ | refine iD ?_ ?_ | refine iQ ?_ ?_ | refine iV ?_ ?_) <;> intro _ | refine And.intro (by omega) ?_ | refine drawn_q ?_ | fail)
        refine ⟨⟨g1, g2, g3⟩, .inr ⟨q0, q1, q2, q3, q4, ?_, h16, Chg.later hl hc8 (by intro j hj; rw [List.mem_singleton.1 hj]; exact hgB), hB.chg hc8 (by simpa using Ne.symm hgk), hw.chg hc8 (by simpa using n2), g, c, hgk, h18, ?_, h19, hBo.chg hc8 (by simpa using n1)⟩⟩
        · first | exact h15 | rfl
        · exact ho8
    | 7, hoj =>
      obtain rfl := Option.some.inj hoj
      have D4 := waits_at' hwt rfl (i := 4) (by simp)
      rcases hI with ⟨d4, _⟩ | ⟨q0, q1, q2, q3, q4, h15, h16, hl, hB, hw, g, c, hgk, h18, hO, h19, hBo⟩
      · rw [d4] at D4; cases D4
      · rw [hDj] at hBo
        have hcell : w2.cell? ⟨ko, 0, none⟩ = some (.slice oo acc.length oc) := hBo.cell 0
        have hfz := hBo.frozen 0
        have n1 := blk_ne hB hBo (by decide)
        have n2 := blk_ne hw hBo (by decide)
        have hc8 : Chg w2 (w2.setCell ⟨ko, 0, none⟩ (.slice (some ⟨g, 0, none⟩) (acc.length + 1) c)) [ko] := chg_setCell w2 (by simp) _
        have hBo8 : Blk (w2.setCell ⟨ko, 0, none⟩ (.slice (some ⟨g, 0, none⟩) (acc.length + 1) c)) ko #[.slice (some ⟨g, 0, none⟩) (acc.length + 1) c] 37 := hBo.set 0 _
        have hO8 := own_chg_ty hO hBo (by decide) hc8
        repeat' (first | (simp (disch := omega) only [push_cast, ↓reduceIte, zA, zG, zB, zH, zI, zC, zJ, zK, zL, zD, zE, zF, zM, zN, zO, zP, zQ, reduceCtorEq, not_true_eq_false, not_false_eq_true, g1, h18, hcell, hfz]) | (first | refine iE ?_ ?_ | refine iD ?_ ?_ | refine iQ ?_ ?_ | refine iV ?_ ?_) <;> intro _ | refine And.intro (by omega) ?_ | refine drawn_q ?_ | fail)
        generalize w2.setCell ⟨ko, 0, none⟩ (.slice (some ⟨g, 0, none⟩) (acc.length + 1) c) = w8 at *
        refine ⟨⟨rfl, g2, g3⟩, .inr ⟨q0, q1, q2, q3, q4, h15, h16, Chg.later hl hc8 (by intro j hj; rw [List.mem_singleton.1 hj]; exact hko), hB.chg hc8 (by simpa using n1), hw.chg hc8 (by simpa using n2), g, c, hgk, ?_, hO8, h19, hBo8⟩⟩
        first | exact h18 | rfl
    | n + 8, hoj => exact absurd hoj (by simp [r149_2])
  · intro D σ1 w2 hI hall
    obtain ⟨⟨g1, g2, g3⟩, hI⟩ := hI
    have hall : ∀ j, j < 8 → D j = true := hall
    rcases hI with ⟨d4, _⟩ | ⟨q0, q1, q2, q3, q4, h15, h16, hl, hB, hw, g, c, hgk, h18, hO, h19, hBo⟩
    · rw [hall 4 (by decide)] at d4; cases d4
    · rw [hall 6 (by decide)] at hO
      rw [hall 7 (by decide)] at hBo
      exact hK σ1 w2 g2 g3 hB ⟨hl, hko, hkw, ⟨_, hBo, hO⟩, hw⟩
set_option maxHeartbeats 4000000 in
theorem walk_c {w0 : World} {ko kw : Nat} : ∀ (f : FT) (acc : List FT) (w : World), f.Ok w0 → WSt w0 ko kw w acc → acc.length + f.cnt ≤ 100000000 → FnC Try.prog 149 #[.agg (ftC f).toArray, pt ko, pt kw] w fun _ w' => WSt w0 ko kw w' (acc ++ f.conds) := by
  intro f
  induction f using FT.ind with
  | h f ih =>
  intro acc w hf hW hcn
  obtain ⟨l0, hko, hkw, ⟨ov, Bo, ho⟩, Bw⟩ := hW
  obtain ⟨oo, oc, rfl, _⟩ := RecS.slice (OwnR.s ho)
  obtain ⟨h1, h2, h3, h4, h5⟩ := FT.ok_iff.1 hf
  obtain ⟨o, c, hkv, hc1, hc2⟩ := RecS.slice h4
  refine enter149 _ _ _ ?_
  unfold B149
  have eca : (Value.agg (ftC f).toArray).cells = (ftC f).toArray := rfl
  obtain ⟨l1, s1, B1⟩ := ftBox w f
  have hbig : ∀ k, (Value.slice oo acc.length oc).ownBlock = some k → k < w.heap.size := fun k hk => (World.ownsRow.lt ho k hk).2
  repeat' (first | (simp (disch := omega) only [push_cast, ↓reduceIte, zA, zG, zB, zH, zI, zC, zJ, zK, zL, zD, zE, zF, zM, zN, zO, zP, zQ, reduceCtorEq, not_true_eq_false, not_false_eq_true, eca]) | (first | refine iE ?_ ?_ | refine iD ?_ ?_ | refine iQ ?_ ?_ | refine iV ?_ ?_) <;> intro _ | refine And.intro (by omega) ?_ | fail)
  have Bo := Bo.alloc (.cells (ftC f).toArray 39)
  have Bw := Bw.alloc (.cells (ftC f).toArray 39)
  have ho := ho.alloc (.cells (ftC f).toArray 39)
  generalize w.alloc (.cells (ftC f).toArray 39) = w1 at *
  generalize hkf : w.heap.size = kf at *
  obtain ⟨a0, a1, a2, a3⟩ := ftAt B1
  have l01 := l0.trans l1
  -- the loop over the kids
  have loop : ∀ (σ1 : Env) (w2 : World) (acc2 : List FT), σ1 2 = pt kw → σ1 21 = f.kv → σ1 22 = .int .i64 (f.kids.length : Int) → σ1 23 = .int .i64 0 → WSt w0 ko kw w2 acc2 → acc2.length + (f.kids.map FT.cnt).sum ≤ 100000000 → acc2 ++ f.kids.flatMap FT.conds = acc ++ f.conds →
      vc Try.prog (VC.loop ((VC.region r149_4).seq ((VC.cond (Operand.tmp 24) VC.skip (VC.exit 0)).seq ((VC.block 1 ((VC.region r149_5).seq (VC.region r149_6))).seq (VC.region r149_7))))) (inBlk 0 (retK Try.prog #[] fun _ w' => WSt w0 ko kw w' (acc ++ f.conds))) [] σ1 w2 := by
    intro σ1 w2 acc2 e2 e21 e22 e23 hW2 hcn2 hac
    have hkc := FT.cnt_kids f
    refine vc_loop W149_0 (fun i : Nat => [(23, .int .i64 (i : Int))]) (fun i w' => i ≤ f.kids.length ∧ WSt w0 ko kw w' (acc2 ++ (f.kids.take i).flatMap FT.conds)) (fun i => f.kids.length - i) 0 (by decide) ?_ ?_ ?_
    · simp (disch := omega) only [push_cast, ↓reduceIte, zA, zG, zB, zH, zI, zC, zJ, zK, zL, zD, zE, zF, zM, zN, zO, zP, zQ, reduceCtorEq, not_true_eq_false, not_false_eq_true, e23]
      try rfl
    · exact ⟨Nat.zero_le _, by simpa using hW2⟩
    rintro i uu w3 ⟨hi, hW3⟩
    by_cases hik : i < f.kids.length
    · have hd2 : decide ((i : Int) < (f.kids.length : Int)) = true := decide_eq_true (by omega)
      have h4' := h4
      rw [hkv] at h4' e21
      obtain ⟨a, rfl, fa⟩ := RecS.at ftC_len (h4'.later hW3.l) hik
      have hk := h5 _ (List.getElem_mem hik)
      have hb := hW3.fn.cell 0
      have hstep : (f.kids.take (i + 1)).flatMap FT.conds = (f.kids.take i).flatMap FT.conds ++ (f.kids[i]).conds := by
        rw [List.take_succ_eq_append_getElem hik, List.flatMap_append]; simp
      have hlen : ((f.kids.take i).flatMap FT.conds).length + (f.kids[i]).cnt ≤ (f.kids.map FT.cnt).sum := by
        have e : f.kids = f.kids.take i ++ f.kids[i] :: f.kids.drop (i + 1) := by rw [List.getElem_cons_drop, List.take_append_drop]
        have e3 : (f.kids.map FT.cnt).sum = ((f.kids.take i).map FT.cnt).sum + ((f.kids[i]).cnt + ((f.kids.drop (i + 1)).map FT.cnt).sum) := by
          rw [← List.sum_cons, ← List.map_cons, ← List.sum_append, ← List.map_append, ← e]
        have aux : ∀ l : List FT, (l.flatMap FT.conds).length ≤ (l.map FT.cnt).sum := by
          intro l
          induction l with
          | nil => simp
          | cons k l ih => rw [List.flatMap_cons, List.length_append, List.map_cons, List.sum_cons]; have := FT.conds_cnt k; omega
        have := aux (f.kids.take i)
        omega
      have hkm := List.getElem_mem hik
      generalize f.kids[i] = kid at *
      repeat' (first | (simp (disch := omega) only [push_cast, ↓reduceIte, zA, zG, zB, zH, zI, zC, zJ, zK, zL, zD, zE, zF, zM, zN, zO, zP, zQ, reduceCtorEq, not_true_eq_false, not_false_eq_true, e2, e21, e22, hd2, fa, addr_add_eq, Nat.zero_add]) | (first | refine iE ?_ ?_ | refine iD ?_ ?_ | refine iQ ?_ ?_ | refine iV ?_ ?_) <;> intro _ | refine And.intro (by omega) ?_ | refine drawn_q ?_ | fail)
      refine vStore_new rfl rfl (fun u hu => ftC_one hk u (by simpa using hu)) ?_
      have l3 := later_alloc w3 (.cells (ftC kid).toArray 39)
      have B3 := Blk.new w3 (ftC kid).toArray 39
      have hW4 : WSt w0 ko kw (w3.alloc (.cells (ftC kid).toArray 39)) (acc2 ++ (f.kids.take i).flatMap FT.conds) := by
        obtain ⟨q1, q2, q3, ⟨x, q4, q5⟩, q6⟩ := hW3
        exact ⟨q1.trans l3, q2, q3, ⟨x, q4.alloc _, q5.alloc _⟩, q6.alloc _⟩
      generalize w3.alloc (.cells (ftC kid).toArray 39) = w4 at *
      generalize w3.heap.size = k3 at *
      have f4 : cellsAt w4 ⟨k3, 0, none⟩ 4 = some (ftC kid) := Blk.cellsAt (l := ftC kid) B3
      have hb : w4.cell? ⟨kw, 0, none⟩ = some (.func (.func 149) #[] #[pt ko, pt kw]) := hW4.fn.cell 0
      repeat' (first | (simp (disch := omega) only [push_cast, ↓reduceIte, zA, zG, zB, zH, zI, zC, zJ, zK, zL, zD, zE, zF, zM, zN, zO, zP, zQ, reduceCtorEq, not_true_eq_false, not_false_eq_true, e2, f4, hb, addr_add_eq, Nat.zero_add]) | (first | refine iE ?_ ?_ | refine iD ?_ ?_ | refine iQ ?_ ?_ | refine iV ?_ ?_) <;> intro _ | refine And.intro (by omega) ?_ | refine drawn_q ?_ | fail)
      refine (ih kid hkm (acc2 ++ (f.kids.take i).flatMap FT.conds) w4 hk hW4 (by rw [List.length_append]; omega)).mono ?_
      intro v5 w5 hW5
      repeat' (first | (simp (disch := omega) only [push_cast, ↓reduceIte, zA, zG, zB, zH, zI, zC, zJ, zK, zL, zD, zE, zF, zM, zN, zO, zP, zQ, reduceCtorEq, not_true_eq_false, not_false_eq_true]) | (first | refine iE ?_ ?_ | refine iD ?_ ?_ | refine iQ ?_ ?_ | refine iV ?_ ?_) <;> intro _ | refine And.intro (by omega) ?_ | refine drawn_q ?_ | fail)
      refine ⟨rfl, i + 1, by simp (disch := omega) only [push_cast, ↓reduceIte, zA, zG, zB, zH, zI, zC, zJ, zK, zL, zD, zE, zF, zM, zN, zO, zP, zQ, reduceCtorEq, not_true_eq_false, not_false_eq_true], ⟨by omega, ?_⟩, by dsimp only; omega⟩
      rw [hstep, ← List.append_assoc]
      exact hW5
    · have hdm : i = f.kids.length := by omega
      subst hdm
      have hd2 : decide (((f.kids.length : Nat) : Int) < (f.kids.length : Int)) = false := decide_eq_false (by omega)
      rw [List.take_length, hac] at hW3
      repeat' (first | (simp (disch := omega) only [push_cast, ↓reduceIte, zA, zG, zB, zH, zI, zC, zJ, zK, zL, zD, zE, zF, zM, zN, zO, zP, zQ, reduceCtorEq, not_true_eq_false, not_false_eq_true, e2, e21, e22, hd2]) | (first | refine iE ?_ ?_ | refine iD ?_ ?_ | refine iQ ?_ ?_ | refine iV ?_ ?_) <;> intro _ | refine And.intro (by omega) ?_ | refine drawn_q ?_ | fail)
      all_goals first | exact hW3 | trace_state
  have hkc := FT.cnt_kids f
  by_cases hop : f.op = 1 ∨ f.op = 2
  · have hcd : acc ++ [f] ++ f.kids.flatMap FT.conds = acc ++ f.conds := by rw [FT.conds_is, if_pos hop, List.append_assoc]
    have hkl : kf < w1.heap.size := by omega
    have hcl : acc.length ≤ 100000000 := by omega
    have cont : ∀ (σ1 : Env) (w2 : World), σ1 2 = pt kw → σ1 3 = pt kf → Blk w2 kf (ftC f).toArray 39 → WSt w0 ko kw w2 (acc ++ [f]) →
        vc Try.prog ((VC.region r149_3).seq (VC.block 0 (VC.loop ((VC.region r149_4).seq ((VC.cond (Operand.tmp 24) VC.skip (VC.exit 0)).seq ((VC.block 1 ((VC.region r149_5).seq (VC.region r149_6))).seq (VC.region r149_7))))))) (retK Try.prog #[] fun _ w' => WSt w0 ko kw w' (acc ++ f.conds)) [] σ1 w2 := by
      intro σ1 w2 g2 g3 hB hW
      obtain ⟨_, _, _, b3⟩ := ftAt hB
      rw [hkv] at b3
      repeat' (first | (simp (disch := omega) only [push_cast, ↓reduceIte, zA, zG, zB, zH, zI, zC, zJ, zK, zL, zD, zE, zF, zM, zN, zO, zP, zQ, reduceCtorEq, not_true_eq_false, not_false_eq_true, g3, b3, addr_add_eq, Nat.zero_add]) | (first | refine iE ?_ ?_ | refine iD ?_ ?_ | refine iQ ?_ ?_ | refine iV ?_ ?_) <;> intro _ | refine And.intro (by omega) ?_ | refine drawn_q ?_ | fail)
      refine loop _ _ (acc ++ [f]) (by simp (disch := omega) only [push_cast, ↓reduceIte, zA, zG, zB, zH, zI, zC, zJ, zK, zL, zD, zE, zF, zM, zN, zO, zP, zQ, reduceCtorEq, not_true_eq_false, not_false_eq_true, g2]) (by simp (disch := omega) only [push_cast, ↓reduceIte, zA, zG, zB, zH, zI, zC, zJ, zK, zL, zD, zE, zF, zM, zN, zO, zP, zQ, reduceCtorEq, not_true_eq_false, not_false_eq_true, hkv]) (by simp (disch := omega) only [push_cast, ↓reduceIte, zA, zG, zB, zH, zI, zC, zJ, zK, zL, zD, zE, zF, zM, zN, zO, zP, zQ, reduceCtorEq, not_true_eq_false, not_false_eq_true]) (by simp (disch := omega) only [push_cast, ↓reduceIte, zA, zG, zB, zH, zI, zC, zJ, zK, zL, zD, zE, zF, zM, zN, zO, zP, zQ, reduceCtorEq, not_true_eq_false, not_false_eq_true]) hW (by rw [List.length_append, List.length_singleton]; omega) hcd
    rcases hop with e1 | e1
    · have d1 : decide (f.op = 1) = true := decide_eq_true e1
      repeat' (first | (simp (disch := omega) only [push_cast, ↓reduceIte, zA, zG, zB, zH, zI, zC, zJ, zK, zL, zD, zE, zF, zM, zN, zO, zP, zQ, reduceCtorEq, not_true_eq_false, not_false_eq_true, a0, d1, addr_add_eq, Nat.zero_add]) | (first | refine iE ?_ ?_ | refine iD ?_ ?_ | refine iQ ?_ ?_ | refine iV ?_ ?_) <;> intro _ | refine And.intro (by omega) ?_ | refine drawn_q ?_ | fail)
      exact Or.inr (reg_c rfl rfl rfl l01 hf hko hkw Bo ho Bw B1 hbig hkl hcl cont)
    · have d1 : decide (f.op = 1) = false := decide_eq_false (by omega)
      have d2 : decide (f.op = 2) = true := decide_eq_true e1
      repeat' (first | (simp (disch := omega) only [push_cast, ↓reduceIte, zA, zG, zB, zH, zI, zC, zJ, zK, zL, zD, zE, zF, zM, zN, zO, zP, zQ, reduceCtorEq, not_true_eq_false, not_false_eq_true, a0, d1, d2, addr_add_eq, Nat.zero_add]) | (first | refine iE ?_ ?_ | refine iD ?_ ?_ | refine iQ ?_ ?_ | refine iV ?_ ?_) <;> intro _ | refine And.intro (by omega) ?_ | refine drawn_q ?_ | fail)
      exact Or.inr (reg_c rfl rfl rfl l01 hf hko hkw Bo ho Bw B1 hbig hkl hcl cont)
  · have hcd : acc ++ f.kids.flatMap FT.conds = acc ++ f.conds := by rw [FT.conds_is, if_neg hop, List.nil_append]
    have d1 : decide (f.op = 1) = false := decide_eq_false (by omega)
    have d2 : decide (f.op = 2) = false := decide_eq_false (by omega)
    rw [hkv] at a3
    repeat' (first | (simp (disch := omega) only [push_cast, ↓reduceIte, zA, zG, zB, zH, zI, zC, zJ, zK, zL, zD, zE, zF, zM, zN, zO, zP, zQ, reduceCtorEq, not_true_eq_false, not_false_eq_true, a0, a3, d1, d2, addr_add_eq, Nat.zero_add]) | (first | refine iE ?_ ?_ | refine iD ?_ ?_ | refine iQ ?_ ?_ | refine iV ?_ ?_) <;> intro _ | refine And.intro (by omega) ?_ | refine drawn_q ?_ | fail)
    exact loop _ _ acc (by simp (disch := omega) only [push_cast, ↓reduceIte, zA, zG, zB, zH, zI, zC, zJ, zK, zL, zD, zE, zF, zM, zN, zO, zP, zQ, reduceCtorEq, not_true_eq_false, not_false_eq_true]) (by simp (disch := omega) only [push_cast, ↓reduceIte, zA, zG, zB, zH, zI, zC, zJ, zK, zL, zD, zE, zF, zM, zN, zO, zP, zQ, reduceCtorEq, not_true_eq_false, not_false_eq_true, hkv]) (by simp (disch := omega) only [push_cast, ↓reduceIte, zA, zG, zB, zH, zI, zC, zJ, zK, zL, zD, zE, zF, zM, zN, zO, zP, zQ, reduceCtorEq, not_true_eq_false, not_false_eq_true]) (by simp (disch := omega) only [push_cast, ↓reduceIte, zA, zG, zB, zH, zI, zC, zJ, zK, zL, zD, zE, zF, zM, zN, zO, zP, zQ, reduceCtorEq, not_true_eq_false, not_false_eq_true]) ⟨l01, hko, hkw, ⟨_, Bo, ho⟩, Bw⟩ (by omega) hcd
end Go.Proofs.Ytnofalhkapmcnaa
end
section
set_option linter.unusedSimpArgs false
namespace Go.Proofs.Ytnofalhkapmcnaa
open Go.Vc Go.Key
set_option maxRecDepth 100000
theorem conditions_c (f : FT) (w : World) (hf : f.Ok w) (hcn : f.cnt ≤ 1000000) : FnC Try.prog 119 #[.agg (ftC f).toArray] w fun v w' => OwnR ftC 4 w' w.heap.size 39 v f.conds ∧ Later w w' := by
  refine enter119 _ ?_
  unfold B119
  have eca : (Value.agg (ftC f).toArray).cells = (ftC f).toArray := rfl
  obtain ⟨l1, s1, B1⟩ := ftBox w f
  repeat' (first | (simp (disch := omega) only [push_cast, ↓reduceIte, zA, zG, zB, zH, zI, zC, zJ, zK, zL, zD, zE, zF, zM, zN, zO, zP, zQ, reduceCtorEq, not_true_eq_false, not_false_eq_true, eca, s1]) | (first | refine iE ?_ ?_ | refine iD ?_ ?_ | refine iQ ?_ ?_ | refine iV ?_ ?_) <;> intro _ | refine And.intro (by omega) ?_ | fail)
  generalize w.alloc (.cells (ftC f).toArray 39) = w1 at *
  have l2 := later_alloc w1 (.cells #[.slice none 0 0] 37)
  have s2 : (w1.alloc (.cells #[.slice none 0 0] 37)).heap.size = w.heap.size + 2 := by rw [World.size_alloc, s1]
  have Bo := Blk.new w1 #[.slice none 0 0] 37
  rw [s1] at Bo
  generalize w1.alloc (.cells #[.slice none 0 0] 37) = w2 at *
  repeat' (first | (simp (disch := omega) only [push_cast, ↓reduceIte, zA, zG, zB, zH, zI, zC, zJ, zK, zL, zD, zE, zF, zM, zN, zO, zP, zQ, reduceCtorEq, not_true_eq_false, not_false_eq_true, s2]) | (first | refine iE ?_ ?_ | refine iD ?_ ?_ | refine iQ ?_ ?_ | refine iV ?_ ?_) <;> intro _ | refine And.intro (by omega) ?_ | fail)
  have l3 := later_alloc w2 (.cells #[.func (.func 149) #[] #[.pointer (some ⟨w.heap.size + 1, 0, none⟩), .pointer (some ⟨w.heap.size + 2, 0, none⟩)]] 178)
  have Bw := Blk.new w2 #[.func (.func 149) #[] #[.pointer (some ⟨w.heap.size + 1, 0, none⟩), .pointer (some ⟨w.heap.size + 2, 0, none⟩)]] 178
  rw [s2] at Bw
  generalize w2.alloc (.cells #[.func (.func 149) #[] #[.pointer (some ⟨w.heap.size + 1, 0, none⟩), .pointer (some ⟨w.heap.size + 2, 0, none⟩)]] 178) = w3 at *
  have l13 := l2.trans l3
  have l03 := l1.trans l13
  have f1 : cellsAt w3 ⟨w.heap.size, 0, none⟩ 4 = some (ftC f) := Blk.cellsAt (l := ftC f) (ftLater B1 l13)
  have Bo3 := Bo.chg (Chg.of_later (ks := []) l3) (by simp)
  have fw : w3.cell? ⟨w.heap.size + 2, 0, none⟩ = some (.func (.func 149) #[] #[.pointer (some ⟨w.heap.size + 1, 0, none⟩), .pointer (some ⟨w.heap.size + 2, 0, none⟩)]) := Bw.cell 0
  repeat' (first | (simp (disch := omega) only [push_cast, ↓reduceIte, zA, zG, zB, zH, zI, zC, zJ, zK, zL, zD, zE, zF, zM, zN, zO, zP, zQ, reduceCtorEq, not_true_eq_false, not_false_eq_true, f1, fw]) | (first | refine iE ?_ ?_ | refine iD ?_ ?_ | refine iQ ?_ ?_ | refine iV ?_ ?_) <;> intro _ | refine And.intro (by omega) ?_ | fail)
  refine (walk_c (w0 := w) (ko := w.heap.size + 1) (kw := w.heap.size + 2) f [] w3 hf ⟨l03, by omega, by omega, ⟨_, Bo3, own_nil _ _ _ _⟩, Bw⟩ (by simp; omega)).mono ?_
  rintro v4 w4 ⟨l4, _, _, ⟨ov, Bo4, ho⟩, _⟩
  have f4 : w4.cell? ⟨w.heap.size + 1, 0, none⟩ = some ov := Bo4.cell 0
  rw [List.nil_append] at ho
  repeat' (first | (simp (disch := omega) only [push_cast, ↓reduceIte, zA, zG, zB, zH, zI, zC, zJ, zK, zL, zD, zE, zF, zM, zN, zO, zP, zQ, reduceCtorEq, not_true_eq_false, not_false_eq_true, f4]) | (first | refine iE ?_ ?_ | refine iD ?_ ?_ | refine iQ ?_ ?_ | refine iV ?_ ?_) <;> intro _ | refine And.intro (by omega) ?_ | refine drawn_q ?_ | fail)
  first | exact ⟨ho, l4⟩ | exact l4
theorem conds_at {f : FT} {w : World} (hf : f.Ok w) {i : Nat} (hi : i < f.conds.length) : (f.conds[i]).Ok w := FT.conds_ok f hf _ (List.getElem_mem hi)
set_option maxHeartbeats 1000000 in
theorem tdims_c (q : QD) (w : World) (hq : q.Ok w) (hcn : q.wh.cnt ≤ 1000000) (hbl : q.bl.length ≤ 1000) : FnC Try.prog 73 #[.agg (qdC q).toArray] w fun v w' => OwnS w' w.heap.size v (q.bl ++ q.wh.dims) ∧ Later w w' := by
  refine enter73 _ ?_
  unfold B73
  have eca : (Value.agg (qdC q).toArray).cells = (qdC q).toArray := rfl
  have B1 := Blk.new w (qdC q).toArray 42
  have l1 := later_alloc w (.cells (qdC q).toArray 42)
  repeat' (first | (simp (disch := omega) only [push_cast, ↓reduceIte, zA, zG, zB, zH, zI, zC, zJ, zK, zL, zD, zE, zF, zM, zN, zO, zP, zQ, reduceCtorEq, not_true_eq_false, not_false_eq_true, eca]) | (first | refine iE ?_ ?_ | refine iD ?_ ?_ | refine iQ ?_ ?_ | refine iV ?_ ?_) <;> intro _ | refine And.intro (by omega) ?_ | fail)
  generalize w.alloc (.cells (qdC q).toArray 42) = w1 at *
  generalize hkf : w.heap.size = kf at *
  have q1 := hq.later l1
  obtain ⟨_, _, _, _, a4, _⟩ := qdAt B1
  repeat' (first | (simp (disch := omega) only [push_cast, ↓reduceIte, zA, zG, zB, zH, zI, zC, zJ, zK, zL, zD, zE, zF, zM, zN, zO, zP, zQ, reduceCtorEq, not_true_eq_false, not_false_eq_true, a4, addr_add_eq, Nat.zero_add]) | (first | refine iE ?_ ?_ | refine iD ?_ ?_ | refine iQ ?_ ?_ | refine iV ?_ ?_) <;> intro _ | refine And.intro (by omega) ?_ | fail)
  refine (sclone_c q.bv q.bl w1 q1.bv (by omega)).mono ?_
  rintro bv w2 ⟨ho2, l2⟩
  obtain ⟨_, _, _, _, _, b5, b6, b7, b8, _⟩ := qdAt (qdLater B1 l2)
  have fw : cellsAt w2 ⟨kf, 5, none⟩ 4 = some (ftC q.wh) := by
    refine cellsAt_of 4 _ _ rfl fun i x hx => ?_
    rw [addr_add_eq]
    match i, hx with
    | 0, hx => cases hx; exact b5
    | 1, hx => cases hx; exact b6
    | 2, hx => cases hx; exact b7
    | 3, hx => cases hx; exact b8
    | n + 4, hx => exact absurd hx (by simp [ftC])
  repeat' (first | (simp (disch := omega) only [push_cast, ↓reduceIte, zA, zG, zB, zH, zI, zC, zJ, zK, zL, zD, zE, zF, zM, zN, zO, zP, zQ, reduceCtorEq, not_true_eq_false, not_false_eq_true, fw, addr_add_eq, Nat.zero_add]) | (first | refine iE ?_ ?_ | refine iD ?_ ?_ | refine iQ ?_ ?_ | refine iV ?_ ?_) <;> intro _ | refine And.intro (by omega) ?_ | fail)
  have l12 := l1.trans l2
  have hwh := hq.wh.later l12
  refine (conditions_c q.wh w2 hwh hcn).mono ?_
  rintro cv w3 ⟨hc3, l3⟩
  have hcl := FT.conds_cnt q.wh
  have hcr := OwnR.s hc3
  obtain ⟨o, c, rfl, hc1, hc2⟩ := RecS.slice hcr
  have hok := fun (i : Nat) (hi : i < q.wh.conds.length) => conds_at q1.wh hi
  have hds := FT.conds_dims q.wh
  generalize q.wh.conds = cs at *
  repeat' (first | (simp (disch := omega) only [push_cast, ↓reduceIte, zA, zG, zB, zH, zI, zC, zJ, zK, zL, zD, zE, zF, zM, zN, zO, zP, zQ, reduceCtorEq, not_true_eq_false, not_false_eq_true]) | (first | refine iE ?_ ?_ | refine iD ?_ ?_ | refine iQ ?_ ?_ | refine iV ?_ ?_) <;> intro _ | refine And.intro (by omega) ?_ | refine drawn_q ?_ | fail)
  refine vc_loop W73_0 (fun p : Nat × Value => [(3, p.2), (13, .int .i64 (p.1 : Int))]) (fun p w' => p.1 ≤ cs.length ∧ Later w1 w' ∧ OwnS w' w1.heap.size p.2 (q.bl ++ (cs.take p.1).map FT.dim) ∧ OwnR ftC 4 w' w2.heap.size 39 (.slice o cs.length c) cs) (fun p => cs.length - p.1) (0, bv) (by decide) ?_ ?_ ?_
  · simp (disch := omega) only [push_cast, ↓reduceIte, zA, zG, zB, zH, zI, zC, zJ, zK, zL, zD, zE, zF, zM, zN, zO, zP, zQ, reduceCtorEq, not_true_eq_false, not_false_eq_true]
    try rfl
  · exact ⟨Nat.zero_le _, l2.trans l3, by simpa using own_later ho2 l3, hc3⟩
  rintro ⟨i, x⟩ uu w4 ⟨hi, l4, ho, hC⟩
  dsimp only at hi ho ⊢
  by_cases hik : i < cs.length
  · have hd2 : decide ((i : Int) < (cs.length : Int)) = true := decide_eq_true (by omega)
    obtain ⟨a, rfl, fa⟩ := RecS.at ftC_len (OwnR.s hC) hik
    have hk := (hok i hik).later l4
    have hst : (cs.take (i + 1)).map FT.dim = (cs.take i).map FT.dim ++ [(cs[i]).dim] := by
      rw [List.take_succ_eq_append_getElem hik, List.map_append]; rfl
    generalize cs[i] = kid at *
    repeat' (first | (simp (disch := omega) only [push_cast, ↓reduceIte, zA, zG, zB, zH, zI, zC, zJ, zK, zL, zD, zE, zF, zM, zN, zO, zP, zQ, reduceCtorEq, not_true_eq_false, not_false_eq_true, hd2, fa, addr_add_eq, Nat.zero_add]) | (first | refine iE ?_ ?_ | refine iD ?_ ?_ | refine iQ ?_ ?_ | refine iV ?_ ?_) <;> intro _ | refine And.intro (by omega) ?_ | refine drawn_q ?_ | fail)
    refine vStore_new rfl rfl (fun u hu => ftC_one hk u (by simpa using hu)) ?_
    have l5 := later_alloc w4 (.cells (ftC kid).toArray 39)
    have B5 := Blk.new w4 (ftC kid).toArray 39
    generalize w4.alloc (.cells (ftC kid).toArray 39) = w5 at *
    generalize w4.heap.size = k4 at *
    obtain ⟨_, c1, _, _⟩ := ftAt B5
    repeat' (first | (simp (disch := omega) only [push_cast, ↓reduceIte, zA, zG, zB, zH, zI, zC, zJ, zK, zL, zD, zE, zF, zM, zN, zO, zP, zQ, reduceCtorEq, not_true_eq_false, not_false_eq_true, c1, addr_add_eq, Nat.zero_add]) | (first | refine iE ?_ ?_ | refine iD ?_ ?_ | refine iQ ?_ ?_ | refine iV ?_ ?_) <;> intro _ | refine And.intro (by omega) ?_ | refine drawn_q ?_ | fail)
    have ho5 := own_later ho l5
    have hll : (q.bl ++ (cs.take i).map FT.dim).length ≤ 2000000 := by
      rw [List.length_append, List.length_map, List.length_take]; omega
    have hC5 := hC.later l5
    have l15 := l4.trans l5
    have l7 := later_alloc w5 (.cells #[.string kid.dim] 9)
    have hx7 := Sl.one w5 (.string kid.dim) 9
    generalize w5.alloc (.cells #[.string kid.dim] 9) = w7 at *
    replace ho5 := own_later ho5 l7
    replace hC5 := hC5.later l7
    replace l15 := l15.trans l7
    have hx7 : SlN w7 1 (.slice (some ⟨w5.heap.size, 0, none⟩) 1 1) 1 [.string kid.dim] := hx7
    refine vAppend_own Try.underlying22 ti9 rfl (by decide) ho5 hx7 (fun u hu => by rw [List.mem_singleton.1 hu]; rfl) (by unfold maxLen; omega) (by omega) l15.size ?_
    intro v' w' ho' hg _
    have l6 : Later w1 w' := l15.appended ho5 (Nat.le_refl _) hg
    have ho6 : OwnS w' w1.heap.size v' (q.bl ++ (cs.take (i + 1)).map FT.dim) := by
      rw [hst, ← List.append_assoc]
      unfold OwnS
      simpa [Nat.add_assoc] using ho'
    have hC6 : OwnR ftC 4 w' w2.heap.size 39 (.slice (some a) cs.length c) cs := own_grown_ty hC5 ho5 (by decide) hg
    repeat' (first | (simp (disch := omega) only [push_cast, ↓reduceIte, zA, zG, zB, zH, zI, zC, zJ, zK, zL, zD, zE, zF, zM, zN, zO, zP, zQ, reduceCtorEq, not_true_eq_false, not_false_eq_true]) | (first | refine iE ?_ ?_ | refine iD ?_ ?_ | refine iQ ?_ ?_ | refine iV ?_ ?_) <;> intro _ | refine And.intro (by omega) ?_ | refine drawn_q ?_ | fail)
    exact ⟨rfl, (i + 1, v'), by simp (disch := omega) only [push_cast, ↓reduceIte, zA, zG, zB, zH, zI, zC, zJ, zK, zL, zD, zE, zF, zM, zN, zO, zP, zQ, reduceCtorEq, not_true_eq_false, not_false_eq_true], ⟨by dsimp only; omega, l6, ho6, hC6⟩, by dsimp only; omega⟩
  have hd2 : decide ((i : Int) < (cs.length : Int)) = false := decide_eq_false (by omega)
  rw [List.take_of_length_le (by omega), hds] at ho
  repeat' (first | (simp (disch := omega) only [push_cast, ↓reduceIte, zA, zG, zB, zH, zI, zC, zJ, zK, zL, zD, zE, zF, zM, zN, zO, zP, zQ, reduceCtorEq, not_true_eq_false, not_false_eq_true, hd2, addr_add_eq, Nat.zero_add]) | (first | refine iE ?_ ?_ | refine iD ?_ ?_ | refine iQ ?_ ?_ | refine iV ?_ ?_) <;> intro _ | refine And.intro (by omega) ?_ | refine drawn_q ?_ | fail)
  have hbs : kf ≤ w1.heap.size := by rw [← hkf]; exact l1.size
  first | exact ⟨(own_base ho hbs), (l1.trans l4)⟩ | exact (l1.trans l4)
theorem used1_c (x : ByteArray) (k : Nat) (v : Value) (l : List ByteArray) (w : World) (hk : w.cell? ⟨k, 0, none⟩ = some v) (h : StS w v l) : FnC Try.prog 76 #[.string x, pt k] w fun r w' => r = .bool (!inL x l) ∧ w' = w := by
  refine enter76 _ _ ?_
  unfold B76
  repeat' (first | (simp (disch := omega) only [push_cast, ↓reduceIte, zA, zG, zB, zH, zI, zC, zJ, zK, zL, zD, zE, zF, zM, zN, zO, zP, zQ, reduceCtorEq, not_true_eq_false, not_false_eq_true, hk]) | (first | refine iE ?_ ?_ | refine iD ?_ ?_ | refine iQ ?_ ?_ | refine iV ?_ ?_) <;> intro _ | refine And.intro (by omega) ?_ | refine drawn_q ?_ | fail)
  refine (scontains_c v l x w h).mono ?_
  rintro _ w0 ⟨rfl, h0⟩; obtain rfl := h0.symm
  repeat' (first | (simp (disch := omega) only [push_cast, ↓reduceIte, zA, zG, zB, zH, zI, zC, zJ, zK, zL, zD, zE, zF, zM, zN, zO, zP, zQ, reduceCtorEq, not_true_eq_false, not_false_eq_true]) | (first | refine iE ?_ ?_ | refine iD ?_ ?_ | refine iQ ?_ ?_ | refine iV ?_ ?_) <;> intro _ | refine And.intro (by omega) ?_ | refine drawn_q ?_ | fail)
theorem tused_c (dv mv : Value) (d m : List ByteArray) (q : QD) (w : World) (h : ScIs w dv mv d m) (hq : q.Ok w) (hcn : q.wh.cnt ≤ 1000000) (hbl : q.bl.length ≤ 1000) (hdl : d.length ≤ 1000) : FnC Try.prog 30 #[scV dv mv, .agg (qdC q).toArray] w fun v w' => StS w' v (usedL d q) ∧ Later w w' := by
  have esc : scV dv mv = .agg #[dv, mv] := rfl
  rw [esc]
  refine enter30 _ _ ?_
  unfold B30
  have eca : (Value.agg (qdC q).toArray).cells = (qdC q).toArray := rfl
  have ecb : (Value.agg #[dv, mv]).cells = #[dv, mv] := rfl
  obtain ⟨l1, s1, F⟩ := box2 w dv mv 24
  have B2 := Blk.new (w.alloc (.cells #[dv, mv] 24)) (qdC q).toArray 42
  have l2 := later_alloc (w.alloc (.cells #[dv, mv] 24)) (.cells (qdC q).toArray 42)
  rw [s1] at B2
  repeat' (first | (simp (disch := omega) only [push_cast, ↓reduceIte, zA, zG, zB, zH, zI, zC, zJ, zK, zL, zD, zE, zF, zM, zN, zO, zP, zQ, reduceCtorEq, not_true_eq_false, not_false_eq_true, eca, ecb, s1]) | (first | refine iE ?_ ?_ | refine iD ?_ ?_ | refine iQ ?_ ?_ | refine iV ?_ ?_) <;> intro _ | refine And.intro (by omega) ?_ | fail)
  have l12 := l1.trans l2
  have FF : ∀ w', Later ((w.alloc (.cells #[dv, mv] 24)).alloc (.cells (qdC q).toArray 42)) w' → w'.cell? ⟨w.heap.size, 0, none⟩ = some dv := fun w' hl => (F w' (l2.trans hl)).1
  clear F
  generalize (w.alloc (.cells #[dv, mv] 24)).alloc (.cells (qdC q).toArray 42) = w1 at *
  generalize hkf : w.heap.size = kf at *
  have h1 := h.later l12
  have q1 := hq.later l12
  have c1 : cellsAt w1 ⟨kf + 1, 0, none⟩ 12 = some (qdC q) := Blk.cellsAt (l := qdC q) B2
  repeat' (first | (simp (disch := omega) only [push_cast, ↓reduceIte, zA, zG, zB, zH, zI, zC, zJ, zK, zL, zD, zE, zF, zM, zN, zO, zP, zQ, reduceCtorEq, not_true_eq_false, not_false_eq_true, c1]) | (first | refine iE ?_ ?_ | refine iD ?_ ?_ | refine iQ ?_ ?_ | refine iV ?_ ?_) <;> intro _ | refine And.intro (by omega) ?_ | fail)
  refine (tdims_c q w1 q1 hcn hbl).mono ?_
  rintro av w2 ⟨ho2, l2⟩
  have hav := OwnS.st ho2
  obtain ⟨ao, ac, hae⟩ := Sl.slice hav
  rw [hae] at hav
  subst hae
  have l3 := later_alloc w2 (.cells #[.slice ao ((q.bl ++ q.wh.dims).map Value.string).length ac] 22)
  repeat' (first | (simp (disch := omega) only [push_cast, ↓reduceIte, zA, zG, zB, zH, zI, zC, zJ, zK, zL, zD, zE, zF, zM, zN, zO, zP, zQ, reduceCtorEq, not_true_eq_false, not_false_eq_true]) | (first | refine iE ?_ ?_ | refine iD ?_ ?_ | refine iQ ?_ ?_ | refine iV ?_ ?_) <;> intro _ | refine And.intro (by omega) ?_ | fail)
  have B3 := Blk.new w2 #[.slice ao ((q.bl ++ q.wh.dims).map Value.string).length ac] 22
  generalize w2.alloc (.cells #[.slice ao ((q.bl ++ q.wh.dims).map Value.string).length ac] 22) = w3 at *
  have l13 := l2.trans l3
  have f3 := FF w3 l13
  repeat' (first | (simp (disch := omega) only [push_cast, ↓reduceIte, zA, zG, zB, zH, zI, zC, zJ, zK, zL, zD, zE, zF, zM, zN, zO, zP, zQ, reduceCtorEq, not_true_eq_false, not_false_eq_true, f3, addr_add_eq, Nat.zero_add]) | (first | refine iE ?_ ?_ | refine iD ?_ ?_ | refine iQ ?_ ?_ | refine iV ?_ ?_) <;> intro _ | refine And.intro (by omega) ?_ | fail)
  have h3 := (h1.later l13).dS
  refine (sclone_c dv d w3 h3 (by omega)).mono ?_
  rintro cv w4 ⟨ho4, l4⟩
  repeat' (first | (simp (disch := omega) only [push_cast, ↓reduceIte, zA, zG, zB, zH, zI, zC, zJ, zK, zL, zD, zE, zF, zM, zN, zO, zP, zQ, reduceCtorEq, not_true_eq_false, not_false_eq_true]) | (first | refine iE ?_ ?_ | refine iD ?_ ?_ | refine iQ ?_ ?_ | refine iV ?_ ?_) <;> intro _ | refine And.intro (by omega) ?_ | fail)
  have hpr : ∀ x ∈ d, Prd Try.prog w3 76 #[pt w2.heap.size] (.string x) (!inL x (q.bl ++ q.wh.dims)) := by
    intro x _ w' hl
    have b := hl.cell (B3.cell 0)
    refine (used1_c x w2.heap.size _ (q.bl ++ q.wh.dims) w' b ((hav.later l3).later hl)).mono ?_
    rintro r w'' ⟨rfl, rfl⟩
    exact ⟨rfl, Later.refl _⟩
  refine (sdelete_c w3.heap.size cv d 76 #[pt w2.heap.size] (fun x => !inL x (q.bl ++ q.wh.dims)) w3 w4 l4 (Nat.le_refl _) ho4 hpr (by omega)).mono ?_
  rintro r w5 ⟨hr, l5⟩
  have hr : StS w5 r (usedL d q) := by
    unfold usedL
    simpa using hr
  repeat' (first | (simp (disch := omega) only [push_cast, ↓reduceIte, zA, zG, zB, zH, zI, zC, zJ, zK, zL, zD, zE, zF, zM, zN, zO, zP, zQ, reduceCtorEq, not_true_eq_false, not_false_eq_true]) | (first | refine iE ?_ ?_ | refine iD ?_ ?_ | refine iQ ?_ ?_ | refine iV ?_ ?_) <;> intro _ | refine And.intro (by omega) ?_ | refine drawn_q ?_ | fail)
  first | exact ⟨hr, (l12.trans (l13.trans l5))⟩ | exact (l12.trans (l13.trans l5))
end Go.Proofs.Ytnofalhkapmcnaa
end
