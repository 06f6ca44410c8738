/- The conditions of a filter, one behind the other: a function that calls itself through its own variable. -/
import Derived.Test.YtnofalhkapmcnaaPartF
set_option linter.all false
open Nat renaming reduceEqDiff → zA, reducePow → zB, reduceMul → zC, reduceAdd → zD, reduceSub → zE, reduceLeDiff → zF
open Int renaming reduceToNat → zG, reducePow → zH, reduceNeg → zI, reduceMul → zJ, reduceAdd → zK, reduceSub → zL, reduceLT → zM, reduceLE → zN, reduceEq → zO, reduceMod → zP, reduceDiv → zQ
section
set_option linter.unusedSimpArgs false
namespace Go.Vc
mutual
def FT.conds : FT → List FT
  | .mk op d v kv l => (if op = 1 ∨ op = 2 then [.mk op d v kv l] else []) ++ FT.condsL l
def FT.condsL : List FT → List FT
  | [] => []
  | k :: l => k.conds ++ FT.condsL l
end
theorem FT.conds_is (f : FT) : f.conds = (if f.op = 1 ∨ f.op = 2 then [f] else []) ++ f.kids.flatMap FT.conds := by
  obtain ⟨op, d, v, kv, l⟩ := f
  have : ∀ l : List FT, FT.condsL l = l.flatMap FT.conds := by
    intro l
    induction l with
    | nil => rfl
    | cons k l ih => show k.conds ++ FT.condsL l = _; rw [ih]; rfl
  show _ ++ FT.condsL l = _
  rw [this]
  rfl
theorem FT.conds_dims : ∀ f : FT, f.conds.map FT.dim = f.dims := by
  intro f
  induction f using FT.ind with
  | h f ih =>
    rw [FT.conds_is, FT.dims_is, List.map_append]
    congr 1
    · split <;> rfl
    · rw [List.map_flatMap]
      generalize f.kids = l at *
      induction l with
      | nil => rfl
      | cons k l ihl => rw [List.flatMap_cons, List.flatMap_cons, ih k (by simp), ihl fun x hx => ih x (by simp [hx])]
theorem FT.conds_ok {w : World} : ∀ f : FT, f.Ok w → ∀ k ∈ f.conds, k.Ok w := by
  intro f
  induction f using FT.ind with
  | h f ih =>
    intro hf k hk
    rw [FT.conds_is] at hk
    rcases List.mem_append.1 hk with h | h
    · split at h
      · rw [List.mem_singleton.1 h]; exact hf
      · cases h
    · obtain ⟨x, hx, hk⟩ := List.mem_flatMap.1 h
      exact ih x hx ((FT.ok_iff.1 hf).2.2.2.2 x hx) k hk
theorem FT.conds_cnt (f : FT) : f.conds.length ≤ f.cnt := by
  have h := FT.dims_cnt f
  rw [← FT.conds_dims, List.length_map] at h
  exact h
/-- Their kinds, for the words of the document. -/
theorem FT.cnt_kids (f : FT) : (f.kids.map FT.cnt).sum + 1 = f.cnt := by
  rw [FT.cnt_is]
  congr 1
  generalize f.kids = l
  induction l with
  | nil => rfl
  | cons k l ih => show _ = k.cnt + FT.cntL l; rw [← ih]; rfl
end Go.Vc
namespace Go.Proofs.Ytnofalhkapmcnaa
open Go.Vc Go.Key
set_option maxRecDepth 100000
def zeroF : FT := .mk 0 ⟨#[]⟩ ⟨#[]⟩ (.slice none 0 0) []
theorem ftC_one {f : FT} {w : World} (h : f.Ok w) : ∀ u ∈ ftC f, u.oneCell' = true := by
  obtain ⟨o, c, hkv, _⟩ := RecS.slice (FT.ok_iff.1 h).2.2.2.1
  intro u hu
  simp only [ftC, List.mem_cons, List.not_mem_nil, or_false] at hu
  rcases hu with rfl | rfl | rfl | rfl
  · rfl
  · rfl
  · rfl
  · rw [hkv]; rfl
abbrev pt (k : Nat) : Value := .pointer (some ⟨k, 0, none⟩)
/-- The captured variables: the list so far, and the function itself. -/
structure WSt (w0 : World) (ko kw : Nat) (w : World) (acc : List FT) : Prop where
  l : Later w0 w
  hko : w0.heap.size ≤ ko
  hkw : w0.heap.size ≤ kw
  out : ∃ ov, Blk w ko #[ov] 37 ∧ OwnR ftC 4 w w0.heap.size 39 ov acc
  fn : Blk w kw #[.func (.func 149) #[] #[pt ko, pt kw]] 178
/-- What holds when some of the operations are done. -/
def IB (ko kw kf : Nat) (f : FT) (acc : List FT) (ov : Value) (w0 w1 : World) (b0 b1 b2 b3 b4 b5 b6 b7 : Bool) (s1 s2 s3 s14 s15 s16 s17 s18 s19 : Value) (w : World) : Prop :=
  (s1 = pt ko ∧ s2 = pt kw ∧ s3 = pt kf) ∧
  ((b4 = false ∧ b5 = false ∧ b6 = false ∧ b7 = false ∧ Later w1 w ∧ (b0 = true → s14 = ov) ∧ (b1 = true → s15 = .agg (ftC f).toArray) ∧ (b2 = true → s16 = .int .i64 (acc.length : Int)) ∧ (b3 = true → ∃ b, s17 = .slice (some ⟨b, 0, none⟩) 1 1 ∧ Blk w b (ftC zeroF).toArray 39)) ∨
   (b0 = true ∧ b1 = true ∧ b2 = true ∧ b3 = true ∧ b4 = true ∧ s15 = .agg (ftC f).toArray ∧ s16 = .int .i64 (acc.length : Int) ∧ Later w0 w ∧ Blk w kf (ftC f).toArray 39 ∧ Blk w kw #[.func (.func 149) #[] #[pt ko, pt kw]] 178 ∧
     ∃ g c, g ≠ kf ∧ s18 = .slice (some ⟨g, 0, none⟩) (acc.length + 1) c ∧ OwnR ftC 4 w w0.heap.size 39 (.slice (some ⟨g, 0, none⟩) (acc.length + 1) c) (acc ++ [if b6 = true then f else zeroF]) ∧
       (b5 = true → s19 = .pointer (some ⟨g, acc.length * 4, none⟩)) ∧ Blk w ko #[if b7 = true then .slice (some ⟨g, 0, none⟩) (acc.length + 1) c else ov] 37))
theorem waits_at' {dps : List (List Nat)} {D : Nat → Bool} {j : Nat} (h : waitsOk dps D j) {ds : List Nat} (hd : dps[j]? = some ds) {i : Nat} (hi : i ∈ ds) : D i = true := h ds hd i hi
theorem grown_not {w w' : World} {r : Option Nat} {k : Nat} {cs : Array Value} {e : TypeId} (g : w.grownBy w' r) (h : Blk w k cs e) (hk : r ≠ some k) : Blk w' k cs e := by
  unfold Blk at *
  rw [g.block k (Blk.lt h) fun he => hk (by first | exact he | exact he.symm)]; exact h
theorem own_succ {w : World} {base s n : Nat} {e : TypeId} {v : Value} {xs : List Value} (h : w.ownsRow base e s v (n + 1) xs) : ∃ g c, v = .slice (some ⟨g, 0, none⟩) (n + 1) c := by
  obtain ⟨_, h⟩ := h
  rcases h with ⟨_, h0⟩ | ⟨g, cap, cur, hv, _⟩
  · simp at h0
  · exact ⟨g, cap, hv⟩
theorem blk_ne {w : World} {k j : Nat} {cs ds : Array Value} {e e' : TypeId} (h : Blk w k cs e) (g : Blk w j ds e') (hne : e ≠ e') : k ≠ j := by
  intro hk
  subst hk
  unfold Blk at *
  rw [h] at g
  simp only [Option.some.injEq, Obj.cells.injEq] at g
  exact hne g.2.1
set_option maxHeartbeats 2000000 in
theorem reg_c {w0 w1 : World} {ko kw kf oc : Nat} {oo : Option Addr} {f : FT} {acc : List FT} {K : Env → World → Prop} {σ : Env} (e1 : σ 1 = pt ko) (e2 : σ 2 = pt kw) (e3 : σ 3 = pt kf) (l01 : Later w0 w1) (hf : f.Ok w0) (hko : w0.heap.size ≤ ko) (hkw : w0.heap.size ≤ kw)
    (Bo : Blk w1 ko #[.slice oo acc.length oc] 37) (ho : OwnR ftC 4 w1 w0.heap.size 39 (.slice oo acc.length oc) acc) (Bw : Blk w1 kw #[.func (.func 149) #[] #[pt ko, pt kw]] 178) (B1 : Blk w1 kf (ftC f).toArray 39)
    (hbig : ∀ k, (Value.slice oo acc.length oc).ownBlock = some k → k < kf) (hkf : kf < w1.heap.size) (hcn : acc.length ≤ 100000000)
    (hK : ∀ (σ1 : Env) (w2 : World), σ1 2 = pt kw → σ1 3 = pt kf → Blk w2 kf (ftC f).toArray 39 → WSt w0 ko kw w2 (acc ++ [f]) → K σ1 w2) :
    anyA Try.prog r149_2 [[], [], [0], [], [0, 3, 0, 1, 2, 3], [4, 2, 0, 1, 2, 3, 4], [5, 1, 4, 0, 1, 2, 3, 4], [4, 4, 0, 1, 2, 3, 4]] K σ w1 := by
  refine ⟨fun D σ w => IB ko kw kf f acc (.slice oo acc.length oc) w0 w1 (D 0) (D 1) (D 2) (D 3) (D 4) (D 5) (D 6) (D 7) (σ 1) (σ 2) (σ 3) (σ 14) (σ 15) (σ 16) (σ 17) (σ 18) (σ 19) w, ?_, ?_, ?_⟩
  · intro w' hl
    exact ⟨⟨e1, e2, e3⟩, .inl ⟨rfl, rfl, rfl, rfl, hl, (fun h => by cases h), (fun h => by cases h), (fun h => by cases h), (fun h => by cases h)⟩⟩
  · intro D σ1 w2 j o hcl hI hoj hDj hwt
    obtain ⟨⟨g1, g2, g3⟩, hI⟩ := hI
    match j, hoj with
    | 0, hoj =>
      obtain rfl := Option.some.inj hoj
      rcases hI with ⟨d4, d5, d6, d7, l2, k0, k1, k2, k3⟩ | ⟨q0, _⟩
      · have bo := (Bo.chg (Chg.of_later (ks := []) l2) (by simp)).cell 0
        repeat' (first | (simp (disch := omega) only [push_cast, ↓reduceIte, zA, zG, zB, zH, zI, zC, zJ, zK, zL, zD, zE, zF, zM, zN, zO, zP, zQ, reduceCtorEq, not_true_eq_false, not_false_eq_true, g1, bo]) | (first | refine iE ?_ ?_ | refine iD ?_ ?_ | refine iQ ?_ ?_ | refine iV ?_ ?_) <;> intro _ | refine And.intro (by omega) ?_ | refine drawn_q ?_ | fail)
        exact ⟨⟨rfl, g2, g3⟩, .inl ⟨d4, d5, d6, d7, l2, fun _ => rfl, k1, k2, k3⟩⟩
      · rw [q0] at hDj; cases hDj
    | 1, hoj =>
      obtain rfl := Option.some.inj hoj
      rcases hI with ⟨d4, d5, d6, d7, l2, k0, k1, k2, k3⟩ | ⟨_, q0, _⟩
      · have f2 : cellsAt w2 ⟨kf, 0, none⟩ 4 = some (ftC f) := Blk.cellsAt (l := ftC f) (ftLater B1 l2)
        repeat' (first | (simp (disch := omega) only [push_cast, ↓reduceIte, zA, zG, zB, zH, zI, zC, zJ, zK, zL, zD, zE, zF, zM, zN, zO, zP, zQ, reduceCtorEq, not_true_eq_false, not_false_eq_true, g3, f2]) | (first | refine iE ?_ ?_ | refine iD ?_ ?_ | refine iQ ?_ ?_ | refine iV ?_ ?_) <;> intro _ | refine And.intro (by omega) ?_ | refine drawn_q ?_ | fail)
        exact ⟨⟨g1, g2, rfl⟩, .inl ⟨d4, d5, d6, d7, l2, k0, fun _ => rfl, k2, k3⟩⟩
      · rw [q0] at hDj; cases hDj
    | 2, hoj =>
      obtain rfl := Option.some.inj hoj
      rcases hI with ⟨d4, d5, d6, d7, l2, k0, k1, k2, k3⟩ | ⟨_, _, q0, _⟩
      · have h14 := k0 (waits_at' hwt rfl (by simp))
        repeat' (first | (simp (disch := omega) only [push_cast, ↓reduceIte, zA, zG, zB, zH, zI, zC, zJ, zK, zL, zD, zE, zF, zM, zN, zO, zP, zQ, reduceCtorEq, not_true_eq_false, not_false_eq_true, h14]) | (first | refine iE ?_ ?_ | refine iD ?_ ?_ | refine iQ ?_ ?_ | refine iV ?_ ?_) <;> intro _ | refine And.intro (by omega) ?_ | refine drawn_q ?_ | fail)
        exact ⟨⟨g1, g2, g3⟩, .inl ⟨d4, d5, d6, d7, l2, fun _ => rfl, k1, fun _ => rfl, k3⟩⟩
      · rw [q0] at hDj; cases hDj
    | 3, hoj =>
      obtain rfl := Option.some.inj hoj
      rcases hI with ⟨d4, d5, d6, d7, l2, k0, k1, k2, k3⟩ | ⟨_, _, _, q0, _⟩
      · repeat' (first | (simp (disch := omega) only [push_cast, ↓reduceIte, zA, zG, zB, zH, zI, zC, zJ, zK, zL, zD, zE, zF, zM, zN, zO, zP, zQ, reduceCtorEq, not_true_eq_false, not_false_eq_true]) | (first | refine iE ?_ ?_ | refine iD ?_ ?_ | refine iQ ?_ ?_ | refine iV ?_ ?_) <;> intro _ | refine And.intro (by omega) ?_ | refine drawn_q ?_ | fail)
        exact ⟨⟨g1, g2, g3⟩, .inl ⟨d4, d5, d6, d7, l2.trans (later_alloc _ _), k0, k1, k2, fun _ => ⟨_, rfl, Blk.new _ _ _⟩⟩⟩
      · rw [q0] at hDj; cases hDj
    | 4, hoj =>
      obtain rfl := Option.some.inj hoj
      rcases hI with ⟨d4, d5, d6, d7, l2, k0, k1, k2, k3⟩ | ⟨_, _, _, _, q0, _⟩
      · have D0 := waits_at' hwt rfl (i := 0) (by simp)
        have D1 := waits_at' hwt rfl (i := 1) (by simp)
        have D2 := waits_at' hwt rfl (i := 2) (by simp)
        have D3 := waits_at' hwt rfl (i := 3) (by simp)
        have h14 := k0 D0
        have h15 := k1 D1
        have h16 := k2 D2
        obtain ⟨b, h17, Bb⟩ := k3 D3
        have ho2 := ho.later l2
        repeat' (first | (simp (disch := omega) only [push_cast, ↓reduceIte, zA, zG, zB, zH, zI, zC, zJ, zK, zL, zD, zE, zF, zM, zN, zO, zP, zQ, reduceCtorEq, not_true_eq_false, not_false_eq_true, h14, h17]) | (first | refine iE ?_ ?_ | refine iD ?_ ?_ | refine iQ ?_ ?_ | refine iV ?_ ?_) <;> intro _ | refine And.intro (by omega) ?_ | refine drawn_q ?_ | fail)
        refine vAppend_at Try.underlying37 ti39 rfl (by decide) ho2 (RecS.lit1 (enc := ftC) (k := 4) (y := zeroF) rfl Bb) (by decide) (by unfold maxLen; simp only [List.length_cons, List.length_nil]; omega) (by simp only [List.length_cons, List.length_nil]; omega) (Nat.le_trans l01.size l2.size) ?_
        intro v' w' ho' hg hs
        obtain ⟨g, c, rfl⟩ := own_succ ho'
        have hgk : g ≠ kf := by
          rcases hs with h | h
          · have := hbig g (by rw [← h]; rfl)
            omega
          · have h : some g = some w2.heap.size := h
            have := Option.some.inj h
            have := l2.size
            omega
        have Bw2 := Bw.chg (Chg.of_later (ks := []) l2) (by simp)
        have Bo2 := Bo.chg (Chg.of_later (ks := []) l2) (by simp)
        have hB2 := grown_not hg (ftLater B1 l2) (fun h => by have := hbig kf h; omega)
        repeat' (first | (simp (disch := omega) only [push_cast, ↓reduceIte, zA, zG, zB, zH, zI, zC, zJ, zK, zL, zD, zE, zF, zM, zN, zO, zP, zQ, reduceCtorEq, not_true_eq_false, not_false_eq_true]) | (first | refine iE ?_ ?_ | refine iD ?_ ?_ | refine iQ ?_ ?_ | refine iV ?_ ?_) <;> intro _ | refine And.intro (by omega) ?_ | refine drawn_q ?_ | fail)
        refine ⟨⟨g1, g2, g3⟩, .inr ⟨D0, D1, D2, D3, rfl, h15, h16, (l01.trans l2).appended ho2 (Nat.le_refl _) hg, hB2, grown_ne ho2 hg Bw2 (by decide), g, c, hgk, rfl, ?_, ?_, ?_⟩⟩
        · show OwnR ftC 4 w' w0.heap.size 39 _ (acc ++ [if D 6 = true then f else zeroF])
          rw [d6]
          unfold OwnR
          simpa using ho'
        · intro h
          have h : D 5 = true := h
          rw [d5] at h; cases h
        · show Blk w' ko #[if D 7 = true then _ else _] _
          rw [d7]
          exact grown_ne ho2 hg Bo2 (by decide)
      · rw [q0] at hDj; cases hDj
    | 5, hoj =>
      obtain rfl := Option.some.inj hoj
      have D4 := waits_at' hwt rfl (i := 4) (by simp)
      rcases hI with ⟨d4, _⟩ | ⟨q0, q1, q2, q3, q4, h15, h16, hl, hB, hw, g, c, hgk, h18, hO, h19, hBo⟩
      · rw [d4] at D4; cases D4
      · have t1 : ((acc.length : Int)).toNat = acc.length := Int.toNat_natCast _
        repeat' (first | (simp (disch := omega) only [push_cast, ↓reduceIte, zA, zG, zB, zH, zI, zC, zJ, zK, zL, zD, zE, zF, zM, zN, zO, zP, zQ, reduceCtorEq, not_true_eq_false, not_false_eq_true, h18, h16, t1, addr_add_eq, Nat.zero_add]) | (first | refine iE ?_ ?_ | refine iD ?_ ?_ | refine iQ ?_ ?_ | refine iV ?_ ?_) <;> intro _ | refine And.intro (by omega) ?_ | refine drawn_q ?_ | fail)
        exact ⟨⟨g1, g2, g3⟩, .inr ⟨q0, q1, q2, q3, q4, h15, rfl, hl, hB, hw, g, c, hgk, rfl, hO, fun _ => rfl, hBo⟩⟩
    | 6, hoj =>
      obtain rfl := Option.some.inj hoj
      have D5 := waits_at' hwt rfl (i := 5) (by simp)
      rcases hI with ⟨d4, d5, _⟩ | ⟨q0, q1, q2, q3, q4, h15, h16, hl, hB, hw, g, c, hgk, h18, hO, h19, hBo⟩
      · rw [d5] at D5; cases D5
      · have h19' := h19 D5
        rw [hDj] at hO
        obtain ⟨g', hg', hgB, ⟨cs, hb⟩, hcan, ho8, hc8⟩ := OwnR.set ftC_len hO (i := acc.length) (by simp) f
        obtain rfl : g = g' := congrArg Addr.block hg'
        rw [addr_add_eq, Nat.zero_add] at hcan ho8 hc8
        repeat' (first | (simp (disch := omega) only [push_cast, ↓reduceIte, zA, zG, zB, zH, zI, zC, zJ, zK, zL, zD, zE, zF, zM, zN, zO, zP, zQ, reduceCtorEq, not_true_eq_false, not_false_eq_true, h19', h15]) | (first | refine iE ?_ ?_ | refine iD ?_ ?_ | refine iQ ?_ ?_ | refine iV ?_ ?_) <;> intro _ | refine And.intro (by omega) ?_ | refine drawn_q ?_ | fail)
        refine ⟨rfl, fun u hu => ftC_one hf u (by simpa [Value.cells] using hu), hcan, ?_⟩
        have ex : (Value.agg (ftC f).toArray).cells.toList = ftC f := rfl
        rw [ex]
        have hset : (acc ++ [if (false : Bool) = true then f else zeroF]).set acc.length f = acc ++ [f] := by simp
        rw [hset] at ho8
        generalize storeAll w2 ⟨g, acc.length * 4, none⟩ (ftC f) = w8 at *
        have n1 := blk_ne hBo hb (by decide)
        have n2 := blk_ne hw hb (by decide)
        repeat' (first | (simp (disch := omega) only [push_cast, ↓reduceIte, zA, zG, zB, zH, zI, zC, zJ, zK, zL, zD, zE, zF, zM, zN, zO, zP, zQ, reduceCtorEq, not_true_eq_false, not_false_eq_true]) | (first | refine iE ?_ ?_ | refine iD ?_ ?_ | refine iQ ?_ ?_ | refine iV ?_ ?_) <;> intro _ | refine And.intro (by omega) ?_ | refine drawn_q ?_ | fail)
        refine ⟨⟨g1, g2, g3⟩, .inr ⟨q0, q1, q2, q3, q4, ?_, h16, Chg.later hl hc8 (by intro j hj; rw [List.mem_singleton.1 hj]; exact hgB), hB.chg hc8 (by simpa using Ne.symm hgk), hw.chg hc8 (by simpa using n2), g, c, hgk, h18, ?_, h19, hBo.chg hc8 (by simpa using n1)⟩⟩
        · first | exact h15 | rfl
        · exact ho8
    | 7, hoj =>
      obtain rfl := Option.some.inj hoj
      have D4 := waits_at' hwt rfl (i := 4) (by simp)
      rcases hI with ⟨d4, _⟩ | ⟨q0, q1, q2, q3, q4, h15, h16, hl, hB, hw, g, c, hgk, h18, hO, h19, hBo⟩
      · rw [d4] at D4; cases D4
      · rw [hDj] at hBo
        have hcell : w2.cell? ⟨ko, 0, none⟩ = some (.slice oo acc.length oc) := hBo.cell 0
        have hfz := hBo.frozen 0
        have n1 := blk_ne hB hBo (by decide)
        have n2 := blk_ne hw hBo (by decide)
        have hc8 : Chg w2 (w2.setCell ⟨ko, 0, none⟩ (.slice (some ⟨g, 0, none⟩) (acc.length + 1) c)) [ko] := chg_setCell w2 (by simp) _
        have hBo8 : Blk (w2.setCell ⟨ko, 0, none⟩ (.slice (some ⟨g, 0, none⟩) (acc.length + 1) c)) ko #[.slice (some ⟨g, 0, none⟩) (acc.length + 1) c] 37 := hBo.set 0 _
        have hO8 := own_chg_ty hO hBo (by decide) hc8
        repeat' (first | (simp (disch := omega) only [push_cast, ↓reduceIte, zA, zG, zB, zH, zI, zC, zJ, zK, zL, zD, zE, zF, zM, zN, zO, zP, zQ, reduceCtorEq, not_true_eq_false, not_false_eq_true, g1, h18, hcell, hfz]) | (first | refine iE ?_ ?_ | refine iD ?_ ?_ | refine iQ ?_ ?_ | refine iV ?_ ?_) <;> intro _ | refine And.intro (by omega) ?_ | refine drawn_q ?_ | fail)
        generalize w2.setCell ⟨ko, 0, none⟩ (.slice (some ⟨g, 0, none⟩) (acc.length + 1) c) = w8 at *
        refine ⟨⟨rfl, g2, g3⟩, .inr ⟨q0, q1, q2, q3, q4, h15, h16, Chg.later hl hc8 (by intro j hj; rw [List.mem_singleton.1 hj]; exact hko), hB.chg hc8 (by simpa using n1), hw.chg hc8 (by simpa using n2), g, c, hgk, ?_, hO8, h19, hBo8⟩⟩
        first | exact h18 | rfl
    | n + 8, hoj => exact absurd hoj (by simp [r149_2])
  · intro D σ1 w2 hI hall
    obtain ⟨⟨g1, g2, g3⟩, hI⟩ := hI
    have hall : ∀ j, j < 8 → D j = true := hall
    rcases hI with ⟨d4, _⟩ | ⟨q0, q1, q2, q3, q4, h15, h16, hl, hB, hw, g, c, hgk, h18, hO, h19, hBo⟩
    · rw [hall 4 (by decide)] at d4; cases d4
    · rw [hall 6 (by decide)] at hO
      rw [hall 7 (by decide)] at hBo
      exact hK σ1 w2 g2 g3 hB ⟨hl, hko, hkw, ⟨_, hBo, hO⟩, hw⟩
set_option maxHeartbeats 4000000 in
theorem walk_c {w0 : World} {ko kw : Nat} : ∀ (f : FT) (acc : List FT) (w : World), f.Ok w0 → WSt w0 ko kw w acc → acc.length + f.cnt ≤ 100000000 → FnC Try.prog 149 #[.agg (ftC f).toArray, pt ko, pt kw] w fun _ w' => WSt w0 ko kw w' (acc ++ f.conds) := by
  intro f
  induction f using FT.ind with
  | h f ih =>
  intro acc w hf hW hcn
  obtain ⟨l0, hko, hkw, ⟨ov, Bo, ho⟩, Bw⟩ := hW
  obtain ⟨oo, oc, rfl, _⟩ := RecS.slice (OwnR.s ho)
  obtain ⟨h1, h2, h3, h4, h5⟩ := FT.ok_iff.1 hf
  obtain ⟨o, c, hkv, hc1, hc2⟩ := RecS.slice h4
  refine enter149 _ _ _ ?_
  unfold B149
  have eca : (Value.agg (ftC f).toArray).cells = (ftC f).toArray := rfl
  obtain ⟨l1, s1, B1⟩ := ftBox w f
  have hbig : ∀ k, (Value.slice oo acc.length oc).ownBlock = some k → k < w.heap.size := fun k hk => (World.ownsRow.lt ho k hk).2
  repeat' (first | (simp (disch := omega) only [push_cast, ↓reduceIte, zA, zG, zB, zH, zI, zC, zJ, zK, zL, zD, zE, zF, zM, zN, zO, zP, zQ, reduceCtorEq, not_true_eq_false, not_false_eq_true, eca]) | (first | refine iE ?_ ?_ | refine iD ?_ ?_ | refine iQ ?_ ?_ | refine iV ?_ ?_) <;> intro _ | refine And.intro (by omega) ?_ | fail)
  have Bo := Bo.alloc (.cells (ftC f).toArray 39)
  have Bw := Bw.alloc (.cells (ftC f).toArray 39)
  have ho := ho.alloc (.cells (ftC f).toArray 39)
  generalize w.alloc (.cells (ftC f).toArray 39) = w1 at *
  generalize hkf : w.heap.size = kf at *
  obtain ⟨a0, a1, a2, a3⟩ := ftAt B1
  have l01 := l0.trans l1
  -- the loop over the kids
  have loop : ∀ (σ1 : Env) (w2 : World) (acc2 : List FT), σ1 2 = pt kw → σ1 21 = f.kv → σ1 22 = .int .i64 (f.kids.length : Int) → σ1 23 = .int .i64 0 → WSt w0 ko kw w2 acc2 → acc2.length + (f.kids.map FT.cnt).sum ≤ 100000000 → acc2 ++ f.kids.flatMap FT.conds = acc ++ f.conds →
      vc Try.prog (VC.loop ((VC.region r149_4).seq ((VC.cond (Operand.tmp 24) VC.skip (VC.exit 0)).seq ((VC.block 1 ((VC.region r149_5).seq (VC.region r149_6))).seq (VC.region r149_7))))) (inBlk 0 (retK Try.prog #[] fun _ w' => WSt w0 ko kw w' (acc ++ f.conds))) [] σ1 w2 := by
    intro σ1 w2 acc2 e2 e21 e22 e23 hW2 hcn2 hac
    have hkc := FT.cnt_kids f
    refine vc_loop W149_0 (fun i : Nat => [(23, .int .i64 (i : Int))]) (fun i w' => i ≤ f.kids.length ∧ WSt w0 ko kw w' (acc2 ++ (f.kids.take i).flatMap FT.conds)) (fun i => f.kids.length - i) 0 (by decide) ?_ ?_ ?_
    · simp (disch := omega) only [push_cast, ↓reduceIte, zA, zG, zB, zH, zI, zC, zJ, zK, zL, zD, zE, zF, zM, zN, zO, zP, zQ, reduceCtorEq, not_true_eq_false, not_false_eq_true, e23]
      try rfl
    · exact ⟨Nat.zero_le _, by simpa using hW2⟩
    rintro i uu w3 ⟨hi, hW3⟩
    by_cases hik : i < f.kids.length
    · have hd2 : decide ((i : Int) < (f.kids.length : Int)) = true := decide_eq_true (by omega)
      have h4' := h4
      rw [hkv] at h4' e21
      obtain ⟨a, rfl, fa⟩ := RecS.at ftC_len (h4'.later hW3.l) hik
      have hk := h5 _ (List.getElem_mem hik)
      have hb := hW3.fn.cell 0
      have hstep : (f.kids.take (i + 1)).flatMap FT.conds = (f.kids.take i).flatMap FT.conds ++ (f.kids[i]).conds := by
        rw [List.take_succ_eq_append_getElem hik, List.flatMap_append]; simp
      have hlen : ((f.kids.take i).flatMap FT.conds).length + (f.kids[i]).cnt ≤ (f.kids.map FT.cnt).sum := by
        have e : f.kids = f.kids.take i ++ f.kids[i] :: f.kids.drop (i + 1) := by rw [List.getElem_cons_drop, List.take_append_drop]
        have e3 : (f.kids.map FT.cnt).sum = ((f.kids.take i).map FT.cnt).sum + ((f.kids[i]).cnt + ((f.kids.drop (i + 1)).map FT.cnt).sum) := by
          rw [← List.sum_cons, ← List.map_cons, ← List.sum_append, ← List.map_append, ← e]
        have aux : ∀ l : List FT, (l.flatMap FT.conds).length ≤ (l.map FT.cnt).sum := by
          intro l
          induction l with
          | nil => simp
          | cons k l ih => rw [List.flatMap_cons, List.length_append, List.map_cons, List.sum_cons]; have := FT.conds_cnt k; omega
        have := aux (f.kids.take i)
        omega
      have hkm := List.getElem_mem hik
      generalize f.kids[i] = kid at *
      repeat' (first | (simp (disch := omega) only [push_cast, ↓reduceIte, zA, zG, zB, zH, zI, zC, zJ, zK, zL, zD, zE, zF, zM, zN, zO, zP, zQ, reduceCtorEq, not_true_eq_false, not_false_eq_true, e2, e21, e22, hd2, fa, addr_add_eq, Nat.zero_add]) | (first | refine iE ?_ ?_ | refine iD ?_ ?_ | refine iQ ?_ ?_ | refine iV ?_ ?_) <;> intro _ | refine And.intro (by omega) ?_ | refine drawn_q ?_ | fail)
      refine vStore_new rfl rfl (fun u hu => ftC_one hk u (by simpa using hu)) ?_
      have l3 := later_alloc w3 (.cells (ftC kid).toArray 39)
      have B3 := Blk.new w3 (ftC kid).toArray 39
      have hW4 : WSt w0 ko kw (w3.alloc (.cells (ftC kid).toArray 39)) (acc2 ++ (f.kids.take i).flatMap FT.conds) := by
        obtain ⟨q1, q2, q3, ⟨x, q4, q5⟩, q6⟩ := hW3
        exact ⟨q1.trans l3, q2, q3, ⟨x, q4.alloc _, q5.alloc _⟩, q6.alloc _⟩
      generalize w3.alloc (.cells (ftC kid).toArray 39) = w4 at *
      generalize w3.heap.size = k3 at *
      have f4 : cellsAt w4 ⟨k3, 0, none⟩ 4 = some (ftC kid) := Blk.cellsAt (l := ftC kid) B3
      have hb : w4.cell? ⟨kw, 0, none⟩ = some (.func (.func 149) #[] #[pt ko, pt kw]) := hW4.fn.cell 0
      repeat' (first | (simp (disch := omega) only [push_cast, ↓reduceIte, zA, zG, zB, zH, zI, zC, zJ, zK, zL, zD, zE, zF, zM, zN, zO, zP, zQ, reduceCtorEq, not_true_eq_false, not_false_eq_true, e2, f4, hb, addr_add_eq, Nat.zero_add]) | (first | refine iE ?_ ?_ | refine iD ?_ ?_ | refine iQ ?_ ?_ | refine iV ?_ ?_) <;> intro _ | refine And.intro (by omega) ?_ | refine drawn_q ?_ | fail)
      refine (ih kid hkm (acc2 ++ (f.kids.take i).flatMap FT.conds) w4 hk hW4 (by rw [List.length_append]; omega)).mono ?_
      intro v5 w5 hW5
      repeat' (first | (simp (disch := omega) only [push_cast, ↓reduceIte, zA, zG, zB, zH, zI, zC, zJ, zK, zL, zD, zE, zF, zM, zN, zO, zP, zQ, reduceCtorEq, not_true_eq_false, not_false_eq_true]) | (first | refine iE ?_ ?_ | refine iD ?_ ?_ | refine iQ ?_ ?_ | refine iV ?_ ?_) <;> intro _ | refine And.intro (by omega) ?_ | refine drawn_q ?_ | fail)
      refine ⟨rfl, i + 1, by simp (disch := omega) only [push_cast, ↓reduceIte, zA, zG, zB, zH, zI, zC, zJ, zK, zL, zD, zE, zF, zM, zN, zO, zP, zQ, reduceCtorEq, not_true_eq_false, not_false_eq_true], ⟨by omega, ?_⟩, by dsimp only; omega⟩
      rw [hstep, ← List.append_assoc]
      exact hW5
    · have hdm : i = f.kids.length := by omega
      subst hdm
      have hd2 : decide (((f.kids.length : Nat) : Int) < (f.kids.length : Int)) = false := decide_eq_false (by omega)
      rw [List.take_length, hac] at hW3
      repeat' (first | (simp (disch := omega) only [push_cast, ↓reduceIte, zA, zG, zB, zH, zI, zC, zJ, zK, zL, zD, zE, zF, zM, zN, zO, zP, zQ, reduceCtorEq, not_true_eq_false, not_false_eq_true, e2, e21, e22, hd2]) | (first | refine iE ?_ ?_ | refine iD ?_ ?_ | refine iQ ?_ ?_ | refine iV ?_ ?_) <;> intro _ | refine And.intro (by omega) ?_ | refine drawn_q ?_ | fail)
      all_goals first | exact hW3 | trace_state
  have hkc := FT.cnt_kids f
  by_cases hop : f.op = 1 ∨ f.op = 2
  · have hcd : acc ++ [f] ++ f.kids.flatMap FT.conds = acc ++ f.conds := by rw [FT.conds_is, if_pos hop, List.append_assoc]
    have hkl : kf < w1.heap.size := by omega
    have hcl : acc.length ≤ 100000000 := by omega
    have cont : ∀ (σ1 : Env) (w2 : World), σ1 2 = pt kw → σ1 3 = pt kf → Blk w2 kf (ftC f).toArray 39 → WSt w0 ko kw w2 (acc ++ [f]) →
        vc Try.prog ((VC.region r149_3).seq (VC.block 0 (VC.loop ((VC.region r149_4).seq ((VC.cond (Operand.tmp 24) VC.skip (VC.exit 0)).seq ((VC.block 1 ((VC.region r149_5).seq (VC.region r149_6))).seq (VC.region r149_7))))))) (retK Try.prog #[] fun _ w' => WSt w0 ko kw w' (acc ++ f.conds)) [] σ1 w2 := by
      intro σ1 w2 g2 g3 hB hW
      obtain ⟨_, _, _, b3⟩ := ftAt hB
      rw [hkv] at b3
      repeat' (first | (simp (disch := omega) only [push_cast, ↓reduceIte, zA, zG, zB, zH, zI, zC, zJ, zK, zL, zD, zE, zF, zM, zN, zO, zP, zQ, reduceCtorEq, not_true_eq_false, not_false_eq_true, g3, b3, addr_add_eq, Nat.zero_add]) | (first | refine iE ?_ ?_ | refine iD ?_ ?_ | refine iQ ?_ ?_ | refine iV ?_ ?_) <;> intro _ | refine And.intro (by omega) ?_ | refine drawn_q ?_ | fail)
      refine loop _ _ (acc ++ [f]) (by simp (disch := omega) only [push_cast, ↓reduceIte, zA, zG, zB, zH, zI, zC, zJ, zK, zL, zD, zE, zF, zM, zN, zO, zP, zQ, reduceCtorEq, not_true_eq_false, not_false_eq_true, g2]) (by simp (disch := omega) only [push_cast, ↓reduceIte, zA, zG, zB, zH, zI, zC, zJ, zK, zL, zD, zE, zF, zM, zN, zO, zP, zQ, reduceCtorEq, not_true_eq_false, not_false_eq_true, hkv]) (by simp (disch := omega) only [push_cast, ↓reduceIte, zA, zG, zB, zH, zI, zC, zJ, zK, zL, zD, zE, zF, zM, zN, zO, zP, zQ, reduceCtorEq, not_true_eq_false, not_false_eq_true]) (by simp (disch := omega) only [push_cast, ↓reduceIte, zA, zG, zB, zH, zI, zC, zJ, zK, zL, zD, zE, zF, zM, zN, zO, zP, zQ, reduceCtorEq, not_true_eq_false, not_false_eq_true]) hW (by rw [List.length_append, List.length_singleton]; omega) hcd
    rcases hop with e1 | e1
    · have d1 : decide (f.op = 1) = true := decide_eq_true e1
      repeat' (first | (simp (disch := omega) only [push_cast, ↓reduceIte, zA, zG, zB, zH, zI, zC, zJ, zK, zL, zD, zE, zF, zM, zN, zO, zP, zQ, reduceCtorEq, not_true_eq_false, not_false_eq_true, a0, d1, addr_add_eq, Nat.zero_add]) | (first | refine iE ?_ ?_ | refine iD ?_ ?_ | refine iQ ?_ ?_ | refine iV ?_ ?_) <;> intro _ | refine And.intro (by omega) ?_ | refine drawn_q ?_ | fail)
      exact Or.inr (reg_c rfl rfl rfl l01 hf hko hkw Bo ho Bw B1 hbig hkl hcl cont)
    · have d1 : decide (f.op = 1) = false := decide_eq_false (by omega)
      have d2 : decide (f.op = 2) = true := decide_eq_true e1
      repeat' (first | (simp (disch := omega) only [push_cast, ↓reduceIte, zA, zG, zB, zH, zI, zC, zJ, zK, zL, zD, zE, zF, zM, zN, zO, zP, zQ, reduceCtorEq, not_true_eq_false, not_false_eq_true, a0, d1, d2, addr_add_eq, Nat.zero_add]) | (first | refine iE ?_ ?_ | refine iD ?_ ?_ | refine iQ ?_ ?_ | refine iV ?_ ?_) <;> intro _ | refine And.intro (by omega) ?_ | refine drawn_q ?_ | fail)
      exact Or.inr (reg_c rfl rfl rfl l01 hf hko hkw Bo ho Bw B1 hbig hkl hcl cont)
  · have hcd : acc ++ f.kids.flatMap FT.conds = acc ++ f.conds := by rw [FT.conds_is, if_neg hop, List.nil_append]
    have d1 : decide (f.op = 1) = false := decide_eq_false (by omega)
    have d2 : decide (f.op = 2) = false := decide_eq_false (by omega)
    rw [hkv] at a3
    repeat' (first | (simp (disch := omega) only [push_cast, ↓reduceIte, zA, zG, zB, zH, zI, zC, zJ, zK, zL, zD, zE, zF, zM, zN, zO, zP, zQ, reduceCtorEq, not_true_eq_false, not_false_eq_true, a0, a3, d1, d2, addr_add_eq, Nat.zero_add]) | (first | refine iE ?_ ?_ | refine iD ?_ ?_ | refine iQ ?_ ?_ | refine iV ?_ ?_) <;> intro _ | refine And.intro (by omega) ?_ | refine drawn_q ?_ | fail)
    exact loop _ _ acc (by simp (disch := omega) only [push_cast, ↓reduceIte, zA, zG, zB, zH, zI, zC, zJ, zK, zL, zD, zE, zF, zM, zN, zO, zP, zQ, reduceCtorEq, not_true_eq_false, not_false_eq_true]) (by simp (disch := omega) only [push_cast, ↓reduceIte, zA, zG, zB, zH, zI, zC, zJ, zK, zL, zD, zE, zF, zM, zN, zO, zP, zQ, reduceCtorEq, not_true_eq_false, not_false_eq_true, hkv]) (by simp (disch := omega) only [push_cast, ↓reduceIte, zA, zG, zB, zH, zI, zC, zJ, zK, zL, zD, zE, zF, zM, zN, zO, zP, zQ, reduceCtorEq, not_true_eq_false, not_false_eq_true]) (by simp (disch := omega) only [push_cast, ↓reduceIte, zA, zG, zB, zH, zI, zC, zJ, zK, zL, zD, zE, zF, zM, zN, zO, zP, zQ, reduceCtorEq, not_true_eq_false, not_false_eq_true]) ⟨l01, hko, hkw, ⟨_, Bo, ho⟩, Bw⟩ (by omega) hcd
end Go.Proofs.Ytnofalhkapmcnaa
end
section
set_option linter.unusedSimpArgs false
namespace Go.Proofs.Ytnofalhkapmcnaa
open Go.Vc Go.Key
set_option maxRecDepth 100000
theorem conditions_c (f : FT) (w : World) (hf : f.Ok w) (hcn : f.cnt ≤ 1000000) : FnC Try.prog 119 #[.agg (ftC f).toArray] w fun v w' => OwnR ftC 4 w' w.heap.size 39 v f.conds ∧ Later w w' := by
  refine enter119 _ ?_
  unfold B119
  have eca : (Value.agg (ftC f).toArray).cells = (ftC f).toArray := rfl
  obtain ⟨l1, s1, B1⟩ := ftBox w f
  repeat' (first | (simp (disch := omega) only [push_cast, ↓reduceIte, zA, zG, zB, zH, zI, zC, zJ, zK, zL, zD, zE, zF, zM, zN, zO, zP, zQ, reduceCtorEq, not_true_eq_false, not_false_eq_true, eca, s1]) | (first | refine iE ?_ ?_ | refine iD ?_ ?_ | refine iQ ?_ ?_ | refine iV ?_ ?_) <;> intro _ | refine And.intro (by omega) ?_ | fail)
  generalize w.alloc (.cells (ftC f).toArray 39) = w1 at *
  have l2 := later_alloc w1 (.cells #[.slice none 0 0] 37)
  have s2 : (w1.alloc (.cells #[.slice none 0 0] 37)).heap.size = w.heap.size + 2 := by rw [World.size_alloc, s1]
  have Bo := Blk.new w1 #[.slice none 0 0] 37
  rw [s1] at Bo
  generalize w1.alloc (.cells #[.slice none 0 0] 37) = w2 at *
  repeat' (first | (simp (disch := omega) only [push_cast, ↓reduceIte, zA, zG, zB, zH, zI, zC, zJ, zK, zL, zD, zE, zF, zM, zN, zO, zP, zQ, reduceCtorEq, not_true_eq_false, not_false_eq_true, s2]) | (first | refine iE ?_ ?_ | refine iD ?_ ?_ | refine iQ ?_ ?_ | refine iV ?_ ?_) <;> intro _ | refine And.intro (by omega) ?_ | fail)
  have l3 := later_alloc w2 (.cells #[.func (.func 149) #[] #[.pointer (some ⟨w.heap.size + 1, 0, none⟩), .pointer (some ⟨w.heap.size + 2, 0, none⟩)]] 178)
  have Bw := Blk.new w2 #[.func (.func 149) #[] #[.pointer (some ⟨w.heap.size + 1, 0, none⟩), .pointer (some ⟨w.heap.size + 2, 0, none⟩)]] 178
  rw [s2] at Bw
  generalize w2.alloc (.cells #[.func (.func 149) #[] #[.pointer (some ⟨w.heap.size + 1, 0, none⟩), .pointer (some ⟨w.heap.size + 2, 0, none⟩)]] 178) = w3 at *
  have l13 := l2.trans l3
  have l03 := l1.trans l13
  have f1 : cellsAt w3 ⟨w.heap.size, 0, none⟩ 4 = some (ftC f) := Blk.cellsAt (l := ftC f) (ftLater B1 l13)
  have Bo3 := Bo.chg (Chg.of_later (ks := []) l3) (by simp)
  have fw : w3.cell? ⟨w.heap.size + 2, 0, none⟩ = some (.func (.func 149) #[] #[.pointer (some ⟨w.heap.size + 1, 0, none⟩), .pointer (some ⟨w.heap.size + 2, 0, none⟩)]) := Bw.cell 0
  repeat' (first | (simp (disch := omega) only [push_cast, ↓reduceIte, zA, zG, zB, zH, zI, zC, zJ, zK, zL, zD, zE, zF, zM, zN, zO, zP, zQ, reduceCtorEq, not_true_eq_false, not_false_eq_true, f1, fw]) | (first | refine iE ?_ ?_ | refine iD ?_ ?_ | refine iQ ?_ ?_ | refine iV ?_ ?_) <;> intro _ | refine And.intro (by omega) ?_ | fail)
  refine (walk_c (w0 := w) (ko := w.heap.size + 1) (kw := w.heap.size + 2) f [] w3 hf ⟨l03, by omega, by omega, ⟨_, Bo3, own_nil _ _ _ _⟩, Bw⟩ (by simp; omega)).mono ?_
  rintro v4 w4 ⟨l4, _, _, ⟨ov, Bo4, ho⟩, _⟩
  have f4 : w4.cell? ⟨w.heap.size + 1, 0, none⟩ = some ov := Bo4.cell 0
  rw [List.nil_append] at ho
  repeat' (first | (simp (disch := omega) only [push_cast, ↓reduceIte, zA, zG, zB, zH, zI, zC, zJ, zK, zL, zD, zE, zF, zM, zN, zO, zP, zQ, reduceCtorEq, not_true_eq_false, not_false_eq_true, f4]) | (first | refine iE ?_ ?_ | refine iD ?_ ?_ | refine iQ ?_ ?_ | refine iV ?_ ?_) <;> intro _ | refine And.intro (by omega) ?_ | refine drawn_q ?_ | fail)
  first | exact ⟨ho, l4⟩ | exact l4
theorem conds_at {f : FT} {w : World} (hf : f.Ok w) {i : Nat} (hi : i < f.conds.length) : (f.conds[i]).Ok w := FT.conds_ok f hf _ (List.getElem_mem hi)
set_option maxHeartbeats 1000000 in
theorem tdims_c (q : QD) (w : World) (hq : q.Ok w) (hcn : q.wh.cnt ≤ 1000000) (hbl : q.bl.length ≤ 1000) : FnC Try.prog 73 #[.agg (qdC q).toArray] w fun v w' => OwnS w' w.heap.size v (q.bl ++ q.wh.dims) ∧ Later w w' := by
  refine enter73 _ ?_
  unfold B73
  have eca : (Value.agg (qdC q).toArray).cells = (qdC q).toArray := rfl
  have B1 := Blk.new w (qdC q).toArray 42
  have l1 := later_alloc w (.cells (qdC q).toArray 42)
  repeat' (first | (simp (disch := omega) only [push_cast, ↓reduceIte, zA, zG, zB, zH, zI, zC, zJ, zK, zL, zD, zE, zF, zM, zN, zO, zP, zQ, reduceCtorEq, not_true_eq_false, not_false_eq_true, eca]) | (first | refine iE ?_ ?_ | refine iD ?_ ?_ | refine iQ ?_ ?_ | refine iV ?_ ?_) <;> intro _ | refine And.intro (by omega) ?_ | fail)
  generalize w.alloc (.cells (qdC q).toArray 42) = w1 at *
  generalize hkf : w.heap.size = kf at *
  have q1 := hq.later l1
  obtain ⟨_, _, _, _, a4, _⟩ := qdAt B1
  repeat' (first | (simp (disch := omega) only [push_cast, ↓reduceIte, zA, zG, zB, zH, zI, zC, zJ, zK, zL, zD, zE, zF, zM, zN, zO, zP, zQ, reduceCtorEq, not_true_eq_false, not_false_eq_true, a4, addr_add_eq, Nat.zero_add]) | (first | refine iE ?_ ?_ | refine iD ?_ ?_ | refine iQ ?_ ?_ | refine iV ?_ ?_) <;> intro _ | refine And.intro (by omega) ?_ | fail)
  refine (sclone_c q.bv q.bl w1 q1.bv (by omega)).mono ?_
  rintro bv w2 ⟨ho2, l2⟩
  obtain ⟨_, _, _, _, _, b5, b6, b7, b8, _⟩ := qdAt (qdLater B1 l2)
  have fw : cellsAt w2 ⟨kf, 5, none⟩ 4 = some (ftC q.wh) := by
    refine cellsAt_of 4 _ _ rfl fun i x hx => ?_
    rw [addr_add_eq]
    match i, hx with
    | 0, hx => cases hx; exact b5
    | 1, hx => cases hx; exact b6
    | 2, hx => cases hx; exact b7
    | 3, hx => cases hx; exact b8
    | n + 4, hx => exact absurd hx (by simp [ftC])
  repeat' (first | (simp (disch := omega) only [push_cast, ↓reduceIte, zA, zG, zB, zH, zI, zC, zJ, zK, zL, zD, zE, zF, zM, zN, zO, zP, zQ, reduceCtorEq, not_true_eq_false, not_false_eq_true, fw, addr_add_eq, Nat.zero_add]) | (first | refine iE ?_ ?_ | refine iD ?_ ?_ | refine iQ ?_ ?_ | refine iV ?_ ?_) <;> intro _ | refine And.intro (by omega) ?_ | fail)
  have l12 := l1.trans l2
  have hwh := hq.wh.later l12
  refine (conditions_c q.wh w2 hwh hcn).mono ?_
  rintro cv w3 ⟨hc3, l3⟩
  have hcl := FT.conds_cnt q.wh
  have hcr := OwnR.s hc3
  obtain ⟨o, c, rfl, hc1, hc2⟩ := RecS.slice hcr
  have hok := fun (i : Nat) (hi : i < q.wh.conds.length) => conds_at q1.wh hi
  have hds := FT.conds_dims q.wh
  generalize q.wh.conds = cs at *
  repeat' (first | (simp (disch := omega) only [push_cast, ↓reduceIte, zA, zG, zB, zH, zI, zC, zJ, zK, zL, zD, zE, zF, zM, zN, zO, zP, zQ, reduceCtorEq, not_true_eq_false, not_false_eq_true]) | (first | refine iE ?_ ?_ | refine iD ?_ ?_ | refine iQ ?_ ?_ | refine iV ?_ ?_) <;> intro _ | refine And.intro (by omega) ?_ | refine drawn_q ?_ | fail)
  refine vc_loop W73_0 (fun p : Nat × Value => [(3, p.2), (13, .int .i64 (p.1 : Int))]) (fun p w' => p.1 ≤ cs.length ∧ Later w1 w' ∧ OwnS w' w1.heap.size p.2 (q.bl ++ (cs.take p.1).map FT.dim) ∧ OwnR ftC 4 w' w2.heap.size 39 (.slice o cs.length c) cs) (fun p => cs.length - p.1) (0, bv) (by decide) ?_ ?_ ?_
  · simp (disch := omega) only [push_cast, ↓reduceIte, zA, zG, zB, zH, zI, zC, zJ, zK, zL, zD, zE, zF, zM, zN, zO, zP, zQ, reduceCtorEq, not_true_eq_false, not_false_eq_true]
    try rfl
  · exact ⟨Nat.zero_le _, l2.trans l3, by simpa using own_later ho2 l3, hc3⟩
  rintro ⟨i, x⟩ uu w4 ⟨hi, l4, ho, hC⟩
  dsimp only at hi ho ⊢
  by_cases hik : i < cs.length
  · have hd2 : decide ((i : Int) < (cs.length : Int)) = true := decide_eq_true (by omega)
    obtain ⟨a, rfl, fa⟩ := RecS.at ftC_len (OwnR.s hC) hik
    have hk := (hok i hik).later l4
    have hst : (cs.take (i + 1)).map FT.dim = (cs.take i).map FT.dim ++ [(cs[i]).dim] := by
      rw [List.take_succ_eq_append_getElem hik, List.map_append]; rfl
    generalize cs[i] = kid at *
    repeat' (first | (simp (disch := omega) only [push_cast, ↓reduceIte, zA, zG, zB, zH, zI, zC, zJ, zK, zL, zD, zE, zF, zM, zN, zO, zP, zQ, reduceCtorEq, not_true_eq_false, not_false_eq_true, hd2, fa, addr_add_eq, Nat.zero_add]) | (first | refine iE ?_ ?_ | refine iD ?_ ?_ | refine iQ ?_ ?_ | refine iV ?_ ?_) <;> intro _ | refine And.intro (by omega) ?_ | refine drawn_q ?_ | fail)
    refine vStore_new rfl rfl (fun u hu => ftC_one hk u (by simpa using hu)) ?_
    have l5 := later_alloc w4 (.cells (ftC kid).toArray 39)
    have B5 := Blk.new w4 (ftC kid).toArray 39
    generalize w4.alloc (.cells (ftC kid).toArray 39) = w5 at *
    generalize w4.heap.size = k4 at *
    obtain ⟨_, c1, _, _⟩ := ftAt B5
    repeat' (first | (simp (disch := omega) only [push_cast, ↓reduceIte, zA, zG, zB, zH, zI, zC, zJ, zK, zL, zD, zE, zF, zM, zN, zO, zP, zQ, reduceCtorEq, not_true_eq_false, not_false_eq_true, c1, addr_add_eq, Nat.zero_add]) | (first | refine iE ?_ ?_ | refine iD ?_ ?_ | refine iQ ?_ ?_ | refine iV ?_ ?_) <;> intro _ | refine And.intro (by omega) ?_ | refine drawn_q ?_ | fail)
    have ho5 := own_later ho l5
    have hll : (q.bl ++ (cs.take i).map FT.dim).length ≤ 2000000 := by
      rw [List.length_append, List.length_map, List.length_take]; omega
    have hC5 := hC.later l5
    have l15 := l4.trans l5
    have l7 := later_alloc w5 (.cells #[.string kid.dim] 9)
    have hx7 := Sl.one w5 (.string kid.dim) 9
    generalize w5.alloc (.cells #[.string kid.dim] 9) = w7 at *
    replace ho5 := own_later ho5 l7
    replace hC5 := hC5.later l7
    replace l15 := l15.trans l7
    have hx7 : SlN w7 1 (.slice (some ⟨w5.heap.size, 0, none⟩) 1 1) 1 [.string kid.dim] := hx7
    refine vAppend_own Try.underlying22 ti9 rfl (by decide) ho5 hx7 (fun u hu => by rw [List.mem_singleton.1 hu]; rfl) (by unfold maxLen; omega) (by omega) l15.size ?_
    intro v' w' ho' hg _
    have l6 : Later w1 w' := l15.appended ho5 (Nat.le_refl _) hg
    have ho6 : OwnS w' w1.heap.size v' (q.bl ++ (cs.take (i + 1)).map FT.dim) := by
      rw [hst, ← List.append_assoc]
      unfold OwnS
      simpa [Nat.add_assoc] using ho'
    have hC6 : OwnR ftC 4 w' w2.heap.size 39 (.slice (some a) cs.length c) cs := own_grown_ty hC5 ho5 (by decide) hg
    repeat' (first | (simp (disch := omega) only [push_cast, ↓reduceIte, zA, zG, zB, zH, zI, zC, zJ, zK, zL, zD, zE, zF, zM, zN, zO, zP, zQ, reduceCtorEq, not_true_eq_false, not_false_eq_true]) | (first | refine iE ?_ ?_ | refine iD ?_ ?_ | refine iQ ?_ ?_ | refine iV ?_ ?_) <;> intro _ | refine And.intro (by omega) ?_ | refine drawn_q ?_ | fail)
    exact ⟨rfl, (i + 1, v'), by simp (disch := omega) only [push_cast, ↓reduceIte, zA, zG, zB, zH, zI, zC, zJ, zK, zL, zD, zE, zF, zM, zN, zO, zP, zQ, reduceCtorEq, not_true_eq_false, not_false_eq_true], ⟨by dsimp only; omega, l6, ho6, hC6⟩, by dsimp only; omega⟩
  have hd2 : decide ((i : Int) < (cs.length : Int)) = false := decide_eq_false (by omega)
  rw [List.take_of_length_le (by omega), hds] at ho
  repeat' (first | (simp (disch := omega) only [push_cast, ↓reduceIte, zA, zG, zB, zH, zI, zC, zJ, zK, zL, zD, zE, zF, zM, zN, zO, zP, zQ, reduceCtorEq, not_true_eq_false, not_false_eq_true, hd2, addr_add_eq, Nat.zero_add]) | (first | refine iE ?_ ?_ | refine iD ?_ ?_ | refine iQ ?_ ?_ | refine iV ?_ ?_) <;> intro _ | refine And.intro (by omega) ?_ | refine drawn_q ?_ | fail)
  have hbs : kf ≤ w1.heap.size := by rw [← hkf]; exact l1.size
  first | exact ⟨(own_base ho hbs), (l1.trans l4)⟩ | exact (l1.trans l4)
theorem used1_c (x : ByteArray) (k : Nat) (v : Value) (l : List ByteArray) (w : World) (hk : w.cell? ⟨k, 0, none⟩ = some v) (h : StS w v l) : FnC Try.prog 76 #[.string x, pt k] w fun r w' => r = .bool (!inL x l) ∧ w' = w := by
  refine enter76 _ _ ?_
  unfold B76
  repeat' (first | (simp (disch := omega) only [push_cast, ↓reduceIte, zA, zG, zB, zH, zI, zC, zJ, zK, zL, zD, zE, zF, zM, zN, zO, zP, zQ, reduceCtorEq, not_true_eq_false, not_false_eq_true, hk]) | (first | refine iE ?_ ?_ | refine iD ?_ ?_ | refine iQ ?_ ?_ | refine iV ?_ ?_) <;> intro _ | refine And.intro (by omega) ?_ | refine drawn_q ?_ | fail)
  refine (scontains_c v l x w h).mono ?_
  rintro _ w0 ⟨rfl, h0⟩; obtain rfl := h0.symm
  repeat' (first | (simp (disch := omega) only [push_cast, ↓reduceIte, zA, zG, zB, zH, zI, zC, zJ, zK, zL, zD, zE, zF, zM, zN, zO, zP, zQ, reduceCtorEq, not_true_eq_false, not_false_eq_true]) | (first | refine iE ?_ ?_ | refine iD ?_ ?_ | refine iQ ?_ ?_ | refine iV ?_ ?_) <;> intro _ | refine And.intro (by omega) ?_ | refine drawn_q ?_ | fail)
theorem tused_c (dv mv : Value) (d m : List ByteArray) (q : QD) (w : World) (h : ScIs w dv mv d m) (hq : q.Ok w) (hcn : q.wh.cnt ≤ 1000000) (hbl : q.bl.length ≤ 1000) (hdl : d.length ≤ 1000) : FnC Try.prog 30 #[scV dv mv, .agg (qdC q).toArray] w fun v w' => StS w' v (usedL d q) ∧ Later w w' := by
  have esc : scV dv mv = .agg #[dv, mv] := rfl
  rw [esc]
  refine enter30 _ _ ?_
  unfold B30
  have eca : (Value.agg (qdC q).toArray).cells = (qdC q).toArray := rfl
  have ecb : (Value.agg #[dv, mv]).cells = #[dv, mv] := rfl
  obtain ⟨l1, s1, F⟩ := box2 w dv mv 24
  have B2 := Blk.new (w.alloc (.cells #[dv, mv] 24)) (qdC q).toArray 42
  have l2 := later_alloc (w.alloc (.cells #[dv, mv] 24)) (.cells (qdC q).toArray 42)
  rw [s1] at B2
  repeat' (first | (simp (disch := omega) only [push_cast, ↓reduceIte, zA, zG, zB, zH, zI, zC, zJ, zK, zL, zD, zE, zF, zM, zN, zO, zP, zQ, reduceCtorEq, not_true_eq_false, not_false_eq_true, eca, ecb, s1]) | (first | refine iE ?_ ?_ | refine iD ?_ ?_ | refine iQ ?_ ?_ | refine iV ?_ ?_) <;> intro _ | refine And.intro (by omega) ?_ | fail)
  have l12 := l1.trans l2
  have FF : ∀ w', Later ((w.alloc (.cells #[dv, mv] 24)).alloc (.cells (qdC q).toArray 42)) w' → w'.cell? ⟨w.heap.size, 0, none⟩ = some dv := fun w' hl => (F w' (l2.trans hl)).1
  clear F
  generalize (w.alloc (.cells #[dv, mv] 24)).alloc (.cells (qdC q).toArray 42) = w1 at *
  generalize hkf : w.heap.size = kf at *
  have h1 := h.later l12
  have q1 := hq.later l12
  have c1 : cellsAt w1 ⟨kf + 1, 0, none⟩ 12 = some (qdC q) := Blk.cellsAt (l := qdC q) B2
  repeat' (first | (simp (disch := omega) only [push_cast, ↓reduceIte, zA, zG, zB, zH, zI, zC, zJ, zK, zL, zD, zE, zF, zM, zN, zO, zP, zQ, reduceCtorEq, not_true_eq_false, not_false_eq_true, c1]) | (first | refine iE ?_ ?_ | refine iD ?_ ?_ | refine iQ ?_ ?_ | refine iV ?_ ?_) <;> intro _ | refine And.intro (by omega) ?_ | fail)
  refine (tdims_c q w1 q1 hcn hbl).mono ?_
  rintro av w2 ⟨ho2, l2⟩
  have hav := OwnS.st ho2
  obtain ⟨ao, ac, hae⟩ := Sl.slice hav
  rw [hae] at hav
  subst hae
  have l3 := later_alloc w2 (.cells #[.slice ao ((q.bl ++ q.wh.dims).map Value.string).length ac] 22)
  repeat' (first | (simp (disch := omega) only [push_cast, ↓reduceIte, zA, zG, zB, zH, zI, zC, zJ, zK, zL, zD, zE, zF, zM, zN, zO, zP, zQ, reduceCtorEq, not_true_eq_false, not_false_eq_true]) | (first | refine iE ?_ ?_ | refine iD ?_ ?_ | refine iQ ?_ ?_ | refine iV ?_ ?_) <;> intro _ | refine And.intro (by omega) ?_ | fail)
  have B3 := Blk.new w2 #[.slice ao ((q.bl ++ q.wh.dims).map Value.string).length ac] 22
  generalize w2.alloc (.cells #[.slice ao ((q.bl ++ q.wh.dims).map Value.string).length ac] 22) = w3 at *
  have l13 := l2.trans l3
  have f3 := FF w3 l13
  repeat' (first | (simp (disch := omega) only [push_cast, ↓reduceIte, zA, zG, zB, zH, zI, zC, zJ, zK, zL, zD, zE, zF, zM, zN, zO, zP, zQ, reduceCtorEq, not_true_eq_false, not_false_eq_true, f3, addr_add_eq, Nat.zero_add]) | (first | refine iE ?_ ?_ | refine iD ?_ ?_ | refine iQ ?_ ?_ | refine iV ?_ ?_) <;> intro _ | refine And.intro (by omega) ?_ | fail)
  have h3 := (h1.later l13).dS
  refine (sclone_c dv d w3 h3 (by omega)).mono ?_
  rintro cv w4 ⟨ho4, l4⟩
  repeat' (first | (simp (disch := omega) only [push_cast, ↓reduceIte, zA, zG, zB, zH, zI, zC, zJ, zK, zL, zD, zE, zF, zM, zN, zO, zP, zQ, reduceCtorEq, not_true_eq_false, not_false_eq_true]) | (first | refine iE ?_ ?_ | refine iD ?_ ?_ | refine iQ ?_ ?_ | refine iV ?_ ?_) <;> intro _ | refine And.intro (by omega) ?_ | fail)
  have hpr : ∀ x ∈ d, Prd Try.prog w3 76 #[pt w2.heap.size] (.string x) (!inL x (q.bl ++ q.wh.dims)) := by
    intro x _ w' hl
    have b := hl.cell (B3.cell 0)
    refine (used1_c x w2.heap.size _ (q.bl ++ q.wh.dims) w' b ((hav.later l3).later hl)).mono ?_
    rintro r w'' ⟨rfl, rfl⟩
    exact ⟨rfl, Later.refl _⟩
  refine (sdelete_c w3.heap.size cv d 76 #[pt w2.heap.size] (fun x => !inL x (q.bl ++ q.wh.dims)) w3 w4 l4 (Nat.le_refl _) ho4 hpr (by omega)).mono ?_
  rintro r w5 ⟨hr, l5⟩
  have hr : StS w5 r (usedL d q) := by
    unfold usedL
    simpa using hr
  repeat' (first | (simp (disch := omega) only [push_cast, ↓reduceIte, zA, zG, zB, zH, zI, zC, zJ, zK, zL, zD, zE, zF, zM, zN, zO, zP, zQ, reduceCtorEq, not_true_eq_false, not_false_eq_true]) | (first | refine iE ?_ ?_ | refine iD ?_ ?_ | refine iQ ?_ ?_ | refine iV ?_ ?_) <;> intro _ | refine And.intro (by omega) ?_ | refine drawn_q ?_ | fail)
  first | exact ⟨hr, (l12.trans (l13.trans l5))⟩ | exact (l12.trans (l13.trans l5))
end Go.Proofs.Ytnofalhkapmcnaa
end
section
namespace Go.Proofs.Ytnofalhkapmcnaa
open Go.Vc
set_option maxRecDepth 100000
variable (Q : Post) (ds : List Deferred) (σ : Env) (w : World)
/-! 19 columbary/columbarylaw20.Fits (params #[34], results #[(.tmp 2)], 68 slots) -/
def W19_0 : List Nat := [2, 6, 53, 54, 55, 56, 57, 58, 59, 60, 61, 62, 63, 64, 65, 66, 67]
@[push_cast] theorem W19_0_def : W19_0 = [2, 6, 53, 54, 55, 56, 57, 58, 59, 60, 61, 62, 63, 64, 65, 66, 67] := mk_eq rfl
def r19_0 : List VOp :=
  [⟨some 1, .box 34 (.tmp 0), 0, none⟩,
   ⟨some 2, .assign (.const (.bool false)), 4, none⟩]
def r19_1 : List VOp :=
  [fad 7 34 1 0,
   fad 8 24 7 0,
   lda 9 22 8,
   ⟨some 10, .call ⟨.value (.func 53), #[.tmp 9], #[22]⟩, 4, none⟩,
   asg 3 10 4]
def r19_2 : List VOp :=
  [fad 11 34 1 0,
   fad 12 24 11 1,
   lda 13 22 12,
   ⟨some 14, .call ⟨.value (.func 53), #[.tmp 13], #[22]⟩, 4, none⟩,
   asg 4 14 4]
def r19_3 : List VOp :=
  [fad 15 34 1 1,
   lda 16 28 15,
   ⟨some 17, .call ⟨.value (.func 54), #[.tmp 16], #[28]⟩, 4, none⟩,
   asg 5 17 4]
def r19_4 : List VOp :=
  [mv 18 3 4,
   ⟨some 19, .unOp .not 4 (.tmp 18), 4, none⟩,
   mv 20 19 4,
   ⟨some 21, .move (.tmp 4), 4, some (20, false)⟩,
   ⟨some 22, .unOp .not 4 (.tmp 21), 4, some (20, false)⟩,
   ⟨some 23, .pick (.tmp 20) (.const (.bool true)) (.tmp 22), 4, none⟩,
   mv 24 23 4,
   ⟨some 25, .move (.tmp 5), 4, some (24, false)⟩,
   ⟨some 26, .unOp .not 4 (.tmp 25), 4, some (24, false)⟩,
   ⟨some 27, .pick (.tmp 24) (.const (.bool true)) (.tmp 26), 4, none⟩,
   mv 28 27 4,
   ⟨some 29, .fieldAddr 34 (.tmp 1) 3, 0, some (28, false)⟩,
   ⟨some 30, .load 29 (.tmp 29), 29, some (28, false)⟩,
   ⟨some 31, .call ⟨.builtin .len, #[.tmp 30], #[29]⟩, 3, some (28, false)⟩,
   ⟨some 32, .binOp .gtr 3 (.tmp 31) (.const (.int .i64 20)) 3, 4, some (28, false)⟩,
   ⟨some 33, .pick (.tmp 28) (.const (.bool true)) (.tmp 32), 4, none⟩,
   mv 34 33 4,
   ⟨some 35, .fieldAddr 34 (.tmp 1) 4, 0, some (34, false)⟩,
   ⟨some 36, .fieldAddr 31 (.tmp 35) 1, 0, some (34, false)⟩,
   ⟨some 37, .load 29 (.tmp 36), 29, some (34, false)⟩,
   ⟨some 38, .call ⟨.builtin .len, #[.tmp 37], #[29]⟩, 3, some (34, false)⟩,
   ⟨some 39, .binOp .gtr 3 (.tmp 38) (.const (.int .i64 20)) 3, 4, some (34, false)⟩,
   ⟨some 40, .pick (.tmp 34) (.const (.bool true)) (.tmp 39), 4, none⟩,
   mv 41 40 4,
   ⟨some 42, .fieldAddr 34 (.tmp 1) 5, 0, some (41, false)⟩,
   ⟨some 43, .load 32 (.tmp 42), 32, some (41, false)⟩,
   ⟨some 44, .call ⟨.builtin .len, #[.tmp 43], #[32]⟩, 3, some (41, false)⟩,
   ⟨some 45, .binOp .gtr 3 (.tmp 44) (.const (.int .i64 60)) 3, 4, some (41, false)⟩,
   ⟨some 46, .pick (.tmp 41) (.const (.bool true)) (.tmp 45), 4, none⟩,
   mv 47 46 4,
   ⟨some 48, .fieldAddr 34 (.tmp 1) 6, 0, some (47, false)⟩,
   ⟨some 49, .load 9 (.tmp 48), 9, some (47, false)⟩,
   ⟨some 50, .call ⟨.builtin .len, #[.tmp 49], #[9]⟩, 3, some (47, false)⟩,
   ⟨some 51, .binOp .gtr 3 (.tmp 50) (.const (.int .i64 60)) 3, 4, some (47, false)⟩,
   ⟨some 52, .pick (.tmp 47) (.const (.bool true)) (.tmp 51), 4, none⟩]
def r19_5 : List VOp :=
  [⟨some 2, .assign (.const (.bool false)), 4, none⟩]
def r19_6 : List VOp :=
  [⟨some 6, .assign (.const (.int .i64 0)), 3, none⟩]
def r19_7 : List VOp :=
  [mv 53 6 3,
   fad 54 34 1 5,
   lda 55 32 54,
   ⟨some 56, .call ⟨.builtin .len, #[.tmp 55], #[32]⟩, 3, none⟩,
   ⟨some 57, .binOp .lss 3 (.tmp 53) (.tmp 56) 3, 4, none⟩]
def r19_9 : List VOp :=
  [fad 60 34 1 5,
   lda 61 32 60,
   mv 62 6 3,
   iad 63 32 61 62,
   fad 64 57 63 0,
   lda 65 9 64,
   ⟨some 66, .call ⟨.builtin .len, #[.tmp 65], #[9]⟩, 3, none⟩,
   ⟨some 67, .binOp .gtr 3 (.tmp 66) (.const (.int .i64 60)) 3, 4, none⟩]
def r19_10 : List VOp :=
  [⟨some 2, .assign (.const (.bool false)), 4, none⟩]
def r19_8 : List VOp :=
  [mv 58 6 3,
   ⟨some 59, .binOp .add 3 (.tmp 58) (.const (.int .i64 1)) 3, 3, none⟩,
   asg 6 59 3]
def r19_11 : List VOp :=
  [⟨some 2, .assign (.const (.bool true)), 4, none⟩]
def B19 : VC :=
  (.seq (.region r19_0) (.seq (.region r19_1) (.seq (.region r19_2) (.seq (.region r19_3) (.seq (.seq (.region r19_4) (.cond (.tmp 52) (.seq (.region r19_5) .ret) .skip)) (.seq (.seq (.region r19_6) (.block 0 (.loop (.seq (.seq (.region r19_7) (.cond (.tmp 57) .skip (.exit 0))) (.seq (.block 1 (.seq (.region r19_9) (.cond (.tmp 67) (.seq (.region r19_10) .ret) .skip))) (.region r19_8)))))) (.seq (.region r19_11) .ret)))))))
theorem code19 : ∃ c, Try.f19.body = some c ∧ abs Try.f19.ntmps c = B19 := ⟨_, rfl, by kernel_rfl⟩
theorem hb19 : HasBody Try.prog 19 := hasBody_of Try.func19 (by kernel_rfl)
theorem res19 : Try.f19.results = #[(.tmp 2)] := rfl
theorem enter19 {w : World} {R : Value → World → Prop} (x0 : Value) (h : vc Try.prog B19 (retK Try.prog #[(.tmp 2)] R) [] (initEnv [x0] 0) w) : FnC Try.prog 19 #[x0] w R := by
  obtain ⟨c, h1, h2⟩ := code19
  exact hb19.fn (ret_of_vc mixed Try.func19 h1 (Nat.le_of_ble_eq_true rfl) B19 h2 h)
@[push_cast] theorem vr19_0 : VR r19_0 [⟨some 1, .box 34 (.tmp 0), 0, none⟩, ⟨some 2, .assign (.const (.bool false)), 4, none⟩] := vR rfl
@[push_cast] theorem vr19_1 : VR r19_1 [⟨some 7, .fieldAddr 34 (.tmp 1) 0, 0, none⟩, ⟨some 8, .fieldAddr 24 (.tmp 7) 0, 0, none⟩, ⟨some 9, .load 22 (.tmp 8), 22, none⟩, ⟨some 10, .call ⟨.value (.func 53), #[.tmp 9], #[22]⟩, 4, none⟩, ⟨some 3, .assign (.tmp 10), 4, none⟩] := vR rfl
@[push_cast] theorem vr19_2 : VR r19_2 [⟨some 11, .fieldAddr 34 (.tmp 1) 0, 0, none⟩, ⟨some 12, .fieldAddr 24 (.tmp 11) 1, 0, none⟩, ⟨some 13, .load 22 (.tmp 12), 22, none⟩, ⟨some 14, .call ⟨.value (.func 53), #[.tmp 13], #[22]⟩, 4, none⟩, ⟨some 4, .assign (.tmp 14), 4, none⟩] := vR rfl
@[push_cast] theorem vr19_3 : VR r19_3 [⟨some 15, .fieldAddr 34 (.tmp 1) 1, 0, none⟩, ⟨some 16, .load 28 (.tmp 15), 28, none⟩, ⟨some 17, .call ⟨.value (.func 54), #[.tmp 16], #[28]⟩, 4, none⟩, ⟨some 5, .assign (.tmp 17), 4, none⟩] := vR rfl
@[push_cast] theorem vr19_4 : VR r19_4 [⟨some 18, .move (.tmp 3), 4, none⟩, ⟨some 19, .unOp .not 4 (.tmp 18), 4, none⟩, ⟨some 20, .move (.tmp 19), 4, none⟩, ⟨some 21, .move (.tmp 4), 4, some (20, false)⟩, ⟨some 22, .unOp .not 4 (.tmp 21), 4, some (20, false)⟩, ⟨some 23, .pick (.tmp 20) (.const (.bool true)) (.tmp 22), 4, none⟩, ⟨some 24, .move (.tmp 23), 4, none⟩, ⟨some 25, .move (.tmp 5), 4, some (24, false)⟩, ⟨some 26, .unOp .not 4 (.tmp 25), 4, some (24, false)⟩, ⟨some 27, .pick (.tmp 24) (.const (.bool true)) (.tmp 26), 4, none⟩, ⟨some 28, .move (.tmp 27), 4, none⟩, ⟨some 29, .fieldAddr 34 (.tmp 1) 3, 0, some (28, false)⟩, ⟨some 30, .load 29 (.tmp 29), 29, some (28, false)⟩, ⟨some 31, .call ⟨.builtin .len, #[.tmp 30], #[29]⟩, 3, some (28, false)⟩, ⟨some 32, .binOp .gtr 3 (.tmp 31) (.const (.int .i64 20)) 3, 4, some (28, false)⟩, ⟨some 33, .pick (.tmp 28) (.const (.bool true)) (.tmp 32), 4, none⟩, ⟨some 34, .move (.tmp 33), 4, none⟩, ⟨some 35, .fieldAddr 34 (.tmp 1) 4, 0, some (34, false)⟩, ⟨some 36, .fieldAddr 31 (.tmp 35) 1, 0, some (34, false)⟩, ⟨some 37, .load 29 (.tmp 36), 29, some (34, false)⟩, ⟨some 38, .call ⟨.builtin .len, #[.tmp 37], #[29]⟩, 3, some (34, false)⟩, ⟨some 39, .binOp .gtr 3 (.tmp 38) (.const (.int .i64 20)) 3, 4, some (34, false)⟩, ⟨some 40, .pick (.tmp 34) (.const (.bool true)) (.tmp 39), 4, none⟩, ⟨some 41, .move (.tmp 40), 4, none⟩, ⟨some 42, .fieldAddr 34 (.tmp 1) 5, 0, some (41, false)⟩, ⟨some 43, .load 32 (.tmp 42), 32, some (41, false)⟩, ⟨some 44, .call ⟨.builtin .len, #[.tmp 43], #[32]⟩, 3, some (41, false)⟩, ⟨some 45, .binOp .gtr 3 (.tmp 44) (.const (.int .i64 60)) 3, 4, some (41, false)⟩, ⟨some 46, .pick (.tmp 41) (.const (.bool true)) (.tmp 45), 4, none⟩, ⟨some 47, .move (.tmp 46), 4, none⟩, ⟨some 48, .fieldAddr 34 (.tmp 1) 6, 0, some (47, false)⟩, ⟨some 49, .load 9 (.tmp 48), 9, some (47, false)⟩, ⟨some 50, .call ⟨.builtin .len, #[.tmp 49], #[9]⟩, 3, some (47, false)⟩, ⟨some 51, .binOp .gtr 3 (.tmp 50) (.const (.int .i64 60)) 3, 4, some (47, false)⟩, ⟨some 52, .pick (.tmp 47) (.const (.bool true)) (.tmp 51), 4, none⟩] := vR rfl
@[push_cast] theorem vr19_5 : VR r19_5 [⟨some 2, .assign (.const (.bool false)), 4, none⟩] := vR rfl
@[push_cast] theorem vr19_6 : VR r19_6 [⟨some 6, .assign (.const (.int .i64 0)), 3, none⟩] := vR rfl
@[push_cast] theorem vr19_7 : VR r19_7 [⟨some 53, .move (.tmp 6), 3, none⟩, ⟨some 54, .fieldAddr 34 (.tmp 1) 5, 0, none⟩, ⟨some 55, .load 32 (.tmp 54), 32, none⟩, ⟨some 56, .call ⟨.builtin .len, #[.tmp 55], #[32]⟩, 3, none⟩, ⟨some 57, .binOp .lss 3 (.tmp 53) (.tmp 56) 3, 4, none⟩] := vR rfl
@[push_cast] theorem vr19_9 : VR r19_9 [⟨some 60, .fieldAddr 34 (.tmp 1) 5, 0, none⟩, ⟨some 61, .load 32 (.tmp 60), 32, none⟩, ⟨some 62, .move (.tmp 6), 3, none⟩, ⟨some 63, .indexAddr 32 (.tmp 61) (.tmp 62), 0, none⟩, ⟨some 64, .fieldAddr 57 (.tmp 63) 0, 0, none⟩, ⟨some 65, .load 9 (.tmp 64), 9, none⟩, ⟨some 66, .call ⟨.builtin .len, #[.tmp 65], #[9]⟩, 3, none⟩, ⟨some 67, .binOp .gtr 3 (.tmp 66) (.const (.int .i64 60)) 3, 4, none⟩] := vR rfl
@[push_cast] theorem vr19_10 : VR r19_10 [⟨some 2, .assign (.const (.bool false)), 4, none⟩] := vR rfl
@[push_cast] theorem vr19_8 : VR r19_8 [⟨some 58, .move (.tmp 6), 3, none⟩, ⟨some 59, .binOp .add 3 (.tmp 58) (.const (.int .i64 1)) 3, 3, none⟩, ⟨some 6, .assign (.tmp 59), 3, none⟩] := vR rfl
@[push_cast] theorem vr19_11 : VR r19_11 [⟨some 2, .assign (.const (.bool true)), 4, none⟩] := vR rfl
/-! 20 columbary/columbaryref20.Right (params #[34], results #[(.tmp 2)], 107 slots) -/
def W20_0 : List Nat := [2, 4, 5, 6, 48, 49, 50, 51, 52, 53, 54, 55, 56, 57, 58, 59, 60, 61, 62, 63, 64, 65, 66, 67, 68]
@[push_cast] theorem W20_0_def : W20_0 = [2, 4, 5, 6, 48, 49, 50, 51, 52, 53, 54, 55, 56, 57, 58, 59, 60, 61, 62, 63, 64, 65, 66, 67, 68] := mk_eq rfl
def W20_1 : List Nat := [2, 7, 8, 69, 70, 71, 72, 73, 74, 75, 76, 77, 78, 79, 80, 81, 82, 83, 84, 85]
@[push_cast] theorem W20_1_def : W20_1 = [2, 7, 8, 69, 70, 71, 72, 73, 74, 75, 76, 77, 78, 79, 80, 81, 82, 83, 84, 85] := mk_eq rfl
def r20_0 : List VOp :=
  [⟨some 1, .box 34 (.tmp 0), 0, none⟩,
   ⟨some 2, .assign (.const (.bool false)), 4, none⟩]
def r20_1 : List VOp :=
  [fad 12 34 1 0,
   lda 13 24 12,
   ⟨some 14, .call ⟨.value (.func 55), #[.tmp 13], #[24]⟩, 4, none⟩,
   asg 3 14 4]
def r20_2 : List VOp :=
  [mv 15 3 4,
   ⟨some 16, .unOp .not 4 (.tmp 15), 4, none⟩,
   mv 17 16 4,
   ⟨some 18, .fieldAddr 34 (.tmp 1) 0, 0, some (17, false)⟩,
   ⟨some 19, .load 24 (.tmp 18), 24, some (17, false)⟩,
   ⟨some 20, .fieldAddr 34 (.tmp 1) 1, 0, some (17, false)⟩,
   ⟨some 21, .load 28 (.tmp 20), 28, some (17, false)⟩,
   ⟨some 22, .call ⟨.value (.func 56), #[.tmp 19, .tmp 21], #[24, 28]⟩, 53, some (17, false)⟩,
   ⟨some 23, .binOp .neq 53 (.tmp 22) (.const (.int .i64 0)) 53, 4, some (17, false)⟩,
   ⟨some 24, .pick (.tmp 17) (.const (.bool true)) (.tmp 23), 4, none⟩,
   mv 25 24 4,
   ⟨some 26, .fieldAddr 34 (.tmp 1) 3, 0, some (25, false)⟩,
   ⟨some 27, .load 29 (.tmp 26), 29, some (25, false)⟩,
   ⟨some 28, .call ⟨.builtin .len, #[.tmp 27], #[29]⟩, 3, some (25, false)⟩,
   ⟨some 29, .fieldAddr 34 (.tmp 1) 1, 0, some (25, false)⟩,
   ⟨some 30, .fieldAddr 28 (.tmp 29) 0, 0, some (25, false)⟩,
   ⟨some 31, .load 25 (.tmp 30), 25, some (25, false)⟩,
   ⟨some 32, .call ⟨.builtin .len, #[.tmp 31], #[25]⟩, 3, some (25, false)⟩,
   ⟨some 33, .binOp .neq 3 (.tmp 28) (.tmp 32) 3, 4, some (25, false)⟩,
   ⟨some 34, .pick (.tmp 25) (.const (.bool true)) (.tmp 33), 4, none⟩,
   mv 35 34 4,
   ⟨some 36, .fieldAddr 34 (.tmp 1) 4, 0, some (35, false)⟩,
   ⟨some 37, .fieldAddr 31 (.tmp 36) 1, 0, some (35, false)⟩,
   ⟨some 38, .load 29 (.tmp 37), 29, some (35, false)⟩,
   ⟨some 39, .call ⟨.builtin .len, #[.tmp 38], #[29]⟩, 3, some (35, false)⟩,
   ⟨some 40, .fieldAddr 34 (.tmp 1) 0, 0, some (35, false)⟩,
   ⟨some 41, .fieldAddr 24 (.tmp 40) 1, 0, some (35, false)⟩,
   ⟨some 42, .load 22 (.tmp 41), 22, some (35, false)⟩,
   ⟨some 43, .call ⟨.builtin .len, #[.tmp 42], #[22]⟩, 3, some (35, false)⟩,
   ⟨some 44, .binOp .neq 3 (.tmp 39) (.tmp 43) 3, 4, some (35, false)⟩,
   ⟨some 45, .pick (.tmp 35) (.const (.bool true)) (.tmp 44), 4, none⟩]
def r20_3 : List VOp :=
  [⟨some 2, .assign (.const (.bool false)), 4, none⟩]
def r20_4 : List VOp :=
  [fad 46 34 1 2,
   lda 47 3 46,
   asg 4 47 3]
def r20_5 : List VOp :=
  [⟨some 5, .assign (.const (.int .i64 0)), 3, none⟩]
def r20_6 : List VOp :=
  [mv 48 5 3,
   fad 49 34 1 3,
   lda 50 29 49,
   ⟨some 51, .call ⟨.builtin .len, #[.tmp 50], #[29]⟩, 3, none⟩,
   ⟨some 52, .binOp .lss 3 (.tmp 48) (.tmp 51) 3, 4, none⟩]
def r20_8 : List VOp :=
  [fad 55 34 1 3,
   lda 56 29 55,
   mv 57 5 3,
   iad 58 29 56 57,
   lda 59 3 58,
   mv 60 4 3,
   ⟨some 61, .call ⟨.value (.func 57), #[(.tmp 59), (.const (.int .i64 0)), .tmp 60], #[3, 3, 3]⟩, 4, none⟩,
   asg 6 61 4]
def r20_9 : List VOp :=
  [mv 62 6 4,
   ⟨some 63, .unOp .not 4 (.tmp 62), 4, none⟩]
def r20_10 : List VOp :=
  [⟨some 2, .assign (.const (.bool false)), 4, none⟩]
def r20_11 : List VOp :=
  [fad 64 34 1 3,
   lda 65 29 64,
   mv 66 5 3,
   iad 67 29 65 66,
   lda 68 3 67,
   asg 4 68 3]
def r20_7 : List VOp :=
  [mv 53 5 3,
   ⟨some 54, .binOp .add 3 (.tmp 53) (.const (.int .i64 1)) 3, 3, none⟩,
   asg 5 54 3]
def r20_12 : List VOp :=
  [⟨some 7, .assign (.const (.int .i64 0)), 3, none⟩]
def r20_13 : List VOp :=
  [mv 69 7 3,
   fad 70 34 1 4,
   fad 71 31 70 1,
   lda 72 29 71,
   ⟨some 73, .call ⟨.builtin .len, #[.tmp 72], #[29]⟩, 3, none⟩,
   ⟨some 74, .binOp .lss 3 (.tmp 69) (.tmp 73) 3, 4, none⟩]
def r20_15 : List VOp :=
  [fad 77 34 1 4,
   fad 78 31 77 1,
   lda 79 29 78,
   mv 80 7 3,
   iad 81 29 79 80,
   lda 82 3 81,
   ⟨some 83, .call ⟨.value (.func 57), #[(.tmp 82), (.const (.int .i64 0)), (.const (.int .i64 4611686018427387904))], #[3, 3, 3]⟩, 4, none⟩,
   asg 8 83 4]
def r20_16 : List VOp :=
  [mv 84 8 4,
   ⟨some 85, .unOp .not 4 (.tmp 84), 4, none⟩]
def r20_17 : List VOp :=
  [⟨some 2, .assign (.const (.bool false)), 4, none⟩]
def r20_14 : List VOp :=
  [mv 75 7 3,
   ⟨some 76, .binOp .add 3 (.tmp 75) (.const (.int .i64 1)) 3, 3, none⟩,
   asg 7 76 3]
def r20_18 : List VOp :=
  [fad 86 34 1 2,
   lda 87 3 86,
   ⟨some 88, .call ⟨.value (.func 57), #[(.tmp 87), (.const (.int .i64 0)), (.const (.int .i64 1099511627776))], #[3, 3, 3]⟩, 4, none⟩,
   mv 89 88 4,
   ⟨some 90, .fieldAddr 34 (.tmp 1) 4, 0, some (89, true)⟩,
   ⟨some 91, .fieldAddr 31 (.tmp 90) 0, 0, some (89, true)⟩,
   ⟨some 92, .load 3 (.tmp 91), 3, some (89, true)⟩,
   ⟨some 93, .call ⟨.value (.func 57), #[(.tmp 92), (.const (.int .i64 0)), (.const (.int .i64 1048576))], #[3, 3, 3]⟩, 4, some (89, true)⟩,
   ⟨some 94, .pick (.tmp 89) (.tmp 93) (.const (.bool false)), 4, none⟩,
   asg 9 94 4]
def r20_19 : List VOp :=
  [fad 95 34 1 7,
   lda 96 3 95,
   ⟨some 97, .call ⟨.value (.func 57), #[(.tmp 96), (.const (.int .i64 0)), (.const (.int .i64 1073741824))], #[3, 3, 3]⟩, 4, none⟩,
   asg 10 97 4]
def r20_20 : List VOp :=
  [lda 98 34 1,
   ⟨some 99, .call ⟨.value (.func 58), #[.tmp 98], #[34]⟩, 4, none⟩,
   asg 11 99 4]
def r20_21 : List VOp :=
  [mv 100 9 4,
   mv 101 100 4,
   ⟨some 102, .move (.tmp 10), 4, some (101, true)⟩,
   ⟨some 103, .pick (.tmp 101) (.tmp 102) (.const (.bool false)), 4, none⟩,
   mv 104 103 4,
   ⟨some 105, .move (.tmp 11), 4, some (104, true)⟩,
   ⟨some 106, .pick (.tmp 104) (.tmp 105) (.const (.bool false)), 4, none⟩,
   asg 2 106 4]
def B20 : VC :=
  (.seq (.region r20_0) (.seq (.region r20_1) (.seq (.seq (.region r20_2) (.cond (.tmp 45) (.seq (.region r20_3) .ret) .skip)) (.seq (.region r20_4) (.seq (.seq (.region r20_5) (.block 0 (.loop (.seq (.seq (.region r20_6) (.cond (.tmp 52) .skip (.exit 0))) (.seq (.block 1 (.seq (.region r20_8) (.seq (.seq (.region r20_9) (.cond (.tmp 63) (.seq (.region r20_10) .ret) .skip)) (.region r20_11)))) (.region r20_7)))))) (.seq (.seq (.region r20_12) (.block 2 (.loop (.seq (.seq (.region r20_13) (.cond (.tmp 74) .skip (.exit 2))) (.seq (.block 3 (.seq (.region r20_15) (.seq (.region r20_16) (.cond (.tmp 85) (.seq (.region r20_17) .ret) .skip)))) (.region r20_14)))))) (.seq (.region r20_18) (.seq (.region r20_19) (.seq (.region r20_20) (.seq (.region r20_21) .ret))))))))))
theorem code20 : ∃ c, Try.f20.body = some c ∧ abs Try.f20.ntmps c = B20 := ⟨_, rfl, by kernel_rfl⟩
theorem hb20 : HasBody Try.prog 20 := hasBody_of Try.func20 (by kernel_rfl)
theorem res20 : Try.f20.results = #[(.tmp 2)] := rfl
theorem enter20 {w : World} {R : Value → World → Prop} (x0 : Value) (h : vc Try.prog B20 (retK Try.prog #[(.tmp 2)] R) [] (initEnv [x0] 0) w) : FnC Try.prog 20 #[x0] w R := by
  obtain ⟨c, h1, h2⟩ := code20
  exact hb20.fn (ret_of_vc mixed Try.func20 h1 (Nat.le_of_ble_eq_true rfl) B20 h2 h)
@[push_cast] theorem vr20_0 : VR r20_0 [⟨some 1, .box 34 (.tmp 0), 0, none⟩, ⟨some 2, .assign (.const (.bool false)), 4, none⟩] := vR rfl
@[push_cast] theorem vr20_1 : VR r20_1 [⟨some 12, .fieldAddr 34 (.tmp 1) 0, 0, none⟩, ⟨some 13, .load 24 (.tmp 12), 24, none⟩, ⟨some 14, .call ⟨.value (.func 55), #[.tmp 13], #[24]⟩, 4, none⟩, ⟨some 3, .assign (.tmp 14), 4, none⟩] := vR rfl
@[push_cast] theorem vr20_2 : VR r20_2 [⟨some 15, .move (.tmp 3), 4, none⟩, ⟨some 16, .unOp .not 4 (.tmp 15), 4, none⟩, ⟨some 17, .move (.tmp 16), 4, none⟩, ⟨some 18, .fieldAddr 34 (.tmp 1) 0, 0, some (17, false)⟩, ⟨some 19, .load 24 (.tmp 18), 24, some (17, false)⟩, ⟨some 20, .fieldAddr 34 (.tmp 1) 1, 0, some (17, false)⟩, ⟨some 21, .load 28 (.tmp 20), 28, some (17, false)⟩, ⟨some 22, .call ⟨.value (.func 56), #[.tmp 19, .tmp 21], #[24, 28]⟩, 53, some (17, false)⟩, ⟨some 23, .binOp .neq 53 (.tmp 22) (.const (.int .i64 0)) 53, 4, some (17, false)⟩, ⟨some 24, .pick (.tmp 17) (.const (.bool true)) (.tmp 23), 4, none⟩, ⟨some 25, .move (.tmp 24), 4, none⟩, ⟨some 26, .fieldAddr 34 (.tmp 1) 3, 0, some (25, false)⟩, ⟨some 27, .load 29 (.tmp 26), 29, some (25, false)⟩, ⟨some 28, .call ⟨.builtin .len, #[.tmp 27], #[29]⟩, 3, some (25, false)⟩, ⟨some 29, .fieldAddr 34 (.tmp 1) 1, 0, some (25, false)⟩, ⟨some 30, .fieldAddr 28 (.tmp 29) 0, 0, some (25, false)⟩, ⟨some 31, .load 25 (.tmp 30), 25, some (25, false)⟩, ⟨some 32, .call ⟨.builtin .len, #[.tmp 31], #[25]⟩, 3, some (25, false)⟩, ⟨some 33, .binOp .neq 3 (.tmp 28) (.tmp 32) 3, 4, some (25, false)⟩, ⟨some 34, .pick (.tmp 25) (.const (.bool true)) (.tmp 33), 4, none⟩, ⟨some 35, .move (.tmp 34), 4, none⟩, ⟨some 36, .fieldAddr 34 (.tmp 1) 4, 0, some (35, false)⟩, ⟨some 37, .fieldAddr 31 (.tmp 36) 1, 0, some (35, false)⟩, ⟨some 38, .load 29 (.tmp 37), 29, some (35, false)⟩, ⟨some 39, .call ⟨.builtin .len, #[.tmp 38], #[29]⟩, 3, some (35, false)⟩, ⟨some 40, .fieldAddr 34 (.tmp 1) 0, 0, some (35, false)⟩, ⟨some 41, .fieldAddr 24 (.tmp 40) 1, 0, some (35, false)⟩, ⟨some 42, .load 22 (.tmp 41), 22, some (35, false)⟩, ⟨some 43, .call ⟨.builtin .len, #[.tmp 42], #[22]⟩, 3, some (35, false)⟩, ⟨some 44, .binOp .neq 3 (.tmp 39) (.tmp 43) 3, 4, some (35, false)⟩, ⟨some 45, .pick (.tmp 35) (.const (.bool true)) (.tmp 44), 4, none⟩] := vR rfl
@[push_cast] theorem vr20_3 : VR r20_3 [⟨some 2, .assign (.const (.bool false)), 4, none⟩] := vR rfl
@[push_cast] theorem vr20_4 : VR r20_4 [⟨some 46, .fieldAddr 34 (.tmp 1) 2, 0, none⟩, ⟨some 47, .load 3 (.tmp 46), 3, none⟩, ⟨some 4, .assign (.tmp 47), 3, none⟩] := vR rfl
@[push_cast] theorem vr20_5 : VR r20_5 [⟨some 5, .assign (.const (.int .i64 0)), 3, none⟩] := vR rfl
@[push_cast] theorem vr20_6 : VR r20_6 [⟨some 48, .move (.tmp 5), 3, none⟩, ⟨some 49, .fieldAddr 34 (.tmp 1) 3, 0, none⟩, ⟨some 50, .load 29 (.tmp 49), 29, none⟩, ⟨some 51, .call ⟨.builtin .len, #[.tmp 50], #[29]⟩, 3, none⟩, ⟨some 52, .binOp .lss 3 (.tmp 48) (.tmp 51) 3, 4, none⟩] := vR rfl
@[push_cast] theorem vr20_8 : VR r20_8 [⟨some 55, .fieldAddr 34 (.tmp 1) 3, 0, none⟩, ⟨some 56, .load 29 (.tmp 55), 29, none⟩, ⟨some 57, .move (.tmp 5), 3, none⟩, ⟨some 58, .indexAddr 29 (.tmp 56) (.tmp 57), 0, none⟩, ⟨some 59, .load 3 (.tmp 58), 3, none⟩, ⟨some 60, .move (.tmp 4), 3, none⟩, ⟨some 61, .call ⟨.value (.func 57), #[(.tmp 59), (.const (.int .i64 0)), .tmp 60], #[3, 3, 3]⟩, 4, none⟩, ⟨some 6, .assign (.tmp 61), 4, none⟩] := vR rfl
@[push_cast] theorem vr20_9 : VR r20_9 [⟨some 62, .move (.tmp 6), 4, none⟩, ⟨some 63, .unOp .not 4 (.tmp 62), 4, none⟩] := vR rfl
@[push_cast] theorem vr20_10 : VR r20_10 [⟨some 2, .assign (.const (.bool false)), 4, none⟩] := vR rfl
@[push_cast] theorem vr20_11 : VR r20_11 [⟨some 64, .fieldAddr 34 (.tmp 1) 3, 0, none⟩, ⟨some 65, .load 29 (.tmp 64), 29, none⟩, ⟨some 66, .move (.tmp 5), 3, none⟩, ⟨some 67, .indexAddr 29 (.tmp 65) (.tmp 66), 0, none⟩, ⟨some 68, .load 3 (.tmp 67), 3, none⟩, ⟨some 4, .assign (.tmp 68), 3, none⟩] := vR rfl
@[push_cast] theorem vr20_7 : VR r20_7 [⟨some 53, .move (.tmp 5), 3, none⟩, ⟨some 54, .binOp .add 3 (.tmp 53) (.const (.int .i64 1)) 3, 3, none⟩, ⟨some 5, .assign (.tmp 54), 3, none⟩] := vR rfl
@[push_cast] theorem vr20_12 : VR r20_12 [⟨some 7, .assign (.const (.int .i64 0)), 3, none⟩] := vR rfl
@[push_cast] theorem vr20_13 : VR r20_13 [⟨some 69, .move (.tmp 7), 3, none⟩, ⟨some 70, .fieldAddr 34 (.tmp 1) 4, 0, none⟩, ⟨some 71, .fieldAddr 31 (.tmp 70) 1, 0, none⟩, ⟨some 72, .load 29 (.tmp 71), 29, none⟩, ⟨some 73, .call ⟨.builtin .len, #[.tmp 72], #[29]⟩, 3, none⟩, ⟨some 74, .binOp .lss 3 (.tmp 69) (.tmp 73) 3, 4, none⟩] := vR rfl
@[push_cast] theorem vr20_15 : VR r20_15 [⟨some 77, .fieldAddr 34 (.tmp 1) 4, 0, none⟩, ⟨some 78, .fieldAddr 31 (.tmp 77) 1, 0, none⟩, ⟨some 79, .load 29 (.tmp 78), 29, none⟩, ⟨some 80, .move (.tmp 7), 3, none⟩, ⟨some 81, .indexAddr 29 (.tmp 79) (.tmp 80), 0, none⟩, ⟨some 82, .load 3 (.tmp 81), 3, none⟩, ⟨some 83, .call ⟨.value (.func 57), #[(.tmp 82), (.const (.int .i64 0)), (.const (.int .i64 4611686018427387904))], #[3, 3, 3]⟩, 4, none⟩, ⟨some 8, .assign (.tmp 83), 4, none⟩] := vR rfl
@[push_cast] theorem vr20_16 : VR r20_16 [⟨some 84, .move (.tmp 8), 4, none⟩, ⟨some 85, .unOp .not 4 (.tmp 84), 4, none⟩] := vR rfl
@[push_cast] theorem vr20_17 : VR r20_17 [⟨some 2, .assign (.const (.bool false)), 4, none⟩] := vR rfl
@[push_cast] theorem vr20_14 : VR r20_14 [⟨some 75, .move (.tmp 7), 3, none⟩, ⟨some 76, .binOp .add 3 (.tmp 75) (.const (.int .i64 1)) 3, 3, none⟩, ⟨some 7, .assign (.tmp 76), 3, none⟩] := vR rfl
@[push_cast] theorem vr20_18 : VR r20_18 [⟨some 86, .fieldAddr 34 (.tmp 1) 2, 0, none⟩, ⟨some 87, .load 3 (.tmp 86), 3, none⟩, ⟨some 88, .call ⟨.value (.func 57), #[(.tmp 87), (.const (.int .i64 0)), (.const (.int .i64 1099511627776))], #[3, 3, 3]⟩, 4, none⟩, ⟨some 89, .move (.tmp 88), 4, none⟩, ⟨some 90, .fieldAddr 34 (.tmp 1) 4, 0, some (89, true)⟩, ⟨some 91, .fieldAddr 31 (.tmp 90) 0, 0, some (89, true)⟩, ⟨some 92, .load 3 (.tmp 91), 3, some (89, true)⟩, ⟨some 93, .call ⟨.value (.func 57), #[(.tmp 92), (.const (.int .i64 0)), (.const (.int .i64 1048576))], #[3, 3, 3]⟩, 4, some (89, true)⟩, ⟨some 94, .pick (.tmp 89) (.tmp 93) (.const (.bool false)), 4, none⟩, ⟨some 9, .assign (.tmp 94), 4, none⟩] := vR rfl
@[push_cast] theorem vr20_19 : VR r20_19 [⟨some 95, .fieldAddr 34 (.tmp 1) 7, 0, none⟩, ⟨some 96, .load 3 (.tmp 95), 3, none⟩, ⟨some 97, .call ⟨.value (.func 57), #[(.tmp 96), (.const (.int .i64 0)), (.const (.int .i64 1073741824))], #[3, 3, 3]⟩, 4, none⟩, ⟨some 10, .assign (.tmp 97), 4, none⟩] := vR rfl
@[push_cast] theorem vr20_20 : VR r20_20 [⟨some 98, .load 34 (.tmp 1), 34, none⟩, ⟨some 99, .call ⟨.value (.func 58), #[.tmp 98], #[34]⟩, 4, none⟩, ⟨some 11, .assign (.tmp 99), 4, none⟩] := vR rfl
@[push_cast] theorem vr20_21 : VR r20_21 [⟨some 100, .move (.tmp 9), 4, none⟩, ⟨some 101, .move (.tmp 100), 4, none⟩, ⟨some 102, .move (.tmp 10), 4, some (101, true)⟩, ⟨some 103, .pick (.tmp 101) (.tmp 102) (.const (.bool false)), 4, none⟩, ⟨some 104, .move (.tmp 103), 4, none⟩, ⟨some 105, .move (.tmp 11), 4, some (104, true)⟩, ⟨some 106, .pick (.tmp 104) (.tmp 105) (.const (.bool false)), 4, none⟩, ⟨some 2, .assign (.tmp 106), 4, none⟩] := vR rfl
/-! 54 columbary/columbarylaw17.Fits (params #[28], results #[(.tmp 2)], 49 slots) -/
def W54_0 : List Nat := [2, 3, 4, 17, 18, 19, 20, 21, 22, 23, 24, 25, 26, 27, 28, 29, 30, 31, 32]
@[push_cast] theorem W54_0_def : W54_0 = [2, 3, 4, 17, 18, 19, 20, 21, 22, 23, 24, 25, 26, 27, 28, 29, 30, 31, 32] := mk_eq rfl
def W54_1 : List Nat := [2, 5, 6, 33, 34, 35, 36, 37, 38, 39, 40, 41, 42, 43, 44, 45, 46, 47, 48]
@[push_cast] theorem W54_1_def : W54_1 = [2, 5, 6, 33, 34, 35, 36, 37, 38, 39, 40, 41, 42, 43, 44, 45, 46, 47, 48] := mk_eq rfl
def r54_0 : List VOp :=
  [⟨some 1, .box 28 (.tmp 0), 0, none⟩,
   ⟨some 2, .assign (.const (.bool false)), 4, none⟩]
def r54_1 : List VOp :=
  [fad 7 28 1 0,
   lda 8 25 7,
   ⟨some 9, .call ⟨.builtin .len, #[.tmp 8], #[25]⟩, 3, none⟩,
   ⟨some 10, .binOp .gtr 3 (.tmp 9) (.const (.int .i64 20)) 3, 4, none⟩,
   mv 11 10 4,
   ⟨some 12, .fieldAddr 28 (.tmp 1) 1, 0, some (11, false)⟩,
   ⟨some 13, .load 26 (.tmp 12), 26, some (11, false)⟩,
   ⟨some 14, .call ⟨.builtin .len, #[.tmp 13], #[26]⟩, 3, some (11, false)⟩,
   ⟨some 15, .binOp .gtr 3 (.tmp 14) (.const (.int .i64 20)) 3, 4, some (11, false)⟩,
   ⟨some 16, .pick (.tmp 11) (.const (.bool true)) (.tmp 15), 4, none⟩]
def r54_2 : List VOp :=
  [⟨some 2, .assign (.const (.bool false)), 4, none⟩]
def r54_3 : List VOp :=
  [⟨some 3, .assign (.const (.int .i64 0)), 3, none⟩]
def r54_4 : List VOp :=
  [mv 17 3 3,
   fad 18 28 1 0,
   lda 19 25 18,
   ⟨some 20, .call ⟨.builtin .len, #[.tmp 19], #[25]⟩, 3, none⟩,
   ⟨some 21, .binOp .lss 3 (.tmp 17) (.tmp 20) 3, 4, none⟩]
def r54_6 : List VOp :=
  [fad 24 28 1 0,
   lda 25 25 24,
   mv 26 3 3,
   iad 27 25 25 26,
   fad 28 60 27 2,
   lda 29 22 28,
   ⟨some 30, .call ⟨.value (.func 53), #[.tmp 29], #[22]⟩, 4, none⟩,
   asg 4 30 4]
def r54_7 : List VOp :=
  [mv 31 4 4,
   ⟨some 32, .unOp .not 4 (.tmp 31), 4, none⟩]
def r54_8 : List VOp :=
  [⟨some 2, .assign (.const (.bool false)), 4, none⟩]
def r54_5 : List VOp :=
  [mv 22 3 3,
   ⟨some 23, .binOp .add 3 (.tmp 22) (.const (.int .i64 1)) 3, 3, none⟩,
   asg 3 23 3]
def r54_9 : List VOp :=
  [⟨some 5, .assign (.const (.int .i64 0)), 3, none⟩]
def r54_10 : List VOp :=
  [mv 33 5 3,
   fad 34 28 1 1,
   lda 35 26 34,
   ⟨some 36, .call ⟨.builtin .len, #[.tmp 35], #[26]⟩, 3, none⟩,
   ⟨some 37, .binOp .lss 3 (.tmp 33) (.tmp 36) 3, 4, none⟩]
def r54_12 : List VOp :=
  [fad 40 28 1 1,
   lda 41 26 40,
   mv 42 5 3,
   iad 43 26 41 42,
   fad 44 51 43 2,
   lda 45 22 44,
   ⟨some 46, .call ⟨.value (.func 53), #[.tmp 45], #[22]⟩, 4, none⟩,
   asg 6 46 4]
def r54_13 : List VOp :=
  [mv 47 6 4,
   ⟨some 48, .unOp .not 4 (.tmp 47), 4, none⟩]
def r54_14 : List VOp :=
  [⟨some 2, .assign (.const (.bool false)), 4, none⟩]
def r54_11 : List VOp :=
  [mv 38 5 3,
   ⟨some 39, .binOp .add 3 (.tmp 38) (.const (.int .i64 1)) 3, 3, none⟩,
   asg 5 39 3]
def r54_15 : List VOp :=
  [⟨some 2, .assign (.const (.bool true)), 4, none⟩]
def B54 : VC :=
  (.seq (.region r54_0) (.seq (.seq (.region r54_1) (.cond (.tmp 16) (.seq (.region r54_2) .ret) .skip)) (.seq (.seq (.region r54_3) (.block 0 (.loop (.seq (.seq (.region r54_4) (.cond (.tmp 21) .skip (.exit 0))) (.seq (.block 1 (.seq (.region r54_6) (.seq (.region r54_7) (.cond (.tmp 32) (.seq (.region r54_8) .ret) .skip)))) (.region r54_5)))))) (.seq (.seq (.region r54_9) (.block 2 (.loop (.seq (.seq (.region r54_10) (.cond (.tmp 37) .skip (.exit 2))) (.seq (.block 3 (.seq (.region r54_12) (.seq (.region r54_13) (.cond (.tmp 48) (.seq (.region r54_14) .ret) .skip)))) (.region r54_11)))))) (.seq (.region r54_15) .ret)))))
theorem code54 : ∃ c, Try.f54.body = some c ∧ abs Try.f54.ntmps c = B54 := ⟨_, rfl, by kernel_rfl⟩
theorem hb54 : HasBody Try.prog 54 := hasBody_of Try.func54 (by kernel_rfl)
theorem res54 : Try.f54.results = #[(.tmp 2)] := rfl
theorem enter54 {w : World} {R : Value → World → Prop} (x0 : Value) (h : vc Try.prog B54 (retK Try.prog #[(.tmp 2)] R) [] (initEnv [x0] 0) w) : FnC Try.prog 54 #[x0] w R := by
  obtain ⟨c, h1, h2⟩ := code54
  exact hb54.fn (ret_of_vc mixed Try.func54 h1 (Nat.le_of_ble_eq_true rfl) B54 h2 h)
@[push_cast] theorem vr54_0 : VR r54_0 [⟨some 1, .box 28 (.tmp 0), 0, none⟩, ⟨some 2, .assign (.const (.bool false)), 4, none⟩] := vR rfl
@[push_cast] theorem vr54_1 : VR r54_1 [⟨some 7, .fieldAddr 28 (.tmp 1) 0, 0, none⟩, ⟨some 8, .load 25 (.tmp 7), 25, none⟩, ⟨some 9, .call ⟨.builtin .len, #[.tmp 8], #[25]⟩, 3, none⟩, ⟨some 10, .binOp .gtr 3 (.tmp 9) (.const (.int .i64 20)) 3, 4, none⟩, ⟨some 11, .move (.tmp 10), 4, none⟩, ⟨some 12, .fieldAddr 28 (.tmp 1) 1, 0, some (11, false)⟩, ⟨some 13, .load 26 (.tmp 12), 26, some (11, false)⟩, ⟨some 14, .call ⟨.builtin .len, #[.tmp 13], #[26]⟩, 3, some (11, false)⟩, ⟨some 15, .binOp .gtr 3 (.tmp 14) (.const (.int .i64 20)) 3, 4, some (11, false)⟩, ⟨some 16, .pick (.tmp 11) (.const (.bool true)) (.tmp 15), 4, none⟩] := vR rfl
@[push_cast] theorem vr54_2 : VR r54_2 [⟨some 2, .assign (.const (.bool false)), 4, none⟩] := vR rfl
@[push_cast] theorem vr54_3 : VR r54_3 [⟨some 3, .assign (.const (.int .i64 0)), 3, none⟩] := vR rfl
@[push_cast] theorem vr54_4 : VR r54_4 [⟨some 17, .move (.tmp 3), 3, none⟩, ⟨some 18, .fieldAddr 28 (.tmp 1) 0, 0, none⟩, ⟨some 19, .load 25 (.tmp 18), 25, none⟩, ⟨some 20, .call ⟨.builtin .len, #[.tmp 19], #[25]⟩, 3, none⟩, ⟨some 21, .binOp .lss 3 (.tmp 17) (.tmp 20) 3, 4, none⟩] := vR rfl
@[push_cast] theorem vr54_6 : VR r54_6 [⟨some 24, .fieldAddr 28 (.tmp 1) 0, 0, none⟩, ⟨some 25, .load 25 (.tmp 24), 25, none⟩, ⟨some 26, .move (.tmp 3), 3, none⟩, ⟨some 27, .indexAddr 25 (.tmp 25) (.tmp 26), 0, none⟩, ⟨some 28, .fieldAddr 60 (.tmp 27) 2, 0, none⟩, ⟨some 29, .load 22 (.tmp 28), 22, none⟩, ⟨some 30, .call ⟨.value (.func 53), #[.tmp 29], #[22]⟩, 4, none⟩, ⟨some 4, .assign (.tmp 30), 4, none⟩] := vR rfl
@[push_cast] theorem vr54_7 : VR r54_7 [⟨some 31, .move (.tmp 4), 4, none⟩, ⟨some 32, .unOp .not 4 (.tmp 31), 4, none⟩] := vR rfl
@[push_cast] theorem vr54_8 : VR r54_8 [⟨some 2, .assign (.const (.bool false)), 4, none⟩] := vR rfl
@[push_cast] theorem vr54_5 : VR r54_5 [⟨some 22, .move (.tmp 3), 3, none⟩, ⟨some 23, .binOp .add 3 (.tmp 22) (.const (.int .i64 1)) 3, 3, none⟩, ⟨some 3, .assign (.tmp 23), 3, none⟩] := vR rfl
@[push_cast] theorem vr54_9 : VR r54_9 [⟨some 5, .assign (.const (.int .i64 0)), 3, none⟩] := vR rfl
@[push_cast] theorem vr54_10 : VR r54_10 [⟨some 33, .move (.tmp 5), 3, none⟩, ⟨some 34, .fieldAddr 28 (.tmp 1) 1, 0, none⟩, ⟨some 35, .load 26 (.tmp 34), 26, none⟩, ⟨some 36, .call ⟨.builtin .len, #[.tmp 35], #[26]⟩, 3, none⟩, ⟨some 37, .binOp .lss 3 (.tmp 33) (.tmp 36) 3, 4, none⟩] := vR rfl
@[push_cast] theorem vr54_12 : VR r54_12 [⟨some 40, .fieldAddr 28 (.tmp 1) 1, 0, none⟩, ⟨some 41, .load 26 (.tmp 40), 26, none⟩, ⟨some 42, .move (.tmp 5), 3, none⟩, ⟨some 43, .indexAddr 26 (.tmp 41) (.tmp 42), 0, none⟩, ⟨some 44, .fieldAddr 51 (.tmp 43) 2, 0, none⟩, ⟨some 45, .load 22 (.tmp 44), 22, none⟩, ⟨some 46, .call ⟨.value (.func 53), #[.tmp 45], #[22]⟩, 4, none⟩, ⟨some 6, .assign (.tmp 46), 4, none⟩] := vR rfl
@[push_cast] theorem vr54_13 : VR r54_13 [⟨some 47, .move (.tmp 6), 4, none⟩, ⟨some 48, .unOp .not 4 (.tmp 47), 4, none⟩] := vR rfl
@[push_cast] theorem vr54_14 : VR r54_14 [⟨some 2, .assign (.const (.bool false)), 4, none⟩] := vR rfl
@[push_cast] theorem vr54_11 : VR r54_11 [⟨some 38, .move (.tmp 5), 3, none⟩, ⟨some 39, .binOp .add 3 (.tmp 38) (.const (.int .i64 1)) 3, 3, none⟩, ⟨some 5, .assign (.tmp 39), 3, none⟩] := vR rfl
@[push_cast] theorem vr54_15 : VR r54_15 [⟨some 2, .assign (.const (.bool true)), 4, none⟩] := vR rfl
/-! 56 columbary/columbaryref17.Check (params #[24, 28], results #[(.tmp 4)], 169 slots) -/
def W56_0 : List Nat := [4, 7, 8, 9, 10, 11, 12, 13, 52, 53, 54, 55, 56, 57, 58, 59, 60, 61, 62, 63, 64, 65, 66, 67, 68, 69, 70, 71, 72, 73, 74, 75, 76, 77, 78, 79, 80, 81, 82, 83, 84, 85, 86, 87, 88, 89, 90, 91, 92, 93, 94, 95, 96, 97, 98, 99, 100, 101, 102, 103, 104]
@[push_cast] theorem W56_0_def : W56_0 = [4, 7, 8, 9, 10, 11, 12, 13, 52, 53, 54, 55, 56, 57, 58, 59, 60, 61, 62, 63, 64, 65, 66, 67, 68, 69, 70, 71, 72, 73, 74, 75, 76, 77, 78, 79, 80, 81, 82, 83, 84, 85, 86, 87, 88, 89, 90, 91, 92, 93, 94, 95, 96, 97, 98, 99, 100, 101, 102, 103, 104] := mk_eq rfl
def W56_1 : List Nat := [4, 14, 15, 16, 17, 105, 106, 107, 108, 109, 110, 111, 112, 113, 114, 115, 116, 117, 118, 119, 120, 121, 122, 123, 124, 125, 126, 127, 128, 129, 130, 131, 132, 133, 134, 135, 136, 137, 138, 139, 140, 141, 142, 143, 144, 145, 146, 147, 148, 149, 150, 151]
@[push_cast] theorem W56_1_def : W56_1 = [4, 14, 15, 16, 17, 105, 106, 107, 108, 109, 110, 111, 112, 113, 114, 115, 116, 117, 118, 119, 120, 121, 122, 123, 124, 125, 126, 127, 128, 129, 130, 131, 132, 133, 134, 135, 136, 137, 138, 139, 140, 141, 142, 143, 144, 145, 146, 147, 148, 149, 150, 151] := mk_eq rfl
def r56_0 : List VOp :=
  [⟨some 2, .box 24 (.tmp 0), 0, none⟩,
   ⟨some 3, .box 28 (.tmp 1), 0, none⟩,
   ⟨some 4, .assign (.const (.int .i64 0)), 53, none⟩]
def r56_1 : List VOp :=
  [fad 19 28 3 0,
   lda 20 25 19,
   ⟨some 21, .call ⟨.builtin .len, #[.tmp 20], #[25]⟩, 3, none⟩,
   asg 5 21 3]
def r56_2 : List VOp :=
  [mv 22 5 3,
   ⟨some 23, .binOp .lss 3 (.tmp 22) (.const (.int .i64 1)) 3, 4, none⟩,
   mv 24 23 4,
   ⟨some 25, .move (.tmp 5), 3, some (24, false)⟩,
   ⟨some 26, .binOp .gtr 3 (.tmp 25) (.const (.int .i64 4)) 3, 4, some (24, false)⟩,
   ⟨some 27, .pick (.tmp 24) (.const (.bool true)) (.tmp 26), 4, none⟩,
   mv 28 27 4,
   ⟨some 29, .fieldAddr 28 (.tmp 3) 1, 0, some (28, false)⟩,
   ⟨some 30, .load 26 (.tmp 29), 26, some (28, false)⟩,
   ⟨some 31, .call ⟨.builtin .len, #[.tmp 30], #[26]⟩, 3, some (28, false)⟩,
   ⟨some 32, .binOp .gtr 3 (.tmp 31) (.const (.int .i64 4)) 3, 4, some (28, false)⟩,
   ⟨some 33, .pick (.tmp 28) (.const (.bool true)) (.tmp 32), 4, none⟩,
   mv 34 33 4,
   ⟨some 35, .fieldAddr 28 (.tmp 3) 0, 0, some (34, false)⟩,
   ⟨some 36, .load 25 (.tmp 35), 25, some (34, false)⟩,
   ⟨some 37, .indexAddr 25 (.tmp 36) (.const (.int .i64 0)), 0, some (34, false)⟩,
   ⟨some 38, .fieldAddr 60 (.tmp 37) 0, 0, some (34, false)⟩,
   ⟨some 39, .load 3 (.tmp 38), 3, some (34, false)⟩,
   ⟨some 40, .binOp .neq 3 (.tmp 39) (.const (.int .i64 0)) 3, 4, some (34, false)⟩,
   ⟨some 41, .pick (.tmp 34) (.const (.bool true)) (.tmp 40), 4, none⟩]
def r56_3 : List VOp :=
  [⟨some 4, .assign (.const (.int .i64 172)), 53, none⟩]
def r56_4 : List VOp :=
  [fad 42 28 3 0,
   lda 43 25 42,
   ⟨some 44, .indexAddr 25 (.tmp 43) (.const (.int .i64 0)), 0, none⟩,
   fad 45 60 44 2,
   lda 46 22 45,
   fad 47 24 2 0,
   lda 48 22 47,
   ⟨some 49, .call ⟨.value (.func 32), #[.tmp 46, .tmp 48], #[22, 22]⟩, 4, none⟩,
   asg 6 49 4]
def r56_5 : List VOp :=
  [mv 50 6 4,
   ⟨some 51, .unOp .not 4 (.tmp 50), 4, none⟩]
def r56_6 : List VOp :=
  [⟨some 4, .assign (.const (.int .i64 172)), 53, none⟩]
def r56_7 : List VOp :=
  [⟨some 7, .assign (.const (.int .i64 0)), 3, none⟩]
def r56_8 : List VOp :=
  [mv 52 7 3,
   mv 53 5 3,
   ⟨some 54, .binOp .lss 3 (.tmp 52) (.tmp 53) 3, 4, none⟩]
def r56_10 : List VOp :=
  [fad 57 28 3 0,
   lda 58 25 57,
   mv 59 7 3,
   iad 60 25 58 59,
   lda 61 60 60,
   ⟨some 8, .alloc 60, 0, none⟩,
   ⟨none, .store 60 (.tmp 8) (.tmp 61), 0, none⟩]
def r56_11 : List VOp :=
  [fad 62 60 8 1,
   lda 63 3 62,
   ⟨some 64, .call ⟨.value (.func 84), #[.tmp 63], #[3]⟩, 4, none⟩,
   asg 9 64 4]
def r56_12 : List VOp :=
  [fad 65 60 8 0,
   lda 66 3 65,
   ⟨some 67, .call ⟨.value (.func 88), #[.tmp 66], #[3]⟩, 4, none⟩,
   asg 10 67 4]
def r56_13 : List VOp :=
  [mv 68 9 4,
   ⟨some 69, .unOp .not 4 (.tmp 68), 4, none⟩,
   mv 70 69 4,
   ⟨some 71, .move (.tmp 10), 4, some (70, false)⟩,
   ⟨some 72, .unOp .not 4 (.tmp 71), 4, some (70, false)⟩,
   ⟨some 73, .pick (.tmp 70) (.const (.bool true)) (.tmp 72), 4, none⟩]
def r56_14 : List VOp :=
  [⟨some 4, .assign (.const (.int .i64 172)), 53, none⟩]
def r56_15 : List VOp :=
  [mv 74 7 3,
   ⟨some 75, .binOp .eql 3 (.tmp 74) (.const (.int .i64 0)) 3, 4, none⟩]
def r56_16 : List VOp :=
  [fad 76 28 3 0,
   lda 77 25 76,
   mv 78 7 3,
   ⟨some 79, .binOp .sub 3 (.tmp 78) (.const (.int .i64 1)) 3, 3, none⟩,
   iad 80 25 77 79,
   lda 81 60 80,
   ⟨some 11, .alloc 60, 0, none⟩,
   ⟨none, .store 60 (.tmp 11) (.tmp 81), 0, none⟩]
def r56_17 : List VOp :=
  [fad 82 60 8 1,
   lda 83 3 82,
   fad 84 60 11 1,
   lda 85 3 84,
   ⟨some 86, .call ⟨.value (.func 89), #[.tmp 83, .tmp 85], #[3, 3]⟩, 4, none⟩,
   asg 12 86 4]
def r56_18 : List VOp :=
  [fad 87 60 8 2,
   lda 88 22 87,
   fad 89 60 11 2,
   lda 90 22 89,
   ⟨some 91, .call ⟨.value (.func 90), #[.tmp 88, .tmp 90], #[22, 22]⟩, 4, none⟩,
   asg 13 91 4]
def r56_19 : List VOp :=
  [mv 92 12 4,
   ⟨some 93, .unOp .not 4 (.tmp 92), 4, none⟩,
   mv 94 93 4,
   ⟨some 95, .move (.tmp 13), 4, some (94, false)⟩,
   ⟨some 96, .unOp .not 4 (.tmp 95), 4, some (94, false)⟩,
   ⟨some 97, .pick (.tmp 94) (.const (.bool true)) (.tmp 96), 4, none⟩,
   mv 98 97 4,
   ⟨some 99, .fieldAddr 60 (.tmp 8) 0, 0, some (98, false)⟩,
   ⟨some 100, .load 3 (.tmp 99), 3, some (98, false)⟩,
   ⟨some 101, .fieldAddr 60 (.tmp 11) 0, 0, some (98, false)⟩,
   ⟨some 102, .load 3 (.tmp 101), 3, some (98, false)⟩,
   ⟨some 103, .binOp .leq 3 (.tmp 100) (.tmp 102) 3, 4, some (98, false)⟩,
   ⟨some 104, .pick (.tmp 98) (.const (.bool true)) (.tmp 103), 4, none⟩]
def r56_20 : List VOp :=
  [⟨some 4, .assign (.const (.int .i64 172)), 53, none⟩]
def r56_9 : List VOp :=
  [mv 55 7 3,
   ⟨some 56, .binOp .add 3 (.tmp 55) (.const (.int .i64 1)) 3, 3, none⟩,
   asg 7 56 3]
def r56_21 : List VOp :=
  [⟨some 14, .assign (.const (.int .i64 0)), 3, none⟩]
def r56_22 : List VOp :=
  [mv 105 14 3,
   fad 106 28 3 1,
   lda 107 26 106,
   ⟨some 108, .call ⟨.builtin .len, #[.tmp 107], #[26]⟩, 3, none⟩,
   ⟨some 109, .binOp .lss 3 (.tmp 105) (.tmp 108) 3, 4, none⟩]
def r56_24 : List VOp :=
  [fad 112 28 3 1,
   lda 113 26 112,
   mv 114 14 3,
   iad 115 26 113 114,
   lda 116 51 115,
   ⟨some 15, .alloc 51, 0, none⟩,
   ⟨none, .store 51 (.tmp 15) (.tmp 116), 0, none⟩]
def r56_25 : List VOp :=
  [fad 117 51 15 0,
   lda 118 3 117,
   ⟨some 119, .binOp .lss 3 (.tmp 118) (.const (.int .i64 0)) 3, 4, none⟩,
   mv 120 119 4,
   ⟨some 121, .fieldAddr 51 (.tmp 15) 0, 0, some (120, false)⟩,
   ⟨some 122, .load 3 (.tmp 121), 3, some (120, false)⟩,
   ⟨some 123, .move (.tmp 5), 3, some (120, false)⟩,
   ⟨some 124, .binOp .geq 3 (.tmp 122) (.tmp 123) 3, 4, some (120, false)⟩,
   ⟨some 125, .pick (.tmp 120) (.const (.bool true)) (.tmp 124), 4, none⟩]
def r56_26 : List VOp :=
  [⟨some 4, .assign (.const (.int .i64 172)), 53, none⟩]
def r56_27 : List VOp :=
  [fad 126 51 15 1,
   lda 127 3 126,
   fad 128 28 3 0,
   lda 129 25 128,
   fad 130 51 15 0,
   lda 131 3 130,
   iad 132 25 129 131,
   fad 133 60 132 1,
   lda 134 3 133,
   ⟨some 135, .call ⟨.value (.func 89), #[.tmp 127, .tmp 134], #[3, 3]⟩, 4, none⟩,
   asg 16 135 4]
def r56_28 : List VOp :=
  [fad 136 51 15 2,
   lda 137 22 136,
   fad 138 28 3 0,
   lda 139 25 138,
   fad 140 51 15 0,
   lda 141 3 140,
   iad 142 25 139 141,
   fad 143 60 142 2,
   lda 144 22 143,
   ⟨some 145, .call ⟨.value (.func 90), #[.tmp 137, .tmp 144], #[22, 22]⟩, 4, none⟩,
   asg 17 145 4]
def r56_29 : List VOp :=
  [mv 146 16 4,
   ⟨some 147, .unOp .not 4 (.tmp 146), 4, none⟩,
   mv 148 147 4,
   ⟨some 149, .move (.tmp 17), 4, some (148, false)⟩,
   ⟨some 150, .unOp .not 4 (.tmp 149), 4, some (148, false)⟩,
   ⟨some 151, .pick (.tmp 148) (.const (.bool true)) (.tmp 150), 4, none⟩]
def r56_30 : List VOp :=
  [⟨some 4, .assign (.const (.int .i64 172)), 53, none⟩]
def r56_23 : List VOp :=
  [mv 110 14 3,
   ⟨some 111, .binOp .add 3 (.tmp 110) (.const (.int .i64 1)) 3, 3, none⟩,
   asg 14 111 3]
def r56_31 : List VOp :=
  [fad 152 28 3 2,
   lda 153 3 152,
   ⟨some 154, .call ⟨.value (.func 88), #[.tmp 153], #[3]⟩, 4, none⟩,
   asg 18 154 4]
def r56_32 : List VOp :=
  [mv 155 18 4,
   ⟨some 156, .unOp .not 4 (.tmp 155), 4, none⟩,
   mv 157 156 4,
   ⟨some 158, .fieldAddr 28 (.tmp 3) 2, 0, some (157, false)⟩,
   ⟨some 159, .load 3 (.tmp 158), 3, some (157, false)⟩,
   ⟨some 160, .fieldAddr 28 (.tmp 3) 0, 0, some (157, false)⟩,
   ⟨some 161, .load 25 (.tmp 160), 25, some (157, false)⟩,
   ⟨some 162, .move (.tmp 5), 3, some (157, false)⟩,
   ⟨some 163, .binOp .sub 3 (.tmp 162) (.const (.int .i64 1)) 3, 3, some (157, false)⟩,
   ⟨some 164, .indexAddr 25 (.tmp 161) (.tmp 163), 0, some (157, false)⟩,
   ⟨some 165, .fieldAddr 60 (.tmp 164) 0, 0, some (157, false)⟩,
   ⟨some 166, .load 3 (.tmp 165), 3, some (157, false)⟩,
   ⟨some 167, .binOp .leq 3 (.tmp 159) (.tmp 166) 3, 4, some (157, false)⟩,
   ⟨some 168, .pick (.tmp 157) (.const (.bool true)) (.tmp 167), 4, none⟩]
def r56_33 : List VOp :=
  [⟨some 4, .assign (.const (.int .i64 172)), 53, none⟩]
def r56_34 : List VOp :=
  [⟨some 4, .assign (.const (.int .i64 0)), 53, none⟩]
def B56 : VC :=
  (.seq (.region r56_0) (.seq (.region r56_1) (.seq (.seq (.region r56_2) (.cond (.tmp 41) (.seq (.region r56_3) .ret) .skip)) (.seq (.draw r56_4 3) (.seq (.seq (.region r56_5) (.cond (.tmp 51) (.seq (.region r56_6) .ret) .skip)) (.seq (.seq (.region r56_7) (.block 0 (.loop (.seq (.seq (.region r56_8) (.cond (.tmp 54) .skip (.exit 0))) (.seq (.block 1 (.seq (.region r56_10) (.seq (.region r56_11) (.seq (.region r56_12) (.seq (.seq (.region r56_13) (.cond (.tmp 73) (.seq (.region r56_14) .ret) .skip)) (.seq (.seq (.region r56_15) (.cond (.tmp 75) (.exit 1) .skip)) (.seq (.region r56_16) (.seq (.region r56_17) (.seq (.region r56_18) (.seq (.region r56_19) (.cond (.tmp 104) (.seq (.region r56_20) .ret) .skip))))))))))) (.region r56_9)))))) (.seq (.seq (.region r56_21) (.block 2 (.loop (.seq (.seq (.region r56_22) (.cond (.tmp 109) .skip (.exit 2))) (.seq (.block 3 (.seq (.region r56_24) (.seq (.seq (.region r56_25) (.cond (.tmp 125) (.seq (.region r56_26) .ret) .skip)) (.seq (.draw r56_27 3) (.seq (.draw r56_28 3) (.seq (.region r56_29) (.cond (.tmp 151) (.seq (.region r56_30) .ret) .skip))))))) (.region r56_23)))))) (.seq (.region r56_31) (.seq (.seq (.draw r56_32 3) (.cond (.tmp 168) (.seq (.region r56_33) .ret) .skip)) (.seq (.region r56_34) .ret))))))))))
theorem code56 : ∃ c, Try.f56.body = some c ∧ abs Try.f56.ntmps c = B56 := ⟨_, rfl, by kernel_rfl⟩
theorem hb56 : HasBody Try.prog 56 := hasBody_of Try.func56 (by kernel_rfl)
theorem res56 : Try.f56.results = #[(.tmp 4)] := rfl
theorem enter56 {w : World} {R : Value → World → Prop} (x0 x1 : Value) (h : vc Try.prog B56 (retK Try.prog #[(.tmp 4)] R) [] (initEnv [x0, x1] 0) w) : FnC Try.prog 56 #[x0, x1] w R := by
  obtain ⟨c, h1, h2⟩ := code56
  exact hb56.fn (ret_of_vc mixed Try.func56 h1 (Nat.le_of_ble_eq_true rfl) B56 h2 h)
@[push_cast] theorem vr56_0 : VR r56_0 [⟨some 2, .box 24 (.tmp 0), 0, none⟩, ⟨some 3, .box 28 (.tmp 1), 0, none⟩, ⟨some 4, .assign (.const (.int .i64 0)), 53, none⟩] := vR rfl
@[push_cast] theorem vr56_1 : VR r56_1 [⟨some 19, .fieldAddr 28 (.tmp 3) 0, 0, none⟩, ⟨some 20, .load 25 (.tmp 19), 25, none⟩, ⟨some 21, .call ⟨.builtin .len, #[.tmp 20], #[25]⟩, 3, none⟩, ⟨some 5, .assign (.tmp 21), 3, none⟩] := vR rfl
@[push_cast] theorem vr56_2 : VR r56_2 [⟨some 22, .move (.tmp 5), 3, none⟩, ⟨some 23, .binOp .lss 3 (.tmp 22) (.const (.int .i64 1)) 3, 4, none⟩, ⟨some 24, .move (.tmp 23), 4, none⟩, ⟨some 25, .move (.tmp 5), 3, some (24, false)⟩, ⟨some 26, .binOp .gtr 3 (.tmp 25) (.const (.int .i64 4)) 3, 4, some (24, false)⟩, ⟨some 27, .pick (.tmp 24) (.const (.bool true)) (.tmp 26), 4, none⟩, ⟨some 28, .move (.tmp 27), 4, none⟩, ⟨some 29, .fieldAddr 28 (.tmp 3) 1, 0, some (28, false)⟩, ⟨some 30, .load 26 (.tmp 29), 26, some (28, false)⟩, ⟨some 31, .call ⟨.builtin .len, #[.tmp 30], #[26]⟩, 3, some (28, false)⟩, ⟨some 32, .binOp .gtr 3 (.tmp 31) (.const (.int .i64 4)) 3, 4, some (28, false)⟩, ⟨some 33, .pick (.tmp 28) (.const (.bool true)) (.tmp 32), 4, none⟩, ⟨some 34, .move (.tmp 33), 4, none⟩, ⟨some 35, .fieldAddr 28 (.tmp 3) 0, 0, some (34, false)⟩, ⟨some 36, .load 25 (.tmp 35), 25, some (34, false)⟩, ⟨some 37, .indexAddr 25 (.tmp 36) (.const (.int .i64 0)), 0, some (34, false)⟩, ⟨some 38, .fieldAddr 60 (.tmp 37) 0, 0, some (34, false)⟩, ⟨some 39, .load 3 (.tmp 38), 3, some (34, false)⟩, ⟨some 40, .binOp .neq 3 (.tmp 39) (.const (.int .i64 0)) 3, 4, some (34, false)⟩, ⟨some 41, .pick (.tmp 34) (.const (.bool true)) (.tmp 40), 4, none⟩] := vR rfl
@[push_cast] theorem vr56_3 : VR r56_3 [⟨some 4, .assign (.const (.int .i64 172)), 53, none⟩] := vR rfl
@[push_cast] theorem vr56_4 : vc Try.prog (.draw r56_4 3) Q ds σ w = drawn Try.prog [(⟨some 42, .fieldAddr 28 (.tmp 3) 0, 0, none⟩, [3]), (⟨some 43, .load 25 (.tmp 42), 25, none⟩, [42]), (⟨some 44, .indexAddr 25 (.tmp 43) (.const (.int .i64 0)), 0, none⟩, [43]), (⟨some 45, .fieldAddr 60 (.tmp 44) 2, 0, none⟩, [44]), (⟨some 46, .load 22 (.tmp 45), 22, none⟩, [45]), (⟨some 47, .fieldAddr 24 (.tmp 2) 0, 0, none⟩, [2]), (⟨some 48, .load 22 (.tmp 47), 22, none⟩, [47]), (⟨some 49, .call ⟨.value (.func 32), #[.tmp 46, .tmp 48], #[22, 22]⟩, 4, none⟩, [46, 48]), (⟨some 6, .assign (.tmp 49), 4, none⟩, [49])] 3 (Q .normal ds) σ w := mk_eq rfl
@[push_cast] theorem vr56_5 : VR r56_5 [⟨some 50, .move (.tmp 6), 4, none⟩, ⟨some 51, .unOp .not 4 (.tmp 50), 4, none⟩] := vR rfl
@[push_cast] theorem vr56_6 : VR r56_6 [⟨some 4, .assign (.const (.int .i64 172)), 53, none⟩] := vR rfl
@[push_cast] theorem vr56_7 : VR r56_7 [⟨some 7, .assign (.const (.int .i64 0)), 3, none⟩] := vR rfl
@[push_cast] theorem vr56_8 : VR r56_8 [⟨some 52, .move (.tmp 7), 3, none⟩, ⟨some 53, .move (.tmp 5), 3, none⟩, ⟨some 54, .binOp .lss 3 (.tmp 52) (.tmp 53) 3, 4, none⟩] := vR rfl
@[push_cast] theorem vr56_10 : VR r56_10 [⟨some 57, .fieldAddr 28 (.tmp 3) 0, 0, none⟩, ⟨some 58, .load 25 (.tmp 57), 25, none⟩, ⟨some 59, .move (.tmp 7), 3, none⟩, ⟨some 60, .indexAddr 25 (.tmp 58) (.tmp 59), 0, none⟩, ⟨some 61, .load 60 (.tmp 60), 60, none⟩, ⟨some 8, .alloc 60, 0, none⟩, ⟨none, .store 60 (.tmp 8) (.tmp 61), 0, none⟩] := vR rfl
@[push_cast] theorem vr56_11 : VR r56_11 [⟨some 62, .fieldAddr 60 (.tmp 8) 1, 0, none⟩, ⟨some 63, .load 3 (.tmp 62), 3, none⟩, ⟨some 64, .call ⟨.value (.func 84), #[.tmp 63], #[3]⟩, 4, none⟩, ⟨some 9, .assign (.tmp 64), 4, none⟩] := vR rfl
@[push_cast] theorem vr56_12 : VR r56_12 [⟨some 65, .fieldAddr 60 (.tmp 8) 0, 0, none⟩, ⟨some 66, .load 3 (.tmp 65), 3, none⟩, ⟨some 67, .call ⟨.value (.func 88), #[.tmp 66], #[3]⟩, 4, none⟩, ⟨some 10, .assign (.tmp 67), 4, none⟩] := vR rfl
@[push_cast] theorem vr56_13 : VR r56_13 [⟨some 68, .move (.tmp 9), 4, none⟩, ⟨some 69, .unOp .not 4 (.tmp 68), 4, none⟩, ⟨some 70, .move (.tmp 69), 4, none⟩, ⟨some 71, .move (.tmp 10), 4, some (70, false)⟩, ⟨some 72, .unOp .not 4 (.tmp 71), 4, some (70, false)⟩, ⟨some 73, .pick (.tmp 70) (.const (.bool true)) (.tmp 72), 4, none⟩] := vR rfl
@[push_cast] theorem vr56_14 : VR r56_14 [⟨some 4, .assign (.const (.int .i64 172)), 53, none⟩] := vR rfl
@[push_cast] theorem vr56_15 : VR r56_15 [⟨some 74, .move (.tmp 7), 3, none⟩, ⟨some 75, .binOp .eql 3 (.tmp 74) (.const (.int .i64 0)) 3, 4, none⟩] := vR rfl
@[push_cast] theorem vr56_16 : VR r56_16 [⟨some 76, .fieldAddr 28 (.tmp 3) 0, 0, none⟩, ⟨some 77, .load 25 (.tmp 76), 25, none⟩, ⟨some 78, .move (.tmp 7), 3, none⟩, ⟨some 79, .binOp .sub 3 (.tmp 78) (.const (.int .i64 1)) 3, 3, none⟩, ⟨some 80, .indexAddr 25 (.tmp 77) (.tmp 79), 0, none⟩, ⟨some 81, .load 60 (.tmp 80), 60, none⟩, ⟨some 11, .alloc 60, 0, none⟩, ⟨none, .store 60 (.tmp 11) (.tmp 81), 0, none⟩] := vR rfl
@[push_cast] theorem vr56_17 : VR r56_17 [⟨some 82, .fieldAddr 60 (.tmp 8) 1, 0, none⟩, ⟨some 83, .load 3 (.tmp 82), 3, none⟩, ⟨some 84, .fieldAddr 60 (.tmp 11) 1, 0, none⟩, ⟨some 85, .load 3 (.tmp 84), 3, none⟩, ⟨some 86, .call ⟨.value (.func 89), #[.tmp 83, .tmp 85], #[3, 3]⟩, 4, none⟩, ⟨some 12, .assign (.tmp 86), 4, none⟩] := vR rfl
@[push_cast] theorem vr56_18 : VR r56_18 [⟨some 87, .fieldAddr 60 (.tmp 8) 2, 0, none⟩, ⟨some 88, .load 22 (.tmp 87), 22, none⟩, ⟨some 89, .fieldAddr 60 (.tmp 11) 2, 0, none⟩, ⟨some 90, .load 22 (.tmp 89), 22, none⟩, ⟨some 91, .call ⟨.value (.func 90), #[.tmp 88, .tmp 90], #[22, 22]⟩, 4, none⟩, ⟨some 13, .assign (.tmp 91), 4, none⟩] := vR rfl
@[push_cast] theorem vr56_19 : VR r56_19 [⟨some 92, .move (.tmp 12), 4, none⟩, ⟨some 93, .unOp .not 4 (.tmp 92), 4, none⟩, ⟨some 94, .move (.tmp 93), 4, none⟩, ⟨some 95, .move (.tmp 13), 4, some (94, false)⟩, ⟨some 96, .unOp .not 4 (.tmp 95), 4, some (94, false)⟩, ⟨some 97, .pick (.tmp 94) (.const (.bool true)) (.tmp 96), 4, none⟩, ⟨some 98, .move (.tmp 97), 4, none⟩, ⟨some 99, .fieldAddr 60 (.tmp 8) 0, 0, some (98, false)⟩, ⟨some 100, .load 3 (.tmp 99), 3, some (98, false)⟩, ⟨some 101, .fieldAddr 60 (.tmp 11) 0, 0, some (98, false)⟩, ⟨some 102, .load 3 (.tmp 101), 3, some (98, false)⟩, ⟨some 103, .binOp .leq 3 (.tmp 100) (.tmp 102) 3, 4, some (98, false)⟩, ⟨some 104, .pick (.tmp 98) (.const (.bool true)) (.tmp 103), 4, none⟩] := vR rfl
@[push_cast] theorem vr56_20 : VR r56_20 [⟨some 4, .assign (.const (.int .i64 172)), 53, none⟩] := vR rfl
@[push_cast] theorem vr56_9 : VR r56_9 [⟨some 55, .move (.tmp 7), 3, none⟩, ⟨some 56, .binOp .add 3 (.tmp 55) (.const (.int .i64 1)) 3, 3, none⟩, ⟨some 7, .assign (.tmp 56), 3, none⟩] := vR rfl
@[push_cast] theorem vr56_21 : VR r56_21 [⟨some 14, .assign (.const (.int .i64 0)), 3, none⟩] := vR rfl
@[push_cast] theorem vr56_22 : VR r56_22 [⟨some 105, .move (.tmp 14), 3, none⟩, ⟨some 106, .fieldAddr 28 (.tmp 3) 1, 0, none⟩, ⟨some 107, .load 26 (.tmp 106), 26, none⟩, ⟨some 108, .call ⟨.builtin .len, #[.tmp 107], #[26]⟩, 3, none⟩, ⟨some 109, .binOp .lss 3 (.tmp 105) (.tmp 108) 3, 4, none⟩] := vR rfl
@[push_cast] theorem vr56_24 : VR r56_24 [⟨some 112, .fieldAddr 28 (.tmp 3) 1, 0, none⟩, ⟨some 113, .load 26 (.tmp 112), 26, none⟩, ⟨some 114, .move (.tmp 14), 3, none⟩, ⟨some 115, .indexAddr 26 (.tmp 113) (.tmp 114), 0, none⟩, ⟨some 116, .load 51 (.tmp 115), 51, none⟩, ⟨some 15, .alloc 51, 0, none⟩, ⟨none, .store 51 (.tmp 15) (.tmp 116), 0, none⟩] := vR rfl
@[push_cast] theorem vr56_25 : VR r56_25 [⟨some 117, .fieldAddr 51 (.tmp 15) 0, 0, none⟩, ⟨some 118, .load 3 (.tmp 117), 3, none⟩, ⟨some 119, .binOp .lss 3 (.tmp 118) (.const (.int .i64 0)) 3, 4, none⟩, ⟨some 120, .move (.tmp 119), 4, none⟩, ⟨some 121, .fieldAddr 51 (.tmp 15) 0, 0, some (120, false)⟩, ⟨some 122, .load 3 (.tmp 121), 3, some (120, false)⟩, ⟨some 123, .move (.tmp 5), 3, some (120, false)⟩, ⟨some 124, .binOp .geq 3 (.tmp 122) (.tmp 123) 3, 4, some (120, false)⟩, ⟨some 125, .pick (.tmp 120) (.const (.bool true)) (.tmp 124), 4, none⟩] := vR rfl
@[push_cast] theorem vr56_26 : VR r56_26 [⟨some 4, .assign (.const (.int .i64 172)), 53, none⟩] := vR rfl
@[push_cast] theorem vr56_27 : vc Try.prog (.draw r56_27 3) Q ds σ w = drawn Try.prog [(⟨some 126, .fieldAddr 51 (.tmp 15) 1, 0, none⟩, [15]), (⟨some 127, .load 3 (.tmp 126), 3, none⟩, [126]), (⟨some 128, .fieldAddr 28 (.tmp 3) 0, 0, none⟩, [3]), (⟨some 129, .load 25 (.tmp 128), 25, none⟩, [128]), (⟨some 130, .fieldAddr 51 (.tmp 15) 0, 0, none⟩, [15]), (⟨some 131, .load 3 (.tmp 130), 3, none⟩, [130]), (⟨some 132, .indexAddr 25 (.tmp 129) (.tmp 131), 0, none⟩, [129, 131]), (⟨some 133, .fieldAddr 60 (.tmp 132) 1, 0, none⟩, [132]), (⟨some 134, .load 3 (.tmp 133), 3, none⟩, [133]), (⟨some 135, .call ⟨.value (.func 89), #[.tmp 127, .tmp 134], #[3, 3]⟩, 4, none⟩, [127, 134]), (⟨some 16, .assign (.tmp 135), 4, none⟩, [135])] 3 (Q .normal ds) σ w := mk_eq rfl
@[push_cast] theorem vr56_28 : vc Try.prog (.draw r56_28 3) Q ds σ w = drawn Try.prog [(⟨some 136, .fieldAddr 51 (.tmp 15) 2, 0, none⟩, [15]), (⟨some 137, .load 22 (.tmp 136), 22, none⟩, [136]), (⟨some 138, .fieldAddr 28 (.tmp 3) 0, 0, none⟩, [3]), (⟨some 139, .load 25 (.tmp 138), 25, none⟩, [138]), (⟨some 140, .fieldAddr 51 (.tmp 15) 0, 0, none⟩, [15]), (⟨some 141, .load 3 (.tmp 140), 3, none⟩, [140]), (⟨some 142, .indexAddr 25 (.tmp 139) (.tmp 141), 0, none⟩, [139, 141]), (⟨some 143, .fieldAddr 60 (.tmp 142) 2, 0, none⟩, [142]), (⟨some 144, .load 22 (.tmp 143), 22, none⟩, [143]), (⟨some 145, .call ⟨.value (.func 90), #[.tmp 137, .tmp 144], #[22, 22]⟩, 4, none⟩, [137, 144]), (⟨some 17, .assign (.tmp 145), 4, none⟩, [145])] 3 (Q .normal ds) σ w := mk_eq rfl
@[push_cast] theorem vr56_29 : VR r56_29 [⟨some 146, .move (.tmp 16), 4, none⟩, ⟨some 147, .unOp .not 4 (.tmp 146), 4, none⟩, ⟨some 148, .move (.tmp 147), 4, none⟩, ⟨some 149, .move (.tmp 17), 4, some (148, false)⟩, ⟨some 150, .unOp .not 4 (.tmp 149), 4, some (148, false)⟩, ⟨some 151, .pick (.tmp 148) (.const (.bool true)) (.tmp 150), 4, none⟩] := vR rfl
@[push_cast] theorem vr56_30 : VR r56_30 [⟨some 4, .assign (.const (.int .i64 172)), 53, none⟩] := vR rfl
@[push_cast] theorem vr56_23 : VR r56_23 [⟨some 110, .move (.tmp 14), 3, none⟩, ⟨some 111, .binOp .add 3 (.tmp 110) (.const (.int .i64 1)) 3, 3, none⟩, ⟨some 14, .assign (.tmp 111), 3, none⟩] := vR rfl
@[push_cast] theorem vr56_31 : VR r56_31 [⟨some 152, .fieldAddr 28 (.tmp 3) 2, 0, none⟩, ⟨some 153, .load 3 (.tmp 152), 3, none⟩, ⟨some 154, .call ⟨.value (.func 88), #[.tmp 153], #[3]⟩, 4, none⟩, ⟨some 18, .assign (.tmp 154), 4, none⟩] := vR rfl
@[push_cast] theorem vr56_32 : vc Try.prog (.draw r56_32 3) Q ds σ w = drawn Try.prog [(⟨some 155, .move (.tmp 18), 4, none⟩, [18]), (⟨some 156, .unOp .not 4 (.tmp 155), 4, none⟩, [155]), (⟨some 157, .move (.tmp 156), 4, none⟩, [156]), (⟨some 158, .fieldAddr 28 (.tmp 3) 2, 0, some (157, false)⟩, [3, 157]), (⟨some 159, .load 3 (.tmp 158), 3, some (157, false)⟩, [158, 157]), (⟨some 160, .fieldAddr 28 (.tmp 3) 0, 0, some (157, false)⟩, [3, 157]), (⟨some 161, .load 25 (.tmp 160), 25, some (157, false)⟩, [160, 157]), (⟨some 162, .move (.tmp 5), 3, some (157, false)⟩, [5, 157]), (⟨some 163, .binOp .sub 3 (.tmp 162) (.const (.int .i64 1)) 3, 3, some (157, false)⟩, [162, 157]), (⟨some 164, .indexAddr 25 (.tmp 161) (.tmp 163), 0, some (157, false)⟩, [161, 163, 157]), (⟨some 165, .fieldAddr 60 (.tmp 164) 0, 0, some (157, false)⟩, [164, 157]), (⟨some 166, .load 3 (.tmp 165), 3, some (157, false)⟩, [165, 157]), (⟨some 167, .binOp .leq 3 (.tmp 159) (.tmp 166) 3, 4, some (157, false)⟩, [159, 166, 157]), (⟨some 168, .pick (.tmp 157) (.const (.bool true)) (.tmp 167), 4, none⟩, [157, 167])] 3 (Q .normal ds) σ w := mk_eq rfl
@[push_cast] theorem vr56_33 : VR r56_33 [⟨some 4, .assign (.const (.int .i64 172)), 53, none⟩] := vR rfl
@[push_cast] theorem vr56_34 : VR r56_34 [⟨some 4, .assign (.const (.int .i64 0)), 53, none⟩] := vR rfl
/-! 57 columbary/columbaryref20.within (params #[3, 3, 3], results #[(.tmp 6)], 15 slots) -/
def r57_0 : List VOp :=
  [⟨some 6, .assign (.const (.bool false)), 4, none⟩]
def r57_1 : List VOp :=
  [mv 7 0 3,
   mv 8 1 3,
   ⟨some 9, .binOp .geq 3 (.tmp 7) (.tmp 8) 3, 4, none⟩,
   mv 10 9 4,
   ⟨some 11, .move (.tmp 0), 3, some (10, true)⟩,
   ⟨some 12, .move (.tmp 2), 3, some (10, true)⟩,
   ⟨some 13, .binOp .leq 3 (.tmp 11) (.tmp 12) 3, 4, some (10, true)⟩,
   ⟨some 14, .pick (.tmp 10) (.tmp 13) (.const (.bool false)), 4, none⟩,
   asg 6 14 4]
def B57 : VC :=
  (.seq (.region r57_0) (.seq (.region r57_1) .ret))
theorem code57 : ∃ c, Try.f57.body = some c ∧ abs Try.f57.ntmps c = B57 := ⟨_, rfl, by kernel_rfl⟩
theorem hb57 : HasBody Try.prog 57 := hasBody_of Try.func57 (by kernel_rfl)
theorem res57 : Try.f57.results = #[(.tmp 6)] := rfl
theorem enter57 {w : World} {R : Value → World → Prop} (x0 x1 x2 : Value) (h : vc Try.prog B57 (retK Try.prog #[(.tmp 6)] R) [] (initEnv [x0, x1, x2] 0) w) : FnC Try.prog 57 #[x0, x1, x2] w R := by
  obtain ⟨c, h1, h2⟩ := code57
  exact hb57.fn (ret_of_vc mixed Try.func57 h1 (Nat.le_of_ble_eq_true rfl) B57 h2 h)
@[push_cast] theorem vr57_0 : VR r57_0 [⟨some 6, .assign (.const (.bool false)), 4, none⟩] := vR rfl
@[push_cast] theorem vr57_1 : VR r57_1 [⟨some 7, .move (.tmp 0), 3, none⟩, ⟨some 8, .move (.tmp 1), 3, none⟩, ⟨some 9, .binOp .geq 3 (.tmp 7) (.tmp 8) 3, 4, none⟩, ⟨some 10, .move (.tmp 9), 4, none⟩, ⟨some 11, .move (.tmp 0), 3, some (10, true)⟩, ⟨some 12, .move (.tmp 2), 3, some (10, true)⟩, ⟨some 13, .binOp .leq 3 (.tmp 11) (.tmp 12) 3, 4, some (10, true)⟩, ⟨some 14, .pick (.tmp 10) (.tmp 13) (.const (.bool false)), 4, none⟩, ⟨some 6, .assign (.tmp 14), 4, none⟩] := vR rfl
/-! 58 columbary/columbaryref20.files (params #[34], results #[(.tmp 2)], 103 slots) -/
def W58_0 : List Nat := [2, 3, 4, 5, 7, 8, 9, 10, 11, 12, 13, 14, 15, 16, 17, 18, 19, 20, 21, 22, 23, 24, 25, 26, 27, 28, 29, 30, 31, 32, 33, 34, 35, 36, 37, 38, 39, 40, 41, 42, 43, 44, 45, 46, 47, 48, 49, 50, 51, 52, 53, 54, 55, 56, 57, 58, 59, 60, 61, 62, 63, 64, 65, 66, 67, 68, 69, 70, 71, 72, 73, 74, 75, 76, 77, 78, 79, 80, 81, 82]
@[push_cast] theorem W58_0_def : W58_0 = [2, 3, 4, 5, 7, 8, 9, 10, 11, 12, 13, 14, 15, 16, 17, 18, 19, 20, 21, 22, 23, 24, 25, 26, 27, 28, 29, 30, 31, 32, 33, 34, 35, 36, 37, 38, 39, 40, 41, 42, 43, 44, 45, 46, 47, 48, 49, 50, 51, 52, 53, 54, 55, 56, 57, 58, 59, 60, 61, 62, 63, 64, 65, 66, 67, 68, 69, 70, 71, 72, 73, 74, 75, 76, 77, 78, 79, 80, 81, 82] := mk_eq rfl
def W58_1 : List Nat := [2, 5, 35, 36, 37, 38, 39, 40, 41, 42, 43, 44, 45, 46, 47, 48, 49, 50, 51, 52, 53, 54, 55, 56, 57, 58, 59, 60, 61, 62, 63, 64, 65, 66, 67, 68, 69, 70, 71, 72, 73, 74, 75, 76, 77, 78, 79, 80, 81, 82]
@[push_cast] theorem W58_1_def : W58_1 = [2, 5, 35, 36, 37, 38, 39, 40, 41, 42, 43, 44, 45, 46, 47, 48, 49, 50, 51, 52, 53, 54, 55, 56, 57, 58, 59, 60, 61, 62, 63, 64, 65, 66, 67, 68, 69, 70, 71, 72, 73, 74, 75, 76, 77, 78, 79, 80, 81, 82] := mk_eq rfl
def r58_0 : List VOp :=
  [⟨some 1, .box 34 (.tmp 0), 0, none⟩,
   ⟨some 2, .assign (.const (.bool false)), 4, none⟩]
def r58_1 : List VOp :=
  [⟨some 3, .assign (.const (.int .i64 0)), 3, none⟩]
def r58_2 : List VOp :=
  [mv 7 3 3,
   fad 8 34 1 5,
   lda 9 32 8,
   ⟨some 10, .call ⟨.builtin .len, #[.tmp 9], #[32]⟩, 3, none⟩,
   ⟨some 11, .binOp .lss 3 (.tmp 7) (.tmp 10) 3, 4, none⟩]
def r58_4 : List VOp :=
  [fad 14 34 1 1,
   lda 15 28 14,
   fad 16 34 1 5,
   lda 17 32 16,
   mv 18 3 3,
   iad 19 32 17 18,
   lda 20 57 19,
   ⟨some 21, .call ⟨.value (.func 91), #[.tmp 15, .tmp 20], #[28, 57]⟩, 4, none⟩,
   asg 4 21 4]
def r58_5 : List VOp :=
  [mv 22 4 4,
   ⟨some 23, .unOp .not 4 (.tmp 22), 4, none⟩,
   mv 24 23 4,
   ⟨some 25, .fieldAddr 34 (.tmp 1) 5, 0, some (24, false)⟩,
   ⟨some 26, .load 32 (.tmp 25), 32, some (24, false)⟩,
   ⟨some 27, .move (.tmp 3), 3, some (24, false)⟩,
   ⟨some 28, .indexAddr 32 (.tmp 26) (.tmp 27), 0, some (24, false)⟩,
   ⟨some 29, .fieldAddr 57 (.tmp 28) 0, 0, some (24, false)⟩,
   ⟨some 30, .load 9 (.tmp 29), 9, some (24, false)⟩,
   ⟨some 31, .fieldAddr 34 (.tmp 1) 6, 0, some (24, false)⟩,
   ⟨some 32, .load 9 (.tmp 31), 9, some (24, false)⟩,
   ⟨some 33, .binOp .eql 9 (.tmp 30) (.tmp 32) 9, 4, some (24, false)⟩,
   ⟨some 34, .pick (.tmp 24) (.const (.bool true)) (.tmp 33), 4, none⟩]
def r58_6 : List VOp :=
  [⟨some 2, .assign (.const (.bool false)), 4, none⟩]
def r58_7 : List VOp :=
  [⟨some 5, .assign (.const (.int .i64 0)), 3, none⟩]
def r58_8 : List VOp :=
  [mv 35 5 3,
   mv 36 3 3,
   ⟨some 37, .binOp .lss 3 (.tmp 35) (.tmp 36) 3, 4, none⟩]
def r58_10 : List VOp :=
  [fad 40 34 1 5,
   lda 41 32 40,
   mv 42 5 3,
   iad 43 32 41 42,
   fad 44 57 43 0,
   lda 45 9 44,
   fad 46 34 1 5,
   lda 47 32 46,
   mv 48 3 3,
   iad 49 32 47 48,
   fad 50 57 49 0,
   lda 51 9 50,
   ⟨some 52, .binOp .eql 9 (.tmp 45) (.tmp 51) 9, 4, none⟩,
   mv 53 52 4,
   ⟨some 54, .fieldAddr 34 (.tmp 1) 5, 0, some (53, false)⟩,
   ⟨some 55, .load 32 (.tmp 54), 32, some (53, false)⟩,
   ⟨some 56, .move (.tmp 5), 3, some (53, false)⟩,
   ⟨some 57, .indexAddr 32 (.tmp 55) (.tmp 56), 0, some (53, false)⟩,
   ⟨some 58, .fieldAddr 57 (.tmp 57) 1, 0, some (53, false)⟩,
   ⟨some 59, .load 3 (.tmp 58), 3, some (53, false)⟩,
   ⟨some 60, .fieldAddr 34 (.tmp 1) 5, 0, some (53, false)⟩,
   ⟨some 61, .load 32 (.tmp 60), 32, some (53, false)⟩,
   ⟨some 62, .move (.tmp 3), 3, some (53, false)⟩,
   ⟨some 63, .indexAddr 32 (.tmp 61) (.tmp 62), 0, some (53, false)⟩,
   ⟨some 64, .fieldAddr 57 (.tmp 63) 1, 0, some (53, false)⟩,
   ⟨some 65, .load 3 (.tmp 64), 3, some (53, false)⟩,
   ⟨some 66, .binOp .eql 3 (.tmp 59) (.tmp 65) 3, 4, some (53, false)⟩,
   ⟨some 67, .move (.tmp 66), 4, some (53, false)⟩,
   ⟨some 68, .fieldAddr 34 (.tmp 1) 5, 0, some (67, true)⟩,
   ⟨some 69, .load 32 (.tmp 68), 32, some (67, true)⟩,
   ⟨some 70, .move (.tmp 5), 3, some (67, true)⟩,
   ⟨some 71, .indexAddr 32 (.tmp 69) (.tmp 70), 0, some (67, true)⟩,
   ⟨some 72, .fieldAddr 57 (.tmp 71) 2, 0, some (67, true)⟩,
   ⟨some 73, .load 3 (.tmp 72), 3, some (67, true)⟩,
   ⟨some 74, .fieldAddr 34 (.tmp 1) 5, 0, some (67, true)⟩,
   ⟨some 75, .load 32 (.tmp 74), 32, some (67, true)⟩,
   ⟨some 76, .move (.tmp 3), 3, some (67, true)⟩,
   ⟨some 77, .indexAddr 32 (.tmp 75) (.tmp 76), 0, some (67, true)⟩,
   ⟨some 78, .fieldAddr 57 (.tmp 77) 2, 0, some (67, true)⟩,
   ⟨some 79, .load 3 (.tmp 78), 3, some (67, true)⟩,
   ⟨some 80, .binOp .eql 3 (.tmp 73) (.tmp 79) 3, 4, some (67, true)⟩,
   ⟨some 81, .pick (.tmp 67) (.tmp 80) (.const (.bool false)), 4, some (53, false)⟩,
   ⟨some 82, .pick (.tmp 53) (.const (.bool true)) (.tmp 81), 4, none⟩]
def r58_11 : List VOp :=
  [⟨some 2, .assign (.const (.bool false)), 4, none⟩]
def r58_9 : List VOp :=
  [mv 38 5 3,
   ⟨some 39, .binOp .add 3 (.tmp 38) (.const (.int .i64 1)) 3, 3, none⟩,
   asg 5 39 3]
def r58_3 : List VOp :=
  [mv 12 3 3,
   ⟨some 13, .binOp .add 3 (.tmp 12) (.const (.int .i64 1)) 3, 3, none⟩,
   asg 3 13 3]
def r58_12 : List VOp :=
  [fad 83 34 1 6,
   lda 84 9 83,
   ⟨some 85, .call ⟨.value (.func 92), #[.tmp 84], #[9]⟩, 4, none⟩,
   asg 6 85 4]
def r58_13 : List VOp :=
  [fad 86 34 1 5,
   lda 87 32 86,
   ⟨some 88, .call ⟨.builtin .len, #[.tmp 87], #[32]⟩, 3, none⟩,
   ⟨some 89, .binOp .leq 3 (.tmp 88) (.const (.int .i64 40)) 3, 4, none⟩,
   mv 90 89 4,
   ⟨some 91, .move (.tmp 6), 4, some (90, true)⟩,
   ⟨some 92, .pick (.tmp 90) (.tmp 91) (.const (.bool false)), 4, none⟩,
   mv 93 92 4,
   ⟨some 94, .fieldAddr 34 (.tmp 1) 6, 0, some (93, true)⟩,
   ⟨some 95, .load 9 (.tmp 94), 9, some (93, true)⟩,
   ⟨some 96, .binOp .neq 9 (.tmp 95) (.const (.string { data := #[109, 97, 110, 105, 102, 101, 115, 116] })) 9, 4, some (93, true)⟩,
   ⟨some 97, .pick (.tmp 93) (.tmp 96) (.const (.bool false)), 4, none⟩,
   mv 98 97 4,
   ⟨some 99, .fieldAddr 34 (.tmp 1) 6, 0, some (98, true)⟩,
   ⟨some 100, .load 9 (.tmp 99), 9, some (98, true)⟩,
   ⟨some 101, .binOp .neq 9 (.tmp 100) (.const (.string { data := #[109, 97, 110, 105, 102, 101, 115, 116, 46, 110, 101, 119] })) 9, 4, some (98, true)⟩,
   ⟨some 102, .pick (.tmp 98) (.tmp 101) (.const (.bool false)), 4, none⟩,
   asg 2 102 4]
def B58 : VC :=
  (.seq (.region r58_0) (.seq (.seq (.region r58_1) (.block 0 (.loop (.seq (.seq (.region r58_2) (.cond (.tmp 11) .skip (.exit 0))) (.seq (.block 1 (.seq (.draw r58_4 3) (.seq (.seq (.draw r58_5 3) (.cond (.tmp 34) (.seq (.region r58_6) .ret) .skip)) (.seq (.region r58_7) (.block 2 (.loop (.seq (.seq (.region r58_8) (.cond (.tmp 37) .skip (.exit 2))) (.seq (.block 3 (.seq (.draw r58_10 4) (.cond (.tmp 82) (.seq (.region r58_11) .ret) .skip))) (.region r58_9))))))))) (.region r58_3)))))) (.seq (.region r58_12) (.seq (.region r58_13) .ret))))
theorem code58 : ∃ c, Try.f58.body = some c ∧ abs Try.f58.ntmps c = B58 := ⟨_, rfl, by kernel_rfl⟩
theorem hb58 : HasBody Try.prog 58 := hasBody_of Try.func58 (by kernel_rfl)
theorem res58 : Try.f58.results = #[(.tmp 2)] := rfl
theorem enter58 {w : World} {R : Value → World → Prop} (x0 : Value) (h : vc Try.prog B58 (retK Try.prog #[(.tmp 2)] R) [] (initEnv [x0] 0) w) : FnC Try.prog 58 #[x0] w R := by
  obtain ⟨c, h1, h2⟩ := code58
  exact hb58.fn (ret_of_vc mixed Try.func58 h1 (Nat.le_of_ble_eq_true rfl) B58 h2 h)
@[push_cast] theorem vr58_0 : VR r58_0 [⟨some 1, .box 34 (.tmp 0), 0, none⟩, ⟨some 2, .assign (.const (.bool false)), 4, none⟩] := vR rfl
@[push_cast] theorem vr58_1 : VR r58_1 [⟨some 3, .assign (.const (.int .i64 0)), 3, none⟩] := vR rfl
@[push_cast] theorem vr58_2 : VR r58_2 [⟨some 7, .move (.tmp 3), 3, none⟩, ⟨some 8, .fieldAddr 34 (.tmp 1) 5, 0, none⟩, ⟨some 9, .load 32 (.tmp 8), 32, none⟩, ⟨some 10, .call ⟨.builtin .len, #[.tmp 9], #[32]⟩, 3, none⟩, ⟨some 11, .binOp .lss 3 (.tmp 7) (.tmp 10) 3, 4, none⟩] := vR rfl
@[push_cast] theorem vr58_4 : vc Try.prog (.draw r58_4 3) Q ds σ w = drawn Try.prog [(⟨some 14, .fieldAddr 34 (.tmp 1) 1, 0, none⟩, [1]), (⟨some 15, .load 28 (.tmp 14), 28, none⟩, [14]), (⟨some 16, .fieldAddr 34 (.tmp 1) 5, 0, none⟩, [1]), (⟨some 17, .load 32 (.tmp 16), 32, none⟩, [16]), (⟨some 18, .move (.tmp 3), 3, none⟩, [3]), (⟨some 19, .indexAddr 32 (.tmp 17) (.tmp 18), 0, none⟩, [17, 18]), (⟨some 20, .load 57 (.tmp 19), 57, none⟩, [19]), (⟨some 21, .call ⟨.value (.func 91), #[.tmp 15, .tmp 20], #[28, 57]⟩, 4, none⟩, [15, 20]), (⟨some 4, .assign (.tmp 21), 4, none⟩, [21])] 3 (Q .normal ds) σ w := mk_eq rfl
@[push_cast] theorem vr58_5 : vc Try.prog (.draw r58_5 3) Q ds σ w = drawn Try.prog [(⟨some 22, .move (.tmp 4), 4, none⟩, [4]), (⟨some 23, .unOp .not 4 (.tmp 22), 4, none⟩, [22]), (⟨some 24, .move (.tmp 23), 4, none⟩, [23]), (⟨some 25, .fieldAddr 34 (.tmp 1) 5, 0, some (24, false)⟩, [1, 24]), (⟨some 26, .load 32 (.tmp 25), 32, some (24, false)⟩, [25, 24]), (⟨some 27, .move (.tmp 3), 3, some (24, false)⟩, [3, 24]), (⟨some 28, .indexAddr 32 (.tmp 26) (.tmp 27), 0, some (24, false)⟩, [26, 27, 24]), (⟨some 29, .fieldAddr 57 (.tmp 28) 0, 0, some (24, false)⟩, [28, 24]), (⟨some 30, .load 9 (.tmp 29), 9, some (24, false)⟩, [29, 24]), (⟨some 31, .fieldAddr 34 (.tmp 1) 6, 0, some (24, false)⟩, [1, 24]), (⟨some 32, .load 9 (.tmp 31), 9, some (24, false)⟩, [31, 24]), (⟨some 33, .binOp .eql 9 (.tmp 30) (.tmp 32) 9, 4, some (24, false)⟩, [30, 32, 24]), (⟨some 34, .pick (.tmp 24) (.const (.bool true)) (.tmp 33), 4, none⟩, [24, 33])] 3 (Q .normal ds) σ w := mk_eq rfl
@[push_cast] theorem vr58_6 : VR r58_6 [⟨some 2, .assign (.const (.bool false)), 4, none⟩] := vR rfl
@[push_cast] theorem vr58_7 : VR r58_7 [⟨some 5, .assign (.const (.int .i64 0)), 3, none⟩] := vR rfl
@[push_cast] theorem vr58_8 : VR r58_8 [⟨some 35, .move (.tmp 5), 3, none⟩, ⟨some 36, .move (.tmp 3), 3, none⟩, ⟨some 37, .binOp .lss 3 (.tmp 35) (.tmp 36) 3, 4, none⟩] := vR rfl
@[push_cast] theorem vr58_10 : vc Try.prog (.draw r58_10 4) Q ds σ w = drawn Try.prog [(⟨some 40, .fieldAddr 34 (.tmp 1) 5, 0, none⟩, [1]), (⟨some 41, .load 32 (.tmp 40), 32, none⟩, [40]), (⟨some 42, .move (.tmp 5), 3, none⟩, [5]), (⟨some 43, .indexAddr 32 (.tmp 41) (.tmp 42), 0, none⟩, [41, 42]), (⟨some 44, .fieldAddr 57 (.tmp 43) 0, 0, none⟩, [43]), (⟨some 45, .load 9 (.tmp 44), 9, none⟩, [44]), (⟨some 46, .fieldAddr 34 (.tmp 1) 5, 0, none⟩, [1]), (⟨some 47, .load 32 (.tmp 46), 32, none⟩, [46]), (⟨some 48, .move (.tmp 3), 3, none⟩, [3]), (⟨some 49, .indexAddr 32 (.tmp 47) (.tmp 48), 0, none⟩, [47, 48]), (⟨some 50, .fieldAddr 57 (.tmp 49) 0, 0, none⟩, [49]), (⟨some 51, .load 9 (.tmp 50), 9, none⟩, [50]), (⟨some 52, .binOp .eql 9 (.tmp 45) (.tmp 51) 9, 4, none⟩, [45, 51]), (⟨some 53, .move (.tmp 52), 4, none⟩, [52]), (⟨some 54, .fieldAddr 34 (.tmp 1) 5, 0, some (53, false)⟩, [1, 53]), (⟨some 55, .load 32 (.tmp 54), 32, some (53, false)⟩, [54, 53]), (⟨some 56, .move (.tmp 5), 3, some (53, false)⟩, [5, 53]), (⟨some 57, .indexAddr 32 (.tmp 55) (.tmp 56), 0, some (53, false)⟩, [55, 56, 53]), (⟨some 58, .fieldAddr 57 (.tmp 57) 1, 0, some (53, false)⟩, [57, 53]), (⟨some 59, .load 3 (.tmp 58), 3, some (53, false)⟩, [58, 53]), (⟨some 60, .fieldAddr 34 (.tmp 1) 5, 0, some (53, false)⟩, [1, 53]), (⟨some 61, .load 32 (.tmp 60), 32, some (53, false)⟩, [60, 53]), (⟨some 62, .move (.tmp 3), 3, some (53, false)⟩, [3, 53]), (⟨some 63, .indexAddr 32 (.tmp 61) (.tmp 62), 0, some (53, false)⟩, [61, 62, 53]), (⟨some 64, .fieldAddr 57 (.tmp 63) 1, 0, some (53, false)⟩, [63, 53]), (⟨some 65, .load 3 (.tmp 64), 3, some (53, false)⟩, [64, 53]), (⟨some 66, .binOp .eql 3 (.tmp 59) (.tmp 65) 3, 4, some (53, false)⟩, [59, 65, 53]), (⟨some 67, .move (.tmp 66), 4, some (53, false)⟩, [66, 53]), (⟨some 68, .fieldAddr 34 (.tmp 1) 5, 0, some (67, true)⟩, [1, 67]), (⟨some 69, .load 32 (.tmp 68), 32, some (67, true)⟩, [68, 67]), (⟨some 70, .move (.tmp 5), 3, some (67, true)⟩, [5, 67]), (⟨some 71, .indexAddr 32 (.tmp 69) (.tmp 70), 0, some (67, true)⟩, [69, 70, 67]), (⟨some 72, .fieldAddr 57 (.tmp 71) 2, 0, some (67, true)⟩, [71, 67]), (⟨some 73, .load 3 (.tmp 72), 3, some (67, true)⟩, [72, 67]), (⟨some 74, .fieldAddr 34 (.tmp 1) 5, 0, some (67, true)⟩, [1, 67]), (⟨some 75, .load 32 (.tmp 74), 32, some (67, true)⟩, [74, 67]), (⟨some 76, .move (.tmp 3), 3, some (67, true)⟩, [3, 67]), (⟨some 77, .indexAddr 32 (.tmp 75) (.tmp 76), 0, some (67, true)⟩, [75, 76, 67]), (⟨some 78, .fieldAddr 57 (.tmp 77) 2, 0, some (67, true)⟩, [77, 67]), (⟨some 79, .load 3 (.tmp 78), 3, some (67, true)⟩, [78, 67]), (⟨some 80, .binOp .eql 3 (.tmp 73) (.tmp 79) 3, 4, some (67, true)⟩, [73, 79, 67]), (⟨some 81, .pick (.tmp 67) (.tmp 80) (.const (.bool false)), 4, some (53, false)⟩, [67, 80, 53]), (⟨some 82, .pick (.tmp 53) (.const (.bool true)) (.tmp 81), 4, none⟩, [53, 81])] 4 (Q .normal ds) σ w := mk_eq rfl
@[push_cast] theorem vr58_11 : VR r58_11 [⟨some 2, .assign (.const (.bool false)), 4, none⟩] := vR rfl
@[push_cast] theorem vr58_9 : VR r58_9 [⟨some 38, .move (.tmp 5), 3, none⟩, ⟨some 39, .binOp .add 3 (.tmp 38) (.const (.int .i64 1)) 3, 3, none⟩, ⟨some 5, .assign (.tmp 39), 3, none⟩] := vR rfl
@[push_cast] theorem vr58_3 : VR r58_3 [⟨some 12, .move (.tmp 3), 3, none⟩, ⟨some 13, .binOp .add 3 (.tmp 12) (.const (.int .i64 1)) 3, 3, none⟩, ⟨some 3, .assign (.tmp 13), 3, none⟩] := vR rfl
@[push_cast] theorem vr58_12 : VR r58_12 [⟨some 83, .fieldAddr 34 (.tmp 1) 6, 0, none⟩, ⟨some 84, .load 9 (.tmp 83), 9, none⟩, ⟨some 85, .call ⟨.value (.func 92), #[.tmp 84], #[9]⟩, 4, none⟩, ⟨some 6, .assign (.tmp 85), 4, none⟩] := vR rfl
@[push_cast] theorem vr58_13 : VR r58_13 [⟨some 86, .fieldAddr 34 (.tmp 1) 5, 0, none⟩, ⟨some 87, .load 32 (.tmp 86), 32, none⟩, ⟨some 88, .call ⟨.builtin .len, #[.tmp 87], #[32]⟩, 3, none⟩, ⟨some 89, .binOp .leq 3 (.tmp 88) (.const (.int .i64 40)) 3, 4, none⟩, ⟨some 90, .move (.tmp 89), 4, none⟩, ⟨some 91, .move (.tmp 6), 4, some (90, true)⟩, ⟨some 92, .pick (.tmp 90) (.tmp 91) (.const (.bool false)), 4, none⟩, ⟨some 93, .move (.tmp 92), 4, none⟩, ⟨some 94, .fieldAddr 34 (.tmp 1) 6, 0, some (93, true)⟩, ⟨some 95, .load 9 (.tmp 94), 9, some (93, true)⟩, ⟨some 96, .binOp .neq 9 (.tmp 95) (.const (.string { data := #[109, 97, 110, 105, 102, 101, 115, 116] })) 9, 4, some (93, true)⟩, ⟨some 97, .pick (.tmp 93) (.tmp 96) (.const (.bool false)), 4, none⟩, ⟨some 98, .move (.tmp 97), 4, none⟩, ⟨some 99, .fieldAddr 34 (.tmp 1) 6, 0, some (98, true)⟩, ⟨some 100, .load 9 (.tmp 99), 9, some (98, true)⟩, ⟨some 101, .binOp .neq 9 (.tmp 100) (.const (.string { data := #[109, 97, 110, 105, 102, 101, 115, 116, 46, 110, 101, 119] })) 9, 4, some (98, true)⟩, ⟨some 102, .pick (.tmp 98) (.tmp 101) (.const (.bool false)), 4, none⟩, ⟨some 2, .assign (.tmp 102), 4, none⟩] := vR rfl
/-! 88 columbary/columbaryref17.age (params #[3], results #[(.tmp 2)], 9 slots) -/
def r88_0 : List VOp :=
  [⟨some 2, .assign (.const (.bool false)), 4, none⟩]
def r88_1 : List VOp :=
  [mv 3 0 3,
   ⟨some 4, .binOp .geq 3 (.tmp 3) (.const (.int .i64 0)) 3, 4, none⟩,
   mv 5 4 4,
   ⟨some 6, .move (.tmp 0), 3, some (5, true)⟩,
   ⟨some 7, .binOp .leq 3 (.tmp 6) (.const (.int .i64 1099511627776)) 3, 4, some (5, true)⟩,
   ⟨some 8, .pick (.tmp 5) (.tmp 7) (.const (.bool false)), 4, none⟩,
   asg 2 8 4]
def B88 : VC :=
  (.seq (.region r88_0) (.seq (.region r88_1) .ret))
theorem code88 : ∃ c, Try.f88.body = some c ∧ abs Try.f88.ntmps c = B88 := ⟨_, rfl, by kernel_rfl⟩
theorem hb88 : HasBody Try.prog 88 := hasBody_of Try.func88 (by kernel_rfl)
theorem res88 : Try.f88.results = #[(.tmp 2)] := rfl
theorem enter88 {w : World} {R : Value → World → Prop} (x0 : Value) (h : vc Try.prog B88 (retK Try.prog #[(.tmp 2)] R) [] (initEnv [x0] 0) w) : FnC Try.prog 88 #[x0] w R := by
  obtain ⟨c, h1, h2⟩ := code88
  exact hb88.fn (ret_of_vc mixed Try.func88 h1 (Nat.le_of_ble_eq_true rfl) B88 h2 h)
@[push_cast] theorem vr88_0 : VR r88_0 [⟨some 2, .assign (.const (.bool false)), 4, none⟩] := vR rfl
@[push_cast] theorem vr88_1 : VR r88_1 [⟨some 3, .move (.tmp 0), 3, none⟩, ⟨some 4, .binOp .geq 3 (.tmp 3) (.const (.int .i64 0)) 3, 4, none⟩, ⟨some 5, .move (.tmp 4), 4, none⟩, ⟨some 6, .move (.tmp 0), 3, some (5, true)⟩, ⟨some 7, .binOp .leq 3 (.tmp 6) (.const (.int .i64 1099511627776)) 3, 4, some (5, true)⟩, ⟨some 8, .pick (.tmp 5) (.tmp 7) (.const (.bool false)), 4, none⟩, ⟨some 2, .assign (.tmp 8), 4, none⟩] := vR rfl
/-! 89 columbary/columbaryref11.Coarser (params #[3, 3], results #[(.tmp 4)], 21 slots) -/
def r89_0 : List VOp :=
  [⟨some 4, .assign (.const (.bool false)), 4, none⟩]
def r89_1 : List VOp :=
  [mv 7 0 3,
   ⟨some 8, .call ⟨.value (.func 84), #[.tmp 7], #[3]⟩, 4, none⟩,
   asg 5 8 4]
def r89_2 : List VOp :=
  [mv 9 1 3,
   ⟨some 10, .call ⟨.value (.func 84), #[.tmp 9], #[3]⟩, 4, none⟩,
   asg 6 10 4]
def r89_3 : List VOp :=
  [mv 11 5 4,
   mv 12 11 4,
   ⟨some 13, .move (.tmp 6), 4, some (12, true)⟩,
   ⟨some 14, .pick (.tmp 12) (.tmp 13) (.const (.bool false)), 4, none⟩,
   mv 15 14 4,
   ⟨some 16, .move (.tmp 0), 3, some (15, true)⟩,
   ⟨some 17, .move (.tmp 1), 3, some (15, true)⟩,
   ⟨some 18, .binOp .rem 3 (.tmp 16) (.tmp 17) 3, 3, some (15, true)⟩,
   ⟨some 19, .binOp .eql 3 (.tmp 18) (.const (.int .i64 0)) 3, 4, some (15, true)⟩,
   ⟨some 20, .pick (.tmp 15) (.tmp 19) (.const (.bool false)), 4, none⟩,
   asg 4 20 4]
def B89 : VC :=
  (.seq (.region r89_0) (.seq (.region r89_1) (.seq (.region r89_2) (.seq (.region r89_3) .ret))))
theorem code89 : ∃ c, Try.f89.body = some c ∧ abs Try.f89.ntmps c = B89 := ⟨_, rfl, by kernel_rfl⟩
theorem hb89 : HasBody Try.prog 89 := hasBody_of Try.func89 (by kernel_rfl)
theorem res89 : Try.f89.results = #[(.tmp 4)] := rfl
theorem enter89 {w : World} {R : Value → World → Prop} (x0 x1 : Value) (h : vc Try.prog B89 (retK Try.prog #[(.tmp 4)] R) [] (initEnv [x0, x1] 0) w) : FnC Try.prog 89 #[x0, x1] w R := by
  obtain ⟨c, h1, h2⟩ := code89
  exact hb89.fn (ret_of_vc mixed Try.func89 h1 (Nat.le_of_ble_eq_true rfl) B89 h2 h)
@[push_cast] theorem vr89_0 : VR r89_0 [⟨some 4, .assign (.const (.bool false)), 4, none⟩] := vR rfl
@[push_cast] theorem vr89_1 : VR r89_1 [⟨some 7, .move (.tmp 0), 3, none⟩, ⟨some 8, .call ⟨.value (.func 84), #[.tmp 7], #[3]⟩, 4, none⟩, ⟨some 5, .assign (.tmp 8), 4, none⟩] := vR rfl
@[push_cast] theorem vr89_2 : VR r89_2 [⟨some 9, .move (.tmp 1), 3, none⟩, ⟨some 10, .call ⟨.value (.func 84), #[.tmp 9], #[3]⟩, 4, none⟩, ⟨some 6, .assign (.tmp 10), 4, none⟩] := vR rfl
@[push_cast] theorem vr89_3 : VR r89_3 [⟨some 11, .move (.tmp 5), 4, none⟩, ⟨some 12, .move (.tmp 11), 4, none⟩, ⟨some 13, .move (.tmp 6), 4, some (12, true)⟩, ⟨some 14, .pick (.tmp 12) (.tmp 13) (.const (.bool false)), 4, none⟩, ⟨some 15, .move (.tmp 14), 4, none⟩, ⟨some 16, .move (.tmp 0), 3, some (15, true)⟩, ⟨some 17, .move (.tmp 1), 3, some (15, true)⟩, ⟨some 18, .binOp .rem 3 (.tmp 16) (.tmp 17) 3, 3, some (15, true)⟩, ⟨some 19, .binOp .eql 3 (.tmp 18) (.const (.int .i64 0)) 3, 4, some (15, true)⟩, ⟨some 20, .pick (.tmp 15) (.tmp 19) (.const (.bool false)), 4, none⟩, ⟨some 4, .assign (.tmp 20), 4, none⟩] := vR rfl
/-! 90 columbary/columbaryref10.Subset (params #[22, 22], results #[(.tmp 4)], 32 slots) -/
def W90_0 : List Nat := [4, 5, 6, 7, 8, 9, 10, 11, 12, 13, 14, 15, 16, 17, 18, 19, 20, 21, 22, 23, 24, 25, 26, 27, 28, 29, 30, 31]
@[push_cast] theorem W90_0_def : W90_0 = [4, 5, 6, 7, 8, 9, 10, 11, 12, 13, 14, 15, 16, 17, 18, 19, 20, 21, 22, 23, 24, 25, 26, 27, 28, 29, 30, 31] := mk_eq rfl
def r90_0 : List VOp :=
  [⟨some 4, .assign (.const (.bool false)), 4, none⟩]
def r90_1 : List VOp :=
  [⟨some 5, .assign (.const (.int .i64 (-1))), 3, none⟩]
def r90_2 : List VOp :=
  [⟨some 6, .assign (.const (.int .i64 0)), 3, none⟩]
def r90_3 : List VOp :=
  [mv 9 6 3,
   mv 10 0 22,
   ⟨some 11, .call ⟨.builtin .len, #[.tmp 10], #[22]⟩, 3, none⟩,
   ⟨some 12, .binOp .lss 3 (.tmp 9) (.tmp 11) 3, 4, none⟩]
def r90_5 : List VOp :=
  [mv 16 1 22,
   mv 17 0 22,
   mv 18 6 3,
   iad 19 22 17 18,
   lda 20 9 19,
   ⟨some 21, .call ⟨.value (.func 43), #[.tmp 16, .tmp 20], #[22, 9]⟩, 94, none⟩,
   mv 15 21 94,
   ext 22 15 0 3,
   ext 23 15 1 4,
   asg 7 22 3,
   asg 8 23 4]
def r90_6 : List VOp :=
  [mv 24 8 4,
   ⟨some 25, .unOp .not 4 (.tmp 24), 4, none⟩,
   mv 26 25 4,
   ⟨some 27, .move (.tmp 7), 3, some (26, false)⟩,
   ⟨some 28, .move (.tmp 5), 3, some (26, false)⟩,
   ⟨some 29, .binOp .leq 3 (.tmp 27) (.tmp 28) 3, 4, some (26, false)⟩,
   ⟨some 30, .pick (.tmp 26) (.const (.bool true)) (.tmp 29), 4, none⟩]
def r90_7 : List VOp :=
  [⟨some 4, .assign (.const (.bool false)), 4, none⟩]
def r90_8 : List VOp :=
  [mv 31 7 3,
   asg 5 31 3]
def r90_4 : List VOp :=
  [mv 13 6 3,
   ⟨some 14, .binOp .add 3 (.tmp 13) (.const (.int .i64 1)) 3, 3, none⟩,
   asg 6 14 3]
def r90_9 : List VOp :=
  [⟨some 4, .assign (.const (.bool true)), 4, none⟩]
def B90 : VC :=
  (.seq (.region r90_0) (.seq (.region r90_1) (.seq (.seq (.region r90_2) (.block 0 (.loop (.seq (.seq (.region r90_3) (.cond (.tmp 12) .skip (.exit 0))) (.seq (.block 1 (.seq (.region r90_5) (.seq (.seq (.region r90_6) (.cond (.tmp 30) (.seq (.region r90_7) .ret) .skip)) (.region r90_8)))) (.region r90_4)))))) (.seq (.region r90_9) .ret))))
theorem code90 : ∃ c, Try.f90.body = some c ∧ abs Try.f90.ntmps c = B90 := ⟨_, rfl, by kernel_rfl⟩
theorem hb90 : HasBody Try.prog 90 := hasBody_of Try.func90 (by kernel_rfl)
theorem res90 : Try.f90.results = #[(.tmp 4)] := rfl
theorem enter90 {w : World} {R : Value → World → Prop} (x0 x1 : Value) (h : vc Try.prog B90 (retK Try.prog #[(.tmp 4)] R) [] (initEnv [x0, x1] 0) w) : FnC Try.prog 90 #[x0, x1] w R := by
  obtain ⟨c, h1, h2⟩ := code90
  exact hb90.fn (ret_of_vc mixed Try.func90 h1 (Nat.le_of_ble_eq_true rfl) B90 h2 h)
@[push_cast] theorem vr90_0 : VR r90_0 [⟨some 4, .assign (.const (.bool false)), 4, none⟩] := vR rfl
@[push_cast] theorem vr90_1 : VR r90_1 [⟨some 5, .assign (.const (.int .i64 (-1))), 3, none⟩] := vR rfl
@[push_cast] theorem vr90_2 : VR r90_2 [⟨some 6, .assign (.const (.int .i64 0)), 3, none⟩] := vR rfl
@[push_cast] theorem vr90_3 : VR r90_3 [⟨some 9, .move (.tmp 6), 3, none⟩, ⟨some 10, .move (.tmp 0), 22, none⟩, ⟨some 11, .call ⟨.builtin .len, #[.tmp 10], #[22]⟩, 3, none⟩, ⟨some 12, .binOp .lss 3 (.tmp 9) (.tmp 11) 3, 4, none⟩] := vR rfl
@[push_cast] theorem vr90_5 : VR r90_5 [⟨some 16, .move (.tmp 1), 22, none⟩, ⟨some 17, .move (.tmp 0), 22, none⟩, ⟨some 18, .move (.tmp 6), 3, none⟩, ⟨some 19, .indexAddr 22 (.tmp 17) (.tmp 18), 0, none⟩, ⟨some 20, .load 9 (.tmp 19), 9, none⟩, ⟨some 21, .call ⟨.value (.func 43), #[.tmp 16, .tmp 20], #[22, 9]⟩, 94, none⟩, ⟨some 15, .move (.tmp 21), 94, none⟩, ⟨some 22, .extract (.tmp 15) 0, 3, none⟩, ⟨some 23, .extract (.tmp 15) 1, 4, none⟩, ⟨some 7, .assign (.tmp 22), 3, none⟩, ⟨some 8, .assign (.tmp 23), 4, none⟩] := vR rfl
@[push_cast] theorem vr90_6 : VR r90_6 [⟨some 24, .move (.tmp 8), 4, none⟩, ⟨some 25, .unOp .not 4 (.tmp 24), 4, none⟩, ⟨some 26, .move (.tmp 25), 4, none⟩, ⟨some 27, .move (.tmp 7), 3, some (26, false)⟩, ⟨some 28, .move (.tmp 5), 3, some (26, false)⟩, ⟨some 29, .binOp .leq 3 (.tmp 27) (.tmp 28) 3, 4, some (26, false)⟩, ⟨some 30, .pick (.tmp 26) (.const (.bool true)) (.tmp 29), 4, none⟩] := vR rfl
@[push_cast] theorem vr90_7 : VR r90_7 [⟨some 4, .assign (.const (.bool false)), 4, none⟩] := vR rfl
@[push_cast] theorem vr90_8 : VR r90_8 [⟨some 31, .move (.tmp 7), 3, none⟩, ⟨some 5, .assign (.tmp 31), 3, none⟩] := vR rfl
@[push_cast] theorem vr90_4 : VR r90_4 [⟨some 13, .move (.tmp 6), 3, none⟩, ⟨some 14, .binOp .add 3 (.tmp 13) (.const (.int .i64 1)) 3, 3, none⟩, ⟨some 6, .assign (.tmp 14), 3, none⟩] := vR rfl
@[push_cast] theorem vr90_9 : VR r90_9 [⟨some 4, .assign (.const (.bool true)), 4, none⟩] := vR rfl
/-! 91 columbary/columbaryref20.file (params #[28, 57], results #[(.tmp 4)], 70 slots) -/
def r91_0 : List VOp :=
  [⟨some 2, .box 28 (.tmp 0), 0, none⟩,
   ⟨some 3, .box 57 (.tmp 1), 0, none⟩,
   ⟨some 4, .assign (.const (.bool false)), 4, none⟩]
def r91_1 : List VOp :=
  [fad 6 57 3 0,
   lda 7 9 6,
   ⟨some 8, .call ⟨.value (.func 92), #[.tmp 7], #[9]⟩, 4, none⟩,
   asg 5 8 4]
def r91_2 : List VOp :=
  [mv 9 5 4,
   ⟨some 10, .unOp .not 4 (.tmp 9), 4, none⟩,
   mv 11 10 4,
   ⟨some 12, .fieldAddr 57 (.tmp 3) 0, 0, some (11, false)⟩,
   ⟨some 13, .load 9 (.tmp 12), 9, some (11, false)⟩,
   ⟨some 14, .binOp .eql 9 (.tmp 13) (.const (.string { data := #[109, 97, 110, 105, 102, 101, 115, 116] })) 9, 4, some (11, false)⟩,
   ⟨some 15, .pick (.tmp 11) (.const (.bool true)) (.tmp 14), 4, none⟩,
   mv 16 15 4,
   ⟨some 17, .fieldAddr 57 (.tmp 3) 0, 0, some (16, false)⟩,
   ⟨some 18, .load 9 (.tmp 17), 9, some (16, false)⟩,
   ⟨some 19, .binOp .eql 9 (.tmp 18) (.const (.string { data := #[109, 97, 110, 105, 102, 101, 115, 116, 46, 110, 101, 119] })) 9, 4, some (16, false)⟩,
   ⟨some 20, .pick (.tmp 16) (.const (.bool true)) (.tmp 19), 4, none⟩,
   mv 21 20 4,
   ⟨some 22, .fieldAddr 57 (.tmp 3) 3, 0, some (21, false)⟩,
   ⟨some 23, .load 3 (.tmp 22), 3, some (21, false)⟩,
   ⟨some 24, .binOp .lss 3 (.tmp 23) (.const (.int .i64 0)) 3, 4, some (21, false)⟩,
   ⟨some 25, .pick (.tmp 21) (.const (.bool true)) (.tmp 24), 4, none⟩,
   mv 26 25 4,
   ⟨some 27, .fieldAddr 57 (.tmp 3) 3, 0, some (26, false)⟩,
   ⟨some 28, .load 3 (.tmp 27), 3, some (26, false)⟩,
   ⟨some 29, .binOp .gtr 3 (.tmp 28) (.const (.int .i64 65536)) 3, 4, some (26, false)⟩,
   ⟨some 30, .pick (.tmp 26) (.const (.bool true)) (.tmp 29), 4, none⟩]
def r91_3 : List VOp :=
  [⟨some 4, .assign (.const (.bool false)), 4, none⟩]
def r91_4 : List VOp :=
  [fad 31 57 3 1,
   lda 32 3 31,
   ⟨some 33, .binOp .lss 3 (.tmp 32) (.const (.int .i64 0)) 3, 4, none⟩,
   mv 34 33 4,
   ⟨some 35, .fieldAddr 57 (.tmp 3) 1, 0, some (34, false)⟩,
   ⟨some 36, .load 3 (.tmp 35), 3, some (34, false)⟩,
   ⟨some 37, .fieldAddr 28 (.tmp 2) 0, 0, some (34, false)⟩,
   ⟨some 38, .load 25 (.tmp 37), 25, some (34, false)⟩,
   ⟨some 39, .call ⟨.builtin .len, #[.tmp 38], #[25]⟩, 3, some (34, false)⟩,
   ⟨some 40, .binOp .geq 3 (.tmp 36) (.tmp 39) 3, 4, some (34, false)⟩,
   ⟨some 41, .pick (.tmp 34) (.const (.bool true)) (.tmp 40), 4, none⟩,
   mv 42 41 4,
   ⟨some 43, .fieldAddr 57 (.tmp 3) 2, 0, some (42, false)⟩,
   ⟨some 44, .load 3 (.tmp 43), 3, some (42, false)⟩,
   ⟨some 45, .binOp .lss 3 (.tmp 44) (.const (.int .i64 (-1))) 3, 4, some (42, false)⟩,
   ⟨some 46, .pick (.tmp 42) (.const (.bool true)) (.tmp 45), 4, none⟩,
   mv 47 46 4,
   ⟨some 48, .fieldAddr 57 (.tmp 3) 2, 0, some (47, false)⟩,
   ⟨some 49, .load 3 (.tmp 48), 3, some (47, false)⟩,
   ⟨some 50, .fieldAddr 28 (.tmp 2) 1, 0, some (47, false)⟩,
   ⟨some 51, .load 26 (.tmp 50), 26, some (47, false)⟩,
   ⟨some 52, .call ⟨.builtin .len, #[.tmp 51], #[26]⟩, 3, some (47, false)⟩,
   ⟨some 53, .binOp .geq 3 (.tmp 49) (.tmp 52) 3, 4, some (47, false)⟩,
   ⟨some 54, .pick (.tmp 47) (.const (.bool true)) (.tmp 53), 4, none⟩]
def r91_5 : List VOp :=
  [⟨some 4, .assign (.const (.bool false)), 4, none⟩]
def r91_6 : List VOp :=
  [fad 55 57 3 2,
   lda 56 3 55,
   ⟨some 57, .binOp .eql 3 (.tmp 56) (.const (.int .i64 (-1))) 3, 4, none⟩,
   mv 58 57 4,
   ⟨some 59, .fieldAddr 28 (.tmp 2) 1, 0, some (58, false)⟩,
   ⟨some 60, .load 26 (.tmp 59), 26, some (58, false)⟩,
   ⟨some 61, .fieldAddr 57 (.tmp 3) 2, 0, some (58, false)⟩,
   ⟨some 62, .load 3 (.tmp 61), 3, some (58, false)⟩,
   ⟨some 63, .indexAddr 26 (.tmp 60) (.tmp 62), 0, some (58, false)⟩,
   ⟨some 64, .fieldAddr 51 (.tmp 63) 0, 0, some (58, false)⟩,
   ⟨some 65, .load 3 (.tmp 64), 3, some (58, false)⟩,
   ⟨some 66, .fieldAddr 57 (.tmp 3) 1, 0, some (58, false)⟩,
   ⟨some 67, .load 3 (.tmp 66), 3, some (58, false)⟩,
   ⟨some 68, .binOp .eql 3 (.tmp 65) (.tmp 67) 3, 4, some (58, false)⟩,
   ⟨some 69, .pick (.tmp 58) (.const (.bool true)) (.tmp 68), 4, none⟩,
   asg 4 69 4]
def B91 : VC :=
  (.seq (.region r91_0) (.seq (.region r91_1) (.seq (.seq (.region r91_2) (.cond (.tmp 30) (.seq (.region r91_3) .ret) .skip)) (.seq (.seq (.region r91_4) (.cond (.tmp 54) (.seq (.region r91_5) .ret) .skip)) (.seq (.draw r91_6 4) .ret)))))
theorem code91 : ∃ c, Try.f91.body = some c ∧ abs Try.f91.ntmps c = B91 := ⟨_, rfl, by kernel_rfl⟩
theorem hb91 : HasBody Try.prog 91 := hasBody_of Try.func91 (by kernel_rfl)
theorem res91 : Try.f91.results = #[(.tmp 4)] := rfl
theorem enter91 {w : World} {R : Value → World → Prop} (x0 x1 : Value) (h : vc Try.prog B91 (retK Try.prog #[(.tmp 4)] R) [] (initEnv [x0, x1] 0) w) : FnC Try.prog 91 #[x0, x1] w R := by
  obtain ⟨c, h1, h2⟩ := code91
  exact hb91.fn (ret_of_vc mixed Try.func91 h1 (Nat.le_of_ble_eq_true rfl) B91 h2 h)
@[push_cast] theorem vr91_0 : VR r91_0 [⟨some 2, .box 28 (.tmp 0), 0, none⟩, ⟨some 3, .box 57 (.tmp 1), 0, none⟩, ⟨some 4, .assign (.const (.bool false)), 4, none⟩] := vR rfl
@[push_cast] theorem vr91_1 : VR r91_1 [⟨some 6, .fieldAddr 57 (.tmp 3) 0, 0, none⟩, ⟨some 7, .load 9 (.tmp 6), 9, none⟩, ⟨some 8, .call ⟨.value (.func 92), #[.tmp 7], #[9]⟩, 4, none⟩, ⟨some 5, .assign (.tmp 8), 4, none⟩] := vR rfl
@[push_cast] theorem vr91_2 : VR r91_2 [⟨some 9, .move (.tmp 5), 4, none⟩, ⟨some 10, .unOp .not 4 (.tmp 9), 4, none⟩, ⟨some 11, .move (.tmp 10), 4, none⟩, ⟨some 12, .fieldAddr 57 (.tmp 3) 0, 0, some (11, false)⟩, ⟨some 13, .load 9 (.tmp 12), 9, some (11, false)⟩, ⟨some 14, .binOp .eql 9 (.tmp 13) (.const (.string { data := #[109, 97, 110, 105, 102, 101, 115, 116] })) 9, 4, some (11, false)⟩, ⟨some 15, .pick (.tmp 11) (.const (.bool true)) (.tmp 14), 4, none⟩, ⟨some 16, .move (.tmp 15), 4, none⟩, ⟨some 17, .fieldAddr 57 (.tmp 3) 0, 0, some (16, false)⟩, ⟨some 18, .load 9 (.tmp 17), 9, some (16, false)⟩, ⟨some 19, .binOp .eql 9 (.tmp 18) (.const (.string { data := #[109, 97, 110, 105, 102, 101, 115, 116, 46, 110, 101, 119] })) 9, 4, some (16, false)⟩, ⟨some 20, .pick (.tmp 16) (.const (.bool true)) (.tmp 19), 4, none⟩, ⟨some 21, .move (.tmp 20), 4, none⟩, ⟨some 22, .fieldAddr 57 (.tmp 3) 3, 0, some (21, false)⟩, ⟨some 23, .load 3 (.tmp 22), 3, some (21, false)⟩, ⟨some 24, .binOp .lss 3 (.tmp 23) (.const (.int .i64 0)) 3, 4, some (21, false)⟩, ⟨some 25, .pick (.tmp 21) (.const (.bool true)) (.tmp 24), 4, none⟩, ⟨some 26, .move (.tmp 25), 4, none⟩, ⟨some 27, .fieldAddr 57 (.tmp 3) 3, 0, some (26, false)⟩, ⟨some 28, .load 3 (.tmp 27), 3, some (26, false)⟩, ⟨some 29, .binOp .gtr 3 (.tmp 28) (.const (.int .i64 65536)) 3, 4, some (26, false)⟩, ⟨some 30, .pick (.tmp 26) (.const (.bool true)) (.tmp 29), 4, none⟩] := vR rfl
@[push_cast] theorem vr91_3 : VR r91_3 [⟨some 4, .assign (.const (.bool false)), 4, none⟩] := vR rfl
@[push_cast] theorem vr91_4 : VR r91_4 [⟨some 31, .fieldAddr 57 (.tmp 3) 1, 0, none⟩, ⟨some 32, .load 3 (.tmp 31), 3, none⟩, ⟨some 33, .binOp .lss 3 (.tmp 32) (.const (.int .i64 0)) 3, 4, none⟩, ⟨some 34, .move (.tmp 33), 4, none⟩, ⟨some 35, .fieldAddr 57 (.tmp 3) 1, 0, some (34, false)⟩, ⟨some 36, .load 3 (.tmp 35), 3, some (34, false)⟩, ⟨some 37, .fieldAddr 28 (.tmp 2) 0, 0, some (34, false)⟩, ⟨some 38, .load 25 (.tmp 37), 25, some (34, false)⟩, ⟨some 39, .call ⟨.builtin .len, #[.tmp 38], #[25]⟩, 3, some (34, false)⟩, ⟨some 40, .binOp .geq 3 (.tmp 36) (.tmp 39) 3, 4, some (34, false)⟩, ⟨some 41, .pick (.tmp 34) (.const (.bool true)) (.tmp 40), 4, none⟩, ⟨some 42, .move (.tmp 41), 4, none⟩, ⟨some 43, .fieldAddr 57 (.tmp 3) 2, 0, some (42, false)⟩, ⟨some 44, .load 3 (.tmp 43), 3, some (42, false)⟩, ⟨some 45, .binOp .lss 3 (.tmp 44) (.const (.int .i64 (-1))) 3, 4, some (42, false)⟩, ⟨some 46, .pick (.tmp 42) (.const (.bool true)) (.tmp 45), 4, none⟩, ⟨some 47, .move (.tmp 46), 4, none⟩, ⟨some 48, .fieldAddr 57 (.tmp 3) 2, 0, some (47, false)⟩, ⟨some 49, .load 3 (.tmp 48), 3, some (47, false)⟩, ⟨some 50, .fieldAddr 28 (.tmp 2) 1, 0, some (47, false)⟩, ⟨some 51, .load 26 (.tmp 50), 26, some (47, false)⟩, ⟨some 52, .call ⟨.builtin .len, #[.tmp 51], #[26]⟩, 3, some (47, false)⟩, ⟨some 53, .binOp .geq 3 (.tmp 49) (.tmp 52) 3, 4, some (47, false)⟩, ⟨some 54, .pick (.tmp 47) (.const (.bool true)) (.tmp 53), 4, none⟩] := vR rfl
@[push_cast] theorem vr91_5 : VR r91_5 [⟨some 4, .assign (.const (.bool false)), 4, none⟩] := vR rfl
@[push_cast] theorem vr91_6 : vc Try.prog (.draw r91_6 4) Q ds σ w = drawn Try.prog [(⟨some 55, .fieldAddr 57 (.tmp 3) 2, 0, none⟩, [3]), (⟨some 56, .load 3 (.tmp 55), 3, none⟩, [55]), (⟨some 57, .binOp .eql 3 (.tmp 56) (.const (.int .i64 (-1))) 3, 4, none⟩, [56]), (⟨some 58, .move (.tmp 57), 4, none⟩, [57]), (⟨some 59, .fieldAddr 28 (.tmp 2) 1, 0, some (58, false)⟩, [2, 58]), (⟨some 60, .load 26 (.tmp 59), 26, some (58, false)⟩, [59, 58]), (⟨some 61, .fieldAddr 57 (.tmp 3) 2, 0, some (58, false)⟩, [3, 58]), (⟨some 62, .load 3 (.tmp 61), 3, some (58, false)⟩, [61, 58]), (⟨some 63, .indexAddr 26 (.tmp 60) (.tmp 62), 0, some (58, false)⟩, [60, 62, 58]), (⟨some 64, .fieldAddr 51 (.tmp 63) 0, 0, some (58, false)⟩, [63, 58]), (⟨some 65, .load 3 (.tmp 64), 3, some (58, false)⟩, [64, 58]), (⟨some 66, .fieldAddr 57 (.tmp 3) 1, 0, some (58, false)⟩, [3, 58]), (⟨some 67, .load 3 (.tmp 66), 3, some (58, false)⟩, [66, 58]), (⟨some 68, .binOp .eql 3 (.tmp 65) (.tmp 67) 3, 4, some (58, false)⟩, [65, 67, 58]), (⟨some 69, .pick (.tmp 58) (.const (.bool true)) (.tmp 68), 4, none⟩, [58, 68]), (⟨some 4, .assign (.tmp 69), 4, none⟩, [69])] 4 (Q .normal ds) σ w := mk_eq rfl
/-! 92 columbary/columbaryref03.Name (params #[9], results #[(.tmp 2)], 40 slots) -/
def W92_0 : List Nat := [2, 3, 4, 5, 6, 7, 8, 9, 10, 11, 12, 13, 14, 15, 16, 17, 18, 19, 20, 21, 22, 23, 24, 25, 26, 27, 28, 29, 30, 31]
@[push_cast] theorem W92_0_def : W92_0 = [2, 3, 4, 5, 6, 7, 8, 9, 10, 11, 12, 13, 14, 15, 16, 17, 18, 19, 20, 21, 22, 23, 24, 25, 26, 27, 28, 29, 30, 31] := mk_eq rfl
def r92_0 : List VOp :=
  [⟨some 2, .assign (.const (.bool false)), 4, none⟩]
def r92_1 : List VOp :=
  [⟨some 3, .assign (.const (.int .i64 0)), 3, none⟩]
def r92_2 : List VOp :=
  [mv 5 3 3,
   mv 6 0 9,
   ⟨some 7, .call ⟨.builtin .len, #[.tmp 6], #[9]⟩, 3, none⟩,
   ⟨some 8, .binOp .lss 3 (.tmp 5) (.tmp 7) 3, 4, none⟩]
def r92_4 : List VOp :=
  [mv 11 0 9,
   mv 12 3 3,
   ⟨some 13, .index 9 (.tmp 11) (.tmp 12), 5, none⟩,
   asg 4 13 5]
def r92_5 : List VOp :=
  [mv 14 4 5,
   ⟨some 15, .binOp .lss 5 (.tmp 14) (.const (.int .u8 97)) 5, 4, none⟩,
   mv 16 15 4,
   ⟨some 17, .move (.tmp 4), 5, some (16, false)⟩,
   ⟨some 18, .binOp .gtr 5 (.tmp 17) (.const (.int .u8 122)) 5, 4, some (16, false)⟩,
   ⟨some 19, .pick (.tmp 16) (.const (.bool true)) (.tmp 18), 4, none⟩,
   mv 20 19 4,
   ⟨some 21, .move (.tmp 4), 5, some (20, true)⟩,
   ⟨some 22, .binOp .lss 5 (.tmp 21) (.const (.int .u8 48)) 5, 4, some (20, true)⟩,
   ⟨some 23, .move (.tmp 22), 4, some (20, true)⟩,
   ⟨some 24, .move (.tmp 4), 5, some (23, false)⟩,
   ⟨some 25, .binOp .gtr 5 (.tmp 24) (.const (.int .u8 57)) 5, 4, some (23, false)⟩,
   ⟨some 26, .pick (.tmp 23) (.const (.bool true)) (.tmp 25), 4, some (20, true)⟩,
   ⟨some 27, .pick (.tmp 20) (.tmp 26) (.const (.bool false)), 4, none⟩,
   mv 28 27 4,
   ⟨some 29, .move (.tmp 4), 5, some (28, true)⟩,
   ⟨some 30, .binOp .neq 5 (.tmp 29) (.const (.int .u8 46)) 5, 4, some (28, true)⟩,
   ⟨some 31, .pick (.tmp 28) (.tmp 30) (.const (.bool false)), 4, none⟩]
def r92_6 : List VOp :=
  [⟨some 2, .assign (.const (.bool false)), 4, none⟩]
def r92_3 : List VOp :=
  [mv 9 3 3,
   ⟨some 10, .binOp .add 3 (.tmp 9) (.const (.int .i64 1)) 3, 3, none⟩,
   asg 3 10 3]
def r92_7 : List VOp :=
  [mv 32 0 9,
   ⟨some 33, .call ⟨.builtin .len, #[.tmp 32], #[9]⟩, 3, none⟩,
   ⟨some 34, .binOp .geq 3 (.tmp 33) (.const (.int .i64 1)) 3, 4, none⟩,
   mv 35 34 4,
   ⟨some 36, .move (.tmp 0), 9, some (35, true)⟩,
   ⟨some 37, .call ⟨.builtin .len, #[.tmp 36], #[9]⟩, 3, some (35, true)⟩,
   ⟨some 38, .binOp .leq 3 (.tmp 37) (.const (.int .i64 12)) 3, 4, some (35, true)⟩,
   ⟨some 39, .pick (.tmp 35) (.tmp 38) (.const (.bool false)), 4, none⟩,
   asg 2 39 4]
def B92 : VC :=
  (.seq (.region r92_0) (.seq (.seq (.region r92_1) (.block 0 (.loop (.seq (.seq (.region r92_2) (.cond (.tmp 8) .skip (.exit 0))) (.seq (.block 1 (.seq (.region r92_4) (.seq (.region r92_5) (.cond (.tmp 31) (.seq (.region r92_6) .ret) .skip)))) (.region r92_3)))))) (.seq (.region r92_7) .ret)))
theorem code92 : ∃ c, Try.f92.body = some c ∧ abs Try.f92.ntmps c = B92 := ⟨_, rfl, by kernel_rfl⟩
theorem hb92 : HasBody Try.prog 92 := hasBody_of Try.func92 (by kernel_rfl)
theorem res92 : Try.f92.results = #[(.tmp 2)] := rfl
theorem enter92 {w : World} {R : Value → World → Prop} (x0 : Value) (h : vc Try.prog B92 (retK Try.prog #[(.tmp 2)] R) [] (initEnv [x0] 0) w) : FnC Try.prog 92 #[x0] w R := by
  obtain ⟨c, h1, h2⟩ := code92
  exact hb92.fn (ret_of_vc mixed Try.func92 h1 (Nat.le_of_ble_eq_true rfl) B92 h2 h)
@[push_cast] theorem vr92_0 : VR r92_0 [⟨some 2, .assign (.const (.bool false)), 4, none⟩] := vR rfl
@[push_cast] theorem vr92_1 : VR r92_1 [⟨some 3, .assign (.const (.int .i64 0)), 3, none⟩] := vR rfl
@[push_cast] theorem vr92_2 : VR r92_2 [⟨some 5, .move (.tmp 3), 3, none⟩, ⟨some 6, .move (.tmp 0), 9, none⟩, ⟨some 7, .call ⟨.builtin .len, #[.tmp 6], #[9]⟩, 3, none⟩, ⟨some 8, .binOp .lss 3 (.tmp 5) (.tmp 7) 3, 4, none⟩] := vR rfl
@[push_cast] theorem vr92_4 : VR r92_4 [⟨some 11, .move (.tmp 0), 9, none⟩, ⟨some 12, .move (.tmp 3), 3, none⟩, ⟨some 13, .index 9 (.tmp 11) (.tmp 12), 5, none⟩, ⟨some 4, .assign (.tmp 13), 5, none⟩] := vR rfl
@[push_cast] theorem vr92_5 : VR r92_5 [⟨some 14, .move (.tmp 4), 5, none⟩, ⟨some 15, .binOp .lss 5 (.tmp 14) (.const (.int .u8 97)) 5, 4, none⟩, ⟨some 16, .move (.tmp 15), 4, none⟩, ⟨some 17, .move (.tmp 4), 5, some (16, false)⟩, ⟨some 18, .binOp .gtr 5 (.tmp 17) (.const (.int .u8 122)) 5, 4, some (16, false)⟩, ⟨some 19, .pick (.tmp 16) (.const (.bool true)) (.tmp 18), 4, none⟩, ⟨some 20, .move (.tmp 19), 4, none⟩, ⟨some 21, .move (.tmp 4), 5, some (20, true)⟩, ⟨some 22, .binOp .lss 5 (.tmp 21) (.const (.int .u8 48)) 5, 4, some (20, true)⟩, ⟨some 23, .move (.tmp 22), 4, some (20, true)⟩, ⟨some 24, .move (.tmp 4), 5, some (23, false)⟩, ⟨some 25, .binOp .gtr 5 (.tmp 24) (.const (.int .u8 57)) 5, 4, some (23, false)⟩, ⟨some 26, .pick (.tmp 23) (.const (.bool true)) (.tmp 25), 4, some (20, true)⟩, ⟨some 27, .pick (.tmp 20) (.tmp 26) (.const (.bool false)), 4, none⟩, ⟨some 28, .move (.tmp 27), 4, none⟩, ⟨some 29, .move (.tmp 4), 5, some (28, true)⟩, ⟨some 30, .binOp .neq 5 (.tmp 29) (.const (.int .u8 46)) 5, 4, some (28, true)⟩, ⟨some 31, .pick (.tmp 28) (.tmp 30) (.const (.bool false)), 4, none⟩] := vR rfl
@[push_cast] theorem vr92_6 : VR r92_6 [⟨some 2, .assign (.const (.bool false)), 4, none⟩] := vR rfl
@[push_cast] theorem vr92_3 : VR r92_3 [⟨some 9, .move (.tmp 3), 3, none⟩, ⟨some 10, .binOp .add 3 (.tmp 9) (.const (.int .i64 1)) 3, 3, none⟩, ⟨some 3, .assign (.tmp 10), 3, none⟩] := vR rfl
@[push_cast] theorem vr92_7 : VR r92_7 [⟨some 32, .move (.tmp 0), 9, none⟩, ⟨some 33, .call ⟨.builtin .len, #[.tmp 32], #[9]⟩, 3, none⟩, ⟨some 34, .binOp .geq 3 (.tmp 33) (.const (.int .i64 1)) 3, 4, none⟩, ⟨some 35, .move (.tmp 34), 4, none⟩, ⟨some 36, .move (.tmp 0), 9, some (35, true)⟩, ⟨some 37, .call ⟨.builtin .len, #[.tmp 36], #[9]⟩, 3, some (35, true)⟩, ⟨some 38, .binOp .leq 3 (.tmp 37) (.const (.int .i64 12)) 3, 4, some (35, true)⟩, ⟨some 39, .pick (.tmp 35) (.tmp 38) (.const (.bool false)), 4, none⟩, ⟨some 2, .assign (.tmp 39), 4, none⟩] := vR rfl
@[push_cast] theorem bsl45_1_Codes7M {K : Value → World → Prop} {w : World} (x00 x01 x02 x03 x04 : Value) : vBuildSlice Try.prog 45 1 #[(0, (.agg #[x00, x01, x02, x03, x04]))] K w = K (.slice (some ⟨w.heap.size, 0, none⟩) 1 1) (w.alloc (.cells #[x00, x01, x02, x03, x04] 49)) :=
  vBuildSlice_ok Try.underlying45 ti49 (by kernel_rfl) (by decide)
@[push_cast] theorem bld49_0_1_2_3_Codes7M {K : Value → World → Prop} {w : World} (x0 : Int) (x1 : Int) (x2 : Int) (x3 : Int) : vBuild Try.prog 49 #[(0, (.int .i64 x0)), (1, (.int .i64 x1)), (2, (.int .i64 x2)), (3, (.int .i64 x3))] K w = K (.agg #[(.int .i64 x0), (.int .i64 x1), (.int .i64 x2), (.int .i64 x3), (.int .i64 0)]) w :=
  vBuild_ok (by kernel_rfl)
end Go.Proofs.Ytnofalhkapmcnaa
end
