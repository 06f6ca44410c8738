/- The acts of a vault, told of its state in plain Lean. -/
import Derived.Laws.Externs
import Derived.Carry
import Derived.OpenShut
import Derived.ProofKit
import Derived.ChangeSame
import Derived.Test.YtmfcnooleejgmaaPartG
set_option linter.all false
open Nat renaming reduceEqDiff → zA, reducePow → zB, reduceMul → zC, reduceAdd → zD, reduceSub → zE, reduceLeDiff → zF
open Int renaming reduceToNat → zG, reducePow → zH, reduceNeg → zI, reduceMul → zJ, reduceAdd → zK, reduceSub → zL, reduceLT → zM, reduceLE → zN, reduceEq → zO, reduceMod → zP, reduceDiv → zQ
section
namespace Go.Proofs.Ytmfcnooleejgmaa
open Go.Vc Go.Vlt Go.Key
set_option maxRecDepth 100000
structure Vst where
  room : Int
  fuse : Int
  L : List Fl
def Vst.burn (s : Vst) : Vst := ⟨s.room, brn s.fuse, s.L⟩
def aApp (k : ByteArray) (bl : List UInt8) (s : Vst) : Int × Vst :=
  if nmOk k = false then (31, s) else if brn s.fuse = 0 then (272, s.burn) else if s.room - tl s.L < bl.length ∨ (lk k s.L = none ∧ 200 ≤ s.L.length) then (32, s.burn)
  else (0, ⟨s.room, brn s.fuse, lPut ⟨k, oB k s.L ++ bl, oS k s.L⟩ s.L⟩)
def aSync (k : ByteArray) (s : Vst) : Int × Vst :=
  if nmOk k = false ∨ lk k s.L = none then (31, s) else if brn s.fuse = 0 then (272, s.burn) else (0, ⟨s.room, brn s.fuse, lPut ⟨k, oB k s.L, (oB k s.L).length⟩ s.L⟩)
def aRen (k k2 : ByteArray) (s : Vst) : Int × Vst :=
  if nmOk k = false ∨ lk k s.L = none ∨ nmOk k2 = false then (31, s) else if brn s.fuse = 0 then (272, s.burn) else (0, ⟨s.room, brn s.fuse, lPut ⟨k2, oB k s.L, oS k s.L⟩ (lDel k s.L)⟩)
def aDel (k : ByteArray) (s : Vst) : Int × Vst :=
  if nmOk k = false ∨ lk k s.L = none then (31, s) else if brn s.fuse = 0 then (272, s.burn) else (0, ⟨s.room, brn s.fuse, lDel k s.L⟩)
def aArm (n : Int) (s : Vst) : Int × Vst := if n < 0 then (1, s) else (0, ⟨s.room, n, s.L⟩)
def crF (keep : Int) (f : Fl) : Fl := ⟨f.name, (cr keep (f.b, f.safe)).1, (cr keep (f.b, f.safe)).2⟩
def aCrash (keep : Int) (s : Vst) : Vst := ⟨s.room, -1, s.L.map (crF keep)⟩
/-- A right state. -/
structure Good (s : Vst) : Prop where
  room : 0 ≤ s.room ∧ s.room ≤ 16777216
  fuse : -1 ≤ s.fuse ∧ s.fuse ≤ 9223372036854775807
  srd : Srd s.L
  names : ∀ f ∈ s.L, nmOk f.name = true
  safe : ∀ f ∈ s.L, f.safe ≤ f.b.length
  tot : tl s.L ≤ s.room
  len : s.L.length ≤ 200
/-- A vault in memory, in this state. -/
def VS (w : World) (bk r : Nat) (s : Vst) : Prop := ∃ es c, Vt w bk r s.room s.fuse es c ∧ Rl es s.L
theorem VS.later {w w' : World} {bk r : Nat} {s : Vst} (h : VS w bk r s) (hl : Later w w') : VS w' bk r s := by
  obtain ⟨es, c, h1, h2⟩ := h
  exact ⟨es, c, h1.later hl, h2⟩
theorem VS.lt {w : World} {bk r : Nat} {s : Vst} (h : VS w bk r s) : bk < w.heap.size ∧ r < w.heap.size := by
  obtain ⟨es, c, h1, h2⟩ := h
  exact ⟨h1.blk.lt, (Array.getElem?_eq_some_iff.1 h1.map).1⟩
/-- What is done to one vault leaves another. -/
theorem VS.other {w w' : World} {bk r bk' r' : Nat} {s s' : Vst} (h : VS w bk r s) (h' : VS w bk' r' s') (hc : Chg w w' [bk', r']) (hb : bk ≠ bk') (hr : r ≠ r') : VS w' bk r s := by
  obtain ⟨es, c, h1, h2⟩ := h
  obtain ⟨es', c', h1', h2'⟩ := h'
  have e1 : bk ≠ r' := by
    rintro rfl
    have a := h1.blk
    have b := h1'.map
    unfold Blk at a
    unfold MapB at b
    rw [a] at b; cases b
  have e2 : r ≠ bk' := by
    rintro rfl
    have a := h1'.blk
    have b := h1.map
    unfold Blk at a
    unfold MapB at b
    rw [a] at b; cases b
  refine ⟨es, c, h1.chg hc (by simp [hb, e1]) (by simp [hr, e2]) fun k hk => ?_, h2⟩
  rcases List.mem_cons.1 hk with rfl | hk
  · exact h1'.box
  · rw [List.mem_singleton.1 hk]; exact h1'.mapb _
theorem _root_.Go.Vlt.Rl.put {es : List VE} {L : List Fl} (h : Rl es L) (k : ByteArray) (b : List UInt8) (s : Nat) (sv : Value) (c : Nat) : Rl (ePut k b s sv c es) (lPut ⟨k, b, s⟩ L) :=
  ⟨srd_put h.srd, fun k' => by rw [aF_put, lk_put, h.same k']⟩
theorem _root_.Go.Vlt.Rl.del {es : List VE} {L : List Fl} (h : Rl es L) (hp : es.Pairwise fun x y => x.name ≠ y.name) (k : ByteArray) : Rl (eDel k es) (lDel k L) :=
  ⟨srd_del h.srd, fun k' => by
    rw [lk_del k k' h.srd, ← h.same k']
    unfold aF
    rw [find_del k k' hp]
    split <;> rfl⟩
/-- The bounds that a right state brings. -/
theorem Good.nums {w : World} {bk r c : Nat} {s : Vst} {es : List VE} (g : Good s) (h : Vt w bk r s.room s.fuse es c) (hR : Rl es s.L) : Go.Vlt.tot es = tl s.L ∧ es.length = s.L.length ∧ Go.Vlt.tot es ≤ 16777216 ∧ es.length ≤ 200 ∧ ∀ e ∈ es, e.b.length ≤ 16777216 := by
  obtain ⟨n1, n2⟩ := hR.nums h.apart
  have h1 := g.room
  have h2 := g.tot
  have h3 := g.len
  refine ⟨n2, n1, by omega, by omega, fun e he => ?_⟩
  obtain ⟨t1, _⟩ := tot_out h.nodup he
  have := tot_nn (es.filter fun x => !(x.born == e.born))
  omega
theorem brn_rng {f : Int} (h : -1 ≤ f ∧ f ≤ 9223372036854775807) : -1 ≤ brn f ∧ brn f ≤ 9223372036854775807 := by unfold brn; split <;> omega
theorem Good.burn {s : Vst} (g : Good s) : Good s.burn := ⟨g.room, brn_rng g.fuse, g.srd, g.names, g.safe, g.tot, g.len⟩
theorem oS_le {L : List Fl} {k : ByteArray} (hs : ∀ f ∈ L, f.safe ≤ f.b.length) : oS k L ≤ (oB k L).length := by
  unfold oS oB
  cases h : lk k L with
  | none => exact Nat.le_refl _
  | some p =>
    obtain ⟨x, hx, _, rfl⟩ := lk_in h
    exact hs x hx
theorem oB_le {L : List Fl} {k : ByteArray} : ((oB k L).length : Int) ≤ tl L := by
  have h := tl_del (k := k) (L := L)
  have := tl_nn (lDel k L)
  omega
theorem put_good {s : Vst} (g : Good s) (f : Fl) (hn : nmOk f.name = true) (hs : f.safe ≤ f.b.length) (ht : tl s.L - (oB f.name s.L).length + f.b.length ≤ s.room) (hl : lk f.name s.L = none → s.L.length < 200) (fu : Int) (hf : -1 ≤ fu ∧ fu ≤ 9223372036854775807) : Good ⟨s.room, fu, lPut f s.L⟩ := by
  obtain ⟨t1, t2⟩ := tl_put (f := f) g.srd
  refine ⟨g.room, hf, srd_put g.srd, fun x hx => ?_, fun x hx => ?_, by dsimp only; omega, ?_⟩
  · rcases put_mem' hx with rfl | hx
    · exact hn
    · exact g.names x hx
  · rcases put_mem' hx with rfl | hx
    · exact hs
    · exact g.safe x hx
  · dsimp only
    rw [t2]
    have := g.len
    split
    · rename_i h; have := hl h; omega
    · exact this
theorem del_good {s : Vst} (g : Good s) (k : ByteArray) (fu : Int) (hf : -1 ≤ fu ∧ fu ≤ 9223372036854775807) : Good ⟨s.room, fu, lDel k s.L⟩ := by
  have hs := del_sub' k s.L
  have t := tl_del (k := k) (L := s.L)
  have := g.tot
  exact ⟨g.room, hf, srd_del g.srd, fun x hx => g.names x (hs.subset hx), fun x hx => g.safe x (hs.subset hx), by dsimp only; omega, Nat.le_trans hs.length_le g.len⟩
theorem aApp_good {s : Vst} (g : Good s) (k : ByteArray) (bl : List UInt8) : Good (aApp k bl s).2 := by
  unfold aApp
  split
  · exact g
  split
  · exact g.burn
  split
  · exact g.burn
  · rename_i h1 h2 h3
    have h3' : ¬ (s.room - tl s.L < bl.length) ∧ ¬ (lk k s.L = none ∧ 200 ≤ s.L.length) := ⟨fun h => h3 (.inl h), fun h => h3 (.inr h)⟩
    refine put_good g ⟨k, _, _⟩ (by simpa using h1) ?_ ?_ (fun hn => ?_) _ (brn_rng g.fuse)
    · have := oS_le (k := k) g.safe
      simp only [List.length_append]; omega
    · simp only [List.length_append]; omega
    · have : ¬ 200 ≤ s.L.length := fun h => h3'.2 ⟨hn, h⟩
      omega
theorem aSync_good {s : Vst} (g : Good s) (k : ByteArray) : Good (aSync k s).2 := by
  unfold aSync
  split
  · exact g
  split
  · exact g.burn
  · rename_i h1 h2
    refine put_good g ⟨k, _, _⟩ ?_ (Nat.le_refl _) ?_ (fun hn => absurd (.inr hn) h1) _ (brn_rng g.fuse)
    · cases hk : nmOk k with
      | true => rfl
      | false => exact absurd (.inl hk) h1
    · have := g.tot; dsimp only; omega
theorem aDel_good {s : Vst} (g : Good s) (k : ByteArray) : Good (aDel k s).2 := by
  unfold aDel
  split
  · exact g
  split
  · exact g.burn
  · exact del_good g k _ (brn_rng g.fuse)
theorem del_len {k : ByteArray} : ∀ {L : List Fl}, lk k L ≠ none → (lDel k L).length + 1 = L.length
  | [], h => absurd rfl h
  | x :: l, h => by
    unfold lDel
    unfold lk at h
    split
    · rfl
    · rename_i hn
      rw [if_neg fun h => hn h.symm] at h
      rw [List.length_cons, List.length_cons, del_len h]
theorem aRen_good {s : Vst} (g : Good s) (k k2 : ByteArray) : Good (aRen k k2 s).2 := by
  unfold aRen
  split
  · exact g
  split
  · exact g.burn
  · rename_i h1 h2
    have hn : lk k s.L ≠ none := fun h => h1 (.inr (.inl h))
    have g1 := del_good g k (brn s.fuse) (brn_rng g.fuse)
    refine put_good (s := ⟨s.room, brn s.fuse, lDel k s.L⟩) g1 ⟨k2, oB k s.L, oS k s.L⟩ ?_ (oS_le g.safe) ?_ (fun _ => ?_) _ (brn_rng g.fuse)
    · cases hk : nmOk k2 with
      | true => rfl
      | false => exact absurd (.inr (.inr hk)) h1
    · have := g.tot
      have := tl_del (k := k) (L := s.L)
      dsimp only; omega
    · have := del_len hn
      have := g.len
      dsimp only; omega
theorem aArm_good {s : Vst} (g : Good s) (n : Int) (hn : n ≤ 9223372036854775807) : Good (aArm n s).2 := by
  unfold aArm
  split
  · exact g
  · exact ⟨g.room, ⟨by dsimp only; omega, hn⟩, g.srd, g.names, g.safe, g.tot, g.len⟩
theorem cr_le (keep : Int) (f : Fl) (h : f.safe ≤ f.b.length) : (crF keep f).b.length ≤ f.b.length ∧ (crF keep f).safe ≤ (crF keep f).b.length := by
  unfold crF cr crN
  simp only [List.length_take]
  omega
theorem tl_cr (keep : Int) : ∀ {L : List Fl}, (∀ f ∈ L, f.safe ≤ f.b.length) → tl (L.map (crF keep)) ≤ tl L
  | [], _ => Int.le_refl _
  | x :: l, h => by
    have h1 := tl_cr keep (L := l) fun f hf => h f (List.mem_cons_of_mem _ hf)
    have h2 := (cr_le keep x (h x (by simp))).1
    show ((crF keep x).b.length : Int) + tl (l.map (crF keep)) ≤ x.b.length + tl l
    omega
theorem srd_cr (keep : Int) {L : List Fl} (h : Srd L) : Srd (L.map (crF keep)) := List.pairwise_map.2 h
theorem lk_cr (keep : Int) (k : ByteArray) : ∀ L : List Fl, lk k (L.map (crF keep)) = (lk k L).map (cr keep)
  | [] => rfl
  | x :: l => by
    show (if k = x.name then some ((crF keep x).b, (crF keep x).safe) else lk k (l.map (crF keep))) = (if k = x.name then some (x.b, x.safe) else lk k l).map (cr keep)
    rw [lk_cr keep k l]
    split <;> rfl
theorem aCrash_good {s : Vst} (g : Good s) (keep : Int) : Good (aCrash keep s) := by
  have h1 := tl_cr keep g.safe
  have h2 := g.tot
  refine ⟨g.room, ⟨by unfold aCrash; dsimp only; omega, by unfold aCrash; dsimp only; omega⟩, srd_cr keep g.srd, fun x hx => ?_, fun x hx => ?_, by unfold aCrash; dsimp only; omega, by unfold aCrash; dsimp only; rw [List.length_map]; exact g.len⟩
  · obtain ⟨f, hf, rfl⟩ := List.mem_map.1 hx
    exact g.names f hf
  · obtain ⟨f, hf, rfl⟩ := List.mem_map.1 hx
    exact (cr_le keep f (g.safe f hf)).2
/-! ### the contracts -/
def s0 (room : Int) : Vst := ⟨room, -1, []⟩
theorem s0_good {room : Int} (h : 0 ≤ room ∧ room ≤ 16777216) : Good (s0 room) := ⟨h, ⟨by unfold s0; dsimp only; omega, by unfold s0; dsimp only; omega⟩, List.Pairwise.nil, by simp [s0], by simp [s0], by unfold s0 tl; exact h.1, by simp [s0]⟩
theorem new_s (room : Int) (w : World) (h : -9223372036854775808 ≤ room ∧ room ≤ 9223372036854775807) : FnC Try.prog 9 #[.int .i64 room] w fun v w' => ((v = .tuple #[.pointer none, .int .i64 1] ∧ ¬ (0 ≤ room ∧ room ≤ 16777216)) ∨ (0 ≤ room ∧ room ≤ 16777216 ∧ ∃ bk r, w.heap.size ≤ bk ∧ w.heap.size ≤ r ∧ v = .tuple #[.pointer (some ⟨bk, 0, none⟩), .int .i64 0] ∧ VS w' bk r (s0 room))) ∧ Later w w' := by
  refine (new_c room w h).mono ?_
  rintro v w' ⟨h1 | ⟨h1, h2, bk, r, h3, h4, h5, h6⟩, hl⟩
  · exact ⟨.inl h1, hl⟩
  · exact ⟨.inr ⟨h1, h2, bk, r, h3, h4, h5, [], 0, h6, ⟨List.Pairwise.nil, fun _ => rfl⟩⟩, hl⟩
theorem read_s (bk r : Nat) (s : Vst) (k : ByteArray) (w : World) (h : VS w bk r s) (g : Good s) : FnC Try.prog 14 #[.pointer (some ⟨bk, 0, none⟩), .string k] w fun v w' => (∃ x, v = .tuple #[x, .bool (lk k s.L).isSome] ∧ OwnB w' w.heap.size 5 x (oB k s.L)) ∧ Later w w' := by
  obtain ⟨es, c, hV, hR⟩ := h
  obtain ⟨_, _, _, _, n5⟩ := g.nums hV hR
  refine (read_c bk r _ _ es c k w hV (fun e he => Nat.le_trans (n5 e he) (by omega))).mono ?_
  rintro v w' ⟨⟨x, h1, h2⟩, hl⟩
  have hs := hR.same k
  refine ⟨⟨x, ?_, ?_⟩, hl⟩
  · rw [h1, ← hs]; unfold aF; cases vFind k es <;> rfl
  · unfold oB
    rw [← hs]; unfold aF
    cases hf : vFind k es with
    | none => rw [hf] at h2; exact h2
    | some e => rw [hf] at h2; exact h2
theorem free_s (bk r : Nat) (s : Vst) (w : World) (h : VS w bk r s) (g : Good s) : FnC Try.prog 17 #[.pointer (some ⟨bk, 0, none⟩)] w fun v w' => v = .int .i64 (s.room - tl s.L) ∧ Later w w' := by
  obtain ⟨es, c, hV, hR⟩ := h
  obtain ⟨n1, _, n3, _, _⟩ := g.nums hV hR
  refine (free_c bk r _ _ es c w hV g.room (by omega)).mono ?_
  rintro v w' ⟨h1, hl⟩
  exact ⟨by rw [h1, n1], hl⟩
theorem broken_s (bk r : Nat) (s : Vst) (w : World) (h : VS w bk r s) : FnC Try.prog 28 #[.pointer (some ⟨bk, 0, none⟩)] w fun v w' => v = .bool (decide (s.fuse = 0)) ∧ w' = w := by
  obtain ⟨es, c, hV, hR⟩ := h
  exact broken_c bk r _ _ es c w hV
theorem arm_s (bk r : Nat) (s : Vst) (n : Int) (w : World) (h : VS w bk r s) : FnC Try.prog 27 #[.pointer (some ⟨bk, 0, none⟩), .int .i64 n] w fun v w' => v = .int .i64 (aArm n s).1 ∧ VS w' bk r (aArm n s).2 ∧ Chg w w' [bk, r] := by
  obtain ⟨es, c, hV, hR⟩ := h
  refine (arm_c bk r _ _ n es c w hV).mono ?_
  rintro v w' ⟨⟨h1, h2⟩, hc⟩
  unfold aArm
  by_cases hn : n < 0
  · rw [if_pos hn] at h1 h2 ⊢
    exact ⟨h1, ⟨es, c, h2, hR⟩, Chg.more hc (by simp)⟩
  · rw [if_neg hn] at h1 h2 ⊢
    exact ⟨h1, ⟨es, c, h2, hR⟩, Chg.more hc (by simp)⟩
theorem append_s (bk r : Nat) (s : Vst) (k : ByteArray) (bv : Value) (bl : List UInt8) (w : World) (h : VS w bk r s) (g : Good s) (hk : k.size ≤ 1000000000) (hb : Sl w bv (bl.map u8v)) (hbj : ∃ j, inB j bv ∧ j ≠ bk) (hbl : bl.length ≤ 100000000) :
    FnC Try.prog 10 #[.pointer (some ⟨bk, 0, none⟩), .string k, bv] w fun v w' => v = .int .i64 (aApp k bl s).1 ∧ VS w' bk r (aApp k bl s).2 ∧ Chg w w' [bk, r] := by
  obtain ⟨es, c, hV, hR⟩ := h
  obtain ⟨n1, n2, n3, n4, n5⟩ := g.nums hV hR
  obtain ⟨f1, f2, f3⟩ := lk_find hR k
  refine (append_c bk r _ _ es c k bv bl w hV g.room (by omega) g.fuse (named_at k hk) hb hbj hbl (by omega)).mono ?_
  rintro v w' ⟨hA, hc⟩
  unfold aApp
  rcases hA with ⟨h1, h2, h3⟩ | ⟨h1, h2, h3, h4⟩ | ⟨h1, h2, h3, h4, h5⟩ | ⟨h1, h2, h3, h4, h5, sv, h6⟩
  · rw [if_pos h2]
    exact ⟨h1, ⟨es, c, h3, hR⟩, hc⟩
  · rw [if_neg (by simp [h2]), if_pos h3]
    exact ⟨h1, ⟨es, c, h4, hR⟩, hc⟩
  · rw [if_neg (by simp [h2]), if_neg h3, if_pos (by rw [← n1, ← n2, ← f1]; exact h4)]
    exact ⟨h1, ⟨es, c, h5, hR⟩, hc⟩
  · have hno : ¬ (s.room - tl s.L < bl.length ∨ (lk k s.L = none ∧ 200 ≤ s.L.length)) := by
      rw [← n1, ← n2, ← f1]
      rintro (h' | ⟨h', h''⟩)
      · omega
      · have := h5 h'; omega
    rw [if_neg (by simp [h2]), if_neg h3, if_neg hno]
    rw [f2, f3] at h6
    exact ⟨h1, ⟨_, _, h6, hR.put _ _ _ _ _⟩, hc⟩
theorem sync_s (bk r : Nat) (s : Vst) (k : ByteArray) (w : World) (h : VS w bk r s) (g : Good s) (hk : k.size ≤ 1000000000) :
    FnC Try.prog 11 #[.pointer (some ⟨bk, 0, none⟩), .string k] w fun v w' => v = .int .i64 (aSync k s).1 ∧ VS w' bk r (aSync k s).2 ∧ Chg w w' [bk, r] := by
  obtain ⟨es, c, hV, hR⟩ := h
  obtain ⟨n1, n2, n3, n4, n5⟩ := g.nums hV hR
  obtain ⟨f1, f2, f3⟩ := lk_find hR k
  refine (sync_c bk r _ _ es c k w hV g.fuse (named_at k hk) (fun e he => Nat.le_trans (n5 e he) (by omega))).mono ?_
  rintro v w' ⟨hA, hc⟩
  unfold aSync
  rcases hA with ⟨h1, h2, h3⟩ | ⟨h1, h2, h3, h4, h5⟩ | ⟨h1, h2, h3, e, h4, h5⟩
  · rw [if_pos (by rw [← f1]; exact h2)]
    exact ⟨h1, ⟨es, c, h3, hR⟩, hc⟩
  · rw [if_neg (by rw [← f1]; simp [h2, h3]), if_pos h4]
    exact ⟨h1, ⟨es, c, h5, hR⟩, hc⟩
  · have e1 : fB' k es = e.b := by unfold fB'; rw [h4]; rfl
    rw [if_neg (by rw [← f1]; simp [h2, h4]), if_neg h3, ← f2, e1]
    exact ⟨h1, ⟨_, _, h5, hR.put _ _ _ _ _⟩, hc⟩
theorem delete_s (bk r : Nat) (s : Vst) (k : ByteArray) (w : World) (h : VS w bk r s) (g : Good s) (hk : k.size ≤ 1000000000) :
    FnC Try.prog 30 #[.pointer (some ⟨bk, 0, none⟩), .string k] w fun v w' => v = .int .i64 (aDel k s).1 ∧ VS w' bk r (aDel k s).2 ∧ Chg w w' [bk, r] := by
  obtain ⟨es, c, hV, hR⟩ := h
  obtain ⟨f1, f2, f3⟩ := lk_find hR k
  refine (delete_c bk r _ _ es c k w hV g.fuse (named_at k hk)).mono ?_
  rintro v w' ⟨hA, hc⟩
  unfold aDel
  rcases hA with ⟨h1, h2, h3⟩ | ⟨h1, h2, h3, h4, h5⟩ | ⟨h1, h2, h3, h4, h5⟩
  · rw [if_pos (by rw [← f1]; exact h2)]
    exact ⟨h1, ⟨es, c, h3, hR⟩, hc⟩
  · rw [if_neg (by rw [← f1]; simp [h2, h3]), if_pos h4]
    exact ⟨h1, ⟨es, c, h5, hR⟩, hc⟩
  · rw [if_neg (by rw [← f1]; simp [h2, h3]), if_neg h4]
    exact ⟨h1, ⟨_, _, h5, hR.del hV.apart _⟩, hc⟩
theorem rename_s (bk r : Nat) (s : Vst) (k k2 : ByteArray) (w : World) (h : VS w bk r s) (g : Good s) (hk : k.size ≤ 1000000000) (hk2 : k2.size ≤ 1000000000) :
    FnC Try.prog 12 #[.pointer (some ⟨bk, 0, none⟩), .string k, .string k2] w fun v w' => v = .int .i64 (aRen k k2 s).1 ∧ VS w' bk r (aRen k k2 s).2 ∧ Chg w w' [bk, r] := by
  obtain ⟨es, c, hV, hR⟩ := h
  obtain ⟨f1, f2, f3⟩ := lk_find hR k
  refine (rename_c bk r _ _ es c k k2 w hV g.fuse (named_at k hk) (named_at k2 hk2)).mono ?_
  rintro v w' ⟨hA, hc⟩
  unfold aRen
  rcases hA with ⟨h1, h2, h3⟩ | ⟨h1, h2, h3, h4, h5, h6⟩ | ⟨h1, h2, h3, h4, e, h5, h6⟩
  · rw [if_pos (by rw [← f1]; exact h2)]
    exact ⟨h1, ⟨es, c, h3, hR⟩, hc⟩
  · rw [if_neg (by rw [← f1]; simp [h2, h3, h4]), if_pos h5]
    exact ⟨h1, ⟨es, c, h6, hR⟩, hc⟩
  · have e1 : fB' k es = e.b := by unfold fB'; rw [h5]; rfl
    have e2 : fS' k es = e.safe := by unfold fS'; rw [h5]; rfl
    rw [if_neg (by rw [← f1]; simp [h2, h3, h5]), if_neg h4, ← f2, ← f3, e1, e2]
    exact ⟨h1, ⟨_, _, h6, (hR.del hV.apart _).put _ _ _ _ _⟩, hc⟩
theorem crash_s (bk r : Nat) (s : Vst) (keep : Int) (w : World) (h : VS w bk r s) (g : Good s) (hk : -9223372036854775808 ≤ keep ∧ keep ≤ 9223372036854775807) :
    FnC Try.prog 13 #[.pointer (some ⟨bk, 0, none⟩), .int .i64 keep] w fun v w' => (∃ b2 r2, v = .pointer (some ⟨b2, 0, none⟩) ∧ w.heap.size ≤ b2 ∧ w.heap.size ≤ r2 ∧ VS w' b2 r2 (aCrash keep s)) ∧ Later w w' := by
  obtain ⟨es, c, hV, hR⟩ := h
  obtain ⟨n1, n2, n3, n4, n5⟩ := g.nums hV hR
  refine (crash_c bk r _ _ keep es c w hV hk (fun e he => Nat.le_trans (n5 e he) (by omega))).mono ?_
  rintro v w' ⟨⟨b2, r2, es2, c2, h1, h2, h3, h4, h5⟩, hl⟩
  refine ⟨⟨b2, r2, h1, h2, h3, es2, c2, h4, ⟨srd_cr keep g.srd, fun k => ?_⟩⟩, hl⟩
  rw [h5 k, hR.same k]
  exact (lk_cr keep k s.L).symm
end Go.Proofs.Ytmfcnooleejgmaa
end
section
namespace Go.Proofs.Ytmfcnooleejgmaa
open Go.Vc
set_option maxRecDepth 100000
variable (Q : Post) (ds : List Deferred) (σ : Env) (w : World)
end Go.Proofs.Ytmfcnooleejgmaa
end
section
set_option linter.unusedSimpArgs false
namespace Go.Proofs.Ytmfcnooleejgmaa
open Go.Vc Go.Vlt Go.Key
set_option maxRecDepth 100000
abbrev kA : ByteArray := ⟨#[97]⟩
theorem inB_new {w : World} {k n c : Nat} (hk : k < w.heap.size) : ∃ j, inB j (.slice (some ⟨w.heap.size, 0, none⟩) n c) ∧ j ≠ k := ⟨w.heap.size, .inr rfl, by omega⟩
theorem chg_later {w w1 w2 : World} {bk r : Nat} (h : Later w w1) (c : Chg w1 w2 [bk, r]) (hb : w.heap.size ≤ bk) (hr : w.heap.size ≤ r) : Later w w2 :=
  Chg.later h c fun k hk => by
    rcases List.mem_cons.1 hk with rfl | hk
    · exact hb
    · rw [List.mem_singleton.1 hk]; exact hr
theorem alive_c (w : World) : FnC Try.prog 15 #[] w fun v w' => v = .bool true ∧ Later w w' := by
  refine enter15 ?_
  unfold B15
  repeat' (first | (simp (disch := omega) only [push_cast, ↓reduceIte, zA, zG, zB, zH, zI, zC, zJ, zK, zL, zD, zE, zF, zM, zN, zO, zP, zQ, reduceCtorEq, not_true_eq_false, not_false_eq_true]) | (first | refine vIfE_of ?_ ?_ | refine vIfD_of ?_ ?_ | refine vIfQ_of ?_ ?_ | refine vIfV_of ?_ ?_) <;> intro _ | refine And.intro (by omega) ?_ | refine drawn_q ?_ | fail)
  refine (new_s 20 w (by omega)).mono ?_
  rintro _ w1 ⟨⟨_, hno⟩ | ⟨_, _, bk, r, hb, hr, rfl, V1⟩, l1⟩
  · exact absurd (by omega) hno
  have G1 : Good (s0 20) := s0_good (by omega)
  repeat' (first | (simp (disch := omega) only [push_cast, ↓reduceIte, zA, zG, zB, zH, zI, zC, zJ, zK, zL, zD, zE, zF, zM, zN, zO, zP, zQ, reduceCtorEq, not_true_eq_false, not_false_eq_true]) | (first | refine vIfE_of ?_ ?_ | refine vIfD_of ?_ ?_ | refine vIfQ_of ?_ ?_ | refine vIfV_of ?_ ?_) <;> intro _ | refine And.intro (by omega) ?_ | refine drawn_q ?_ | fail)
  refine vConv_const Try.underlying22 Try.underlying5 ?_
  have q1 : Later w1 (w1.alloc (.cells #[.int .u8 115, .int .u8 97, .int .u8 102, .int .u8 101] 5 (4, 5))) := later_alloc _ _
  have x1 : Sl (w1.alloc (.cells #[.int .u8 115, .int .u8 97, .int .u8 102, .int .u8 101] 5 (4, 5))) (.slice (some ⟨w1.heap.size, 0, none⟩) 4 4) (([115, 97, 102, 101] : List UInt8).map u8v) := Sl.litM w1 _ _ _ (by unfold maxLen; simp)
  have n1 := inB_new (n := 4) (c := 4) V1.lt.1
  generalize w1.alloc (.cells #[.int .u8 115, .int .u8 97, .int .u8 102, .int .u8 101] 5 (4, 5)) = w2 at *
  repeat' (first | (simp (disch := omega) only [push_cast, ↓reduceIte, zA, zG, zB, zH, zI, zC, zJ, zK, zL, zD, zE, zF, zM, zN, zO, zP, zQ, reduceCtorEq, not_true_eq_false, not_false_eq_true]) | (first | refine vIfE_of ?_ ?_ | refine vIfD_of ?_ ?_ | refine vIfQ_of ?_ ?_ | refine vIfV_of ?_ ?_) <;> intro _ | refine And.intro (by omega) ?_ | refine drawn_q ?_ | fail)
  refine (append_s bk r (s0 20) kA _ [115, 97, 102, 101] w2 (V1.later q1) G1 (by decide) x1 n1 (by simp)).mono ?_
  rintro _ w3 ⟨rfl, V3, c3⟩
  have G3 := aApp_good G1 kA [115, 97, 102, 101]
  have e3 : aApp kA [115, 97, 102, 101] (s0 20) = (0, ⟨20, -1, [⟨kA, [115, 97, 102, 101], 0⟩]⟩) := by kernel_rfl
  rw [e3] at V3 G3 ⊢
  dsimp only at V3 G3
  have l3 := chg_later (l1.trans q1) c3 hb hr
  repeat' (first | (simp (disch := omega) only [push_cast, ↓reduceIte, zA, zG, zB, zH, zI, zC, zJ, zK, zL, zD, zE, zF, zM, zN, zO, zP, zQ, reduceCtorEq, not_true_eq_false, not_false_eq_true]) | (first | refine vIfE_of ?_ ?_ | refine vIfD_of ?_ ?_ | refine vIfQ_of ?_ ?_ | refine vIfV_of ?_ ?_) <;> intro _ | refine And.intro (by omega) ?_ | refine drawn_q ?_ | fail)
  refine (sync_s bk r _ kA w3 V3 G3 (by decide)).mono ?_
  rintro _ w4 ⟨rfl, V4, c4⟩
  have G4 := aSync_good G3 kA
  have e4 : aSync kA ⟨20, -1, [⟨kA, [115, 97, 102, 101], 0⟩]⟩ = (0, ⟨20, -1, [⟨kA, [115, 97, 102, 101], 4⟩]⟩) := by kernel_rfl
  rw [e4] at V4 G4 ⊢
  dsimp only at V4 G4
  have l4 := chg_later l3 c4 hb hr
  repeat' (first | (simp (disch := omega) only [push_cast, ↓reduceIte, zA, zG, zB, zH, zI, zC, zJ, zK, zL, zD, zE, zF, zM, zN, zO, zP, zQ, reduceCtorEq, not_true_eq_false, not_false_eq_true]) | (first | refine vIfE_of ?_ ?_ | refine vIfD_of ?_ ?_ | refine vIfQ_of ?_ ?_ | refine vIfV_of ?_ ?_) <;> intro _ | refine And.intro (by omega) ?_ | refine drawn_q ?_ | fail)
  refine vConv_const Try.underlying22 Try.underlying5 ?_
  have q4 : Later w4 (w4.alloc (.cells #[.int .u8 109, .int .u8 111, .int .u8 114, .int .u8 101] 5 (4, 5))) := later_alloc _ _
  have x4 : Sl (w4.alloc (.cells #[.int .u8 109, .int .u8 111, .int .u8 114, .int .u8 101] 5 (4, 5))) (.slice (some ⟨w4.heap.size, 0, none⟩) 4 4) (([109, 111, 114, 101] : List UInt8).map u8v) := Sl.litM w4 _ _ _ (by unfold maxLen; simp)
  have n4 := inB_new (n := 4) (c := 4) V4.lt.1
  generalize w4.alloc (.cells #[.int .u8 109, .int .u8 111, .int .u8 114, .int .u8 101] 5 (4, 5)) = w5 at *
  repeat' (first | (simp (disch := omega) only [push_cast, ↓reduceIte, zA, zG, zB, zH, zI, zC, zJ, zK, zL, zD, zE, zF, zM, zN, zO, zP, zQ, reduceCtorEq, not_true_eq_false, not_false_eq_true]) | (first | refine vIfE_of ?_ ?_ | refine vIfD_of ?_ ?_ | refine vIfQ_of ?_ ?_ | refine vIfV_of ?_ ?_) <;> intro _ | refine And.intro (by omega) ?_ | refine drawn_q ?_ | fail)
  refine (append_s bk r _ kA _ [109, 111, 114, 101] w5 (V4.later q4) G4 (by decide) x4 n4 (by simp)).mono ?_
  rintro _ w6 ⟨rfl, V6, c6⟩
  have G6 := aApp_good G4 kA [109, 111, 114, 101]
  have e6 : aApp kA [109, 111, 114, 101] ⟨20, -1, [⟨kA, [115, 97, 102, 101], 4⟩]⟩ = (0, ⟨20, -1, [⟨kA, [115, 97, 102, 101, 109, 111, 114, 101], 4⟩]⟩) := by kernel_rfl
  rw [e6] at V6 G6 ⊢
  dsimp only at V6 G6
  have l6 := chg_later (l4.trans q4) c6 hb hr
  repeat' (first | (simp (disch := omega) only [push_cast, ↓reduceIte, zA, zG, zB, zH, zI, zC, zJ, zK, zL, zD, zE, zF, zM, zN, zO, zP, zQ, reduceCtorEq, not_true_eq_false, not_false_eq_true]) | (first | refine vIfE_of ?_ ?_ | refine vIfD_of ?_ ?_ | refine vIfQ_of ?_ ?_ | refine vIfV_of ?_ ?_) <;> intro _ | refine And.intro (by omega) ?_ | refine drawn_q ?_ | fail)
  refine (crash_s bk r _ 1 w6 V6 G6 (by omega)).mono ?_
  rintro _ w7 ⟨⟨b2, r2, rfl, hb2, hr2, V7⟩, l67⟩
  have G7 := aCrash_good G6 1
  have e7 : aCrash 1 ⟨20, -1, [⟨kA, [115, 97, 102, 101, 109, 111, 114, 101], 4⟩]⟩ = ⟨20, -1, [⟨kA, [115, 97, 102, 101, 109], 5⟩]⟩ := by kernel_rfl
  rw [e7] at V7 G7
  repeat' (first | (simp (disch := omega) only [push_cast, ↓reduceIte, zA, zG, zB, zH, zI, zC, zJ, zK, zL, zD, zE, zF, zM, zN, zO, zP, zQ, reduceCtorEq, not_true_eq_false, not_false_eq_true]) | (first | refine vIfE_of ?_ ?_ | refine vIfD_of ?_ ?_ | refine vIfQ_of ?_ ?_ | refine vIfV_of ?_ ?_) <;> intro _ | refine And.intro (by omega) ?_ | refine drawn_q ?_ | fail)
  refine (read_s b2 r2 _ kA w7 V7 G7).mono ?_
  rintro _ w8 ⟨⟨x, rfl, hx⟩, l78⟩
  have e8 : (lk kA [⟨kA, [115, 97, 102, 101, 109], 5⟩]).isSome = true := by kernel_rfl
  have e8' : oB kA [⟨kA, [115, 97, 102, 101, 109], 5⟩] = [115, 97, 102, 101, 109] := by kernel_rfl
  rw [e8', ] at hx
  rw [e8]
  obtain ⟨xo, xc, rfl⟩ := hx.slice
  have l8 := l6.trans (l67.trans l78)
  have V8 := V6.later (l67.trans l78)
  repeat' (first | (simp (disch := omega) only [push_cast, ↓reduceIte, zA, zG, zB, zH, zI, zC, zJ, zK, zL, zD, zE, zF, zM, zN, zO, zP, zQ, reduceCtorEq, not_true_eq_false, not_false_eq_true]) | (first | refine vIfE_of ?_ ?_ | refine vIfD_of ?_ ?_ | refine vIfQ_of ?_ ?_ | refine vIfV_of ?_ ?_) <;> intro _ | refine And.intro (by omega) ?_ | refine drawn_q ?_ | fail)
  refine vConv_bytes Try.underlying22 Try.underlying9 Try.underlying5 hx.sl ?_
  have es : decide (strOf [115, 97, 102, 101, 109] = ⟨#[115, 97, 102, 101, 109]⟩) = true := decide_eq_true rfl
  repeat' (first | (simp (disch := omega) only [push_cast, ↓reduceIte, zA, zG, zB, zH, zI, zC, zJ, zK, zL, zD, zE, zF, zM, zN, zO, zP, zQ, reduceCtorEq, not_true_eq_false, not_false_eq_true, es]) | (first | refine vIfE_of ?_ ?_ | refine vIfD_of ?_ ?_ | refine vIfQ_of ?_ ?_ | refine vIfV_of ?_ ?_) <;> intro _ | refine And.intro (by omega) ?_ | refine drawn_q ?_ | fail)
  refine (free_s bk r _ w8 V8 G6).mono ?_
  rintro _ w9 ⟨rfl, l89⟩
  have e9 : (20 : Int) - tl [⟨kA, [115, 97, 102, 101, 109, 111, 114, 101], 4⟩] = 12 := by kernel_rfl
  have l9 := l8.trans l89
  have V9 := V8.later l89
  dsimp only
  rw [e9]
  repeat' (first | (simp (disch := omega) only [push_cast, ↓reduceIte, zA, zG, zB, zH, zI, zC, zJ, zK, zL, zD, zE, zF, zM, zN, zO, zP, zQ, reduceCtorEq, not_true_eq_false, not_false_eq_true]) | (first | refine vIfE_of ?_ ?_ | refine vIfD_of ?_ ?_ | refine vIfQ_of ?_ ?_ | refine vIfV_of ?_ ?_) <;> intro _ | refine And.intro (by omega) ?_ | refine drawn_q ?_ | fail)
  refine vMakeSlice_ok (n := 13) Try.underlying22 ti5 rfl (by omega) (by unfold maxLen; omega) ?_
  have q9 : Later w9 (w9.alloc (.cells (List.replicate 13 (.int .u8 0)).toArray 5)) := later_alloc _ _
  have x9 : Sl (w9.alloc (.cells (List.replicate 13 (.int .u8 0)).toArray 5)) (.slice (some ⟨w9.heap.size, 0, none⟩) 13 13) ((List.replicate 13 (0 : UInt8)).map u8v) := Sl.of_blk (Blk.new w9 _ _) rfl (by unfold maxLen; omega)
  have n9 := inB_new (n := 13) (c := 13) V9.lt.1
  generalize w9.alloc (.cells (List.replicate 13 (.int .u8 0)).toArray 5) = w10 at *
  repeat' (first | (simp (disch := omega) only [push_cast, ↓reduceIte, zA, zG, zB, zH, zI, zC, zJ, zK, zL, zD, zE, zF, zM, zN, zO, zP, zQ, reduceCtorEq, not_true_eq_false, not_false_eq_true]) | (first | refine vIfE_of ?_ ?_ | refine vIfD_of ?_ ?_ | refine vIfQ_of ?_ ?_ | refine vIfV_of ?_ ?_) <;> intro _ | refine And.intro (by omega) ?_ | refine drawn_q ?_ | fail)
  refine (append_s bk r _ ⟨#[98]⟩ _ (List.replicate 13 0) w10 (V9.later q9) G6 (by decide) x9 n9 (by simp)).mono ?_
  rintro _ w11 ⟨rfl, V11, c11⟩
  have G11 := aApp_good G6 ⟨#[98]⟩ (List.replicate 13 0)
  have e11 : aApp ⟨#[98]⟩ (List.replicate 13 0) ⟨20, -1, [⟨kA, [115, 97, 102, 101, 109, 111, 114, 101], 4⟩]⟩ = (32, ⟨20, -1, [⟨kA, [115, 97, 102, 101, 109, 111, 114, 101], 4⟩]⟩) := by kernel_rfl
  rw [e11] at V11 G11 ⊢
  dsimp only at V11 G11
  have l11 := chg_later (l9.trans q9) c11 hb hr
  repeat' (first | (simp (disch := omega) only [push_cast, ↓reduceIte, zA, zG, zB, zH, zI, zC, zJ, zK, zL, zD, zE, zF, zM, zN, zO, zP, zQ, reduceCtorEq, not_true_eq_false, not_false_eq_true]) | (first | refine vIfE_of ?_ ?_ | refine vIfD_of ?_ ?_ | refine vIfQ_of ?_ ?_ | refine vIfV_of ?_ ?_) <;> intro _ | refine And.intro (by omega) ?_ | refine drawn_q ?_ | fail)
  refine (arm_s bk r _ 1 w11 V11).mono ?_
  rintro _ w12 ⟨rfl, V12, c12⟩
  have G12 := aArm_good G11 1 (by omega)
  have e12 : aArm 1 ⟨20, -1, [⟨kA, [115, 97, 102, 101, 109, 111, 114, 101], 4⟩]⟩ = (0, ⟨20, 1, [⟨kA, [115, 97, 102, 101, 109, 111, 114, 101], 4⟩]⟩) := by kernel_rfl
  rw [e12] at V12 G12 ⊢
  dsimp only at V12 G12
  have l12 := chg_later l11 c12 hb hr
  repeat' (first | (simp (disch := omega) only [push_cast, ↓reduceIte, zA, zG, zB, zH, zI, zC, zJ, zK, zL, zD, zE, zF, zM, zN, zO, zP, zQ, reduceCtorEq, not_true_eq_false, not_false_eq_true]) | (first | refine vIfE_of ?_ ?_ | refine vIfD_of ?_ ?_ | refine vIfQ_of ?_ ?_ | refine vIfV_of ?_ ?_) <;> intro _ | refine And.intro (by omega) ?_ | refine drawn_q ?_ | fail)
  refine (delete_s bk r _ kA w12 V12 G12 (by decide)).mono ?_
  rintro _ w13 ⟨rfl, V13, c13⟩
  have e13 : aDel kA ⟨20, 1, [⟨kA, [115, 97, 102, 101, 109, 111, 114, 101], 4⟩]⟩ = (272, ⟨20, 0, [⟨kA, [115, 97, 102, 101, 109, 111, 114, 101], 4⟩]⟩) := by kernel_rfl
  rw [e13] at V13 ⊢
  dsimp only at V13
  have l13 := chg_later l12 c13 hb hr
  repeat' (first | (simp (disch := omega) only [push_cast, ↓reduceIte, zA, zG, zB, zH, zI, zC, zJ, zK, zL, zD, zE, zF, zM, zN, zO, zP, zQ, reduceCtorEq, not_true_eq_false, not_false_eq_true]) | (first | refine vIfE_of ?_ ?_ | refine vIfD_of ?_ ?_ | refine vIfQ_of ?_ ?_ | refine vIfV_of ?_ ?_) <;> intro _ | refine And.intro (by omega) ?_ | refine drawn_q ?_ | fail)
  refine (broken_s bk r _ w13 V13).mono ?_
  rintro _ w14 ⟨rfl, h14⟩
  obtain rfl := h14.symm
  have e14 : decide ((0 : Int) = 0) = true := rfl
  dsimp only
  rw [e14]
  repeat' (first | (simp (disch := omega) only [push_cast, ↓reduceIte, zA, zG, zB, zH, zI, zC, zJ, zK, zL, zD, zE, zF, zM, zN, zO, zP, zQ, reduceCtorEq, not_true_eq_false, not_false_eq_true]) | (first | refine vIfE_of ?_ ?_ | refine vIfD_of ?_ ?_ | refine vIfQ_of ?_ ?_ | refine vIfV_of ?_ ?_) <;> intro _ | refine And.intro (by omega) ?_ | refine drawn_q ?_ | fail)
  first | exact ⟨rfl, l13⟩ | exact l13
end Go.Proofs.Ytmfcnooleejgmaa
end
section
namespace Go.Proofs.Ytmfcnooleejgmaa
open Go.Vc
set_option maxRecDepth 100000
variable (Q : Post) (ds : List Deferred) (σ : Env) (w : World)
/-! 35 slices.Sorted[string] (params #[67], results #[(.tmp 2)], 9 slots) -/
def r35_0 : List VOp :=
  [⟨some 2, .assign (.const (.slice none 0 0)), 40, none⟩]
def r35_1 : List VOp :=
  [mv 4 0 67,
   ⟨some 5, .call ⟨.value (.func 47), #[.tmp 4], #[67]⟩, 40, none⟩,
   asg 3 5 40]
def r35_2 : List VOp :=
  [mv 6 3 40,
   ⟨some 7, .call ⟨.value (.func 48), #[.tmp 6], #[40]⟩, 0, none⟩]
def r35_3 : List VOp :=
  [mv 8 3 40,
   asg 2 8 40]
def B35 : VC :=
  (.seq (.region r35_0) (.seq (.region r35_1) (.seq (.region r35_2) (.seq (.region r35_3) .ret))))
theorem code35 : ∃ c, Try.f35.body = some c ∧ abs Try.f35.ntmps c = B35 := ⟨_, rfl, by kernel_rfl⟩
theorem hb35 : HasBody Try.prog 35 := hasBody_of Try.func35 (by kernel_rfl)
theorem res35 : Try.f35.results = #[(.tmp 2)] := rfl
theorem enter35 {w : World} {R : Value → World → Prop} (x0 : Value) (h : vc Try.prog B35 (retK Try.prog #[(.tmp 2)] R) [] (initEnv [x0] 0) w) : FnC Try.prog 35 #[x0] w R := by
  obtain ⟨c, h1, h2⟩ := code35
  exact hb35.fn (ret_of_vc mixed Try.func35 h1 (Nat.le_of_ble_eq_true rfl) B35 h2 h)
@[push_cast] theorem vr35_0 : VR r35_0 [⟨some 2, .assign (.const (.slice none 0 0)), 40, none⟩] := vR rfl
@[push_cast] theorem vr35_1 : VR r35_1 [⟨some 4, .move (.tmp 0), 67, none⟩, ⟨some 5, .call ⟨.value (.func 47), #[.tmp 4], #[67]⟩, 40, none⟩, ⟨some 3, .assign (.tmp 5), 40, none⟩] := vR rfl
@[push_cast] theorem vr35_2 : VR r35_2 [⟨some 6, .move (.tmp 3), 40, none⟩, ⟨some 7, .call ⟨.value (.func 48), #[.tmp 6], #[40]⟩, 0, none⟩] := vR rfl
@[push_cast] theorem vr35_3 : VR r35_3 [⟨some 8, .move (.tmp 3), 40, none⟩, ⟨some 2, .assign (.tmp 8), 40, none⟩] := vR rfl
/-! 36 maps.Keys[map[string]columbary/vault.file,string,columbary/vault.file] (params #[55], results #[(.tmp 2)], 4 slots) -/
def r36_0 : List VOp :=
  [⟨some 1, .box 55 (.tmp 0), 0, none⟩,
   ⟨some 2, .assign (.const .nilFunc), 67, none⟩]
def r36_1 : List VOp :=
  [⟨some 3, .makeFunc (Fn.func 49) #[] #[(.tmp 1)], 66, none⟩,
   asg 2 3 67]
def B36 : VC :=
  (.seq (.region r36_0) (.seq (.region r36_1) .ret))
theorem code36 : ∃ c, Try.f36.body = some c ∧ abs Try.f36.ntmps c = B36 := ⟨_, rfl, by kernel_rfl⟩
theorem hb36 : HasBody Try.prog 36 := hasBody_of Try.func36 (by kernel_rfl)
theorem res36 : Try.f36.results = #[(.tmp 2)] := rfl
theorem enter36 {w : World} {R : Value → World → Prop} (x0 : Value) (h : vc Try.prog B36 (retK Try.prog #[(.tmp 2)] R) [] (initEnv [x0] 0) w) : FnC Try.prog 36 #[x0] w R := by
  obtain ⟨c, h1, h2⟩ := code36
  exact hb36.fn (ret_of_vc mixed Try.func36 h1 (Nat.le_of_ble_eq_true rfl) B36 h2 h)
@[push_cast] theorem vr36_0 : VR r36_0 [⟨some 1, .box 55 (.tmp 0), 0, none⟩, ⟨some 2, .assign (.const .nilFunc), 67, none⟩] := vR rfl
@[push_cast] theorem vr36_1 : VR r36_1 [⟨some 3, .makeFunc (Fn.func 49) #[] #[(.tmp 1)], 66, none⟩, ⟨some 2, .assign (.tmp 3), 67, none⟩] := vR rfl
/-! 41 maps.Clone[map[string]columbary/vault.file,string,columbary/vault.file] (params #[55], results #[(.tmp 2)], 9 slots) -/
def r41_0 : List VOp :=
  [⟨some 2, .assign (.const (.map none)), 55, none⟩]
def r41_1 : List VOp :=
  [mv 3 0 55,
   ⟨some 4, .binOp .eql 55 (.tmp 3) (.const (.map none)) 55, 4, none⟩]
def r41_2 : List VOp :=
  [⟨some 2, .assign (.const (.map none)), 55, none⟩]
def r41_3 : List VOp :=
  [mv 5 0 55,
   ⟨some 6, .makeInterface 55 (.tmp 5), 20, none⟩,
   ⟨some 7, .call ⟨.value (.func 54), #[.tmp 6], #[20]⟩, 20, none⟩,
   ⟨some 8, .typeAssert (.tmp 7) 20 55 false, 55, none⟩,
   asg 2 8 55]
def B41 : VC :=
  (.seq (.region r41_0) (.seq (.seq (.region r41_1) (.cond (.tmp 4) (.seq (.region r41_2) .ret) .skip)) (.seq (.region r41_3) .ret)))
theorem code41 : ∃ c, Try.f41.body = some c ∧ abs Try.f41.ntmps c = B41 := ⟨_, rfl, by kernel_rfl⟩
theorem hb41 : HasBody Try.prog 41 := hasBody_of Try.func41 (by kernel_rfl)
theorem res41 : Try.f41.results = #[(.tmp 2)] := rfl
theorem enter41 {w : World} {R : Value → World → Prop} (x0 : Value) (h : vc Try.prog B41 (retK Try.prog #[(.tmp 2)] R) [] (initEnv [x0] 0) w) : FnC Try.prog 41 #[x0] w R := by
  obtain ⟨c, h1, h2⟩ := code41
  exact hb41.fn (ret_of_vc mixed Try.func41 h1 (Nat.le_of_ble_eq_true rfl) B41 h2 h)
@[push_cast] theorem vr41_0 : VR r41_0 [⟨some 2, .assign (.const (.map none)), 55, none⟩] := vR rfl
@[push_cast] theorem vr41_1 : VR r41_1 [⟨some 3, .move (.tmp 0), 55, none⟩, ⟨some 4, .binOp .eql 55 (.tmp 3) (.const (.map none)) 55, 4, none⟩] := vR rfl
@[push_cast] theorem vr41_2 : VR r41_2 [⟨some 2, .assign (.const (.map none)), 55, none⟩] := vR rfl
@[push_cast] theorem vr41_3 : VR r41_3 [⟨some 5, .move (.tmp 0), 55, none⟩, ⟨some 6, .makeInterface 55 (.tmp 5), 20, none⟩, ⟨some 7, .call ⟨.value (.func 54), #[.tmp 6], #[20]⟩, 20, none⟩, ⟨some 8, .typeAssert (.tmp 7) 20 55 false, 55, none⟩, ⟨some 2, .assign (.tmp 8), 55, none⟩] := vR rfl
/-! 47 slices.Collect[string] (params #[67], results #[(.tmp 2)], 5 slots) -/
def r47_0 : List VOp :=
  [⟨some 2, .assign (.const (.slice none 0 0)), 40, none⟩]
def r47_1 : List VOp :=
  [mv 3 0 67,
   ⟨some 4, .call ⟨.value (.func 58), #[(.const (.slice none 0 0)), .tmp 3], #[40, 67]⟩, 40, none⟩,
   asg 2 4 40]
def B47 : VC :=
  (.seq (.region r47_0) (.seq (.region r47_1) .ret))
theorem code47 : ∃ c, Try.f47.body = some c ∧ abs Try.f47.ntmps c = B47 := ⟨_, rfl, by kernel_rfl⟩
theorem hb47 : HasBody Try.prog 47 := hasBody_of Try.func47 (by kernel_rfl)
theorem res47 : Try.f47.results = #[(.tmp 2)] := rfl
theorem enter47 {w : World} {R : Value → World → Prop} (x0 : Value) (h : vc Try.prog B47 (retK Try.prog #[(.tmp 2)] R) [] (initEnv [x0] 0) w) : FnC Try.prog 47 #[x0] w R := by
  obtain ⟨c, h1, h2⟩ := code47
  exact hb47.fn (ret_of_vc mixed Try.func47 h1 (Nat.le_of_ble_eq_true rfl) B47 h2 h)
@[push_cast] theorem vr47_0 : VR r47_0 [⟨some 2, .assign (.const (.slice none 0 0)), 40, none⟩] := vR rfl
@[push_cast] theorem vr47_1 : VR r47_1 [⟨some 3, .move (.tmp 0), 67, none⟩, ⟨some 4, .call ⟨.value (.func 58), #[(.const (.slice none 0 0)), .tmp 3], #[40, 67]⟩, 40, none⟩, ⟨some 2, .assign (.tmp 4), 40, none⟩] := vR rfl
/-! 49 maps.Keys[map[string]columbary/vault.file,string,columbary/vault.file]$1 (params #[77], results #[], 14 slots) -/
def W49_0 : List Nat := [3, 6, 7, 8, 9, 10, 11, 12, 13]
@[push_cast] theorem W49_0_def : W49_0 = [3, 6, 7, 8, 9, 10, 11, 12, 13] := mk_eq rfl
def r49_0 : List VOp :=
  [lda 4 55 1,
   ⟨some 5, .range 55 (.tmp 4), 0, none⟩]
def r49_1 : List VOp :=
  [⟨some 6, .next (.tmp 5) false, 0, none⟩,
   ext 7 6 0 4]
def r49_2 : List VOp :=
  [⟨some 8, .entry (.tmp 5), 0, none⟩,
   ext 9 8 0 9,
   asg 3 9 9]
def r49_3 : List VOp :=
  [mv 10 0 77,
   mv 11 3 9,
   ⟨some 12, .call ⟨.value (.tmp 10), #[.tmp 11], #[9]⟩, 4, none⟩,
   ⟨some 13, .unOp .not 4 (.tmp 12), 4, none⟩]
def B49 : VC :=
  (.seq (.region r49_0) (.block 0 (.loop (.seq (.region r49_1) (.seq (.cond (.tmp 7) .skip (.exit 0)) (.block 1 (.seq (.region r49_2) (.seq (.region r49_3) (.cond (.tmp 13) .ret .skip)))))))))
theorem code49 : ∃ c, Try.f49.body = some c ∧ abs Try.f49.ntmps c = B49 := ⟨_, rfl, by kernel_rfl⟩
theorem hb49 : HasBody Try.prog 49 := hasBody_of Try.func49 (by kernel_rfl)
theorem res49 : Try.f49.results = #[] := rfl
theorem enter49 {w : World} {R : Value → World → Prop} (x0 x1 : Value) (h : vc Try.prog B49 (retK Try.prog #[] R) [] (initEnv [x0, x1] 0) w) : FnC Try.prog 49 #[x0, x1] w R := by
  obtain ⟨c, h1, h2⟩ := code49
  exact hb49.fn (ret_of_vc mixed Try.func49 h1 (Nat.le_of_ble_eq_true rfl) B49 h2 h)
@[push_cast] theorem vr49_0 : VR r49_0 [⟨some 4, .load 55 (.tmp 1), 55, none⟩, ⟨some 5, .range 55 (.tmp 4), 0, none⟩] := vR rfl
@[push_cast] theorem vr49_1 : VR r49_1 [⟨some 6, .next (.tmp 5) false, 0, none⟩, ⟨some 7, .extract (.tmp 6) 0, 4, none⟩] := vR rfl
@[push_cast] theorem vr49_2 : VR r49_2 [⟨some 8, .entry (.tmp 5), 0, none⟩, ⟨some 9, .extract (.tmp 8) 0, 9, none⟩, ⟨some 3, .assign (.tmp 9), 9, none⟩] := vR rfl
@[push_cast] theorem vr49_3 : VR r49_3 [⟨some 10, .move (.tmp 0), 77, none⟩, ⟨some 11, .move (.tmp 3), 9, none⟩, ⟨some 12, .call ⟨.value (.tmp 10), #[.tmp 11], #[9]⟩, 4, none⟩, ⟨some 13, .unOp .not 4 (.tmp 12), 4, none⟩] := vR rfl
/-! 58 slices.AppendSeq[[]string,string] (params #[40, 67], results #[(.tmp 4)], 13 slots) -/
def r58_0 : List VOp :=
  [⟨some 2, .box 40 (.tmp 0), 0, none⟩,
   ⟨some 4, .assign (.const (.slice none 0 0)), 40, none⟩]
def r58_1 : List VOp :=
  [mv 6 1 67]
def r58_2 : List VOp :=
  [asg 5 7 9]
def r58_3 : List VOp :=
  [lda 8 40 2,
   mv 9 5 9,
   ⟨some 10, .buildSlice 40 1 #[(0, (.tmp 9))], 40, none⟩,
   ⟨some 11, .call ⟨.builtin .append, #[.tmp 8, .tmp 10], #[40, 40]⟩, 40, none⟩,
   ⟨none, .store 40 (.tmp 2) (.tmp 11), 0, none⟩]
def r58_4 : List VOp :=
  [lda 12 40 2,
   asg 4 12 40]
def B58 : VC :=
  (.seq (.region r58_0) (.seq (.seq (.region r58_1) (.block 0 (.rangeFunc (.tmp 6) [7] (.region r58_2) (.block 1 (.region r58_3))))) (.seq (.region r58_4) .ret)))
theorem code58 : ∃ c, Try.f58.body = some c ∧ abs Try.f58.ntmps c = B58 := ⟨_, rfl, by kernel_rfl⟩
theorem hb58 : HasBody Try.prog 58 := hasBody_of Try.func58 (by kernel_rfl)
theorem res58 : Try.f58.results = #[(.tmp 4)] := rfl
theorem enter58 {w : World} {R : Value → World → Prop} (x0 x1 : Value) (h : vc Try.prog B58 (retK Try.prog #[(.tmp 4)] R) [] (initEnv [x0, x1] 0) w) : FnC Try.prog 58 #[x0, x1] w R := by
  obtain ⟨c, h1, h2⟩ := code58
  exact hb58.fn (ret_of_vc mixed Try.func58 h1 (Nat.le_of_ble_eq_true rfl) B58 h2 h)
@[push_cast] theorem vr58_0 : VR r58_0 [⟨some 2, .box 40 (.tmp 0), 0, none⟩, ⟨some 4, .assign (.const (.slice none 0 0)), 40, none⟩] := vR rfl
@[push_cast] theorem vr58_1 : VR r58_1 [⟨some 6, .move (.tmp 1), 67, none⟩] := vR rfl
@[push_cast] theorem vr58_2 : VR r58_2 [⟨some 5, .assign (.tmp 7), 9, none⟩] := vR rfl
@[push_cast] theorem vr58_3 : VR r58_3 [⟨some 8, .load 40 (.tmp 2), 40, none⟩, ⟨some 9, .move (.tmp 5), 9, none⟩, ⟨some 10, .buildSlice 40 1 #[(0, (.tmp 9))], 40, none⟩, ⟨some 11, .call ⟨.builtin .append, #[.tmp 8, .tmp 10], #[40, 40]⟩, 40, none⟩, ⟨none, .store 40 (.tmp 2) (.tmp 11), 0, none⟩] := vR rfl
@[push_cast] theorem vr58_4 : VR r58_4 [⟨some 12, .load 40 (.tmp 2), 40, none⟩, ⟨some 4, .assign (.tmp 12), 40, none⟩] := vR rfl
@[push_cast] theorem bsl40_1_CodesV3 {K : Value → World → Prop} {w : World} (x0 : ByteArray) : vBuildSlice Try.prog 40 1 #[(0, (.string x0))] K w = K (.slice (some ⟨w.heap.size, 0, none⟩) 1 1) (w.alloc (.cells #[(.string x0)] 9)) :=
  vBuildSlice_ok Try.underlying40 ti9 (by kernel_rfl) (by decide)
end Go.Proofs.Ytmfcnooleejgmaa
end
section
set_option linter.unusedSimpArgs false
namespace Go.Vc
open Go.RowKit
/-- What the runtime hands back for a map's copy: a new block with the same entries. -/
theorem run_maps_clone {P : Program} {w : World} {r : Nat} {es : Array MapEntry} {clock : Nat} (t : TypeId) (hb : w.heap[r]? = some (.map es clock)) :
    (Extern.MapsClone.clone #[.iface t (.map (some r))]).run P w = .ok (.iface t (.map (some w.heap.size))) (w.alloc (.map es clock)) := by
  have e : Extern.MapsClone.clone #[.iface t (.map (some r))] = (getObj r >>= fun o => match o with
      | .map entries clock => (newObj (.map entries clock) >>= fun n => pure (.iface t (.map (some n))))
      | _ => stuck "maps.clone: a map expected") := rfl
  rw [e]
  simp [MapKept.run_getObj_map hb, Result.andThen]
theorem vX_iface {P : Program} {t ty k e : TypeId} {x : Operand} {σ : Env} {K : Value → World → Prop} {w : World} (hu : P.underlying t = some (.map k e)) {v : Value} (hx : ev σ x = v) (h : K (.iface t v) w) : vcOp P (.makeInterface t x) ty σ w K := by
  show vcUp P K ((val (Instr.makeInterface t (ev σ x))).run P w)
  rw [hx, run_val_pure (show (Instr.makeInterface t v).run P w = .ok (.iface t v) w by simp [Instr.makeInterface, run_underlying hu])]
  exact h
theorem run_typeAssert_map {P : Program} {w : World} (t xT k e : TypeId) (v : Value) (h : P.underlying t = some (.map k e)) : (Instr.typeAssert (.iface t v) xT t false).run P w = .ok v w := by
  simp [Instr.typeAssert, run_underlying h, go_sem, Result.andThen]
theorem vX_assert {P : Program} {t xT ty k e : TypeId} {x : Operand} {σ : Env} {K : Value → World → Prop} {w : World} {v : Value} (hu : P.underlying t = some (.map k e)) (hx : ev σ x = .iface t v) (h : K v w) : vcOp P (.typeAssert x xT t false) ty σ w K := by
  show vcUp P K ((val (Instr.typeAssert (ev σ x) xT t false)).run P w)
  rw [hx, run_val_pure (run_typeAssert_map t xT k e v hu)]
  exact h
end Go.Vc
namespace Go.Proofs.Ytmfcnooleejgmaa
open Go.Vc Go.Vlt Go.Key
set_option maxRecDepth 100000
theorem mclone0_c (r : Nat) (l : List Ent) (c : Nat) (w : World) (h : MapB w r l c) : FnC Try.prog 54 #[.iface 55 (.map (some r))] w fun v w' => v = .iface 55 (.map (some w.heap.size)) ∧ w' = w.alloc (.map (l.map mE).toArray c) := by
  unfold FnC
  rw [run_callFunc_extern Try.func54 (by kernel_rfl) (by kernel_rfl) (by kernel_rfl) (e := Extern.MapsClone.clone) (by kernel_rfl), run_maps_clone _ h]
  exact ⟨rfl, rfl⟩
theorem mclone_c (r : Nat) (l : List Ent) (c : Nat) (w : World) (h : MapB w r l c) : FnC Try.prog 41 #[.map (some r)] w fun v w' => (∃ r2, v = .map (some r2) ∧ w.heap.size ≤ r2 ∧ MapB w' r2 l c) ∧ Later w w' := by
  refine enter41 _ ?_
  unfold B41
  repeat' (first | (simp (disch := omega) only [push_cast, ↓reduceIte, zA, zG, zB, zH, zI, zC, zJ, zK, zL, zD, zE, zF, zM, zN, zO, zP, zQ, reduceCtorEq, not_true_eq_false, not_false_eq_true]) | (first | refine vIfE_of ?_ ?_ | refine vIfD_of ?_ ?_ | refine vIfQ_of ?_ ?_ | refine vIfV_of ?_ ?_) <;> intro _ | refine And.intro (by omega) ?_ | refine drawn_q ?_ | fail)
  refine vX_iface Try.underlying55 (v := .map (some r)) (by simp (disch := omega) only [push_cast, ↓reduceIte, zA, zG, zB, zH, zI, zC, zJ, zK, zL, zD, zE, zF, zM, zN, zO, zP, zQ, reduceCtorEq, not_true_eq_false, not_false_eq_true]) ?_
  repeat' (first | (simp (disch := omega) only [push_cast, ↓reduceIte, zA, zG, zB, zH, zI, zC, zJ, zK, zL, zD, zE, zF, zM, zN, zO, zP, zQ, reduceCtorEq, not_true_eq_false, not_false_eq_true]) | (first | refine vIfE_of ?_ ?_ | refine vIfD_of ?_ ?_ | refine vIfQ_of ?_ ?_ | refine vIfV_of ?_ ?_) <;> intro _ | refine And.intro (by omega) ?_ | refine drawn_q ?_ | fail)
  refine (mclone0_c r l c w h).mono ?_
  rintro _ w1 ⟨rfl, rfl⟩
  repeat' (first | (simp (disch := omega) only [push_cast, ↓reduceIte, zA, zG, zB, zH, zI, zC, zJ, zK, zL, zD, zE, zF, zM, zN, zO, zP, zQ, reduceCtorEq, not_true_eq_false, not_false_eq_true]) | (first | refine vIfE_of ?_ ?_ | refine vIfD_of ?_ ?_ | refine vIfQ_of ?_ ?_ | refine vIfV_of ?_ ?_) <;> intro _ | refine And.intro (by omega) ?_ | refine drawn_q ?_ | fail)
  refine vX_assert Try.underlying55 (v := .map (some w.heap.size)) (by simp (disch := omega) only [push_cast, ↓reduceIte, zA, zG, zB, zH, zI, zC, zJ, zK, zL, zD, zE, zF, zM, zN, zO, zP, zQ, reduceCtorEq, not_true_eq_false, not_false_eq_true]) ?_
  repeat' (first | (simp (disch := omega) only [push_cast, ↓reduceIte, zA, zG, zB, zH, zI, zC, zJ, zK, zL, zD, zE, zF, zM, zN, zO, zP, zQ, reduceCtorEq, not_true_eq_false, not_false_eq_true]) | (first | refine vIfE_of ?_ ?_ | refine vIfD_of ?_ ?_ | refine vIfQ_of ?_ ?_ | refine vIfV_of ?_ ?_) <;> intro _ | refine And.intro (by omega) ?_ | refine drawn_q ?_ | fail)
  exact ⟨⟨_, rfl, Nat.le_refl _, heap_new w _⟩, later_alloc _ _⟩
def MapV (B : Nat) (l : List Ent) (c : Nat) (v : Value) (w : World) : Prop := ∃ r2, v = .map (some r2) ∧ B ≤ r2 ∧ MapB w r2 l c
theorem stb_map (w0 : World) (B : Nat) (l : List Ent) (c : Nat) : Stb w0 (MapV B l c) := by
  rintro v w w' _ hl ⟨r2, h1, h2, h3⟩
  exact ⟨r2, h1, h2, (hl.block r2 (Array.getElem?_eq_some_iff.1 h3).1).trans h3⟩
theorem copy_c (bk r : Nat) (room fuse : Int) (es : List VE) (c : Nat) (w : World) (h : Vt w bk r room fuse es c) :
    FnC Try.prog 23 #[.pointer (some ⟨bk, 0, none⟩)] w fun v w' => (∃ b2 r2, v = .pointer (some ⟨b2, 0, none⟩) ∧ w.heap.size ≤ b2 ∧ w.heap.size ≤ r2 ∧ Vt w' b2 r2 room fuse es c) ∧ Later w w' := by
  refine enter23 _ ?_
  unfold B23
  have f0 : w.cell? ⟨bk, 0, none⟩ = some (.int .i64 room) := h.blk.cell 0
  have f1 : w.cell? ⟨bk, 1, none⟩ = some (.int .i64 fuse) := h.blk.cell 1
  have f2 : w.cell? ⟨bk, 2, none⟩ = some (.map (some r)) := h.blk.cell 2
  repeat' (first | (simp (disch := omega) only [push_cast, ↓reduceIte, zA, zG, zB, zH, zI, zC, zJ, zK, zL, zD, zE, zF, zM, zN, zO, zP, zQ, reduceCtorEq, not_true_eq_false, not_false_eq_true, f0, f1, f2, addr_add_eq, Nat.zero_add]) | (first | refine vIfE_of ?_ ?_ | refine vIfD_of ?_ ?_ | refine vIfQ_of ?_ ?_ | refine vIfV_of ?_ ?_) <;> intro _ | refine And.intro (by omega) ?_ | fail)
  refine drawn_k 13 ?_
  repeat' (first | (simp (disch := omega) only [push_cast, ↓reduceIte, zA, zG, zB, zH, zI, zC, zJ, zK, zL, zD, zE, zF, zM, zN, zO, zP, zQ, reduceCtorEq, not_true_eq_false, not_false_eq_true, f0, f1, f2, addr_add_eq, Nat.zero_add]) | (first | refine vIfE_of ?_ ?_ | refine vIfD_of ?_ ?_ | refine vIfQ_of ?_ ?_ | refine vIfV_of ?_ ?_) <;> intro _ | refine And.intro (by omega) ?_ | fail)
  refine NFn.of hb41 (MapV w.heap.size (es.map VE.ent) c) (stb_map _ _ _ _) (fun w' hl => (mclone_c r (es.map VE.ent) c w' (h.later hl).map).mono ?_) ?_
  · rintro v w'' ⟨⟨r2, h1, h2, h3⟩, hl'⟩
    exact ⟨⟨r2, h1, Nat.le_trans hl.size h2, h3⟩, hl'⟩
  repeat' (first | (simp (disch := omega) only [push_cast, ↓reduceIte, zA, zG, zB, zH, zI, zC, zJ, zK, zL, zD, zE, zF, zM, zN, zO, zP, zQ, reduceCtorEq, not_true_eq_false, not_false_eq_true]) | (first | refine vIfE_of ?_ ?_ | refine vIfD_of ?_ ?_ | refine vIfQ_of ?_ ?_ | refine vIfV_of ?_ ?_) <;> intro _ | refine And.intro (by omega) ?_ | fail)
  rintro w1 l1 _ ⟨r2, rfl, h2, h3⟩
  have eca : (Value.agg #[.int .i64 room, .int .i64 fuse, .map (some r2)]).cells = #[.int .i64 room, .int .i64 fuse, .map (some r2)] := rfl
  repeat' (first | (simp (disch := omega) only [push_cast, ↓reduceIte, zA, zG, zB, zH, zI, zC, zJ, zK, zL, zD, zE, zF, zM, zN, zO, zP, zQ, reduceCtorEq, not_true_eq_false, not_false_eq_true, eca]) | (first | refine vIfE_of ?_ ?_ | refine vIfD_of ?_ ?_ | refine vIfQ_of ?_ ?_ | refine vIfV_of ?_ ?_) <;> intro _ | refine And.intro (by omega) ?_ | fail)
  have l2 := later_alloc w1 (.cells #[.int .i64 room, .int .i64 fuse, .map (some r2)] 57)
  have h1 := h.later (l1.trans l2)
  have hV : Vt (w1.alloc (.cells #[.int .i64 room, .int .i64 fuse, .map (some r2)] 57)) w1.heap.size r2 room fuse es c :=
    ⟨by decide, Blk.new _ _ _, (heap_alloc (Array.getElem?_eq_some_iff.1 h3).1 _).trans h3, h1.apart, h1.born, h1.nodup, h1.ok⟩
  exact ⟨⟨_, _, rfl, l1.size, h2, hV⟩, l1.trans l2⟩
theorem copy_s (bk r : Nat) (s : Vst) (w : World) (h : VS w bk r s) :
    FnC Try.prog 23 #[.pointer (some ⟨bk, 0, none⟩)] w fun v w' => (∃ b2 r2, v = .pointer (some ⟨b2, 0, none⟩) ∧ w.heap.size ≤ b2 ∧ w.heap.size ≤ r2 ∧ VS w' b2 r2 s) ∧ Later w w' := by
  obtain ⟨es, c, hV, hR⟩ := h
  refine (copy_c bk r _ _ es c w hV).mono ?_
  rintro v w' ⟨⟨b2, r2, h1, h2, h3, h4⟩, hl⟩
  exact ⟨⟨b2, r2, h1, h2, h3, es, c, h4, hR⟩, hl⟩
end Go.Proofs.Ytmfcnooleejgmaa
end
section
set_option linter.unusedSimpArgs false
namespace Go.Vlt
open Go Go.Vc Go.Key
theorem lft_perm : ∀ {l : List VE}, (l.map VE.born).Nodup → ∀ {e : VE}, e ∈ l → l.Perm (e :: l.filter fun x => !(x.born == e.born))
  | x :: l, hn, e, he => by
    rw [List.map_cons, List.nodup_cons] at hn
    obtain ⟨h1, h2⟩ := hn
    rw [List.filter_cons]
    rcases List.mem_cons.1 he with rfl | he
    · have hx : (l.filter fun y => !(y.born == e.born)) = l := filter_out l _ fun y hy hb => h1 (hb ▸ List.mem_map_of_mem hy)
      have hb : (!(e.born == e.born)) = false := by simp
      rw [hb, if_neg (by simp), hx]
    · have hne : x.born ≠ e.born := fun hb => h1 (hb ▸ List.mem_map_of_mem he)
      have hb : (!(x.born == e.born)) = true := by simpa using hne
      rw [hb, if_pos rfl]
      exact ((lft_perm h2 he).cons x).trans (List.Perm.swap _ _ _)
/-- A map, or what goes over one. -/
def isMp : Obj → Bool
  | .map _ _ => true
  | .mapIter _ _ _ _ => true
  | _ => false
end Go.Vlt
namespace Go.Proofs.Ytmfcnooleejgmaa
open Go.Vc Go.Vlt Go.Key
set_option maxRecDepth 100000
abbrev OwnN (w : World) (B : Nat) (v : Value) (l : List ByteArray) : Prop := w.ownsRow B 9 1 v l.length (l.map Value.string)
theorem keys_c (r : Nat) (w : World) : FnC Try.prog 36 #[.map (some r)] w fun v w' => v = .func (.func 49) #[] #[.pointer (some ⟨w.heap.size, 0, none⟩)] ∧ w' = w.alloc (.cells #[.map (some r)] 55) := by
  refine enter36 _ ?_
  unfold B36
  have eca : (Value.map (some r)).cells = #[.map (some r)] := rfl
  repeat' (first | (simp (disch := omega) only [push_cast, ↓reduceIte, zA, zG, zB, zH, zI, zC, zJ, zK, zL, zD, zE, zF, zM, zN, zO, zP, zQ, reduceCtorEq, not_true_eq_false, not_false_eq_true, eca]) | (first | refine vIfE_of ?_ ?_ | refine vIfD_of ?_ ?_ | refine vIfQ_of ?_ ?_ | refine vIfV_of ?_ ?_) <;> intro _ | refine And.intro (by omega) ?_ | refine drawn_q ?_ | fail)
  first | exact ⟨rfl, rfl⟩ | skip
theorem keys1_c (L kb r : Nat) (es : List VE) (c : Nat) (I : List ByteArray → World → Prop) (w : World) (hkb : Blk w kb #[.map (some r)] 55) (hm : MapB w r (es.map VE.ent) c) (hborn : ∀ e ∈ es, e.born < c) (hnd : (es.map VE.born).Nodup) (hL : L < w.heap.size) (hrL : r ≠ L)
    (h0 : I [] w) (hst1 : ∀ ks w1 w2, I ks w1 → Later w1 w2 → I ks w2) (hst2 : ∀ ks w1 w2 k o, I ks w1 → w1.heap[k]? = some o → isMp o = true → w.heap.size ≤ k → Chg w1 w2 [k] → I ks w2)
    (hy : ∀ ks k w1, I ks w1 → ks.length < es.length → YldC Try.prog L #[.string k] w1 fun v w2 => v = .bool true ∧ I (ks ++ [k]) w2 ∧ ∀ j o, j ≠ L → w1.heap[j]? = some o → isMp o = true → w2.heap[j]? = some o) :
    FnC Try.prog 49 #[.func (.yield L) #[] #[], .pointer (some ⟨kb, 0, none⟩)] w fun _ w' => ∃ ks, ks.Perm (es.map VE.name) ∧ I ks w' := by
  refine enter49 _ _ ?_
  unfold B49
  have f0 : w.cell? ⟨kb, 0, none⟩ = some (.map (some r)) := hkb.cell 0
  repeat' (first | (simp (disch := omega) only [push_cast, ↓reduceIte, zA, zG, zB, zH, zI, zC, zJ, zK, zL, zD, zE, zF, zM, zN, zO, zP, zQ, reduceCtorEq, not_true_eq_false, not_false_eq_true, f0]) | (first | refine vIfE_of ?_ ?_ | refine vIfD_of ?_ ?_ | refine vIfQ_of ?_ ?_ | refine vIfV_of ?_ ?_) <;> intro _ | refine And.intro (by omega) ?_ | refine drawn_q ?_ | fail)
  refine vRng_of Try.underlying55 hm ?_
  have l1 := later_alloc w (.mapIter (some r) c #[] c)
  have hi : (w.alloc (.mapIter (some r) c #[] c)).heap[w.heap.size]? = some (.mapIter (some r) c #[] c) := heap_new w _
  have hI1 := hst1 _ _ _ h0 l1
  have hm1 : MapB (w.alloc (.mapIter (some r) c #[] c)) r (es.map VE.ent) c := heap_later hm l1
  generalize w.alloc (.mapIter (some r) c #[] c) = w1 at *
  have hri : r ≠ w.heap.size := by have := (Array.getElem?_eq_some_iff.1 hm).1; omega
  generalize hit : w.heap.size = it at *
  repeat' (first | (simp (disch := omega) only [push_cast, ↓reduceIte, zA, zG, zB, zH, zI, zC, zJ, zK, zL, zD, zE, zF, zM, zN, zO, zP, zQ, reduceCtorEq, not_true_eq_false, not_false_eq_true]) | (first | refine vIfE_of ?_ ?_ | refine vIfD_of ?_ ?_ | refine vIfQ_of ?_ ?_ | refine vIfV_of ?_ ?_) <;> intro _ | refine And.intro (by omega) ?_ | refine drawn_q ?_ | fail)
  refine vc_loop W49_0 (fun _ : Nat => [])
    (fun n w' => ∃ (seen : Array Nat) (ks : List ByteArray), w'.heap[it]? = some (.mapIter (some r) c seen c) ∧ MapB w' r (es.map VE.ent) c ∧ I ks w' ∧ n = (lft seen es).length ∧ (ks ++ (lft seen es).map VE.name).Perm (es.map VE.name)) (fun n => n) (lft #[] es).length (by decide) ?_ ?_ ?_
  · simp (disch := omega) only [push_cast, ↓reduceIte, zA, zG, zB, zH, zI, zC, zJ, zK, zL, zD, zE, zF, zM, zN, zO, zP, zQ, reduceCtorEq, not_true_eq_false, not_false_eq_true]
  · exact ⟨#[], [], hi, hm1, hI1, rfl, by have : lft #[] es = es := by unfold lft; simp
                                          rw [this]; exact List.Perm.refl _⟩
  rintro n uu w2 ⟨seen, ks, hs, hm2, hI2, hn, hp⟩
  repeat' (first | (simp (disch := omega) only [push_cast, ↓reduceIte, zA, zG, zB, zH, zI, zC, zJ, zK, zL, zD, zE, zF, zM, zN, zO, zP, zQ, reduceCtorEq, not_true_eq_false, not_false_eq_true]) | (first | refine vIfE_of ?_ ?_ | refine vIfD_of ?_ ?_ | refine vIfQ_of ?_ ?_ | refine vIfV_of ?_ ?_) <;> intro _ | refine And.intro (by omega) ?_ | refine drawn_q ?_ | fail)
  refine vNxt_of hs hm2 (fun e he => by obtain ⟨x, hx, rfl⟩ := List.mem_map.1 he; exact hborn x hx) (Nat.le_refl _) (fun hall => ?_) (fun ee hee hns w3' hw3' => ?_)
  · have hl : lft seen es = [] := by
      unfold lft
      rw [List.filter_eq_nil_iff]
      intro x hx
      have hc : seen.contains x.born = true := hall x.ent (List.mem_map_of_mem hx)
      rw [hc]
      simp
    rw [hl, List.map_nil, List.append_nil] at hp
    repeat' (first | (simp (disch := omega) only [push_cast, ↓reduceIte, zA, zG, zB, zH, zI, zC, zJ, zK, zL, zD, zE, zF, zM, zN, zO, zP, zQ, reduceCtorEq, not_true_eq_false, not_false_eq_true]) | (first | refine vIfE_of ?_ ?_ | refine vIfD_of ?_ ?_ | refine vIfQ_of ?_ ?_ | refine vIfV_of ?_ ?_) <;> intro _ | refine And.intro (by omega) ?_ | refine drawn_q ?_ | fail)
    exact ⟨ks, hp, hI2⟩
  · obtain ⟨e, he, rfl⟩ := List.mem_map.1 hee
    have hns : seen.contains e.born = false := hns
    have hel : e ∈ lft seen es := List.mem_filter.2 ⟨he, by rw [hns]; rfl⟩
    have hndl : ((lft seen es).map VE.born).Nodup := (List.Sublist.map _ List.filter_sublist).nodup hnd
    have hpe := lft_perm hndl hel
    rw [← lft_push] at hpe
    have hp' : (ks ++ [e.name] ++ (lft (seen.push e.born) es).map VE.name).Perm (es.map VE.name) := by
      rw [List.append_assoc]
      refine List.Perm.trans ?_ hp
      exact List.Perm.append_left ks (hpe.map VE.name).symm
    have hlen : ks.length < es.length := by
      have := hp'.length_eq
      simp only [List.length_append, List.length_map, List.length_cons, List.length_nil] at this
      omega
    have hlt : (lft (seen.push e.born) es).length < n := by
      have := hpe.length_eq
      rw [List.length_cons] at this
      omega
    have l23' : Later w2 w3' := by rcases hw3' with rfl | rfl; exact Later.refl _; exact (Later.refl _).drew
    have hs' : w3'.heap[it]? = some (.mapIter (some r) c seen c) := by rcases hw3' with rfl | rfl <;> exact hs
    have hm3' : MapB w3' r (es.map VE.ent) c := heap_later hm2 l23'
    have hI3' := hst1 _ _ _ hI2 l23'
    have c3 := chg_setB (w := w3') (r := it) (ks := [it]) (by simp) (.mapIter (some r) c (seen.push e.ent.2.2) c)
    have hs3 : (setB w3' it (.mapIter (some r) c (seen.push e.ent.2.2) c)).heap[it]? = some (.mapIter (some r) c (seen.push e.ent.2.2) c) := setB_at hs'
    have hI3 := hst2 _ _ _ it _ hI3' hs' rfl (Nat.le_refl _) c3
    have hm3 : MapB (setB w3' it (.mapIter (some r) c (seen.push e.ent.2.2) c)) r (es.map VE.ent) c := heap_chg hm3' c3 (by simpa using hri)
    generalize setB w3' it (.mapIter (some r) c (seen.push e.ent.2.2) c) = w3 at *
    have hs3 : w3.heap[it]? = some (.mapIter (some r) c (seen.push e.born) c) := hs3
    repeat' (first | (simp (disch := omega) only [push_cast, ↓reduceIte, zA, zG, zB, zH, zI, zC, zJ, zK, zL, zD, zE, zF, zM, zN, zO, zP, zQ, reduceCtorEq, not_true_eq_false, not_false_eq_true]) | (first | refine vIfE_of ?_ ?_ | refine vIfD_of ?_ ?_ | refine vIfQ_of ?_ ?_ | refine vIfV_of ?_ ?_) <;> intro _ | refine And.intro (by omega) ?_ | refine drawn_q ?_ | fail)
    refine vEnt_of (e := e.ent) hs3 hm3 (List.mem_map_of_mem he) (by rw [List.map_map]; exact hnd) ?_
    unfold VE.ent
    repeat' (first | (simp (disch := omega) only [push_cast, ↓reduceIte, zA, zG, zB, zH, zI, zC, zJ, zK, zL, zD, zE, zF, zM, zN, zO, zP, zQ, reduceCtorEq, not_true_eq_false, not_false_eq_true]) | (first | refine vIfE_of ?_ ?_ | refine vIfD_of ?_ ?_ | refine vIfQ_of ?_ ?_ | refine vIfV_of ?_ ?_) <;> intro _ | refine And.intro (by omega) ?_ | refine drawn_q ?_ | fail)
    refine vcUp_mono (hy ks e.name w3 hI3 hlen) ?_
    rintro _ w4 ⟨rfl, hI4, hkeep⟩
    have hs4 := hkeep it _ (by omega) hs3 rfl
    have hm4 : MapB w4 r (es.map VE.ent) c := hkeep r _ hrL hm3 rfl
    repeat' (first | (simp (disch := omega) only [push_cast, ↓reduceIte, zA, zG, zB, zH, zI, zC, zJ, zK, zL, zD, zE, zF, zM, zN, zO, zP, zQ, reduceCtorEq, not_true_eq_false, not_false_eq_true]) | (first | refine vIfE_of ?_ ?_ | refine vIfD_of ?_ ?_ | refine vIfQ_of ?_ ?_ | refine vIfV_of ?_ ?_) <;> intro _ | refine And.intro (by omega) ?_ | refine drawn_q ?_ | fail)
    exact ⟨rfl, _, by simp (disch := omega) only [push_cast, ↓reduceIte, zA, zG, zB, zH, zI, zC, zJ, zK, zL, zD, zE, zF, zM, zN, zO, zP, zQ, reduceCtorEq, not_true_eq_false, not_false_eq_true], ⟨_, _, hs4, hm4, hI4, rfl, hp'⟩, hlt⟩
end Go.Proofs.Ytmfcnooleejgmaa
end
section
set_option linter.unusedSimpArgs false
namespace Go.Proofs.Ytmfcnooleejgmaa
open Go.Vc Go.Vlt Go.Key Go.Sort
set_option maxRecDepth 100000
/-- What holds between the rounds. -/
structure GaS (w w' : World) (L : Nat) (o : Obj) (ks : List ByteArray) : Prop where
  rec_ : w'.heap[L]? = some o
  def_ : w'.heap[w.heap.size + 1]? = some (.deferred (some []))
  later : Later w w'
  out : ∃ ov, Blk w' w.heap.size #[ov] 40 ∧ OwnN w' w.heap.size ov ks
theorem OwnN.slice {w : World} {B : Nat} {v : Value} {l : List ByteArray} (h : OwnN w B v l) : ∃ o c, v = .slice o l.length c := by
  have h1 : Sl w v (l.map Value.string) := Sl.of_own (n := l.length) h
  obtain ⟨o, c, hv⟩ := h1.slice
  exact ⟨o, c, by simpa using hv⟩
set_option maxHeartbeats 1000000 in
theorem gather_c (kb r : Nat) (es : List VE) (c : Nat) (w : World) (hkb : Blk w kb #[.map (some r)] 55) (hm : MapB w r (es.map VE.ent) c) (hborn : ∀ e ∈ es, e.born < c) (hnd : (es.map VE.born).Nodup) (hlen : es.length ≤ 1000000) :
    FnC Try.prog 58 #[.slice none 0 0, .func (.func 49) #[] #[.pointer (some ⟨kb, 0, none⟩)]] w fun v w' => (∃ ks, ks.Perm (es.map VE.name) ∧ OwnN w' w.heap.size v ks) ∧ Later w w' := by
  refine enter58 _ _ ?_
  unfold B58
  have eca : (Value.slice none 0 0).cells = #[.slice none 0 0] := rfl
  repeat' (first | (simp (disch := omega) only [push_cast, ↓reduceIte, zA, zG, zB, zH, zI, zC, zJ, zK, zL, zD, zE, zF, zM, zN, zO, zP, zQ, reduceCtorEq, not_true_eq_false, not_false_eq_true, eca]) | (first | refine vIfE_of ?_ ?_ | refine vIfD_of ?_ ?_ | refine vIfQ_of ?_ ?_ | refine vIfV_of ?_ ?_) <;> intro _ | refine And.intro (by omega) ?_ | refine drawn_q ?_ | fail)
  have B1 := Blk.new w #[.slice none 0 0] 40
  have s1 := World.size_alloc w (.cells #[.slice none 0 0] 40)
  have l1 := later_alloc w (.cells #[.slice none 0 0] 40)
  generalize w.alloc (.cells #[.slice none 0 0] 40) = w1 at *
  refine rngC_of hb49 ?_
  rintro D L rec hrec hD hL hyl
  have hDe : D = w.heap.size + 1 := by omega
  have hLe : L = w.heap.size + 2 := by omega
  have hrL : ((w1.alloc (.deferred (some []))).alloc (rec .ready .normal)).heap[L]? = some (rec .ready .normal) := by
    have := World.alloc_heap_new (w1.alloc (.deferred (some []))) (rec .ready .normal)
    rw [World.size_alloc] at this
    rw [hL]; exact this
  have hrD : ((w1.alloc (.deferred (some []))).alloc (rec .ready .normal)).heap[D]? = some (.deferred (some [])) := by
    rw [hD]
    exact heap_later (World.alloc_heap_new w1 _) (later_alloc _ _)
  have hl3 := later_two w1 (.deferred (some [])) (rec .ready .normal)
  have hsz3 : ((w1.alloc (.deferred (some []))).alloc (rec .ready .normal)).heap.size = w.heap.size + 3 := by rw [World.size_alloc, World.size_alloc, s1]
  generalize (w1.alloc (.deferred (some []))).alloc (rec .ready .normal) = w3 at *
  have hl03 := l1.trans hl3
  have B3 := B1.chg (Chg.of_later (ks := []) hl3) (by simp)
  have hkb3 := hkb.chg (Chg.of_later (ks := []) hl03) (by simp)
  have hm3 : MapB w3 r (es.map VE.ent) c := heap_later hm hl03
  have hrlt := (Array.getElem?_eq_some_iff.1 hm).1
  subst hDe
  refine (keys1_c L kb r es c (fun ks w' => GaS w w' L (rec .ready .normal) ks ∧ ks.length ≤ es.length) w3 hkb3 hm3 hborn hnd (by omega) (by omega) ⟨⟨hrL, hrD, hl03, _, B3, own_nil _ _ _ _⟩, Nat.zero_le _⟩ ?_ ?_ ?_).mono ?_
  · rintro ks u1 u2 ⟨⟨h1, h2, h3, ov, h4, h5⟩, h6⟩ hl
    exact ⟨⟨heap_later h1 hl, heap_later h2 hl, h3.trans hl, ov, h4.chg (Chg.of_later (ks := []) hl) (by simp), own_later h5 hl⟩, h6⟩
  · rintro ks u1 u2 k o ⟨⟨h1, h2, h3, ov, h4, h5⟩, h6⟩ hk ho hge hc
    have hoc : o.isCells = false := by cases o <;> simp [isMp, Obj.isCells] at ho ⊢
    refine ⟨⟨heap_chg h1 hc (by simp; omega), heap_chg h2 hc (by simp; omega), Chg.later h3 hc (by intro j hj; rw [List.mem_singleton.1 hj]; omega), ov, h4.chg hc (by simp; omega), own_obj h5 hk hoc hc⟩, h6⟩
  · rintro ks k u1 ⟨⟨h1, h2, h3, ov, h4, h5⟩, h6⟩ hlt
    refine hyl _ u1 _ ?_
    unfold Rnd
    refine ⟨h1, rfl, ?_⟩
    have hu1L : L < u1.heap.size := (Array.getElem?_eq_some_iff.1 h1).1
    repeat' (first | (simp (disch := omega) only [push_cast, ↓reduceIte, zA, zG, zB, zH, zI, zC, zJ, zK, zL, zD, zE, zF, zM, zN, zO, zP, zQ, reduceCtorEq, not_true_eq_false, not_false_eq_true]) | (first | refine vIfE_of ?_ ?_ | refine vIfD_of ?_ ?_ | refine vIfQ_of ?_ ?_ | refine vIfV_of ?_ ?_) <;> intro _ | refine And.intro (by omega) ?_ | refine drawn_q ?_ | fail)
    have gL := chg_putObj u1 (L := L) (ks := [L]) (by simp) (rec .busy .normal)
    have q1 : (u1.putObj L (rec .busy .normal)).heap[L]? = some (rec .busy .normal) := World.putObj_heap_same (Array.getElem?_eq_some_iff.1 h1).1
    have q2 := heap_chg h2 gL (by simp; omega)
    have q3 := gL.later h3 (by simp; omega)
    have q4 := h4.chg gL (by simp; omega)
    have q5 := own_obj h5 h1 (hrec _ _) gL
    have keep0 : ∀ j o, j ≠ L → u1.heap[j]? = some o → isMp o = true → (u1.putObj L (rec .busy .normal)).heap[j]? = some o := fun j o hj ho _ => heap_chg ho gL (by simpa using hj)
    generalize u1.putObj L (rec .busy .normal) = u3 at *
    obtain ⟨oo, cc, rfl⟩ := OwnN.slice q5
    have c0 : u3.cell? ⟨w.heap.size, 0, none⟩ = some (.slice oo ks.length cc) := q4.cell 0
    repeat' (first | (simp (disch := omega) only [push_cast, ↓reduceIte, zA, zG, zB, zH, zI, zC, zJ, zK, zL, zD, zE, zF, zM, zN, zO, zP, zQ, reduceCtorEq, not_true_eq_false, not_false_eq_true, c0]) | (first | refine vIfE_of ?_ ?_ | refine vIfD_of ?_ ?_ | refine vIfQ_of ?_ ?_ | refine vIfV_of ?_ ?_) <;> intro _ | refine And.intro (by omega) ?_ | refine drawn_q ?_ | fail)
    refine vAppend_own Try.underlying40 ti9 rfl (by decide) (own_alloc q5 _) (Sl.one u3 (.string k) 9) (by simp [Value.oneCell']) (by unfold maxLen; simp only [List.length_cons, List.length_nil]; omega) (by simp only [List.length_cons, List.length_nil]; omega) (by rw [World.size_alloc]; have := q3.size; omega) ?_
    intro v' u5 ho hg2 _
    have la := later_alloc u3 (.cells #[.string k] 9)
    have t5 : (u3.alloc (.cells #[.string k] 9)).ownsRow w.heap.size 9 1 (.slice oo ks.length cc) ks.length (ks.map Value.string) := own_alloc q5 _
    have v1 := grown_obj t5 hg2 (heap_later q1 la) (not_cells (hrec _ _) _)
    have v2 := grown_obj t5 hg2 (heap_later q2 la) (not_cells rfl _)
    have v4 : Blk u5 w.heap.size _ 40 := grown_obj t5 hg2 (heap_later q4 la) (fun cs h => by simp at h)
    have v3 : Later w u5 := (q3.trans la).appended t5 (Nat.le_refl _) hg2
    have keep1 : ∀ j o, j ≠ L → u1.heap[j]? = some o → isMp o = true → u5.heap[j]? = some o := fun j o hj ho hmp =>
      grown_obj t5 hg2 (heap_later (keep0 j o hj ho hmp) la) (fun cs h => by rw [h] at hmp; cases hmp)
    have ho : OwnN u5 w.heap.size v' (ks ++ [k]) := by simpa [OwnN] using ho
    obtain ⟨o2, c2, rfl⟩ := OwnN.slice ho
    have hfz := v4.frozen 0
    have hce : ∃ y, u5.cell? ⟨w.heap.size, 0, none⟩ = some y := ⟨_, v4.cell 0⟩
    have g3 := chg_setCell (i := 0) u5 (ks := [w.heap.size]) (k := w.heap.size) (by simp) (.slice o2 (ks ++ [k]).length c2)
    have z4 := v4.set 0 (.slice o2 (ks ++ [k]).length c2)
    repeat' (first | (simp (disch := omega) only [push_cast, ↓reduceIte, zA, zG, zB, zH, zI, zC, zJ, zK, zL, zD, zE, zF, zM, zN, zO, zP, zQ, reduceCtorEq, not_true_eq_false, not_false_eq_true, hfz]) | (first | refine vIfE_of ?_ ?_ | refine vIfD_of ?_ ?_ | refine vIfQ_of ?_ ?_ | refine vIfV_of ?_ ?_) <;> intro _ | refine And.intro (by omega) ?_ | refine drawn_q ?_ | fail)
    have z1 := heap_chg v1 g3 (by simp; omega)
    have z2 := heap_chg v2 g3 (by simp)
    have z3 := g3.later v3 (by simp)
    have z5 := own_chg_ty ho v4 (by decide) g3
    have keep2 : ∀ j o, j ≠ L → u1.heap[j]? = some o → isMp o = true → (u5.setCell ⟨w.heap.size, 0, none⟩ (.slice o2 (ks ++ [k]).length c2)).heap[j]? = some o := fun j o hj ho hmp =>
      heap_chg (keep1 j o hj ho hmp) g3 (by
        simp only [List.mem_singleton]
        rintro rfl
        have h4' : u1.heap[w.heap.size]? = _ := h4
        rw [ho] at h4'
        cases h4'; cases hmp)
    generalize u5.setCell ⟨w.heap.size, 0, none⟩ (.slice o2 (ks ++ [k]).length c2) = u6 at *
    have gE := chg_putObj u6 (L := L) (ks := [L]) (by simp) (rec .ready .normal)
    have keep3 : ∀ j o, j ≠ L → u1.heap[j]? = some o → isMp o = true → (u6.putObj L (rec .ready .normal)).heap[j]? = some o := fun j o hj ho hmp => heap_chg (keep2 j o hj ho hmp) gE (by simpa using hj)
    repeat' (first | (simp (disch := omega) only [push_cast, ↓reduceIte, zA, zG, zB, zH, zI, zC, zJ, zK, zL, zD, zE, zF, zM, zN, zO, zP, zQ, reduceCtorEq, not_true_eq_false, not_false_eq_true]) | (first | refine vIfE_of ?_ ?_ | refine vIfD_of ?_ ?_ | refine vIfQ_of ?_ ?_ | refine vIfV_of ?_ ?_) <;> intro _ | refine And.intro (by omega) ?_ | refine drawn_q ?_ | fail)
    refine ⟨⟨⟨World.putObj_heap_same (Array.getElem?_eq_some_iff.1 z1).1, heap_chg z2 gE (by simp; omega), gE.later z3 (by simp; omega), _, z4.chg gE (by simp; omega), own_obj z5 z1 (hrec _ _) gE⟩, by rw [List.length_append]; simp only [List.length_cons, List.length_nil]; omega⟩, keep3⟩
  · rintro _ w4 ⟨ks, hp, ⟨⟨h1, h2, h3, ov, h4, h5⟩, _⟩⟩
    have g1 := chg_putObj w4 (L := L) (ks := [L]) (by simp) (rec .exhausted .normal)
    have h2' := heap_chg h2 g1 (by simp; omega)
    have h5' := own_obj h5 h1 (hrec _ _) g1
    have g2 := chg_putObj (w4.putObj L (rec .exhausted .normal)) (L := w.heap.size + 1) (ks := [w.heap.size + 1]) (by simp) (.deferred none)
    have c1 : (w4.putObj L (rec .exhausted .normal)).cell? ⟨w.heap.size, 0, none⟩ = some ov := (h4.chg g1 (by simp; omega)).cell 0
    have h5'' := own_obj h5' h2' rfl g2
    have l5 := g2.later (g1.later h3 (by simp; omega)) (by simp)
    refine .inl ⟨h1, ?_⟩
    repeat' (first | (simp (disch := omega) only [push_cast, ↓reduceIte, zA, zG, zB, zH, zI, zC, zJ, zK, zL, zD, zE, zF, zM, zN, zO, zP, zQ, reduceCtorEq, not_true_eq_false, not_false_eq_true, c1]) | (first | refine vIfE_of ?_ ?_ | refine vIfD_of ?_ ?_ | refine vIfQ_of ?_ ?_ | refine vIfV_of ?_ ?_) <;> intro _ | refine And.intro (by omega) ?_ | refine drawn_q ?_ | fail)
    exact ⟨⟨ks, hp, h5''⟩, l5⟩
end Go.Proofs.Ytmfcnooleejgmaa
end
section
namespace Go.Proofs.Ytmfcnooleejgmaa
open Go.Vc
set_option maxRecDepth 100000
variable (Q : Post) (ds : List Deferred) (σ : Env) (w : World)
/-! 19 (*columbary/vault.Vault).List (params #[23], results #[(.tmp 2)], 11 slots) -/
def r19_0 : List VOp :=
  [⟨some 2, .assign (.const (.slice none 0 0)), 40, none⟩]
def r19_1 : List VOp :=
  [mv 3 0 23,
   ⟨some 4, .binOp .eql 23 (.tmp 3) (.const (.pointer none)) 23, 4, none⟩]
def r19_2 : List VOp :=
  [⟨some 2, .assign (.const (.slice none 0 0)), 40, none⟩]
def r19_3 : List VOp :=
  [mv 5 0 23,
   ⟨some 6, .nilCheck (.tmp 5), 0, none⟩,
   fad 7 57 6 2,
   lda 8 55 7,
   ⟨some 9, .call ⟨.value (.func 36), #[.tmp 8], #[55]⟩, 67, none⟩,
   ⟨some 10, .call ⟨.value (.func 35), #[.tmp 9], #[67]⟩, 40, none⟩,
   asg 2 10 40]
def B19 : VC :=
  (.seq (.region r19_0) (.seq (.seq (.region r19_1) (.cond (.tmp 4) (.seq (.region r19_2) .ret) .skip)) (.seq (.region r19_3) .ret)))
theorem code19 : ∃ c, Try.f19.body = some c ∧ abs Try.f19.ntmps c = B19 := ⟨_, rfl, by kernel_rfl⟩
theorem hb19 : HasBody Try.prog 19 := hasBody_of Try.func19 (by kernel_rfl)
theorem res19 : Try.f19.results = #[(.tmp 2)] := rfl
theorem enter19 {w : World} {R : Value → World → Prop} (x0 : Value) (h : vc Try.prog B19 (retK Try.prog #[(.tmp 2)] R) [] (initEnv [x0] 0) w) : FnC Try.prog 19 #[x0] w R := by
  obtain ⟨c, h1, h2⟩ := code19
  exact hb19.fn (ret_of_vc mixed Try.func19 h1 (Nat.le_of_ble_eq_true rfl) B19 h2 h)
@[push_cast] theorem vr19_0 : VR r19_0 [⟨some 2, .assign (.const (.slice none 0 0)), 40, none⟩] := vR rfl
@[push_cast] theorem vr19_1 : VR r19_1 [⟨some 3, .move (.tmp 0), 23, none⟩, ⟨some 4, .binOp .eql 23 (.tmp 3) (.const (.pointer none)) 23, 4, none⟩] := vR rfl
@[push_cast] theorem vr19_2 : VR r19_2 [⟨some 2, .assign (.const (.slice none 0 0)), 40, none⟩] := vR rfl
@[push_cast] theorem vr19_3 : VR r19_3 [⟨some 5, .move (.tmp 0), 23, none⟩, ⟨some 6, .nilCheck (.tmp 5), 0, none⟩, ⟨some 7, .fieldAddr 57 (.tmp 6) 2, 0, none⟩, ⟨some 8, .load 55 (.tmp 7), 55, none⟩, ⟨some 9, .call ⟨.value (.func 36), #[.tmp 8], #[55]⟩, 67, none⟩, ⟨some 10, .call ⟨.value (.func 35), #[.tmp 9], #[67]⟩, 40, none⟩, ⟨some 2, .assign (.tmp 10), 40, none⟩] := vR rfl
end Go.Proofs.Ytmfcnooleejgmaa
end
section
set_option linter.unusedSimpArgs false
namespace Go.Vlt
open Go Go.Vc Go.Key
theorem lex_bl : ∀ {a b : List UInt8}, List.Lex (· < ·) b a → Op.bytesLess b a = true
  | _, _, .nil => rfl
  | _, _, .rel h => by simp [Op.bytesLess, h]
  | _, _, .cons h => by simp [Op.bytesLess, lex_bl h]
theorem le_of_bl {a b : List UInt8} (h : Op.bytesLess a b = true) : a ≤ b := by
  intro hlt
  have h2 := lex_bl hlt
  rcases bl_tri a b with h' | h' | h'
  · rw [h2] at h'; cases h'.2.1
  · rw [h] at h'; cases h'.2
  · rw [h] at h'; cases h'.1
/-- Names put in order. -/
def srtN (ks : List ByteArray) : List ByteArray := ((ks.map fun k => k.data.toList).mergeSort fun x y => decide (x ≤ y)).map strOf
theorem srtN_is {ks : List ByteArray} {L : List Fl} (hs : Srd L) (hp : ks.Perm (L.map Fl.name)) : srtN ks = L.map Fl.name := by
  have tr : ∀ a b c : List UInt8, decide (a ≤ b) = true → decide (b ≤ c) = true → decide (a ≤ c) = true := fun a b c h1 h2 => by simp only [decide_eq_true_eq] at *; exact List.le_trans h1 h2
  have to : ∀ a b : List UInt8, (decide (a ≤ b) || decide (b ≤ a)) = true := fun a b => by simp only [Bool.or_eq_true, decide_eq_true_eq]; exact List.le_total a b
  have e : ((ks.map fun k => k.data.toList).mergeSort fun x y => decide (x ≤ y)) = (L.map Fl.name).map fun k => k.data.toList := by
    refine List.Perm.eq_of_pairwise (le := fun a b => decide (a ≤ b) = true) (fun a b _ _ h1 h2 => ?_) (List.pairwise_mergeSort tr to _) ?_ ((List.mergeSort_perm _ _).trans (hp.map _))
    · simp only [decide_eq_true_eq] at h1 h2
      exact List.le_antisymm h1 h2
    · rw [List.map_map]
      refine List.pairwise_map.2 (hs.imp fun h => ?_)
      exact decide_eq_true (le_of_bl h)
  unfold srtN
  rw [e, List.map_map]
  conv => rhs; rw [← List.map_id (L.map Fl.name)]
  exact List.map_congr_left fun k _ => strOf_data k
end Go.Vlt
namespace Go.Proofs.Ytmfcnooleejgmaa
open Go.Vc Go.Vlt Go.Key Go.Sort
set_option maxRecDepth 100000
theorem hbSortS : HasBody Try.prog 48 := hasBody_of Try.func48 (by kernel_rfl)
theorem sortS_c (v : Value) (ks : List ByteArray) (B : Nat) (w : World) (h : OwnN w B v ks) (hl : ks.length ≤ 1000000) : FnC Try.prog 48 #[v] w fun r w' => r = .tuple #[] ∧ OwnN w' B v (srtN ks) ∧ Chg w w' v.ownBlock.toList := by
  obtain ⟨o, c, rfl⟩ := OwnN.slice h
  by_cases h0 : ks.length = 0
  · have e : ks = [] := List.length_eq_zero_iff.1 h0
    subst e
    refine FnC.of_calls hbSortS (Try.slices_Sort_string_none o c w) ?_
    rintro e w' ⟨rfl, rfl⟩
    have e0 : srtN [] = [] := by simp [srtN]
    exact ⟨_, rfl, rfl, by rw [e0]; exact h, Chg.refl _ _⟩
  · obtain ⟨g, rfl, _⟩ := own_addr h (by omega)
    have es : ks.map Value.string = (ks.map fun k => k.data.toList).map encStr := by
      rw [List.map_map]
      refine List.map_congr_left fun k _ => ?_
      show Value.string k = Value.string (strOf k.data.toList)
      rw [strOf_data]
    have h' : w.ownsRow B 9 1 (.slice (some ⟨g, 0, none⟩) ks.length c) ks.length ((ks.map fun k => k.data.toList).map encStr) := by rw [← es]; exact h
    obtain ⟨h1, h2, h3⟩ := holds_own (enc := encStr) h'
    have hlm : (ks.map fun k => k.data.toList).length = ks.length := List.length_map _
    have hc := Try.slices_Sort_string g 0 c (ks.map fun k => k.data.toList) w h1 h2 (by omega)
    rw [hlm] at hc
    refine FnC.of_calls hbSortS hc ?_
    rintro e w' ⟨rfl, n, os, rfl⟩
    obtain ⟨p1, p2⟩ := own_put (enc := encStr) (q := n) (os := os) (d := ((ks.map fun k => k.data.toList).mergeSort fun x y => decide (x ≤ y)).toArray) h' (by simp)
    refine ⟨_, rfl, rfl, ?_, p2⟩
    have hls : (srtN ks).length = ks.length := by simp [srtN]
    unfold OwnN
    rw [hls]
    have e2 : (srtN ks).map Value.string = (((ks.map fun k => k.data.toList).mergeSort fun x y => decide (x ≤ y)).toArray).toList.map encStr := by
      unfold srtN
      rw [List.map_map]
      rfl
    rw [e2]
    exact p1
theorem list_c (bk r : Nat) (room fuse : Int) (es : List VE) (c : Nat) (w : World) (h : Vt w bk r room fuse es c) (hl : es.length ≤ 1000000) :
    FnC Try.prog 19 #[.pointer (some ⟨bk, 0, none⟩)] w fun v w' => (∃ ks, ks.Perm (es.map VE.name) ∧ OwnN w' w.heap.size v (srtN ks)) ∧ Later w w' := by
  refine enter19 _ ?_
  unfold B19
  have f2 : w.cell? ⟨bk, 2, none⟩ = some (.map (some r)) := h.blk.cell 2
  repeat' (first | (simp (disch := omega) only [push_cast, ↓reduceIte, zA, zG, zB, zH, zI, zC, zJ, zK, zL, zD, zE, zF, zM, zN, zO, zP, zQ, reduceCtorEq, not_true_eq_false, not_false_eq_true, f2, addr_add_eq, Nat.zero_add]) | (first | refine vIfE_of ?_ ?_ | refine vIfD_of ?_ ?_ | refine vIfQ_of ?_ ?_ | refine vIfV_of ?_ ?_) <;> intro _ | refine And.intro (by omega) ?_ | refine drawn_q ?_ | fail)
  refine (keys_c r w).mono ?_
  rintro _ w1 ⟨rfl, hw1⟩
  have l1 := later_alloc w (.cells #[.map (some r)] 55)
  have B1 := Blk.new w #[.map (some r)] 55
  rw [← hw1] at l1 B1
  clear hw1
  have h1 := h.later l1
  repeat' (first | (simp (disch := omega) only [push_cast, ↓reduceIte, zA, zG, zB, zH, zI, zC, zJ, zK, zL, zD, zE, zF, zM, zN, zO, zP, zQ, reduceCtorEq, not_true_eq_false, not_false_eq_true]) | (first | refine vIfE_of ?_ ?_ | refine vIfD_of ?_ ?_ | refine vIfQ_of ?_ ?_ | refine vIfV_of ?_ ?_) <;> intro _ | refine And.intro (by omega) ?_ | refine drawn_q ?_ | fail)
  have hsorted : FnC Try.prog 35 #[.func (.func 49) #[] #[.pointer (some ⟨w.heap.size, 0, none⟩)]] w1 fun v w' => (∃ ks, ks.Perm (es.map VE.name) ∧ OwnN w' w1.heap.size v (srtN ks)) ∧ Later w1 w' := by
    refine enter35 _ ?_
    unfold B35
    have hcol : FnC Try.prog 47 #[.func (.func 49) #[] #[.pointer (some ⟨w.heap.size, 0, none⟩)]] w1 fun v w' => (∃ ks, ks.Perm (es.map VE.name) ∧ OwnN w' w1.heap.size v ks) ∧ Later w1 w' := by
      refine enter47 _ ?_
      unfold B47
      repeat' (first | (simp (disch := omega) only [push_cast, ↓reduceIte, zA, zG, zB, zH, zI, zC, zJ, zK, zL, zD, zE, zF, zM, zN, zO, zP, zQ, reduceCtorEq, not_true_eq_false, not_false_eq_true]) | (first | refine vIfE_of ?_ ?_ | refine vIfD_of ?_ ?_ | refine vIfQ_of ?_ ?_ | refine vIfV_of ?_ ?_) <;> intro _ | refine And.intro (by omega) ?_ | refine drawn_q ?_ | fail)
      refine (gather_c w.heap.size r es c w1 B1 h1.map h1.born h1.nodup hl).mono ?_
      rintro v w2 ⟨⟨ks, hp, ho⟩, l2⟩
      obtain ⟨o2, c2, rfl⟩ := OwnN.slice ho
      repeat' (first | (simp (disch := omega) only [push_cast, ↓reduceIte, zA, zG, zB, zH, zI, zC, zJ, zK, zL, zD, zE, zF, zM, zN, zO, zP, zQ, reduceCtorEq, not_true_eq_false, not_false_eq_true]) | (first | refine vIfE_of ?_ ?_ | refine vIfD_of ?_ ?_ | refine vIfQ_of ?_ ?_ | refine vIfV_of ?_ ?_) <;> intro _ | refine And.intro (by omega) ?_ | refine drawn_q ?_ | fail)
      exact ⟨⟨ks, hp, ho⟩, l2⟩
    repeat' (first | (simp (disch := omega) only [push_cast, ↓reduceIte, zA, zG, zB, zH, zI, zC, zJ, zK, zL, zD, zE, zF, zM, zN, zO, zP, zQ, reduceCtorEq, not_true_eq_false, not_false_eq_true]) | (first | refine vIfE_of ?_ ?_ | refine vIfD_of ?_ ?_ | refine vIfQ_of ?_ ?_ | refine vIfV_of ?_ ?_) <;> intro _ | refine And.intro (by omega) ?_ | refine drawn_q ?_ | fail)
    refine hcol.mono ?_
    rintro v w2 ⟨⟨ks, hp, ho⟩, l2⟩
    obtain ⟨o2, c2, rfl⟩ := OwnN.slice ho
    repeat' (first | (simp (disch := omega) only [push_cast, ↓reduceIte, zA, zG, zB, zH, zI, zC, zJ, zK, zL, zD, zE, zF, zM, zN, zO, zP, zQ, reduceCtorEq, not_true_eq_false, not_false_eq_true]) | (first | refine vIfE_of ?_ ?_ | refine vIfD_of ?_ ?_ | refine vIfQ_of ?_ ?_ | refine vIfV_of ?_ ?_) <;> intro _ | refine And.intro (by omega) ?_ | refine drawn_q ?_ | fail)
    have hk : ks.length ≤ 1000000 := by rw [hp.length_eq, List.length_map]; exact hl
    refine (sortS_c _ ks _ w2 ho hk).mono ?_
    rintro _ w3 ⟨rfl, ho3, c3⟩
    have l3 : Later w1 w3 := Chg.later l2 c3 fun k hk => by
      obtain ⟨_, hh⟩ := ho
      rcases hh with ⟨h0, _⟩ | ⟨g, cap, cur, h0, hb, _⟩
      · rw [h0] at hk; simp [Value.ownBlock] at hk
      · rw [h0] at hk
        simp [Value.ownBlock] at hk
        omega
    repeat' (first | (simp (disch := omega) only [push_cast, ↓reduceIte, zA, zG, zB, zH, zI, zC, zJ, zK, zL, zD, zE, zF, zM, zN, zO, zP, zQ, reduceCtorEq, not_true_eq_false, not_false_eq_true]) | (first | refine vIfE_of ?_ ?_ | refine vIfD_of ?_ ?_ | refine vIfQ_of ?_ ?_ | refine vIfV_of ?_ ?_) <;> intro _ | refine And.intro (by omega) ?_ | refine drawn_q ?_ | fail)
    exact ⟨⟨ks, hp, ho3⟩, l3⟩
  refine hsorted.mono ?_
  rintro v w2 ⟨⟨ks, hp, ho⟩, l2⟩
  obtain ⟨o2, c2, rfl⟩ := OwnN.slice ho
  repeat' (first | (simp (disch := omega) only [push_cast, ↓reduceIte, zA, zG, zB, zH, zI, zC, zJ, zK, zL, zD, zE, zF, zM, zN, zO, zP, zQ, reduceCtorEq, not_true_eq_false, not_false_eq_true]) | (first | refine vIfE_of ?_ ?_ | refine vIfD_of ?_ ?_ | refine vIfQ_of ?_ ?_ | refine vIfV_of ?_ ?_) <;> intro _ | refine And.intro (by omega) ?_ | refine drawn_q ?_ | fail)
  exact ⟨⟨ks, hp, own_base ho l1.size⟩, l1.trans l2⟩
theorem list_s (bk r : Nat) (s : Vst) (w : World) (h : VS w bk r s) (g : Good s) :
    FnC Try.prog 19 #[.pointer (some ⟨bk, 0, none⟩)] w fun v w' => OwnN w' w.heap.size v (s.L.map Fl.name) ∧ Later w w' := by
  obtain ⟨es, c, hV, hR⟩ := h
  obtain ⟨_, _, _, n4, _⟩ := g.nums hV hR
  refine (list_c bk r _ _ es c w hV (by omega)).mono ?_
  rintro v w' ⟨⟨ks, hp, ho⟩, hl⟩
  have e := srtN_is g.srd (hp.trans (by
    have := (hR.perm hV.apart).map Fl.name
    rw [List.map_map] at this
    exact this))
  rw [e] at ho
  exact ⟨ho, hl⟩
end Go.Proofs.Ytmfcnooleejgmaa
end
section
namespace Go.Vc
open Go.RowKit Go.ChangeShapes
section
variable {H : Type} {enc : TypeId × Value → H} {P : Program}
theorem trodAll_stays (hl : laidOutB P = true) {W W' : World} {sp' : Nat → Bool} : ∀ {ts : List TypeId} {vs : List Value} {ds : List (DataW H)} {ps : List MemPlace},
    (∀ t ∈ ts, P.readableRec t = true ∧ t < P.types.size) → DataW.TrodAll enc P W 0 (fun _ => true) true ts vs ds ps → (∀ p ∈ ps, W.sameAt W' p) → (∀ p ∈ ps, sp' p.block = true) → DataW.TrodAll enc P W' 0 sp' true ts vs ds ps
  | [], [], [], _, _, h, _, _ => h
  | t :: ts, v :: vs, d :: ds, ps, ht, ⟨p, q, h1, h2, e⟩, hs, hp => by
    subst e
    refine ⟨p, q, WideElems.Trod_stays hl (ht t (by simp)).1 (ht t (by simp)).2 h1 (fun x hx => hs x (by simp [hx])) (fun x hx => hp x (by simp [hx])), ?_, rfl⟩
    exact trodAll_stays hl (fun u hu => ht u (by simp [hu])) h2 (fun x hx => hs x (by simp [hx])) (fun x hx => hp x (by simp [hx]))
theorem later_kept {W W' : World} (h : Later W W') (may : MemPlace → Prop) : W.keptBut W' may := by
  refine ⟨h.os, h.output, fun i hi => ?_⟩
  rw [h.block i hi]
  cases hb : W.heap[i]? with
  | none => simp
  | some o =>
    cases o with
    | cells c t fr => simp
    | map es k => simp
    | chan => simp
    | _ => simp
theorem trodAll_ps_len : ∀ {W : World} {b : Nat} {sp : Nat → Bool} {hd : Bool} {ts : List TypeId} {vs : List Value} {ds : List (DataW H)} {ps : List MemPlace}, DataW.TrodAll enc P W b sp hd ts vs ds ps → vs.length = ts.length ∧ ds.length = ts.length
  | _, _, _, _, [], [], [], _, _ => ⟨rfl, rfl⟩
  | W, b, sp, hd, _ :: ts, _ :: vs, _ :: ds, _, ⟨_, _, _, h2, _⟩ => by
    have := trodAll_ps_len h2
    exact ⟨by simp [this.1], by simp [this.2]⟩
/-- The post of a law that returned true and left what was there. -/
theorem post_later {f : Func} {s : ChangeSpec} {apart fresh handsOn again : Bool} {W W' : World} {args : Array Value} {ds gs : List (DataW H)} {before : List MemPlace} {tb : TypeId}
    (hl : laidOutB P = true) (hts : ∀ t ∈ f.params.toList, P.readableRec t = true ∧ t < P.types.size) (hr : f.resultTypes = #[tb]) (htb : P.underlying tb = some .bool)
    (hv : s.vars = []) (hfn : s.fn H ds = { results := [.lit (.bool true)], args := ds })
    (hW : DataW.Whole enc P f.params.toList s.vars apart W args.toList ds gs before) (h : Later W W') :
    s.post enc P f apart fresh handsOn again W args (.bool true) W' := by
  have hlt := hW.lt
  have hW' := hW
  obtain ⟨p, q, hA, hV, rfl, hfz, hnd⟩ := hW
  rw [hv] at hV
  obtain ⟨rfl, rfl⟩ := trodVars_none hV
  have same : ∀ x ∈ p, W.sameAt W' x := fun x hx => Below.same h (hlt x (by simp [hx]))
  have hargs : ∀ sp : Nat → Bool, (∀ x ∈ p, sp x.block = true) → DataW.TrodAll enc P W' 0 sp true f.params.toList args.toList ds p := fun sp hsp => trodAll_stays hl hts hA same hsp
  have hres : ∀ (b : Nat) (sp : Nat → Bool) (hd : Bool), DataW.TrodAll enc P W' b sp hd f.resultTypes.toList ((Value.bool true).resultList f.resultTypes.size) [.lit (.bool true)] [] := by
    intro b sp hd
    rw [hr]
    exact trodAll_cons_mk (shut_bool htb _) trodAll_mk0
  refine ⟨ds, [], p ++ [], [], p, [], hW', ?_, ?_, ?_, later_kept h _, fun _ => ?_⟩
  · rw [List.append_nil, hfn]; exact hres _ _ _
  · rw [List.append_nil, hfn]; exact hargs _ (fun x hx => by simpa using hlt x (by simp [hx]))
  · rw [hv, List.append_nil, hfn]; rfl
  · refine ⟨?_, [.lit (.bool true)] ++ ds, [], p, ⟨p, [], ?_, ?_, by simp, ?_, ?_⟩, ?_⟩
    · intro j t r h1 h2
      rw [hr] at h1 h2
      exact ok_one (f := f) hr rfl (okWide_bool_mk htb _) j t r (by rw [hr]; exact h1) (by rw [hr]; exact h2)
    · have := trodAll_append (hargs (fun _ => true) (fun _ _ => rfl)) (hres 0 (fun _ => true) true)
      simpa using this
    · rw [hv]; rfl
    · intro b off hp
      have := hlt _ (show MemPlace.cell b off ∈ p ++ [] by simpa using hp)
      rw [h.frozen (by exact this)]
      exact hfz b off (by simpa using hp)
    · intro ha; simpa using hnd ha
    · intro x hx _; simpa using hx
end
/-- The row's step out of a contract. -/
theorem lifted_later {C : Checked} {os : Os} {H : Type} {enc : TypeId × Value → H} {fid : FuncId} {f : Func} {s : ChangeSpec} {conds : List PathCond} {apart fresh handsOn again : Bool} {tb : TypeId}
    (own : ownKnob C.prog.godebug = none) (started : os.Started) (noInit : C.prog.inits.idxOf? fid = none) (hf : C.prog.funcs[fid]? = some f) (hb : HasBody C.prog fid)
    (witness : ∃ (w : World) (tape : Tape) (i : Input), w.os = os ∧ (w.forCall tape i).Shaped C.prog ∧ i.vars = [] ∧ Input.okWide C.prog (w.forCall tape i) .any w.heap.size fid i ∧
      s.pre6 enc C.prog f conds apart (w.forCall tape i).memory i.args ∧ ({} : Assume).holds C.prog (lone (Frame.enter C.prog fid i.args .normal) [] (w.forCall tape i)))
    (hl : laidOutB C.prog = true) (hts : ∀ t ∈ f.params.toList, C.prog.readableRec t = true ∧ t < C.prog.types.size) (hr : f.resultTypes = #[tb]) (htb : C.prog.underlying tb = some .bool)
    (hv : s.vars = []) (hfn : ∀ ds : List (DataW H), ds.length = f.params.toList.length → s.fn H ds = { results := [.lit (.bool true)], args := ds })
    (walk : ∀ (W : World) (base : Nat) (args : Array Value) (ds : List (DataW H)) (p : List MemPlace), (∀ (j : Nat) t v, f.params[j]? = some t → args[j]? = some v → Value.okWide C.prog W .any base t v) →
      DataW.TrodAll enc C.prog W 0 (fun _ => true) true f.params.toList args.toList ds p → FnC C.prog fid args W fun v w' => v = .bool true ∧ Later W w') :
    ReturnsInHanded {} C os fid .any (s.pre6 enc C.prog f conds apart) (s.post enc C.prog f apart fresh handsOn again) := by
  refine returnsInHanded_of_change own started noInit hf witness ?_
  intro W base args ds gs before hval hW _ _
  have hW' := hW
  obtain ⟨p, q, hA, hV, rfl, hfz, hnd⟩ := hW
  have hw := walk W base args ds p hval hA
  unfold FnC at hw
  rw [hb args W] at hw
  have hw : Ret C.prog fid args W fun v w' => v = .bool true ∧ Later W w' := hw
  refine hw.mono fun e w' ⟨v, he, hv', hlat⟩ => ?_
  subst hv'
  exact ⟨_, he, post_later hl hts hr htb hv (hfn ds (trodAll_ps_len hA).2) hW' hlat⟩
section
variable {H : Type} {enc : TypeId × Value → H} {P : Program} {w : World} {sp : Nat → Bool} {hd : Bool}
theorem forall_rows {n : Nat} {R : Nat → List Value → Prop} (h : ∀ i, i < n → ∃ r, R i r) : ∃ rows : List (List Value), rows.length = n ∧ ∀ i r, rows[i]? = some r → R i r := by
  induction n with
  | zero => exact ⟨[], rfl, fun i r hr => by simp at hr⟩
  | succ n ih =>
    obtain ⟨rows, hl, hr⟩ := ih fun i hi => h i (by omega)
    obtain ⟨r, hr'⟩ := h n (by omega)
    refine ⟨rows ++ [r], by simp [hl], fun i x hx => ?_⟩
    by_cases hi : i < n
    · rw [List.getElem?_append_left (by omega)] at hx
      exact hr i x hx
    · rw [List.getElem?_append_right (by omega)] at hx
      have : i = n := by
        by_cases h2 : i - rows.length = 0
        · omega
        · rw [List.getElem?_eq_none (by simp; omega)] at hx; cases hx
      subst this
      simp [hl] at hx
      exact hx ▸ hr'
theorem flatten_at {s : Nat} : ∀ (rows : List (List Value)), (∀ r ∈ rows, r.length = s) → ∀ (i : Nat) (x : Value), rows.flatten[i]? = some x → ∃ k j r, i = k * s + j ∧ j < s ∧ rows[k]? = some r ∧ r[j]? = some x
  | [], _, i, x, h => by simp at h
  | r :: rows, hl, i, x, h => by
    rw [List.flatten_cons] at h
    have hr := hl r (by simp)
    by_cases hi : i < r.length
    · rw [List.getElem?_append_left hi] at h
      exact ⟨0, i, r, by simp, by omega, rfl, h⟩
    · rw [List.getElem?_append_right (by omega)] at h
      obtain ⟨k, j, r', e, hj, hk, hx⟩ := flatten_at rows (fun r' h' => hl r' (by simp [h'])) (i - r.length) x h
      exact ⟨k + 1, j, r', by rw [Nat.add_mul]; omega, hj, by simpa using hk, hx⟩
/-- A slice that came in: its elements' cells, row by row, each as its type reads. -/
theorem open_rows {Q : List Value → Prop} {t e : TypeId} {v : Value} {d : DataW H} {ps : List MemPlace} {s : Nat} (ht : P.underlying t = some (.slice e)) (hc : P.cellsOf e = s)
    (hQ : ∀ m cs y, DataW.trod enc P w 0 sp hd m e cs = some y → Q cs) (hval : v.cells.toList = [v]) (h : DataW.Trod enc P w 0 sp hd t v d ps) :
    ∃ rows : List (List Value), SlN w s v rows.length rows.flatten ∧ ∀ r ∈ rows, r.length = s ∧ Q r := by
  obtain ⟨fuel, h⟩ := h
  rw [hval] at h
  rcases DataW.trod_slice ht h with ⟨h0, _⟩ | ⟨a, len, cap, elems, rest, n, _, hv, _, _, hl, hm, hlen, hel, _⟩
  · simp only [List.cons.injEq, and_true] at h0
    subst h0
    exact ⟨[], SlN.nil w s, by simp⟩
  · simp only [List.cons.injEq, and_true] at hv
    subst hv
    rw [hc] at hel
    have step : ∀ i, i < len → ∃ r : List Value, (∀ j x, r[j]? = some x → w.cell? (a.add (i * s + j)) = some x) ∧ r.length = s ∧ Q r := by
      intro i hi
      have h1 := hel i hi
      rw [List.getElem?_eq_getElem (by omega), Option.bind_eq_some_iff] at h1
      obtain ⟨cs, hcs, hy⟩ := h1
      have h2 := World.cells?_some hcs
      refine ⟨cs, fun j x hx => ?_, h2.2.1, hQ _ _ _ hy⟩
      have hj : j < s := by
        have := (List.getElem?_eq_some_iff.1 hx).1
        have := h2.2.1
        omega
      have h3 := h2.2.2 j hj
      rw [addr_add_add] at h3
      rw [h3]; exact hx
    obtain ⟨rows, hrl, hr⟩ := forall_rows step
    have hrs : ∀ r ∈ rows, r.length = s ∧ Q r := by
      intro r hr'
      obtain ⟨i, hi⟩ := List.getElem?_of_mem hr'
      exact (hr i r hi).2
    refine ⟨rows, ?_, hrs⟩
    rw [hrl]
    have hfl : rows.flatten.length = len * s := by
      rw [List.length_flatten, ← hrl]
      clear hr hrl
      induction rows with
      | nil => simp
      | cons r rows ih =>
        simp only [List.map_cons, List.sum_cons, List.length_cons]
        rw [ih (fun r' h' => hrs r' (by simp [h'])), (hrs r (by simp)).1, Nat.add_mul]
        omega
    refine SlN.mk hfl hl hm (fun h => by cases h) ?_
    intro a' ha i x hx
    simp only [Option.some.injEq] at ha
    subst ha
    obtain ⟨k, j, r, rfl, hj, hk, hx'⟩ := flatten_at rows (fun r hr' => (hrs r hr').1) i x hx
    exact (hr k r hk).1 j x hx'
theorem slice_cells {t e : TypeId} {v : Value} {r : Reach} {b0 : Nat} (ht : P.underlying t = some (.slice e)) (hval : Value.okWide P w r b0 t v) : v.cells.toList = [v] := by
  simp only [Value.okWide, ht] at hval
  cases v <;> simp [Cell.okWide, Cell.ok, ht] at hval <;> rfl
/-- A slice of bytes that came in. -/
theorem u8s_of {t e : TypeId} {v : Value} {d : DataW H} {ps : List MemPlace} (ht : P.underlying t = some (.slice e)) (he : P.underlying e = some (.int .u8)) (hc : P.cellsOf e = 1) (hval : v.cells.toList = [v]) (h : DataW.Trod enc P w 0 sp hd t v d ps) :
    ∃ l : List UInt8, Sl w v (l.map u8v) := by
  obtain ⟨rows, hs, hr⟩ := open_rows (Q := fun cs => ∃ c : UInt8, cs = [u8v c]) ht hc (fun m cs y hy => by
    obtain ⟨n, rfl, _, hw⟩ := DataW.trod_int he hy
    simp only [Lit.wf, Bool.and_eq_true, decide_eq_true_eq] at hw
    refine ⟨UInt8.ofNat n.toNat, ?_⟩
    unfold u8v
    have h1 : IntKind.u8.min = 0 := rfl
    have h2 : IntKind.u8.max = 255 := rfl
    rw [h1, h2] at hw
    have : ((UInt8.ofNat n.toNat).toNat : Int) = n := by simp; omega
    rw [this]) hval h
  have : ∃ l : List UInt8, rows.flatten = l.map u8v ∧ l.length = rows.length := by
    clear hs
    induction rows with
    | nil => exact ⟨[], rfl, rfl⟩
    | cons r rows ih =>
      obtain ⟨l, hl, hn⟩ := ih fun r' h' => hr r' (by simp [h'])
      obtain ⟨_, c, rfl⟩ := hr r (by simp)
      exact ⟨c :: l, by simp [hl], by simp [hn]⟩
  obtain ⟨l, hl, hn⟩ := this
  refine ⟨l, ?_⟩
  unfold Sl
  rw [hl, ← hn] at hs
  simpa using hs
end
theorem list_all {P : Program} {ts : List TypeId} (h : (ts.all fun t => P.readableRec t && decide (t < P.types.size)) = true) : ∀ t ∈ ts, P.readableRec t = true ∧ t < P.types.size := by
  intro t ht
  have := List.all_eq_true.1 h t ht
  simpa using this
theorem i64_of_wf {n : Int} (h : (Lit.int .i64 n).wf = true) : -9223372036854775808 ≤ n ∧ n ≤ 9223372036854775807 := by
  simp only [Lit.wf, Bool.and_eq_true, decide_eq_true_eq] at h
  exact h
end Go.Vc
end
section
namespace Go.Vc
open Go.RowKit
/-- One cell of what a call owns, written. -/
theorem own_setN {w : World} {base n s : Nat} {e : TypeId} {a : Addr} {c m i : Nat} {xs : List Value} (h : w.ownsRow base e s (.slice (some a) m c) n xs) (hi : i < n * s) (v : Value) :
    ∃ k, a = ⟨k, 0, none⟩ ∧ base ≤ k ∧ k < w.heap.size ∧ (w.setCell ⟨k, i, none⟩ v).ownsRow base e s (.slice (some ⟨k, 0, none⟩) m c) n (xs.set i v) ∧ (∃ y, w.cell? ⟨k, i, none⟩ = some y) ∧ w.frozen? ⟨k, i, none⟩ = false ∧ Blk w k (match w.heap[k]? with | some (.cells cs _ _) => cs | _ => #[]) e := by
  obtain ⟨h0, h⟩ := h
  rcases h with ⟨h, _⟩ | ⟨g, cap, cur, hv, hb, hh, h1, h2, h3, h4⟩
  · cases h
  · simp only [Value.slice.injEq, Option.some.injEq] at hv
    obtain ⟨rfl, rfl, rfl⟩ := hv
    have hB : Blk w g cur e := hh
    have hsz : cur.size = c * s := by simpa using h3
    have hms : m * s ≤ c * s := Nat.mul_le_mul_right _ h1
    refine ⟨g, rfl, hb, hB.lt, ⟨by simpa using h0, .inr ⟨g, c, cur.setIfInBounds i v, rfl, hb, hB.set i v, h1, h2, by simpa using h3, ?_⟩⟩, ?_, hB.frozen i, ?_⟩
    · rw [← h4]; simp [List.take_set]
    · rw [hB.cell]; exact ⟨cur[i], Array.getElem?_eq_getElem (by omega)⟩
    · rw [hh]; exact hh
/-- The first k. -/
theorem SlN.preN {w : World} {s n c : Nat} {o : Option Addr} {xs : List Value} (h : SlN w s (.slice o n c) n xs) {k : Nat} (hk : k ≤ n) : SlN w s (.slice o k c) k (xs.take (k * s)) := by
  obtain ⟨_, hc, hm, hl, _⟩ := h.len
  have hs := h.part (l := 0) (k := (k : Int)) (m := (c : Int)) (by omega) (by omega) (by omega) (by omega) (by omega)
  simp only [Int.sub_zero, Int.toNat_zero, Nat.zero_mul, List.drop_zero, Int.toNat_natCast] at hs
  unfold slAddr at hs
  split at hs
  · exact hs
  · cases o with
    | none => exact hs
    | some a => simpa [addr_add_zero] using hs
theorem flat_take (l : List (Int × Int)) : ∀ k : Nat, (l.map pairC).flatten.take (k * 2) = ((l.take k).map pairC).flatten := by
  induction l with
  | nil => intro k; simp
  | cons p l ih =>
    intro k
    cases k with
    | zero => simp
    | succ k =>
      have e : (k + 1) * 2 = k * 2 + 2 := by omega
      rw [e, List.map_cons, List.flatten_cons, List.take_succ_cons, List.map_cons, List.flatten_cons, ← ih k]
      show (pairC p ++ (l.map pairC).flatten).take (k * 2 + 2) = _
      have e2 : (pairC p).length = 2 := rfl
      rw [List.take_append, e2]
      simp [pairC]
theorem PairS.pre {w : World} {o : Option Addr} {n c : Nat} {l : List (Int × Int)} (h : PairS w (.slice o n c) l) {k : Nat} (hk : k ≤ l.length) : PairS w (.slice o k c) (l.take k) := by
  unfold PairS at h ⊢
  obtain ⟨e, _⟩ := h.len
  subst e
  have := SlN.preN h hk
  rw [flat_take] at this
  rw [List.length_take, Nat.min_eq_left hk]
  exact this
end Go.Vc
end
section
namespace Go.Vc
open Go.RowKit
section
variable {α : Type} {enc : α → List Value} {k : Nat}
/-- Records, read. -/
def RecS (enc : α → List Value) (k : Nat) (w : World) (v : Value) (l : List α) : Prop := SlN w k v l.length (l.map enc).flatten
/-- Records of one's own. -/
def OwnR (enc : α → List Value) (k : Nat) (w : World) (B : Nat) (e : TypeId) (v : Value) (l : List α) : Prop := w.ownsRow B e k v l.length (l.map enc).flatten
theorem rec_len (hk : ∀ x, (enc x).length = k) (l : List α) : ∀ r ∈ l.map enc, r.length = k := by
  intro r hr
  obtain ⟨p, _, rfl⟩ := List.mem_map.1 hr
  exact hk p
theorem rec_flat (hk : ∀ x, (enc x).length = k) (l : List α) : (l.map enc).flatten.length = l.length * k := by
  induction l with
  | nil => simp
  | cons p l ih => simp only [List.map_cons, List.flatten_cons, List.length_append, ih, List.length_cons, hk, Nat.add_mul]; omega
theorem RecS.later {w w' : World} {v : Value} {l : List α} (h : RecS enc k w v l) (hl : Later w w') : RecS enc k w' v l := SlN.later h hl
theorem OwnR.s {w : World} {B : Nat} {e : TypeId} {v : Value} {l : List α} (h : OwnR enc k w B e v l) : RecS enc k w v l := SlN.of_own h
theorem OwnR.later {w w' : World} {B : Nat} {e : TypeId} {v : Value} {l : List α} (h : OwnR enc k w B e v l) (hl : Later w w') : OwnR enc k w' B e v l := own_later h hl
theorem OwnR.base {w : World} {B B' : Nat} {e : TypeId} {v : Value} {l : List α} (h : OwnR enc k w B e v l) (hb : B' ≤ B) : OwnR enc k w B' e v l := own_base h hb
theorem OwnR.nil (w : World) (B : Nat) (e : TypeId) : OwnR enc k w B e (.slice none 0 0) [] := own_nil w B e k
theorem OwnR.alloc {w : World} {B : Nat} {e : TypeId} {v : Value} {l : List α} (h : OwnR enc k w B e v l) (o : Obj) : OwnR enc k (w.alloc o) B e v l := own_alloc h o
theorem OwnR.lit0 (w : World) (e : TypeId) {B : Nat} (hB : B ≤ w.heap.size) : OwnR enc k (w.alloc (.cells #[] e)) B e (.slice (some ⟨w.heap.size, 0, none⟩) 0 0) [] := own_lit w [] e k 0 (by simp) (by unfold maxLen; omega) hB
theorem RecS.slice {w : World} {v : Value} {l : List α} (h : RecS enc k w v l) : ∃ o c, v = .slice o l.length c ∧ l.length ≤ c ∧ c ≤ 9223372036854775807 := by
  obtain ⟨o, c, hv, h1, h2, _⟩ := SlN.open h
  exact ⟨o, c, hv, h1, by simpa [maxLen] using h2⟩
theorem RecS.nil (w : World) : RecS enc k w (.slice none 0 0) [] := SlN.of_own (own_nil w 0 0 k)
theorem RecS.at (hk : ∀ x, (enc x).length = k) {w : World} {o : Option Addr} {n c : Nat} {l : List α} (h : RecS enc k w (.slice o n c) l) {i : Nat} (hi : i < l.length) : ∃ a, o = some a ∧ cellsAt w (a.add (i * k)) k = some (enc l[i]) := by
  cases o with
  | none => have h1 := SlN.len h; have := h1.2.2.2.2 rfl; have := h1.1; omega
  | some a =>
    have hr : (l.map enc)[i]? = some (enc l[i]) := by simp [hi]
    exact ⟨a, rfl, SlN.row h (rec_len hk l) hr⟩
theorem RecS.get (hk : ∀ x, (enc x).length = k) {w : World} {a : Addr} {n c : Nat} {l : List α} (h : RecS enc k w (.slice (some a) n c) l) {i : Nat} (hi : i < l.length) : cellsAt w (a.add (i * k)) k = some (enc l[i]) := by
  obtain ⟨a', ha, hc⟩ := RecS.at hk h hi
  cases ha
  exact hc
theorem RecS.cell (hk : ∀ x, (enc x).length = k) {w : World} {a : Addr} {n c : Nat} {l : List α} (h : RecS enc k w (.slice (some a) n c) l) {i j : Nat} (hi : i < l.length) {x : Value} (hx : (enc l[i])[j]? = some x) : w.cell? ((a.add (i * k)).add j) = some x :=
  SlN.rowCell h (rec_len hk l) (by simp [hi]) hx
/-- Records behind records of the call's own. -/
theorem vAppend_rs (hk : ∀ x, (enc x).length = k) (h1 : ∀ x, ∀ u ∈ enc x, u.oneCell' = true) {P : Program} {w : World} {K : Value → World → Prop} {t e ty : TypeId} {z : Value} {b : Nat} (ht : P.underlying t = some (.slice e)) (hi : (P.info? e).map (fun i => (i.zero, i.size, i.bytes)) = some (some z, k, b)) (hzs : z.cells.size = k) (hk0 : 0 < k)
    {B : Nat} {v x : Value} {l r : List α} (hown : OwnR enc k w B e v l) (hx : RecS enc k w x r) (h63 : l.length + r.length ≤ 1000000000) (hb : b ≤ 1000) (hbase : B ≤ w.heap.size)
    (hK : ∀ v' w', OwnR enc k w' B e v' (l ++ r) → w.grownBy w' v.ownBlock → (v'.ownBlock = v.ownBlock ∨ v'.ownBlock = some w.heap.size) → K v' w') : vAppend P #[t, t] ty #[v, x] K w := by
  refine vAppend_at ht hi hzs hk0 hown hx ?_ (by unfold maxLen; omega) ?_ hbase ?_
  · intro u hu
    obtain ⟨ys, hy, hu⟩ := List.mem_flatten.1 hu
    obtain ⟨p, _, rfl⟩ := List.mem_map.1 hy
    exact h1 p u hu
  · have : (l.length + r.length) * b ≤ 1000000000 * 1000 := Nat.mul_le_mul h63 hb
    omega
  · intro v' w' ho hg hs
    refine hK v' w' ?_ hg hs
    unfold OwnR
    simpa using ho
/-- A literal's row of one record. -/
theorem RecS.lit1 {w : World} {b : Nat} {e : TypeId} {y : α} (hk : (enc y).length = k) (h : Blk w b (enc y).toArray e) : RecS enc k w (.slice (some ⟨b, 0, none⟩) 1 1) [y] := by
  refine SlN.mk (by simp [hk]) (Nat.le_refl _) (by unfold maxLen; omega) (fun h => by cases h) ?_
  intro a ha i x hx
  simp only [Option.some.injEq] at ha
  subst ha
  rw [addr_add_eq, Nat.zero_add, h.cell]
  simpa using hx
/-- Cells of what a call owns, written one after the other. -/
def wrs (xs : List Value) (p : Nat) : List Value → List Value
  | [] => xs
  | v :: vs => wrs (xs.set p v) (p + 1) vs
theorem writes_app (A old B new : List Value) (h : old.length = new.length) : wrs (A ++ old ++ B) A.length new = A ++ new ++ B := by
  induction new generalizing A old with
  | nil => obtain rfl := List.length_eq_zero_iff.1 h; rfl
  | cons v vs ih =>
    cases old with
    | nil => cases h
    | cons o os =>
      have e : (A ++ o :: os ++ B).set A.length v = (A ++ [v]) ++ os ++ B := by simp
      have hl : A.length + 1 = (A ++ [v]).length := by simp
      rw [wrs, e, hl, ih (A ++ [v]) os (by simpa using h)]
      simp
theorem own_writes {w : World} {base n s : Nat} {e : TypeId} {a : Addr} {c m : Nat} {xs : List Value} (h : w.ownsRow base e s (.slice (some a) m c) n xs) : ∃ g, a = ⟨g, 0, none⟩ ∧ base ≤ g ∧ g < w.heap.size ∧ (∃ cs, Blk w g cs e) ∧ ∀ (vs : List Value) (p : Nat), p + vs.length ≤ n * s → canAll w ⟨g, p, none⟩ vs := by
  obtain ⟨h0, h⟩ := h
  rcases h with ⟨h, _⟩ | ⟨g, cap, cur, hv, hb, hh, h1, h2, h3, h4⟩
  · cases h
  · simp only [Value.slice.injEq, Option.some.injEq] at hv
    obtain ⟨rfl, rfl, rfl⟩ := hv
    have hB : Blk w g cur e := hh
    have hsz : cur.size = c * s := by simpa using h3
    have hms : m * s ≤ c * s := Nat.mul_le_mul_right _ h1
    refine ⟨g, rfl, hb, hB.lt, ⟨cur, hB⟩, fun vs => ?_⟩
    induction vs with
    | nil => intro p _; trivial
    | cons v vs ih =>
      intro p hp
      simp only [List.length_cons] at hp
      refine ⟨⟨cur[p], by rw [hB.cell]; exact Array.getElem?_eq_getElem (by omega)⟩, hB.frozen p, ?_⟩
      rw [addr_add_eq]
      exact ih (p + 1) (by omega)
theorem own_storeAll {base n s : Nat} {e : TypeId} {g c m : Nat} : ∀ (vs : List Value) (w : World) (p : Nat) (xs : List Value), w.ownsRow base e s (.slice (some ⟨g, 0, none⟩) m c) n xs → p + vs.length ≤ n * s →
    (storeAll w ⟨g, p, none⟩ vs).ownsRow base e s (.slice (some ⟨g, 0, none⟩) m c) n (wrs xs p vs) ∧ Chg w (storeAll w ⟨g, p, none⟩ vs) [g] := by
  intro vs
  induction vs with
  | nil => intro w p xs h _; exact ⟨h, Chg.refl _ _⟩
  | cons v vs ih =>
    intro w p xs h hp
    simp only [List.length_cons] at hp
    obtain ⟨k', e', _, _, h3, _, _, _⟩ := own_setN (i := p) h (by omega) v
    have eg : k' = g := by have := congrArg Addr.block e'; simpa using this.symm
    subst eg
    have := ih (w.setCell ⟨k', p, none⟩ v) (p + 1) (xs.set p v) h3 (by omega)
    unfold storeAll
    rw [addr_add_eq]
    exact ⟨this.1, (chg_setCell w (by simp) v).trans this.2⟩
theorem set_split (l : List α) {i : Nat} (hi : i < l.length) (y : α) : l = l.take i ++ l[i] :: l.drop (i + 1) ∧ l.set i y = l.take i ++ y :: l.drop (i + 1) := by
  refine ⟨?_, ?_⟩
  · rw [List.getElem_cons_drop, List.take_append_drop]
  · rw [List.set_eq_take_append_cons_drop, if_pos hi]
theorem writes_rec (hk : ∀ x, (enc x).length = k) (l : List α) {i : Nat} (hi : i < l.length) (y : α) : wrs (l.map enc).flatten (i * k) (enc y) = ((l.set i y).map enc).flatten := by
  obtain ⟨e1, e2⟩ := set_split l hi y
  have hA : ((l.take i).map enc).flatten.length = i * k := by rw [rec_flat hk, List.length_take]; congr 1; omega
  have e3 : (l.map enc).flatten = ((l.take i).map enc).flatten ++ enc l[i] ++ ((l.drop (i + 1)).map enc).flatten := by
    have : (l.map enc).flatten = ((l.take i ++ l[i] :: l.drop (i + 1)).map enc).flatten := congrArg (fun l => (l.map enc).flatten) e1
    rw [this, List.map_append, List.flatten_append, List.map_cons, List.flatten_cons, List.append_assoc]
  rw [e3, ← hA, writes_app _ _ _ _ (by rw [hk, hk]), e2]
  simp
/-- One record written anew. -/
theorem OwnR.set (hk : ∀ x, (enc x).length = k) {w : World} {B : Nat} {e : TypeId} {a : Addr} {n c : Nat} {l : List α} (h : OwnR enc k w B e (.slice (some a) n c) l) {i : Nat} (hi : i < l.length) (y : α) :
    ∃ g, a = ⟨g, 0, none⟩ ∧ B ≤ g ∧ (∃ cs, Blk w g cs e) ∧ canAll w (a.add (i * k)) (enc y) ∧ OwnR enc k (storeAll w (a.add (i * k)) (enc y)) B e (.slice (some a) n c) (l.set i y) ∧ Chg w (storeAll w (a.add (i * k)) (enc y)) [g] := by
  obtain ⟨g, rfl, h1, h2, hb, h3⟩ := own_writes h
  have hle : i * k + k ≤ l.length * k := by
    have : (i + 1) * k ≤ l.length * k := Nat.mul_le_mul_right _ hi
    rw [Nat.add_mul] at this; omega
  obtain ⟨o1, o2⟩ := own_storeAll (enc y) w (i * k) _ h (by rw [hk]; exact hle)
  refine ⟨g, rfl, h1, hb, ?_, ?_, ?_⟩
  · rw [addr_add_eq, Nat.zero_add]
    exact h3 (enc y) (i * k) (by rw [hk]; exact hle)
  · rw [addr_add_eq, Nat.zero_add]
    unfold OwnR
    rw [writes_rec hk l hi y] at o1
    simpa using o1
  · rw [addr_add_eq, Nat.zero_add]
    exact o2
end
end Go.Vc
end
section
namespace Go.Vc
open Go.RowKit Go.ChangeShapes
section
variable {H : Type} {enc : TypeId × Value → H} {P : Program} {w : World} {sp : Nat → Bool} {hd : Bool}
/-- Whatever of a type came in reads as R says. -/
structure Opens (enc : TypeId × Value → H) (P : Program) (w : World) (sp : Nat → Bool) (hd : Bool) (e : TypeId) (s : Nat) (R : List Value → Prop) : Prop where
  size : P.cellsOf e = s
  reads : ∀ m cs y, DataW.trod enc P w 0 sp hd m e cs = some y → R cs
theorem Opens.mono {e : TypeId} {s : Nat} {R R' : List Value → Prop} (h : Opens enc P w sp hd e s R) (hr : ∀ cs, R cs → R' cs) : Opens enc P w sp hd e s R' := ⟨h.size, fun m cs y hy => hr _ (h.reads m cs y hy)⟩
theorem opens_i64 {e : TypeId} (he : P.underlying e = some (.int .i64)) (hc : P.cellsOf e = 1) : Opens enc P w sp hd e 1 (fun cs => ∃ n : Int, cs = [.int .i64 n] ∧ -9223372036854775808 ≤ n ∧ n ≤ 9223372036854775807) :=
  ⟨hc, fun m cs y hy => by
    obtain ⟨n, rfl, _, hw⟩ := DataW.trod_int he hy
    exact ⟨n, rfl, i64_of_wf hw⟩⟩
theorem opens_string {e : TypeId} (he : P.underlying e = some .string) (hc : P.cellsOf e = 1) : Opens enc P w sp hd e 1 (fun cs => ∃ s : ByteArray, cs = [.string s] ∧ s.size ≤ 9223372036854775807) :=
  ⟨hc, fun m cs y hy => by
    obtain ⟨n, rfl, _, hs⟩ := DataW.trod_string he hy
    exact ⟨n, rfl, hs⟩⟩
theorem rows_list {α : Type} {en : α → List Value} {Q : α → Prop} : ∀ (rows : List (List Value)), (∀ r ∈ rows, ∃ x, r = en x ∧ Q x) → ∃ l : List α, rows = l.map en ∧ ∀ x ∈ l, Q x
  | [], _ => ⟨[], rfl, by simp⟩
  | r :: rows, h => by
    obtain ⟨l, hl, hq⟩ := rows_list rows fun r' h' => h r' (by simp [h'])
    obtain ⟨x, hx, hqx⟩ := h r (by simp)
    refine ⟨x :: l, by simp [hl, hx], fun y hy => ?_⟩
    rcases List.mem_cons.1 hy with rfl | hy
    · exact hqx
    · exact hq y hy
theorem opens_slice {α : Type} {en : α → List Value} {Q : α → Prop} {t e : TypeId} {s : Nat} (ht : P.underlying t = some (.slice e)) (hc : P.cellsOf t = 1) (he : Opens enc P w sp hd e s (fun cs => ∃ x, cs = en x ∧ Q x)) :
    Opens enc P w sp hd t 1 (fun cs => ∃ v l, cs = [v] ∧ RecS en s w v l ∧ ∀ x ∈ l, Q x) :=
  ⟨hc, fun m cs y hy => by
    have hx : ∃ x : Value, cs = [x] ∧ x.cells.toList = [x] := by
      rcases DataW.trod_slice ht hy with ⟨h0, _⟩ | ⟨a, len, cap, elems, rest, n, _, hv, _⟩
      · exact ⟨_, h0, rfl⟩
      · exact ⟨_, hv, rfl⟩
    obtain ⟨x, rfl, hx⟩ := hx
    obtain ⟨rows, hs, hr⟩ := open_rows (d := y.1) (ps := y.2) (Q := fun cs => ∃ x, cs = en x ∧ Q x) ht he.size (fun m cs y hy => he.reads m cs y hy) hx ⟨m, by rw [hx]; exact hy⟩
    obtain ⟨l, rfl, hq⟩ := rows_list rows fun r h => (hr r h).2
    rw [List.length_map] at hs
    exact ⟨x, l, rfl, hs, hq⟩⟩
/-- A struct's fields, each by itself. -/
theorem opens_struct {t : TypeId} {fs : Array Field} {S : Nat} (ht : P.underlying t = some (.struct fs)) (hc : P.cellsOf t = S) :
    Opens enc P w sp hd t S (fun cs => cs.length = S ∧ ∀ (i : Nat) (f : Field) (s : Nat) (R : List Value → Prop), fs[i]? = some f → Opens enc P w sp hd f.type s R → R ((cs.drop f.offset).take s)) :=
  ⟨hc, fun m cs y hy => by
    obtain ⟨xs, n, _, _, hl, hxl, hf⟩ := DataW.trod_struct ht hy
    rw [hc] at hl
    refine ⟨hl, fun i f s R hi ho => ?_⟩
    have h1 := hf i f hi
    rw [ho.size] at h1
    have hlt : i < xs.length := by
      rw [hxl]
      exact (Array.getElem?_eq_some_iff.1 hi).1
    rw [List.getElem?_eq_getElem hlt] at h1
    exact ho.reads _ _ _ h1⟩
/-- A slice that came in as a value. -/
theorem open_sl {t e : TypeId} {v : Value} {d : DataW H} {ps : List MemPlace} {r : Reach} {b0 s : Nat} {R : List Value → Prop} (ht : P.underlying t = some (.slice e)) (ho : Opens enc P w sp hd t s R)
    (hval : Value.okWide P w r b0 t v) (h : DataW.Trod enc P w 0 sp hd t v d ps) : R [v] := by
  obtain ⟨fuel, h⟩ := h
  rw [slice_cells ht hval] at h
  exact ho.reads _ _ _ h
end
end Go.Vc
end
section
set_option linter.unusedSimpArgs false
namespace Go.Proofs.Ytmfcnooleejgmaa
open Go.Vc Go.Key Go.RowKit Go.ChangeShapes Go.Vlt
set_option maxRecDepth 100000
abbrev I64 (n : Int) : Prop := -9223372036854775808 ≤ n ∧ n ≤ 9223372036854775807
/-- An act, and where its bytes lie. -/
structure ActD where
  kind : Int
  n : Int
  a : ByteArray
  z : ByteArray
  bv : Value
  b : List UInt8
def acC (x : ActD) : List Value := [.int .i64 x.kind, .int .i64 x.n, .string x.a, .string x.z, x.bv]
structure ActD.Ok (w : World) (x : ActD) : Prop where
  sl : Sl w x.bv (x.b.map u8v)
  kind : I64 x.kind
  n : I64 x.n
  a : x.a.size ≤ 9223372036854775807
  z : x.z.size ≤ 9223372036854775807
theorem ActD.Ok.later {w w' : World} {x : ActD} (h : x.Ok w) (hl : Later w w') : x.Ok w' := ⟨h.sl.later hl, h.kind, h.n, h.a, h.z⟩
section
variable {H : Type} {enc : TypeId × Value → H} {w : World} {sp : Nat → Bool} {hd : Bool}
theorem o_int : Opens enc Try.prog w sp hd 3 1 (fun cs => ∃ n : Int, cs = [.int .i64 n] ∧ I64 n) := opens_i64 Try.underlying3 (by kernel_rfl)
theorem o_str : Opens enc Try.prog w sp hd 9 1 (fun cs => ∃ s : ByteArray, cs = [.string s] ∧ s.size ≤ 9223372036854775807) := opens_string Try.underlying9 (by kernel_rfl)
theorem o_bytes : Opens enc Try.prog w sp hd 22 1 (fun cs => ∃ (v : Value) (l : List UInt8), cs = [v] ∧ Sl w v (l.map u8v)) :=
  ⟨by kernel_rfl, fun m cs y hy => by
    have hx : ∃ x : Value, cs = [x] ∧ x.cells.toList = [x] := by
      rcases DataW.trod_slice Try.underlying22 hy with ⟨h0, _⟩ | ⟨a, len, cap, elems, rest, n, _, hv, _⟩
      · exact ⟨_, h0, rfl⟩
      · exact ⟨_, hv, rfl⟩
    obtain ⟨x, rfl, hx⟩ := hx
    obtain ⟨l, hl⟩ := u8s_of Try.underlying22 Try.underlying5 (by kernel_rfl) hx (d := y.1) (ps := y.2) ⟨m, by rw [hx]; exact hy⟩
    exact ⟨x, l, rfl, hl⟩⟩
theorem o_act : Opens enc Try.prog w sp hd 37 5 (fun cs => ∃ x : ActD, cs = acC x ∧ x.Ok w) :=
  (opens_struct Try.underlying37 (by kernel_rfl)).mono fun cs ⟨hl, hf⟩ => by
    match cs, hl with
    | [c0, c1, c2, c3, c4], _ =>
      obtain ⟨k, hk, wk⟩ := hf 0 _ 1 _ rfl o_int
      obtain ⟨n, hn, wn⟩ := hf 1 _ 1 _ rfl o_int
      obtain ⟨a, ha, wa⟩ := hf 2 _ 1 _ rfl o_str
      obtain ⟨z, hz, wz⟩ := hf 3 _ 1 _ rfl o_str
      obtain ⟨v, b, hb, wb⟩ := hf 4 _ 1 _ rfl o_bytes
      obtain rfl : c0 = _ := (List.cons.inj hk).1
      obtain rfl : c1 = _ := (List.cons.inj hn).1
      obtain rfl : c2 = _ := (List.cons.inj ha).1
      obtain rfl : c3 = _ := (List.cons.inj hz).1
      obtain rfl : c4 = _ := (List.cons.inj hb).1
      exact ⟨⟨k, n, a, z, c4, b⟩, rfl, wb, wk, wn, wa, wz⟩
variable {v : Value} {d : DataW H} {ps : List MemPlace} {r : Reach} {b0 : Nat}
theorem open_acts (hval : Value.okWide Try.prog w r b0 35 v) (h : DataW.Trod enc Try.prog w 0 sp hd 35 v d ps) : ∃ l : List ActD, RecS acC 5 w v l ∧ ∀ x ∈ l, x.Ok w := by
  obtain ⟨u, l, hu, h1, h2⟩ := open_sl Try.underlying35 (opens_slice (en := acC) (Q := fun x => x.Ok w) Try.underlying35 (by kernel_rfl) o_act) hval h
  obtain rfl : v = u := (List.cons.inj hu).1
  exact ⟨l, h1, h2⟩
end
/-- Is an act one that is gone through? -/
def fitB (x : ActD) : Bool := decide (x.a.size ≤ 200) && decide (x.z.size ≤ 200) && decide (x.b.length ≤ 200)
theorem fits_c (x : ActD) (w : World) (h : x.Ok w) : FnC Try.prog 16 #[.agg (acC x).toArray] w fun v w' => v = .bool (fitB x) ∧ Later w w' := by
  obtain ⟨kind, n, a, z, bv, b⟩ := x
  have hsl : Sl w bv (b.map u8v) := h.sl
  obtain ⟨bo, bc, hbv⟩ := hsl.slice
  rw [List.length_map] at hbv
  clear h hsl
  subst hbv
  unfold acC fitB
  dsimp only
  refine enter16 _ ?_
  unfold B16
  have eca : (Value.agg #[.int .i64 kind, .int .i64 n, .string a, .string z, .slice bo b.length bc]).cells = #[.int .i64 kind, .int .i64 n, .string a, .string z, .slice bo b.length bc] := rfl
  repeat' (first | (simp (disch := omega) only [push_cast, ↓reduceIte, zA, zG, zB, zH, zI, zC, zJ, zK, zL, zD, zE, zF, zM, zN, zO, zP, zQ, reduceCtorEq, not_true_eq_false, not_false_eq_true, eca]) | (first | refine vIfE_of ?_ ?_ | refine vIfD_of ?_ ?_ | refine vIfQ_of ?_ ?_ | refine vIfV_of ?_ ?_) <;> intro _ | refine And.intro (by omega) ?_ | fail)
  have l1 := later_alloc w (.cells #[.int .i64 kind, .int .i64 n, .string a, .string z, .slice bo b.length bc] 37)
  have B1 := Blk.new w #[.int .i64 kind, .int .i64 n, .string a, .string z, .slice bo b.length bc] 37
  have f2 := B1.cell 2
  have f3 := B1.cell 3
  have f4 := B1.cell 4
  have g2 : (w.alloc (.cells #[.int .i64 kind, .int .i64 n, .string a, .string z, .slice bo b.length bc] 37)).cell? ⟨w.heap.size, 2, none⟩ = some (.string a) := f2
  have g3 : (w.alloc (.cells #[.int .i64 kind, .int .i64 n, .string a, .string z, .slice bo b.length bc] 37)).cell? ⟨w.heap.size, 3, none⟩ = some (.string z) := f3
  have g4 : (w.alloc (.cells #[.int .i64 kind, .int .i64 n, .string a, .string z, .slice bo b.length bc] 37)).cell? ⟨w.heap.size, 4, none⟩ = some (.slice bo b.length bc) := f4
  clear f2 f3 f4 eca
  generalize w.alloc (.cells #[.int .i64 kind, .int .i64 n, .string a, .string z, .slice bo b.length bc] 37) = w1 at *
  by_cases h1 : a.size ≤ 200
  case neg =>
    have d1 : decide ((a.size : Int) ≤ 200) = false := decide_eq_false (by omega)
    rw [decide_eq_false h1]
    repeat' (first | (simp (disch := omega) only [push_cast, ↓reduceIte, zA, zG, zB, zH, zI, zC, zJ, zK, zL, zD, zE, zF, zM, zN, zO, zP, zQ, reduceCtorEq, not_true_eq_false, not_false_eq_true, g2, g3, g4, d1, addr_add_eq, Nat.zero_add]) | (first | refine vIfE_of ?_ ?_ | refine vIfD_of ?_ ?_ | refine vIfQ_of ?_ ?_ | refine vIfV_of ?_ ?_) <;> intro _ | refine And.intro (by omega) ?_ | refine drawn_q ?_ | fail)
    first | exact ⟨rfl, l1⟩ | exact l1
  have d1 : decide ((a.size : Int) ≤ 200) = true := decide_eq_true (by omega)
  rw [decide_eq_true h1]
  by_cases h2 : z.size ≤ 200
  case neg =>
    have d2 : decide ((z.size : Int) ≤ 200) = false := decide_eq_false (by omega)
    rw [decide_eq_false h2]
    repeat' (first | (simp (disch := omega) only [push_cast, ↓reduceIte, zA, zG, zB, zH, zI, zC, zJ, zK, zL, zD, zE, zF, zM, zN, zO, zP, zQ, reduceCtorEq, not_true_eq_false, not_false_eq_true, g2, g3, g4, d1, d2, addr_add_eq, Nat.zero_add]) | (first | refine vIfE_of ?_ ?_ | refine vIfD_of ?_ ?_ | refine vIfQ_of ?_ ?_ | refine vIfV_of ?_ ?_) <;> intro _ | refine And.intro (by omega) ?_ | refine drawn_q ?_ | fail)
    first | exact ⟨rfl, l1⟩ | exact l1
  have d2 : decide ((z.size : Int) ≤ 200) = true := decide_eq_true (by omega)
  rw [decide_eq_true h2]
  have d3 : decide ((b.length : Int) ≤ 200) = decide (b.length ≤ 200) := decide_eq_decide.2 (by omega)
  repeat' (first | (simp (disch := omega) only [push_cast, ↓reduceIte, zA, zG, zB, zH, zI, zC, zJ, zK, zL, zD, zE, zF, zM, zN, zO, zP, zQ, reduceCtorEq, not_true_eq_false, not_false_eq_true, g2, g3, g4, d1, d2, d3, addr_add_eq, Nat.zero_add]) | (first | refine vIfE_of ?_ ?_ | refine vIfD_of ?_ ?_ | refine vIfQ_of ?_ ?_ | refine vIfV_of ?_ ?_) <;> intro _ | refine And.intro (by omega) ?_ | refine drawn_q ?_ | fail)
  first | exact ⟨rfl, l1⟩ | exact l1
end Go.Proofs.Ytmfcnooleejgmaa
end
section
namespace Go.Proofs.Ytmfcnooleejgmaa
open Go.Vc
set_option maxRecDepth 100000
variable (Q : Post) (ds : List Deferred) (σ : Env) (w : World)
/-! 18 (columbary/columbarylaw03.Act).do (params #[37, 23], results #[(.tmp 4)], 41 slots) -/
def r18_0 : List VOp :=
  [⟨some 2, .box 37 (.tmp 0), 0, none⟩,
   ⟨some 4, .assign (.const (.int .i64 0)), 24, none⟩]
def r18_1 : List VOp :=
  [fad 5 37 2 0,
   lda 6 3 5]
def r18_2 : List VOp :=
  [⟨some 8, .binOp .eql 3 (.tmp 6) (.const (.int .i64 1)) 3, 4, none⟩,
   asg 7 8 4]
def r18_3 : List VOp :=
  [mv 9 1 23,
   fad 10 37 2 2,
   lda 11 9 10,
   fad 12 37 2 4,
   lda 13 22 12,
   ⟨some 14, .call ⟨.value (.func 10), #[.tmp 9, .tmp 11, .tmp 13], #[23, 9, 22]⟩, 24, none⟩,
   asg 4 14 24]
def r18_4 : List VOp :=
  [⟨some 16, .binOp .eql 3 (.tmp 6) (.const (.int .i64 2)) 3, 4, none⟩,
   asg 15 16 4]
def r18_5 : List VOp :=
  [mv 17 1 23,
   fad 18 37 2 2,
   lda 19 9 18,
   ⟨some 20, .call ⟨.value (.func 11), #[.tmp 17, .tmp 19], #[23, 9]⟩, 24, none⟩,
   asg 4 20 24]
def r18_6 : List VOp :=
  [⟨some 22, .binOp .eql 3 (.tmp 6) (.const (.int .i64 3)) 3, 4, none⟩,
   asg 21 22 4]
def r18_7 : List VOp :=
  [mv 23 1 23,
   fad 24 37 2 2,
   lda 25 9 24,
   fad 26 37 2 3,
   lda 27 9 26,
   ⟨some 28, .call ⟨.value (.func 12), #[.tmp 23, .tmp 25, .tmp 27], #[23, 9, 9]⟩, 24, none⟩,
   asg 4 28 24]
def r18_8 : List VOp :=
  [⟨some 30, .binOp .eql 3 (.tmp 6) (.const (.int .i64 4)) 3, 4, none⟩,
   asg 29 30 4]
def r18_9 : List VOp :=
  [mv 31 1 23,
   fad 32 37 2 2,
   lda 33 9 32,
   ⟨some 34, .call ⟨.value (.func 30), #[.tmp 31, .tmp 33], #[23, 9]⟩, 24, none⟩,
   asg 4 34 24]
def r18_10 : List VOp :=
  [⟨some 36, .binOp .eql 3 (.tmp 6) (.const (.int .i64 5)) 3, 4, none⟩,
   asg 35 36 4]
def r18_11 : List VOp :=
  [mv 37 1 23,
   fad 38 37 2 1,
   lda 39 3 38,
   ⟨some 40, .call ⟨.value (.func 27), #[.tmp 37, .tmp 39], #[23, 3]⟩, 24, none⟩,
   asg 4 40 24]
def r18_12 : List VOp :=
  [⟨some 4, .assign (.const (.int .i64 0)), 24, none⟩]
def B18 : VC :=
  (.seq (.region r18_0) (.seq (.seq (.region r18_1) (.block 0 (.seq (.region r18_2) (.cond (.tmp 7) (.seq (.region r18_3) .ret) (.seq (.region r18_4) (.cond (.tmp 15) (.seq (.region r18_5) .ret) (.seq (.region r18_6) (.cond (.tmp 21) (.seq (.region r18_7) .ret) (.seq (.region r18_8) (.cond (.tmp 29) (.seq (.region r18_9) .ret) (.seq (.region r18_10) (.cond (.tmp 35) (.seq (.region r18_11) .ret) .skip)))))))))))) (.seq (.region r18_12) .ret)))
theorem code18 : ∃ c, Try.f18.body = some c ∧ abs Try.f18.ntmps c = B18 := ⟨_, rfl, by kernel_rfl⟩
theorem hb18 : HasBody Try.prog 18 := hasBody_of Try.func18 (by kernel_rfl)
theorem res18 : Try.f18.results = #[(.tmp 4)] := rfl
theorem enter18 {w : World} {R : Value → World → Prop} (x0 x1 : Value) (h : vc Try.prog B18 (retK Try.prog #[(.tmp 4)] R) [] (initEnv [x0, x1] 0) w) : FnC Try.prog 18 #[x0, x1] w R := by
  obtain ⟨c, h1, h2⟩ := code18
  exact hb18.fn (ret_of_vc mixed Try.func18 h1 (Nat.le_of_ble_eq_true rfl) B18 h2 h)
@[push_cast] theorem vr18_0 : VR r18_0 [⟨some 2, .box 37 (.tmp 0), 0, none⟩, ⟨some 4, .assign (.const (.int .i64 0)), 24, none⟩] := vR rfl
@[push_cast] theorem vr18_1 : VR r18_1 [⟨some 5, .fieldAddr 37 (.tmp 2) 0, 0, none⟩, ⟨some 6, .load 3 (.tmp 5), 3, none⟩] := vR rfl
@[push_cast] theorem vr18_2 : VR r18_2 [⟨some 8, .binOp .eql 3 (.tmp 6) (.const (.int .i64 1)) 3, 4, none⟩, ⟨some 7, .assign (.tmp 8), 4, none⟩] := vR rfl
@[push_cast] theorem vr18_3 : VR r18_3 [⟨some 9, .move (.tmp 1), 23, none⟩, ⟨some 10, .fieldAddr 37 (.tmp 2) 2, 0, none⟩, ⟨some 11, .load 9 (.tmp 10), 9, none⟩, ⟨some 12, .fieldAddr 37 (.tmp 2) 4, 0, none⟩, ⟨some 13, .load 22 (.tmp 12), 22, none⟩, ⟨some 14, .call ⟨.value (.func 10), #[.tmp 9, .tmp 11, .tmp 13], #[23, 9, 22]⟩, 24, none⟩, ⟨some 4, .assign (.tmp 14), 24, none⟩] := vR rfl
@[push_cast] theorem vr18_4 : VR r18_4 [⟨some 16, .binOp .eql 3 (.tmp 6) (.const (.int .i64 2)) 3, 4, none⟩, ⟨some 15, .assign (.tmp 16), 4, none⟩] := vR rfl
@[push_cast] theorem vr18_5 : VR r18_5 [⟨some 17, .move (.tmp 1), 23, none⟩, ⟨some 18, .fieldAddr 37 (.tmp 2) 2, 0, none⟩, ⟨some 19, .load 9 (.tmp 18), 9, none⟩, ⟨some 20, .call ⟨.value (.func 11), #[.tmp 17, .tmp 19], #[23, 9]⟩, 24, none⟩, ⟨some 4, .assign (.tmp 20), 24, none⟩] := vR rfl
@[push_cast] theorem vr18_6 : VR r18_6 [⟨some 22, .binOp .eql 3 (.tmp 6) (.const (.int .i64 3)) 3, 4, none⟩, ⟨some 21, .assign (.tmp 22), 4, none⟩] := vR rfl
@[push_cast] theorem vr18_7 : VR r18_7 [⟨some 23, .move (.tmp 1), 23, none⟩, ⟨some 24, .fieldAddr 37 (.tmp 2) 2, 0, none⟩, ⟨some 25, .load 9 (.tmp 24), 9, none⟩, ⟨some 26, .fieldAddr 37 (.tmp 2) 3, 0, none⟩, ⟨some 27, .load 9 (.tmp 26), 9, none⟩, ⟨some 28, .call ⟨.value (.func 12), #[.tmp 23, .tmp 25, .tmp 27], #[23, 9, 9]⟩, 24, none⟩, ⟨some 4, .assign (.tmp 28), 24, none⟩] := vR rfl
@[push_cast] theorem vr18_8 : VR r18_8 [⟨some 30, .binOp .eql 3 (.tmp 6) (.const (.int .i64 4)) 3, 4, none⟩, ⟨some 29, .assign (.tmp 30), 4, none⟩] := vR rfl
@[push_cast] theorem vr18_9 : VR r18_9 [⟨some 31, .move (.tmp 1), 23, none⟩, ⟨some 32, .fieldAddr 37 (.tmp 2) 2, 0, none⟩, ⟨some 33, .load 9 (.tmp 32), 9, none⟩, ⟨some 34, .call ⟨.value (.func 30), #[.tmp 31, .tmp 33], #[23, 9]⟩, 24, none⟩, ⟨some 4, .assign (.tmp 34), 24, none⟩] := vR rfl
@[push_cast] theorem vr18_10 : VR r18_10 [⟨some 36, .binOp .eql 3 (.tmp 6) (.const (.int .i64 5)) 3, 4, none⟩, ⟨some 35, .assign (.tmp 36), 4, none⟩] := vR rfl
@[push_cast] theorem vr18_11 : VR r18_11 [⟨some 37, .move (.tmp 1), 23, none⟩, ⟨some 38, .fieldAddr 37 (.tmp 2) 1, 0, none⟩, ⟨some 39, .load 3 (.tmp 38), 3, none⟩, ⟨some 40, .call ⟨.value (.func 27), #[.tmp 37, .tmp 39], #[23, 3]⟩, 24, none⟩, ⟨some 4, .assign (.tmp 40), 24, none⟩] := vR rfl
@[push_cast] theorem vr18_12 : VR r18_12 [⟨some 4, .assign (.const (.int .i64 0)), 24, none⟩] := vR rfl
/-! 29 columbary/columbaryref03.Texts (params #[40, 40], results #[(.tmp 4)], 26 slots) -/
def W29_0 : List Nat := [4, 5, 11, 12, 13, 14, 15, 16, 17, 18, 19, 20, 21, 22, 23, 24, 25]
@[push_cast] theorem W29_0_def : W29_0 = [4, 5, 11, 12, 13, 14, 15, 16, 17, 18, 19, 20, 21, 22, 23, 24, 25] := mk_eq rfl
def r29_0 : List VOp :=
  [⟨some 4, .assign (.const (.bool false)), 4, none⟩]
def r29_1 : List VOp :=
  [mv 6 0 40,
   ⟨some 7, .call ⟨.builtin .len, #[.tmp 6], #[40]⟩, 3, none⟩,
   mv 8 1 40,
   ⟨some 9, .call ⟨.builtin .len, #[.tmp 8], #[40]⟩, 3, none⟩,
   ⟨some 10, .binOp .neq 3 (.tmp 7) (.tmp 9) 3, 4, none⟩]
def r29_2 : List VOp :=
  [⟨some 4, .assign (.const (.bool false)), 4, none⟩]
def r29_3 : List VOp :=
  [⟨some 5, .assign (.const (.int .i64 0)), 3, none⟩]
def r29_4 : List VOp :=
  [mv 11 5 3,
   mv 12 0 40,
   ⟨some 13, .call ⟨.builtin .len, #[.tmp 12], #[40]⟩, 3, none⟩,
   ⟨some 14, .binOp .lss 3 (.tmp 11) (.tmp 13) 3, 4, none⟩]
def r29_6 : List VOp :=
  [mv 17 0 40,
   mv 18 5 3,
   iad 19 40 17 18,
   lda 20 9 19,
   mv 21 1 40,
   mv 22 5 3,
   iad 23 40 21 22,
   lda 24 9 23,
   ⟨some 25, .binOp .neq 9 (.tmp 20) (.tmp 24) 9, 4, none⟩]
def r29_7 : List VOp :=
  [⟨some 4, .assign (.const (.bool false)), 4, none⟩]
def r29_5 : List VOp :=
  [mv 15 5 3,
   ⟨some 16, .binOp .add 3 (.tmp 15) (.const (.int .i64 1)) 3, 3, none⟩,
   asg 5 16 3]
def r29_8 : List VOp :=
  [⟨some 4, .assign (.const (.bool true)), 4, none⟩]
def B29 : VC :=
  (.seq (.region r29_0) (.seq (.seq (.region r29_1) (.cond (.tmp 10) (.seq (.region r29_2) .ret) .skip)) (.seq (.seq (.region r29_3) (.block 0 (.loop (.seq (.seq (.region r29_4) (.cond (.tmp 14) .skip (.exit 0))) (.seq (.block 1 (.seq (.draw r29_6 2) (.cond (.tmp 25) (.seq (.region r29_7) .ret) .skip))) (.region r29_5)))))) (.seq (.region r29_8) .ret))))
theorem code29 : ∃ c, Try.f29.body = some c ∧ abs Try.f29.ntmps c = B29 := ⟨_, rfl, by kernel_rfl⟩
theorem hb29 : HasBody Try.prog 29 := hasBody_of Try.func29 (by kernel_rfl)
theorem res29 : Try.f29.results = #[(.tmp 4)] := rfl
theorem enter29 {w : World} {R : Value → World → Prop} (x0 x1 : Value) (h : vc Try.prog B29 (retK Try.prog #[(.tmp 4)] R) [] (initEnv [x0, x1] 0) w) : FnC Try.prog 29 #[x0, x1] w R := by
  obtain ⟨c, h1, h2⟩ := code29
  exact hb29.fn (ret_of_vc mixed Try.func29 h1 (Nat.le_of_ble_eq_true rfl) B29 h2 h)
@[push_cast] theorem vr29_0 : VR r29_0 [⟨some 4, .assign (.const (.bool false)), 4, none⟩] := vR rfl
@[push_cast] theorem vr29_1 : VR r29_1 [⟨some 6, .move (.tmp 0), 40, none⟩, ⟨some 7, .call ⟨.builtin .len, #[.tmp 6], #[40]⟩, 3, none⟩, ⟨some 8, .move (.tmp 1), 40, none⟩, ⟨some 9, .call ⟨.builtin .len, #[.tmp 8], #[40]⟩, 3, none⟩, ⟨some 10, .binOp .neq 3 (.tmp 7) (.tmp 9) 3, 4, none⟩] := vR rfl
@[push_cast] theorem vr29_2 : VR r29_2 [⟨some 4, .assign (.const (.bool false)), 4, none⟩] := vR rfl
@[push_cast] theorem vr29_3 : VR r29_3 [⟨some 5, .assign (.const (.int .i64 0)), 3, none⟩] := vR rfl
@[push_cast] theorem vr29_4 : VR r29_4 [⟨some 11, .move (.tmp 5), 3, none⟩, ⟨some 12, .move (.tmp 0), 40, none⟩, ⟨some 13, .call ⟨.builtin .len, #[.tmp 12], #[40]⟩, 3, none⟩, ⟨some 14, .binOp .lss 3 (.tmp 11) (.tmp 13) 3, 4, none⟩] := vR rfl
@[push_cast] theorem vr29_6 : vc Try.prog (.draw r29_6 2) Q ds σ w = drawn Try.prog [(⟨some 17, .move (.tmp 0), 40, none⟩, [0]), (⟨some 18, .move (.tmp 5), 3, none⟩, [5]), (⟨some 19, .indexAddr 40 (.tmp 17) (.tmp 18), 0, none⟩, [17, 18]), (⟨some 20, .load 9 (.tmp 19), 9, none⟩, [19]), (⟨some 21, .move (.tmp 1), 40, none⟩, [1]), (⟨some 22, .move (.tmp 5), 3, none⟩, [5]), (⟨some 23, .indexAddr 40 (.tmp 21) (.tmp 22), 0, none⟩, [21, 22]), (⟨some 24, .load 9 (.tmp 23), 9, none⟩, [23]), (⟨some 25, .binOp .neq 9 (.tmp 20) (.tmp 24) 9, 4, none⟩, [20, 24])] 2 (Q .normal ds) σ w := mk_eq rfl
@[push_cast] theorem vr29_7 : VR r29_7 [⟨some 4, .assign (.const (.bool false)), 4, none⟩] := vR rfl
@[push_cast] theorem vr29_5 : VR r29_5 [⟨some 15, .move (.tmp 5), 3, none⟩, ⟨some 16, .binOp .add 3 (.tmp 15) (.const (.int .i64 1)) 3, 3, none⟩, ⟨some 5, .assign (.tmp 16), 3, none⟩] := vR rfl
@[push_cast] theorem vr29_8 : VR r29_8 [⟨some 4, .assign (.const (.bool true)), 4, none⟩] := vR rfl
@[push_cast] theorem bsl22_1_CodesW {K : Value → World → Prop} {w : World} (x0 : Int) : vBuildSlice Try.prog 22 1 #[(0, (.int .u8 x0))] K w = K (.slice (some ⟨w.heap.size, 0, none⟩) 1 1) (w.alloc (.cells #[(.int .u8 x0)] 5)) :=
  vBuildSlice_ok Try.underlying22 ti5 (by kernel_rfl) (by decide)
@[push_cast] theorem bsl40_1_CodesW {K : Value → World → Prop} {w : World} (x0 : ByteArray) : vBuildSlice Try.prog 40 1 #[(0, (.string x0))] K w = K (.slice (some ⟨w.heap.size, 0, none⟩) 1 1) (w.alloc (.cells #[(.string x0)] 9)) :=
  vBuildSlice_ok Try.underlying40 ti9 (by kernel_rfl) (by decide)
end Go.Proofs.Ytmfcnooleejgmaa
end
section
set_option linter.unusedSimpArgs false
namespace Go.Proofs.Ytmfcnooleejgmaa
open Go.Vc Go.Vlt Go.Key
set_option maxRecDepth 100000
def aDo (x : ActD) (s : Vst) : Int × Vst :=
  if x.kind = 1 then aApp x.a x.b s else if x.kind = 2 then aSync x.a s else if x.kind = 3 then aRen x.a x.z s else if x.kind = 4 then aDel x.a s else if x.kind = 5 then aArm x.n s else (0, s)
theorem aDo_good {s : Vst} (g : Good s) (x : ActD) (hn : x.n ≤ 9223372036854775807) : Good (aDo x s).2 := by
  unfold aDo
  split
  · exact aApp_good g _ _
  split
  · exact aSync_good g _
  split
  · exact aRen_good g _ _
  split
  · exact aDel_good g _
  split
  · exact aArm_good g _ hn
  · exact g
theorem fit_is {x : ActD} (h : fitB x = true) : x.a.size ≤ 200 ∧ x.z.size ≤ 200 ∧ x.b.length ≤ 200 := by
  unfold fitB at h
  simp only [Bool.and_eq_true, decide_eq_true_eq] at h
  exact ⟨h.1.1, h.1.2, h.2⟩
theorem inB_of {w w1 : World} {v : Value} {xs : List Value} (h : Sl w v xs) {bk : Nat} (hb : w.heap.size ≤ bk) : ∃ j, inB j v ∧ j ≠ bk := by
  rcases inB_lt h with h1 | ⟨k, hk, h1⟩
  · exact ⟨bk + 1, h1 _, by omega⟩
  · exact ⟨k, h1, by omega⟩
/-- An act's box. -/
theorem actBox (w : World) (x : ActD) : Later w (w.alloc (.cells (acC x).toArray 37)) ∧ (w.alloc (.cells (acC x).toArray 37)).heap.size = w.heap.size + 1 ∧ Blk (w.alloc (.cells (acC x).toArray 37)) w.heap.size (acC x).toArray 37 := ⟨later_alloc _ _, World.size_alloc _ _, Blk.new _ _ _⟩
theorem actAt {w : World} {k : Nat} {x : ActD} (h : Blk w k (acC x).toArray 37) : w.cell? ⟨k, 0, none⟩ = some (.int .i64 x.kind) ∧ w.cell? ⟨k, 1, none⟩ = some (.int .i64 x.n) ∧ w.cell? ⟨k, 2, none⟩ = some (.string x.a) ∧ w.cell? ⟨k, 3, none⟩ = some (.string x.z) ∧ w.cell? ⟨k, 4, none⟩ = some x.bv ∧ cellsAt w ⟨k, 0, none⟩ 5 = some (acC x) :=
  ⟨h.cell 0, h.cell 1, h.cell 2, h.cell 3, h.cell 4, Blk.cellsAt (l := acC x) h⟩
theorem do_c (x : ActD) (bk r : Nat) (s : Vst) (w : World) (h : VS w bk r s) (g : Good s) (hx : x.Ok w) (hf : fitB x = true) (hj : ∃ j, inB j x.bv ∧ j ≠ bk) :
    FnC Try.prog 18 #[.agg (acC x).toArray, .pointer (some ⟨bk, 0, none⟩)] w fun v w' => v = .int .i64 (aDo x s).1 ∧ VS w' bk r (aDo x s).2 ∧ Chg w w' [bk, r] := by
  obtain ⟨f1, f2, f3⟩ := fit_is hf
  obtain ⟨l1, s1, B1⟩ := actBox w x
  unfold aDo
  refine enter18 _ _ ?_
  unfold B18
  have eca : (Value.agg (acC x).toArray).cells = (acC x).toArray := rfl
  repeat' (first | (simp (disch := omega) only [push_cast, ↓reduceIte, zA, zG, zB, zH, zI, zC, zJ, zK, zL, zD, zE, zF, zM, zN, zO, zP, zQ, reduceCtorEq, not_true_eq_false, not_false_eq_true, eca]) | (first | refine vIfE_of ?_ ?_ | refine vIfD_of ?_ ?_ | refine vIfQ_of ?_ ?_ | refine vIfV_of ?_ ?_) <;> intro _ | refine And.intro (by omega) ?_ | fail)
  generalize w.alloc (.cells (acC x).toArray 37) = w1 at *
  obtain ⟨g0, g1, g2, g3, g4, _⟩ := actAt B1
  have c1 : Chg w w1 [bk, r] := Chg.of_later l1
  have h1 := h.later l1
  by_cases k1 : x.kind = 1
  · have e1 : decide (x.kind = 1) = true := decide_eq_true k1
    rw [if_pos k1]
    repeat' (first | (simp (disch := omega) only [push_cast, ↓reduceIte, zA, zG, zB, zH, zI, zC, zJ, zK, zL, zD, zE, zF, zM, zN, zO, zP, zQ, reduceCtorEq, not_true_eq_false, not_false_eq_true, g0, g1, g2, g3, g4, e1, decide_false, decide_true, addr_add_eq, Nat.zero_add]) | (first | refine vIfE_of ?_ ?_ | refine vIfD_of ?_ ?_ | refine vIfQ_of ?_ ?_ | refine vIfV_of ?_ ?_) <;> intro _ | refine And.intro (by omega) ?_ | refine drawn_q ?_ | fail)
    refine (append_s bk r s x.a _ x.b w1 h1 g (by omega) (hx.sl.later l1) hj (by omega)).mono ?_
    rintro _ w2 ⟨rfl, h2, c2⟩
    repeat' (first | (simp (disch := omega) only [push_cast, ↓reduceIte, zA, zG, zB, zH, zI, zC, zJ, zK, zL, zD, zE, zF, zM, zN, zO, zP, zQ, reduceCtorEq, not_true_eq_false, not_false_eq_true]) | (first | refine vIfE_of ?_ ?_ | refine vIfD_of ?_ ?_ | refine vIfQ_of ?_ ?_ | refine vIfV_of ?_ ?_) <;> intro _ | refine And.intro (by omega) ?_ | refine drawn_q ?_ | fail)
    first | exact ⟨rfl, h2, c1.trans c2⟩ | exact ⟨h2, c1.trans c2⟩ | exact c1.trans c2
  have e1 : decide (x.kind = 1) = false := decide_eq_false k1
  by_cases k2 : x.kind = 2
  · have e2 : decide (x.kind = 2) = true := decide_eq_true k2
    rw [if_neg k1, if_pos k2]
    repeat' (first | (simp (disch := omega) only [push_cast, ↓reduceIte, zA, zG, zB, zH, zI, zC, zJ, zK, zL, zD, zE, zF, zM, zN, zO, zP, zQ, reduceCtorEq, not_true_eq_false, not_false_eq_true, g0, g1, g2, g3, g4, e1, e2, decide_false, decide_true, addr_add_eq, Nat.zero_add]) | (first | refine vIfE_of ?_ ?_ | refine vIfD_of ?_ ?_ | refine vIfQ_of ?_ ?_ | refine vIfV_of ?_ ?_) <;> intro _ | refine And.intro (by omega) ?_ | refine drawn_q ?_ | fail)
    refine (sync_s bk r s x.a w1 h1 g (by omega)).mono ?_
    rintro _ w2 ⟨rfl, h2, c2⟩
    repeat' (first | (simp (disch := omega) only [push_cast, ↓reduceIte, zA, zG, zB, zH, zI, zC, zJ, zK, zL, zD, zE, zF, zM, zN, zO, zP, zQ, reduceCtorEq, not_true_eq_false, not_false_eq_true]) | (first | refine vIfE_of ?_ ?_ | refine vIfD_of ?_ ?_ | refine vIfQ_of ?_ ?_ | refine vIfV_of ?_ ?_) <;> intro _ | refine And.intro (by omega) ?_ | refine drawn_q ?_ | fail)
    first | exact ⟨rfl, h2, c1.trans c2⟩ | exact ⟨h2, c1.trans c2⟩ | exact c1.trans c2
  have e2 : decide (x.kind = 2) = false := decide_eq_false k2
  by_cases k3 : x.kind = 3
  · have e3 : decide (x.kind = 3) = true := decide_eq_true k3
    rw [if_neg k1, if_neg k2, if_pos k3]
    repeat' (first | (simp (disch := omega) only [push_cast, ↓reduceIte, zA, zG, zB, zH, zI, zC, zJ, zK, zL, zD, zE, zF, zM, zN, zO, zP, zQ, reduceCtorEq, not_true_eq_false, not_false_eq_true, g0, g1, g2, g3, g4, e1, e2, e3, decide_false, decide_true, addr_add_eq, Nat.zero_add]) | (first | refine vIfE_of ?_ ?_ | refine vIfD_of ?_ ?_ | refine vIfQ_of ?_ ?_ | refine vIfV_of ?_ ?_) <;> intro _ | refine And.intro (by omega) ?_ | refine drawn_q ?_ | fail)
    refine (rename_s bk r s x.a x.z w1 h1 g (by omega) (by omega)).mono ?_
    rintro _ w2 ⟨rfl, h2, c2⟩
    repeat' (first | (simp (disch := omega) only [push_cast, ↓reduceIte, zA, zG, zB, zH, zI, zC, zJ, zK, zL, zD, zE, zF, zM, zN, zO, zP, zQ, reduceCtorEq, not_true_eq_false, not_false_eq_true]) | (first | refine vIfE_of ?_ ?_ | refine vIfD_of ?_ ?_ | refine vIfQ_of ?_ ?_ | refine vIfV_of ?_ ?_) <;> intro _ | refine And.intro (by omega) ?_ | refine drawn_q ?_ | fail)
    first | exact ⟨rfl, h2, c1.trans c2⟩ | exact ⟨h2, c1.trans c2⟩ | exact c1.trans c2
  have e3 : decide (x.kind = 3) = false := decide_eq_false k3
  by_cases k4 : x.kind = 4
  · have e4 : decide (x.kind = 4) = true := decide_eq_true k4
    rw [if_neg k1, if_neg k2, if_neg k3, if_pos k4]
    repeat' (first | (simp (disch := omega) only [push_cast, ↓reduceIte, zA, zG, zB, zH, zI, zC, zJ, zK, zL, zD, zE, zF, zM, zN, zO, zP, zQ, reduceCtorEq, not_true_eq_false, not_false_eq_true, g0, g1, g2, g3, g4, e1, e2, e3, e4, decide_false, decide_true, addr_add_eq, Nat.zero_add]) | (first | refine vIfE_of ?_ ?_ | refine vIfD_of ?_ ?_ | refine vIfQ_of ?_ ?_ | refine vIfV_of ?_ ?_) <;> intro _ | refine And.intro (by omega) ?_ | refine drawn_q ?_ | fail)
    refine (delete_s bk r s x.a w1 h1 g (by omega)).mono ?_
    rintro _ w2 ⟨rfl, h2, c2⟩
    repeat' (first | (simp (disch := omega) only [push_cast, ↓reduceIte, zA, zG, zB, zH, zI, zC, zJ, zK, zL, zD, zE, zF, zM, zN, zO, zP, zQ, reduceCtorEq, not_true_eq_false, not_false_eq_true]) | (first | refine vIfE_of ?_ ?_ | refine vIfD_of ?_ ?_ | refine vIfQ_of ?_ ?_ | refine vIfV_of ?_ ?_) <;> intro _ | refine And.intro (by omega) ?_ | refine drawn_q ?_ | fail)
    first | exact ⟨rfl, h2, c1.trans c2⟩ | exact ⟨h2, c1.trans c2⟩ | exact c1.trans c2
  have e4 : decide (x.kind = 4) = false := decide_eq_false k4
  by_cases k5 : x.kind = 5
  · have e5 : decide (x.kind = 5) = true := decide_eq_true k5
    rw [if_neg k1, if_neg k2, if_neg k3, if_neg k4, if_pos k5]
    repeat' (first | (simp (disch := omega) only [push_cast, ↓reduceIte, zA, zG, zB, zH, zI, zC, zJ, zK, zL, zD, zE, zF, zM, zN, zO, zP, zQ, reduceCtorEq, not_true_eq_false, not_false_eq_true, g0, g1, g2, g3, g4, e1, e2, e3, e4, e5, decide_false, decide_true, addr_add_eq, Nat.zero_add]) | (first | refine vIfE_of ?_ ?_ | refine vIfD_of ?_ ?_ | refine vIfQ_of ?_ ?_ | refine vIfV_of ?_ ?_) <;> intro _ | refine And.intro (by omega) ?_ | refine drawn_q ?_ | fail)
    refine (arm_s bk r s x.n w1 h1).mono ?_
    rintro _ w2 ⟨rfl, h2, c2⟩
    repeat' (first | (simp (disch := omega) only [push_cast, ↓reduceIte, zA, zG, zB, zH, zI, zC, zJ, zK, zL, zD, zE, zF, zM, zN, zO, zP, zQ, reduceCtorEq, not_true_eq_false, not_false_eq_true]) | (first | refine vIfE_of ?_ ?_ | refine vIfD_of ?_ ?_ | refine vIfQ_of ?_ ?_ | refine vIfV_of ?_ ?_) <;> intro _ | refine And.intro (by omega) ?_ | refine drawn_q ?_ | fail)
    first | exact ⟨rfl, h2, c1.trans c2⟩ | exact ⟨h2, c1.trans c2⟩ | exact c1.trans c2
  have e5 : decide (x.kind = 5) = false := decide_eq_false k5
  rw [if_neg k1, if_neg k2, if_neg k3, if_neg k4, if_neg k5]
  repeat' (first | (simp (disch := omega) only [push_cast, ↓reduceIte, zA, zG, zB, zH, zI, zC, zJ, zK, zL, zD, zE, zF, zM, zN, zO, zP, zQ, reduceCtorEq, not_true_eq_false, not_false_eq_true, g0, g1, g2, g3, g4, e1, e2, e3, e4, e5, decide_false, decide_true, addr_add_eq, Nat.zero_add]) | (first | refine vIfE_of ?_ ?_ | refine vIfD_of ?_ ?_ | refine vIfQ_of ?_ ?_ | refine vIfV_of ?_ ?_) <;> intro _ | refine And.intro (by omega) ?_ | refine drawn_q ?_ | fail)
  first | exact ⟨rfl, h1, c1⟩ | exact ⟨h1, c1⟩ | exact c1
end Go.Proofs.Ytmfcnooleejgmaa
end
section
namespace Go.Proofs.Ytmfcnooleejgmaa
open Go.Vc Go.Vlt Go.Key
set_option maxRecDepth 100000
theorem acC_len (x : ActD) : (acC x).length = 5 := rfl
/-- An act put into a new box. -/
theorem vStore_act {K : Value → World → Prop} (x : ActD) (w : World) (hx : x.Ok w) (hK : K undef (w.alloc (.cells (acC x).toArray 37))) :
    vStore Try.prog 37 (.pointer (some ⟨w.heap.size, 0, none⟩)) (.agg (acC x).toArray) K (w.alloc (.cells #[.int .i64 0, .int .i64 0, .string ⟨#[]⟩, .string ⟨#[]⟩, .slice none 0 0] 37)) := by
  obtain ⟨o, c, hv⟩ := hx.sl.slice
  refine vStore_new rfl rfl (by
    intro u hu
    unfold acC at hu
    rw [hv] at hu
    simp at hu
    rcases hu with rfl | rfl | rfl | rfl | rfl <;> rfl) ?_
  exact hK
theorem oB_at {L : List Fl} (h : Srd L) {i : Nat} (hi : i < L.length) : oB (L[i]).name L = (L[i]).b := by
  unfold oB
  rw [lk_mem h (List.getElem_mem hi)]; rfl
theorem tl_take {L : List Fl} : ∀ {i : Nat} (hi : i < L.length), tl (L.take (i + 1)) = tl (L.take i) + (L[i]).b.length := by
  induction L with
  | nil => intro i hi; simp at hi
  | cons x l ih =>
    intro i hi
    cases i with
    | zero => simp [tl]
    | succ i =>
      have := ih (i := i) (by simpa using hi)
      simp only [List.take_succ_cons, List.getElem_cons_succ]
      show (x.b.length : Int) + tl (l.take (i + 1)) = x.b.length + tl (l.take i) + _
      omega
theorem tl_take_le {L : List Fl} (i : Nat) : tl (L.take i) ≤ tl L := by
  induction L generalizing i with
  | nil => simp
  | cons x l ih =>
    cases i with
    | zero => have := tl_nn (x :: l); simpa [tl] using this
    | succ i =>
      have := ih i
      show (x.b.length : Int) + tl (l.take i) ≤ x.b.length + tl l
      omega
end Go.Proofs.Ytmfcnooleejgmaa
end
section
set_option linter.unusedSimpArgs false
namespace Go.Proofs.Ytmfcnooleejgmaa
open Go.Vc Go.Vlt Go.Key
set_option maxRecDepth 100000
abbrev StS (w : World) (v : Value) (l : List ByteArray) : Prop := Sl w v (l.map Value.string)
theorem StS.atS {w : World} {a : Addr} {l : List ByteArray} {n c : Nat} (h : StS w (.slice (some a) n c) l) {i : Nat} (hi : i < l.length) : w.cell? (a.add i) = some (.string l[i]) := Sl.at h (by simp [hi])
theorem OwnN.st {w : World} {B : Nat} {v : Value} {l : List ByteArray} (h : OwnN w B v l) : StS w v l := Sl.of_own (n := l.length) h
theorem texts_c (u v : Value) (a b : List ByteArray) (w : World) (hu : StS w u a) (hv : StS w v b) : FnC Try.prog 29 #[u, v] w fun r w' => r = .bool (decide (a = b)) ∧ Later w w' := by
  obtain ⟨oa, ca, rfl, g1, g2, hu, g3⟩ := hu.openM
  obtain ⟨ob, cb, rfl, k1, k2, hv, k3⟩ := hv.openM
  refine enter29 _ _ ?_
  unfold B29
  by_cases hlen : a.length = b.length
  · repeat' (first | (simp (disch := omega) only [push_cast, ↓reduceIte, zA, zG, zB, zH, zI, zC, zJ, zK, zL, zD, zE, zF, zM, zN, zO, zP, zQ, reduceCtorEq, not_true_eq_false, not_false_eq_true]) | (first | refine vIfE_of ?_ ?_ | refine vIfD_of ?_ ?_ | refine vIfQ_of ?_ ?_ | refine vIfV_of ?_ ?_) <;> intro _ | refine And.intro (by omega) ?_ | refine drawn_q ?_ | fail)
    refine vc_loop W29_0 (fun i : Nat => [(4, .bool false), (5, .int .i64 (i : Int))])
      (fun i w' => i ≤ a.length ∧ Later w w' ∧ a.take i = b.take i) (fun i => a.length - i) 0 (by decide) ?_ ?_ ?_
    · simp (disch := omega) only [push_cast, ↓reduceIte, zA, zG, zB, zH, zI, zC, zJ, zK, zL, zD, zE, zF, zM, zN, zO, zP, zQ, reduceCtorEq, not_true_eq_false, not_false_eq_true]
    · exact ⟨by omega, Later.refl _, by simp⟩
    rintro i uu w0 ⟨hi, hl, he⟩
    by_cases ha : i < a.length
    · have hb : i < b.length := by omega
      obtain ⟨aa, rfl⟩ := hu.some ha
      obtain ⟨bb, rfl⟩ := hv.some hb
      have c1 := StS.atS (hu.later hl) ha
      have c2 := StS.atS (hv.later hl) hb
      by_cases hab : a[i] = b[i]
      · repeat' (first | (simp (disch := omega) only [push_cast, ↓reduceIte, zA, zG, zB, zH, zI, zC, zJ, zK, zL, zD, zE, zF, zM, zN, zO, zP, zQ, reduceCtorEq, not_true_eq_false, not_false_eq_true, c1, c2, hab, decide_true, Bool.not_true]) | (first | refine vIfE_of ?_ ?_ | refine vIfD_of ?_ ?_ | refine vIfQ_of ?_ ?_ | refine vIfV_of ?_ ?_) <;> intro _ | refine And.intro (by omega) ?_ | refine drawn_q ?_ | fail)
        intro w1 hl1
        repeat' (first | (simp (disch := omega) only [push_cast, ↓reduceIte, zA, zG, zB, zH, zI, zC, zJ, zK, zL, zD, zE, zF, zM, zN, zO, zP, zQ, reduceCtorEq, not_true_eq_false, not_false_eq_true]) | (first | refine vIfE_of ?_ ?_ | refine vIfD_of ?_ ?_ | refine vIfQ_of ?_ ?_ | refine vIfV_of ?_ ?_) <;> intro _ | refine And.intro (by omega) ?_ | refine drawn_q ?_ | fail)
        refine ⟨rfl, i + 1, by simp (disch := omega) only [push_cast, ↓reduceIte, zA, zG, zB, zH, zI, zC, zJ, zK, zL, zD, zE, zF, zM, zN, zO, zP, zQ, reduceCtorEq, not_true_eq_false, not_false_eq_true], ⟨by omega, hl.trans hl1, ?_⟩, by simp; omega⟩
        rw [take_snoc a i ha, take_snoc b i hb, he, hab]
      · have hne : a ≠ b := fun e => by subst e; exact hab rfl
        repeat' (first | (simp (disch := omega) only [push_cast, ↓reduceIte, zA, zG, zB, zH, zI, zC, zJ, zK, zL, zD, zE, zF, zM, zN, zO, zP, zQ, reduceCtorEq, not_true_eq_false, not_false_eq_true, c1, c2, hab, decide_false, Bool.not_false]) | (first | refine vIfE_of ?_ ?_ | refine vIfD_of ?_ ?_ | refine vIfQ_of ?_ ?_ | refine vIfV_of ?_ ?_) <;> intro _ | refine And.intro (by omega) ?_ | refine drawn_q ?_ | fail)
        intro w1 hl1
        repeat' (first | (simp (disch := omega) only [push_cast, ↓reduceIte, zA, zG, zB, zH, zI, zC, zJ, zK, zL, zD, zE, zF, zM, zN, zO, zP, zQ, reduceCtorEq, not_true_eq_false, not_false_eq_true]) | (first | refine vIfE_of ?_ ?_ | refine vIfD_of ?_ ?_ | refine vIfQ_of ?_ ?_ | refine vIfV_of ?_ ?_) <;> intro _ | refine And.intro (by omega) ?_ | refine drawn_q ?_ | fail)
        simp [hne, hl.trans hl1]
    · have e : i = a.length := by omega
      subst e
      rw [List.take_length, hlen, List.take_length] at he
      repeat' (first | (simp (disch := omega) only [push_cast, ↓reduceIte, zA, zG, zB, zH, zI, zC, zJ, zK, zL, zD, zE, zF, zM, zN, zO, zP, zQ, reduceCtorEq, not_true_eq_false, not_false_eq_true]) | (first | refine vIfE_of ?_ ?_ | refine vIfD_of ?_ ?_ | refine vIfQ_of ?_ ?_ | refine vIfV_of ?_ ?_) <;> intro _ | refine And.intro (by omega) ?_ | refine drawn_q ?_ | fail)
      simp [he, hl]
  · have hne : a ≠ b := fun e => by subst e; exact hlen rfl
    repeat' (first | (simp (disch := omega) only [push_cast, ↓reduceIte, zA, zG, zB, zH, zI, zC, zJ, zK, zL, zD, zE, zF, zM, zN, zO, zP, zQ, reduceCtorEq, not_true_eq_false, not_false_eq_true]) | (first | refine vIfE_of ?_ ?_ | refine vIfD_of ?_ ?_ | refine vIfQ_of ?_ ?_ | refine vIfV_of ?_ ?_) <;> intro _ | refine And.intro (by omega) ?_ | refine drawn_q ?_ | fail)
    simp [hne, Later.refl]
end Go.Proofs.Ytmfcnooleejgmaa
end
