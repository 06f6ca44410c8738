/- Crash: the vault that a crash leaves. -/
import Derived.Test.YtmfcnooleejgmaaProg
import Derived.Carry
import Derived.OpenShut
import Derived.ProofKit
import Derived.ChangeSame
import Derived.Test.YtmfcnooleejgmaaPartE
set_option linter.all false
open Nat renaming reduceEqDiff → zA, reducePow → zB, reduceMul → zC, reduceAdd → zD, reduceSub → zE, reduceLeDiff → zF
open Int renaming reduceToNat → zG, reducePow → zH, reduceNeg → zI, reduceMul → zJ, reduceAdd → zK, reduceSub → zL, reduceLT → zM, reduceLE → zN, reduceEq → zO, reduceMod → zP, reduceDiv → zQ
section
set_option linter.unusedSimpArgs false
namespace Go.Vlt
open Go Go.Vc
/-- What a vault's files are: by a name, the bytes, and how many are safe. -/
def aF (es : List VE) (k : ByteArray) : Option (List UInt8 × Nat) := (vFind k es).map fun e => (e.b, e.safe)
theorem find_mem : ∀ {es : List VE}, (es.Pairwise fun x y => x.name ≠ y.name) → ∀ {e : VE}, e ∈ es → vFind e.name es = some e
  | x :: l, hp, e, he => by
    obtain ⟨h1, h2⟩ := List.pairwise_cons.1 hp
    unfold vFind
    rcases List.mem_cons.1 he with rfl | he
    · rw [if_pos rfl]
    · rw [if_neg (fun h => h1 e he h.symm)]
      exact find_mem h2 he
theorem find_some : ∀ {es : List VE} {k : ByteArray} {e : VE}, vFind k es = some e → e ∈ es ∧ e.name = k
  | x :: l, k, e, h => by
    unfold vFind at h
    split at h
    · rename_i hk
      cases h
      exact ⟨by simp, hk.symm⟩
    · obtain ⟨h1, h2⟩ := find_some h
      exact ⟨List.mem_cons_of_mem _ h1, h2⟩
/-- How many bytes a crash leaves. -/
def crN (keep : Int) (e : List UInt8 × Nat) : Nat := e.2 + min (max keep 0).toNat (e.1.length - e.2)
def cr (keep : Int) (e : List UInt8 × Nat) : List UInt8 × Nat := (e.1.take (crN keep e), crN keep e)
theorem crN_le (keep : Int) (e : VE) (h : e.safe ≤ e.b.length) : crN keep (e.b, e.safe) ≤ e.b.length := by unfold crN; dsimp only; omega
theorem crN_int (keep : Int) (e : VE) (h : e.safe ≤ e.b.length) : ((crN keep (e.b, e.safe) : Nat) : Int) = (e.safe : Int) + min (max keep 0) ((e.b.length : Int) - e.safe) := by unfold crN; dsimp only; omega
/-- Behind the entries that were seen. -/
def crSeen (keep : Int) (seen : Array Nat) (es : List VE) (k : ByteArray) : Option (List UInt8 × Nat) := ((vFind k es).filter fun e => seen.contains e.born).map fun e => cr keep (e.b, e.safe)
theorem crSeen_nil (keep : Int) (es : List VE) (k : ByteArray) : crSeen keep #[] es k = none := by
  unfold crSeen
  cases vFind k es <;> simp [Option.filter]
theorem crSeen_push {keep : Int} {seen : Array Nat} {es : List VE} (hp : es.Pairwise fun x y => x.name ≠ y.name) (hn : (es.map VE.born).Nodup) {e : VE} (he : e ∈ es) (k : ByteArray) : crSeen keep (seen.push e.born) es k = if k = e.name then some (cr keep (e.b, e.safe)) else crSeen keep seen es k := by
  unfold crSeen
  by_cases hk : k = e.name
  · rw [if_pos hk, hk, find_mem hp he]
    simp [Option.filter]
  · rw [if_neg hk]
    cases hf : vFind k es with
    | none => rfl
    | some x =>
      obtain ⟨hx, hxk⟩ := find_some hf
      have hne : x.born ≠ e.born := fun hb => by
        have : x = e := by
          obtain ⟨i, hi, hie⟩ := List.getElem_of_mem hx
          obtain ⟨j, hj, hje⟩ := List.getElem_of_mem he
          have h1 : (es.map VE.born)[i]'(by simpa using hi) = (es.map VE.born)[j]'(by simpa using hj) := by simp [hie, hje, hb]
          have h2 := (List.getElem_inj hn).1 h1
          subst h2
          exact hie.symm.trans hje
        exact hk (by rw [← this, hxk])
      simp [Option.filter, Array.contains_push, hne]
theorem crSeen_all {keep : Int} {seen : Array Nat} {es : List VE} (h : ∀ e ∈ es, seen.contains e.born = true) (k : ByteArray) : crSeen keep seen es k = (aF es k).map (cr keep) := by
  unfold crSeen aF
  cases hf : vFind k es with
  | none => rfl
  | some x =>
    have := h x (find_some hf).1
    rw [Option.filter, this]; rfl
end Go.Vlt
namespace Go.Proofs.Ytmfcnooleejgmaa
open Go.Vc Go.Vlt
set_option maxRecDepth 100000
theorem aF_put (k k' : ByteArray) (b : List UInt8) (s : Nat) (sv : Value) (c : Nat) (es : List VE) : aF (ePut k b s sv c es) k' = if k' = k then some (b, s) else aF es k' := find_put k k' b s sv c es
theorem crash_c (bk r : Nat) (room fuse keep : Int) (es : List VE) (c : Nat) (w : World) (h : Vt w bk r room fuse es c) (hk : -9223372036854775808 ≤ keep ∧ keep ≤ 9223372036854775807) (hbl : ∀ e ∈ es, e.b.length ≤ 1000000000) :
    FnC Try.prog 13 #[.pointer (some ⟨bk, 0, none⟩), .int .i64 keep] w fun v w' => (∃ b2 r2 es2 c2, v = .pointer (some ⟨b2, 0, none⟩) ∧ w.heap.size ≤ b2 ∧ w.heap.size ≤ r2 ∧ Vt w' b2 r2 room (-1) es2 c2 ∧ ∀ k, aF es2 k = (aF es k).map (cr keep)) ∧ Later w w' := by
  refine enter13 _ _ ?_
  unfold B13
  have f0 : w.cell? ⟨bk, 0, none⟩ = some (.int .i64 room) := h.blk.cell 0
  have eca : (Value.agg #[.int .i64 room, .int .i64 (-1), .map (some w.heap.size)]).cells = #[.int .i64 room, .int .i64 (-1), .map (some w.heap.size)] := rfl
  repeat' (first | (simp (disch := omega) only [push_cast, ↓reduceIte, zA, zG, zB, zH, zI, zC, zJ, zK, zL, zD, zE, zF, zM, zN, zO, zP, zQ, reduceCtorEq, not_true_eq_false, not_false_eq_true, f0, eca, addr_add_eq, Nat.zero_add]) | (first | refine vIfE_of ?_ ?_ | refine vIfD_of ?_ ?_ | refine vIfQ_of ?_ ?_ | refine vIfV_of ?_ ?_) <;> intro _ | refine And.intro (by omega) ?_ | fail)
  clear eca
  have l1 := later_alloc w (.map #[] 0)
  have hm : (w.alloc (.map #[] 0)).heap[w.heap.size]? = some (.map #[] 0) := heap_new w _
  have hw1 : w.heap.size < (w.alloc (.map #[] 0)).heap.size := (Array.getElem?_eq_some_iff.1 hm).1
  generalize w.alloc (.map #[] 0) = w1 at *
  have l2 := later_alloc w1 (.cells #[.int .i64 room, .int .i64 (-1), .map (some w.heap.size)] 57)
  have hV : Vt (w1.alloc (.cells #[.int .i64 room, .int .i64 (-1), .map (some w.heap.size)] 57)) w1.heap.size w.heap.size room (-1) [] 0 :=
    ⟨by decide, Blk.new _ _ _, (heap_alloc hw1 _).trans hm, List.Pairwise.nil, by simp, List.nodup_nil, by simp⟩
  generalize hb2 : w1.heap.size = b2 at *
  generalize hr2 : w.heap.size = r2 at *
  generalize w1.alloc (.cells #[.int .i64 room, .int .i64 (-1), .map (some r2)] 57) = w2 at *
  have l02 := l1.trans l2
  have h2 := h.later l02
  have f2 : w2.cell? ⟨bk, 2, none⟩ = some (.map (some r)) := h2.blk.cell 2
  repeat' (first | (simp (disch := omega) only [push_cast, ↓reduceIte, zA, zG, zB, zH, zI, zC, zJ, zK, zL, zD, zE, zF, zM, zN, zO, zP, zQ, reduceCtorEq, not_true_eq_false, not_false_eq_true, f2, addr_add_eq, Nat.zero_add]) | (first | refine vIfE_of ?_ ?_ | refine vIfD_of ?_ ?_ | refine vIfQ_of ?_ ?_ | refine vIfV_of ?_ ?_) <;> intro _ | refine And.intro (by omega) ?_ | refine drawn_q ?_ | fail)
  refine vRng_of Try.underlying55 h2.map ?_
  have l3 := later_alloc w2 (.mapIter (some r) c #[] c)
  have hi : (w2.alloc (.mapIter (some r) c #[] c)).heap[w2.heap.size]? = some (.mapIter (some r) c #[] c) := heap_new w2 _
  have hV3 := hV.later l3
  have l03 := l02.trans l3
  have hitg : w.heap.size ≤ w2.heap.size := l02.size
  generalize w2.alloc (.mapIter (some r) c #[] c) = w3 at *
  generalize hit : w2.heap.size = it at *
  repeat' (first | (simp (disch := omega) only [push_cast, ↓reduceIte, zA, zG, zB, zH, zI, zC, zJ, zK, zL, zD, zE, zF, zM, zN, zO, zP, zQ, reduceCtorEq, not_true_eq_false, not_false_eq_true]) | (first | refine vIfE_of ?_ ?_ | refine vIfD_of ?_ ?_ | refine vIfQ_of ?_ ?_ | refine vIfV_of ?_ ?_) <;> intro _ | refine And.intro (by omega) ?_ | refine drawn_q ?_ | fail)
  refine vc_loop W13_0 (fun _ : Nat => [])
    (fun n w' => ∃ (seen : Array Nat) (es2 : List VE) (c2 : Nat), w'.heap[it]? = some (.mapIter (some r) c seen c) ∧ Later w w' ∧ n = (lft seen es).length ∧ Vt w' b2 r2 room (-1) es2 c2 ∧ ∀ k, aF es2 k = crSeen keep seen es k) (fun n => n) (lft #[] es).length (by decide) ?_ ?_ ?_
  · simp (disch := omega) only [push_cast, ↓reduceIte, zA, zG, zB, zH, zI, zC, zJ, zK, zL, zD, zE, zF, zM, zN, zO, zP, zQ, reduceCtorEq, not_true_eq_false, not_false_eq_true]
  · exact ⟨#[], [], 0, hi, l03, rfl, hV3, fun k => (crSeen_nil keep es k).symm⟩
  rintro n uu w4 ⟨seen, es2, c2, hs, l4, hn, hV4, hA⟩
  have h4 := h.later l4
  repeat' (first | (simp (disch := omega) only [push_cast, ↓reduceIte, zA, zG, zB, zH, zI, zC, zJ, zK, zL, zD, zE, zF, zM, zN, zO, zP, zQ, reduceCtorEq, not_true_eq_false, not_false_eq_true]) | (first | refine vIfE_of ?_ ?_ | refine vIfD_of ?_ ?_ | refine vIfQ_of ?_ ?_ | refine vIfV_of ?_ ?_) <;> intro _ | refine And.intro (by omega) ?_ | refine drawn_q ?_ | fail)
  refine vNxt_of hs h4.map (fun e he => by obtain ⟨x, hx, rfl⟩ := List.mem_map.1 he; exact h.born x hx) (Nat.le_refl _) (fun hall => ?_) (fun ee hee hns w5' hw5' => ?_)
  · repeat' (first | (simp (disch := omega) only [push_cast, ↓reduceIte, zA, zG, zB, zH, zI, zC, zJ, zK, zL, zD, zE, zF, zM, zN, zO, zP, zQ, reduceCtorEq, not_true_eq_false, not_false_eq_true]) | (first | refine vIfE_of ?_ ?_ | refine vIfD_of ?_ ?_ | refine vIfQ_of ?_ ?_ | refine vIfV_of ?_ ?_) <;> intro _ | refine And.intro (by omega) ?_ | refine drawn_q ?_ | fail)
    have hall' : ∀ e ∈ es, seen.contains e.born = true := fun e he => hall e.ent (List.mem_map_of_mem he)
    have hA' : ∀ k, aF es2 k = (aF es k).map (cr keep) := fun k => (hA k).trans (crSeen_all hall' k)
    exact ⟨⟨b2, r2, es2, c2, rfl, by omega, by omega, hV4, hA'⟩, l4⟩
  · obtain ⟨e, he, rfl⟩ := List.mem_map.1 hee
    have hns : seen.contains e.born = false := hns
    have hel : e ∈ lft seen es := List.mem_filter.2 ⟨he, by rw [hns]; rfl⟩
    obtain ⟨_, t2⟩ := tot_out (l := lft seen es) ((List.Sublist.map _ List.filter_sublist).nodup h.nodup) hel
    rw [← lft_push] at t2
    have hs' : w5'.heap[it]? = some (.mapIter (some r) c seen c) := by rcases hw5' with rfl | rfl <;> exact hs
    have l5' : Later w w5' := by rcases hw5' with rfl | rfl; exact l4; exact l4.drew
    have l45' : Later w4 w5' := by rcases hw5' with rfl | rfl; exact Later.refl _; exact (Later.refl _).drew
    have hV5' := hV4.later l45'
    have c5 := chg_setB (w := w5') (r := it) (ks := [it]) (by simp) (.mapIter (some r) c (seen.push e.ent.2.2) c)
    have hs5 : (setB w5' it (.mapIter (some r) c (seen.push e.ent.2.2) c)).heap[it]? = some (.mapIter (some r) c (seen.push e.ent.2.2) c) := setB_at hs'
    have l5 : Later w (setB w5' it (.mapIter (some r) c (seen.push e.ent.2.2) c)) := Chg.later l5' c5 (by intro j hj; rw [List.mem_singleton.1 hj]; omega)
    have hnb : b2 ∉ [it] := by
      simp only [List.mem_singleton]
      rintro rfl
      have := hV5'.blk
      unfold Blk at this
      rw [hs'] at this; cases this
    have hnr : r2 ∉ [it] := by
      simp only [List.mem_singleton]
      rintro rfl
      have := hV5'.map
      unfold MapB at this
      rw [hs'] at this; cases this
    have hV5 := hV5'.chg c5 hnb hnr (fun j hj cs hb => by
      rw [List.mem_singleton.1 hj] at hb
      unfold Blk at hb
      rw [hs'] at hb; cases hb)
    generalize setB w5' it (.mapIter (some r) c (seen.push e.ent.2.2) c) = w5 at *
    have hs5 : w5.heap[it]? = some (.mapIter (some r) c (seen.push e.born) c) := hs5
    clear hs' l5' l45' c5 hV5' hnb hnr
    have h5 := h.later l5
    have hok := h5.ok e he
    have hsafe := hok.safe
    have hlen := hbl e he
    obtain ⟨os, cs, hsv⟩ := Sl.slice hok.sl
    rw [List.length_map] at hsv
    repeat' (first | (simp (disch := omega) only [push_cast, ↓reduceIte, zA, zG, zB, zH, zI, zC, zJ, zK, zL, zD, zE, zF, zM, zN, zO, zP, zQ, reduceCtorEq, not_true_eq_false, not_false_eq_true]) | (first | refine vIfE_of ?_ ?_ | refine vIfD_of ?_ ?_ | refine vIfQ_of ?_ ?_ | refine vIfV_of ?_ ?_) <;> intro _ | refine And.intro (by omega) ?_ | refine drawn_q ?_ | fail)
    refine vEnt_of (e := e.ent) hs5 h5.map (List.mem_map_of_mem he) (by rw [List.map_map]; exact h.nodup) ?_
    unfold VE.ent
    repeat' (first | (simp (disch := omega) only [push_cast, ↓reduceIte, zA, zG, zB, zH, zI, zC, zJ, zK, zL, zD, zE, zF, zM, zN, zO, zP, zQ, reduceCtorEq, not_true_eq_false, not_false_eq_true]) | (first | refine vIfE_of ?_ ?_ | refine vIfD_of ?_ ?_ | refine vIfQ_of ?_ ?_ | refine vIfV_of ?_ ?_) <;> intro _ | refine And.intro (by omega) ?_ | refine drawn_q ?_ | fail)
    refine vStore_new rfl rfl (by intro u hu; rw [hsv] at hu; simp at hu; rcases hu with rfl | rfl <;> rfl) ?_
    have l6 := later_alloc w5 (.cells #[e.sv, .int .i64 e.safe] 61)
    have B6 := Blk.new w5 #[e.sv, .int .i64 e.safe] 61
    have hV6 := hV5.later l6
    have hs6 : (w5.alloc (.cells #[e.sv, .int .i64 e.safe] 61)).heap[it]? = some (.mapIter (some r) c (seen.push e.born) c) := (heap_alloc (Array.getElem?_eq_some_iff.1 hs5).1 _).trans hs5
    generalize w5.alloc (.cells #[e.sv, .int .i64 e.safe] 61) = w6 at *
    generalize hkb : w5.heap.size = kb at *
    have g0 : w6.cell? ⟨kb, 0, none⟩ = some e.sv := B6.cell 0
    have g1 : w6.cell? ⟨kb, 1, none⟩ = some (.int .i64 (e.safe : Int)) := B6.cell 1
    rw [hsv] at g0
    have hcr := (crN_int keep e hsafe).symm
    have hcl := crN_le keep e hsafe
    have hcre : cr keep (e.b, e.safe) = (e.b.take (crN keep (e.b, e.safe)), crN keep (e.b, e.safe)) := rfl
    have g2 : w6.cell? ⟨b2, 2, none⟩ = some (.map (some r2)) := hV6.blk.cell 2
    generalize crN keep (e.b, e.safe) = N at *
    have hsl6 : Sl w6 (.slice os e.b.length cs) (e.b.map u8v) := by rw [← hsv]; exact Sl.later hok.sl l6
    have hcs : e.b.length ≤ cs := (Sl.len hsl6).2.1
    repeat' (first | (simp (disch := omega) only [push_cast, ↓reduceIte, zA, zG, zB, zH, zI, zC, zJ, zK, zL, zD, zE, zF, zM, zN, zO, zP, zQ, reduceCtorEq, not_true_eq_false, not_false_eq_true, g0, g1, hcr, addr_add_eq, Nat.zero_add]) | (first | refine vIfE_of ?_ ?_ | refine vIfD_of ?_ ?_ | refine vIfQ_of ?_ ?_ | refine vIfV_of ?_ ?_) <;> intro _ | refine And.intro (by omega) ?_ | fail)
    refine drawn_k 12 ?_
    repeat' (first | (simp (disch := omega) only [push_cast, ↓reduceIte, zA, zG, zB, zH, zI, zC, zJ, zK, zL, zD, zE, zF, zM, zN, zO, zP, zQ, reduceCtorEq, not_true_eq_false, not_false_eq_true, g0, g1, g2, addr_add_eq, Nat.zero_add]) | (first | refine vIfE_of ?_ ?_ | refine vIfD_of ?_ ?_ | refine vIfQ_of ?_ ?_ | refine vIfV_of ?_ ?_) <;> intro _ | refine And.intro (by omega) ?_ | fail)
    have hslN : ∀ w', Later w6 w' → Sl w' (.slice os N cs) ((e.b.take N).map u8v) := fun w' hl => by rw [List.map_take]; exact (Sl.later hsl6 hl).pre hcl
    have hN : (e.b.take N).length = N := by rw [List.length_take]; omega
    refine NFn.of hb34 (fun v w' => OwnB w' w6.heap.size 5 v (e.b.take N)) (fun _ _ _ _ hl h => h.later hl) (fun w' hl => (bclone_c _ (e.b.take N) w' (hslN w' hl) (by rw [hN]; omega)).mono fun v w'' hv => ⟨hv.1.base hl.size, hv.2⟩) ?_
    repeat' (first | (simp (disch := omega) only [push_cast, ↓reduceIte, zA, zG, zB, zH, zI, zC, zJ, zK, zL, zD, zE, zF, zM, zN, zO, zP, zQ, reduceCtorEq, not_true_eq_false, not_false_eq_true, g0, g1, g2, addr_add_eq, Nat.zero_add]) | (first | refine vIfE_of ?_ ?_ | refine vIfD_of ?_ ?_ | refine vIfQ_of ?_ ?_ | refine vIfV_of ?_ ?_) <;> intro _ | refine And.intro (by omega) ?_ | fail)
    refine nR_bldV (FileV w6.heap.size (e.b.take N) N) (stb_file _ _ _ _) (fun σ' w' hl hp => ?_) ?_
    · obtain ⟨hp49, hp50, _⟩ := hp
      have h49 : OwnB w' w6.heap.size 5 (σ' 49) (e.b.take N) := hp49
      have h50 : σ' 50 = .int .i64 (N : Int) := hp50
      obtain ⟨o3, c3, hv⟩ := h49.slice
      rw [hv] at h49
      repeat' (first | (simp (disch := omega) only [push_cast, ↓reduceIte, zA, zG, zB, zH, zI, zC, zJ, zK, zL, zD, zE, zF, zM, zN, zO, zP, zQ, reduceCtorEq, not_true_eq_false, not_false_eq_true, h50, hv]) | (first | refine vIfE_of ?_ ?_ | refine vIfD_of ?_ ?_ | refine vIfQ_of ?_ ?_ | refine vIfV_of ?_ ?_) <;> intro _ | refine And.intro (by omega) ?_ | fail)
      exact ⟨Later.refl _, _, rfl, h49⟩
    repeat' (first | (simp (disch := omega) only [push_cast, ↓reduceIte, zA, zG, zB, zH, zI, zC, zJ, zK, zL, zD, zE, zF, zM, zN, zO, zP, zQ, reduceCtorEq, not_true_eq_false, not_false_eq_true]) | (first | refine vIfE_of ?_ ?_ | refine vIfD_of ?_ ?_ | refine vIfQ_of ?_ ?_ | refine vIfV_of ?_ ?_) <;> intro _ | refine And.intro (by omega) ?_ | fail)
    rintro w7 l7 _ ⟨u, rfl, hu⟩ _ _
    have hV7 := hV6.later l7
    have hs7 := (l7.block it (Array.getElem?_eq_some_iff.1 hs6).1).trans hs6
    have hp := Vt.put hV7 e.name (b := e.b.take N) (s := N) (sv := u) hu.sl (InT.of_own hu) (by rw [hN]; exact Nat.le_refl _)
    have c7 := chg_setB (w := w7) (r := r2) (ks := [r2]) (by simp) (.map ((mPut e.name (.agg #[u, .int .i64 (N : Nat)]) c2 (es2.map VE.ent)).map mE).toArray (mTick e.name c2 (es2.map VE.ent)))
    have hri : it ≠ r2 := by
      rintro rfl
      have := hV7.map
      unfold MapB at this
      rw [hs7] at this; cases this
    have hs8 := (c7.block it (Array.getElem?_eq_some_iff.1 hs7).1 (by simpa using hri)).trans hs7
    have l8 := Chg.later (l5.trans (l6.trans l7)) c7 (by intro j hj; rw [List.mem_singleton.1 hj]; exact Nat.le_of_eq hr2)
    refine vUpd_of Try.underlying55 Try.underlying9 hV7.map e.name _ ?_
    generalize setB w7 r2 (.map ((mPut e.name (.agg #[u, .int .i64 (N : Nat)]) c2 (es2.map VE.ent)).map mE).toArray (mTick e.name c2 (es2.map VE.ent))) = w8 at *
    repeat' (first | (simp (disch := omega) only [push_cast, ↓reduceIte, zA, zG, zB, zH, zI, zC, zJ, zK, zL, zD, zE, zF, zM, zN, zO, zP, zQ, reduceCtorEq, not_true_eq_false, not_false_eq_true]) | (first | refine vIfE_of ?_ ?_ | refine vIfD_of ?_ ?_ | refine vIfQ_of ?_ ?_ | refine vIfV_of ?_ ?_) <;> intro _ | refine And.intro (by omega) ?_ | refine drawn_q ?_ | fail)
    refine ⟨rfl, (lft (seen.push e.born) es).length, by simp (disch := omega) only [push_cast, ↓reduceIte, zA, zG, zB, zH, zI, zC, zJ, zK, zL, zD, zE, zF, zM, zN, zO, zP, zQ, reduceCtorEq, not_true_eq_false, not_false_eq_true], ⟨_, _, _, hs8, l8, rfl, hp, fun k => ?_⟩, by dsimp only; omega⟩
    rw [aF_put, crSeen_push h.apart h.nodup he, hcre, hA k]
end Go.Proofs.Ytmfcnooleejgmaa
end
section
namespace Go.Stab
/-- An order that has ties. -/
structure Swo {α : Type} (lt : α → α → Bool) : Prop where
  asym : ∀ a b, lt a b = true → lt b a = false
  ntr : ∀ a b c, lt b a = false → lt c b = false → lt c a = false
variable {α : Type} {lt : α → α → Bool}
def Srt (lt : α → α → Bool) (l : List α) : Prop := l.Pairwise fun a b => lt b a = false
def eqv (lt : α → α → Bool) (a b : α) : Bool := !lt a b && !lt b a
/-- The same, each class in its order. -/
def Stb (lt : α → α → Bool) (l l' : List α) : Prop := l'.length = l.length ∧ ∀ x, l'.filter (eqv lt x) = l.filter (eqv lt x)
theorem Stb.refl (l : List α) : Stb lt l l := ⟨rfl, fun _ => rfl⟩
theorem Stb.trans {a b c : List α} (h : Stb lt a b) (g : Stb lt b c) : Stb lt a c := ⟨by rw [g.1, h.1], fun x => by rw [g.2, h.2]⟩
theorem Stb.append {a b a' b' : List α} (h : Stb lt a a') (g : Stb lt b b') : Stb lt (a ++ b) (a' ++ b') := ⟨by simp [h.1, g.1], fun x => by rw [List.filter_append, List.filter_append, h.2, g.2]⟩
/-- What is strictly below may go ahead. -/
theorem Stb.swap (hs : Swo lt) {u v : List α} (h : ∀ a ∈ u, ∀ b ∈ v, lt b a = true) : Stb lt (u ++ v) (v ++ u) := by
  refine ⟨by simp; omega, fun x => ?_⟩
  rw [List.filter_append, List.filter_append]
  by_cases hu : u.filter (eqv lt x) = []
  · simp [hu]
  · have hv : v.filter (eqv lt x) = [] := by
      obtain ⟨a, ha⟩ := List.exists_mem_of_ne_nil _ hu
      obtain ⟨ha, hxa⟩ := List.mem_filter.1 ha
      rw [List.filter_eq_nil_iff]
      intro b hb hxb
      have hba := h a ha b hb
      simp only [eqv, Bool.and_eq_true, Bool.not_eq_true'] at hxa hxb
      have := hs.ntr a x b hxa.1 hxb.2
      rw [hba] at this
      cases this
    simp [hv]
theorem Srt.append {a b : List α} : Srt lt (a ++ b) ↔ Srt lt a ∧ Srt lt b ∧ ∀ x ∈ a, ∀ y ∈ b, lt y x = false := List.pairwise_append
/-- Where the merge begins its search, and where it ends. -/
def s0 (a m b : Nat) : Nat := if (a + b) / 2 < m then (a + b) / 2 + m - b else a
def r0 (a m b : Nat) : Nat := if (a + b) / 2 < m then (a + b) / 2 else m
/-- Block by block sorted. -/
def Bs (lt : α → α → Bool) (n : Nat) (l : List α) : Prop := ∀ k, Srt lt ((l.drop (k * n)).take n)
theorem srt_nil : Srt lt ([] : List α) := List.Pairwise.nil
theorem Bs.whole {n : Nat} {l : List α} (h : Bs lt n l) (hl : l.length ≤ n) : Srt lt l := by
  have := h 0
  simpa [List.take_of_length_le hl] using this
theorem Bs.two {n : Nat} {l : List α} (h : Bs lt n l) : Srt lt (l.take n) ∧ Srt lt ((l.drop n).take n) ∧ Bs lt n (l.drop (n + n)) := by
  refine ⟨by simpa using h 0, by simpa using h 1, fun k => ?_⟩
  have := h (k + 2)
  rw [List.drop_drop]
  have e : (n + n) + k * n = (k + 2) * n := by rw [Nat.add_mul]; omega
  rwa [e]
theorem Bs.nil {n : Nat} : Bs lt n ([] : List α) := fun k => by simp [srt_nil]
end Go.Stab
end
section
namespace Go.Key
open Go.Stab
theorem bl_tri : ∀ (a b : List UInt8), (Op.bytesLess a b = true ∧ Op.bytesLess b a = false ∧ a ≠ b) ∨ (a = b ∧ Op.bytesLess a b = false) ∨ (Op.bytesLess a b = false ∧ Op.bytesLess b a = true ∧ a ≠ b)
  | [], [] => .inr (.inl ⟨rfl, rfl⟩)
  | [], _ :: _ => .inl ⟨rfl, rfl, by simp⟩
  | _ :: _, [] => .inr (.inr ⟨rfl, rfl, by simp⟩)
  | x :: a, y :: b => by
    rcases UInt8.lt_or_lt_of_ne (a := x) (b := y) |> fun h => (Decidable.em (x = y)).imp id h with e | e | e
    · subst e
      have hx : ¬ x < x := UInt8.lt_irrefl x
      rcases bl_tri a b with ⟨h1, h2, h3⟩ | ⟨h1, h2⟩ | ⟨h1, h2, h3⟩
      · exact .inl ⟨by simp [Op.bytesLess, h1], by simp [Op.bytesLess, h2, hx], by simpa using h3⟩
      · exact .inr (.inl ⟨by rw [h1], by simp [Op.bytesLess, h2, hx]⟩)
      · exact .inr (.inr ⟨by simp [Op.bytesLess, h1, hx], by simp [Op.bytesLess, h2], by simpa using h3⟩)
    · have n : ¬ y < x := fun h => UInt8.lt_irrefl _ (UInt8.lt_trans h e)
      have ne : x ≠ y := fun h => by subst h; exact UInt8.lt_irrefl _ e
      exact .inl ⟨by simp [Op.bytesLess, e], by simp [Op.bytesLess, n, Ne.symm ne], by simp [ne]⟩
    · have n : ¬ x < y := fun h => UInt8.lt_irrefl _ (UInt8.lt_trans h e)
      have ne : x ≠ y := fun h => by subst h; exact UInt8.lt_irrefl _ e
      exact .inr (.inr ⟨by simp [Op.bytesLess, n, ne], by simp [Op.bytesLess, e], by simp [ne]⟩)
theorem bl_trans : ∀ (a b c : List UInt8), Op.bytesLess a b = true → Op.bytesLess b c = true → Op.bytesLess a c = true
  | _, [], _, h, _ => by simp [Op.bytesLess] at h
  | _, _ :: _, [], _, h => by simp [Op.bytesLess] at h
  | [], _ :: _, _ :: _, _, _ => rfl
  | x :: a, y :: b, z :: c, h, g => by
    simp only [Op.bytesLess, Bool.or_eq_true, decide_eq_true_eq, Bool.and_eq_true, beq_iff_eq] at h g ⊢
    rcases h with h | ⟨rfl, h⟩ <;> rcases g with g | ⟨rfl, g⟩
    · exact .inl (UInt8.lt_trans h g)
    · exact .inl h
    · exact .inl g
    · exact .inr ⟨rfl, bl_trans a b c h g⟩
/-- Texts. -/
def blt (a b : ByteArray) : Bool := Op.bytesLess a.data.toList b.data.toList
theorem ba_ext {a b : ByteArray} (h : a.data.toList = b.data.toList) : a = b := by
  cases a; cases b
  congr
  exact Array.ext' h
theorem blt_tri (a b : ByteArray) : (blt a b = true ∧ blt b a = false ∧ a ≠ b) ∨ (a = b ∧ blt a b = false) ∨ (blt a b = false ∧ blt b a = true ∧ a ≠ b) := by
  rcases bl_tri a.data.toList b.data.toList with ⟨h1, h2, h3⟩ | ⟨h1, h2⟩ | ⟨h1, h2, h3⟩
  · exact .inl ⟨h1, h2, fun e => h3 (by rw [e])⟩
  · exact .inr (.inl ⟨ba_ext h1, h2⟩)
  · exact .inr (.inr ⟨h1, h2, fun e => h3 (by rw [e])⟩)
end Go.Key
end
section
namespace Go.Vlt
open Go Go.Vc Go.Key
structure Fl where
  name : ByteArray
  b : List UInt8
  safe : Nat
def lk (k : ByteArray) : List Fl → Option (List UInt8 × Nat)
  | [] => none
  | x :: l => if k = x.name then some (x.b, x.safe) else lk k l
def Srd (L : List Fl) : Prop := L.Pairwise fun x y => blt x.name y.name = true
def lPut (f : Fl) : List Fl → List Fl
  | [] => [f]
  | x :: l => if blt x.name f.name = true then x :: lPut f l else if x.name = f.name then f :: l else f :: x :: l
def lDel (k : ByteArray) : List Fl → List Fl
  | [] => []
  | x :: l => if x.name = k then l else x :: lDel k l
def tl : List Fl → Int
  | [] => 0
  | x :: l => x.b.length + tl l
def oB (k : ByteArray) (L : List Fl) : List UInt8 := ((lk k L).map Prod.fst).getD []
def oS (k : ByteArray) (L : List Fl) : Nat := ((lk k L).map Prod.snd).getD 0
theorem blt_ne {a b : ByteArray} (h : blt a b = true) : a ≠ b := by
  rintro rfl
  rcases blt_tri a a with h' | h' | h'
  · exact h'.2.2 rfl
  · rw [h] at h'; cases h'.2
  · exact h'.2.2 rfl
theorem blt_trans {a b c : ByteArray} (h : blt a b = true) (g : blt b c = true) : blt a c = true := bl_trans _ _ _ h g
theorem lk_out {k : ByteArray} : ∀ {L : List Fl}, (∀ x ∈ L, x.name ≠ k) → lk k L = none
  | [], _ => rfl
  | x :: l, h => by
    unfold lk
    rw [if_neg fun h' => h x (by simp) h'.symm]
    exact lk_out fun y hy => h y (List.mem_cons_of_mem _ hy)
theorem lk_in {k : ByteArray} : ∀ {L : List Fl} {p : List UInt8 × Nat}, lk k L = some p → ∃ x ∈ L, x.name = k ∧ (x.b, x.safe) = p
  | x :: l, p, h => by
    unfold lk at h
    split at h
    · rename_i hk
      exact ⟨x, by simp, hk.symm, by simpa using h⟩
    · obtain ⟨y, hy, h'⟩ := lk_in h
      exact ⟨y, List.mem_cons_of_mem _ hy, h'⟩
theorem lk_mem : ∀ {L : List Fl}, Srd L → ∀ {x : Fl}, x ∈ L → lk x.name L = some (x.b, x.safe)
  | y :: l, hs, x, hx => by
    obtain ⟨h1, h2⟩ := List.pairwise_cons.1 hs
    unfold lk
    rcases List.mem_cons.1 hx with rfl | hx
    · rw [if_pos rfl]
    · rw [if_neg fun h => blt_ne (h1 x hx) h.symm]
      exact lk_mem h2 hx
theorem lk_put (f : Fl) (k : ByteArray) : ∀ L : List Fl, lk k (lPut f L) = if k = f.name then some (f.b, f.safe) else lk k L
  | [] => rfl
  | x :: l => by
    unfold lPut
    by_cases h1 : blt x.name f.name = true
    · rw [if_pos h1]
      unfold lk
      by_cases h2 : k = x.name
      · rw [if_pos h2, if_pos h2, if_neg fun h3 => blt_ne h1 (h2.symm.trans h3)]
      · rw [if_neg h2, if_neg h2]
        exact lk_put f k l
    · rw [if_neg h1]
      by_cases h2 : x.name = f.name
      · rw [if_pos h2]
        unfold lk
        by_cases h3 : k = f.name
        · rw [if_pos h3, if_pos h3]
        · rw [if_neg h3, if_neg h3, if_neg fun h4 => h3 (h4.trans h2)]
      · rw [if_neg h2]
        rfl
theorem lk_del (k k' : ByteArray) : ∀ {L : List Fl}, Srd L → lk k' (lDel k L) = if k' = k then none else lk k' L
  | [], _ => by unfold lDel lk; split <;> rfl
  | x :: l, hs => by
    obtain ⟨h1, h2⟩ := List.pairwise_cons.1 hs
    unfold lDel
    by_cases h : x.name = k
    · rw [if_pos h]
      by_cases h3 : k' = k
      · rw [if_pos h3, h3, ← h]
        exact lk_out fun y hy => (blt_ne (h1 y hy)).symm
      · rw [if_neg h3]
        conv => rhs; unfold lk
        rw [if_neg fun h4 => h3 (h4.trans h)]
    · rw [if_neg h]
      unfold lk
      by_cases h4 : k' = x.name
      · rw [if_pos h4, if_pos h4, if_neg fun h5 => h (h4.symm.trans h5)]
      · rw [if_neg h4, if_neg h4]
        exact lk_del k k' h2
theorem put_mem' {f : Fl} : ∀ {L : List Fl} {x : Fl}, x ∈ lPut f L → x = f ∨ x ∈ L
  | [], x, h => .inl (List.mem_singleton.1 h)
  | y :: l, x, h => by
    unfold lPut at h
    split at h
    · rcases List.mem_cons.1 h with rfl | h
      · exact .inr (by simp)
      · exact (put_mem' h).imp id (List.mem_cons_of_mem _)
    · split at h
      · rcases List.mem_cons.1 h with rfl | h
        · exact .inl rfl
        · exact .inr (List.mem_cons_of_mem _ h)
      · rcases List.mem_cons.1 h with rfl | h
        · exact .inl rfl
        · exact .inr h
theorem srd_put {f : Fl} : ∀ {L : List Fl}, Srd L → Srd (lPut f L)
  | [], _ => List.pairwise_singleton _ _
  | y :: l, hs => by
    obtain ⟨h1, h2⟩ := List.pairwise_cons.1 hs
    unfold lPut
    split
    · rename_i hb
      refine List.pairwise_cons.2 ⟨fun x hx => ?_, srd_put h2⟩
      rcases put_mem' hx with rfl | hx
      · exact hb
      · exact h1 x hx
    · rename_i hb
      split
      · rename_i he
        exact List.pairwise_cons.2 ⟨fun x hx => by rw [← he]; exact h1 x hx, h2⟩
      · rename_i he
        have hf : blt f.name y.name = true := by
          rcases blt_tri y.name f.name with h' | h' | h'
          · exact absurd h'.1 hb
          · exact absurd h'.1 he
          · exact h'.2.1
        refine List.pairwise_cons.2 ⟨fun x hx => ?_, hs⟩
        rcases List.mem_cons.1 hx with rfl | hx
        · exact hf
        · exact blt_trans hf (h1 x hx)
theorem del_sub' (k : ByteArray) : ∀ L : List Fl, (lDel k L).Sublist L
  | [] => List.Sublist.refl _
  | x :: l => by
    unfold lDel
    split
    · exact List.sublist_cons_self _ _
    · exact (del_sub' k l).cons_cons _
theorem srd_del {k : ByteArray} {L : List Fl} (h : Srd L) : Srd (lDel k L) := List.Pairwise.sublist (del_sub' k L) h
theorem tl_put {f : Fl} : ∀ {L : List Fl}, Srd L → tl (lPut f L) = tl L - (oB f.name L).length + f.b.length ∧ (lPut f L).length = if lk f.name L = none then L.length + 1 else L.length
  | [], _ => ⟨by unfold lPut tl oB; simp [tl, lk], by simp [lPut, lk]⟩
  | y :: l, hs => by
    obtain ⟨h1, h2⟩ := List.pairwise_cons.1 hs
    unfold lPut
    split
    · rename_i hb
      obtain ⟨i1, i2⟩ := tl_put (f := f) h2
      have hne : ¬ f.name = y.name := fun h => blt_ne hb h.symm
      have e1 : lk f.name (y :: l) = lk f.name l := by
        show (if f.name = y.name then some (y.b, y.safe) else lk f.name l) = _
        rw [if_neg hne]
      have e2 : oB f.name (y :: l) = oB f.name l := by unfold oB; rw [e1]
      rw [e1, e2]
      refine ⟨?_, ?_⟩
      · show (y.b.length : Int) + tl (lPut f l) = y.b.length + tl l - _ + _
        omega
      · rw [List.length_cons, i2, List.length_cons]; split <;> rfl
    · rename_i hb
      split
      · rename_i he
        have e1 : lk f.name (y :: l) = some (y.b, y.safe) := by unfold lk; rw [if_pos he.symm]
        have e2 : oB f.name (y :: l) = y.b := by unfold oB; rw [e1]; rfl
        rw [e1, e2]
        refine ⟨?_, by simp⟩
        show (f.b.length : Int) + tl l = y.b.length + tl l - _ + _
        omega
      · rename_i he
        have hf : blt f.name y.name = true := by
          rcases blt_tri y.name f.name with h' | h' | h'
          · exact absurd h'.1 hb
          · exact absurd h'.1 he
          · exact h'.2.1
        have e1 : lk f.name (y :: l) = none := lk_out fun x hx => by
          rcases List.mem_cons.1 hx with rfl | hx
          · exact he
          · exact (blt_ne (blt_trans hf (h1 x hx))).symm
        have e2 : oB f.name (y :: l) = [] := by unfold oB; rw [e1]; rfl
        rw [e1, e2]
        refine ⟨?_, by simp⟩
        show (f.b.length : Int) + tl (y :: l) = _
        simp only [List.length_nil]
        omega
theorem tl_del {k : ByteArray} : ∀ {L : List Fl}, tl (lDel k L) = tl L - (oB k L).length
  | [] => by unfold lDel tl oB; simp [lk]
  | y :: l => by
    unfold lDel
    split
    · rename_i he
      have e2 : oB k (y :: l) = y.b := by unfold oB lk; rw [if_pos he.symm]; rfl
      rw [e2]
      show tl l = y.b.length + tl l - _
      omega
    · rename_i he
      have e2 : oB k (y :: l) = oB k l := by unfold oB; conv => lhs; unfold lk; rw [if_neg (fun h => he h.symm)]
      rw [e2]
      have := tl_del (k := k) (L := l)
      show (y.b.length : Int) + tl (lDel k l) = y.b.length + tl l - _
      omega
/-- The files in memory are these. -/
structure Rl (es : List VE) (L : List Fl) : Prop where
  srd : Srd L
  same : ∀ k, aF es k = lk k L
def VE.fl (e : VE) : Fl := ⟨e.name, e.b, e.safe⟩
theorem Rl.perm {es : List VE} {L : List Fl} (h : Rl es L) (hp : es.Pairwise fun x y => x.name ≠ y.name) : (es.map VE.fl).Perm L := by
  have n1 : (es.map VE.fl).Nodup := by
    refine List.pairwise_map.2 (hp.imp ?_)
    intro x y hxy hf
    exact hxy (congrArg Fl.name hf)
  have n2 : L.Nodup := h.srd.imp fun hb hf => blt_ne hb (congrArg Fl.name hf)
  refine (List.perm_ext_iff_of_nodup n1 n2).2 fun x => ⟨fun hx => ?_, fun hx => ?_⟩
  · obtain ⟨e, he, rfl⟩ := List.mem_map.1 hx
    have h1 : aF es e.name = some (e.b, e.safe) := by unfold aF; rw [find_mem hp he]; rfl
    rw [h.same] at h1
    obtain ⟨y, hy, hn, hb⟩ := lk_in h1
    simp only [Prod.mk.injEq] at hb
    have : y = e.fl := by
      cases y
      simp only at hn hb
      obtain ⟨rfl, rfl⟩ := hb
      subst hn
      rfl
    rw [← this]; exact hy
  · have h1 := lk_mem h.srd hx
    rw [← h.same] at h1
    unfold aF at h1
    obtain ⟨e, he, hb⟩ := Option.map_eq_some_iff.1 h1
    obtain ⟨h2, h3⟩ := find_some he
    simp only [Prod.mk.injEq] at hb
    have : e.fl = x := by
      cases x
      simp only at h3 hb
      obtain ⟨rfl, rfl⟩ := hb
      subst h3
      rfl
    rw [← this]
    exact List.mem_map_of_mem h2
theorem tl_perm {a b : List Fl} (h : a.Perm b) : tl a = tl b := by
  induction h with
  | nil => rfl
  | cons x _ ih => unfold tl; rw [ih]
  | swap x y l => unfold tl; show (_ : Int) + (_ + tl l) = _ + (_ + tl l); omega
  | trans _ _ ih1 ih2 => exact ih1.trans ih2
theorem tot_fl : ∀ es : List VE, tot es = tl (es.map VE.fl)
  | [] => rfl
  | e :: l => by
    show (e.b.length : Int) + tot l = e.b.length + tl (l.map VE.fl)
    rw [tot_fl l]
theorem Rl.nums {es : List VE} {L : List Fl} (h : Rl es L) (hp : es.Pairwise fun x y => x.name ≠ y.name) : es.length = L.length ∧ tot es = tl L := by
  have p := h.perm hp
  exact ⟨by rw [← p.length_eq, List.length_map], by rw [tot_fl, tl_perm p]⟩
theorem lk_find {es : List VE} {L : List Fl} (h : Rl es L) (k : ByteArray) : (vFind k es = none ↔ lk k L = none) ∧ fB' k es = oB k L ∧ fS' k es = oS k L := by
  have := h.same k
  unfold aF at this
  unfold oB oS fB' fS'
  rw [← this]
  cases vFind k es <;> simp
end Go.Vlt
end
section
namespace Go.Proofs.Ytmfcnooleejgmaa
open Go.Vc Go.Vlt Go.Key
set_option maxRecDepth 100000
structure Vst where
  room : Int
  fuse : Int
  L : List Fl
def Vst.burn (s : Vst) : Vst := ⟨s.room, brn s.fuse, s.L⟩
def aApp (k : ByteArray) (bl : List UInt8) (s : Vst) : Int × Vst :=
  if nmOk k = false then (31, s) else if brn s.fuse = 0 then (272, s.burn) else if s.room - tl s.L < bl.length ∨ (lk k s.L = none ∧ 200 ≤ s.L.length) then (32, s.burn)
  else (0, ⟨s.room, brn s.fuse, lPut ⟨k, oB k s.L ++ bl, oS k s.L⟩ s.L⟩)
def aSync (k : ByteArray) (s : Vst) : Int × Vst :=
  if nmOk k = false ∨ lk k s.L = none then (31, s) else if brn s.fuse = 0 then (272, s.burn) else (0, ⟨s.room, brn s.fuse, lPut ⟨k, oB k s.L, (oB k s.L).length⟩ s.L⟩)
def aRen (k k2 : ByteArray) (s : Vst) : Int × Vst :=
  if nmOk k = false ∨ lk k s.L = none ∨ nmOk k2 = false then (31, s) else if brn s.fuse = 0 then (272, s.burn) else (0, ⟨s.room, brn s.fuse, lPut ⟨k2, oB k s.L, oS k s.L⟩ (lDel k s.L)⟩)
def aDel (k : ByteArray) (s : Vst) : Int × Vst :=
  if nmOk k = false ∨ lk k s.L = none then (31, s) else if brn s.fuse = 0 then (272, s.burn) else (0, ⟨s.room, brn s.fuse, lDel k s.L⟩)
def aArm (n : Int) (s : Vst) : Int × Vst := if n < 0 then (1, s) else (0, ⟨s.room, n, s.L⟩)
def crF (keep : Int) (f : Fl) : Fl := ⟨f.name, (cr keep (f.b, f.safe)).1, (cr keep (f.b, f.safe)).2⟩
def aCrash (keep : Int) (s : Vst) : Vst := ⟨s.room, -1, s.L.map (crF keep)⟩
/-- A right state. -/
structure Good (s : Vst) : Prop where
  room : 0 ≤ s.room ∧ s.room ≤ 16777216
  fuse : -1 ≤ s.fuse ∧ s.fuse ≤ 9223372036854775807
  srd : Srd s.L
  names : ∀ f ∈ s.L, nmOk f.name = true
  safe : ∀ f ∈ s.L, f.safe ≤ f.b.length
  tot : tl s.L ≤ s.room
  len : s.L.length ≤ 200
/-- A vault in memory, in this state. -/
def VS (w : World) (bk r : Nat) (s : Vst) : Prop := ∃ es c, Vt w bk r s.room s.fuse es c ∧ Rl es s.L
theorem VS.later {w w' : World} {bk r : Nat} {s : Vst} (h : VS w bk r s) (hl : Later w w') : VS w' bk r s := by
  obtain ⟨es, c, h1, h2⟩ := h
  exact ⟨es, c, h1.later hl, h2⟩
theorem VS.lt {w : World} {bk r : Nat} {s : Vst} (h : VS w bk r s) : bk < w.heap.size ∧ r < w.heap.size := by
  obtain ⟨es, c, h1, h2⟩ := h
  exact ⟨h1.blk.lt, (Array.getElem?_eq_some_iff.1 h1.map).1⟩
/-- What is done to one vault leaves another. -/
theorem VS.other {w w' : World} {bk r bk' r' : Nat} {s s' : Vst} (h : VS w bk r s) (h' : VS w bk' r' s') (hc : Chg w w' [bk', r']) (hb : bk ≠ bk') (hr : r ≠ r') : VS w' bk r s := by
  obtain ⟨es, c, h1, h2⟩ := h
  obtain ⟨es', c', h1', h2'⟩ := h'
  have e1 : bk ≠ r' := by
    rintro rfl
    have a := h1.blk
    have b := h1'.map
    unfold Blk at a
    unfold MapB at b
    rw [a] at b; cases b
  have e2 : r ≠ bk' := by
    rintro rfl
    have a := h1'.blk
    have b := h1.map
    unfold Blk at a
    unfold MapB at b
    rw [a] at b; cases b
  refine ⟨es, c, h1.chg hc (by simp [hb, e1]) (by simp [hr, e2]) fun k hk => ?_, h2⟩
  rcases List.mem_cons.1 hk with rfl | hk
  · exact h1'.box
  · rw [List.mem_singleton.1 hk]; exact h1'.mapb _
theorem _root_.Go.Vlt.Rl.put {es : List VE} {L : List Fl} (h : Rl es L) (k : ByteArray) (b : List UInt8) (s : Nat) (sv : Value) (c : Nat) : Rl (ePut k b s sv c es) (lPut ⟨k, b, s⟩ L) :=
  ⟨srd_put h.srd, fun k' => by rw [aF_put, lk_put, h.same k']⟩
theorem _root_.Go.Vlt.Rl.del {es : List VE} {L : List Fl} (h : Rl es L) (hp : es.Pairwise fun x y => x.name ≠ y.name) (k : ByteArray) : Rl (eDel k es) (lDel k L) :=
  ⟨srd_del h.srd, fun k' => by
    rw [lk_del k k' h.srd, ← h.same k']
    unfold aF
    rw [find_del k k' hp]
    split <;> rfl⟩
/-- The bounds that a right state brings. -/
theorem Good.nums {w : World} {bk r c : Nat} {s : Vst} {es : List VE} (g : Good s) (h : Vt w bk r s.room s.fuse es c) (hR : Rl es s.L) : Go.Vlt.tot es = tl s.L ∧ es.length = s.L.length ∧ Go.Vlt.tot es ≤ 16777216 ∧ es.length ≤ 200 ∧ ∀ e ∈ es, e.b.length ≤ 16777216 := by
  obtain ⟨n1, n2⟩ := hR.nums h.apart
  have h1 := g.room
  have h2 := g.tot
  have h3 := g.len
  refine ⟨n2, n1, by omega, by omega, fun e he => ?_⟩
  obtain ⟨t1, _⟩ := tot_out h.nodup he
  have := tot_nn (es.filter fun x => !(x.born == e.born))
  omega
theorem brn_rng {f : Int} (h : -1 ≤ f ∧ f ≤ 9223372036854775807) : -1 ≤ brn f ∧ brn f ≤ 9223372036854775807 := by unfold brn; split <;> omega
theorem Good.burn {s : Vst} (g : Good s) : Good s.burn := ⟨g.room, brn_rng g.fuse, g.srd, g.names, g.safe, g.tot, g.len⟩
theorem oS_le {L : List Fl} {k : ByteArray} (hs : ∀ f ∈ L, f.safe ≤ f.b.length) : oS k L ≤ (oB k L).length := by
  unfold oS oB
  cases h : lk k L with
  | none => exact Nat.le_refl _
  | some p =>
    obtain ⟨x, hx, _, rfl⟩ := lk_in h
    exact hs x hx
theorem put_good {s : Vst} (g : Good s) (f : Fl) (hn : nmOk f.name = true) (hs : f.safe ≤ f.b.length) (ht : tl s.L - (oB f.name s.L).length + f.b.length ≤ s.room) (hl : lk f.name s.L = none → s.L.length < 200) (fu : Int) (hf : -1 ≤ fu ∧ fu ≤ 9223372036854775807) : Good ⟨s.room, fu, lPut f s.L⟩ := by
  obtain ⟨t1, t2⟩ := tl_put (f := f) g.srd
  refine ⟨g.room, hf, srd_put g.srd, fun x hx => ?_, fun x hx => ?_, by dsimp only; omega, ?_⟩
  · rcases put_mem' hx with rfl | hx
    · exact hn
    · exact g.names x hx
  · rcases put_mem' hx with rfl | hx
    · exact hs
    · exact g.safe x hx
  · dsimp only
    rw [t2]
    have := g.len
    split
    · rename_i h; have := hl h; omega
    · exact this
theorem del_good {s : Vst} (g : Good s) (k : ByteArray) (fu : Int) (hf : -1 ≤ fu ∧ fu ≤ 9223372036854775807) : Good ⟨s.room, fu, lDel k s.L⟩ := by
  have hs := del_sub' k s.L
  have t := tl_del (k := k) (L := s.L)
  have := g.tot
  exact ⟨g.room, hf, srd_del g.srd, fun x hx => g.names x (hs.subset hx), fun x hx => g.safe x (hs.subset hx), by dsimp only; omega, Nat.le_trans hs.length_le g.len⟩
theorem aApp_good {s : Vst} (g : Good s) (k : ByteArray) (bl : List UInt8) : Good (aApp k bl s).2 := by
  unfold aApp
  split
  · exact g
  split
  · exact g.burn
  split
  · exact g.burn
  · rename_i h1 h2 h3
    have h3' : ¬ (s.room - tl s.L < bl.length) ∧ ¬ (lk k s.L = none ∧ 200 ≤ s.L.length) := ⟨fun h => h3 (.inl h), fun h => h3 (.inr h)⟩
    refine put_good g ⟨k, _, _⟩ (by simpa using h1) ?_ ?_ (fun hn => ?_) _ (brn_rng g.fuse)
    · have := oS_le (k := k) g.safe
      simp only [List.length_append]; omega
    · simp only [List.length_append]; omega
    · have : ¬ 200 ≤ s.L.length := fun h => h3'.2 ⟨hn, h⟩
      omega
theorem aSync_good {s : Vst} (g : Good s) (k : ByteArray) : Good (aSync k s).2 := by
  unfold aSync
  split
  · exact g
  split
  · exact g.burn
  · rename_i h1 h2
    refine put_good g ⟨k, _, _⟩ ?_ (Nat.le_refl _) ?_ (fun hn => absurd (.inr hn) h1) _ (brn_rng g.fuse)
    · cases hk : nmOk k with
      | true => rfl
      | false => exact absurd (.inl hk) h1
    · have := g.tot; dsimp only; omega
theorem del_len {k : ByteArray} : ∀ {L : List Fl}, lk k L ≠ none → (lDel k L).length + 1 = L.length
  | [], h => absurd rfl h
  | x :: l, h => by
    unfold lDel
    unfold lk at h
    split
    · rfl
    · rename_i hn
      rw [if_neg fun h => hn h.symm] at h
      rw [List.length_cons, List.length_cons, del_len h]
theorem aRen_good {s : Vst} (g : Good s) (k k2 : ByteArray) : Good (aRen k k2 s).2 := by
  unfold aRen
  split
  · exact g
  split
  · exact g.burn
  · rename_i h1 h2
    have hn : lk k s.L ≠ none := fun h => h1 (.inr (.inl h))
    have g1 := del_good g k (brn s.fuse) (brn_rng g.fuse)
    refine put_good (s := ⟨s.room, brn s.fuse, lDel k s.L⟩) g1 ⟨k2, oB k s.L, oS k s.L⟩ ?_ (oS_le g.safe) ?_ (fun _ => ?_) _ (brn_rng g.fuse)
    · cases hk : nmOk k2 with
      | true => rfl
      | false => exact absurd (.inr (.inr hk)) h1
    · have := g.tot
      have := tl_del (k := k) (L := s.L)
      dsimp only; omega
    · have := del_len hn
      have := g.len
      dsimp only; omega
theorem aArm_good {s : Vst} (g : Good s) (n : Int) (hn : n ≤ 9223372036854775807) : Good (aArm n s).2 := by
  unfold aArm
  split
  · exact g
  · exact ⟨g.room, ⟨by dsimp only; omega, hn⟩, g.srd, g.names, g.safe, g.tot, g.len⟩
theorem cr_le (keep : Int) (f : Fl) (h : f.safe ≤ f.b.length) : (crF keep f).b.length ≤ f.b.length ∧ (crF keep f).safe ≤ (crF keep f).b.length := by
  unfold crF cr crN
  simp only [List.length_take]
  omega
theorem tl_cr (keep : Int) : ∀ {L : List Fl}, (∀ f ∈ L, f.safe ≤ f.b.length) → tl (L.map (crF keep)) ≤ tl L
  | [], _ => Int.le_refl _
  | x :: l, h => by
    have h1 := tl_cr keep (L := l) fun f hf => h f (List.mem_cons_of_mem _ hf)
    have h2 := (cr_le keep x (h x (by simp))).1
    show ((crF keep x).b.length : Int) + tl (l.map (crF keep)) ≤ x.b.length + tl l
    omega
theorem srd_cr (keep : Int) {L : List Fl} (h : Srd L) : Srd (L.map (crF keep)) := List.pairwise_map.2 h
theorem lk_cr (keep : Int) (k : ByteArray) : ∀ L : List Fl, lk k (L.map (crF keep)) = (lk k L).map (cr keep)
  | [] => rfl
  | x :: l => by
    show (if k = x.name then some ((crF keep x).b, (crF keep x).safe) else lk k (l.map (crF keep))) = (if k = x.name then some (x.b, x.safe) else lk k l).map (cr keep)
    rw [lk_cr keep k l]
    split <;> rfl
theorem aCrash_good {s : Vst} (g : Good s) (keep : Int) : Good (aCrash keep s) := by
  have h1 := tl_cr keep g.safe
  have h2 := g.tot
  refine ⟨g.room, ⟨by unfold aCrash; dsimp only; omega, by unfold aCrash; dsimp only; omega⟩, srd_cr keep g.srd, fun x hx => ?_, fun x hx => ?_, by unfold aCrash; dsimp only; omega, by unfold aCrash; dsimp only; rw [List.length_map]; exact g.len⟩
  · obtain ⟨f, hf, rfl⟩ := List.mem_map.1 hx
    exact g.names f hf
  · obtain ⟨f, hf, rfl⟩ := List.mem_map.1 hx
    exact (cr_le keep f (g.safe f hf)).2
/-! ### the contracts -/
def s0 (room : Int) : Vst := ⟨room, -1, []⟩
theorem s0_good {room : Int} (h : 0 ≤ room ∧ room ≤ 16777216) : Good (s0 room) := ⟨h, ⟨by unfold s0; dsimp only; omega, by unfold s0; dsimp only; omega⟩, List.Pairwise.nil, by simp [s0], by simp [s0], by unfold s0 tl; exact h.1, by simp [s0]⟩
theorem new_s (room : Int) (w : World) (h : -9223372036854775808 ≤ room ∧ room ≤ 9223372036854775807) : FnC Try.prog 9 #[.int .i64 room] w fun v w' => ((v = .tuple #[.pointer none, .int .i64 1] ∧ ¬ (0 ≤ room ∧ room ≤ 16777216)) ∨ (0 ≤ room ∧ room ≤ 16777216 ∧ ∃ bk r, w.heap.size ≤ bk ∧ w.heap.size ≤ r ∧ v = .tuple #[.pointer (some ⟨bk, 0, none⟩), .int .i64 0] ∧ VS w' bk r (s0 room))) ∧ Later w w' := by
  refine (new_c room w h).mono ?_
  rintro v w' ⟨h1 | ⟨h1, h2, bk, r, h3, h4, h5, h6⟩, hl⟩
  · exact ⟨.inl h1, hl⟩
  · exact ⟨.inr ⟨h1, h2, bk, r, h3, h4, h5, [], 0, h6, ⟨List.Pairwise.nil, fun _ => rfl⟩⟩, hl⟩
theorem read_s (bk r : Nat) (s : Vst) (k : ByteArray) (w : World) (h : VS w bk r s) (g : Good s) : FnC Try.prog 14 #[.pointer (some ⟨bk, 0, none⟩), .string k] w fun v w' => (∃ x, v = .tuple #[x, .bool (lk k s.L).isSome] ∧ OwnB w' w.heap.size 5 x (oB k s.L)) ∧ Later w w' := by
  obtain ⟨es, c, hV, hR⟩ := h
  obtain ⟨_, _, _, _, n5⟩ := g.nums hV hR
  refine (read_c bk r _ _ es c k w hV (fun e he => Nat.le_trans (n5 e he) (by omega))).mono ?_
  rintro v w' ⟨⟨x, h1, h2⟩, hl⟩
  have hs := hR.same k
  refine ⟨⟨x, ?_, ?_⟩, hl⟩
  · rw [h1, ← hs]; unfold aF; cases vFind k es <;> rfl
  · unfold oB
    rw [← hs]; unfold aF
    cases hf : vFind k es with
    | none => rw [hf] at h2; exact h2
    | some e => rw [hf] at h2; exact h2
theorem free_s (bk r : Nat) (s : Vst) (w : World) (h : VS w bk r s) (g : Good s) : FnC Try.prog 17 #[.pointer (some ⟨bk, 0, none⟩)] w fun v w' => v = .int .i64 (s.room - tl s.L) ∧ Later w w' := by
  obtain ⟨es, c, hV, hR⟩ := h
  obtain ⟨n1, _, n3, _, _⟩ := g.nums hV hR
  refine (free_c bk r _ _ es c w hV g.room (by omega)).mono ?_
  rintro v w' ⟨h1, hl⟩
  exact ⟨by rw [h1, n1], hl⟩
theorem broken_s (bk r : Nat) (s : Vst) (w : World) (h : VS w bk r s) : FnC Try.prog 28 #[.pointer (some ⟨bk, 0, none⟩)] w fun v w' => v = .bool (decide (s.fuse = 0)) ∧ w' = w := by
  obtain ⟨es, c, hV, hR⟩ := h
  exact broken_c bk r _ _ es c w hV
theorem arm_s (bk r : Nat) (s : Vst) (n : Int) (w : World) (h : VS w bk r s) : FnC Try.prog 27 #[.pointer (some ⟨bk, 0, none⟩), .int .i64 n] w fun v w' => v = .int .i64 (aArm n s).1 ∧ VS w' bk r (aArm n s).2 ∧ Chg w w' [bk, r] := by
  obtain ⟨es, c, hV, hR⟩ := h
  refine (arm_c bk r _ _ n es c w hV).mono ?_
  rintro v w' ⟨⟨h1, h2⟩, hc⟩
  unfold aArm
  by_cases hn : n < 0
  · rw [if_pos hn] at h1 h2 ⊢
    exact ⟨h1, ⟨es, c, h2, hR⟩, Chg.more hc (by simp)⟩
  · rw [if_neg hn] at h1 h2 ⊢
    exact ⟨h1, ⟨es, c, h2, hR⟩, Chg.more hc (by simp)⟩
theorem append_s (bk r : Nat) (s : Vst) (k : ByteArray) (bv : Value) (bl : List UInt8) (w : World) (h : VS w bk r s) (g : Good s) (hk : k.size ≤ 1000000000) (hb : Sl w bv (bl.map u8v)) (hbj : ∃ j, inB j bv ∧ j ≠ bk) (hbl : bl.length ≤ 100000000) :
    FnC Try.prog 10 #[.pointer (some ⟨bk, 0, none⟩), .string k, bv] w fun v w' => v = .int .i64 (aApp k bl s).1 ∧ VS w' bk r (aApp k bl s).2 ∧ Chg w w' [bk, r] := by
  obtain ⟨es, c, hV, hR⟩ := h
  obtain ⟨n1, n2, n3, n4, n5⟩ := g.nums hV hR
  obtain ⟨f1, f2, f3⟩ := lk_find hR k
  refine (append_c bk r _ _ es c k bv bl w hV g.room (by omega) g.fuse (named_at k hk) hb hbj hbl (by omega)).mono ?_
  rintro v w' ⟨hA, hc⟩
  unfold aApp
  rcases hA with ⟨h1, h2, h3⟩ | ⟨h1, h2, h3, h4⟩ | ⟨h1, h2, h3, h4, h5⟩ | ⟨h1, h2, h3, h4, h5, sv, h6⟩
  · rw [if_pos h2]
    exact ⟨h1, ⟨es, c, h3, hR⟩, hc⟩
  · rw [if_neg (by simp [h2]), if_pos h3]
    exact ⟨h1, ⟨es, c, h4, hR⟩, hc⟩
  · rw [if_neg (by simp [h2]), if_neg h3, if_pos (by rw [← n1, ← n2, ← f1]; exact h4)]
    exact ⟨h1, ⟨es, c, h5, hR⟩, hc⟩
  · have hno : ¬ (s.room - tl s.L < bl.length ∨ (lk k s.L = none ∧ 200 ≤ s.L.length)) := by
      rw [← n1, ← n2, ← f1]
      rintro (h' | ⟨h', h''⟩)
      · omega
      · have := h5 h'; omega
    rw [if_neg (by simp [h2]), if_neg h3, if_neg hno]
    rw [f2, f3] at h6
    exact ⟨h1, ⟨_, _, h6, hR.put _ _ _ _ _⟩, hc⟩
theorem sync_s (bk r : Nat) (s : Vst) (k : ByteArray) (w : World) (h : VS w bk r s) (g : Good s) (hk : k.size ≤ 1000000000) :
    FnC Try.prog 11 #[.pointer (some ⟨bk, 0, none⟩), .string k] w fun v w' => v = .int .i64 (aSync k s).1 ∧ VS w' bk r (aSync k s).2 ∧ Chg w w' [bk, r] := by
  obtain ⟨es, c, hV, hR⟩ := h
  obtain ⟨n1, n2, n3, n4, n5⟩ := g.nums hV hR
  obtain ⟨f1, f2, f3⟩ := lk_find hR k
  refine (sync_c bk r _ _ es c k w hV g.fuse (named_at k hk) (fun e he => Nat.le_trans (n5 e he) (by omega))).mono ?_
  rintro v w' ⟨hA, hc⟩
  unfold aSync
  rcases hA with ⟨h1, h2, h3⟩ | ⟨h1, h2, h3, h4, h5⟩ | ⟨h1, h2, h3, e, h4, h5⟩
  · rw [if_pos (by rw [← f1]; exact h2)]
    exact ⟨h1, ⟨es, c, h3, hR⟩, hc⟩
  · rw [if_neg (by rw [← f1]; simp [h2, h3]), if_pos h4]
    exact ⟨h1, ⟨es, c, h5, hR⟩, hc⟩
  · have e1 : fB' k es = e.b := by unfold fB'; rw [h4]; rfl
    rw [if_neg (by rw [← f1]; simp [h2, h4]), if_neg h3, ← f2, e1]
    exact ⟨h1, ⟨_, _, h5, hR.put _ _ _ _ _⟩, hc⟩
theorem delete_s (bk r : Nat) (s : Vst) (k : ByteArray) (w : World) (h : VS w bk r s) (g : Good s) (hk : k.size ≤ 1000000000) :
    FnC Try.prog 30 #[.pointer (some ⟨bk, 0, none⟩), .string k] w fun v w' => v = .int .i64 (aDel k s).1 ∧ VS w' bk r (aDel k s).2 ∧ Chg w w' [bk, r] := by
  obtain ⟨es, c, hV, hR⟩ := h
  obtain ⟨f1, f2, f3⟩ := lk_find hR k
  refine (delete_c bk r _ _ es c k w hV g.fuse (named_at k hk)).mono ?_
  rintro v w' ⟨hA, hc⟩
  unfold aDel
  rcases hA with ⟨h1, h2, h3⟩ | ⟨h1, h2, h3, h4, h5⟩ | ⟨h1, h2, h3, h4, h5⟩
  · rw [if_pos (by rw [← f1]; exact h2)]
    exact ⟨h1, ⟨es, c, h3, hR⟩, hc⟩
  · rw [if_neg (by rw [← f1]; simp [h2, h3]), if_pos h4]
    exact ⟨h1, ⟨es, c, h5, hR⟩, hc⟩
  · rw [if_neg (by rw [← f1]; simp [h2, h3]), if_neg h4]
    exact ⟨h1, ⟨_, _, h5, hR.del hV.apart _⟩, hc⟩
theorem rename_s (bk r : Nat) (s : Vst) (k k2 : ByteArray) (w : World) (h : VS w bk r s) (g : Good s) (hk : k.size ≤ 1000000000) (hk2 : k2.size ≤ 1000000000) :
    FnC Try.prog 12 #[.pointer (some ⟨bk, 0, none⟩), .string k, .string k2] w fun v w' => v = .int .i64 (aRen k k2 s).1 ∧ VS w' bk r (aRen k k2 s).2 ∧ Chg w w' [bk, r] := by
  obtain ⟨es, c, hV, hR⟩ := h
  obtain ⟨f1, f2, f3⟩ := lk_find hR k
  refine (rename_c bk r _ _ es c k k2 w hV g.fuse (named_at k hk) (named_at k2 hk2)).mono ?_
  rintro v w' ⟨hA, hc⟩
  unfold aRen
  rcases hA with ⟨h1, h2, h3⟩ | ⟨h1, h2, h3, h4, h5, h6⟩ | ⟨h1, h2, h3, h4, e, h5, h6⟩
  · rw [if_pos (by rw [← f1]; exact h2)]
    exact ⟨h1, ⟨es, c, h3, hR⟩, hc⟩
  · rw [if_neg (by rw [← f1]; simp [h2, h3, h4]), if_pos h5]
    exact ⟨h1, ⟨es, c, h6, hR⟩, hc⟩
  · have e1 : fB' k es = e.b := by unfold fB'; rw [h5]; rfl
    have e2 : fS' k es = e.safe := by unfold fS'; rw [h5]; rfl
    rw [if_neg (by rw [← f1]; simp [h2, h3, h5]), if_neg h4, ← f2, ← f3, e1, e2]
    exact ⟨h1, ⟨_, _, h6, (hR.del hV.apart _).put _ _ _ _ _⟩, hc⟩
theorem crash_s (bk r : Nat) (s : Vst) (keep : Int) (w : World) (h : VS w bk r s) (g : Good s) (hk : -9223372036854775808 ≤ keep ∧ keep ≤ 9223372036854775807) :
    FnC Try.prog 13 #[.pointer (some ⟨bk, 0, none⟩), .int .i64 keep] w fun v w' => (∃ b2 r2, v = .pointer (some ⟨b2, 0, none⟩) ∧ w.heap.size ≤ b2 ∧ w.heap.size ≤ r2 ∧ VS w' b2 r2 (aCrash keep s)) ∧ Later w w' := by
  obtain ⟨es, c, hV, hR⟩ := h
  obtain ⟨n1, n2, n3, n4, n5⟩ := g.nums hV hR
  refine (crash_c bk r _ _ keep es c w hV hk (fun e he => Nat.le_trans (n5 e he) (by omega))).mono ?_
  rintro v w' ⟨⟨b2, r2, es2, c2, h1, h2, h3, h4, h5⟩, hl⟩
  refine ⟨⟨b2, r2, h1, h2, h3, es2, c2, h4, ⟨srd_cr keep g.srd, fun k => ?_⟩⟩, hl⟩
  rw [h5 k, hR.same k]
  exact (lk_cr keep k s.L).symm
end Go.Proofs.Ytmfcnooleejgmaa
end
section
namespace Go.Proofs.Ytmfcnooleejgmaa
open Go.Vc
set_option maxRecDepth 100000
variable (Q : Post) (ds : List Deferred) (σ : Env) (w : World)
/-! 3 columbary/columbarylaw03.VaultSafe (params #[22, 22, 3], results #[(.tmp 6)], 142 slots) -/
def r3_0 : List VOp :=
  [⟨some 6, .assign (.const (.bool false)), 4, none⟩]
def r3_1 : List VOp :=
  [⟨some 23, .call ⟨.value (.func 9), #[(.const (.int .i64 16777216))], #[3]⟩, 25, none⟩,
   mv 22 23 25,
   ext 24 22 0 23,
   ext 25 22 1 24,
   asg 7 24 23,
   asg 8 25 24]
def r3_2 : List VOp :=
  [mv 26 8 24,
   ⟨some 27, .binOp .neq 24 (.tmp 26) (.const (.int .i64 0)) 24, 4, none⟩,
   mv 28 27 4,
   ⟨some 29, .move (.tmp 7), 23, some (28, false)⟩,
   ⟨some 30, .binOp .eql 23 (.tmp 29) (.const (.pointer none)) 23, 4, some (28, false)⟩,
   ⟨some 31, .pick (.tmp 28) (.const (.bool true)) (.tmp 30), 4, none⟩,
   mv 32 31 4,
   ⟨some 33, .move (.tmp 0), 22, some (32, false)⟩,
   ⟨some 34, .call ⟨.builtin .len, #[.tmp 33], #[22]⟩, 3, some (32, false)⟩,
   ⟨some 35, .binOp .gtr 3 (.tmp 34) (.const (.int .i64 200)) 3, 4, some (32, false)⟩,
   ⟨some 36, .pick (.tmp 32) (.const (.bool true)) (.tmp 35), 4, none⟩,
   mv 37 36 4,
   ⟨some 38, .move (.tmp 1), 22, some (37, false)⟩,
   ⟨some 39, .call ⟨.builtin .len, #[.tmp 38], #[22]⟩, 3, some (37, false)⟩,
   ⟨some 40, .binOp .gtr 3 (.tmp 39) (.const (.int .i64 200)) 3, 4, some (37, false)⟩,
   ⟨some 41, .pick (.tmp 37) (.const (.bool true)) (.tmp 40), 4, none⟩]
def r3_3 : List VOp :=
  [mv 42 8 24,
   ⟨some 43, .binOp .eql 24 (.tmp 42) (.const (.int .i64 0)) 24, 4, none⟩,
   mv 44 43 4,
   ⟨some 45, .move (.tmp 7), 23, some (44, true)⟩,
   ⟨some 46, .binOp .neq 23 (.tmp 45) (.const (.pointer none)) 23, 4, some (44, true)⟩,
   ⟨some 47, .pick (.tmp 44) (.tmp 46) (.const (.bool false)), 4, none⟩,
   asg 6 47 4]
def r3_4 : List VOp :=
  [mv 48 7 23,
   mv 49 0 22,
   ⟨some 50, .call { callee := (.value (.func 10)), args := #[(.tmp 48), (.const (.string { data := #[120] })), (.tmp 49)], argTypes := #[23, 9, 22] }, 24, none⟩]
def r3_5 : List VOp :=
  [mv 51 7 23,
   ⟨some 52, .call { callee := (.value (.func 11)), args := #[(.tmp 51), (.const (.string { data := #[120] }))], argTypes := #[23, 9] }, 24, none⟩]
def r3_6 : List VOp :=
  [mv 53 7 23,
   mv 54 1 22,
   ⟨some 55, .call { callee := (.value (.func 10)), args := #[(.tmp 53), (.const (.string { data := #[120] })), (.tmp 54)], argTypes := #[23, 9, 22] }, 24, none⟩]
def r3_7 : List VOp :=
  [mv 56 7 23,
   ⟨some 57, .call { callee := (.value (.func 12)), args := #[(.tmp 56), (.const (.string { data := #[120] })), (.const (.string { data := #[121] }))], argTypes := #[23, 9, 9] }, 24, none⟩]
def r3_8 : List VOp :=
  [mv 58 7 23,
   mv 59 1 22,
   ⟨some 60, .call { callee := (.value (.func 10)), args := #[(.tmp 58), (.const (.string { data := #[122] })), (.tmp 59)], argTypes := #[23, 9, 22] }, 24, none⟩]
def r3_9 : List VOp :=
  [mv 61 7 23,
   mv 62 2 3,
   ⟨some 63, .call ⟨.value (.func 13), #[.tmp 61, .tmp 62], #[23, 3]⟩, 23, none⟩,
   asg 9 63 23]
def r3_10 : List VOp :=
  [mv 65 9 23,
   ⟨some 66, .call { callee := (.value (.func 14)), args := #[(.tmp 65), (.const (.string { data := #[121] }))], argTypes := #[23, 9] }, 31, none⟩,
   mv 64 66 31,
   ext 67 64 0 22,
   ext 68 64 1 4,
   asg 10 67 22,
   asg 11 68 4]
def r3_11 : List VOp :=
  [mv 70 9 23,
   ⟨some 71, .call { callee := (.value (.func 14)), args := #[(.tmp 70), (.const (.string { data := #[122] }))], argTypes := #[23, 9] }, 31, none⟩,
   mv 69 71 31,
   ext 72 69 0 22,
   ext 73 69 1 4,
   asg 12 72 22,
   asg 13 73 4]
def r3_12 : List VOp :=
  [mv 75 9 23,
   ⟨some 76, .call { callee := (.value (.func 14)), args := #[(.tmp 75), (.const (.string { data := #[120] }))], argTypes := #[23, 9] }, 31, none⟩,
   mv 74 76 31,
   ext 77 74 0 22,
   ext 78 74 1 4,
   asg 14 77 22,
   asg 15 78 4]
def r3_13 : List VOp :=
  [mv 79 2 3,
   ⟨some 80, .call ⟨.builtin .max, #[(.tmp 79), (.const (.int .i64 0))], #[3, 3]⟩, 3, none⟩,
   mv 81 1 22,
   ⟨some 82, .call ⟨.builtin .len, #[.tmp 81], #[22]⟩, 3, none⟩,
   ⟨some 83, .call ⟨.builtin .min, #[.tmp 80, .tmp 82], #[3, 3]⟩, 3, none⟩,
   asg 16 83 3]
def r3_14 : List VOp :=
  [mv 84 9 23,
   ⟨some 85, .call ⟨.value (.func 13), #[(.tmp 84), (.const (.int .i64 0))], #[23, 3]⟩, 23, none⟩,
   asg 17 85 23]
def r3_15 : List VOp :=
  [mv 87 17 23,
   ⟨some 88, .call { callee := (.value (.func 14)), args := #[(.tmp 87), (.const (.string { data := #[121] }))], argTypes := #[23, 9] }, 31, none⟩,
   mv 86 88 31,
   ext 89 86 0 22,
   ext 90 86 1 4,
   asg 18 89 22,
   asg 19 90 4]
def r3_16 : List VOp :=
  [mv 92 7 23,
   ⟨some 93, .call { callee := (.value (.func 14)), args := #[(.tmp 92), (.const (.string { data := #[121] }))], argTypes := #[23, 9] }, 31, none⟩,
   mv 91 93 31,
   ext 94 91 0 22,
   ext 95 91 1 4,
   asg 20 94 22,
   asg 21 95 4]
def r3_17 : List VOp :=
  [⟨some 96, .call ⟨.value (.func 15), #[], #[]⟩, 4, none⟩,
   mv 97 96 4,
   ⟨some 98, .move (.tmp 11), 4, some (97, true)⟩,
   ⟨some 99, .pick (.tmp 97) (.tmp 98) (.const (.bool false)), 4, none⟩,
   mv 100 99 4,
   ⟨some 101, .move (.tmp 15), 4, some (100, true)⟩,
   ⟨some 102, .unOp .not 4 (.tmp 101), 4, some (100, true)⟩,
   ⟨some 103, .pick (.tmp 100) (.tmp 102) (.const (.bool false)), 4, none⟩,
   mv 104 103 4,
   ⟨some 105, .move (.tmp 10), 22, some (104, true)⟩,
   ⟨some 106, .convert 22 9 (.tmp 105), 9, some (104, true)⟩,
   ⟨some 107, .move (.tmp 0), 22, some (104, true)⟩,
   ⟨some 108, .convert 22 9 (.tmp 107), 9, some (104, true)⟩,
   ⟨some 109, .move (.tmp 1), 22, some (104, true)⟩,
   ⟨some 110, .move (.tmp 16), 3, some (104, true)⟩,
   ⟨some 111, .slice 22 (.tmp 109) none (some (.tmp 110)) none, 22, some (104, true)⟩,
   ⟨some 112, .convert 22 9 (.tmp 111), 9, some (104, true)⟩,
   ⟨some 113, .binOp .add 9 (.tmp 108) (.tmp 112) 9, 9, some (104, true)⟩,
   ⟨some 114, .binOp .eql 9 (.tmp 106) (.tmp 113) 9, 4, some (104, true)⟩,
   ⟨some 115, .pick (.tmp 104) (.tmp 114) (.const (.bool false)), 4, none⟩,
   mv 116 115 4,
   ⟨some 117, .move (.tmp 12), 22, some (116, true)⟩,
   ⟨some 118, .convert 22 9 (.tmp 117), 9, some (116, true)⟩,
   ⟨some 119, .move (.tmp 1), 22, some (116, true)⟩,
   ⟨some 120, .move (.tmp 16), 3, some (116, true)⟩,
   ⟨some 121, .slice 22 (.tmp 119) none (some (.tmp 120)) none, 22, some (116, true)⟩,
   ⟨some 122, .convert 22 9 (.tmp 121), 9, some (116, true)⟩,
   ⟨some 123, .binOp .eql 9 (.tmp 118) (.tmp 122) 9, 4, some (116, true)⟩,
   ⟨some 124, .pick (.tmp 116) (.tmp 123) (.const (.bool false)), 4, none⟩,
   mv 125 124 4,
   ⟨some 126, .move (.tmp 18), 22, some (125, true)⟩,
   ⟨some 127, .convert 22 9 (.tmp 126), 9, some (125, true)⟩,
   ⟨some 128, .move (.tmp 10), 22, some (125, true)⟩,
   ⟨some 129, .convert 22 9 (.tmp 128), 9, some (125, true)⟩,
   ⟨some 130, .binOp .eql 9 (.tmp 127) (.tmp 129) 9, 4, some (125, true)⟩,
   ⟨some 131, .pick (.tmp 125) (.tmp 130) (.const (.bool false)), 4, none⟩,
   mv 132 131 4,
   ⟨some 133, .move (.tmp 20), 22, some (132, true)⟩,
   ⟨some 134, .convert 22 9 (.tmp 133), 9, some (132, true)⟩,
   ⟨some 135, .move (.tmp 0), 22, some (132, true)⟩,
   ⟨some 136, .convert 22 9 (.tmp 135), 9, some (132, true)⟩,
   ⟨some 137, .move (.tmp 1), 22, some (132, true)⟩,
   ⟨some 138, .convert 22 9 (.tmp 137), 9, some (132, true)⟩,
   ⟨some 139, .binOp .add 9 (.tmp 136) (.tmp 138) 9, 9, some (132, true)⟩,
   ⟨some 140, .binOp .eql 9 (.tmp 134) (.tmp 139) 9, 4, some (132, true)⟩,
   ⟨some 141, .pick (.tmp 132) (.tmp 140) (.const (.bool false)), 4, none⟩,
   asg 6 141 4]
def B3 : VC :=
  (.seq (.region r3_0) (.seq (.region r3_1) (.seq (.seq (.region r3_2) (.cond (.tmp 41) (.seq (.region r3_3) .ret) .skip)) (.seq (.region r3_4) (.seq (.region r3_5) (.seq (.region r3_6) (.seq (.region r3_7) (.seq (.region r3_8) (.seq (.region r3_9) (.seq (.region r3_10) (.seq (.region r3_11) (.seq (.region r3_12) (.seq (.region r3_13) (.seq (.region r3_14) (.seq (.region r3_15) (.seq (.region r3_16) (.seq (.draw r3_17 4) .ret)))))))))))))))))
theorem code3 : ∃ c, Try.f3.body = some c ∧ abs Try.f3.ntmps c = B3 := ⟨_, rfl, by kernel_rfl⟩
theorem hb3 : HasBody Try.prog 3 := hasBody_of Try.func3 (by kernel_rfl)
theorem res3 : Try.f3.results = #[(.tmp 6)] := rfl
theorem enter3 {w : World} {R : Value → World → Prop} (x0 x1 x2 : Value) (h : vc Try.prog B3 (retK Try.prog #[(.tmp 6)] R) [] (initEnv [x0, x1, x2] 0) w) : FnC Try.prog 3 #[x0, x1, x2] w R := by
  obtain ⟨c, h1, h2⟩ := code3
  exact hb3.fn (ret_of_vc mixed Try.func3 h1 (Nat.le_of_ble_eq_true rfl) B3 h2 h)
@[push_cast] theorem vr3_0 : VR r3_0 [⟨some 6, .assign (.const (.bool false)), 4, none⟩] := vR rfl
@[push_cast] theorem vr3_1 : VR r3_1 [⟨some 23, .call ⟨.value (.func 9), #[(.const (.int .i64 16777216))], #[3]⟩, 25, none⟩, ⟨some 22, .move (.tmp 23), 25, none⟩, ⟨some 24, .extract (.tmp 22) 0, 23, none⟩, ⟨some 25, .extract (.tmp 22) 1, 24, none⟩, ⟨some 7, .assign (.tmp 24), 23, none⟩, ⟨some 8, .assign (.tmp 25), 24, none⟩] := vR rfl
@[push_cast] theorem vr3_2 : VR r3_2 [⟨some 26, .move (.tmp 8), 24, none⟩, ⟨some 27, .binOp .neq 24 (.tmp 26) (.const (.int .i64 0)) 24, 4, none⟩, ⟨some 28, .move (.tmp 27), 4, none⟩, ⟨some 29, .move (.tmp 7), 23, some (28, false)⟩, ⟨some 30, .binOp .eql 23 (.tmp 29) (.const (.pointer none)) 23, 4, some (28, false)⟩, ⟨some 31, .pick (.tmp 28) (.const (.bool true)) (.tmp 30), 4, none⟩, ⟨some 32, .move (.tmp 31), 4, none⟩, ⟨some 33, .move (.tmp 0), 22, some (32, false)⟩, ⟨some 34, .call ⟨.builtin .len, #[.tmp 33], #[22]⟩, 3, some (32, false)⟩, ⟨some 35, .binOp .gtr 3 (.tmp 34) (.const (.int .i64 200)) 3, 4, some (32, false)⟩, ⟨some 36, .pick (.tmp 32) (.const (.bool true)) (.tmp 35), 4, none⟩, ⟨some 37, .move (.tmp 36), 4, none⟩, ⟨some 38, .move (.tmp 1), 22, some (37, false)⟩, ⟨some 39, .call ⟨.builtin .len, #[.tmp 38], #[22]⟩, 3, some (37, false)⟩, ⟨some 40, .binOp .gtr 3 (.tmp 39) (.const (.int .i64 200)) 3, 4, some (37, false)⟩, ⟨some 41, .pick (.tmp 37) (.const (.bool true)) (.tmp 40), 4, none⟩] := vR rfl
@[push_cast] theorem vr3_3 : VR r3_3 [⟨some 42, .move (.tmp 8), 24, none⟩, ⟨some 43, .binOp .eql 24 (.tmp 42) (.const (.int .i64 0)) 24, 4, none⟩, ⟨some 44, .move (.tmp 43), 4, none⟩, ⟨some 45, .move (.tmp 7), 23, some (44, true)⟩, ⟨some 46, .binOp .neq 23 (.tmp 45) (.const (.pointer none)) 23, 4, some (44, true)⟩, ⟨some 47, .pick (.tmp 44) (.tmp 46) (.const (.bool false)), 4, none⟩, ⟨some 6, .assign (.tmp 47), 4, none⟩] := vR rfl
@[push_cast] theorem vr3_4 : VR r3_4 [⟨some 48, .move (.tmp 7), 23, none⟩, ⟨some 49, .move (.tmp 0), 22, none⟩, ⟨some 50, .call { callee := (.value (.func 10)), args := #[(.tmp 48), (.const (.string { data := #[120] })), (.tmp 49)], argTypes := #[23, 9, 22] }, 24, none⟩] := vR rfl
@[push_cast] theorem vr3_5 : VR r3_5 [⟨some 51, .move (.tmp 7), 23, none⟩, ⟨some 52, .call { callee := (.value (.func 11)), args := #[(.tmp 51), (.const (.string { data := #[120] }))], argTypes := #[23, 9] }, 24, none⟩] := vR rfl
@[push_cast] theorem vr3_6 : VR r3_6 [⟨some 53, .move (.tmp 7), 23, none⟩, ⟨some 54, .move (.tmp 1), 22, none⟩, ⟨some 55, .call { callee := (.value (.func 10)), args := #[(.tmp 53), (.const (.string { data := #[120] })), (.tmp 54)], argTypes := #[23, 9, 22] }, 24, none⟩] := vR rfl
@[push_cast] theorem vr3_7 : VR r3_7 [⟨some 56, .move (.tmp 7), 23, none⟩, ⟨some 57, .call { callee := (.value (.func 12)), args := #[(.tmp 56), (.const (.string { data := #[120] })), (.const (.string { data := #[121] }))], argTypes := #[23, 9, 9] }, 24, none⟩] := vR rfl
@[push_cast] theorem vr3_8 : VR r3_8 [⟨some 58, .move (.tmp 7), 23, none⟩, ⟨some 59, .move (.tmp 1), 22, none⟩, ⟨some 60, .call { callee := (.value (.func 10)), args := #[(.tmp 58), (.const (.string { data := #[122] })), (.tmp 59)], argTypes := #[23, 9, 22] }, 24, none⟩] := vR rfl
@[push_cast] theorem vr3_9 : VR r3_9 [⟨some 61, .move (.tmp 7), 23, none⟩, ⟨some 62, .move (.tmp 2), 3, none⟩, ⟨some 63, .call ⟨.value (.func 13), #[.tmp 61, .tmp 62], #[23, 3]⟩, 23, none⟩, ⟨some 9, .assign (.tmp 63), 23, none⟩] := vR rfl
@[push_cast] theorem vr3_10 : VR r3_10 [⟨some 65, .move (.tmp 9), 23, none⟩, ⟨some 66, .call { callee := (.value (.func 14)), args := #[(.tmp 65), (.const (.string { data := #[121] }))], argTypes := #[23, 9] }, 31, none⟩, ⟨some 64, .move (.tmp 66), 31, none⟩, ⟨some 67, .extract (.tmp 64) 0, 22, none⟩, ⟨some 68, .extract (.tmp 64) 1, 4, none⟩, ⟨some 10, .assign (.tmp 67), 22, none⟩, ⟨some 11, .assign (.tmp 68), 4, none⟩] := vR rfl
@[push_cast] theorem vr3_11 : VR r3_11 [⟨some 70, .move (.tmp 9), 23, none⟩, ⟨some 71, .call { callee := (.value (.func 14)), args := #[(.tmp 70), (.const (.string { data := #[122] }))], argTypes := #[23, 9] }, 31, none⟩, ⟨some 69, .move (.tmp 71), 31, none⟩, ⟨some 72, .extract (.tmp 69) 0, 22, none⟩, ⟨some 73, .extract (.tmp 69) 1, 4, none⟩, ⟨some 12, .assign (.tmp 72), 22, none⟩, ⟨some 13, .assign (.tmp 73), 4, none⟩] := vR rfl
@[push_cast] theorem vr3_12 : VR r3_12 [⟨some 75, .move (.tmp 9), 23, none⟩, ⟨some 76, .call { callee := (.value (.func 14)), args := #[(.tmp 75), (.const (.string { data := #[120] }))], argTypes := #[23, 9] }, 31, none⟩, ⟨some 74, .move (.tmp 76), 31, none⟩, ⟨some 77, .extract (.tmp 74) 0, 22, none⟩, ⟨some 78, .extract (.tmp 74) 1, 4, none⟩, ⟨some 14, .assign (.tmp 77), 22, none⟩, ⟨some 15, .assign (.tmp 78), 4, none⟩] := vR rfl
@[push_cast] theorem vr3_13 : VR r3_13 [⟨some 79, .move (.tmp 2), 3, none⟩, ⟨some 80, .call ⟨.builtin .max, #[(.tmp 79), (.const (.int .i64 0))], #[3, 3]⟩, 3, none⟩, ⟨some 81, .move (.tmp 1), 22, none⟩, ⟨some 82, .call ⟨.builtin .len, #[.tmp 81], #[22]⟩, 3, none⟩, ⟨some 83, .call ⟨.builtin .min, #[.tmp 80, .tmp 82], #[3, 3]⟩, 3, none⟩, ⟨some 16, .assign (.tmp 83), 3, none⟩] := vR rfl
@[push_cast] theorem vr3_14 : VR r3_14 [⟨some 84, .move (.tmp 9), 23, none⟩, ⟨some 85, .call ⟨.value (.func 13), #[(.tmp 84), (.const (.int .i64 0))], #[23, 3]⟩, 23, none⟩, ⟨some 17, .assign (.tmp 85), 23, none⟩] := vR rfl
@[push_cast] theorem vr3_15 : VR r3_15 [⟨some 87, .move (.tmp 17), 23, none⟩, ⟨some 88, .call { callee := (.value (.func 14)), args := #[(.tmp 87), (.const (.string { data := #[121] }))], argTypes := #[23, 9] }, 31, none⟩, ⟨some 86, .move (.tmp 88), 31, none⟩, ⟨some 89, .extract (.tmp 86) 0, 22, none⟩, ⟨some 90, .extract (.tmp 86) 1, 4, none⟩, ⟨some 18, .assign (.tmp 89), 22, none⟩, ⟨some 19, .assign (.tmp 90), 4, none⟩] := vR rfl
@[push_cast] theorem vr3_16 : VR r3_16 [⟨some 92, .move (.tmp 7), 23, none⟩, ⟨some 93, .call { callee := (.value (.func 14)), args := #[(.tmp 92), (.const (.string { data := #[121] }))], argTypes := #[23, 9] }, 31, none⟩, ⟨some 91, .move (.tmp 93), 31, none⟩, ⟨some 94, .extract (.tmp 91) 0, 22, none⟩, ⟨some 95, .extract (.tmp 91) 1, 4, none⟩, ⟨some 20, .assign (.tmp 94), 22, none⟩, ⟨some 21, .assign (.tmp 95), 4, none⟩] := vR rfl
@[push_cast] theorem vr3_17 : vc Try.prog (.draw r3_17 4) Q ds σ w = drawn Try.prog [(⟨some 96, .call ⟨.value (.func 15), #[], #[]⟩, 4, none⟩, []), (⟨some 97, .move (.tmp 96), 4, none⟩, [96]), (⟨some 98, .move (.tmp 11), 4, some (97, true)⟩, [11, 97]), (⟨some 99, .pick (.tmp 97) (.tmp 98) (.const (.bool false)), 4, none⟩, [97, 98]), (⟨some 100, .move (.tmp 99), 4, none⟩, [99]), (⟨some 101, .move (.tmp 15), 4, some (100, true)⟩, [15, 100]), (⟨some 102, .unOp .not 4 (.tmp 101), 4, some (100, true)⟩, [101, 100]), (⟨some 103, .pick (.tmp 100) (.tmp 102) (.const (.bool false)), 4, none⟩, [100, 102]), (⟨some 104, .move (.tmp 103), 4, none⟩, [103]), (⟨some 105, .move (.tmp 10), 22, some (104, true)⟩, [10, 104]), (⟨some 106, .convert 22 9 (.tmp 105), 9, some (104, true)⟩, [105, 104]), (⟨some 107, .move (.tmp 0), 22, some (104, true)⟩, [0, 104]), (⟨some 108, .convert 22 9 (.tmp 107), 9, some (104, true)⟩, [107, 104]), (⟨some 109, .move (.tmp 1), 22, some (104, true)⟩, [1, 104]), (⟨some 110, .move (.tmp 16), 3, some (104, true)⟩, [16, 104]), (⟨some 111, .slice 22 (.tmp 109) none (some (.tmp 110)) none, 22, some (104, true)⟩, [109, 110, 104]), (⟨some 112, .convert 22 9 (.tmp 111), 9, some (104, true)⟩, [111, 104]), (⟨some 113, .binOp .add 9 (.tmp 108) (.tmp 112) 9, 9, some (104, true)⟩, [108, 112, 104]), (⟨some 114, .binOp .eql 9 (.tmp 106) (.tmp 113) 9, 4, some (104, true)⟩, [106, 113, 104]), (⟨some 115, .pick (.tmp 104) (.tmp 114) (.const (.bool false)), 4, none⟩, [104, 114]), (⟨some 116, .move (.tmp 115), 4, none⟩, [115]), (⟨some 117, .move (.tmp 12), 22, some (116, true)⟩, [12, 116]), (⟨some 118, .convert 22 9 (.tmp 117), 9, some (116, true)⟩, [117, 116]), (⟨some 119, .move (.tmp 1), 22, some (116, true)⟩, [1, 116]), (⟨some 120, .move (.tmp 16), 3, some (116, true)⟩, [16, 116]), (⟨some 121, .slice 22 (.tmp 119) none (some (.tmp 120)) none, 22, some (116, true)⟩, [119, 120, 116]), (⟨some 122, .convert 22 9 (.tmp 121), 9, some (116, true)⟩, [121, 116]), (⟨some 123, .binOp .eql 9 (.tmp 118) (.tmp 122) 9, 4, some (116, true)⟩, [118, 122, 116]), (⟨some 124, .pick (.tmp 116) (.tmp 123) (.const (.bool false)), 4, none⟩, [116, 123]), (⟨some 125, .move (.tmp 124), 4, none⟩, [124]), (⟨some 126, .move (.tmp 18), 22, some (125, true)⟩, [18, 125]), (⟨some 127, .convert 22 9 (.tmp 126), 9, some (125, true)⟩, [126, 125]), (⟨some 128, .move (.tmp 10), 22, some (125, true)⟩, [10, 125]), (⟨some 129, .convert 22 9 (.tmp 128), 9, some (125, true)⟩, [128, 125]), (⟨some 130, .binOp .eql 9 (.tmp 127) (.tmp 129) 9, 4, some (125, true)⟩, [127, 129, 125]), (⟨some 131, .pick (.tmp 125) (.tmp 130) (.const (.bool false)), 4, none⟩, [125, 130]), (⟨some 132, .move (.tmp 131), 4, none⟩, [131]), (⟨some 133, .move (.tmp 20), 22, some (132, true)⟩, [20, 132]), (⟨some 134, .convert 22 9 (.tmp 133), 9, some (132, true)⟩, [133, 132]), (⟨some 135, .move (.tmp 0), 22, some (132, true)⟩, [0, 132]), (⟨some 136, .convert 22 9 (.tmp 135), 9, some (132, true)⟩, [135, 132]), (⟨some 137, .move (.tmp 1), 22, some (132, true)⟩, [1, 132]), (⟨some 138, .convert 22 9 (.tmp 137), 9, some (132, true)⟩, [137, 132]), (⟨some 139, .binOp .add 9 (.tmp 136) (.tmp 138) 9, 9, some (132, true)⟩, [136, 138, 132]), (⟨some 140, .binOp .eql 9 (.tmp 134) (.tmp 139) 9, 4, some (132, true)⟩, [134, 139, 132]), (⟨some 141, .pick (.tmp 132) (.tmp 140) (.const (.bool false)), 4, none⟩, [132, 140]), (⟨some 6, .assign (.tmp 141), 4, none⟩, [141])] 4 (Q .normal ds) σ w := mk_eq rfl
/-! 7 columbary/columbarylaw03.VaultNil (params #[37], results #[(.tmp 2)], 94 slots) -/
def r7_0 : List VOp :=
  [⟨some 1, .box 37 (.tmp 0), 0, none⟩,
   ⟨some 2, .assign (.const (.bool false)), 4, none⟩]
def r7_1 : List VOp :=
  [lda 7 37 1,
   ⟨some 8, .call ⟨.value (.func 16), #[.tmp 7], #[37]⟩, 4, none⟩,
   asg 3 8 4]
def r7_2 : List VOp :=
  [mv 9 3 4,
   ⟨some 10, .unOp .not 4 (.tmp 9), 4, none⟩]
def r7_3 : List VOp :=
  [⟨some 11, .call ⟨.value (.func 15), #[], #[]⟩, 4, none⟩,
   asg 2 11 4]
def r7_4 : List VOp :=
  [⟨some 4, .assign (.const (.pointer none)), 23, none⟩]
def r7_5 : List VOp :=
  [mv 13 4 23,
   fad 14 37 1 2,
   lda 15 9 14,
   ⟨some 16, .call ⟨.value (.func 14), #[.tmp 13, .tmp 15], #[23, 9]⟩, 31, none⟩,
   mv 12 16 31,
   ext 17 12 0 22,
   ext 18 12 1 4,
   asg 5 17 22,
   asg 6 18 4]
def r7_6 : List VOp :=
  [⟨some 19, .call ⟨.value (.func 15), #[], #[]⟩, 4, none⟩,
   mv 20 19 4,
   ⟨some 21, .move (.tmp 4), 23, some (20, true)⟩,
   ⟨some 22, .fieldAddr 37 (.tmp 1) 2, 0, some (20, true)⟩,
   ⟨some 23, .load 9 (.tmp 22), 9, some (20, true)⟩,
   ⟨some 24, .fieldAddr 37 (.tmp 1) 4, 0, some (20, true)⟩,
   ⟨some 25, .load 22 (.tmp 24), 22, some (20, true)⟩,
   ⟨some 26, .call ⟨.value (.func 10), #[.tmp 21, .tmp 23, .tmp 25], #[23, 9, 22]⟩, 24, some (20, true)⟩,
   ⟨some 27, .binOp .eql 24 (.tmp 26) (.const (.int .i64 1)) 24, 4, some (20, true)⟩,
   ⟨some 28, .pick (.tmp 20) (.tmp 27) (.const (.bool false)), 4, none⟩,
   mv 29 28 4,
   ⟨some 30, .move (.tmp 4), 23, some (29, true)⟩,
   ⟨some 31, .fieldAddr 37 (.tmp 1) 2, 0, some (29, true)⟩,
   ⟨some 32, .load 9 (.tmp 31), 9, some (29, true)⟩,
   ⟨some 33, .call ⟨.value (.func 11), #[.tmp 30, .tmp 32], #[23, 9]⟩, 24, some (29, true)⟩,
   ⟨some 34, .binOp .eql 24 (.tmp 33) (.const (.int .i64 1)) 24, 4, some (29, true)⟩,
   ⟨some 35, .pick (.tmp 29) (.tmp 34) (.const (.bool false)), 4, none⟩,
   mv 36 35 4,
   ⟨some 37, .move (.tmp 4), 23, some (36, true)⟩,
   ⟨some 38, .fieldAddr 37 (.tmp 1) 2, 0, some (36, true)⟩,
   ⟨some 39, .load 9 (.tmp 38), 9, some (36, true)⟩,
   ⟨some 40, .fieldAddr 37 (.tmp 1) 3, 0, some (36, true)⟩,
   ⟨some 41, .load 9 (.tmp 40), 9, some (36, true)⟩,
   ⟨some 42, .call ⟨.value (.func 12), #[.tmp 37, .tmp 39, .tmp 41], #[23, 9, 9]⟩, 24, some (36, true)⟩,
   ⟨some 43, .binOp .eql 24 (.tmp 42) (.const (.int .i64 1)) 24, 4, some (36, true)⟩,
   ⟨some 44, .pick (.tmp 36) (.tmp 43) (.const (.bool false)), 4, none⟩,
   mv 45 44 4,
   ⟨some 46, .move (.tmp 4), 23, some (45, true)⟩,
   ⟨some 47, .fieldAddr 37 (.tmp 1) 2, 0, some (45, true)⟩,
   ⟨some 48, .load 9 (.tmp 47), 9, some (45, true)⟩,
   ⟨some 49, .call ⟨.value (.func 30), #[.tmp 46, .tmp 48], #[23, 9]⟩, 24, some (45, true)⟩,
   ⟨some 50, .binOp .eql 24 (.tmp 49) (.const (.int .i64 1)) 24, 4, some (45, true)⟩,
   ⟨some 51, .pick (.tmp 45) (.tmp 50) (.const (.bool false)), 4, none⟩,
   mv 52 51 4,
   ⟨some 53, .move (.tmp 4), 23, some (52, true)⟩,
   ⟨some 54, .call ⟨.value (.func 27), #[(.tmp 53), (.const (.int .i64 1))], #[23, 3]⟩, 24, some (52, true)⟩,
   ⟨some 55, .binOp .eql 24 (.tmp 54) (.const (.int .i64 1)) 24, 4, some (52, true)⟩,
   ⟨some 56, .pick (.tmp 52) (.tmp 55) (.const (.bool false)), 4, none⟩,
   mv 57 56 4,
   ⟨some 58, .move (.tmp 5), 22, some (57, true)⟩,
   ⟨some 59, .call ⟨.builtin .len, #[.tmp 58], #[22]⟩, 3, some (57, true)⟩,
   ⟨some 60, .binOp .eql 3 (.tmp 59) (.const (.int .i64 0)) 3, 4, some (57, true)⟩,
   ⟨some 61, .pick (.tmp 57) (.tmp 60) (.const (.bool false)), 4, none⟩,
   mv 62 61 4,
   ⟨some 63, .move (.tmp 6), 4, some (62, true)⟩,
   ⟨some 64, .unOp .not 4 (.tmp 63), 4, some (62, true)⟩,
   ⟨some 65, .pick (.tmp 62) (.tmp 64) (.const (.bool false)), 4, none⟩,
   mv 66 65 4,
   ⟨some 67, .move (.tmp 4), 23, some (66, true)⟩,
   ⟨some 68, .call ⟨.value (.func 19), #[.tmp 67], #[23]⟩, 40, some (66, true)⟩,
   ⟨some 69, .call ⟨.builtin .len, #[.tmp 68], #[40]⟩, 3, some (66, true)⟩,
   ⟨some 70, .binOp .eql 3 (.tmp 69) (.const (.int .i64 0)) 3, 4, some (66, true)⟩,
   ⟨some 71, .pick (.tmp 66) (.tmp 70) (.const (.bool false)), 4, none⟩,
   mv 72 71 4,
   ⟨some 73, .move (.tmp 4), 23, some (72, true)⟩,
   ⟨some 74, .call ⟨.value (.func 17), #[.tmp 73], #[23]⟩, 3, some (72, true)⟩,
   ⟨some 75, .binOp .eql 3 (.tmp 74) (.const (.int .i64 0)) 3, 4, some (72, true)⟩,
   ⟨some 76, .pick (.tmp 72) (.tmp 75) (.const (.bool false)), 4, none⟩,
   mv 77 76 4,
   ⟨some 78, .move (.tmp 4), 23, some (77, true)⟩,
   ⟨some 79, .call ⟨.value (.func 28), #[.tmp 78], #[23]⟩, 4, some (77, true)⟩,
   ⟨some 80, .unOp .not 4 (.tmp 79), 4, some (77, true)⟩,
   ⟨some 81, .pick (.tmp 77) (.tmp 80) (.const (.bool false)), 4, none⟩,
   mv 82 81 4,
   ⟨some 83, .move (.tmp 4), 23, some (82, true)⟩,
   ⟨some 84, .fieldAddr 37 (.tmp 1) 1, 0, some (82, true)⟩,
   ⟨some 85, .load 3 (.tmp 84), 3, some (82, true)⟩,
   ⟨some 86, .call ⟨.value (.func 13), #[.tmp 83, .tmp 85], #[23, 3]⟩, 23, some (82, true)⟩,
   ⟨some 87, .binOp .eql 23 (.tmp 86) (.const (.pointer none)) 23, 4, some (82, true)⟩,
   ⟨some 88, .pick (.tmp 82) (.tmp 87) (.const (.bool false)), 4, none⟩,
   mv 89 88 4,
   ⟨some 90, .move (.tmp 4), 23, some (89, true)⟩,
   ⟨some 91, .call ⟨.value (.func 23), #[.tmp 90], #[23]⟩, 23, some (89, true)⟩,
   ⟨some 92, .binOp .eql 23 (.tmp 91) (.const (.pointer none)) 23, 4, some (89, true)⟩,
   ⟨some 93, .pick (.tmp 89) (.tmp 92) (.const (.bool false)), 4, none⟩,
   asg 2 93 4]
def B7 : VC :=
  (.seq (.region r7_0) (.seq (.region r7_1) (.seq (.seq (.region r7_2) (.cond (.tmp 10) (.seq (.region r7_3) .ret) .skip)) (.seq (.region r7_4) (.seq (.region r7_5) (.seq (.region r7_6) .ret))))))
theorem code7 : ∃ c, Try.f7.body = some c ∧ abs Try.f7.ntmps c = B7 := ⟨_, rfl, by kernel_rfl⟩
theorem hb7 : HasBody Try.prog 7 := hasBody_of Try.func7 (by kernel_rfl)
theorem res7 : Try.f7.results = #[(.tmp 2)] := rfl
theorem enter7 {w : World} {R : Value → World → Prop} (x0 : Value) (h : vc Try.prog B7 (retK Try.prog #[(.tmp 2)] R) [] (initEnv [x0] 0) w) : FnC Try.prog 7 #[x0] w R := by
  obtain ⟨c, h1, h2⟩ := code7
  exact hb7.fn (ret_of_vc mixed Try.func7 h1 (Nat.le_of_ble_eq_true rfl) B7 h2 h)
@[push_cast] theorem vr7_0 : VR r7_0 [⟨some 1, .box 37 (.tmp 0), 0, none⟩, ⟨some 2, .assign (.const (.bool false)), 4, none⟩] := vR rfl
@[push_cast] theorem vr7_1 : VR r7_1 [⟨some 7, .load 37 (.tmp 1), 37, none⟩, ⟨some 8, .call ⟨.value (.func 16), #[.tmp 7], #[37]⟩, 4, none⟩, ⟨some 3, .assign (.tmp 8), 4, none⟩] := vR rfl
@[push_cast] theorem vr7_2 : VR r7_2 [⟨some 9, .move (.tmp 3), 4, none⟩, ⟨some 10, .unOp .not 4 (.tmp 9), 4, none⟩] := vR rfl
@[push_cast] theorem vr7_3 : VR r7_3 [⟨some 11, .call ⟨.value (.func 15), #[], #[]⟩, 4, none⟩, ⟨some 2, .assign (.tmp 11), 4, none⟩] := vR rfl
@[push_cast] theorem vr7_4 : VR r7_4 [⟨some 4, .assign (.const (.pointer none)), 23, none⟩] := vR rfl
@[push_cast] theorem vr7_5 : VR r7_5 [⟨some 13, .move (.tmp 4), 23, none⟩, ⟨some 14, .fieldAddr 37 (.tmp 1) 2, 0, none⟩, ⟨some 15, .load 9 (.tmp 14), 9, none⟩, ⟨some 16, .call ⟨.value (.func 14), #[.tmp 13, .tmp 15], #[23, 9]⟩, 31, none⟩, ⟨some 12, .move (.tmp 16), 31, none⟩, ⟨some 17, .extract (.tmp 12) 0, 22, none⟩, ⟨some 18, .extract (.tmp 12) 1, 4, none⟩, ⟨some 5, .assign (.tmp 17), 22, none⟩, ⟨some 6, .assign (.tmp 18), 4, none⟩] := vR rfl
@[push_cast] theorem vr7_6 : VR r7_6 [⟨some 19, .call ⟨.value (.func 15), #[], #[]⟩, 4, none⟩, ⟨some 20, .move (.tmp 19), 4, none⟩, ⟨some 21, .move (.tmp 4), 23, some (20, true)⟩, ⟨some 22, .fieldAddr 37 (.tmp 1) 2, 0, some (20, true)⟩, ⟨some 23, .load 9 (.tmp 22), 9, some (20, true)⟩, ⟨some 24, .fieldAddr 37 (.tmp 1) 4, 0, some (20, true)⟩, ⟨some 25, .load 22 (.tmp 24), 22, some (20, true)⟩, ⟨some 26, .call ⟨.value (.func 10), #[.tmp 21, .tmp 23, .tmp 25], #[23, 9, 22]⟩, 24, some (20, true)⟩, ⟨some 27, .binOp .eql 24 (.tmp 26) (.const (.int .i64 1)) 24, 4, some (20, true)⟩, ⟨some 28, .pick (.tmp 20) (.tmp 27) (.const (.bool false)), 4, none⟩, ⟨some 29, .move (.tmp 28), 4, none⟩, ⟨some 30, .move (.tmp 4), 23, some (29, true)⟩, ⟨some 31, .fieldAddr 37 (.tmp 1) 2, 0, some (29, true)⟩, ⟨some 32, .load 9 (.tmp 31), 9, some (29, true)⟩, ⟨some 33, .call ⟨.value (.func 11), #[.tmp 30, .tmp 32], #[23, 9]⟩, 24, some (29, true)⟩, ⟨some 34, .binOp .eql 24 (.tmp 33) (.const (.int .i64 1)) 24, 4, some (29, true)⟩, ⟨some 35, .pick (.tmp 29) (.tmp 34) (.const (.bool false)), 4, none⟩, ⟨some 36, .move (.tmp 35), 4, none⟩, ⟨some 37, .move (.tmp 4), 23, some (36, true)⟩, ⟨some 38, .fieldAddr 37 (.tmp 1) 2, 0, some (36, true)⟩, ⟨some 39, .load 9 (.tmp 38), 9, some (36, true)⟩, ⟨some 40, .fieldAddr 37 (.tmp 1) 3, 0, some (36, true)⟩, ⟨some 41, .load 9 (.tmp 40), 9, some (36, true)⟩, ⟨some 42, .call ⟨.value (.func 12), #[.tmp 37, .tmp 39, .tmp 41], #[23, 9, 9]⟩, 24, some (36, true)⟩, ⟨some 43, .binOp .eql 24 (.tmp 42) (.const (.int .i64 1)) 24, 4, some (36, true)⟩, ⟨some 44, .pick (.tmp 36) (.tmp 43) (.const (.bool false)), 4, none⟩, ⟨some 45, .move (.tmp 44), 4, none⟩, ⟨some 46, .move (.tmp 4), 23, some (45, true)⟩, ⟨some 47, .fieldAddr 37 (.tmp 1) 2, 0, some (45, true)⟩, ⟨some 48, .load 9 (.tmp 47), 9, some (45, true)⟩, ⟨some 49, .call ⟨.value (.func 30), #[.tmp 46, .tmp 48], #[23, 9]⟩, 24, some (45, true)⟩, ⟨some 50, .binOp .eql 24 (.tmp 49) (.const (.int .i64 1)) 24, 4, some (45, true)⟩, ⟨some 51, .pick (.tmp 45) (.tmp 50) (.const (.bool false)), 4, none⟩, ⟨some 52, .move (.tmp 51), 4, none⟩, ⟨some 53, .move (.tmp 4), 23, some (52, true)⟩, ⟨some 54, .call ⟨.value (.func 27), #[(.tmp 53), (.const (.int .i64 1))], #[23, 3]⟩, 24, some (52, true)⟩, ⟨some 55, .binOp .eql 24 (.tmp 54) (.const (.int .i64 1)) 24, 4, some (52, true)⟩, ⟨some 56, .pick (.tmp 52) (.tmp 55) (.const (.bool false)), 4, none⟩, ⟨some 57, .move (.tmp 56), 4, none⟩, ⟨some 58, .move (.tmp 5), 22, some (57, true)⟩, ⟨some 59, .call ⟨.builtin .len, #[.tmp 58], #[22]⟩, 3, some (57, true)⟩, ⟨some 60, .binOp .eql 3 (.tmp 59) (.const (.int .i64 0)) 3, 4, some (57, true)⟩, ⟨some 61, .pick (.tmp 57) (.tmp 60) (.const (.bool false)), 4, none⟩, ⟨some 62, .move (.tmp 61), 4, none⟩, ⟨some 63, .move (.tmp 6), 4, some (62, true)⟩, ⟨some 64, .unOp .not 4 (.tmp 63), 4, some (62, true)⟩, ⟨some 65, .pick (.tmp 62) (.tmp 64) (.const (.bool false)), 4, none⟩, ⟨some 66, .move (.tmp 65), 4, none⟩, ⟨some 67, .move (.tmp 4), 23, some (66, true)⟩, ⟨some 68, .call ⟨.value (.func 19), #[.tmp 67], #[23]⟩, 40, some (66, true)⟩, ⟨some 69, .call ⟨.builtin .len, #[.tmp 68], #[40]⟩, 3, some (66, true)⟩, ⟨some 70, .binOp .eql 3 (.tmp 69) (.const (.int .i64 0)) 3, 4, some (66, true)⟩, ⟨some 71, .pick (.tmp 66) (.tmp 70) (.const (.bool false)), 4, none⟩, ⟨some 72, .move (.tmp 71), 4, none⟩, ⟨some 73, .move (.tmp 4), 23, some (72, true)⟩, ⟨some 74, .call ⟨.value (.func 17), #[.tmp 73], #[23]⟩, 3, some (72, true)⟩, ⟨some 75, .binOp .eql 3 (.tmp 74) (.const (.int .i64 0)) 3, 4, some (72, true)⟩, ⟨some 76, .pick (.tmp 72) (.tmp 75) (.const (.bool false)), 4, none⟩, ⟨some 77, .move (.tmp 76), 4, none⟩, ⟨some 78, .move (.tmp 4), 23, some (77, true)⟩, ⟨some 79, .call ⟨.value (.func 28), #[.tmp 78], #[23]⟩, 4, some (77, true)⟩, ⟨some 80, .unOp .not 4 (.tmp 79), 4, some (77, true)⟩, ⟨some 81, .pick (.tmp 77) (.tmp 80) (.const (.bool false)), 4, none⟩, ⟨some 82, .move (.tmp 81), 4, none⟩, ⟨some 83, .move (.tmp 4), 23, some (82, true)⟩, ⟨some 84, .fieldAddr 37 (.tmp 1) 1, 0, some (82, true)⟩, ⟨some 85, .load 3 (.tmp 84), 3, some (82, true)⟩, ⟨some 86, .call ⟨.value (.func 13), #[.tmp 83, .tmp 85], #[23, 3]⟩, 23, some (82, true)⟩, ⟨some 87, .binOp .eql 23 (.tmp 86) (.const (.pointer none)) 23, 4, some (82, true)⟩, ⟨some 88, .pick (.tmp 82) (.tmp 87) (.const (.bool false)), 4, none⟩, ⟨some 89, .move (.tmp 88), 4, none⟩, ⟨some 90, .move (.tmp 4), 23, some (89, true)⟩, ⟨some 91, .call ⟨.value (.func 23), #[.tmp 90], #[23]⟩, 23, some (89, true)⟩, ⟨some 92, .binOp .eql 23 (.tmp 91) (.const (.pointer none)) 23, 4, some (89, true)⟩, ⟨some 93, .pick (.tmp 89) (.tmp 92) (.const (.bool false)), 4, none⟩, ⟨some 2, .assign (.tmp 93), 4, none⟩] := vR rfl
end Go.Proofs.Ytmfcnooleejgmaa
end
section
set_option linter.unusedSimpArgs false
namespace Go.Proofs.Ytmfcnooleejgmaa
open Go.Vc Go.Vlt Go.Key
set_option maxRecDepth 100000
abbrev kA : ByteArray := ⟨#[97]⟩
theorem inB_new {w : World} {k n c : Nat} (hk : k < w.heap.size) : ∃ j, inB j (.slice (some ⟨w.heap.size, 0, none⟩) n c) ∧ j ≠ k := ⟨w.heap.size, .inr rfl, by omega⟩
theorem chg_later {w w1 w2 : World} {bk r : Nat} (h : Later w w1) (c : Chg w1 w2 [bk, r]) (hb : w.heap.size ≤ bk) (hr : w.heap.size ≤ r) : Later w w2 :=
  Chg.later h c fun k hk => by
    rcases List.mem_cons.1 hk with rfl | hk
    · exact hb
    · rw [List.mem_singleton.1 hk]; exact hr
theorem alive_c (w : World) : FnC Try.prog 15 #[] w fun v w' => v = .bool true ∧ Later w w' := by
  refine enter15 ?_
  unfold B15
  repeat' (first | (simp (disch := omega) only [push_cast, ↓reduceIte, zA, zG, zB, zH, zI, zC, zJ, zK, zL, zD, zE, zF, zM, zN, zO, zP, zQ, reduceCtorEq, not_true_eq_false, not_false_eq_true]) | (first | refine vIfE_of ?_ ?_ | refine vIfD_of ?_ ?_ | refine vIfQ_of ?_ ?_ | refine vIfV_of ?_ ?_) <;> intro _ | refine And.intro (by omega) ?_ | refine drawn_q ?_ | fail)
  refine (new_s 20 w (by omega)).mono ?_
  rintro _ w1 ⟨⟨_, hno⟩ | ⟨_, _, bk, r, hb, hr, rfl, V1⟩, l1⟩
  · exact absurd (by omega) hno
  have G1 : Good (s0 20) := s0_good (by omega)
  repeat' (first | (simp (disch := omega) only [push_cast, ↓reduceIte, zA, zG, zB, zH, zI, zC, zJ, zK, zL, zD, zE, zF, zM, zN, zO, zP, zQ, reduceCtorEq, not_true_eq_false, not_false_eq_true]) | (first | refine vIfE_of ?_ ?_ | refine vIfD_of ?_ ?_ | refine vIfQ_of ?_ ?_ | refine vIfV_of ?_ ?_) <;> intro _ | refine And.intro (by omega) ?_ | refine drawn_q ?_ | fail)
  refine vConv_const Try.underlying22 Try.underlying5 ?_
  have q1 : Later w1 (w1.alloc (.cells #[.int .u8 115, .int .u8 97, .int .u8 102, .int .u8 101] 5 (4, 5))) := later_alloc _ _
  have x1 : Sl (w1.alloc (.cells #[.int .u8 115, .int .u8 97, .int .u8 102, .int .u8 101] 5 (4, 5))) (.slice (some ⟨w1.heap.size, 0, none⟩) 4 4) (([115, 97, 102, 101] : List UInt8).map u8v) := Sl.litM w1 _ _ _ (by unfold maxLen; simp)
  have n1 := inB_new (n := 4) (c := 4) V1.lt.1
  generalize w1.alloc (.cells #[.int .u8 115, .int .u8 97, .int .u8 102, .int .u8 101] 5 (4, 5)) = w2 at *
  repeat' (first | (simp (disch := omega) only [push_cast, ↓reduceIte, zA, zG, zB, zH, zI, zC, zJ, zK, zL, zD, zE, zF, zM, zN, zO, zP, zQ, reduceCtorEq, not_true_eq_false, not_false_eq_true]) | (first | refine vIfE_of ?_ ?_ | refine vIfD_of ?_ ?_ | refine vIfQ_of ?_ ?_ | refine vIfV_of ?_ ?_) <;> intro _ | refine And.intro (by omega) ?_ | refine drawn_q ?_ | fail)
  refine (append_s bk r (s0 20) kA _ [115, 97, 102, 101] w2 (V1.later q1) G1 (by decide) x1 n1 (by simp)).mono ?_
  rintro _ w3 ⟨rfl, V3, c3⟩
  have G3 := aApp_good G1 kA [115, 97, 102, 101]
  have e3 : aApp kA [115, 97, 102, 101] (s0 20) = (0, ⟨20, -1, [⟨kA, [115, 97, 102, 101], 0⟩]⟩) := by kernel_rfl
  rw [e3] at V3 G3 ⊢
  dsimp only at V3 G3
  have l3 := chg_later (l1.trans q1) c3 hb hr
  repeat' (first | (simp (disch := omega) only [push_cast, ↓reduceIte, zA, zG, zB, zH, zI, zC, zJ, zK, zL, zD, zE, zF, zM, zN, zO, zP, zQ, reduceCtorEq, not_true_eq_false, not_false_eq_true]) | (first | refine vIfE_of ?_ ?_ | refine vIfD_of ?_ ?_ | refine vIfQ_of ?_ ?_ | refine vIfV_of ?_ ?_) <;> intro _ | refine And.intro (by omega) ?_ | refine drawn_q ?_ | fail)
  refine (sync_s bk r _ kA w3 V3 G3 (by decide)).mono ?_
  rintro _ w4 ⟨rfl, V4, c4⟩
  have G4 := aSync_good G3 kA
  have e4 : aSync kA ⟨20, -1, [⟨kA, [115, 97, 102, 101], 0⟩]⟩ = (0, ⟨20, -1, [⟨kA, [115, 97, 102, 101], 4⟩]⟩) := by kernel_rfl
  rw [e4] at V4 G4 ⊢
  dsimp only at V4 G4
  have l4 := chg_later l3 c4 hb hr
  repeat' (first | (simp (disch := omega) only [push_cast, ↓reduceIte, zA, zG, zB, zH, zI, zC, zJ, zK, zL, zD, zE, zF, zM, zN, zO, zP, zQ, reduceCtorEq, not_true_eq_false, not_false_eq_true]) | (first | refine vIfE_of ?_ ?_ | refine vIfD_of ?_ ?_ | refine vIfQ_of ?_ ?_ | refine vIfV_of ?_ ?_) <;> intro _ | refine And.intro (by omega) ?_ | refine drawn_q ?_ | fail)
  refine vConv_const Try.underlying22 Try.underlying5 ?_
  have q4 : Later w4 (w4.alloc (.cells #[.int .u8 109, .int .u8 111, .int .u8 114, .int .u8 101] 5 (4, 5))) := later_alloc _ _
  have x4 : Sl (w4.alloc (.cells #[.int .u8 109, .int .u8 111, .int .u8 114, .int .u8 101] 5 (4, 5))) (.slice (some ⟨w4.heap.size, 0, none⟩) 4 4) (([109, 111, 114, 101] : List UInt8).map u8v) := Sl.litM w4 _ _ _ (by unfold maxLen; simp)
  have n4 := inB_new (n := 4) (c := 4) V4.lt.1
  generalize w4.alloc (.cells #[.int .u8 109, .int .u8 111, .int .u8 114, .int .u8 101] 5 (4, 5)) = w5 at *
  repeat' (first | (simp (disch := omega) only [push_cast, ↓reduceIte, zA, zG, zB, zH, zI, zC, zJ, zK, zL, zD, zE, zF, zM, zN, zO, zP, zQ, reduceCtorEq, not_true_eq_false, not_false_eq_true]) | (first | refine vIfE_of ?_ ?_ | refine vIfD_of ?_ ?_ | refine vIfQ_of ?_ ?_ | refine vIfV_of ?_ ?_) <;> intro _ | refine And.intro (by omega) ?_ | refine drawn_q ?_ | fail)
  refine (append_s bk r _ kA _ [109, 111, 114, 101] w5 (V4.later q4) G4 (by decide) x4 n4 (by simp)).mono ?_
  rintro _ w6 ⟨rfl, V6, c6⟩
  have G6 := aApp_good G4 kA [109, 111, 114, 101]
  have e6 : aApp kA [109, 111, 114, 101] ⟨20, -1, [⟨kA, [115, 97, 102, 101], 4⟩]⟩ = (0, ⟨20, -1, [⟨kA, [115, 97, 102, 101, 109, 111, 114, 101], 4⟩]⟩) := by kernel_rfl
  rw [e6] at V6 G6 ⊢
  dsimp only at V6 G6
  have l6 := chg_later (l4.trans q4) c6 hb hr
  repeat' (first | (simp (disch := omega) only [push_cast, ↓reduceIte, zA, zG, zB, zH, zI, zC, zJ, zK, zL, zD, zE, zF, zM, zN, zO, zP, zQ, reduceCtorEq, not_true_eq_false, not_false_eq_true]) | (first | refine vIfE_of ?_ ?_ | refine vIfD_of ?_ ?_ | refine vIfQ_of ?_ ?_ | refine vIfV_of ?_ ?_) <;> intro _ | refine And.intro (by omega) ?_ | refine drawn_q ?_ | fail)
  refine (crash_s bk r _ 1 w6 V6 G6 (by omega)).mono ?_
  rintro _ w7 ⟨⟨b2, r2, rfl, hb2, hr2, V7⟩, l67⟩
  have G7 := aCrash_good G6 1
  have e7 : aCrash 1 ⟨20, -1, [⟨kA, [115, 97, 102, 101, 109, 111, 114, 101], 4⟩]⟩ = ⟨20, -1, [⟨kA, [115, 97, 102, 101, 109], 5⟩]⟩ := by kernel_rfl
  rw [e7] at V7 G7
  repeat' (first | (simp (disch := omega) only [push_cast, ↓reduceIte, zA, zG, zB, zH, zI, zC, zJ, zK, zL, zD, zE, zF, zM, zN, zO, zP, zQ, reduceCtorEq, not_true_eq_false, not_false_eq_true]) | (first | refine vIfE_of ?_ ?_ | refine vIfD_of ?_ ?_ | refine vIfQ_of ?_ ?_ | refine vIfV_of ?_ ?_) <;> intro _ | refine And.intro (by omega) ?_ | refine drawn_q ?_ | fail)
  refine (read_s b2 r2 _ kA w7 V7 G7).mono ?_
  rintro _ w8 ⟨⟨x, rfl, hx⟩, l78⟩
  have e8 : (lk kA [⟨kA, [115, 97, 102, 101, 109], 5⟩]).isSome = true := by kernel_rfl
  have e8' : oB kA [⟨kA, [115, 97, 102, 101, 109], 5⟩] = [115, 97, 102, 101, 109] := by kernel_rfl
  rw [e8', ] at hx
  rw [e8]
  obtain ⟨xo, xc, rfl⟩ := hx.slice
  have l8 := l6.trans (l67.trans l78)
  have V8 := V6.later (l67.trans l78)
  repeat' (first | (simp (disch := omega) only [push_cast, ↓reduceIte, zA, zG, zB, zH, zI, zC, zJ, zK, zL, zD, zE, zF, zM, zN, zO, zP, zQ, reduceCtorEq, not_true_eq_false, not_false_eq_true]) | (first | refine vIfE_of ?_ ?_ | refine vIfD_of ?_ ?_ | refine vIfQ_of ?_ ?_ | refine vIfV_of ?_ ?_) <;> intro _ | refine And.intro (by omega) ?_ | refine drawn_q ?_ | fail)
  refine vConv_bytes Try.underlying22 Try.underlying9 Try.underlying5 hx.sl ?_
  have es : decide (strOf [115, 97, 102, 101, 109] = ⟨#[115, 97, 102, 101, 109]⟩) = true := decide_eq_true rfl
  repeat' (first | (simp (disch := omega) only [push_cast, ↓reduceIte, zA, zG, zB, zH, zI, zC, zJ, zK, zL, zD, zE, zF, zM, zN, zO, zP, zQ, reduceCtorEq, not_true_eq_false, not_false_eq_true, es]) | (first | refine vIfE_of ?_ ?_ | refine vIfD_of ?_ ?_ | refine vIfQ_of ?_ ?_ | refine vIfV_of ?_ ?_) <;> intro _ | refine And.intro (by omega) ?_ | refine drawn_q ?_ | fail)
  refine (free_s bk r _ w8 V8 G6).mono ?_
  rintro _ w9 ⟨rfl, l89⟩
  have e9 : (20 : Int) - tl [⟨kA, [115, 97, 102, 101, 109, 111, 114, 101], 4⟩] = 12 := by kernel_rfl
  have l9 := l8.trans l89
  have V9 := V8.later l89
  dsimp only
  rw [e9]
  repeat' (first | (simp (disch := omega) only [push_cast, ↓reduceIte, zA, zG, zB, zH, zI, zC, zJ, zK, zL, zD, zE, zF, zM, zN, zO, zP, zQ, reduceCtorEq, not_true_eq_false, not_false_eq_true]) | (first | refine vIfE_of ?_ ?_ | refine vIfD_of ?_ ?_ | refine vIfQ_of ?_ ?_ | refine vIfV_of ?_ ?_) <;> intro _ | refine And.intro (by omega) ?_ | refine drawn_q ?_ | fail)
  refine vMakeSlice_ok (n := 13) Try.underlying22 ti5 rfl (by omega) (by unfold maxLen; omega) ?_
  have q9 : Later w9 (w9.alloc (.cells (List.replicate 13 (.int .u8 0)).toArray 5)) := later_alloc _ _
  have x9 : Sl (w9.alloc (.cells (List.replicate 13 (.int .u8 0)).toArray 5)) (.slice (some ⟨w9.heap.size, 0, none⟩) 13 13) ((List.replicate 13 (0 : UInt8)).map u8v) := Sl.of_blk (Blk.new w9 _ _) rfl (by unfold maxLen; omega)
  have n9 := inB_new (n := 13) (c := 13) V9.lt.1
  generalize w9.alloc (.cells (List.replicate 13 (.int .u8 0)).toArray 5) = w10 at *
  repeat' (first | (simp (disch := omega) only [push_cast, ↓reduceIte, zA, zG, zB, zH, zI, zC, zJ, zK, zL, zD, zE, zF, zM, zN, zO, zP, zQ, reduceCtorEq, not_true_eq_false, not_false_eq_true]) | (first | refine vIfE_of ?_ ?_ | refine vIfD_of ?_ ?_ | refine vIfQ_of ?_ ?_ | refine vIfV_of ?_ ?_) <;> intro _ | refine And.intro (by omega) ?_ | refine drawn_q ?_ | fail)
  refine (append_s bk r _ ⟨#[98]⟩ _ (List.replicate 13 0) w10 (V9.later q9) G6 (by decide) x9 n9 (by simp)).mono ?_
  rintro _ w11 ⟨rfl, V11, c11⟩
  have G11 := aApp_good G6 ⟨#[98]⟩ (List.replicate 13 0)
  have e11 : aApp ⟨#[98]⟩ (List.replicate 13 0) ⟨20, -1, [⟨kA, [115, 97, 102, 101, 109, 111, 114, 101], 4⟩]⟩ = (32, ⟨20, -1, [⟨kA, [115, 97, 102, 101, 109, 111, 114, 101], 4⟩]⟩) := by kernel_rfl
  rw [e11] at V11 G11 ⊢
  dsimp only at V11 G11
  have l11 := chg_later (l9.trans q9) c11 hb hr
  repeat' (first | (simp (disch := omega) only [push_cast, ↓reduceIte, zA, zG, zB, zH, zI, zC, zJ, zK, zL, zD, zE, zF, zM, zN, zO, zP, zQ, reduceCtorEq, not_true_eq_false, not_false_eq_true]) | (first | refine vIfE_of ?_ ?_ | refine vIfD_of ?_ ?_ | refine vIfQ_of ?_ ?_ | refine vIfV_of ?_ ?_) <;> intro _ | refine And.intro (by omega) ?_ | refine drawn_q ?_ | fail)
  refine (arm_s bk r _ 1 w11 V11).mono ?_
  rintro _ w12 ⟨rfl, V12, c12⟩
  have G12 := aArm_good G11 1 (by omega)
  have e12 : aArm 1 ⟨20, -1, [⟨kA, [115, 97, 102, 101, 109, 111, 114, 101], 4⟩]⟩ = (0, ⟨20, 1, [⟨kA, [115, 97, 102, 101, 109, 111, 114, 101], 4⟩]⟩) := by kernel_rfl
  rw [e12] at V12 G12 ⊢
  dsimp only at V12 G12
  have l12 := chg_later l11 c12 hb hr
  repeat' (first | (simp (disch := omega) only [push_cast, ↓reduceIte, zA, zG, zB, zH, zI, zC, zJ, zK, zL, zD, zE, zF, zM, zN, zO, zP, zQ, reduceCtorEq, not_true_eq_false, not_false_eq_true]) | (first | refine vIfE_of ?_ ?_ | refine vIfD_of ?_ ?_ | refine vIfQ_of ?_ ?_ | refine vIfV_of ?_ ?_) <;> intro _ | refine And.intro (by omega) ?_ | refine drawn_q ?_ | fail)
  refine (delete_s bk r _ kA w12 V12 G12 (by decide)).mono ?_
  rintro _ w13 ⟨rfl, V13, c13⟩
  have e13 : aDel kA ⟨20, 1, [⟨kA, [115, 97, 102, 101, 109, 111, 114, 101], 4⟩]⟩ = (272, ⟨20, 0, [⟨kA, [115, 97, 102, 101, 109, 111, 114, 101], 4⟩]⟩) := by kernel_rfl
  rw [e13] at V13 ⊢
  dsimp only at V13
  have l13 := chg_later l12 c13 hb hr
  repeat' (first | (simp (disch := omega) only [push_cast, ↓reduceIte, zA, zG, zB, zH, zI, zC, zJ, zK, zL, zD, zE, zF, zM, zN, zO, zP, zQ, reduceCtorEq, not_true_eq_false, not_false_eq_true]) | (first | refine vIfE_of ?_ ?_ | refine vIfD_of ?_ ?_ | refine vIfQ_of ?_ ?_ | refine vIfV_of ?_ ?_) <;> intro _ | refine And.intro (by omega) ?_ | refine drawn_q ?_ | fail)
  refine (broken_s bk r _ w13 V13).mono ?_
  rintro _ w14 ⟨rfl, h14⟩
  obtain rfl := h14.symm
  have e14 : decide ((0 : Int) = 0) = true := rfl
  dsimp only
  rw [e14]
  repeat' (first | (simp (disch := omega) only [push_cast, ↓reduceIte, zA, zG, zB, zH, zI, zC, zJ, zK, zL, zD, zE, zF, zM, zN, zO, zP, zQ, reduceCtorEq, not_true_eq_false, not_false_eq_true]) | (first | refine vIfE_of ?_ ?_ | refine vIfD_of ?_ ?_ | refine vIfQ_of ?_ ?_ | refine vIfV_of ?_ ?_) <;> intro _ | refine And.intro (by omega) ?_ | refine drawn_q ?_ | fail)
  first | exact ⟨rfl, l13⟩ | exact l13
end Go.Proofs.Ytmfcnooleejgmaa
end
section
namespace Go.Vc
open Go.RowKit Go.ChangeShapes
section
variable {H : Type} {enc : TypeId × Value → H} {P : Program}
theorem trodAll_stays (hl : laidOutB P = true) {W W' : World} {sp' : Nat → Bool} : ∀ {ts : List TypeId} {vs : List Value} {ds : List (DataW H)} {ps : List MemPlace},
    (∀ t ∈ ts, P.readableRec t = true ∧ t < P.types.size) → DataW.TrodAll enc P W 0 (fun _ => true) true ts vs ds ps → (∀ p ∈ ps, W.sameAt W' p) → (∀ p ∈ ps, sp' p.block = true) → DataW.TrodAll enc P W' 0 sp' true ts vs ds ps
  | [], [], [], _, _, h, _, _ => h
  | t :: ts, v :: vs, d :: ds, ps, ht, ⟨p, q, h1, h2, e⟩, hs, hp => by
    subst e
    refine ⟨p, q, WideElems.Trod_stays hl (ht t (by simp)).1 (ht t (by simp)).2 h1 (fun x hx => hs x (by simp [hx])) (fun x hx => hp x (by simp [hx])), ?_, rfl⟩
    exact trodAll_stays hl (fun u hu => ht u (by simp [hu])) h2 (fun x hx => hs x (by simp [hx])) (fun x hx => hp x (by simp [hx]))
theorem later_kept {W W' : World} (h : Later W W') (may : MemPlace → Prop) : W.keptBut W' may := by
  refine ⟨h.os, h.output, fun i hi => ?_⟩
  rw [h.block i hi]
  cases hb : W.heap[i]? with
  | none => simp
  | some o =>
    cases o with
    | cells c t fr => simp
    | map es k => simp
    | chan => simp
    | _ => simp
theorem trodAll_ps_len : ∀ {W : World} {b : Nat} {sp : Nat → Bool} {hd : Bool} {ts : List TypeId} {vs : List Value} {ds : List (DataW H)} {ps : List MemPlace}, DataW.TrodAll enc P W b sp hd ts vs ds ps → vs.length = ts.length ∧ ds.length = ts.length
  | _, _, _, _, [], [], [], _, _ => ⟨rfl, rfl⟩
  | W, b, sp, hd, _ :: ts, _ :: vs, _ :: ds, _, ⟨_, _, _, h2, _⟩ => by
    have := trodAll_ps_len h2
    exact ⟨by simp [this.1], by simp [this.2]⟩
/-- The post of a law that returned true and left what was there. -/
theorem post_later {f : Func} {s : ChangeSpec} {apart fresh handsOn again : Bool} {W W' : World} {args : Array Value} {ds gs : List (DataW H)} {before : List MemPlace} {tb : TypeId}
    (hl : laidOutB P = true) (hts : ∀ t ∈ f.params.toList, P.readableRec t = true ∧ t < P.types.size) (hr : f.resultTypes = #[tb]) (htb : P.underlying tb = some .bool)
    (hv : s.vars = []) (hfn : s.fn H ds = { results := [.lit (.bool true)], args := ds })
    (hW : DataW.Whole enc P f.params.toList s.vars apart W args.toList ds gs before) (h : Later W W') :
    s.post enc P f apart fresh handsOn again W args (.bool true) W' := by
  have hlt := hW.lt
  have hW' := hW
  obtain ⟨p, q, hA, hV, rfl, hfz, hnd⟩ := hW
  rw [hv] at hV
  obtain ⟨rfl, rfl⟩ := trodVars_none hV
  have same : ∀ x ∈ p, W.sameAt W' x := fun x hx => Below.same h (hlt x (by simp [hx]))
  have hargs : ∀ sp : Nat → Bool, (∀ x ∈ p, sp x.block = true) → DataW.TrodAll enc P W' 0 sp true f.params.toList args.toList ds p := fun sp hsp => trodAll_stays hl hts hA same hsp
  have hres : ∀ (b : Nat) (sp : Nat → Bool) (hd : Bool), DataW.TrodAll enc P W' b sp hd f.resultTypes.toList ((Value.bool true).resultList f.resultTypes.size) [.lit (.bool true)] [] := by
    intro b sp hd
    rw [hr]
    exact trodAll_cons_mk (shut_bool htb _) trodAll_mk0
  refine ⟨ds, [], p ++ [], [], p, [], hW', ?_, ?_, ?_, later_kept h _, fun _ => ?_⟩
  · rw [List.append_nil, hfn]; exact hres _ _ _
  · rw [List.append_nil, hfn]; exact hargs _ (fun x hx => by simpa using hlt x (by simp [hx]))
  · rw [hv, List.append_nil, hfn]; rfl
  · refine ⟨?_, [.lit (.bool true)] ++ ds, [], p, ⟨p, [], ?_, ?_, by simp, ?_, ?_⟩, ?_⟩
    · intro j t r h1 h2
      rw [hr] at h1 h2
      exact ok_one (f := f) hr rfl (okWide_bool_mk htb _) j t r (by rw [hr]; exact h1) (by rw [hr]; exact h2)
    · have := trodAll_append (hargs (fun _ => true) (fun _ _ => rfl)) (hres 0 (fun _ => true) true)
      simpa using this
    · rw [hv]; rfl
    · intro b off hp
      have := hlt _ (show MemPlace.cell b off ∈ p ++ [] by simpa using hp)
      rw [h.frozen (by exact this)]
      exact hfz b off (by simpa using hp)
    · intro ha; simpa using hnd ha
    · intro x hx _; simpa using hx
end
/-- The row's step out of a contract. -/
theorem lifted_later {C : Checked} {os : Os} {H : Type} {enc : TypeId × Value → H} {fid : FuncId} {f : Func} {s : ChangeSpec} {conds : List PathCond} {apart fresh handsOn again : Bool} {tb : TypeId}
    (own : ownKnob C.prog.godebug = none) (started : os.Started) (noInit : C.prog.inits.idxOf? fid = none) (hf : C.prog.funcs[fid]? = some f) (hb : HasBody C.prog fid)
    (witness : ∃ (w : World) (tape : Tape) (i : Input), w.os = os ∧ (w.forCall tape i).Shaped C.prog ∧ i.vars = [] ∧ Input.okWide C.prog (w.forCall tape i) .any w.heap.size fid i ∧
      s.pre6 enc C.prog f conds apart (w.forCall tape i).memory i.args ∧ ({} : Assume).holds C.prog (lone (Frame.enter C.prog fid i.args .normal) [] (w.forCall tape i)))
    (hl : laidOutB C.prog = true) (hts : ∀ t ∈ f.params.toList, C.prog.readableRec t = true ∧ t < C.prog.types.size) (hr : f.resultTypes = #[tb]) (htb : C.prog.underlying tb = some .bool)
    (hv : s.vars = []) (hfn : ∀ ds : List (DataW H), ds.length = f.params.toList.length → s.fn H ds = { results := [.lit (.bool true)], args := ds })
    (walk : ∀ (W : World) (base : Nat) (args : Array Value) (ds : List (DataW H)) (p : List MemPlace), (∀ (j : Nat) t v, f.params[j]? = some t → args[j]? = some v → Value.okWide C.prog W .any base t v) →
      DataW.TrodAll enc C.prog W 0 (fun _ => true) true f.params.toList args.toList ds p → FnC C.prog fid args W fun v w' => v = .bool true ∧ Later W w') :
    ReturnsInHanded {} C os fid .any (s.pre6 enc C.prog f conds apart) (s.post enc C.prog f apart fresh handsOn again) := by
  refine returnsInHanded_of_change own started noInit hf witness ?_
  intro W base args ds gs before hval hW _ _
  have hW' := hW
  obtain ⟨p, q, hA, hV, rfl, hfz, hnd⟩ := hW
  have hw := walk W base args ds p hval hA
  unfold FnC at hw
  rw [hb args W] at hw
  have hw : Ret C.prog fid args W fun v w' => v = .bool true ∧ Later W w' := hw
  refine hw.mono fun e w' ⟨v, he, hv', hlat⟩ => ?_
  subst hv'
  exact ⟨_, he, post_later hl hts hr htb hv (hfn ds (trodAll_ps_len hA).2) hW' hlat⟩
section
variable {H : Type} {enc : TypeId × Value → H} {P : Program} {w : World} {sp : Nat → Bool} {hd : Bool}
theorem forall_rows {n : Nat} {R : Nat → List Value → Prop} (h : ∀ i, i < n → ∃ r, R i r) : ∃ rows : List (List Value), rows.length = n ∧ ∀ i r, rows[i]? = some r → R i r := by
  induction n with
  | zero => exact ⟨[], rfl, fun i r hr => by simp at hr⟩
  | succ n ih =>
    obtain ⟨rows, hl, hr⟩ := ih fun i hi => h i (by omega)
    obtain ⟨r, hr'⟩ := h n (by omega)
    refine ⟨rows ++ [r], by simp [hl], fun i x hx => ?_⟩
    by_cases hi : i < n
    · rw [List.getElem?_append_left (by omega)] at hx
      exact hr i x hx
    · rw [List.getElem?_append_right (by omega)] at hx
      have : i = n := by
        by_cases h2 : i - rows.length = 0
        · omega
        · rw [List.getElem?_eq_none (by simp; omega)] at hx; cases hx
      subst this
      simp [hl] at hx
      exact hx ▸ hr'
theorem flatten_at {s : Nat} : ∀ (rows : List (List Value)), (∀ r ∈ rows, r.length = s) → ∀ (i : Nat) (x : Value), rows.flatten[i]? = some x → ∃ k j r, i = k * s + j ∧ j < s ∧ rows[k]? = some r ∧ r[j]? = some x
  | [], _, i, x, h => by simp at h
  | r :: rows, hl, i, x, h => by
    rw [List.flatten_cons] at h
    have hr := hl r (by simp)
    by_cases hi : i < r.length
    · rw [List.getElem?_append_left hi] at h
      exact ⟨0, i, r, by simp, by omega, rfl, h⟩
    · rw [List.getElem?_append_right (by omega)] at h
      obtain ⟨k, j, r', e, hj, hk, hx⟩ := flatten_at rows (fun r' h' => hl r' (by simp [h'])) (i - r.length) x h
      exact ⟨k + 1, j, r', by rw [Nat.add_mul]; omega, hj, by simpa using hk, hx⟩
/-- A slice that came in: its elements' cells, row by row, each as its type reads. -/
theorem open_rows {Q : List Value → Prop} {t e : TypeId} {v : Value} {d : DataW H} {ps : List MemPlace} {s : Nat} (ht : P.underlying t = some (.slice e)) (hc : P.cellsOf e = s)
    (hQ : ∀ m cs y, DataW.trod enc P w 0 sp hd m e cs = some y → Q cs) (hval : v.cells.toList = [v]) (h : DataW.Trod enc P w 0 sp hd t v d ps) :
    ∃ rows : List (List Value), SlN w s v rows.length rows.flatten ∧ ∀ r ∈ rows, r.length = s ∧ Q r := by
  obtain ⟨fuel, h⟩ := h
  rw [hval] at h
  rcases DataW.trod_slice ht h with ⟨h0, _⟩ | ⟨a, len, cap, elems, rest, n, _, hv, _, _, hl, hm, hlen, hel, _⟩
  · simp only [List.cons.injEq, and_true] at h0
    subst h0
    exact ⟨[], SlN.nil w s, by simp⟩
  · simp only [List.cons.injEq, and_true] at hv
    subst hv
    rw [hc] at hel
    have step : ∀ i, i < len → ∃ r : List Value, (∀ j x, r[j]? = some x → w.cell? (a.add (i * s + j)) = some x) ∧ r.length = s ∧ Q r := by
      intro i hi
      have h1 := hel i hi
      rw [List.getElem?_eq_getElem (by omega), Option.bind_eq_some_iff] at h1
      obtain ⟨cs, hcs, hy⟩ := h1
      have h2 := World.cells?_some hcs
      refine ⟨cs, fun j x hx => ?_, h2.2.1, hQ _ _ _ hy⟩
      have hj : j < s := by
        have := (List.getElem?_eq_some_iff.1 hx).1
        have := h2.2.1
        omega
      have h3 := h2.2.2 j hj
      rw [addr_add_add] at h3
      rw [h3]; exact hx
    obtain ⟨rows, hrl, hr⟩ := forall_rows step
    have hrs : ∀ r ∈ rows, r.length = s ∧ Q r := by
      intro r hr'
      obtain ⟨i, hi⟩ := List.getElem?_of_mem hr'
      exact (hr i r hi).2
    refine ⟨rows, ?_, hrs⟩
    rw [hrl]
    have hfl : rows.flatten.length = len * s := by
      rw [List.length_flatten, ← hrl]
      clear hr hrl
      induction rows with
      | nil => simp
      | cons r rows ih =>
        simp only [List.map_cons, List.sum_cons, List.length_cons]
        rw [ih (fun r' h' => hrs r' (by simp [h'])), (hrs r (by simp)).1, Nat.add_mul]
        omega
    refine SlN.mk hfl hl hm (fun h => by cases h) ?_
    intro a' ha i x hx
    simp only [Option.some.injEq] at ha
    subst ha
    obtain ⟨k, j, r, rfl, hj, hk, hx'⟩ := flatten_at rows (fun r hr' => (hrs r hr').1) i x hx
    exact (hr k r hk).1 j x hx'
theorem slice_cells {t e : TypeId} {v : Value} {r : Reach} {b0 : Nat} (ht : P.underlying t = some (.slice e)) (hval : Value.okWide P w r b0 t v) : v.cells.toList = [v] := by
  simp only [Value.okWide, ht] at hval
  cases v <;> simp [Cell.okWide, Cell.ok, ht] at hval <;> rfl
/-- A slice of bytes that came in. -/
theorem u8s_of {t e : TypeId} {v : Value} {d : DataW H} {ps : List MemPlace} (ht : P.underlying t = some (.slice e)) (he : P.underlying e = some (.int .u8)) (hc : P.cellsOf e = 1) (hval : v.cells.toList = [v]) (h : DataW.Trod enc P w 0 sp hd t v d ps) :
    ∃ l : List UInt8, Sl w v (l.map u8v) := by
  obtain ⟨rows, hs, hr⟩ := open_rows (Q := fun cs => ∃ c : UInt8, cs = [u8v c]) ht hc (fun m cs y hy => by
    obtain ⟨n, rfl, _, hw⟩ := DataW.trod_int he hy
    simp only [Lit.wf, Bool.and_eq_true, decide_eq_true_eq] at hw
    refine ⟨UInt8.ofNat n.toNat, ?_⟩
    unfold u8v
    have h1 : IntKind.u8.min = 0 := rfl
    have h2 : IntKind.u8.max = 255 := rfl
    rw [h1, h2] at hw
    have : ((UInt8.ofNat n.toNat).toNat : Int) = n := by simp; omega
    rw [this]) hval h
  have : ∃ l : List UInt8, rows.flatten = l.map u8v ∧ l.length = rows.length := by
    clear hs
    induction rows with
    | nil => exact ⟨[], rfl, rfl⟩
    | cons r rows ih =>
      obtain ⟨l, hl, hn⟩ := ih fun r' h' => hr r' (by simp [h'])
      obtain ⟨_, c, rfl⟩ := hr r (by simp)
      exact ⟨c :: l, by simp [hl], by simp [hn]⟩
  obtain ⟨l, hl, hn⟩ := this
  refine ⟨l, ?_⟩
  unfold Sl
  rw [hl, ← hn] at hs
  simpa using hs
theorem open_u8s {t e : TypeId} {v : Value} {d : DataW H} {ps : List MemPlace} {r : Reach} {b0 : Nat} (ht : P.underlying t = some (.slice e)) (he : P.underlying e = some (.int .u8)) (hc : P.cellsOf e = 1) (hval : Value.okWide P w r b0 t v) (h : DataW.Trod enc P w 0 sp hd t v d ps) :
    ∃ l : List UInt8, Sl w v (l.map u8v) := u8s_of ht he hc (slice_cells ht hval) h
end
theorem list_all {P : Program} {ts : List TypeId} (h : (ts.all fun t => P.readableRec t && decide (t < P.types.size)) = true) : ∀ t ∈ ts, P.readableRec t = true ∧ t < P.types.size := by
  intro t ht
  have := List.all_eq_true.1 h t ht
  simpa using this
theorem i64_of_wf {n : Int} (h : (Lit.int .i64 n).wf = true) : -9223372036854775808 ≤ n ∧ n ≤ 9223372036854775807 := by
  simp only [Lit.wf, Bool.and_eq_true, decide_eq_true_eq] at h
  exact h
end Go.Vc
end
section
namespace Go.Proofs.Ytmfcnooleejgmaa
open Go.Vc
set_option maxRecDepth 100000
variable (Q : Post) (ds : List Deferred) (σ : Env) (w : World)
/-! 19 (*columbary/vault.Vault).List (params #[23], results #[(.tmp 2)], 11 slots) -/
def r19_0 : List VOp :=
  [⟨some 2, .assign (.const (.slice none 0 0)), 40, none⟩]
def r19_1 : List VOp :=
  [mv 3 0 23,
   ⟨some 4, .binOp .eql 23 (.tmp 3) (.const (.pointer none)) 23, 4, none⟩]
def r19_2 : List VOp :=
  [⟨some 2, .assign (.const (.slice none 0 0)), 40, none⟩]
def r19_3 : List VOp :=
  [mv 5 0 23,
   ⟨some 6, .nilCheck (.tmp 5), 0, none⟩,
   fad 7 57 6 2,
   lda 8 55 7,
   ⟨some 9, .call ⟨.value (.func 36), #[.tmp 8], #[55]⟩, 67, none⟩,
   ⟨some 10, .call ⟨.value (.func 35), #[.tmp 9], #[67]⟩, 40, none⟩,
   asg 2 10 40]
def B19 : VC :=
  (.seq (.region r19_0) (.seq (.seq (.region r19_1) (.cond (.tmp 4) (.seq (.region r19_2) .ret) .skip)) (.seq (.region r19_3) .ret)))
theorem code19 : ∃ c, Try.f19.body = some c ∧ abs Try.f19.ntmps c = B19 := ⟨_, rfl, by kernel_rfl⟩
theorem hb19 : HasBody Try.prog 19 := hasBody_of Try.func19 (by kernel_rfl)
theorem res19 : Try.f19.results = #[(.tmp 2)] := rfl
theorem enter19 {w : World} {R : Value → World → Prop} (x0 : Value) (h : vc Try.prog B19 (retK Try.prog #[(.tmp 2)] R) [] (initEnv [x0] 0) w) : FnC Try.prog 19 #[x0] w R := by
  obtain ⟨c, h1, h2⟩ := code19
  exact hb19.fn (ret_of_vc mixed Try.func19 h1 (Nat.le_of_ble_eq_true rfl) B19 h2 h)
@[push_cast] theorem vr19_0 : VR r19_0 [⟨some 2, .assign (.const (.slice none 0 0)), 40, none⟩] := vR rfl
@[push_cast] theorem vr19_1 : VR r19_1 [⟨some 3, .move (.tmp 0), 23, none⟩, ⟨some 4, .binOp .eql 23 (.tmp 3) (.const (.pointer none)) 23, 4, none⟩] := vR rfl
@[push_cast] theorem vr19_2 : VR r19_2 [⟨some 2, .assign (.const (.slice none 0 0)), 40, none⟩] := vR rfl
@[push_cast] theorem vr19_3 : VR r19_3 [⟨some 5, .move (.tmp 0), 23, none⟩, ⟨some 6, .nilCheck (.tmp 5), 0, none⟩, ⟨some 7, .fieldAddr 57 (.tmp 6) 2, 0, none⟩, ⟨some 8, .load 55 (.tmp 7), 55, none⟩, ⟨some 9, .call ⟨.value (.func 36), #[.tmp 8], #[55]⟩, 67, none⟩, ⟨some 10, .call ⟨.value (.func 35), #[.tmp 9], #[67]⟩, 40, none⟩, ⟨some 2, .assign (.tmp 10), 40, none⟩] := vR rfl
end Go.Proofs.Ytmfcnooleejgmaa
end
section
set_option linter.unusedSimpArgs false
namespace Go.Proofs.Ytmfcnooleejgmaa
open Go.Vc
set_option maxRecDepth 100000
theorem may_n (k : ByteArray) (m : Bool) (w : World) : FnC Try.prog 31 #[.pointer none, .string k, .bool m] w fun v w' => v = .int .i64 1 ∧ w' = w := by
  refine enter31 _ _ _ ?_
  unfold B31
  repeat' (first | (simp (disch := omega) only [push_cast, ↓reduceIte, zA, zG, zB, zH, zI, zC, zJ, zK, zL, zD, zE, zF, zM, zN, zO, zP, zQ, reduceCtorEq, not_true_eq_false, not_false_eq_true]) | (first | refine vIfE_of ?_ ?_ | refine vIfD_of ?_ ?_ | refine vIfQ_of ?_ ?_ | refine vIfV_of ?_ ?_) <;> intro _ | refine And.intro (by omega) ?_ | refine drawn_q ?_ | fail)
  try exact ⟨rfl, rfl⟩
theorem append_n (k : ByteArray) (b : Value) (w : World) : FnC Try.prog 10 #[.pointer none, .string k, b] w fun v w' => v = .int .i64 1 ∧ w' = w := by
  refine enter10 _ _ _ ?_
  unfold B10
  repeat' (first | (simp (disch := omega) only [push_cast, ↓reduceIte, zA, zG, zB, zH, zI, zC, zJ, zK, zL, zD, zE, zF, zM, zN, zO, zP, zQ, reduceCtorEq, not_true_eq_false, not_false_eq_true]) | (first | refine vIfE_of ?_ ?_ | refine vIfD_of ?_ ?_ | refine vIfQ_of ?_ ?_ | refine vIfV_of ?_ ?_) <;> intro _ | refine And.intro (by omega) ?_ | refine drawn_q ?_ | fail)
  refine (may_n _ _ w).mono ?_
  rintro _ w0 ⟨rfl, h0⟩
  obtain rfl := h0.symm
  repeat' (first | (simp (disch := omega) only [push_cast, ↓reduceIte, zA, zG, zB, zH, zI, zC, zJ, zK, zL, zD, zE, zF, zM, zN, zO, zP, zQ, reduceCtorEq, not_true_eq_false, not_false_eq_true]) | (first | refine vIfE_of ?_ ?_ | refine vIfD_of ?_ ?_ | refine vIfQ_of ?_ ?_ | refine vIfV_of ?_ ?_) <;> intro _ | refine And.intro (by omega) ?_ | refine drawn_q ?_ | fail)
  try exact ⟨rfl, rfl⟩
theorem sync_n (k : ByteArray) (w : World) : FnC Try.prog 11 #[.pointer none, .string k] w fun v w' => v = .int .i64 1 ∧ w' = w := by
  refine enter11 _ _ ?_
  unfold B11
  repeat' (first | (simp (disch := omega) only [push_cast, ↓reduceIte, zA, zG, zB, zH, zI, zC, zJ, zK, zL, zD, zE, zF, zM, zN, zO, zP, zQ, reduceCtorEq, not_true_eq_false, not_false_eq_true]) | (first | refine vIfE_of ?_ ?_ | refine vIfD_of ?_ ?_ | refine vIfQ_of ?_ ?_ | refine vIfV_of ?_ ?_) <;> intro _ | refine And.intro (by omega) ?_ | refine drawn_q ?_ | fail)
  refine (may_n _ _ w).mono ?_
  rintro _ w0 ⟨rfl, h0⟩
  obtain rfl := h0.symm
  repeat' (first | (simp (disch := omega) only [push_cast, ↓reduceIte, zA, zG, zB, zH, zI, zC, zJ, zK, zL, zD, zE, zF, zM, zN, zO, zP, zQ, reduceCtorEq, not_true_eq_false, not_false_eq_true]) | (first | refine vIfE_of ?_ ?_ | refine vIfD_of ?_ ?_ | refine vIfQ_of ?_ ?_ | refine vIfV_of ?_ ?_) <;> intro _ | refine And.intro (by omega) ?_ | refine drawn_q ?_ | fail)
  try exact ⟨rfl, rfl⟩
theorem rename_n (k k2 : ByteArray) (w : World) : FnC Try.prog 12 #[.pointer none, .string k, .string k2] w fun v w' => v = .int .i64 1 ∧ w' = w := by
  refine enter12 _ _ _ ?_
  unfold B12
  repeat' (first | (simp (disch := omega) only [push_cast, ↓reduceIte, zA, zG, zB, zH, zI, zC, zJ, zK, zL, zD, zE, zF, zM, zN, zO, zP, zQ, reduceCtorEq, not_true_eq_false, not_false_eq_true]) | (first | refine vIfE_of ?_ ?_ | refine vIfD_of ?_ ?_ | refine vIfQ_of ?_ ?_ | refine vIfV_of ?_ ?_) <;> intro _ | refine And.intro (by omega) ?_ | refine drawn_q ?_ | fail)
  refine (may_n _ _ w).mono ?_
  rintro _ w0 ⟨rfl, h0⟩
  obtain rfl := h0.symm
  repeat' (first | (simp (disch := omega) only [push_cast, ↓reduceIte, zA, zG, zB, zH, zI, zC, zJ, zK, zL, zD, zE, zF, zM, zN, zO, zP, zQ, reduceCtorEq, not_true_eq_false, not_false_eq_true]) | (first | refine vIfE_of ?_ ?_ | refine vIfD_of ?_ ?_ | refine vIfQ_of ?_ ?_ | refine vIfV_of ?_ ?_) <;> intro _ | refine And.intro (by omega) ?_ | refine drawn_q ?_ | fail)
  try exact ⟨rfl, rfl⟩
theorem delete_n (k : ByteArray) (w : World) : FnC Try.prog 30 #[.pointer none, .string k] w fun v w' => v = .int .i64 1 ∧ w' = w := by
  refine enter30 _ _ ?_
  unfold B30
  repeat' (first | (simp (disch := omega) only [push_cast, ↓reduceIte, zA, zG, zB, zH, zI, zC, zJ, zK, zL, zD, zE, zF, zM, zN, zO, zP, zQ, reduceCtorEq, not_true_eq_false, not_false_eq_true]) | (first | refine vIfE_of ?_ ?_ | refine vIfD_of ?_ ?_ | refine vIfQ_of ?_ ?_ | refine vIfV_of ?_ ?_) <;> intro _ | refine And.intro (by omega) ?_ | refine drawn_q ?_ | fail)
  refine (may_n _ _ w).mono ?_
  rintro _ w0 ⟨rfl, h0⟩
  obtain rfl := h0.symm
  repeat' (first | (simp (disch := omega) only [push_cast, ↓reduceIte, zA, zG, zB, zH, zI, zC, zJ, zK, zL, zD, zE, zF, zM, zN, zO, zP, zQ, reduceCtorEq, not_true_eq_false, not_false_eq_true]) | (first | refine vIfE_of ?_ ?_ | refine vIfD_of ?_ ?_ | refine vIfQ_of ?_ ?_ | refine vIfV_of ?_ ?_) <;> intro _ | refine And.intro (by omega) ?_ | refine drawn_q ?_ | fail)
  try exact ⟨rfl, rfl⟩
theorem read_n (k : ByteArray) (w : World) : FnC Try.prog 14 #[.pointer none, .string k] w fun v w' => v = .tuple #[.slice none 0 0, .bool false] ∧ w' = w := by
  refine enter14 _ _ ?_
  unfold B14
  repeat' (first | (simp (disch := omega) only [push_cast, ↓reduceIte, zA, zG, zB, zH, zI, zC, zJ, zK, zL, zD, zE, zF, zM, zN, zO, zP, zQ, reduceCtorEq, not_true_eq_false, not_false_eq_true]) | (first | refine vIfE_of ?_ ?_ | refine vIfD_of ?_ ?_ | refine vIfQ_of ?_ ?_ | refine vIfV_of ?_ ?_) <;> intro _ | refine And.intro (by omega) ?_ | refine drawn_q ?_ | fail)
  try exact ⟨rfl, rfl⟩
theorem list_n (w : World) : FnC Try.prog 19 #[.pointer none] w fun v w' => v = .slice none 0 0 ∧ w' = w := by
  refine enter19 _ ?_
  unfold B19
  repeat' (first | (simp (disch := omega) only [push_cast, ↓reduceIte, zA, zG, zB, zH, zI, zC, zJ, zK, zL, zD, zE, zF, zM, zN, zO, zP, zQ, reduceCtorEq, not_true_eq_false, not_false_eq_true]) | (first | refine vIfE_of ?_ ?_ | refine vIfD_of ?_ ?_ | refine vIfQ_of ?_ ?_ | refine vIfV_of ?_ ?_) <;> intro _ | refine And.intro (by omega) ?_ | refine drawn_q ?_ | fail)
  try exact ⟨rfl, rfl⟩
theorem free_n (w : World) : FnC Try.prog 17 #[.pointer none] w fun v w' => v = .int .i64 0 ∧ w' = w := by
  refine enter17 _ ?_
  unfold B17
  repeat' (first | (simp (disch := omega) only [push_cast, ↓reduceIte, zA, zG, zB, zH, zI, zC, zJ, zK, zL, zD, zE, zF, zM, zN, zO, zP, zQ, reduceCtorEq, not_true_eq_false, not_false_eq_true]) | (first | refine vIfE_of ?_ ?_ | refine vIfD_of ?_ ?_ | refine vIfQ_of ?_ ?_ | refine vIfV_of ?_ ?_) <;> intro _ | refine And.intro (by omega) ?_ | refine drawn_q ?_ | fail)
  try exact ⟨rfl, rfl⟩
theorem arm_n (n : Int) (w : World) : FnC Try.prog 27 #[.pointer none, .int .i64 n] w fun v w' => v = .int .i64 1 ∧ w' = w := by
  refine enter27 _ _ ?_
  unfold B27
  repeat' (first | (simp (disch := omega) only [push_cast, ↓reduceIte, zA, zG, zB, zH, zI, zC, zJ, zK, zL, zD, zE, zF, zM, zN, zO, zP, zQ, reduceCtorEq, not_true_eq_false, not_false_eq_true]) | (first | refine vIfE_of ?_ ?_ | refine vIfD_of ?_ ?_ | refine vIfQ_of ?_ ?_ | refine vIfV_of ?_ ?_) <;> intro _ | refine And.intro (by omega) ?_ | refine drawn_q ?_ | fail)
  try exact ⟨rfl, rfl⟩
theorem broken_n (w : World) : FnC Try.prog 28 #[.pointer none] w fun v w' => v = .bool false ∧ w' = w := by
  refine enter28 _ ?_
  unfold B28
  repeat' (first | (simp (disch := omega) only [push_cast, ↓reduceIte, zA, zG, zB, zH, zI, zC, zJ, zK, zL, zD, zE, zF, zM, zN, zO, zP, zQ, reduceCtorEq, not_true_eq_false, not_false_eq_true]) | (first | refine vIfE_of ?_ ?_ | refine vIfD_of ?_ ?_ | refine vIfQ_of ?_ ?_ | refine vIfV_of ?_ ?_) <;> intro _ | refine And.intro (by omega) ?_ | refine drawn_q ?_ | fail)
  try exact ⟨rfl, rfl⟩
theorem crash_n (n : Int) (w : World) : FnC Try.prog 13 #[.pointer none, .int .i64 n] w fun v w' => v = .pointer none ∧ w' = w := by
  refine enter13 _ _ ?_
  unfold B13
  repeat' (first | (simp (disch := omega) only [push_cast, ↓reduceIte, zA, zG, zB, zH, zI, zC, zJ, zK, zL, zD, zE, zF, zM, zN, zO, zP, zQ, reduceCtorEq, not_true_eq_false, not_false_eq_true]) | (first | refine vIfE_of ?_ ?_ | refine vIfD_of ?_ ?_ | refine vIfQ_of ?_ ?_ | refine vIfV_of ?_ ?_) <;> intro _ | refine And.intro (by omega) ?_ | refine drawn_q ?_ | fail)
  try exact ⟨rfl, rfl⟩
theorem copy_n (w : World) : FnC Try.prog 23 #[.pointer none] w fun v w' => v = .pointer none ∧ w' = w := by
  refine enter23 _ ?_
  unfold B23
  repeat' (first | (simp (disch := omega) only [push_cast, ↓reduceIte, zA, zG, zB, zH, zI, zC, zJ, zK, zL, zD, zE, zF, zM, zN, zO, zP, zQ, reduceCtorEq, not_true_eq_false, not_false_eq_true]) | (first | refine vIfE_of ?_ ?_ | refine vIfD_of ?_ ?_ | refine vIfQ_of ?_ ?_ | refine vIfV_of ?_ ?_) <;> intro _ | refine And.intro (by omega) ?_ | refine drawn_q ?_ | fail)
  try exact ⟨rfl, rfl⟩
end Go.Proofs.Ytmfcnooleejgmaa
end
section
namespace Go.Vc
open Go.RowKit
def i64v (n : Int) : Value := .int .i64 n
/-- A slice of numbers that a call owns. -/
def OwnI (w : World) (B : Nat) (e : TypeId) (v : Value) (l : List Int) : Prop := w.ownsRow B e 1 v l.length (l.map i64v)
theorem OwnI.sl {w : World} {B : Nat} {e : TypeId} {v : Value} {l : List Int} (h : OwnI w B e v l) : Sl w v (l.map i64v) := Sl.of_own h
theorem OwnI.later {w w' : World} {B : Nat} {e : TypeId} {v : Value} {l : List Int} (h : OwnI w B e v l) (hl : Later w w') : OwnI w' B e v l := own_later h hl
theorem OwnI.base {w : World} {B B' : Nat} {e : TypeId} {v : Value} {l : List Int} (h : OwnI w B e v l) (hb : B' ≤ B) : OwnI w B' e v l := own_base h hb
theorem OwnI.nil (w : World) (B : Nat) (e : TypeId) : OwnI w B e (.slice none 0 0) [] := own_nil w B e 1
theorem OwnI.slice {w : World} {B : Nat} {e : TypeId} {v : Value} {l : List Int} (h : OwnI w B e v l) : ∃ o c, v = .slice o l.length c := by
  obtain ⟨o, c, hv, _⟩ := h.sl.openM
  exact ⟨o, c, hv⟩
theorem OwnI.alloc {w : World} {B : Nat} {e : TypeId} {v : Value} {l : List Int} (h : OwnI w B e v l) (o : Obj) : OwnI (w.alloc o) B e v l := own_alloc h o
end Go.Vc
end
section
namespace Go.Vc
open Go.RowKit
/-- One cell of what a call owns, written. -/
theorem own_setN {w : World} {base n s : Nat} {e : TypeId} {a : Addr} {c m i : Nat} {xs : List Value} (h : w.ownsRow base e s (.slice (some a) m c) n xs) (hi : i < n * s) (v : Value) :
    ∃ k, a = ⟨k, 0, none⟩ ∧ base ≤ k ∧ k < w.heap.size ∧ (w.setCell ⟨k, i, none⟩ v).ownsRow base e s (.slice (some ⟨k, 0, none⟩) m c) n (xs.set i v) ∧ (∃ y, w.cell? ⟨k, i, none⟩ = some y) ∧ w.frozen? ⟨k, i, none⟩ = false ∧ Blk w k (match w.heap[k]? with | some (.cells cs _ _) => cs | _ => #[]) e := by
  obtain ⟨h0, h⟩ := h
  rcases h with ⟨h, _⟩ | ⟨g, cap, cur, hv, hb, hh, h1, h2, h3, h4⟩
  · cases h
  · simp only [Value.slice.injEq, Option.some.injEq] at hv
    obtain ⟨rfl, rfl, rfl⟩ := hv
    have hB : Blk w g cur e := hh
    have hsz : cur.size = c * s := by simpa using h3
    have hms : m * s ≤ c * s := Nat.mul_le_mul_right _ h1
    refine ⟨g, rfl, hb, hB.lt, ⟨by simpa using h0, .inr ⟨g, c, cur.setIfInBounds i v, rfl, hb, hB.set i v, h1, h2, by simpa using h3, ?_⟩⟩, ?_, hB.frozen i, ?_⟩
    · rw [← h4]; simp [List.take_set]
    · rw [hB.cell]; exact ⟨cur[i], Array.getElem?_eq_getElem (by omega)⟩
    · rw [hh]; exact hh
/-- The first k. -/
theorem SlN.preN {w : World} {s n c : Nat} {o : Option Addr} {xs : List Value} (h : SlN w s (.slice o n c) n xs) {k : Nat} (hk : k ≤ n) : SlN w s (.slice o k c) k (xs.take (k * s)) := by
  obtain ⟨_, hc, hm, hl, _⟩ := h.len
  have hs := h.part (l := 0) (k := (k : Int)) (m := (c : Int)) (by omega) (by omega) (by omega) (by omega) (by omega)
  simp only [Int.sub_zero, Int.toNat_zero, Nat.zero_mul, List.drop_zero, Int.toNat_natCast] at hs
  unfold slAddr at hs
  split at hs
  · exact hs
  · cases o with
    | none => exact hs
    | some a => simpa [addr_add_zero] using hs
theorem flat_take (l : List (Int × Int)) : ∀ k : Nat, (l.map pairC).flatten.take (k * 2) = ((l.take k).map pairC).flatten := by
  induction l with
  | nil => intro k; simp
  | cons p l ih =>
    intro k
    cases k with
    | zero => simp
    | succ k =>
      have e : (k + 1) * 2 = k * 2 + 2 := by omega
      rw [e, List.map_cons, List.flatten_cons, List.take_succ_cons, List.map_cons, List.flatten_cons, ← ih k]
      show (pairC p ++ (l.map pairC).flatten).take (k * 2 + 2) = _
      have e2 : (pairC p).length = 2 := rfl
      rw [List.take_append, e2]
      simp [pairC]
theorem PairS.pre {w : World} {o : Option Addr} {n c : Nat} {l : List (Int × Int)} (h : PairS w (.slice o n c) l) {k : Nat} (hk : k ≤ l.length) : PairS w (.slice o k c) (l.take k) := by
  unfold PairS at h ⊢
  obtain ⟨e, _⟩ := h.len
  subst e
  have := SlN.preN h hk
  rw [flat_take] at this
  rw [List.length_take, Nat.min_eq_left hk]
  exact this
end Go.Vc
end
section
namespace Go.Vc
open Go.RowKit
section
variable {α : Type} {enc : α → List Value} {k : Nat}
/-- Records, read. -/
def RecS (enc : α → List Value) (k : Nat) (w : World) (v : Value) (l : List α) : Prop := SlN w k v l.length (l.map enc).flatten
/-- Records of one's own. -/
def OwnR (enc : α → List Value) (k : Nat) (w : World) (B : Nat) (e : TypeId) (v : Value) (l : List α) : Prop := w.ownsRow B e k v l.length (l.map enc).flatten
theorem rec_len (hk : ∀ x, (enc x).length = k) (l : List α) : ∀ r ∈ l.map enc, r.length = k := by
  intro r hr
  obtain ⟨p, _, rfl⟩ := List.mem_map.1 hr
  exact hk p
theorem rec_flat (hk : ∀ x, (enc x).length = k) (l : List α) : (l.map enc).flatten.length = l.length * k := by
  induction l with
  | nil => simp
  | cons p l ih => simp only [List.map_cons, List.flatten_cons, List.length_append, ih, List.length_cons, hk, Nat.add_mul]; omega
theorem RecS.later {w w' : World} {v : Value} {l : List α} (h : RecS enc k w v l) (hl : Later w w') : RecS enc k w' v l := SlN.later h hl
theorem OwnR.s {w : World} {B : Nat} {e : TypeId} {v : Value} {l : List α} (h : OwnR enc k w B e v l) : RecS enc k w v l := SlN.of_own h
theorem OwnR.later {w w' : World} {B : Nat} {e : TypeId} {v : Value} {l : List α} (h : OwnR enc k w B e v l) (hl : Later w w') : OwnR enc k w' B e v l := own_later h hl
theorem OwnR.base {w : World} {B B' : Nat} {e : TypeId} {v : Value} {l : List α} (h : OwnR enc k w B e v l) (hb : B' ≤ B) : OwnR enc k w B' e v l := own_base h hb
theorem OwnR.nil (w : World) (B : Nat) (e : TypeId) : OwnR enc k w B e (.slice none 0 0) [] := own_nil w B e k
theorem OwnR.alloc {w : World} {B : Nat} {e : TypeId} {v : Value} {l : List α} (h : OwnR enc k w B e v l) (o : Obj) : OwnR enc k (w.alloc o) B e v l := own_alloc h o
theorem RecS.slice {w : World} {v : Value} {l : List α} (h : RecS enc k w v l) : ∃ o c, v = .slice o l.length c ∧ l.length ≤ c ∧ c ≤ 9223372036854775807 := by
  obtain ⟨o, c, hv, h1, h2, _⟩ := SlN.open h
  exact ⟨o, c, hv, h1, by simpa [maxLen] using h2⟩
theorem RecS.nil (w : World) : RecS enc k w (.slice none 0 0) [] := SlN.of_own (own_nil w 0 0 k)
theorem RecS.at (hk : ∀ x, (enc x).length = k) {w : World} {o : Option Addr} {n c : Nat} {l : List α} (h : RecS enc k w (.slice o n c) l) {i : Nat} (hi : i < l.length) : ∃ a, o = some a ∧ cellsAt w (a.add (i * k)) k = some (enc l[i]) := by
  cases o with
  | none => have h1 := SlN.len h; have := h1.2.2.2.2 rfl; have := h1.1; omega
  | some a =>
    have hr : (l.map enc)[i]? = some (enc l[i]) := by simp [hi]
    exact ⟨a, rfl, SlN.row h (rec_len hk l) hr⟩
theorem RecS.cell (hk : ∀ x, (enc x).length = k) {w : World} {a : Addr} {n c : Nat} {l : List α} (h : RecS enc k w (.slice (some a) n c) l) {i j : Nat} (hi : i < l.length) {x : Value} (hx : (enc l[i])[j]? = some x) : w.cell? ((a.add (i * k)).add j) = some x :=
  SlN.rowCell h (rec_len hk l) (by simp [hi]) hx
/-- Cells of what a call owns, written one after the other. -/
def wrs (xs : List Value) (p : Nat) : List Value → List Value
  | [] => xs
  | v :: vs => wrs (xs.set p v) (p + 1) vs
theorem writes_app (A old B new : List Value) (h : old.length = new.length) : wrs (A ++ old ++ B) A.length new = A ++ new ++ B := by
  induction new generalizing A old with
  | nil => obtain rfl := List.length_eq_zero_iff.1 h; rfl
  | cons v vs ih =>
    cases old with
    | nil => cases h
    | cons o os =>
      have e : (A ++ o :: os ++ B).set A.length v = (A ++ [v]) ++ os ++ B := by simp
      have hl : A.length + 1 = (A ++ [v]).length := by simp
      rw [wrs, e, hl, ih (A ++ [v]) os (by simpa using h)]
      simp
theorem own_writes {w : World} {base n s : Nat} {e : TypeId} {a : Addr} {c m : Nat} {xs : List Value} (h : w.ownsRow base e s (.slice (some a) m c) n xs) : ∃ g, a = ⟨g, 0, none⟩ ∧ base ≤ g ∧ g < w.heap.size ∧ (∃ cs, Blk w g cs e) ∧ ∀ (vs : List Value) (p : Nat), p + vs.length ≤ n * s → canAll w ⟨g, p, none⟩ vs := by
  obtain ⟨h0, h⟩ := h
  rcases h with ⟨h, _⟩ | ⟨g, cap, cur, hv, hb, hh, h1, h2, h3, h4⟩
  · cases h
  · simp only [Value.slice.injEq, Option.some.injEq] at hv
    obtain ⟨rfl, rfl, rfl⟩ := hv
    have hB : Blk w g cur e := hh
    have hsz : cur.size = c * s := by simpa using h3
    have hms : m * s ≤ c * s := Nat.mul_le_mul_right _ h1
    refine ⟨g, rfl, hb, hB.lt, ⟨cur, hB⟩, fun vs => ?_⟩
    induction vs with
    | nil => intro p _; trivial
    | cons v vs ih =>
      intro p hp
      simp only [List.length_cons] at hp
      refine ⟨⟨cur[p], by rw [hB.cell]; exact Array.getElem?_eq_getElem (by omega)⟩, hB.frozen p, ?_⟩
      rw [addr_add_eq]
      exact ih (p + 1) (by omega)
theorem own_storeAll {base n s : Nat} {e : TypeId} {g c m : Nat} : ∀ (vs : List Value) (w : World) (p : Nat) (xs : List Value), w.ownsRow base e s (.slice (some ⟨g, 0, none⟩) m c) n xs → p + vs.length ≤ n * s →
    (storeAll w ⟨g, p, none⟩ vs).ownsRow base e s (.slice (some ⟨g, 0, none⟩) m c) n (wrs xs p vs) ∧ Chg w (storeAll w ⟨g, p, none⟩ vs) [g] := by
  intro vs
  induction vs with
  | nil => intro w p xs h _; exact ⟨h, Chg.refl _ _⟩
  | cons v vs ih =>
    intro w p xs h hp
    simp only [List.length_cons] at hp
    obtain ⟨k', e', _, _, h3, _, _, _⟩ := own_setN (i := p) h (by omega) v
    have eg : k' = g := by have := congrArg Addr.block e'; simpa using this.symm
    subst eg
    have := ih (w.setCell ⟨k', p, none⟩ v) (p + 1) (xs.set p v) h3 (by omega)
    unfold storeAll
    rw [addr_add_eq]
    exact ⟨this.1, (chg_setCell w (by simp) v).trans this.2⟩
theorem set_split (l : List α) {i : Nat} (hi : i < l.length) (y : α) : l = l.take i ++ l[i] :: l.drop (i + 1) ∧ l.set i y = l.take i ++ y :: l.drop (i + 1) := by
  refine ⟨?_, ?_⟩
  · rw [List.getElem_cons_drop, List.take_append_drop]
  · rw [List.set_eq_take_append_cons_drop, if_pos hi]
theorem writes_rec (hk : ∀ x, (enc x).length = k) (l : List α) {i : Nat} (hi : i < l.length) (y : α) : wrs (l.map enc).flatten (i * k) (enc y) = ((l.set i y).map enc).flatten := by
  obtain ⟨e1, e2⟩ := set_split l hi y
  have hA : ((l.take i).map enc).flatten.length = i * k := by rw [rec_flat hk, List.length_take]; congr 1; omega
  have e3 : (l.map enc).flatten = ((l.take i).map enc).flatten ++ enc l[i] ++ ((l.drop (i + 1)).map enc).flatten := by
    have : (l.map enc).flatten = ((l.take i ++ l[i] :: l.drop (i + 1)).map enc).flatten := congrArg (fun l => (l.map enc).flatten) e1
    rw [this, List.map_append, List.flatten_append, List.map_cons, List.flatten_cons, List.append_assoc]
  rw [e3, ← hA, writes_app _ _ _ _ (by rw [hk, hk]), e2]
  simp
/-- One record written anew. -/
theorem OwnR.set (hk : ∀ x, (enc x).length = k) {w : World} {B : Nat} {e : TypeId} {a : Addr} {n c : Nat} {l : List α} (h : OwnR enc k w B e (.slice (some a) n c) l) {i : Nat} (hi : i < l.length) (y : α) :
    ∃ g, a = ⟨g, 0, none⟩ ∧ B ≤ g ∧ (∃ cs, Blk w g cs e) ∧ canAll w (a.add (i * k)) (enc y) ∧ OwnR enc k (storeAll w (a.add (i * k)) (enc y)) B e (.slice (some a) n c) (l.set i y) ∧ Chg w (storeAll w (a.add (i * k)) (enc y)) [g] := by
  obtain ⟨g, rfl, h1, h2, hb, h3⟩ := own_writes h
  have hle : i * k + k ≤ l.length * k := by
    have : (i + 1) * k ≤ l.length * k := Nat.mul_le_mul_right _ hi
    rw [Nat.add_mul] at this; omega
  obtain ⟨o1, o2⟩ := own_storeAll (enc y) w (i * k) _ h (by rw [hk]; exact hle)
  refine ⟨g, rfl, h1, hb, ?_, ?_, ?_⟩
  · rw [addr_add_eq, Nat.zero_add]
    exact h3 (enc y) (i * k) (by rw [hk]; exact hle)
  · rw [addr_add_eq, Nat.zero_add]
    unfold OwnR
    rw [writes_rec hk l hi y] at o1
    simpa using o1
  · rw [addr_add_eq, Nat.zero_add]
    exact o2
end
end Go.Vc
end
section
namespace Go.Vc
open Go.RowKit Go.ChangeShapes
section
variable {H : Type} {enc : TypeId × Value → H} {P : Program} {w : World} {sp : Nat → Bool} {hd : Bool}
/-- Whatever of a type came in reads as R says. -/
structure Opens (enc : TypeId × Value → H) (P : Program) (w : World) (sp : Nat → Bool) (hd : Bool) (e : TypeId) (s : Nat) (R : List Value → Prop) : Prop where
  size : P.cellsOf e = s
  reads : ∀ m cs y, DataW.trod enc P w 0 sp hd m e cs = some y → R cs
theorem Opens.mono {e : TypeId} {s : Nat} {R R' : List Value → Prop} (h : Opens enc P w sp hd e s R) (hr : ∀ cs, R cs → R' cs) : Opens enc P w sp hd e s R' := ⟨h.size, fun m cs y hy => hr _ (h.reads m cs y hy)⟩
theorem opens_i64 {e : TypeId} (he : P.underlying e = some (.int .i64)) (hc : P.cellsOf e = 1) : Opens enc P w sp hd e 1 (fun cs => ∃ n : Int, cs = [.int .i64 n] ∧ -9223372036854775808 ≤ n ∧ n ≤ 9223372036854775807) :=
  ⟨hc, fun m cs y hy => by
    obtain ⟨n, rfl, _, hw⟩ := DataW.trod_int he hy
    exact ⟨n, rfl, i64_of_wf hw⟩⟩
theorem opens_string {e : TypeId} (he : P.underlying e = some .string) (hc : P.cellsOf e = 1) : Opens enc P w sp hd e 1 (fun cs => ∃ s : ByteArray, cs = [.string s] ∧ s.size ≤ 9223372036854775807) :=
  ⟨hc, fun m cs y hy => by
    obtain ⟨n, rfl, _, hs⟩ := DataW.trod_string he hy
    exact ⟨n, rfl, hs⟩⟩
/-- A struct's fields, each by itself. -/
theorem opens_struct {t : TypeId} {fs : Array Field} {S : Nat} (ht : P.underlying t = some (.struct fs)) (hc : P.cellsOf t = S) :
    Opens enc P w sp hd t S (fun cs => cs.length = S ∧ ∀ (i : Nat) (f : Field) (s : Nat) (R : List Value → Prop), fs[i]? = some f → Opens enc P w sp hd f.type s R → R ((cs.drop f.offset).take s)) :=
  ⟨hc, fun m cs y hy => by
    obtain ⟨xs, n, _, _, hl, hxl, hf⟩ := DataW.trod_struct ht hy
    rw [hc] at hl
    refine ⟨hl, fun i f s R hi ho => ?_⟩
    have h1 := hf i f hi
    rw [ho.size] at h1
    have hlt : i < xs.length := by
      rw [hxl]
      exact (Array.getElem?_eq_some_iff.1 hi).1
    rw [List.getElem?_eq_getElem hlt] at h1
    exact ho.reads _ _ _ h1⟩
/-- A struct, or an array, that came in as a value. -/
theorem open_agg {t : TypeId} {v : Value} {d : DataW H} {ps : List MemPlace} {r : Reach} {b0 s : Nat} {R : List Value → Prop} (hu : (∃ fs, P.underlying t = some (.struct fs)) ∨ ∃ n e, P.underlying t = some (.array n e)) (ho : Opens enc P w sp hd t s R)
    (hval : Value.okWide P w r b0 t v) (h : DataW.Trod enc P w 0 sp hd t v d ps) : ∃ cs : List Value, v = .agg cs.toArray ∧ R cs := by
  obtain ⟨fuel, h⟩ := h
  have hv : ∃ cs, v = .agg cs := by
    rcases hu with ⟨fs, ht⟩ | ⟨n, e, ht⟩
    · simp only [Value.okWide, ht] at hval
      exact ⟨_, hval.choose_spec.1⟩
    · simp only [Value.okWide, ht] at hval
      exact ⟨_, hval.choose_spec.1⟩
  obtain ⟨cs, rfl⟩ := hv
  exact ⟨cs.toList, by simp, ho.reads _ _ _ h⟩
end
end Go.Vc
end
section
set_option linter.unusedSimpArgs false
namespace Go.Proofs.Ytmfcnooleejgmaa
open Go.Vc Go.Key Go.RowKit Go.ChangeShapes Go.Vlt
set_option maxRecDepth 100000
abbrev I64 (n : Int) : Prop := -9223372036854775808 ≤ n ∧ n ≤ 9223372036854775807
/-- An act, and where its bytes lie. -/
structure ActD where
  kind : Int
  n : Int
  a : ByteArray
  z : ByteArray
  bv : Value
  b : List UInt8
def acC (x : ActD) : List Value := [.int .i64 x.kind, .int .i64 x.n, .string x.a, .string x.z, x.bv]
structure ActD.Ok (w : World) (x : ActD) : Prop where
  sl : Sl w x.bv (x.b.map u8v)
  kind : I64 x.kind
  n : I64 x.n
  a : x.a.size ≤ 9223372036854775807
  z : x.z.size ≤ 9223372036854775807
theorem ActD.Ok.later {w w' : World} {x : ActD} (h : x.Ok w) (hl : Later w w') : x.Ok w' := ⟨h.sl.later hl, h.kind, h.n, h.a, h.z⟩
section
variable {H : Type} {enc : TypeId × Value → H} {w : World} {sp : Nat → Bool} {hd : Bool}
theorem o_int : Opens enc Try.prog w sp hd 3 1 (fun cs => ∃ n : Int, cs = [.int .i64 n] ∧ I64 n) := opens_i64 Try.underlying3 (by kernel_rfl)
theorem o_str : Opens enc Try.prog w sp hd 9 1 (fun cs => ∃ s : ByteArray, cs = [.string s] ∧ s.size ≤ 9223372036854775807) := opens_string Try.underlying9 (by kernel_rfl)
theorem o_bytes : Opens enc Try.prog w sp hd 22 1 (fun cs => ∃ (v : Value) (l : List UInt8), cs = [v] ∧ Sl w v (l.map u8v)) :=
  ⟨by kernel_rfl, fun m cs y hy => by
    have hx : ∃ x : Value, cs = [x] ∧ x.cells.toList = [x] := by
      rcases DataW.trod_slice Try.underlying22 hy with ⟨h0, _⟩ | ⟨a, len, cap, elems, rest, n, _, hv, _⟩
      · exact ⟨_, h0, rfl⟩
      · exact ⟨_, hv, rfl⟩
    obtain ⟨x, rfl, hx⟩ := hx
    obtain ⟨l, hl⟩ := u8s_of Try.underlying22 Try.underlying5 (by kernel_rfl) hx (d := y.1) (ps := y.2) ⟨m, by rw [hx]; exact hy⟩
    exact ⟨x, l, rfl, hl⟩⟩
theorem o_act : Opens enc Try.prog w sp hd 37 5 (fun cs => ∃ x : ActD, cs = acC x ∧ x.Ok w) :=
  (opens_struct Try.underlying37 (by kernel_rfl)).mono fun cs ⟨hl, hf⟩ => by
    match cs, hl with
    | [c0, c1, c2, c3, c4], _ =>
      obtain ⟨k, hk, wk⟩ := hf 0 _ 1 _ rfl o_int
      obtain ⟨n, hn, wn⟩ := hf 1 _ 1 _ rfl o_int
      obtain ⟨a, ha, wa⟩ := hf 2 _ 1 _ rfl o_str
      obtain ⟨z, hz, wz⟩ := hf 3 _ 1 _ rfl o_str
      obtain ⟨v, b, hb, wb⟩ := hf 4 _ 1 _ rfl o_bytes
      obtain rfl : c0 = _ := (List.cons.inj hk).1
      obtain rfl : c1 = _ := (List.cons.inj hn).1
      obtain rfl : c2 = _ := (List.cons.inj ha).1
      obtain rfl : c3 = _ := (List.cons.inj hz).1
      obtain rfl : c4 = _ := (List.cons.inj hb).1
      exact ⟨⟨k, n, a, z, c4, b⟩, rfl, wb, wk, wn, wa, wz⟩
variable {v : Value} {d : DataW H} {ps : List MemPlace} {r : Reach} {b0 : Nat}
theorem open_act (hval : Value.okWide Try.prog w r b0 37 v) (h : DataW.Trod enc Try.prog w 0 sp hd 37 v d ps) : ∃ x : ActD, v = .agg (acC x).toArray ∧ x.Ok w := by
  obtain ⟨cs, rfl, x, rfl, hx⟩ := open_agg (.inl ⟨_, Try.underlying37⟩) o_act hval h
  exact ⟨x, rfl, hx⟩
end
/-- Is an act one that is gone through? -/
def fitB (x : ActD) : Bool := decide (x.a.size ≤ 200) && decide (x.z.size ≤ 200) && decide (x.b.length ≤ 200)
theorem fits_c (x : ActD) (w : World) (h : x.Ok w) : FnC Try.prog 16 #[.agg (acC x).toArray] w fun v w' => v = .bool (fitB x) ∧ Later w w' := by
  obtain ⟨kind, n, a, z, bv, b⟩ := x
  have hsl : Sl w bv (b.map u8v) := h.sl
  obtain ⟨bo, bc, hbv⟩ := hsl.slice
  rw [List.length_map] at hbv
  clear h hsl
  subst hbv
  unfold acC fitB
  dsimp only
  refine enter16 _ ?_
  unfold B16
  have eca : (Value.agg #[.int .i64 kind, .int .i64 n, .string a, .string z, .slice bo b.length bc]).cells = #[.int .i64 kind, .int .i64 n, .string a, .string z, .slice bo b.length bc] := rfl
  repeat' (first | (simp (disch := omega) only [push_cast, ↓reduceIte, zA, zG, zB, zH, zI, zC, zJ, zK, zL, zD, zE, zF, zM, zN, zO, zP, zQ, reduceCtorEq, not_true_eq_false, not_false_eq_true, eca]) | (first | refine vIfE_of ?_ ?_ | refine vIfD_of ?_ ?_ | refine vIfQ_of ?_ ?_ | refine vIfV_of ?_ ?_) <;> intro _ | refine And.intro (by omega) ?_ | fail)
  have l1 := later_alloc w (.cells #[.int .i64 kind, .int .i64 n, .string a, .string z, .slice bo b.length bc] 37)
  have B1 := Blk.new w #[.int .i64 kind, .int .i64 n, .string a, .string z, .slice bo b.length bc] 37
  have f2 := B1.cell 2
  have f3 := B1.cell 3
  have f4 := B1.cell 4
  have g2 : (w.alloc (.cells #[.int .i64 kind, .int .i64 n, .string a, .string z, .slice bo b.length bc] 37)).cell? ⟨w.heap.size, 2, none⟩ = some (.string a) := f2
  have g3 : (w.alloc (.cells #[.int .i64 kind, .int .i64 n, .string a, .string z, .slice bo b.length bc] 37)).cell? ⟨w.heap.size, 3, none⟩ = some (.string z) := f3
  have g4 : (w.alloc (.cells #[.int .i64 kind, .int .i64 n, .string a, .string z, .slice bo b.length bc] 37)).cell? ⟨w.heap.size, 4, none⟩ = some (.slice bo b.length bc) := f4
  clear f2 f3 f4 eca
  generalize w.alloc (.cells #[.int .i64 kind, .int .i64 n, .string a, .string z, .slice bo b.length bc] 37) = w1 at *
  by_cases h1 : a.size ≤ 200
  case neg =>
    have d1 : decide ((a.size : Int) ≤ 200) = false := decide_eq_false (by omega)
    rw [decide_eq_false h1]
    repeat' (first | (simp (disch := omega) only [push_cast, ↓reduceIte, zA, zG, zB, zH, zI, zC, zJ, zK, zL, zD, zE, zF, zM, zN, zO, zP, zQ, reduceCtorEq, not_true_eq_false, not_false_eq_true, g2, g3, g4, d1, addr_add_eq, Nat.zero_add]) | (first | refine vIfE_of ?_ ?_ | refine vIfD_of ?_ ?_ | refine vIfQ_of ?_ ?_ | refine vIfV_of ?_ ?_) <;> intro _ | refine And.intro (by omega) ?_ | refine drawn_q ?_ | fail)
    first | exact ⟨rfl, l1⟩ | exact l1
  have d1 : decide ((a.size : Int) ≤ 200) = true := decide_eq_true (by omega)
  rw [decide_eq_true h1]
  by_cases h2 : z.size ≤ 200
  case neg =>
    have d2 : decide ((z.size : Int) ≤ 200) = false := decide_eq_false (by omega)
    rw [decide_eq_false h2]
    repeat' (first | (simp (disch := omega) only [push_cast, ↓reduceIte, zA, zG, zB, zH, zI, zC, zJ, zK, zL, zD, zE, zF, zM, zN, zO, zP, zQ, reduceCtorEq, not_true_eq_false, not_false_eq_true, g2, g3, g4, d1, d2, addr_add_eq, Nat.zero_add]) | (first | refine vIfE_of ?_ ?_ | refine vIfD_of ?_ ?_ | refine vIfQ_of ?_ ?_ | refine vIfV_of ?_ ?_) <;> intro _ | refine And.intro (by omega) ?_ | refine drawn_q ?_ | fail)
    first | exact ⟨rfl, l1⟩ | exact l1
  have d2 : decide ((z.size : Int) ≤ 200) = true := decide_eq_true (by omega)
  rw [decide_eq_true h2]
  have d3 : decide ((b.length : Int) ≤ 200) = decide (b.length ≤ 200) := decide_eq_decide.2 (by omega)
  repeat' (first | (simp (disch := omega) only [push_cast, ↓reduceIte, zA, zG, zB, zH, zI, zC, zJ, zK, zL, zD, zE, zF, zM, zN, zO, zP, zQ, reduceCtorEq, not_true_eq_false, not_false_eq_true, g2, g3, g4, d1, d2, d3, addr_add_eq, Nat.zero_add]) | (first | refine vIfE_of ?_ ?_ | refine vIfD_of ?_ ?_ | refine vIfQ_of ?_ ?_ | refine vIfV_of ?_ ?_) <;> intro _ | refine And.intro (by omega) ?_ | refine drawn_q ?_ | fail)
  first | exact ⟨rfl, l1⟩ | exact l1
end Go.Proofs.Ytmfcnooleejgmaa
end
