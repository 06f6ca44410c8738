/- slices.Sorted and Compact of texts; typer.typed. -/
import Derived.Test.YtnofalhkapmcnaaGreatPartI
set_option linter.all false
open Nat renaming reduceEqDiff → zA, reducePow → zB, reduceMul → zC, reduceAdd → zD, reduceSub → zE, reduceLeDiff → zF
open Int renaming reduceToNat → zG, reducePow → zH, reduceNeg → zI, reduceMul → zJ, reduceAdd → zK, reduceSub → zL, reduceLT → zM, reduceLE → zN, reduceEq → zO, reduceMod → zP, reduceDiv → zQ
section
set_option linter.unusedSimpArgs false
namespace Go.Proofs.YtnofalhkapmcnaaGreat
open Go.Vc Go.Key Go.Sort Go.Bkt
set_option maxRecDepth 100000
theorem hbSortS : HasBody Tryz.prog 123 := hasBody_of Tryz.func123 (by kernel_rfl)
theorem hbCompS : HasBody Tryz.prog 89 := hasBody_of Tryz.func89 (by kernel_rfl)
abbrev OwnZ (w : World) (B : Nat) (v : Value) (zs : List (List UInt8)) : Prop := w.ownsRow B 9 1 v zs.length (zs.map encStr)
theorem OwnZ.of {w : World} {B : Nat} {v : Value} {ks : List ByteArray} (h : OwnS w B v ks) : OwnZ w B v (ks.map fun k => k.data.toList) := by
  have es : ks.map Value.string = (ks.map fun k => k.data.toList).map encStr := by
    rw [List.map_map]
    refine List.map_congr_left fun k _ => ?_
    show Value.string k = Value.string (strOf k.data.toList)
    rw [strOf_data]
  unfold OwnZ
  rw [← es, List.length_map]
  exact h
theorem OwnZ.sl {w : World} {B : Nat} {v : Value} {zs : List (List UInt8)} (h : OwnZ w B v zs) : ∃ o c, v = .slice o zs.length c := by
  have h1 : Sl w v (zs.map encStr) := Sl.of_own (n := (zs.map encStr).length) (by rw [List.length_map]; exact h)
  obtain ⟨o, c, hv⟩ := h1.slice
  exact ⟨o, c, by simpa using hv⟩
theorem sortT_c (v : Value) (ks : List ByteArray) (B : Nat) (w : World) (h : OwnS w B v ks) (hl : ks.length ≤ 1000000) : FnC Tryz.prog 123 #[v] w fun r w' => r = .tuple #[] ∧ OwnZ w' B v (srtB ks) ∧ Chg w w' v.ownBlock.toList := by
  obtain ⟨o, c, rfl⟩ := OwnS.sl h
  by_cases h0 : ks.length = 0
  · have e : ks = [] := List.length_eq_zero_iff.1 h0
    subst e
    refine FnC.of_calls hbSortS (Tryz.slices_Sort_string_none o c w) ?_
    rintro e w' ⟨rfl, rfl⟩
    have e0 : srtB [] = [] := by simp [srtB]
    exact ⟨_, rfl, rfl, by rw [e0]; exact h, Chg.refl _ _⟩
  · obtain ⟨g, rfl, _⟩ := own_addr h (by omega)
    have h' := OwnZ.of h
    have hlm : (ks.map fun k => k.data.toList).length = ks.length := List.length_map _
    unfold OwnZ at h'
    rw [hlm] at h'
    obtain ⟨h1, h2, h3⟩ := holds_own (enc := encStr) h'
    have hc := Tryz.slices_Sort_string g 0 c (ks.map fun k => k.data.toList) w h1 h2 (by omega)
    rw [hlm] at hc
    refine FnC.of_calls hbSortS hc ?_
    rintro e w' ⟨rfl, n, os, rfl⟩
    obtain ⟨p1, p2⟩ := own_put (enc := encStr) (q := n) (os := os) (d := ((ks.map fun k => k.data.toList).mergeSort fun x y => decide (x ≤ y)).toArray) h' (by simp)
    refine ⟨_, rfl, rfl, ?_, p2⟩
    unfold OwnZ
    rw [srtB_len]
    exact p1
theorem compactT_c (v : Value) (zs : List (List UInt8)) (B : Nat) (w : World) (h : OwnZ w B v zs) (hl : zs.length ≤ 1000000) : FnC Tryz.prog 89 #[v] w fun r w' => (∃ o c, r = .slice o (Lib.compact zs).length c) ∧ Chg w w' v.ownBlock.toList := by
  obtain ⟨o, c, rfl⟩ := OwnZ.sl h
  by_cases h0 : zs.length = 0
  · have e : zs = [] := List.length_eq_zero_iff.1 h0
    subst e
    refine FnC.of_calls hbCompS (Tryz.slices_Compact_string_empty o c w) ?_
    rintro e w' ⟨rfl, rfl⟩
    exact ⟨_, rfl, ⟨o, c, rfl⟩, Chg.refl _ _⟩
  · obtain ⟨g, rfl, _⟩ := own_addr h (by omega)
    obtain ⟨h1, h2, h3⟩ := holds_own (enc := encStr) h
    have hs : Sl w (.slice (some ⟨g, 0, none⟩) zs.length c) (zs.map encStr) := Sl.of_own (n := (zs.map encStr).length) (by rw [List.length_map]; exact h)
    obtain ⟨_, hcap, _⟩ := hs.len
    refine FnC.of_calls hbCompS (Tryz.slices_Compact_string g 0 c zs w h1 (by omega) hcap) ?_
    rintro e w' ⟨rfl, q, rfl⟩
    have hle : (Lib.compact zs).length ≤ zs.length := by
      unfold Lib.compact Lib.compactUpTo
      rw [List.length_map]
      have := List.length_filter_le (Lib.keeps zs.toArray) (List.range zs.length)
      simpa using this
    have hlen : (Lib.compact zs ++ List.replicate (zs.length - (Lib.compact zs).length) ([] : List UInt8)).length = zs.length := by simp; omega
    obtain ⟨p1, p2⟩ := own_put (enc := encStr) (q := q) (os := #[]) (d := (Lib.compact zs ++ List.replicate (zs.length - (Lib.compact zs).length) ([] : List UInt8)).toArray) h (by simpa using hlen)
    rw [grow_empty] at p1 p2
    exact ⟨_, rfl, ⟨_, _, rfl⟩, p2⟩
theorem sortedT_c (kl : Nat) (v : Value) (l : List ByteArray) (w : World) (hk : Blk w kl #[v] 22) (hs : StS w v l) (hl : l.length ≤ 1000000) :
    FnC Tryz.prog 87 #[.func (.func 124) #[] #[pt kl]] w fun v w' => OwnZ w' w.heap.size v (srtB l) ∧ Later w w' := by
  refine enter87 _ ?_
  unfold B87
  repeat' (first | (simp (disch := omega) only [push_cast, ↓reduceIte, zA, zG, zB, zH, zI, zC, zJ, zK, zL, zD, zE, zF, zM, zN, zO, zP, zQ, reduceCtorEq, not_true_eq_false, not_false_eq_true]) | (first | refine iE ?_ ?_ | refine iD ?_ ?_ | refine iQ ?_ ?_ | refine iV ?_ ?_) <;> intro _ | refine And.intro (by omega) ?_ | refine drawn_q ?_ | fail)
  refine (collectT_c kl v l w hk hs hl).mono ?_
  rintro v2 w2 ⟨ho, l2⟩
  obtain ⟨o2, c2, rfl⟩ := OwnS.sl ho
  repeat' (first | (simp (disch := omega) only [push_cast, ↓reduceIte, zA, zG, zB, zH, zI, zC, zJ, zK, zL, zD, zE, zF, zM, zN, zO, zP, zQ, reduceCtorEq, not_true_eq_false, not_false_eq_true]) | (first | refine iE ?_ ?_ | refine iD ?_ ?_ | refine iQ ?_ ?_ | refine iV ?_ ?_) <;> intro _ | refine And.intro (by omega) ?_ | refine drawn_q ?_ | fail)
  refine (sortT_c _ l _ w2 ho hl).mono ?_
  rintro _ w3 ⟨rfl, ho3, c3⟩
  have l3 : Later w w3 := Chg.later l2 c3 (own_ge ho)
  repeat' (first | (simp (disch := omega) only [push_cast, ↓reduceIte, zA, zG, zB, zH, zI, zC, zJ, zK, zL, zD, zE, zF, zM, zN, zO, zP, zQ, reduceCtorEq, not_true_eq_false, not_false_eq_true]) | (first | refine iE ?_ ?_ | refine iD ?_ ?_ | refine iQ ?_ ?_ | refine iV ?_ ?_) <;> intro _ | refine And.intro (by omega) ?_ | refine drawn_q ?_ | fail)
  first | exact ⟨ho3, l3⟩ | exact l3
end Go.Proofs.YtnofalhkapmcnaaGreat
end
section
set_option linter.unusedSimpArgs false
namespace Go.Proofs.YtnofalhkapmcnaaGreat
open Go.Vc Go.Key Go.Sort Go.Bkt
set_option maxRecDepth 100000
theorem typed1_c (f : FT) (w : World) : FnC Tryz.prog 91 #[.agg (ftC f).toArray] w fun v w' => v = .bool (!decide (VlOk f.value)) ∧ Later w w' := by
  refine enter91 _ ?_
  unfold B91
  have eca : (Value.agg (ftC f).toArray).cells = (ftC f).toArray := rfl
  obtain ⟨l1, s1, B1⟩ := ftBox w f
  repeat' (first | (simp (disch := omega) only [push_cast, ↓reduceIte, zA, zG, zB, zH, zI, zC, zJ, zK, zL, zD, zE, zF, zM, zN, zO, zP, zQ, reduceCtorEq, not_true_eq_false, not_false_eq_true, eca]) | (first | refine iE ?_ ?_ | refine iD ?_ ?_ | refine iQ ?_ ?_ | refine iV ?_ ?_) <;> intro _ | refine And.intro (by omega) ?_ | refine drawn_q ?_ | fail)
  generalize w.alloc (.cells (ftC f).toArray 29) = w1 at *
  generalize w.heap.size = kf at *
  obtain ⟨_, _, a2, _⟩ := ftAt B1
  repeat' (first | (simp (disch := omega) only [push_cast, ↓reduceIte, zA, zG, zB, zH, zI, zC, zJ, zK, zL, zD, zE, zF, zM, zN, zO, zP, zQ, reduceCtorEq, not_true_eq_false, not_false_eq_true, a2, addr_add_eq, Nat.zero_add]) | (first | refine iE ?_ ?_ | refine iD ?_ ?_ | refine iQ ?_ ?_ | refine iV ?_ ?_) <;> intro _ | refine And.intro (by omega) ?_ | refine drawn_q ?_ | fail)
  refine (tvalue_c f.value w1).mono ?_
  rintro _ w2 ⟨rfl, l2⟩
  repeat' (first | (simp (disch := omega) only [push_cast, ↓reduceIte, zA, zG, zB, zH, zI, zC, zJ, zK, zL, zD, zE, zF, zM, zN, zO, zP, zQ, reduceCtorEq, not_true_eq_false, not_false_eq_true]) | (first | refine iE ?_ ?_ | refine iD ?_ ?_ | refine iQ ?_ ?_ | refine iV ?_ ?_) <;> intro _ | refine And.intro (by omega) ?_ | refine drawn_q ?_ | fail)
  first | exact ⟨rfl, (l1.trans l2)⟩ | exact (l1.trans l2)
def IT (w0 : World) (B kf : Nat) (sv bv : Value) (zs : List (List UInt8)) (n m : Nat) (b0 b1 b2 b3 b4 b5 b6 b7 : Bool) (s1 s3 s4 s12 s13 s14 s15 s16 s17 s18 : Value) (w : World) : Prop :=
  (s1 = pt kf ∧ s3 = sv) ∧ Later w0 w ∧ (b1 = false → OwnZ w B sv zs) ∧ (b0 = true → s12 = sv) ∧ (b1 = true → ∃ o c, s13 = .slice o n c) ∧ (b2 = true → s14 = .int .i64 (n : Int)) ∧ (b3 = true → s15 = .pointer (some ⟨kf, 4, none⟩)) ∧ (b4 = true → s16 = bv) ∧ (b5 = true → s17 = .int .i64 (m : Int)) ∧ (b6 = true → s18 = .bool (decide ((n : Int) = (m : Int)))) ∧ (b7 = true → s4 = .bool (decide ((n : Int) = (m : Int))))
set_option maxHeartbeats 2000000 in
theorem reg72_c {w0 w1 : World} {B kf : Nat} {so bo : Option Addr} {sc bc : Nat} {zs : List (List UInt8)} {m : Nat} {K : Env → World → Prop} {σ : Env} (e1 : σ 1 = pt kf) (e3 : σ 3 = .slice so zs.length sc) (l01 : Later w0 w1) (hB : w0.heap.size ≤ B) (hF : ∀ w', Later w0 w' → w'.cell? ⟨kf, 4, none⟩ = some (.slice bo m bc)) (ho : OwnZ w1 B (.slice so zs.length sc) zs) (hl : zs.length ≤ 1000000)
    (hK : ∀ (σ1 : Env) (w2 : World), σ1 1 = pt kf → σ1 4 = .bool (decide (((Lib.compact zs).length : Int) = (m : Int))) → Later w0 w2 → K σ1 w2) :
    anyA Tryz.prog r44_2 [[], [0], [1], [], [3], [4], [2, 5], [6, 1, 0, 1, 2, 3, 4, 5, 6]] K σ w1 := by
  refine ⟨fun D σ1 w => IT w0 B kf (.slice so zs.length sc) (.slice bo m bc) zs (Lib.compact zs).length m (D 0) (D 1) (D 2) (D 3) (D 4) (D 5) (D 6) (D 7) (σ1 1) (σ1 3) (σ1 4) (σ1 12) (σ1 13) (σ1 14) (σ1 15) (σ1 16) (σ1 17) (σ1 18) w, ?_, ?_, ?_⟩
  · intro w' hl2
    exact ⟨⟨e1, e3⟩, l01.trans hl2, fun _ => own_later ho hl2, (fun h => by cases h), (fun h => by cases h), (fun h => by cases h), (fun h => by cases h), (fun h => by cases h), (fun h => by cases h), (fun h => by cases h), (fun h => by cases h)⟩
  · intro D σ1 w2 j o hcl hI hoj hDj hwt
    obtain ⟨⟨g1, g3⟩, hlt, hown, k0, k1, k2, k3, k4, k5, k6, k7⟩ := hI
    have c4 := hF w2 hlt
    match j, hoj with
    | 0, hoj =>
      obtain rfl := Option.some.inj hoj
      repeat' (first | (simp (disch := omega) only [push_cast, ↓reduceIte, zA, zG, zB, zH, zI, zC, zJ, zK, zL, zD, zE, zF, zM, zN, zO, zP, zQ, reduceCtorEq, not_true_eq_false, not_false_eq_true, g3]) | (first | refine iE ?_ ?_ | refine iD ?_ ?_ | refine iQ ?_ ?_ | refine iV ?_ ?_) <;> intro _ | refine And.intro (by omega) ?_ | refine drawn_q ?_ | fail)
      exact ⟨⟨g1, by first | exact g3 | rfl⟩, hlt, hown, fun _ => rfl, k1, k2, k3, k4, k5, k6, k7⟩
    | 1, hoj =>
      obtain rfl := Option.some.inj hoj
      have h12 := k0 (waits_at' hwt rfl (by simp))
      have hw := hown hDj
      repeat' (first | (simp (disch := omega) only [push_cast, ↓reduceIte, zA, zG, zB, zH, zI, zC, zJ, zK, zL, zD, zE, zF, zM, zN, zO, zP, zQ, reduceCtorEq, not_true_eq_false, not_false_eq_true, h12]) | (first | refine iE ?_ ?_ | refine iD ?_ ?_ | refine iQ ?_ ?_ | refine iV ?_ ?_) <;> intro _ | refine And.intro (by omega) ?_ | refine drawn_q ?_ | fail)
      refine (compactT_c _ zs B w2 hw hl).mono ?_
      rintro _ w3 ⟨⟨o2, c2, rfl⟩, c3⟩
      have l3 : Later w0 w3 := Chg.later hlt c3 (fun k hk => Nat.le_trans hB (own_ge hw k hk))
      repeat' (first | (simp (disch := omega) only [push_cast, ↓reduceIte, zA, zG, zB, zH, zI, zC, zJ, zK, zL, zD, zE, zF, zM, zN, zO, zP, zQ, reduceCtorEq, not_true_eq_false, not_false_eq_true]) | (first | refine iE ?_ ?_ | refine iD ?_ ?_ | refine iQ ?_ ?_ | refine iV ?_ ?_) <;> intro _ | refine And.intro (by omega) ?_ | refine drawn_q ?_ | fail)
      exact ⟨⟨g1, g3⟩, l3, (fun h => by cases h), k0, fun _ => ⟨o2, c2, rfl⟩, k2, k3, k4, k5, k6, k7⟩
    | 2, hoj =>
      obtain rfl := Option.some.inj hoj
      obtain ⟨o2, c2, h13⟩ := k1 (waits_at' hwt rfl (by simp))
      repeat' (first | (simp (disch := omega) only [push_cast, ↓reduceIte, zA, zG, zB, zH, zI, zC, zJ, zK, zL, zD, zE, zF, zM, zN, zO, zP, zQ, reduceCtorEq, not_true_eq_false, not_false_eq_true, h13]) | (first | refine iE ?_ ?_ | refine iD ?_ ?_ | refine iQ ?_ ?_ | refine iV ?_ ?_) <;> intro _ | refine And.intro (by omega) ?_ | refine drawn_q ?_ | fail)
      exact ⟨⟨g1, g3⟩, hlt, hown, k0, fun _ => ⟨o2, c2, by first | exact h13 | rfl⟩, fun _ => rfl, k3, k4, k5, k6, k7⟩
    | 3, hoj =>
      obtain rfl := Option.some.inj hoj
      repeat' (first | (simp (disch := omega) only [push_cast, ↓reduceIte, zA, zG, zB, zH, zI, zC, zJ, zK, zL, zD, zE, zF, zM, zN, zO, zP, zQ, reduceCtorEq, not_true_eq_false, not_false_eq_true, g1, addr_add_eq, Nat.zero_add]) | (first | refine iE ?_ ?_ | refine iD ?_ ?_ | refine iQ ?_ ?_ | refine iV ?_ ?_) <;> intro _ | refine And.intro (by omega) ?_ | refine drawn_q ?_ | fail)
      exact ⟨⟨by first | exact g1 | rfl, g3⟩, hlt, hown, k0, k1, k2, fun _ => rfl, k4, k5, k6, k7⟩
    | 4, hoj =>
      obtain rfl := Option.some.inj hoj
      have h15 := k3 (waits_at' hwt rfl (by simp))
      repeat' (first | (simp (disch := omega) only [push_cast, ↓reduceIte, zA, zG, zB, zH, zI, zC, zJ, zK, zL, zD, zE, zF, zM, zN, zO, zP, zQ, reduceCtorEq, not_true_eq_false, not_false_eq_true, h15, c4]) | (first | refine iE ?_ ?_ | refine iD ?_ ?_ | refine iQ ?_ ?_ | refine iV ?_ ?_) <;> intro _ | refine And.intro (by omega) ?_ | refine drawn_q ?_ | fail)
      exact ⟨⟨g1, g3⟩, hlt, hown, k0, k1, k2, fun _ => by first | exact h15 | rfl, fun _ => rfl, k5, k6, k7⟩
    | 5, hoj =>
      obtain rfl := Option.some.inj hoj
      have h16 := k4 (waits_at' hwt rfl (by simp))
      repeat' (first | (simp (disch := omega) only [push_cast, ↓reduceIte, zA, zG, zB, zH, zI, zC, zJ, zK, zL, zD, zE, zF, zM, zN, zO, zP, zQ, reduceCtorEq, not_true_eq_false, not_false_eq_true, h16]) | (first | refine iE ?_ ?_ | refine iD ?_ ?_ | refine iQ ?_ ?_ | refine iV ?_ ?_) <;> intro _ | refine And.intro (by omega) ?_ | refine drawn_q ?_ | fail)
      exact ⟨⟨g1, g3⟩, hlt, hown, k0, k1, k2, k3, fun _ => by first | exact h16 | rfl, fun _ => rfl, k6, k7⟩
    | 6, hoj =>
      obtain rfl := Option.some.inj hoj
      have h14 := k2 (waits_at' hwt rfl (i := 2) (by simp))
      have h17 := k5 (waits_at' hwt rfl (i := 5) (by simp))
      repeat' (first | (simp (disch := omega) only [push_cast, ↓reduceIte, zA, zG, zB, zH, zI, zC, zJ, zK, zL, zD, zE, zF, zM, zN, zO, zP, zQ, reduceCtorEq, not_true_eq_false, not_false_eq_true, h14, h17]) | (first | refine iE ?_ ?_ | refine iD ?_ ?_ | refine iQ ?_ ?_ | refine iV ?_ ?_) <;> intro _ | refine And.intro (by omega) ?_ | refine drawn_q ?_ | fail)
      exact ⟨⟨g1, g3⟩, hlt, hown, k0, k1, fun _ => by first | exact h14 | rfl, k3, k4, fun _ => by first | exact h17 | rfl, fun _ => rfl, k7⟩
    | 7, hoj =>
      obtain rfl := Option.some.inj hoj
      have h18 := k6 (waits_at' hwt rfl (i := 6) (by simp))
      repeat' (first | (simp (disch := omega) only [push_cast, ↓reduceIte, zA, zG, zB, zH, zI, zC, zJ, zK, zL, zD, zE, zF, zM, zN, zO, zP, zQ, reduceCtorEq, not_true_eq_false, not_false_eq_true, h18]) | (first | refine iE ?_ ?_ | refine iD ?_ ?_ | refine iQ ?_ ?_ | refine iV ?_ ?_) <;> intro _ | refine And.intro (by omega) ?_ | refine drawn_q ?_ | fail)
      exact ⟨⟨g1, g3⟩, hlt, hown, k0, k1, k2, k3, k4, k5, fun _ => by first | exact h18 | rfl, fun _ => rfl⟩
    | n + 8, hoj => exact absurd hoj (by simp [r44_2])
  · intro D σ1 w2 hI hall
    obtain ⟨⟨g1, g3⟩, hlt, _, _, _, _, _, _, _, _, k7⟩ := hI
    exact hK σ1 w2 g1 (k7 (hall 7 (by decide))) hlt
set_option maxHeartbeats 4000000 in
theorem typed_c (q : QD) (w : World) (hq : q.Ok w) (hcn : q.wh.cnt ≤ 1000000) (hbl : q.bl.length ≤ 1000) (hsh : shOk q = true) : FnC Tryz.prog 44 #[.agg (qdC q).toArray] w fun v w' => v = .bool (tpOk q) ∧ Later w w' := by
  obtain ⟨to, tc, htv, ht1, ht2⟩ := RecS.slice hq.tv
  obtain ⟨bo, bc, hbv⟩ := Sl.slice hq.bv
  rw [List.length_map] at hbv
  have hvals : q.wh.vals.all (fun s => decide (VlOk s)) = q.wh.cvals.all (fun s => decide (VlOk s)) := by
    have h0 : decide (VlOk ⟨#[]⟩) = true := by decide
    unfold shOk at hsh
    simp only [Bool.and_eq_true] at hsh
    have hw := hsh.2
    unfold whOk at hw
    split at hw
    · simp only [Bool.and_eq_true, decide_eq_true_eq] at hw
      obtain ⟨⟨k1, k2⟩, k3⟩ := hw
      rw [FT.vals_is, FT.cvals_is, List.length_eq_zero_iff.1 k1, k3]
      rename_i h00
      rw [h00, if_neg (by omega)]
      simp [h0]
    · exact form_vals _ h0 _ _ hw
  have hap := apart_iff q.bl
  refine enter44 _ ?_
  unfold B44
  have eca : (Value.agg (qdC q).toArray).cells = (qdC q).toArray := rfl
  have l1 := later_alloc w (.cells (qdC q).toArray 32)
  have B1 := Blk.new w (qdC q).toArray 32
  repeat' (first | (simp (disch := omega) only [push_cast, ↓reduceIte, zA, zG, zB, zH, zI, zC, zJ, zK, zL, zD, zE, zF, zM, zN, zO, zP, zQ, reduceCtorEq, not_true_eq_false, not_false_eq_true, eca]) | (first | refine iE ?_ ?_ | refine iD ?_ ?_ | refine iQ ?_ ?_ | refine iV ?_ ?_) <;> intro _ | refine And.intro (by omega) ?_ | refine drawn_q ?_ | fail)
  generalize w.alloc (.cells (qdC q).toArray 32) = w1 at *
  generalize w.heap.size = kf at *
  have FQ : ∀ w', Later w1 w' → w'.cell? ⟨kf, 0, none⟩ = some (.slice to q.tl.length tc) ∧ w'.cell? ⟨kf, 1, none⟩ = some (.int .i64 q.fr) ∧ w'.cell? ⟨kf, 2, none⟩ = some (.int .i64 q.to) ∧ w'.cell? ⟨kf, 3, none⟩ = some (.int .i64 q.ev) ∧ w'.cell? ⟨kf, 4, none⟩ = some (.slice bo q.bl.length bc) ∧ w'.cell? ⟨kf, 10, none⟩ = some (.int .i64 q.od) ∧ w'.cell? ⟨kf, 11, none⟩ = some (.int .i64 q.lm) ∧ cellsAt w' ⟨kf, 5, none⟩ 4 = some (ftC q.wh) := by
    intro w' hl
    obtain ⟨a0, a1, a2, a3, a4, b5, b6, b7, b8, a9, a10, a11⟩ := qdAt (qdLater B1 hl)
    refine ⟨by rw [a0, htv], a1, a2, a3, by rw [a4, hbv], a10, a11, ?_⟩
    refine cellsAt_of 4 _ _ rfl fun i y hx => ?_
    rw [addr_add_eq]
    match i, hx with
    | 0, hx => cases hx; exact b5
    | 1, hx => cases hx; exact b6
    | 2, hx => cases hx; exact b7
    | 3, hx => cases hx; exact b8
    | n + 4, hx => exact absurd hx (by simp [ftC])
  obtain ⟨_, _, _, _, a4, _, _, _⟩ := FQ w1 (Later.refl _)
  repeat' (first | (simp (disch := omega) only [push_cast, ↓reduceIte, zA, zG, zB, zH, zI, zC, zJ, zK, zL, zD, zE, zF, zM, zN, zO, zP, zQ, reduceCtorEq, not_true_eq_false, not_false_eq_true, a4, addr_add_eq, Nat.zero_add]) | (first | refine iE ?_ ?_ | refine iD ?_ ?_ | refine iQ ?_ ?_ | refine iV ?_ ?_) <;> intro _ | refine And.intro (by omega) ?_ | refine drawn_q ?_ | fail)
  refine (values_c2 bo q.bl.length bc w1).mono ?_
  rintro _ w2 ⟨rfl, l2, B2⟩
  have hbs := hq.bv.later (l1.trans l2)
  rw [hbv] at hbs
  repeat' (first | (simp (disch := omega) only [push_cast, ↓reduceIte, zA, zG, zB, zH, zI, zC, zJ, zK, zL, zD, zE, zF, zM, zN, zO, zP, zQ, reduceCtorEq, not_true_eq_false, not_false_eq_true]) | (first | refine iE ?_ ?_ | refine iD ?_ ?_ | refine iQ ?_ ?_ | refine iV ?_ ?_) <;> intro _ | refine And.intro (by omega) ?_ | refine drawn_q ?_ | fail)
  refine (sortedT_c w1.heap.size _ q.bl w2 B2 hbs (by omega)).mono ?_
  rintro sv w3 ⟨ho3, l3⟩
  have hsl : (srtB q.bl).length = q.bl.length := srtB_len q.bl
  obtain ⟨so, sc, rfl⟩ := OwnZ.sl ho3
  have l13 := l2.trans l3
  repeat' (first | (simp (disch := omega) only [push_cast, ↓reduceIte, zA, zG, zB, zH, zI, zC, zJ, zK, zL, zD, zE, zF, zM, zN, zO, zP, zQ, reduceCtorEq, not_true_eq_false, not_false_eq_true]) | (first | refine iE ?_ ?_ | refine iD ?_ ?_ | refine iQ ?_ ?_ | refine iV ?_ ?_) <;> intro _ | refine And.intro (by omega) ?_ | fail)
  refine Or.inr (reg72_c (w0 := w1) (bo := bo) (bc := bc) (m := q.bl.length) rfl rfl l13 l2.size (fun w' hl => (FQ w' hl).2.2.2.2.1) ho3 (by omega) ?_)
  intro σ1 w4 e1 e4 l4
  have hap1 : decide (((Lib.compact (srtB q.bl)).length : Int) = (q.bl.length : Int)) = decide (q.bl.Pairwise (fun x y => x ≠ y)) := decide_eq_decide.2 (by rw [Int.ofNat_inj]; exact hap)
  rw [hap1] at e4
  obtain ⟨_, _, _, _, _, _, _, f4⟩ := FQ w4 l4
  repeat' (first | (simp (disch := omega) only [push_cast, ↓reduceIte, zA, zG, zB, zH, zI, zC, zJ, zK, zL, zD, zE, zF, zM, zN, zO, zP, zQ, reduceCtorEq, not_true_eq_false, not_false_eq_true, e1, f4, addr_add_eq, Nat.zero_add]) | (first | refine iE ?_ ?_ | refine iD ?_ ?_ | refine iQ ?_ ?_ | refine iV ?_ ?_) <;> intro _ | refine And.intro (by omega) ?_ | refine drawn_q ?_ | fail)
  have hwh := hq.wh.later (l1.trans l4)
  refine (conditions_c q.wh w4 hwh hcn).mono ?_
  rintro cv w5 ⟨hc5, l5⟩
  have hcr := OwnR.s hc5
  obtain ⟨co, cc, rfl, _, _⟩ := RecS.slice hcr
  repeat' (first | (simp (disch := omega) only [push_cast, ↓reduceIte, zA, zG, zB, zH, zI, zC, zJ, zK, zL, zD, zE, zF, zM, zN, zO, zP, zQ, reduceCtorEq, not_true_eq_false, not_false_eq_true]) | (first | refine iE ?_ ?_ | refine iD ?_ ?_ | refine iQ ?_ ?_ | refine iV ?_ ?_) <;> intro _ | refine And.intro (by omega) ?_ | refine drawn_q ?_ | fail)
  refine (fcontainsF_c _ _ _ #[] (fun k => !decide (VlOk k.value)) w5 hcr (fun x _ w' hl => typed1_c x w')).mono ?_
  rintro _ w6 ⟨rfl, l6⟩
  have hvb : q.wh.conds.any (fun k => !decide (VlOk k.value)) = !q.wh.vals.all (fun s => decide (VlOk s)) := by
    rw [any_not, hvals, ← FT.conds_vals, List.all_map]; rfl
  rw [hvb]
  have l16 := l4.trans (l5.trans l6)
  have l06 := l1.trans l16
  obtain ⟨f0, f1, f2, f3, _, f10, f11, _⟩ := FQ w6 l16
  have htp : tpOk q = (decide (q.bl.Pairwise (fun x y => x ≠ y)) && q.wh.vals.all (fun s => decide (VlOk s)) && evOk q && decide (tyNum q)) := rfl
  have hIe := hq.ev
  have hneg : IntKind.i64.wrap (-(q.tl.length : Int)) = -(q.tl.length : Int) := by simp (disch := omega) only [push_cast, ↓reduceIte, zA, zG, zB, zH, zI, zC, zJ, zK, zL, zD, zE, zF, zM, zN, zO, zP, zQ, reduceCtorEq, not_true_eq_false, not_false_eq_true]
  have hev : evOk q = (decide (q.ev = 0) || decide (Rt q.ev)) := by
    unfold evOk grOk Rt
    rw [← Bool.decide_and]
  generalize decide (q.bl.Pairwise (fun x y => x ≠ y)) = a at *
  generalize q.wh.vals.all (fun s => decide (VlOk s)) = b at *
  cases a with
  | false =>
    by_cases t1 : 0 ≤ q.fr
    case neg =>
      have dt1 : decide (0 ≤ q.fr) = false := decide_eq_false t1
      have ht : tpOk q = false := by rw [htp]; rw [decide_eq_false (p := tyNum q) (fun h => by unfold tyNum at h; omega), Bool.and_false]
      rw [ht]
      repeat' (first | (simp (disch := omega) only [push_cast, ↓reduceIte, zA, zG, zB, zH, zI, zC, zJ, zK, zL, zD, zE, zF, zM, zN, zO, zP, zQ, reduceCtorEq, not_true_eq_false, not_false_eq_true, e1, e4, f0, f1, f2, f3, f10, f11, hneg, dt1, addr_add_eq, Nat.zero_add]) | (first | refine iE ?_ ?_ | refine iD ?_ ?_ | refine iQ ?_ ?_ | refine iV ?_ ?_) <;> intro _ | refine And.intro (by omega) ?_ | refine drawn_q ?_ | fail)
      first | exact ⟨rfl, l06⟩ | exact l06
    have dt1 : decide (0 ≤ q.fr) = true := decide_eq_true t1
    by_cases t2 : q.fr < q.to
    case neg =>
      have dt2 : decide (q.fr < q.to) = false := decide_eq_false t2
      have ht : tpOk q = false := by rw [htp]; rw [decide_eq_false (p := tyNum q) (fun h => by unfold tyNum at h; omega), Bool.and_false]
      rw [ht]
      repeat' (first | (simp (disch := omega) only [push_cast, ↓reduceIte, zA, zG, zB, zH, zI, zC, zJ, zK, zL, zD, zE, zF, zM, zN, zO, zP, zQ, reduceCtorEq, not_true_eq_false, not_false_eq_true, e1, e4, f0, f1, f2, f3, f10, f11, hneg, dt1, dt2, addr_add_eq, Nat.zero_add]) | (first | refine iE ?_ ?_ | refine iD ?_ ?_ | refine iQ ?_ ?_ | refine iV ?_ ?_) <;> intro _ | refine And.intro (by omega) ?_ | refine drawn_q ?_ | fail)
      first | exact ⟨rfl, l06⟩ | exact l06
    have dt2 : decide (q.fr < q.to) = true := decide_eq_true t2
    by_cases t3 : q.to ≤ 1099511627776
    case neg =>
      have dt3 : decide (q.to ≤ 1099511627776) = false := decide_eq_false t3
      have ht : tpOk q = false := by rw [htp]; rw [decide_eq_false (p := tyNum q) (fun h => by unfold tyNum at h; omega), Bool.and_false]
      rw [ht]
      repeat' (first | (simp (disch := omega) only [push_cast, ↓reduceIte, zA, zG, zB, zH, zI, zC, zJ, zK, zL, zD, zE, zF, zM, zN, zO, zP, zQ, reduceCtorEq, not_true_eq_false, not_false_eq_true, e1, e4, f0, f1, f2, f3, f10, f11, hneg, dt1, dt2, dt3, addr_add_eq, Nat.zero_add]) | (first | refine iE ?_ ?_ | refine iD ?_ ?_ | refine iQ ?_ ?_ | refine iV ?_ ?_) <;> intro _ | refine And.intro (by omega) ?_ | refine drawn_q ?_ | fail)
      first | exact ⟨rfl, l06⟩ | exact l06
    have dt3 : decide (q.to ≤ 1099511627776) = true := decide_eq_true t3
    by_cases hz : q.ev = 0
    case pos =>
      have dz : decide (q.ev = 0) = true := decide_eq_true hz
      have hevv : evOk q = true := by rw [hev, dz]; rfl
      have ht : tpOk q = false := by rw [htp]; simp
      rw [ht]
      repeat' (first | (simp (disch := omega) only [push_cast, ↓reduceIte, zA, zG, zB, zH, zI, zC, zJ, zK, zL, zD, zE, zF, zM, zN, zO, zP, zQ, reduceCtorEq, not_true_eq_false, not_false_eq_true, e1, e4, f0, f1, f2, f3, f10, f11, hneg, dt1, dt2, dt3, dz, addr_add_eq, Nat.zero_add]) | (first | refine iE ?_ ?_ | refine iD ?_ ?_ | refine iQ ?_ ?_ | refine iV ?_ ?_) <;> intro _ | refine And.intro (by omega) ?_ | refine drawn_q ?_ | fail)
      first | exact ⟨rfl, l06⟩ | exact l06
    have dz : decide (q.ev = 0) = false := decide_eq_false hz
    repeat' (first | (simp (disch := omega) only [push_cast, ↓reduceIte, zA, zG, zB, zH, zI, zC, zJ, zK, zL, zD, zE, zF, zM, zN, zO, zP, zQ, reduceCtorEq, not_true_eq_false, not_false_eq_true, e1, e4, f0, f1, f2, f3, f10, f11, hneg, dt1, dt2, dt3, dz, addr_add_eq, Nat.zero_add]) | (first | refine iE ?_ ?_ | refine iD ?_ ?_ | refine iQ ?_ ?_ | refine iV ?_ ?_) <;> intro _ | refine And.intro (by omega) ?_ | refine drawn_q ?_ | fail)
    refine (bright_c q.ev w6 hIe).mono ?_
    rintro _ w7 ⟨rfl, h7⟩
    obtain rfl := h7.symm
    cases hR : decide (Rt q.ev) with
    | false =>
      have hevv : evOk q = false := by rw [hev, dz, hR]; rfl
      have ht : tpOk q = false := by rw [htp]; rw [hevv]; simp
      rw [ht]
      repeat' (first | (simp (disch := omega) only [push_cast, ↓reduceIte, zA, zG, zB, zH, zI, zC, zJ, zK, zL, zD, zE, zF, zM, zN, zO, zP, zQ, reduceCtorEq, not_true_eq_false, not_false_eq_true, e1, e4, f0, f1, f2, f3, f10, f11, hneg, dt1, dt2, dt3, dz, addr_add_eq, Nat.zero_add]) | (first | refine iE ?_ ?_ | refine iD ?_ ?_ | refine iQ ?_ ?_ | refine iV ?_ ?_) <;> intro _ | refine And.intro (by omega) ?_ | refine drawn_q ?_ | fail)
      first | exact ⟨rfl, l06⟩ | exact l06
    | true =>
      have hevv : evOk q = true := by rw [hev, dz, hR]; rfl
      have ht : tpOk q = false := by rw [htp]; simp
      rw [ht]
      repeat' (first | (simp (disch := omega) only [push_cast, ↓reduceIte, zA, zG, zB, zH, zI, zC, zJ, zK, zL, zD, zE, zF, zM, zN, zO, zP, zQ, reduceCtorEq, not_true_eq_false, not_false_eq_true, e1, e4, f0, f1, f2, f3, f10, f11, hneg, dt1, dt2, dt3, dz, addr_add_eq, Nat.zero_add]) | (first | refine iE ?_ ?_ | refine iD ?_ ?_ | refine iQ ?_ ?_ | refine iV ?_ ?_) <;> intro _ | refine And.intro (by omega) ?_ | refine drawn_q ?_ | fail)
      first | exact ⟨rfl, l06⟩ | exact l06
  | true =>
  cases b with
  | false =>
    by_cases t1 : 0 ≤ q.fr
    case neg =>
      have dt1 : decide (0 ≤ q.fr) = false := decide_eq_false t1
      have ht : tpOk q = false := by rw [htp]; rw [decide_eq_false (p := tyNum q) (fun h => by unfold tyNum at h; omega), Bool.and_false]
      rw [ht]
      repeat' (first | (simp (disch := omega) only [push_cast, ↓reduceIte, zA, zG, zB, zH, zI, zC, zJ, zK, zL, zD, zE, zF, zM, zN, zO, zP, zQ, reduceCtorEq, not_true_eq_false, not_false_eq_true, e1, e4, f0, f1, f2, f3, f10, f11, hneg, dt1, addr_add_eq, Nat.zero_add]) | (first | refine iE ?_ ?_ | refine iD ?_ ?_ | refine iQ ?_ ?_ | refine iV ?_ ?_) <;> intro _ | refine And.intro (by omega) ?_ | refine drawn_q ?_ | fail)
      first | exact ⟨rfl, l06⟩ | exact l06
    have dt1 : decide (0 ≤ q.fr) = true := decide_eq_true t1
    by_cases t2 : q.fr < q.to
    case neg =>
      have dt2 : decide (q.fr < q.to) = false := decide_eq_false t2
      have ht : tpOk q = false := by rw [htp]; rw [decide_eq_false (p := tyNum q) (fun h => by unfold tyNum at h; omega), Bool.and_false]
      rw [ht]
      repeat' (first | (simp (disch := omega) only [push_cast, ↓reduceIte, zA, zG, zB, zH, zI, zC, zJ, zK, zL, zD, zE, zF, zM, zN, zO, zP, zQ, reduceCtorEq, not_true_eq_false, not_false_eq_true, e1, e4, f0, f1, f2, f3, f10, f11, hneg, dt1, dt2, addr_add_eq, Nat.zero_add]) | (first | refine iE ?_ ?_ | refine iD ?_ ?_ | refine iQ ?_ ?_ | refine iV ?_ ?_) <;> intro _ | refine And.intro (by omega) ?_ | refine drawn_q ?_ | fail)
      first | exact ⟨rfl, l06⟩ | exact l06
    have dt2 : decide (q.fr < q.to) = true := decide_eq_true t2
    by_cases t3 : q.to ≤ 1099511627776
    case neg =>
      have dt3 : decide (q.to ≤ 1099511627776) = false := decide_eq_false t3
      have ht : tpOk q = false := by rw [htp]; rw [decide_eq_false (p := tyNum q) (fun h => by unfold tyNum at h; omega), Bool.and_false]
      rw [ht]
      repeat' (first | (simp (disch := omega) only [push_cast, ↓reduceIte, zA, zG, zB, zH, zI, zC, zJ, zK, zL, zD, zE, zF, zM, zN, zO, zP, zQ, reduceCtorEq, not_true_eq_false, not_false_eq_true, e1, e4, f0, f1, f2, f3, f10, f11, hneg, dt1, dt2, dt3, addr_add_eq, Nat.zero_add]) | (first | refine iE ?_ ?_ | refine iD ?_ ?_ | refine iQ ?_ ?_ | refine iV ?_ ?_) <;> intro _ | refine And.intro (by omega) ?_ | refine drawn_q ?_ | fail)
      first | exact ⟨rfl, l06⟩ | exact l06
    have dt3 : decide (q.to ≤ 1099511627776) = true := decide_eq_true t3
    by_cases hz : q.ev = 0
    case pos =>
      have dz : decide (q.ev = 0) = true := decide_eq_true hz
      have hevv : evOk q = true := by rw [hev, dz]; rfl
      have ht : tpOk q = false := by rw [htp]; simp
      rw [ht]
      repeat' (first | (simp (disch := omega) only [push_cast, ↓reduceIte, zA, zG, zB, zH, zI, zC, zJ, zK, zL, zD, zE, zF, zM, zN, zO, zP, zQ, reduceCtorEq, not_true_eq_false, not_false_eq_true, e1, e4, f0, f1, f2, f3, f10, f11, hneg, dt1, dt2, dt3, dz, addr_add_eq, Nat.zero_add]) | (first | refine iE ?_ ?_ | refine iD ?_ ?_ | refine iQ ?_ ?_ | refine iV ?_ ?_) <;> intro _ | refine And.intro (by omega) ?_ | refine drawn_q ?_ | fail)
      first | exact ⟨rfl, l06⟩ | exact l06
    have dz : decide (q.ev = 0) = false := decide_eq_false hz
    repeat' (first | (simp (disch := omega) only [push_cast, ↓reduceIte, zA, zG, zB, zH, zI, zC, zJ, zK, zL, zD, zE, zF, zM, zN, zO, zP, zQ, reduceCtorEq, not_true_eq_false, not_false_eq_true, e1, e4, f0, f1, f2, f3, f10, f11, hneg, dt1, dt2, dt3, dz, addr_add_eq, Nat.zero_add]) | (first | refine iE ?_ ?_ | refine iD ?_ ?_ | refine iQ ?_ ?_ | refine iV ?_ ?_) <;> intro _ | refine And.intro (by omega) ?_ | refine drawn_q ?_ | fail)
    refine (bright_c q.ev w6 hIe).mono ?_
    rintro _ w7 ⟨rfl, h7⟩
    obtain rfl := h7.symm
    cases hR : decide (Rt q.ev) with
    | false =>
      have hevv : evOk q = false := by rw [hev, dz, hR]; rfl
      have ht : tpOk q = false := by rw [htp]; rw [hevv]; simp
      rw [ht]
      repeat' (first | (simp (disch := omega) only [push_cast, ↓reduceIte, zA, zG, zB, zH, zI, zC, zJ, zK, zL, zD, zE, zF, zM, zN, zO, zP, zQ, reduceCtorEq, not_true_eq_false, not_false_eq_true, e1, e4, f0, f1, f2, f3, f10, f11, hneg, dt1, dt2, dt3, dz, addr_add_eq, Nat.zero_add]) | (first | refine iE ?_ ?_ | refine iD ?_ ?_ | refine iQ ?_ ?_ | refine iV ?_ ?_) <;> intro _ | refine And.intro (by omega) ?_ | refine drawn_q ?_ | fail)
      first | exact ⟨rfl, l06⟩ | exact l06
    | true =>
      have hevv : evOk q = true := by rw [hev, dz, hR]; rfl
      have ht : tpOk q = false := by rw [htp]; simp
      rw [ht]
      repeat' (first | (simp (disch := omega) only [push_cast, ↓reduceIte, zA, zG, zB, zH, zI, zC, zJ, zK, zL, zD, zE, zF, zM, zN, zO, zP, zQ, reduceCtorEq, not_true_eq_false, not_false_eq_true, e1, e4, f0, f1, f2, f3, f10, f11, hneg, dt1, dt2, dt3, dz, addr_add_eq, Nat.zero_add]) | (first | refine iE ?_ ?_ | refine iD ?_ ?_ | refine iQ ?_ ?_ | refine iV ?_ ?_) <;> intro _ | refine And.intro (by omega) ?_ | refine drawn_q ?_ | fail)
      first | exact ⟨rfl, l06⟩ | exact l06
  | true =>
    by_cases t1 : 0 ≤ q.fr
    case neg =>
      have dt1 : decide (0 ≤ q.fr) = false := decide_eq_false t1
      have ht : tpOk q = false := by rw [htp]; rw [decide_eq_false (p := tyNum q) (fun h => by unfold tyNum at h; omega), Bool.and_false]
      rw [ht]
      repeat' (first | (simp (disch := omega) only [push_cast, ↓reduceIte, zA, zG, zB, zH, zI, zC, zJ, zK, zL, zD, zE, zF, zM, zN, zO, zP, zQ, reduceCtorEq, not_true_eq_false, not_false_eq_true, e1, e4, f0, f1, f2, f3, f10, f11, hneg, dt1, addr_add_eq, Nat.zero_add]) | (first | refine iE ?_ ?_ | refine iD ?_ ?_ | refine iQ ?_ ?_ | refine iV ?_ ?_) <;> intro _ | refine And.intro (by omega) ?_ | refine drawn_q ?_ | fail)
      first | exact ⟨rfl, l06⟩ | exact l06
    have dt1 : decide (0 ≤ q.fr) = true := decide_eq_true t1
    by_cases t2 : q.fr < q.to
    case neg =>
      have dt2 : decide (q.fr < q.to) = false := decide_eq_false t2
      have ht : tpOk q = false := by rw [htp]; rw [decide_eq_false (p := tyNum q) (fun h => by unfold tyNum at h; omega), Bool.and_false]
      rw [ht]
      repeat' (first | (simp (disch := omega) only [push_cast, ↓reduceIte, zA, zG, zB, zH, zI, zC, zJ, zK, zL, zD, zE, zF, zM, zN, zO, zP, zQ, reduceCtorEq, not_true_eq_false, not_false_eq_true, e1, e4, f0, f1, f2, f3, f10, f11, hneg, dt1, dt2, addr_add_eq, Nat.zero_add]) | (first | refine iE ?_ ?_ | refine iD ?_ ?_ | refine iQ ?_ ?_ | refine iV ?_ ?_) <;> intro _ | refine And.intro (by omega) ?_ | refine drawn_q ?_ | fail)
      first | exact ⟨rfl, l06⟩ | exact l06
    have dt2 : decide (q.fr < q.to) = true := decide_eq_true t2
    by_cases t3 : q.to ≤ 1099511627776
    case neg =>
      have dt3 : decide (q.to ≤ 1099511627776) = false := decide_eq_false t3
      have ht : tpOk q = false := by rw [htp]; rw [decide_eq_false (p := tyNum q) (fun h => by unfold tyNum at h; omega), Bool.and_false]
      rw [ht]
      repeat' (first | (simp (disch := omega) only [push_cast, ↓reduceIte, zA, zG, zB, zH, zI, zC, zJ, zK, zL, zD, zE, zF, zM, zN, zO, zP, zQ, reduceCtorEq, not_true_eq_false, not_false_eq_true, e1, e4, f0, f1, f2, f3, f10, f11, hneg, dt1, dt2, dt3, addr_add_eq, Nat.zero_add]) | (first | refine iE ?_ ?_ | refine iD ?_ ?_ | refine iQ ?_ ?_ | refine iV ?_ ?_) <;> intro _ | refine And.intro (by omega) ?_ | refine drawn_q ?_ | fail)
      first | exact ⟨rfl, l06⟩ | exact l06
    have dt3 : decide (q.to ≤ 1099511627776) = true := decide_eq_true t3
    by_cases hz : q.ev = 0
    case pos =>
      have dz : decide (q.ev = 0) = true := decide_eq_true hz
      have hevv : evOk q = true := by rw [hev, dz]; rfl
      by_cases o1 : -(q.tl.length : Int) ≤ q.od
      case neg =>
        have do1 : decide (-(q.tl.length : Int) ≤ q.od) = false := decide_eq_false o1
        have ht : tpOk q = false := by rw [htp]; rw [decide_eq_false (p := tyNum q) (fun h => by unfold tyNum at h; omega), Bool.and_false]
        rw [ht]
        repeat' (first | (simp (disch := omega) only [push_cast, ↓reduceIte, zA, zG, zB, zH, zI, zC, zJ, zK, zL, zD, zE, zF, zM, zN, zO, zP, zQ, reduceCtorEq, not_true_eq_false, not_false_eq_true, e1, e4, f0, f1, f2, f3, f10, f11, hneg, dt1, dt2, dt3, dz, do1, addr_add_eq, Nat.zero_add]) | (first | refine iE ?_ ?_ | refine iD ?_ ?_ | refine iQ ?_ ?_ | refine iV ?_ ?_) <;> intro _ | refine And.intro (by omega) ?_ | refine drawn_q ?_ | fail)
        first | exact ⟨rfl, l06⟩ | exact l06
      have do1 : decide (-(q.tl.length : Int) ≤ q.od) = true := decide_eq_true o1
      by_cases o2 : q.od ≤ (q.tl.length : Int)
      case neg =>
        have do2 : decide (q.od ≤ (q.tl.length : Int)) = false := decide_eq_false o2
        have ht : tpOk q = false := by rw [htp]; rw [decide_eq_false (p := tyNum q) (fun h => by unfold tyNum at h; omega), Bool.and_false]
        rw [ht]
        repeat' (first | (simp (disch := omega) only [push_cast, ↓reduceIte, zA, zG, zB, zH, zI, zC, zJ, zK, zL, zD, zE, zF, zM, zN, zO, zP, zQ, reduceCtorEq, not_true_eq_false, not_false_eq_true, e1, e4, f0, f1, f2, f3, f10, f11, hneg, dt1, dt2, dt3, dz, do1, do2, addr_add_eq, Nat.zero_add]) | (first | refine iE ?_ ?_ | refine iD ?_ ?_ | refine iQ ?_ ?_ | refine iV ?_ ?_) <;> intro _ | refine And.intro (by omega) ?_ | refine drawn_q ?_ | fail)
        first | exact ⟨rfl, l06⟩ | exact l06
      have do2 : decide (q.od ≤ (q.tl.length : Int)) = true := decide_eq_true o2
      by_cases o3 : 0 ≤ q.lm
      case neg =>
        have do3 : decide (0 ≤ q.lm) = false := decide_eq_false o3
        have ht : tpOk q = false := by rw [htp]; rw [decide_eq_false (p := tyNum q) (fun h => by unfold tyNum at h; omega), Bool.and_false]
        rw [ht]
        repeat' (first | (simp (disch := omega) only [push_cast, ↓reduceIte, zA, zG, zB, zH, zI, zC, zJ, zK, zL, zD, zE, zF, zM, zN, zO, zP, zQ, reduceCtorEq, not_true_eq_false, not_false_eq_true, e1, e4, f0, f1, f2, f3, f10, f11, hneg, dt1, dt2, dt3, dz, do1, do2, do3, addr_add_eq, Nat.zero_add]) | (first | refine iE ?_ ?_ | refine iD ?_ ?_ | refine iQ ?_ ?_ | refine iV ?_ ?_) <;> intro _ | refine And.intro (by omega) ?_ | refine drawn_q ?_ | fail)
        first | exact ⟨rfl, l06⟩ | exact l06
      have do3 : decide (0 ≤ q.lm) = true := decide_eq_true o3
      by_cases o4 : q.lm ≤ 1000
      case neg =>
        have do4 : decide (q.lm ≤ 1000) = false := decide_eq_false o4
        have ht : tpOk q = false := by rw [htp]; rw [decide_eq_false (p := tyNum q) (fun h => by unfold tyNum at h; omega), Bool.and_false]
        rw [ht]
        repeat' (first | (simp (disch := omega) only [push_cast, ↓reduceIte, zA, zG, zB, zH, zI, zC, zJ, zK, zL, zD, zE, zF, zM, zN, zO, zP, zQ, reduceCtorEq, not_true_eq_false, not_false_eq_true, e1, e4, f0, f1, f2, f3, f10, f11, hneg, dt1, dt2, dt3, dz, do1, do2, do3, do4, addr_add_eq, Nat.zero_add]) | (first | refine iE ?_ ?_ | refine iD ?_ ?_ | refine iQ ?_ ?_ | refine iV ?_ ?_) <;> intro _ | refine And.intro (by omega) ?_ | refine drawn_q ?_ | fail)
        first | exact ⟨rfl, l06⟩ | exact l06
      have do4 : decide (q.lm ≤ 1000) = true := decide_eq_true o4
      have ht : tpOk q = true := by rw [htp]; rw [hevv, decide_eq_true (p := tyNum q) (by unfold tyNum; omega)]; rfl
      rw [ht]
      repeat' (first | (simp (disch := omega) only [push_cast, ↓reduceIte, zA, zG, zB, zH, zI, zC, zJ, zK, zL, zD, zE, zF, zM, zN, zO, zP, zQ, reduceCtorEq, not_true_eq_false, not_false_eq_true, e1, e4, f0, f1, f2, f3, f10, f11, hneg, dt1, dt2, dt3, dz, do1, do2, do3, do4, addr_add_eq, Nat.zero_add]) | (first | refine iE ?_ ?_ | refine iD ?_ ?_ | refine iQ ?_ ?_ | refine iV ?_ ?_) <;> intro _ | refine And.intro (by omega) ?_ | refine drawn_q ?_ | fail)
      first | exact ⟨rfl, l06⟩ | exact l06
    have dz : decide (q.ev = 0) = false := decide_eq_false hz
    repeat' (first | (simp (disch := omega) only [push_cast, ↓reduceIte, zA, zG, zB, zH, zI, zC, zJ, zK, zL, zD, zE, zF, zM, zN, zO, zP, zQ, reduceCtorEq, not_true_eq_false, not_false_eq_true, e1, e4, f0, f1, f2, f3, f10, f11, hneg, dt1, dt2, dt3, dz, addr_add_eq, Nat.zero_add]) | (first | refine iE ?_ ?_ | refine iD ?_ ?_ | refine iQ ?_ ?_ | refine iV ?_ ?_) <;> intro _ | refine And.intro (by omega) ?_ | refine drawn_q ?_ | fail)
    refine (bright_c q.ev w6 hIe).mono ?_
    rintro _ w7 ⟨rfl, h7⟩
    obtain rfl := h7.symm
    cases hR : decide (Rt q.ev) with
    | false =>
      have hevv : evOk q = false := by rw [hev, dz, hR]; rfl
      have ht : tpOk q = false := by rw [htp]; rw [hevv]; simp
      rw [ht]
      repeat' (first | (simp (disch := omega) only [push_cast, ↓reduceIte, zA, zG, zB, zH, zI, zC, zJ, zK, zL, zD, zE, zF, zM, zN, zO, zP, zQ, reduceCtorEq, not_true_eq_false, not_false_eq_true, e1, e4, f0, f1, f2, f3, f10, f11, hneg, dt1, dt2, dt3, dz, addr_add_eq, Nat.zero_add]) | (first | refine iE ?_ ?_ | refine iD ?_ ?_ | refine iQ ?_ ?_ | refine iV ?_ ?_) <;> intro _ | refine And.intro (by omega) ?_ | refine drawn_q ?_ | fail)
      first | exact ⟨rfl, l06⟩ | exact l06
    | true =>
      have hevv : evOk q = true := by rw [hev, dz, hR]; rfl
      by_cases o1 : -(q.tl.length : Int) ≤ q.od
      case neg =>
        have do1 : decide (-(q.tl.length : Int) ≤ q.od) = false := decide_eq_false o1
        have ht : tpOk q = false := by rw [htp]; rw [decide_eq_false (p := tyNum q) (fun h => by unfold tyNum at h; omega), Bool.and_false]
        rw [ht]
        repeat' (first | (simp (disch := omega) only [push_cast, ↓reduceIte, zA, zG, zB, zH, zI, zC, zJ, zK, zL, zD, zE, zF, zM, zN, zO, zP, zQ, reduceCtorEq, not_true_eq_false, not_false_eq_true, e1, e4, f0, f1, f2, f3, f10, f11, hneg, dt1, dt2, dt3, dz, do1, addr_add_eq, Nat.zero_add]) | (first | refine iE ?_ ?_ | refine iD ?_ ?_ | refine iQ ?_ ?_ | refine iV ?_ ?_) <;> intro _ | refine And.intro (by omega) ?_ | refine drawn_q ?_ | fail)
        first | exact ⟨rfl, l06⟩ | exact l06
      have do1 : decide (-(q.tl.length : Int) ≤ q.od) = true := decide_eq_true o1
      by_cases o2 : q.od ≤ (q.tl.length : Int)
      case neg =>
        have do2 : decide (q.od ≤ (q.tl.length : Int)) = false := decide_eq_false o2
        have ht : tpOk q = false := by rw [htp]; rw [decide_eq_false (p := tyNum q) (fun h => by unfold tyNum at h; omega), Bool.and_false]
        rw [ht]
        repeat' (first | (simp (disch := omega) only [push_cast, ↓reduceIte, zA, zG, zB, zH, zI, zC, zJ, zK, zL, zD, zE, zF, zM, zN, zO, zP, zQ, reduceCtorEq, not_true_eq_false, not_false_eq_true, e1, e4, f0, f1, f2, f3, f10, f11, hneg, dt1, dt2, dt3, dz, do1, do2, addr_add_eq, Nat.zero_add]) | (first | refine iE ?_ ?_ | refine iD ?_ ?_ | refine iQ ?_ ?_ | refine iV ?_ ?_) <;> intro _ | refine And.intro (by omega) ?_ | refine drawn_q ?_ | fail)
        first | exact ⟨rfl, l06⟩ | exact l06
      have do2 : decide (q.od ≤ (q.tl.length : Int)) = true := decide_eq_true o2
      by_cases o3 : 0 ≤ q.lm
      case neg =>
        have do3 : decide (0 ≤ q.lm) = false := decide_eq_false o3
        have ht : tpOk q = false := by rw [htp]; rw [decide_eq_false (p := tyNum q) (fun h => by unfold tyNum at h; omega), Bool.and_false]
        rw [ht]
        repeat' (first | (simp (disch := omega) only [push_cast, ↓reduceIte, zA, zG, zB, zH, zI, zC, zJ, zK, zL, zD, zE, zF, zM, zN, zO, zP, zQ, reduceCtorEq, not_true_eq_false, not_false_eq_true, e1, e4, f0, f1, f2, f3, f10, f11, hneg, dt1, dt2, dt3, dz, do1, do2, do3, addr_add_eq, Nat.zero_add]) | (first | refine iE ?_ ?_ | refine iD ?_ ?_ | refine iQ ?_ ?_ | refine iV ?_ ?_) <;> intro _ | refine And.intro (by omega) ?_ | refine drawn_q ?_ | fail)
        first | exact ⟨rfl, l06⟩ | exact l06
      have do3 : decide (0 ≤ q.lm) = true := decide_eq_true o3
      by_cases o4 : q.lm ≤ 1000
      case neg =>
        have do4 : decide (q.lm ≤ 1000) = false := decide_eq_false o4
        have ht : tpOk q = false := by rw [htp]; rw [decide_eq_false (p := tyNum q) (fun h => by unfold tyNum at h; omega), Bool.and_false]
        rw [ht]
        repeat' (first | (simp (disch := omega) only [push_cast, ↓reduceIte, zA, zG, zB, zH, zI, zC, zJ, zK, zL, zD, zE, zF, zM, zN, zO, zP, zQ, reduceCtorEq, not_true_eq_false, not_false_eq_true, e1, e4, f0, f1, f2, f3, f10, f11, hneg, dt1, dt2, dt3, dz, do1, do2, do3, do4, addr_add_eq, Nat.zero_add]) | (first | refine iE ?_ ?_ | refine iD ?_ ?_ | refine iQ ?_ ?_ | refine iV ?_ ?_) <;> intro _ | refine And.intro (by omega) ?_ | refine drawn_q ?_ | fail)
        first | exact ⟨rfl, l06⟩ | exact l06
      have do4 : decide (q.lm ≤ 1000) = true := decide_eq_true o4
      have ht : tpOk q = true := by rw [htp]; rw [hevv, decide_eq_true (p := tyNum q) (by unfold tyNum; omega)]; rfl
      rw [ht]
      repeat' (first | (simp (disch := omega) only [push_cast, ↓reduceIte, zA, zG, zB, zH, zI, zC, zJ, zK, zL, zD, zE, zF, zM, zN, zO, zP, zQ, reduceCtorEq, not_true_eq_false, not_false_eq_true, e1, e4, f0, f1, f2, f3, f10, f11, hneg, dt1, dt2, dt3, dz, do1, do2, do3, do4, addr_add_eq, Nat.zero_add]) | (first | refine iE ?_ ?_ | refine iD ?_ ?_ | refine iQ ?_ ?_ | refine iV ?_ ?_) <;> intro _ | refine And.intro (by omega) ?_ | refine drawn_q ?_ | fail)
      first | exact ⟨rfl, l06⟩ | exact l06
end Go.Proofs.YtnofalhkapmcnaaGreat
end
section
set_option linter.unusedSimpArgs false
namespace Go.Proofs.YtnofalhkapmcnaaGreat
open Go.Vc Go.Key Go.Bkt
set_option maxRecDepth 100000
set_option maxHeartbeats 1000000 in
theorem tcheck_c (dv mv : Value) (d m : List ByteArray) (q : QD) (w : World) (h : ScIs w dv mv d m) (hq : q.Ok w) (hcn : q.wh.cnt ≤ 1000000) (hbl : q.bl.length ≤ 1000) (htl : q.tl.length ≤ 1000) (hhl : q.hl.length ≤ 1000) : FnC Tryz.prog 16 #[scV dv mv, .agg (qdC q).toArray] w fun v w' => v = .int .i64 (ckQ d m q) ∧ Later w w' := by
  have esc : scV dv mv = .agg #[dv, mv] := rfl
  rw [esc]
  refine enter16 _ _ ?_
  unfold B16
  have eca : (Value.agg (qdC q).toArray).cells = (qdC q).toArray := rfl
  have ecb : (Value.agg #[dv, mv]).cells = #[dv, mv] := rfl
  obtain ⟨l1, s1, F⟩ := box2 w dv mv 24
  have B2 := Blk.new (w.alloc (.cells #[dv, mv] 24)) (qdC q).toArray 32
  have l2 := later_alloc (w.alloc (.cells #[dv, mv] 24)) (.cells (qdC q).toArray 32)
  rw [s1] at B2
  repeat' (first | (simp (disch := omega) only [push_cast, ↓reduceIte, zA, zG, zB, zH, zI, zC, zJ, zK, zL, zD, zE, zF, zM, zN, zO, zP, zQ, reduceCtorEq, not_true_eq_false, not_false_eq_true, eca, ecb, s1]) | (first | refine iE ?_ ?_ | refine iD ?_ ?_ | refine iQ ?_ ?_ | refine iV ?_ ?_) <;> intro _ | refine And.intro (by omega) ?_ | fail)
  have l12 := l1.trans l2
  have FF : ∀ w', Later ((w.alloc (.cells #[dv, mv] 24)).alloc (.cells (qdC q).toArray 32)) w' → cellsAt w' ⟨w.heap.size, 0, none⟩ 2 = some [dv, mv] := fun w' hl => (F w' (l2.trans hl)).2.2
  clear F
  generalize (w.alloc (.cells #[dv, mv] 24)).alloc (.cells (qdC q).toArray 32) = w1 at *
  generalize hkf : w.heap.size = kf at *
  have h1 := h.later l12
  have q1 := hq.later l12
  have QQ : ∀ w', Later w1 w' → cellsAt w' ⟨kf + 1, 0, none⟩ 12 = some (qdC q) := fun w' hl => Blk.cellsAt (l := qdC q) (qdLater B2 hl)
  have c1 := QQ w1 (Later.refl _)
  repeat' (first | (simp (disch := omega) only [push_cast, ↓reduceIte, zA, zG, zB, zH, zI, zC, zJ, zK, zL, zD, zE, zF, zM, zN, zO, zP, zQ, reduceCtorEq, not_true_eq_false, not_false_eq_true, c1]) | (first | refine iE ?_ ?_ | refine iD ?_ ?_ | refine iQ ?_ ?_ | refine iV ?_ ?_) <;> intro _ | refine And.intro (by omega) ?_ | refine drawn_q ?_ | fail)
  refine (shaped_c q w1 q1).mono ?_
  rintro _ w2 ⟨rfl, l3⟩
  unfold ckQ
  cases hS : shOk q with
  | false =>
    repeat' (first | (simp (disch := omega) only [push_cast, ↓reduceIte, zA, zG, zB, zH, zI, zC, zJ, zK, zL, zD, zE, zF, zM, zN, zO, zP, zQ, reduceCtorEq, not_true_eq_false, not_false_eq_true]) | (first | refine iE ?_ ?_ | refine iD ?_ ?_ | refine iQ ?_ ?_ | refine iV ?_ ?_) <;> intro _ | refine And.intro (by omega) ?_ | refine drawn_q ?_ | fail)
    first | exact ⟨(by simp), (l12.trans l3)⟩ | exact (l12.trans l3)
  | true =>
  have c2 := QQ w2 l3
  have f2 := FF w2 l3
  repeat' (first | (simp (disch := omega) only [push_cast, ↓reduceIte, zA, zG, zB, zH, zI, zC, zJ, zK, zL, zD, zE, zF, zM, zN, zO, zP, zQ, reduceCtorEq, not_true_eq_false, not_false_eq_true, c2, f2]) | (first | refine iE ?_ ?_ | refine iD ?_ ?_ | refine iQ ?_ ?_ | refine iV ?_ ?_) <;> intro _ | refine And.intro (by omega) ?_ | refine drawn_q ?_ | fail)
  refine (named_c dv mv d m q w2 (h1.later l3) (q1.later l3) hcn hbl htl hhl).mono ?_
  rintro _ w3 ⟨rfl, l4⟩
  cases hN : nsOk d m q with
  | false =>
    repeat' (first | (simp (disch := omega) only [push_cast, ↓reduceIte, zA, zG, zB, zH, zI, zC, zJ, zK, zL, zD, zE, zF, zM, zN, zO, zP, zQ, reduceCtorEq, not_true_eq_false, not_false_eq_true]) | (first | refine iE ?_ ?_ | refine iD ?_ ?_ | refine iQ ?_ ?_ | refine iV ?_ ?_) <;> intro _ | refine And.intro (by omega) ?_ | refine drawn_q ?_ | fail)
    first | exact ⟨(by simp), (l12.trans (l3.trans l4))⟩ | exact (l12.trans (l3.trans l4))
  | true =>
  have l34 := l3.trans l4
  have c3 := QQ w3 l34
  repeat' (first | (simp (disch := omega) only [push_cast, ↓reduceIte, zA, zG, zB, zH, zI, zC, zJ, zK, zL, zD, zE, zF, zM, zN, zO, zP, zQ, reduceCtorEq, not_true_eq_false, not_false_eq_true, c3]) | (first | refine iE ?_ ?_ | refine iD ?_ ?_ | refine iQ ?_ ?_ | refine iV ?_ ?_) <;> intro _ | refine And.intro (by omega) ?_ | refine drawn_q ?_ | fail)
  refine (typed_c q w3 (q1.later l34) hcn hbl hS).mono ?_
  rintro _ w4 ⟨rfl, l5⟩
  cases hT : tpOk q with
  | false =>
    repeat' (first | (simp (disch := omega) only [push_cast, ↓reduceIte, zA, zG, zB, zH, zI, zC, zJ, zK, zL, zD, zE, zF, zM, zN, zO, zP, zQ, reduceCtorEq, not_true_eq_false, not_false_eq_true]) | (first | refine iE ?_ ?_ | refine iD ?_ ?_ | refine iQ ?_ ?_ | refine iV ?_ ?_) <;> intro _ | refine And.intro (by omega) ?_ | refine drawn_q ?_ | fail)
    first | exact ⟨(by simp), (l12.trans (l34.trans l5))⟩ | exact (l12.trans (l34.trans l5))
  | true =>
    repeat' (first | (simp (disch := omega) only [push_cast, ↓reduceIte, zA, zG, zB, zH, zI, zC, zJ, zK, zL, zD, zE, zF, zM, zN, zO, zP, zQ, reduceCtorEq, not_true_eq_false, not_false_eq_true]) | (first | refine iE ?_ ?_ | refine iD ?_ ?_ | refine iQ ?_ ?_ | refine iV ?_ ?_) <;> intro _ | refine And.intro (by omega) ?_ | refine drawn_q ?_ | fail)
    first | exact ⟨(by simp), (l12.trans (l34.trans l5))⟩ | exact (l12.trans (l34.trans l5))
def bktN (q : QD) (t : Int) : Int := if q.ev = 0 then q.fr else (flrR t q.ev).1
theorem tbucket_c (q : QD) (t : Int) (w : World) (hq : q.Ok w) (ht : I6 t) : FnC Tryz.prog 21 #[.agg (qdC q).toArray, .int .i64 t] w fun v w' => v = .int .i64 (bktN q t) ∧ Later w w' := by
  refine enter21 _ _ ?_
  unfold B21
  have eca : (Value.agg (qdC q).toArray).cells = (qdC q).toArray := rfl
  have l1 := later_alloc w (.cells (qdC q).toArray 32)
  have B1 := Blk.new w (qdC q).toArray 32
  repeat' (first | (simp (disch := omega) only [push_cast, ↓reduceIte, zA, zG, zB, zH, zI, zC, zJ, zK, zL, zD, zE, zF, zM, zN, zO, zP, zQ, reduceCtorEq, not_true_eq_false, not_false_eq_true, eca]) | (first | refine iE ?_ ?_ | refine iD ?_ ?_ | refine iQ ?_ ?_ | refine iV ?_ ?_) <;> intro _ | refine And.intro (by omega) ?_ | refine drawn_q ?_ | fail)
  generalize w.alloc (.cells (qdC q).toArray 32) = w1 at *
  generalize w.heap.size = kf at *
  obtain ⟨_, a1, _, a3, _⟩ := qdAt B1
  unfold bktN
  by_cases hz : q.ev = 0
  · have dz : decide (q.ev = 0) = true := decide_eq_true hz
    rw [if_pos hz]
    repeat' (first | (simp (disch := omega) only [push_cast, ↓reduceIte, zA, zG, zB, zH, zI, zC, zJ, zK, zL, zD, zE, zF, zM, zN, zO, zP, zQ, reduceCtorEq, not_true_eq_false, not_false_eq_true, a1, a3, dz, addr_add_eq, Nat.zero_add]) | (first | refine iE ?_ ?_ | refine iD ?_ ?_ | refine iQ ?_ ?_ | refine iV ?_ ?_) <;> intro _ | refine And.intro (by omega) ?_ | refine drawn_q ?_ | fail)
    first | exact ⟨rfl, l1⟩ | exact l1
  · have dz : decide (q.ev = 0) = false := decide_eq_false hz
    rw [if_neg hz]
    repeat' (first | (simp (disch := omega) only [push_cast, ↓reduceIte, zA, zG, zB, zH, zI, zC, zJ, zK, zL, zD, zE, zF, zM, zN, zO, zP, zQ, reduceCtorEq, not_true_eq_false, not_false_eq_true, a1, a3, dz, addr_add_eq, Nat.zero_add]) | (first | refine iE ?_ ?_ | refine iD ?_ ?_ | refine iQ ?_ ?_ | refine iV ?_ ?_) <;> intro _ | refine And.intro (by omega) ?_ | refine drawn_q ?_ | fail)
    refine (bfloor_c t q.ev w1 ht hq.ev).mono ?_
    rintro _ w2 ⟨rfl, h2⟩; obtain rfl := h2.symm
    unfold tupF
    repeat' (first | (simp (disch := omega) only [push_cast, ↓reduceIte, zA, zG, zB, zH, zI, zC, zJ, zK, zL, zD, zE, zF, zM, zN, zO, zP, zQ, reduceCtorEq, not_true_eq_false, not_false_eq_true]) | (first | refine iE ?_ ?_ | refine iD ?_ ?_ | refine iQ ?_ ?_ | refine iV ?_ ?_) <;> intro _ | refine And.intro (by omega) ?_ | refine drawn_q ?_ | fail)
    first | exact ⟨rfl, l1⟩ | exact l1
end Go.Proofs.YtnofalhkapmcnaaGreat
end
section
set_option linter.unusedSimpArgs false
namespace Go.Proofs.YtnofalhkapmcnaaGreat
open Go.Vc Go.Key Go.Bkt
set_option maxRecDepth 100000
theorem iqT (n : Int) (h : -1000 ≤ n ∧ n ≤ 1000 := by decide) : I64 n := by unfold I64; omega
def tQ (tv bv : Value) (bl : List ByteArray) : QD := ⟨tv, [⟨1, ⟨#[109]⟩⟩], 0, 50, 10, bv, bl, .mk 1 ⟨#[97]⟩ ⟨#[120]⟩ (.slice none 0 0) [], .slice none 0 0, [], 0, 0⟩
theorem tQ_ok {w : World} {tv bv : Value} {bl : List ByteArray} (ht : RecS tdC 2 w tv [⟨1, ⟨#[109]⟩⟩]) (hb : StS w bv bl) (hz : ∀ s ∈ bl, s.size ≤ Bz) : (tQ tv bv bl).Ok w := by
  refine ⟨ht, ?_, iqT 0, iqT 50, iqT 10, hb, hz, FT.ok_iff.2 ⟨iqT 1, (show (⟨#[97]⟩ : ByteArray).size ≤ 140737488351232 by decide), (show (⟨#[120]⟩ : ByteArray).size ≤ 140737488351232 by decide), RecS.nil w, by simp [FT.kids, tQ]⟩, RecS.nil w, by simp [tQ], iqT 0, iqT 0⟩
  intro t ht
  rw [List.mem_singleton.1 ht]
  exact ⟨iqT 1, by decide⟩
theorem tlive1 (tv bv : Value) : ckQ [⟨#[97]⟩, ⟨#[98]⟩, ⟨#[99]⟩] [⟨#[109]⟩] (tQ tv bv [⟨#[99]⟩]) = 0 := by kernel_rfl
theorem tlive2 (tv bv : Value) : ckQ [⟨#[97]⟩, ⟨#[98]⟩, ⟨#[99]⟩] [⟨#[109]⟩] (tQ tv bv [⟨#[100]⟩]) = 231 := by kernel_rfl
theorem tlive3 (tv bv : Value) : usedL [⟨#[97]⟩, ⟨#[98]⟩, ⟨#[99]⟩] (tQ tv bv [⟨#[99]⟩]) = [⟨#[97]⟩, ⟨#[99]⟩] := by kernel_rfl
theorem tlive4 (tv bv : Value) : bktN (tQ tv bv [⟨#[99]⟩]) 37 = 30 := by kernel_rfl
abbrev dABC : List ByteArray := [⟨#[97]⟩, ⟨#[98]⟩, ⟨#[99]⟩]
abbrev mM : List ByteArray := [⟨#[109]⟩]
set_option maxHeartbeats 2000000 in
theorem alive23_c (w : World) : FnC Tryz.prog 15 #[] w fun v w' => v = .bool true ∧ Later w w' := by
  refine enter15 ?_
  unfold B15
  have la := later_alloc w (.cells #[.string ⟨#[97]⟩, .string ⟨#[98]⟩, .string ⟨#[99]⟩] 9)
  have Sa : StS (w.alloc (.cells #[.string ⟨#[97]⟩, .string ⟨#[98]⟩, .string ⟨#[99]⟩] 9)) (.slice (some ⟨w.heap.size, 0, none⟩) 3 3) dABC := Sl.lit w [.string ⟨#[97]⟩, .string ⟨#[98]⟩, .string ⟨#[99]⟩] 9 (by unfold maxLen; simp)
  generalize hwa : w.alloc (.cells #[.string ⟨#[97]⟩, .string ⟨#[98]⟩, .string ⟨#[99]⟩] 9) = wa at *
  have lb := later_alloc wa (.cells #[.string ⟨#[109]⟩] 9)
  have Sb : StS (wa.alloc (.cells #[.string ⟨#[109]⟩] 9)) (.slice (some ⟨wa.heap.size, 0, none⟩) 1 1) mM := Sl.lit wa [.string ⟨#[109]⟩] 9 (by unfold maxLen; simp)
  generalize hwb : wa.alloc (.cells #[.string ⟨#[109]⟩] 9) = wb at *
  repeat' (first | (simp (disch := omega) only [push_cast, ↓reduceIte, zA, zG, zB, zH, zI, zC, zJ, zK, zL, zD, zE, zF, zM, zN, zO, zP, zQ, reduceCtorEq, not_true_eq_false, not_false_eq_true, hwa, hwb]) | (first | refine iE ?_ ?_ | refine iD ?_ ?_ | refine iQ ?_ ?_ | refine iV ?_ ?_) <;> intro _ | refine And.intro (by omega) ?_ | fail)
  generalize hdv : Value.slice (some ⟨w.heap.size, 0, none⟩) 3 3 = dv at *
  generalize hmv : Value.slice (some ⟨wa.heap.size, 0, none⟩) 1 1 = mv at *
  refine vStore_new rfl rfl (by intro u hu; subst hdv; subst hmv; simp at hu; rcases hu with rfl | rfl <;> rfl) ?_
  have lc := later_alloc wb (.cells #[dv, mv] 24)
  have Bc := Blk.new wb #[dv, mv] 24
  generalize wb.alloc (.cells #[dv, mv] 24) = wc at *
  generalize wb.heap.size = kc at *
  have hS : ScIs wc dv mv dABC mM := ⟨Sl.later Sa (lb.trans lc), Sl.later Sb lc, by unfold StZ; decide, by unfold StZ; decide⟩
  have l0c := la.trans (lb.trans lc)
  clear hwa hwb Sa Sb
  have ld := later_alloc wc (.cells #[.int .i64 1, .string ⟨#[109]⟩] 58)
  have Sd : RecS tdC 2 (wc.alloc (.cells #[.int .i64 1, .string ⟨#[109]⟩] 58)) (.slice (some ⟨wc.heap.size, 0, none⟩) 1 1) [⟨1, ⟨#[109]⟩⟩] := SlN.lit wc [.int .i64 1, .string ⟨#[109]⟩] _ 2 1 rfl (by unfold maxLen; omega)
  generalize hwd : wc.alloc (.cells #[.int .i64 1, .string ⟨#[109]⟩] 58) = wd at *
  have le := later_alloc wd (.cells #[.string ⟨#[99]⟩] 9)
  have Se : StS (wd.alloc (.cells #[.string ⟨#[99]⟩] 9)) (.slice (some ⟨wd.heap.size, 0, none⟩) 1 1) [⟨#[99]⟩] := Sl.lit wd [.string ⟨#[99]⟩] 9 (by unfold maxLen; simp)
  generalize hwe : wd.alloc (.cells #[.string ⟨#[99]⟩] 9) = we at *
  repeat' (first | (simp (disch := omega) only [push_cast, ↓reduceIte, zA, zG, zB, zH, zI, zC, zJ, zK, zL, zD, zE, zF, zM, zN, zO, zP, zQ, reduceCtorEq, not_true_eq_false, not_false_eq_true, hwd, hwe]) | (first | refine iE ?_ ?_ | refine iD ?_ ?_ | refine iQ ?_ ?_ | refine iV ?_ ?_) <;> intro _ | refine And.intro (by omega) ?_ | fail)
  generalize htv : Value.slice (some ⟨wc.heap.size, 0, none⟩) 1 1 = tv at *
  generalize hbv : Value.slice (some ⟨wd.heap.size, 0, none⟩) 1 1 = bv at *
  refine vStore_new rfl rfl (by intro u hu; subst htv; subst hbv; simp at hu; rcases hu with rfl | rfl | rfl | rfl | rfl | rfl | rfl | rfl | rfl | rfl | rfl | rfl <;> rfl) ?_
  have lf := later_alloc we (.cells (qdC (tQ tv bv [⟨#[99]⟩])).toArray 32)
  have Bf := Blk.new we (qdC (tQ tv bv [⟨#[99]⟩])).toArray 32
  have eq1 : (qdC (tQ tv bv [⟨#[99]⟩])).toArray = #[tv, .int .i64 0, .int .i64 50, .int .i64 10, bv, .int .i64 1, .string ⟨#[97]⟩, .string ⟨#[120]⟩, .slice none 0 0, .slice none 0 0, .int .i64 0, .int .i64 0] := rfl
  have hq1 : (tQ tv bv [⟨#[99]⟩]).Ok we := tQ_ok (Sd.later le) Se (by intro s hs; rw [List.mem_singleton.1 hs]; decide)
  rw [← eq1]
  generalize we.alloc (.cells (qdC (tQ tv bv [⟨#[99]⟩])).toArray 32) = wf at *
  generalize we.heap.size = kf at *
  have ff : cellsAt wf ⟨kf, 0, none⟩ 12 = some (qdC (tQ tv bv [⟨#[99]⟩])) := Blk.cellsAt (l := qdC (tQ tv bv [⟨#[99]⟩])) Bf
  repeat' (first | (simp (disch := omega) only [push_cast, ↓reduceIte, zA, zG, zB, zH, zI, zC, zJ, zK, zL, zD, zE, zF, zM, zN, zO, zP, zQ, reduceCtorEq, not_true_eq_false, not_false_eq_true, ff]) | (first | refine iE ?_ ?_ | refine iD ?_ ?_ | refine iQ ?_ ?_ | refine iV ?_ ?_) <;> intro _ | refine And.intro (by omega) ?_ | fail)
  refine vStore_new rfl rfl (by intro u hu; subst htv; subst hbv; rw [eq1] at hu; simp at hu; rcases hu with rfl | rfl | rfl | rfl | rfl | rfl | rfl | rfl | rfl | rfl | rfl | rfl <;> rfl) ?_
  have lg := later_alloc wf (.cells (qdC (tQ tv bv [⟨#[99]⟩])).toArray 32)
  have Bg := Blk.new wf (qdC (tQ tv bv [⟨#[99]⟩])).toArray 32
  generalize wf.alloc (.cells (qdC (tQ tv bv [⟨#[99]⟩])).toArray 32) = wg at *
  have zf : wf.heap.size = wf.heap.size := rfl
  generalize hkg : wf.heap.size = kg at *
  have lh := later_alloc wg (.cells #[.string ⟨#[100]⟩] 9)
  have Sh : StS (wg.alloc (.cells #[.string ⟨#[100]⟩] 9)) (.slice (some ⟨wg.heap.size, 0, none⟩) 1 1) [⟨#[100]⟩] := Sl.lit wg [.string ⟨#[100]⟩] 9 (by unfold maxLen; simp)
  have Bh := Bg.chg (Chg.of_later (ks := []) lh) (by simp)
  have zg := Bg.lt
  generalize hwh : wg.alloc (.cells #[.string ⟨#[100]⟩] 9) = wh at *
  have g4 : wh.cell? ⟨kg, 4, none⟩ = some bv := Bh.cell 4
  have fz := Bh.frozen 4
  have Bi := Bh.set 4 (.slice (some ⟨wg.heap.size, 0, none⟩) 1 1)
  have ch : Chg wh (wh.setCell ⟨kg, 4, none⟩ (.slice (some ⟨wg.heap.size, 0, none⟩) 1 1)) [kg] := chg_setCell wh (by simp) _
  have Bi : Blk (wh.setCell ⟨kg, 4, none⟩ (.slice (some ⟨wg.heap.size, 0, none⟩) 1 1)) kg (qdC (tQ tv (.slice (some ⟨wg.heap.size, 0, none⟩) 1 1) [⟨#[100]⟩])).toArray 32 := Bi
  repeat' (first | (simp (disch := omega) only [push_cast, ↓reduceIte, zA, zG, zB, zH, zI, zC, zJ, zK, zL, zD, zE, zF, zM, zN, zO, zP, zQ, reduceCtorEq, not_true_eq_false, not_false_eq_true, hwh, g4, fz, addr_add_eq, Nat.zero_add]) | (first | refine iE ?_ ?_ | refine iD ?_ ?_ | refine iQ ?_ ?_ | refine iV ?_ ?_) <;> intro _ | refine And.intro (by omega) ?_ | fail)
  have hne : wg.heap.size ≠ kg := by omega
  have Si : StS (wh.setCell ⟨kg, 4, none⟩ (.slice (some ⟨wg.heap.size, 0, none⟩) 1 1)) (.slice (some ⟨wg.heap.size, 0, none⟩) 1 1) [⟨#[100]⟩] := Sl.chg Sh ch (by simpa using hne) (by simp [inB])
  generalize hb2 : Value.slice (some ⟨wg.heap.size, 0, none⟩) 1 1 = b2 at *
  generalize wh.setCell ⟨kg, 4, none⟩ b2 = wi at *
  have lfi : Later wf wi := Chg.later (lg.trans lh) ch (by intro j hj; rw [List.mem_singleton.1 hj, hkg]; exact Nat.le_refl _)
  have lci : Later wc wi := ld.trans (le.trans (lf.trans lfi))
  have hq2 : (tQ tv b2 [⟨#[100]⟩]).Ok wi := tQ_ok (Sd.later (le.trans (lf.trans lfi))) Si (by intro s hs; rw [List.mem_singleton.1 hs]; decide)
  have hq1i := hq1.later (lf.trans lfi)
  have SS : ∀ w', Later wc w' → cellsAt w' ⟨kc, 0, none⟩ 2 = some [dv, mv] := fun w' hl => Blk.cellsAt (l := [dv, mv]) (Bc.chg (Chg.of_later (ks := []) hl) (by simp))
  have fi := cellsAt_later lfi 12 ff
  have gi : cellsAt wi ⟨kg, 0, none⟩ 12 = some (qdC (tQ tv b2 [⟨#[100]⟩])) := Blk.cellsAt (l := qdC (tQ tv b2 [⟨#[100]⟩])) Bi
  have si := SS wi lci
  have hcn : ∀ v l, l.length ≤ 1000 → (tQ tv v l).wh.cnt ≤ 1000000 ∧ (tQ tv v l).bl.length ≤ 1000 ∧ (tQ tv v l).tl.length ≤ 1000 ∧ (tQ tv v l).hl.length ≤ 1000 := fun v l hl => ⟨(show (1 : Nat) ≤ 1000000 by decide), hl, (show (1 : Nat) ≤ 1000 by decide), (show (0 : Nat) ≤ 1000 by decide)⟩
  obtain ⟨n1, n2, n3, n4⟩ := hcn bv [⟨#[99]⟩] (by simp)
  repeat' (first | (simp (disch := omega) only [push_cast, ↓reduceIte, zA, zG, zB, zH, zI, zC, zJ, zK, zL, zD, zE, zF, zM, zN, zO, zP, zQ, reduceCtorEq, not_true_eq_false, not_false_eq_true, si, fi]) | (first | refine iE ?_ ?_ | refine iD ?_ ?_ | refine iQ ?_ ?_ | refine iV ?_ ?_) <;> intro _ | refine And.intro (by omega) ?_ | fail)
  refine (tcheck_c dv mv dABC mM _ wi (hS.later lci) hq1i n1 n2 n3 n4).mono ?_
  rintro _ wj ⟨rfl, lj⟩
  rw [tlive1]
  have gj := cellsAt_later lj 12 gi
  have sj := SS wj (lci.trans lj)
  obtain ⟨m1, m2, m3, m4⟩ := hcn b2 [⟨#[100]⟩] (by simp)
  repeat' (first | (simp (disch := omega) only [push_cast, ↓reduceIte, zA, zG, zB, zH, zI, zC, zJ, zK, zL, zD, zE, zF, zM, zN, zO, zP, zQ, reduceCtorEq, not_true_eq_false, not_false_eq_true, sj, gj, decide_true]) | (first | refine iE ?_ ?_ | refine iD ?_ ?_ | refine iQ ?_ ?_ | refine iV ?_ ?_) <;> intro _ | refine And.intro (by omega) ?_ | fail)
  refine (tcheck_c dv mv dABC mM _ wj (hS.later (lci.trans lj)) (hq2.later lj) m1 m2 m3 m4).mono ?_
  rintro _ wk ⟨rfl, lk⟩
  rw [tlive2]
  have lik := lj.trans lk
  have fk := cellsAt_later lik 12 fi
  have sk := SS wk (lci.trans lik)
  repeat' (first | (simp (disch := omega) only [push_cast, ↓reduceIte, zA, zG, zB, zH, zI, zC, zJ, zK, zL, zD, zE, zF, zM, zN, zO, zP, zQ, reduceCtorEq, not_true_eq_false, not_false_eq_true, sk, fk, decide_true]) | (first | refine iE ?_ ?_ | refine iD ?_ ?_ | refine iQ ?_ ?_ | refine iV ?_ ?_) <;> intro _ | refine And.intro (by omega) ?_ | fail)
  refine (tused_c dv mv dABC mM _ wk (hS.later (lci.trans lik)) (hq1i.later lik) n1 n2 (by simp)).mono ?_
  rintro uv wl ⟨hu, ll⟩
  rw [tlive3] at hu
  obtain ⟨uo, uc, huv⟩ := Sl.slice hu
  rw [huv] at hu ⊢
  have lo := later_alloc wl (.cells #[.string ⟨#[97]⟩, .string ⟨#[99]⟩] 9)
  have So : StS (wl.alloc (.cells #[.string ⟨#[97]⟩, .string ⟨#[99]⟩] 9)) (.slice (some ⟨wl.heap.size, 0, none⟩) 2 2) [⟨#[97]⟩, ⟨#[99]⟩] := Sl.lit wl [.string ⟨#[97]⟩, .string ⟨#[99]⟩] 9 (by unfold maxLen; simp)
  generalize hwo : wl.alloc (.cells #[.string ⟨#[97]⟩, .string ⟨#[99]⟩] 9) = wo at *
  repeat' (first | (simp (disch := omega) only [push_cast, ↓reduceIte, zA, zG, zB, zH, zI, zC, zJ, zK, zL, zD, zE, zF, zM, zN, zO, zP, zQ, reduceCtorEq, not_true_eq_false, not_false_eq_true, hwo]) | (first | refine iE ?_ ?_ | refine iD ?_ ?_ | refine iQ ?_ ?_ | refine iV ?_ ?_) <;> intro _ | refine And.intro (by omega) ?_ | fail)
  refine (texts_c _ _ _ _ wo (Sl.later hu lo) So).mono ?_
  rintro _ wp ⟨rfl, lp⟩
  have lip := lik.trans (ll.trans (lo.trans lp))
  have fp := cellsAt_later lip 12 fi
  repeat' (first | (simp (disch := omega) only [push_cast, ↓reduceIte, zA, zG, zB, zH, zI, zC, zJ, zK, zL, zD, zE, zF, zM, zN, zO, zP, zQ, reduceCtorEq, not_true_eq_false, not_false_eq_true, fp, decide_true]) | (first | refine iE ?_ ?_ | refine iD ?_ ?_ | refine iQ ?_ ?_ | refine iV ?_ ?_) <;> intro _ | refine And.intro (by omega) ?_ | fail)
  refine (tbucket_c (tQ tv bv [⟨#[99]⟩]) 37 wp (hq1i.later lip) (by omega)).mono ?_
  rintro _ wq ⟨rfl, lq⟩
  rw [tlive4]
  repeat' (first | (simp (disch := omega) only [push_cast, ↓reduceIte, zA, zG, zB, zH, zI, zC, zJ, zK, zL, zD, zE, zF, zM, zN, zO, zP, zQ, reduceCtorEq, not_true_eq_false, not_false_eq_true, decide_true]) | (first | refine iE ?_ ?_ | refine iD ?_ ?_ | refine iQ ?_ ?_ | refine iV ?_ ?_) <;> intro _ | refine And.intro (by omega) ?_ | refine drawn_q ?_ | fail)
  first | exact ⟨rfl, (l0c.trans (lci.trans (lip.trans lq)))⟩ | exact (l0c.trans (lci.trans (lip.trans lq)))
end Go.Proofs.YtnofalhkapmcnaaGreat
end
section
namespace Go.Proofs.YtnofalhkapmcnaaGreat
open Go.Vc Go.Key
theorem ck0 {d m : List ByteArray} {q : QD} (h : ckQ d m q = 0) : shOk q = true ∧ nsOk d m q = true ∧ tpOk q = true := by
  unfold ckQ at h
  cases h1 : shOk q with
  | false => rw [h1] at h; simp at h
  | true =>
    cases h2 : nsOk d m q with
    | false => rw [h1, h2] at h; simp at h
    | true =>
      cases h3 : tpOk q with
      | false => rw [h1, h2, h3] at h; simp at h
      | true => exact ⟨rfl, rfl, rfl⟩
structure Ft23 (d m : List ByteArray) (q : QD) : Prop where
  sc : ScOk d m
  tl : q.tl.length ≤ 30
  hl : q.hl.length ≤ 30
  bl : q.bl.length ≤ 20
  cnt : q.wh.cnt ≤ 300
  deep : q.wh.deep ≤ 60
theorem f23_ft {d m : List ByteArray} {q : QD} (h : f23 d m q = true) : Ft23 d m q := by
  unfold f23 at h
  simp only [Bool.and_eq_true, decide_eq_true_eq] at h
  obtain ⟨⟨⟨⟨⟨⟨⟨_, _⟩, hb⟩, ht⟩, hh⟩, hp⟩, hs⟩, hd⟩ := h
  have := FT.cnt_prt q.wh 300 hp
  exact ⟨hs, ht, hh, hb.1, by omega, hd⟩
theorem ScIs.of_ok {w : World} {dv mv : Value} {d m : List ByteArray} (h : StS w dv d ∧ (∀ s ∈ d, s.size ≤ Bz) ∧ StS w mv m ∧ ∀ s ∈ m, s.size ≤ Bz) : ScIs w dv mv d m :=
  ⟨h.1, h.2.2.1, fun s hs => Nat.le_trans (h.2.1 s hs) (by unfold Bz; omega), fun s hs => Nat.le_trans (h.2.2.2 s hs) (by unfold Bz; omega)⟩
end Go.Proofs.YtnofalhkapmcnaaGreat
end
section
namespace Go.Proofs.YtnofalhkapmcnaaGreat
open Go.Vc
set_option maxRecDepth 100000
variable (Q : Post) (ds : List Deferred) (σ : Env) (w : World)
/-! 4 columbary/columbarylaw23.TyperTells (params #[24, 32, 3], results #[(.tmp 6)], 62 slots) -/
def r4_0 : List VOp :=
  [⟨some 3, .box 24 (.tmp 0), 0, none⟩,
   ⟨some 4, .box 32 (.tmp 1), 0, none⟩,
   ⟨some 6, .assign (.const (.bool false)), 4, none⟩]
def r4_1 : List VOp :=
  [lda 9 24 3,
   lda 10 32 4,
   ⟨some 11, .call ⟨.value (.func 14), #[.tmp 9, .tmp 10], #[24, 32]⟩, 4, none⟩,
   asg 7 11 4]
def r4_2 : List VOp :=
  [mv 12 7 4,
   ⟨some 13, .unOp .not 4 (.tmp 12), 4, none⟩]
def r4_3 : List VOp :=
  [⟨some 14, .call ⟨.value (.func 15), #[], #[]⟩, 4, none⟩,
   asg 6 14 4]
def r4_4 : List VOp :=
  [lda 15 24 3,
   lda 16 32 4,
   ⟨some 17, .call ⟨.value (.func 16), #[.tmp 15, .tmp 16], #[24, 32]⟩, 37, none⟩,
   asg 8 17 37]
def r4_5 : List VOp :=
  [mv 18 8 37,
   lda 19 24 3,
   lda 20 32 4,
   ⟨some 21, .call ⟨.value (.func 17), #[.tmp 19, .tmp 20], #[24, 32]⟩, 37, none⟩,
   ⟨some 22, .binOp .neq 37 (.tmp 18) (.tmp 21) 37, 4, none⟩,
   mv 23 22 4,
   ⟨some 24, .move (.tmp 8), 37, some (23, false)⟩,
   ⟨some 25, .binOp .neq 37 (.tmp 24) (.const (.int .i64 0)) 37, 4, some (23, false)⟩,
   ⟨some 26, .pick (.tmp 23) (.const (.bool true)) (.tmp 25), 4, none⟩,
   mv 27 26 4,
   ⟨some 28, .move (.tmp 2), 3, some (27, false)⟩,
   ⟨some 29, .binOp .lss 3 (.tmp 28) (.const (.int .i64 0)) 3, 4, some (27, false)⟩,
   ⟨some 30, .pick (.tmp 27) (.const (.bool true)) (.tmp 29), 4, none⟩,
   mv 31 30 4,
   ⟨some 32, .move (.tmp 2), 3, some (31, false)⟩,
   ⟨some 33, .binOp .gtr 3 (.tmp 32) (.const (.int .i64 1099511627776)) 3, 4, some (31, false)⟩,
   ⟨some 34, .pick (.tmp 31) (.const (.bool true)) (.tmp 33), 4, none⟩]
def r4_6 : List VOp :=
  [⟨some 35, .call ⟨.value (.func 15), #[], #[]⟩, 4, none⟩,
   mv 36 35 4,
   ⟨some 37, .move (.tmp 8), 37, some (36, true)⟩,
   ⟨some 38, .load 24 (.tmp 3), 24, some (36, true)⟩,
   ⟨some 39, .load 32 (.tmp 4), 32, some (36, true)⟩,
   ⟨some 40, .call ⟨.value (.func 17), #[.tmp 38, .tmp 39], #[24, 32]⟩, 37, some (36, true)⟩,
   ⟨some 41, .binOp .eql 37 (.tmp 37) (.tmp 40) 37, 4, some (36, true)⟩,
   ⟨some 42, .pick (.tmp 36) (.tmp 41) (.const (.bool false)), 4, none⟩,
   asg 6 42 4]
def r4_7 : List VOp :=
  [⟨some 43, .call ⟨.value (.func 15), #[], #[]⟩, 4, none⟩,
   mv 44 43 4,
   ⟨some 45, .load 24 (.tmp 3), 24, some (44, true)⟩,
   ⟨some 46, .load 32 (.tmp 4), 32, some (44, true)⟩,
   ⟨some 47, .call ⟨.value (.func 19), #[.tmp 45, .tmp 46], #[24, 32]⟩, 22, some (44, true)⟩,
   ⟨some 48, .load 24 (.tmp 3), 24, some (44, true)⟩,
   ⟨some 49, .load 32 (.tmp 4), 32, some (44, true)⟩,
   ⟨some 50, .call ⟨.value (.func 20), #[.tmp 48, .tmp 49], #[24, 32]⟩, 22, some (44, true)⟩,
   ⟨some 51, .call ⟨.value (.func 18), #[.tmp 47, .tmp 50], #[22, 22]⟩, 4, some (44, true)⟩,
   ⟨some 52, .pick (.tmp 44) (.tmp 51) (.const (.bool false)), 4, none⟩,
   mv 53 52 4,
   ⟨some 54, .load 32 (.tmp 4), 32, some (53, true)⟩,
   ⟨some 55, .move (.tmp 2), 3, some (53, true)⟩,
   ⟨some 56, .call ⟨.value (.func 21), #[.tmp 54, .tmp 55], #[32, 3]⟩, 3, some (53, true)⟩,
   ⟨some 57, .load 32 (.tmp 4), 32, some (53, true)⟩,
   ⟨some 58, .move (.tmp 2), 3, some (53, true)⟩,
   ⟨some 59, .call ⟨.value (.func 22), #[.tmp 57, .tmp 58], #[32, 3]⟩, 3, some (53, true)⟩,
   ⟨some 60, .binOp .eql 3 (.tmp 56) (.tmp 59) 3, 4, some (53, true)⟩,
   ⟨some 61, .pick (.tmp 53) (.tmp 60) (.const (.bool false)), 4, none⟩,
   asg 6 61 4]
def B4 : VC :=
  (.seq (.region r4_0) (.seq (.region r4_1) (.seq (.seq (.region r4_2) (.cond (.tmp 13) (.seq (.region r4_3) .ret) .skip)) (.seq (.region r4_4) (.seq (.seq (.region r4_5) (.cond (.tmp 34) (.seq (.region r4_6) .ret) .skip)) (.seq (.draw r4_7 5) .ret))))))
theorem code4 : ∃ c, Tryz.f4.body = some c ∧ abs Tryz.f4.ntmps c = B4 := ⟨_, rfl, by kernel_rfl⟩
theorem hb4 : HasBody Tryz.prog 4 := hasBody_of Tryz.func4 (by kernel_rfl)
theorem res4 : Tryz.f4.results = #[(.tmp 6)] := rfl
theorem enter4 {w : World} {R : Value → World → Prop} (x0 x1 x2 : Value) (h : vc Tryz.prog B4 (retK Tryz.prog #[(.tmp 6)] R) [] (initEnv [x0, x1, x2] 0) w) : FnC Tryz.prog 4 #[x0, x1, x2] w R := by
  obtain ⟨c, h1, h2⟩ := code4
  exact hb4.fn (ret_of_vc mixed Tryz.func4 h1 (Nat.le_of_ble_eq_true rfl) B4 h2 h)
@[push_cast] theorem vr4_0 : VR r4_0 [⟨some 3, .box 24 (.tmp 0), 0, none⟩, ⟨some 4, .box 32 (.tmp 1), 0, none⟩, ⟨some 6, .assign (.const (.bool false)), 4, none⟩] := vR rfl
@[push_cast] theorem vr4_1 : VR r4_1 [⟨some 9, .load 24 (.tmp 3), 24, none⟩, ⟨some 10, .load 32 (.tmp 4), 32, none⟩, ⟨some 11, .call ⟨.value (.func 14), #[.tmp 9, .tmp 10], #[24, 32]⟩, 4, none⟩, ⟨some 7, .assign (.tmp 11), 4, none⟩] := vR rfl
@[push_cast] theorem vr4_2 : VR r4_2 [⟨some 12, .move (.tmp 7), 4, none⟩, ⟨some 13, .unOp .not 4 (.tmp 12), 4, none⟩] := vR rfl
@[push_cast] theorem vr4_3 : VR r4_3 [⟨some 14, .call ⟨.value (.func 15), #[], #[]⟩, 4, none⟩, ⟨some 6, .assign (.tmp 14), 4, none⟩] := vR rfl
@[push_cast] theorem vr4_4 : VR r4_4 [⟨some 15, .load 24 (.tmp 3), 24, none⟩, ⟨some 16, .load 32 (.tmp 4), 32, none⟩, ⟨some 17, .call ⟨.value (.func 16), #[.tmp 15, .tmp 16], #[24, 32]⟩, 37, none⟩, ⟨some 8, .assign (.tmp 17), 37, none⟩] := vR rfl
@[push_cast] theorem vr4_5 : VR r4_5 [⟨some 18, .move (.tmp 8), 37, none⟩, ⟨some 19, .load 24 (.tmp 3), 24, none⟩, ⟨some 20, .load 32 (.tmp 4), 32, none⟩, ⟨some 21, .call ⟨.value (.func 17), #[.tmp 19, .tmp 20], #[24, 32]⟩, 37, none⟩, ⟨some 22, .binOp .neq 37 (.tmp 18) (.tmp 21) 37, 4, none⟩, ⟨some 23, .move (.tmp 22), 4, none⟩, ⟨some 24, .move (.tmp 8), 37, some (23, false)⟩, ⟨some 25, .binOp .neq 37 (.tmp 24) (.const (.int .i64 0)) 37, 4, some (23, false)⟩, ⟨some 26, .pick (.tmp 23) (.const (.bool true)) (.tmp 25), 4, none⟩, ⟨some 27, .move (.tmp 26), 4, none⟩, ⟨some 28, .move (.tmp 2), 3, some (27, false)⟩, ⟨some 29, .binOp .lss 3 (.tmp 28) (.const (.int .i64 0)) 3, 4, some (27, false)⟩, ⟨some 30, .pick (.tmp 27) (.const (.bool true)) (.tmp 29), 4, none⟩, ⟨some 31, .move (.tmp 30), 4, none⟩, ⟨some 32, .move (.tmp 2), 3, some (31, false)⟩, ⟨some 33, .binOp .gtr 3 (.tmp 32) (.const (.int .i64 1099511627776)) 3, 4, some (31, false)⟩, ⟨some 34, .pick (.tmp 31) (.const (.bool true)) (.tmp 33), 4, none⟩] := vR rfl
@[push_cast] theorem vr4_6 : VR r4_6 [⟨some 35, .call ⟨.value (.func 15), #[], #[]⟩, 4, none⟩, ⟨some 36, .move (.tmp 35), 4, none⟩, ⟨some 37, .move (.tmp 8), 37, some (36, true)⟩, ⟨some 38, .load 24 (.tmp 3), 24, some (36, true)⟩, ⟨some 39, .load 32 (.tmp 4), 32, some (36, true)⟩, ⟨some 40, .call ⟨.value (.func 17), #[.tmp 38, .tmp 39], #[24, 32]⟩, 37, some (36, true)⟩, ⟨some 41, .binOp .eql 37 (.tmp 37) (.tmp 40) 37, 4, some (36, true)⟩, ⟨some 42, .pick (.tmp 36) (.tmp 41) (.const (.bool false)), 4, none⟩, ⟨some 6, .assign (.tmp 42), 4, none⟩] := vR rfl
@[push_cast] theorem vr4_7 : vc Tryz.prog (.draw r4_7 5) Q ds σ w = drawn Tryz.prog [(⟨some 43, .call ⟨.value (.func 15), #[], #[]⟩, 4, none⟩, []), (⟨some 44, .move (.tmp 43), 4, none⟩, [43]), (⟨some 45, .load 24 (.tmp 3), 24, some (44, true)⟩, [3, 44]), (⟨some 46, .load 32 (.tmp 4), 32, some (44, true)⟩, [4, 44]), (⟨some 47, .call ⟨.value (.func 19), #[.tmp 45, .tmp 46], #[24, 32]⟩, 22, some (44, true)⟩, [45, 46, 44]), (⟨some 48, .load 24 (.tmp 3), 24, some (44, true)⟩, [3, 44]), (⟨some 49, .load 32 (.tmp 4), 32, some (44, true)⟩, [4, 44]), (⟨some 50, .call ⟨.value (.func 20), #[.tmp 48, .tmp 49], #[24, 32]⟩, 22, some (44, true)⟩, [48, 49, 44]), (⟨some 51, .call ⟨.value (.func 18), #[.tmp 47, .tmp 50], #[22, 22]⟩, 4, some (44, true)⟩, [47, 50, 44]), (⟨some 52, .pick (.tmp 44) (.tmp 51) (.const (.bool false)), 4, none⟩, [44, 51]), (⟨some 53, .move (.tmp 52), 4, none⟩, [52]), (⟨some 54, .load 32 (.tmp 4), 32, some (53, true)⟩, [4, 53]), (⟨some 55, .move (.tmp 2), 3, some (53, true)⟩, [2, 53]), (⟨some 56, .call ⟨.value (.func 21), #[.tmp 54, .tmp 55], #[32, 3]⟩, 3, some (53, true)⟩, [54, 55, 53]), (⟨some 57, .load 32 (.tmp 4), 32, some (53, true)⟩, [4, 53]), (⟨some 58, .move (.tmp 2), 3, some (53, true)⟩, [2, 53]), (⟨some 59, .call ⟨.value (.func 22), #[.tmp 57, .tmp 58], #[32, 3]⟩, 3, some (53, true)⟩, [57, 58, 53]), (⟨some 60, .binOp .eql 3 (.tmp 56) (.tmp 59) 3, 4, some (53, true)⟩, [56, 59, 53]), (⟨some 61, .pick (.tmp 53) (.tmp 60) (.const (.bool false)), 4, none⟩, [53, 60]), (⟨some 6, .assign (.tmp 61), 4, none⟩, [61])] 5 (Q .normal ds) σ w := mk_eq rfl
end Go.Proofs.YtnofalhkapmcnaaGreat
end
