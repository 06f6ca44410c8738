/- Lists of plans: slices.IndexFunc, DeleteFunc, MinFunc, and how plans are held against one another. -/
import Derived.Test.YtnofalhkapmcnaaPartH
set_option linter.all false
open Nat renaming reduceEqDiff → zA, reducePow → zB, reduceMul → zC, reduceAdd → zD, reduceSub → zE, reduceLeDiff → zF
open Int renaming reduceToNat → zG, reducePow → zH, reduceNeg → zI, reduceMul → zJ, reduceAdd → zK, reduceSub → zL, reduceLT → zM, reduceLE → zN, reduceEq → zO, reduceMod → zP, reduceDiv → zQ
section
set_option linter.unusedSimpArgs false
namespace Go.Vc
open Go
/-- Less rows; if as many, a lower projection. -/
def ltN (a b : PN) : Bool := decide (a.rows < b.rows ∨ a.rows = b.rows ∧ a.proj < b.proj)
def cI (a b : Int) : Int := if a < b then -1 else if b < a then 1 else 0
def cmpN (a b : PN) : Int := if cI a.rows b.rows = 0 then cI a.proj b.proj else cI a.rows b.rows
theorem cmpN_lt (a b : PN) : decide (cmpN a b < 0) = ltN a b := by
  unfold cmpN ltN cI
  refine decide_eq_decide.2 ?_
  split <;> split <;> (try split) <;> omega
def minN (m : PN) (l : List PN) : PN := l.foldl (fun m y => if ltN y m then y else m) m
theorem minN_snoc (m : PN) (l : List PN) (y : PN) : minN m (l ++ [y]) = if ltN y (minN m l) then y else minN m l := by
  unfold minN
  rw [List.foldl_append]; rfl
end Go.Vc
namespace Go.Proofs.Ytnofalhkapmcnaa
open Go.Vc Go.Key Go.Bkt
set_option maxRecDepth 100000
theorem pindexF_c (v : Value) (l : List PN) (g : FuncId) (lb : Array Value) (p : PN → Bool) (w : World) (h : RecS pnC 5 w v l) (hp : ∀ x ∈ l, Prd Try.prog w g lb (.agg (pnC x).toArray) (p x)) : FnC Try.prog 85 #[v, .func (.func g) #[] lb] w fun r w' => r = .int .i64 (idxI p l) ∧ Later w w' := by
  obtain ⟨o, c, rfl, g1, g2⟩ := h.slice
  refine enter85 _ _ ?_
  unfold B85
  repeat' (first | (simp (disch := omega) only [push_cast, ↓reduceIte, zA, zG, zB, zH, zI, zC, zJ, zK, zL, zD, zE, zF, zM, zN, zO, zP, zQ, reduceCtorEq, not_true_eq_false, not_false_eq_true]) | (first | refine iE ?_ ?_ | refine iD ?_ ?_ | refine iQ ?_ ?_ | refine iV ?_ ?_) <;> intro _ | refine And.intro (by omega) ?_ | refine drawn_q ?_ | fail)
  refine vc_loop W85_0 (fun i : Nat => [(8, .int .i64 (i : Int))]) (fun i w' => i ≤ l.length ∧ Later w w' ∧ (l.take i).any p = false) (fun i => l.length - i) 0 (by decide) ?_ ?_ ?_
  · simp (disch := omega) only [push_cast, ↓reduceIte, zA, zG, zB, zH, zI, zC, zJ, zK, zL, zD, zE, zF, zM, zN, zO, zP, zQ, reduceCtorEq, not_true_eq_false, not_false_eq_true]
    try rfl
  · exact ⟨Nat.zero_le _, Later.refl _, by simp⟩
  rintro i uu w1 ⟨hi, l1, hno⟩
  by_cases hil : i < l.length
  · have hd : decide ((i : Int) < (l.length : Int)) = true := decide_eq_true (by omega)
    obtain ⟨a, rfl, c0⟩ := RecS.at pnC_len (h.later l1) hil
    repeat' (first | (simp (disch := omega) only [push_cast, ↓reduceIte, zA, zG, zB, zH, zI, zC, zJ, zK, zL, zD, zE, zF, zM, zN, zO, zP, zQ, reduceCtorEq, not_true_eq_false, not_false_eq_true, hd, c0]) | (first | refine iE ?_ ?_ | refine iD ?_ ?_ | refine iQ ?_ ?_ | refine iV ?_ ?_) <;> intro _ | refine And.intro (by omega) ?_ | refine drawn_q ?_ | fail)
    refine (hp l[i] (List.getElem_mem hil) w1 l1).mono ?_
    rintro _ w2 ⟨rfl, l2⟩
    cases hx : p l[i] with
    | true =>
      rw [idxI_hit hil hx hno]
      repeat' (first | (simp (disch := omega) only [push_cast, ↓reduceIte, zA, zG, zB, zH, zI, zC, zJ, zK, zL, zD, zE, zF, zM, zN, zO, zP, zQ, reduceCtorEq, not_true_eq_false, not_false_eq_true]) | (first | refine iE ?_ ?_ | refine iD ?_ ?_ | refine iQ ?_ ?_ | refine iV ?_ ?_) <;> intro _ | refine And.intro (by omega) ?_ | refine drawn_q ?_ | fail)
      first | exact ⟨rfl, (l1.trans l2)⟩ | exact (l1.trans l2)
    | false =>
      repeat' (first | (simp (disch := omega) only [push_cast, ↓reduceIte, zA, zG, zB, zH, zI, zC, zJ, zK, zL, zD, zE, zF, zM, zN, zO, zP, zQ, reduceCtorEq, not_true_eq_false, not_false_eq_true]) | (first | refine iE ?_ ?_ | refine iD ?_ ?_ | refine iQ ?_ ?_ | refine iV ?_ ?_) <;> intro _ | refine And.intro (by omega) ?_ | refine drawn_q ?_ | fail)
      exact ⟨rfl, i + 1, by simp (disch := omega) only [push_cast, ↓reduceIte, zA, zG, zB, zH, zI, zC, zJ, zK, zL, zD, zE, zF, zM, zN, zO, zP, zQ, reduceCtorEq, not_true_eq_false, not_false_eq_true], ⟨by omega, l1.trans l2, any_step hil hx hno⟩, by dsimp only; omega⟩
  · have hd : decide ((i : Int) < (l.length : Int)) = false := decide_eq_false (by omega)
    rw [List.take_of_length_le (by omega)] at hno
    rw [idxI_miss hno]
    repeat' (first | (simp (disch := omega) only [push_cast, ↓reduceIte, zA, zG, zB, zH, zI, zC, zJ, zK, zL, zD, zE, zF, zM, zN, zO, zP, zQ, reduceCtorEq, not_true_eq_false, not_false_eq_true, hd]) | (first | refine iE ?_ ?_ | refine iD ?_ ?_ | refine iQ ?_ ?_ | refine iV ?_ ?_) <;> intro _ | refine And.intro (by omega) ?_ | refine drawn_q ?_ | fail)
    first | exact ⟨rfl, l1⟩ | exact l1
def zeroPn : Value := .agg #[.int .i64 0, .int .i64 0, .int .i64 0, .int .i64 0, .int .i64 0]
theorem zeroP_one (m : Nat) : (∀ u ∈ (Builtin.zeroCells zeroPn.cells m).toList, u.oneCell' = true) ∧ (Builtin.zeroCells zeroPn.cells m).toList.length = m * 5 := by
  constructor
  · intro u hu
    simp only [Builtin.zeroCells, Array.toList_map, List.mem_map] at hu
    obtain ⟨i, _, rfl⟩ := hu
    have hs : zeroPn.cells.size = 5 := rfl
    rw [hs]
    have : i % 5 = 0 ∨ i % 5 = 1 ∨ i % 5 = 2 ∨ i % 5 = 3 ∨ i % 5 = 4 := by omega
    rcases this with h | h | h | h | h <;> rw [h] <;> rfl
  · simp only [Builtin.zeroCells, Array.toList_map, List.length_map, Array.length_toList, Array.size_range]
    rfl
set_option maxHeartbeats 2000000 in
theorem pdelete_c (B : Nat) (v : Value) (es : List PN) (g : FuncId) (lb : Array Value) (p : PN → Bool) (w0 w : World) (hl : Later w0 w) (hB : w0.heap.size ≤ B) (ho : OwnN w B v es) (hp : ∀ x ∈ es, Prd Try.prog w0 g lb (.agg (pnC x).toArray) (p x)) (h63 : es.length ≤ 1000000) :
    FnC Try.prog 45 #[v, .func (.func g) #[] lb] w fun r w' => RecS pnC 5 w' r (es.filter fun x => !p x) ∧ Later w0 w' := by
  have hm := OwnR.s ho
  obtain ⟨o, c, rfl, g1, g2⟩ := hm.slice
  refine enter45 _ _ ?_
  unfold B45
  repeat' (first | (simp (disch := omega) only [push_cast, ↓reduceIte, zA, zG, zB, zH, zI, zC, zJ, zK, zL, zD, zE, zF, zM, zN, zO, zP, zQ, reduceCtorEq, not_true_eq_false, not_false_eq_true]) | (first | refine iE ?_ ?_ | refine iD ?_ ?_ | refine iQ ?_ ?_ | refine iV ?_ ?_) <;> intro _ | refine And.intro (by omega) ?_ | refine drawn_q ?_ | fail)
  refine (pindexF_c _ es g lb p w hm (fun x hx => (hp x hx).later hl)).mono ?_
  rintro _ w1 ⟨rfl, l1⟩
  have l01 := hl.trans l1
  rcases idxI_or p es with ⟨he, hall⟩ | ⟨n, hn, he, hpn, hbef⟩
  · rw [he]
    have e : (es.filter fun x => !p x) = es := List.filter_eq_self.2 fun x hx => by simp [hall x hx]
    rw [e]
    repeat' (first | (simp (disch := omega) only [push_cast, ↓reduceIte, zA, zG, zB, zH, zI, zC, zJ, zK, zL, zD, zE, zF, zM, zN, zO, zP, zQ, reduceCtorEq, not_true_eq_false, not_false_eq_true]) | (first | refine iE ?_ ?_ | refine iD ?_ ?_ | refine iQ ?_ ?_ | refine iV ?_ ?_) <;> intro _ | refine And.intro (by omega) ?_ | refine drawn_q ?_ | fail)
    first | exact ⟨(hm.later l1), l01⟩ | exact l01
  · rw [he]
    cases o with
    | none => have h1 := SlN.len hm; have := h1.2.2.2.2 rfl; omega
    | some a =>
    obtain ⟨gr, rfl, hgr, _⟩ := own_writes ho
    have hpre : (es.take (n + 1)).filter (fun x => !p x) = es.take n := by
      rw [filter_step hn, if_neg (by rw [hpn]; simp), List.append_nil]
      exact List.filter_eq_self.2 fun x hx => by
        obtain ⟨j, hj, rfl⟩ := List.getElem_of_mem hx
        rw [List.length_take] at hj
        rw [List.getElem_take]
        simp [hbef j (by omega) (by omega)]
    repeat' (first | (simp (disch := omega) only [push_cast, ↓reduceIte, zA, zG, zB, zH, zI, zC, zJ, zK, zL, zD, zE, zF, zM, zN, zO, zP, zQ, reduceCtorEq, not_true_eq_false, not_false_eq_true]) | (first | refine iE ?_ ?_ | refine iD ?_ ?_ | refine iQ ?_ ?_ | refine iV ?_ ?_) <;> intro _ | refine And.intro (by omega) ?_ | refine drawn_q ?_ | fail)
    refine vc_loop W45_0 (fun q : Nat × Nat => [(5, .int .i64 (q.1 : Int)), (6, .int .i64 (q.2 : Int))])
      (fun q w' => q.1 < q.2 ∧ q.2 ≤ es.length ∧ Later w0 w' ∧ ∃ cur : List PN, cur.length = es.length ∧ OwnN w' B (.slice (some ⟨gr, 0, none⟩) es.length c) cur ∧ cur.take q.1 = (es.take q.2).filter (fun x => !p x) ∧ cur.drop q.2 = es.drop q.2) (fun q => es.length - q.2) (n, n + 1) (by decide) ?_ ?_ ?_
    · simp (disch := omega) only [push_cast, ↓reduceIte, zA, zG, zB, zH, zI, zC, zJ, zK, zL, zD, zE, zF, zM, zN, zO, zP, zQ, reduceCtorEq, not_true_eq_false, not_false_eq_true]
    · exact ⟨by dsimp only; omega, by dsimp only; omega, l01, es, rfl, ho.later l1, by dsimp only; exact hpre.symm, rfl⟩
    rintro ⟨i, j⟩ uu w2 ⟨hij, hj, l2, cur, hcl, hO, hT, hD⟩
    dsimp only at hij hj hT hD
    by_cases hlt : j < es.length
    · have hlt' : j < cur.length := by omega
      have hcur : cur[j] = es[j] := by
        have := congrArg (fun l => l[0]?) hD
        simp only [List.getElem?_drop, Nat.add_zero] at this
        rw [List.getElem?_eq_getElem hlt', List.getElem?_eq_getElem hlt] at this
        exact Option.some.inj this
      have f1 := RecS.get pnC_len (OwnR.s hO) hlt'
      rw [hcur] at f1
      have hstep := filter_step (p := fun x => !p x) hlt
      have hpx := hp es[j] (List.getElem_mem _)
      have hD' : cur.drop (j + 1) = es.drop (j + 1) := by
        have := congrArg (List.drop 1) hD
        simpa [List.drop_drop] using this
      generalize es[j] = x at *
      rw [addr_add_eq, Nat.zero_add] at f1
      repeat' (first | (simp (disch := omega) only [push_cast, ↓reduceIte, zA, zG, zB, zH, zI, zC, zJ, zK, zL, zD, zE, zF, zM, zN, zO, zP, zQ, reduceCtorEq, not_true_eq_false, not_false_eq_true, f1, addr_add_eq, Nat.zero_add]) | (first | refine iE ?_ ?_ | refine iD ?_ ?_ | refine iQ ?_ ?_ | refine iV ?_ ?_) <;> intro _ | refine And.intro (by omega) ?_ | refine drawn_q ?_ | fail)
      refine vStore_new rfl rfl (fun u hu => pnC_one x u (by simpa using hu)) ?_
      have l3 := later_alloc w2 (.cells (pnC x).toArray 49)
      have f3 : cellsAt (w2.alloc (.cells (pnC x).toArray 49)) ⟨w2.heap.size, 0, none⟩ 5 = some (pnC x) := Blk.cellsAt (l := pnC x) (Blk.new w2 _ _)
      generalize w2.alloc (.cells (pnC x).toArray 49) = w3 at *
      generalize w2.heap.size = k3 at *
      repeat' (first | (simp (disch := omega) only [push_cast, ↓reduceIte, zA, zG, zB, zH, zI, zC, zJ, zK, zL, zD, zE, zF, zM, zN, zO, zP, zQ, reduceCtorEq, not_true_eq_false, not_false_eq_true, f3]) | (first | refine iE ?_ ?_ | refine iD ?_ ?_ | refine iQ ?_ ?_ | refine iV ?_ ?_) <;> intro _ | refine And.intro (by omega) ?_ | refine drawn_q ?_ | fail)
      refine (hpx w3 (l2.trans l3)).mono ?_
      rintro _ w4 ⟨rfl, l4⟩
      have l24 := l2.trans (l3.trans l4)
      have hO4 := hO.later (l3.trans l4)
      cases hx : p x with
      | true =>
        repeat' (first | (simp (disch := omega) only [push_cast, ↓reduceIte, zA, zG, zB, zH, zI, zC, zJ, zK, zL, zD, zE, zF, zM, zN, zO, zP, zQ, reduceCtorEq, not_true_eq_false, not_false_eq_true]) | (first | refine iE ?_ ?_ | refine iD ?_ ?_ | refine iQ ?_ ?_ | refine iV ?_ ?_) <;> intro _ | refine And.intro (by omega) ?_ | refine drawn_q ?_ | fail)
        refine ⟨rfl, (i, j + 1), by simp (disch := omega) only [push_cast, ↓reduceIte, zA, zG, zB, zH, zI, zC, zJ, zK, zL, zD, zE, zF, zM, zN, zO, zP, zQ, reduceCtorEq, not_true_eq_false, not_false_eq_true], ⟨by dsimp only; omega, by dsimp only; omega, l24, cur, hcl, hO4, ?_, hD'⟩, by dsimp only; omega⟩
        dsimp only
        rw [hstep, if_neg (by simp [hx]), List.append_nil, hT]
      | false =>
        have f4 := cellsAt_later l4 5 f3
        rw [← hcl] at hO4
        obtain ⟨g', hg', hBg, ⟨cs, hb⟩, hcan, ho8, hc8⟩ := OwnR.set pnC_len hO4 (i := i) (by omega) x
        obtain rfl : gr = g' := congrArg Addr.block hg'
        rw [addr_add_eq, Nat.zero_add] at hcan ho8 hc8
        repeat' (first | (simp (disch := omega) only [push_cast, ↓reduceIte, zA, zG, zB, zH, zI, zC, zJ, zK, zL, zD, zE, zF, zM, zN, zO, zP, zQ, reduceCtorEq, not_true_eq_false, not_false_eq_true, f4, addr_add_eq, Nat.zero_add]) | (first | refine iE ?_ ?_ | refine iD ?_ ?_ | refine iQ ?_ ?_ | refine iV ?_ ?_) <;> intro _ | refine And.intro (by omega) ?_ | refine drawn_q ?_ | fail)
        refine ⟨rfl, by intro u hu; exact pnC_one x u (by simpa [Value.cells] using hu), hcan, ?_⟩
        have ex : (Value.agg (pnC x).toArray).cells.toList = pnC x := rfl
        rw [ex]
        rw [hcl] at ho8
        generalize storeAll w4 ⟨gr, i * 5, none⟩ (pnC x) = w8 at *
        repeat' (first | (simp (disch := omega) only [push_cast, ↓reduceIte, zA, zG, zB, zH, zI, zC, zJ, zK, zL, zD, zE, zF, zM, zN, zO, zP, zQ, reduceCtorEq, not_true_eq_false, not_false_eq_true]) | (first | refine iE ?_ ?_ | refine iD ?_ ?_ | refine iQ ?_ ?_ | refine iV ?_ ?_) <;> intro _ | refine And.intro (by omega) ?_ | refine drawn_q ?_ | fail)
        refine ⟨rfl, (i + 1, j + 1), by simp (disch := omega) only [push_cast, ↓reduceIte, zA, zG, zB, zH, zI, zC, zJ, zK, zL, zD, zE, zF, zM, zN, zO, zP, zQ, reduceCtorEq, not_true_eq_false, not_false_eq_true], ⟨by dsimp only; omega, by dsimp only; omega, Chg.later l24 hc8 (by intro q hq; rw [List.mem_singleton.1 hq]; omega), cur.set i x, by simp [hcl], ho8, ?_, ?_⟩, by dsimp only; omega⟩
        · dsimp only
          rw [hstep, if_pos (by simp [hx]), ← hT]
          rw [List.take_set, List.take_add_one, List.getElem?_eq_getElem (show i < cur.length by omega)]
          simp only [Option.toList_some]
          rw [List.set_append_right _ _ (by simp; omega)]
          have : (i - (cur.take i).length) = 0 := by simp; omega
          rw [this]
          simp
        · dsimp only
          rw [List.drop_set_of_lt (by omega)]
          exact hD'
    · have hje : j = es.length := by omega
      subst hje
      rw [List.take_length] at hT
      obtain ⟨g', hg', hBg, _, ⟨cs, hb⟩, hcan⟩ := own_writes hO
      obtain rfl : gr = g' := congrArg Addr.block hg'
      obtain ⟨hz1, hz2⟩ := zeroP_one (es.length - i)
      have em : ((es.length : Int) - (i : Int)).toNat = es.length - i := by omega
      have ea : slAddr (some ⟨gr, 0, none⟩) (i : Int) (c : Int) 5 = some ⟨gr, i * 5, none⟩ := by
        unfold slAddr
        rw [if_neg (by omega), Option.map_some, addr_add_eq, Nat.zero_add, Int.toNat_natCast]
      repeat' (first | (simp (disch := omega) only [push_cast, ↓reduceIte, zA, zG, zB, zH, zI, zC, zJ, zK, zL, zD, zE, zF, zM, zN, zO, zP, zQ, reduceCtorEq, not_true_eq_false, not_false_eq_true]) | (first | refine iE ?_ ?_ | refine iD ?_ ?_ | refine iQ ?_ ?_ | refine iV ?_ ?_) <;> intro _ | refine And.intro (by omega) ?_ | refine drawn_q ?_ | fail)
      refine vX_clear (m := es.length - i) (a := ⟨gr, i * 5, none⟩) (c := ((c : Int) - (i : Int)).toNat) Try.underlying45 (z := zeroPn) ti49 (by simp (disch := omega) only [push_cast, ↓reduceIte, zA, zG, zB, zH, zI, zC, zJ, zK, zL, zD, zE, zF, zM, zN, zO, zP, zQ, reduceCtorEq, not_true_eq_false, not_false_eq_true, em, ea]) (by omega) hz1 (hcan _ _ (by rw [hz2, hcl, ← Nat.add_mul]; exact Nat.mul_le_mul_right _ (by omega))) ?_
      obtain ⟨q1, q2⟩ := own_storeAll (Builtin.zeroCells zeroPn.cells (es.length - i)).toList w2 (i * 5) (cur.map pnC).flatten hO (by rw [hz2, hcl, ← Nat.add_mul]; exact Nat.mul_le_mul_right _ (by omega))
      generalize storeAll w2 ⟨gr, i * 5, none⟩ (Builtin.zeroCells zeroPn.cells (es.length - i)).toList = w3 at *
      have l3 : Later w0 w3 := Chg.later l2 q2 (by intro q hq; rw [List.mem_singleton.1 hq]; omega)
      rw [hcl] at q1
      have hs := SlN.preN (SlN.of_own q1) (k := i) (by omega)
      rw [wrs_take, rec_take pnC_len, hT] at hs
      have hlen : (es.filter (fun x => !p x)).length = i := by rw [← hT, List.length_take]; omega
      have hRec : RecS pnC 5 w3 (.slice (some ⟨gr, 0, none⟩) i c) (es.filter (fun x => !p x)) := by
        unfold RecS
        rw [hlen]
        exact hs
      repeat' (first | (simp (disch := omega) only [push_cast, ↓reduceIte, zA, zG, zB, zH, zI, zC, zJ, zK, zL, zD, zE, zF, zM, zN, zO, zP, zQ, reduceCtorEq, not_true_eq_false, not_false_eq_true]) | (first | refine iE ?_ ?_ | refine iD ?_ ?_ | refine iQ ?_ ?_ | refine iV ?_ ?_) <;> intro _ | refine And.intro (by omega) ?_ | refine drawn_q ?_ | fail)
      first | exact ⟨hRec, l3⟩ | exact l3
theorem choose2_c (a b : PN) (w : World) : FnC Try.prog 49 #[.agg (pnC a).toArray, .agg (pnC b).toArray] w fun r w' => r = .int .i64 (cmpN a b) ∧ Later w w' := by
  refine enter49 _ _ ?_
  unfold B49
  have eca : (Value.agg (pnC a).toArray).cells = (pnC a).toArray := rfl
  have ecb : (Value.agg (pnC b).toArray).cells = (pnC b).toArray := rfl
  have l1 := later_alloc w (.cells (pnC a).toArray 49)
  have s1 : (w.alloc (.cells (pnC a).toArray 49)).heap.size = w.heap.size + 1 := World.size_alloc _ _
  have B1 := Blk.new w (pnC a).toArray 49
  have l2 := later_alloc (w.alloc (.cells (pnC a).toArray 49)) (.cells (pnC b).toArray 49)
  have B2 := Blk.new (w.alloc (.cells (pnC a).toArray 49)) (pnC b).toArray 49
  rw [s1] at B2
  have B1 := B1.chg (Chg.of_later (ks := []) l2) (by simp)
  repeat' (first | (simp (disch := omega) only [push_cast, ↓reduceIte, zA, zG, zB, zH, zI, zC, zJ, zK, zL, zD, zE, zF, zM, zN, zO, zP, zQ, reduceCtorEq, not_true_eq_false, not_false_eq_true, eca, ecb, s1]) | (first | refine iE ?_ ?_ | refine iD ?_ ?_ | refine iQ ?_ ?_ | refine iV ?_ ?_) <;> intro _ | refine And.intro (by omega) ?_ | fail)
  have l12 := l1.trans l2
  generalize (w.alloc (.cells (pnC a).toArray 49)).alloc (.cells (pnC b).toArray 49) = w1 at *
  generalize hkf : w.heap.size = kf at *
  obtain ⟨_, _, _, a3, a4⟩ := pnB B1
  obtain ⟨_, _, _, b3, b4⟩ := pnB B2
  refine drawn_k 9 ?_
  repeat' (first | (simp (disch := omega) only [push_cast, ↓reduceIte, zA, zG, zB, zH, zI, zC, zJ, zK, zL, zD, zE, zF, zM, zN, zO, zP, zQ, reduceCtorEq, not_true_eq_false, not_false_eq_true, a3, a4, b3, b4, addr_add_eq, Nat.zero_add]) | (first | refine iE ?_ ?_ | refine iD ?_ ?_ | refine iQ ?_ ?_ | refine iV ?_ ?_) <;> intro _ | refine And.intro (by omega) ?_ | fail)
  refine NFn.fix hb51 (v := .int .i64 (cI a.rows b.rows)) (fun w' _ => (cmpI_c a.rows b.rows w').mono fun v w'' h => ⟨h.1, h.2 ▸ Later.refl _⟩) ?_
  repeat' (first | (simp (disch := omega) only [push_cast, ↓reduceIte, zA, zG, zB, zH, zI, zC, zJ, zK, zL, zD, zE, zF, zM, zN, zO, zP, zQ, reduceCtorEq, not_true_eq_false, not_false_eq_true, a3, a4, b3, b4, addr_add_eq, Nat.zero_add]) | (first | refine iE ?_ ?_ | refine iD ?_ ?_ | refine iQ ?_ ?_ | refine iV ?_ ?_) <;> intro _ | refine And.intro (by omega) ?_ | fail)
  intro w2 l2
  repeat' (first | (simp (disch := omega) only [push_cast, ↓reduceIte, zA, zG, zB, zH, zI, zC, zJ, zK, zL, zD, zE, zF, zM, zN, zO, zP, zQ, reduceCtorEq, not_true_eq_false, not_false_eq_true]) | (first | refine iE ?_ ?_ | refine iD ?_ ?_ | refine iQ ?_ ?_ | refine iV ?_ ?_) <;> intro _ | refine And.intro (by omega) ?_ | fail)
  refine (cmpI_c a.proj b.proj w2).mono ?_
  rintro _ w0 ⟨rfl, h0⟩; obtain rfl := h0.symm
  repeat' (first | (simp (disch := omega) only [push_cast, ↓reduceIte, zA, zG, zB, zH, zI, zC, zJ, zK, zL, zD, zE, zF, zM, zN, zO, zP, zQ, reduceCtorEq, not_true_eq_false, not_false_eq_true]) | (first | refine iE ?_ ?_ | refine iD ?_ ?_ | refine iQ ?_ ?_ | refine iV ?_ ?_) <;> intro _ | refine And.intro (by omega) ?_ | fail)
  have hsl : Sl (w2.alloc (.cells #[.int .i64 (cI a.rows b.rows), .int .i64 (cI a.proj b.proj)] 3)) (.slice (some ⟨w2.heap.size, 0, none⟩) 2 2) (([cI a.rows b.rows, cI a.proj b.proj] : List Int).map i64v) := Sl.of_blk (xs := [.int .i64 (cI a.rows b.rows), .int .i64 (cI a.proj b.proj)]) (Blk.new w2 _ _) rfl (by unfold maxLen; omega)
  have l3 := later_alloc w2 (.cells #[.int .i64 (cI a.rows b.rows), .int .i64 (cI a.proj b.proj)] 3)
  have ec : (if a.proj < b.proj then (-1 : Int) else if b.proj < a.proj then 1 else 0) = cI a.proj b.proj := rfl
  rw [ec]
  refine (cmpOr_c _ _ _ _ hsl).mono ?_
  rintro _ w0 ⟨rfl, h0⟩; obtain rfl := h0.symm
  unfold cmpN
  repeat' (first | (simp (disch := omega) only [push_cast, ↓reduceIte, zA, zG, zB, zH, zI, zC, zJ, zK, zL, zD, zE, zF, zM, zN, zO, zP, zQ, reduceCtorEq, not_true_eq_false, not_false_eq_true]) | (first | refine iE ?_ ?_ | refine iD ?_ ?_ | refine iQ ?_ ?_ | refine iV ?_ ?_) <;> intro _ | refine And.intro (by omega) ?_ | refine drawn_q ?_ | fail)
  first | exact ⟨rfl, ((l12.trans l2).trans l3)⟩ | exact ((l12.trans l2).trans l3)
set_option maxHeartbeats 1000000 in
theorem minFunc_c (v : Value) (m : PN) (l : List PN) (w : World) (h : RecS pnC 5 w v (m :: l)) : FnC Try.prog 48 #[v, .func (.func 49) #[] #[]] w fun r w' => r = .agg (pnC (minN m l)).toArray ∧ Later w w' := by
  obtain ⟨o, c, rfl, g1, g2⟩ := h.slice
  rw [List.length_cons] at g1 h
  refine enter48 _ _ ?_
  unfold B48
  have l1 := later_alloc w (.cells #[.int .i64 0, .int .i64 0, .int .i64 0, .int .i64 0, .int .i64 0] 49)
  have s1 : (w.alloc (.cells #[.int .i64 0, .int .i64 0, .int .i64 0, .int .i64 0, .int .i64 0] 49)).heap.size = w.heap.size + 1 := World.size_alloc _ _
  have B1 := Blk.new w #[.int .i64 0, .int .i64 0, .int .i64 0, .int .i64 0, .int .i64 0] 49
  have d1 : decide ((((l.length + 1 : Nat)) : Int) < 1) = false := decide_eq_false (by omega)
  have d1' : decide (((l.length : Int) + 1) < 1) = false := decide_eq_false (by omega)
  repeat' (first | (simp (disch := omega) only [push_cast, ↓reduceIte, zA, zG, zB, zH, zI, zC, zJ, zK, zL, zD, zE, zF, zM, zN, zO, zP, zQ, reduceCtorEq, not_true_eq_false, not_false_eq_true, d1, d1', List.length_cons]) | (first | refine iE ?_ ?_ | refine iD ?_ ?_ | refine iQ ?_ ?_ | refine iV ?_ ?_) <;> intro _ | refine And.intro (by omega) ?_ | fail)
  generalize w.alloc (.cells #[.int .i64 0, .int .i64 0, .int .i64 0, .int .i64 0, .int .i64 0] 49) = w1 at *
  have hz := RecS.at pnC_len (h.later l1) (i := 0) (by simp)
  obtain ⟨a, rfl, f0⟩ := hz
  rw [Nat.zero_mul, addr_add_zero, List.getElem_cons_zero] at f0
  repeat' (first | (simp (disch := omega) only [push_cast, ↓reduceIte, zA, zG, zB, zH, zI, zC, zJ, zK, zL, zD, zE, zF, zM, zN, zO, zP, zQ, reduceCtorEq, not_true_eq_false, not_false_eq_true, f0, addr_add_zero]) | (first | refine iE ?_ ?_ | refine iD ?_ ?_ | refine iQ ?_ ?_ | refine iV ?_ ?_) <;> intro _ | refine And.intro (by omega) ?_ | fail)
  refine vStore_new rfl rfl (fun u hu => pnC_one m u (by simpa using hu)) ?_
  have l2 := later_alloc w1 (.cells (pnC m).toArray 49)
  have B2 := Blk.new w1 (pnC m).toArray 49
  rw [s1] at B2
  generalize hkw : w.heap.size = kf at *
  rw [s1]
  generalize w1.alloc (.cells (pnC m).toArray 49) = w2 at *
  have B1 := B1.chg (Chg.of_later (ks := []) l2) (by simp)
  have l12 := l1.trans l2
  repeat' (first | (simp (disch := omega) only [push_cast, ↓reduceIte, zA, zG, zB, zH, zI, zC, zJ, zK, zL, zD, zE, zF, zM, zN, zO, zP, zQ, reduceCtorEq, not_true_eq_false, not_false_eq_true]) | (first | refine iE ?_ ?_ | refine iD ?_ ?_ | refine iQ ?_ ?_ | refine iV ?_ ?_) <;> intro _ | refine And.intro (by omega) ?_ | fail)
  refine vc_loop W48_0 (fun i : Nat => [(6, .int .i64 ((i : Int) + 1))]) (fun i w' => i ≤ l.length ∧ Later w w' ∧ Blk w' kf #[.int .i64 0, .int .i64 0, .int .i64 0, .int .i64 0, .int .i64 0] 49 ∧ Blk w' (kf + 1) (pnC (minN m (l.take i))).toArray 49) (fun i => l.length - i) 0 (by decide) ?_ ?_ ?_
  · simp (disch := omega) only [push_cast, ↓reduceIte, zA, zG, zB, zH, zI, zC, zJ, zK, zL, zD, zE, zF, zM, zN, zO, zP, zQ, reduceCtorEq, not_true_eq_false, not_false_eq_true]
    try rfl
  · exact ⟨Nat.zero_le _, l12, B1, B2⟩
  rintro i uu w3 ⟨hi, l3, C1, C2⟩
  have e3 : cellsAt w3 ⟨kf + 1, 0, none⟩ 5 = some (pnC (minN m (l.take i))) := Blk.cellsAt (l := pnC (minN m (l.take i))) C2
  by_cases hil : i < l.length
  · have hd : decide ((i : Int) + 1 < ((l.length : Int) + 1)) = true := decide_eq_true (by omega)
    have hd' : decide ((i : Int) + 1 < (((l.length + 1 : Nat)) : Int)) = true := decide_eq_true (by omega)
    have hg := RecS.get pnC_len (h.later l3) (i := i + 1) (by simp; omega)
    rw [List.getElem_cons_succ] at hg
    have t1 : ((i : Int) + 1).toNat = i + 1 := by omega
    have hst : minN m (l.take (i + 1)) = if ltN l[i] (minN m (l.take i)) then l[i] else minN m (l.take i) := by
      rw [List.take_succ_eq_append_getElem hil, minN_snoc]
    generalize l[i] = x at *
    generalize minN m (l.take i) = M at *
    repeat' (first | (simp (disch := omega) only [push_cast, ↓reduceIte, zA, zG, zB, zH, zI, zC, zJ, zK, zL, zD, zE, zF, zM, zN, zO, zP, zQ, reduceCtorEq, not_true_eq_false, not_false_eq_true, hd, hd', hg, e3, t1, List.length_cons]) | (first | refine iE ?_ ?_ | refine iD ?_ ?_ | refine iQ ?_ ?_ | refine iV ?_ ?_) <;> intro _ | refine And.intro (by omega) ?_ | fail)
    refine drawn_q ?_
    repeat' (first | (simp (disch := omega) only [push_cast, ↓reduceIte, zA, zG, zB, zH, zI, zC, zJ, zK, zL, zD, zE, zF, zM, zN, zO, zP, zQ, reduceCtorEq, not_true_eq_false, not_false_eq_true, hg, e3, t1, List.length_cons]) | (first | refine iE ?_ ?_ | refine iD ?_ ?_ | refine iQ ?_ ?_ | refine iV ?_ ?_) <;> intro _ | refine And.intro (by omega) ?_ | fail)
    refine QFn.of hb49 (v := .int .i64 (cmpN x M)) (fun w' _ => choose2_c x M w') ?_
    have hlt := cmpN_lt x M
    repeat' (first | (simp (disch := omega) only [push_cast, ↓reduceIte, zA, zG, zB, zH, zI, zC, zJ, zK, zL, zD, zE, zF, zM, zN, zO, zP, zQ, reduceCtorEq, not_true_eq_false, not_false_eq_true, hlt]) | (first | refine iE ?_ ?_ | refine iD ?_ ?_ | refine iQ ?_ ?_ | refine iV ?_ ?_) <;> intro _ | refine And.intro (by omega) ?_ | fail)
    intro w4 l4
    have hg4 := cellsAt_later l4 5 hg
    have C1 := C1.chg (Chg.of_later (ks := []) l4) (by simp)
    have C2 := C2.chg (Chg.of_later (ks := []) l4) (by simp)
    cases hc : ltN x M with
    | true =>
      rw [hc, if_pos rfl] at hst
      repeat' (first | (simp (disch := omega) only [push_cast, ↓reduceIte, zA, zG, zB, zH, zI, zC, zJ, zK, zL, zD, zE, zF, zM, zN, zO, zP, zQ, reduceCtorEq, not_true_eq_false, not_false_eq_true, hg4, t1, List.length_cons]) | (first | refine iE ?_ ?_ | refine iD ?_ ?_ | refine iQ ?_ ?_ | refine iV ?_ ?_) <;> intro _ | refine And.intro (by omega) ?_ | fail)
      refine vStore_blk (l := pnC M) (xs := pnC x) C2 rfl rfl (pnC_one _) ?_
      intro w5 C5 c5
      have l5 := Chg.later (l3.trans l4) c5 (by intro j hj; rw [List.mem_singleton.1 hj, hkw]; omega)
      repeat' (first | (simp (disch := omega) only [push_cast, ↓reduceIte, zA, zG, zB, zH, zI, zC, zJ, zK, zL, zD, zE, zF, zM, zN, zO, zP, zQ, reduceCtorEq, not_true_eq_false, not_false_eq_true]) | (first | refine iE ?_ ?_ | refine iD ?_ ?_ | refine iQ ?_ ?_ | refine iV ?_ ?_) <;> intro _ | refine And.intro (by omega) ?_ | fail)
      exact ⟨rfl, i + 1, by simp (disch := omega) only [push_cast, ↓reduceIte, zA, zG, zB, zH, zI, zC, zJ, zK, zL, zD, zE, zF, zM, zN, zO, zP, zQ, reduceCtorEq, not_true_eq_false, not_false_eq_true], ⟨by omega, l5, C1.chg c5 (by simp), by rw [hst]; exact C5⟩, by dsimp only; omega⟩
    | false =>
      rw [hc, if_neg (by simp)] at hst
      repeat' (first | (simp (disch := omega) only [push_cast, ↓reduceIte, zA, zG, zB, zH, zI, zC, zJ, zK, zL, zD, zE, zF, zM, zN, zO, zP, zQ, reduceCtorEq, not_true_eq_false, not_false_eq_true]) | (first | refine iE ?_ ?_ | refine iD ?_ ?_ | refine iQ ?_ ?_ | refine iV ?_ ?_) <;> intro _ | refine And.intro (by omega) ?_ | fail)
      exact ⟨rfl, i + 1, by simp (disch := omega) only [push_cast, ↓reduceIte, zA, zG, zB, zH, zI, zC, zJ, zK, zL, zD, zE, zF, zM, zN, zO, zP, zQ, reduceCtorEq, not_true_eq_false, not_false_eq_true], ⟨by omega, l3.trans l4, C1, by rw [hst]; exact C2⟩, by dsimp only; omega⟩
  · have hd : decide ((i : Int) + 1 < ((l.length : Int) + 1)) = false := decide_eq_false (by omega)
    have hd' : decide ((i : Int) + 1 < (((l.length + 1 : Nat)) : Int)) = false := decide_eq_false (by omega)
    rw [List.take_of_length_le (by omega)] at e3
    generalize minN m l = M at *
    repeat' (first | (simp (disch := omega) only [push_cast, ↓reduceIte, zA, zG, zB, zH, zI, zC, zJ, zK, zL, zD, zE, zF, zM, zN, zO, zP, zQ, reduceCtorEq, not_true_eq_false, not_false_eq_true, hd, hd', e3, List.length_cons]) | (first | refine iE ?_ ?_ | refine iD ?_ ?_ | refine iQ ?_ ?_ | refine iV ?_ ?_) <;> intro _ | refine And.intro (by omega) ?_ | fail)
    refine vStore_blk (l := [.int .i64 0, .int .i64 0, .int .i64 0, .int .i64 0, .int .i64 0]) (xs := pnC M) C1 rfl rfl (pnC_one _) ?_
    intro w5 C5 c5
    have l5 := Chg.later l3 c5 (by intro j hj; rw [List.mem_singleton.1 hj, hkw]; omega)
    repeat' (first | (simp (disch := omega) only [push_cast, ↓reduceIte, zA, zG, zB, zH, zI, zC, zJ, zK, zL, zD, zE, zF, zM, zN, zO, zP, zQ, reduceCtorEq, not_true_eq_false, not_false_eq_true]) | (first | refine iE ?_ ?_ | refine iD ?_ ?_ | refine iQ ?_ ?_ | refine iV ?_ ?_) <;> intro _ | refine And.intro (by omega) ?_ | fail)
    refine resK_cells (s := 5) (by simp (disch := omega) only [push_cast, ↓reduceIte, zA, zG, zB, zH, zI, zC, zJ, zK, zL, zD, zE, zF, zM, zN, zO, zP, zQ, reduceCtorEq, not_true_eq_false, not_false_eq_true]) (by rw [Try.underlying49]; exact sz49) (Blk.cellsAt (l := pnC M) C5) ?_
    repeat' (first | (simp (disch := omega) only [push_cast, ↓reduceIte, zA, zG, zB, zH, zI, zC, zJ, zK, zL, zD, zE, zF, zM, zN, zO, zP, zQ, reduceCtorEq, not_true_eq_false, not_false_eq_true]) | (first | refine iE ?_ ?_ | refine iD ?_ ?_ | refine iQ ?_ ?_ | refine iV ?_ ?_) <;> intro _ | refine And.intro (by omega) ?_ | refine drawn_q ?_ | fail)
    first | exact ⟨rfl, l5⟩ | exact l5
end Go.Proofs.Ytnofalhkapmcnaa
end
section
set_option linter.unusedSimpArgs false
namespace Go.Vc
open Go Go.RowKit
/-- What a call owns stays, if other blocks change. -/
theorem own_off {w w' : World} {base s n : Nat} {e : TypeId} {v : Value} {xs : List Value} {ks : List Nat} (h : w.ownsRow base e s v n xs) (g : Chg w w' ks) (hk : ∀ k ∈ ks, v.ownBlock ≠ some k) : w'.ownsRow base e s v n xs := by
  obtain ⟨h0, h⟩ := h
  refine ⟨h0, ?_⟩
  rcases h with h | ⟨b, cap, cur, hv, hb, hh, h1, h2, h3, h4⟩
  · exact .inl h
  · refine .inr ⟨b, cap, cur, hv, hb, ?_, h1, h2, h3, h4⟩
    have hB : Blk w b cur e := hh
    exact hB.chg g fun hm => hk b hm (by rw [hv]; rfl)
def ownRows (x : PN) (fl : List SD) : Int := fl.foldl (fun r f => if f.tier = x.tier ∧ f.proj = -1 then f.rows else r) x.rows
def projs (x : PN) (fl : List SD) : List PN := (fl.filter fun f => decide (f.tier = x.tier ∧ f.proj ≠ -1)).map fun f => { x with proj := f.proj, rows := f.rows }
def cand (x : PN) (fl : List SD) : List PN := { x with rows := ownRows x fl } :: projs x fl
theorem cand_skip {x : PN} {fl : List SD} {f : SD} (h : f.tier ≠ x.tier) : cand x (fl ++ [f]) = cand x fl := by
  unfold cand ownRows projs
  rw [List.foldl_append, List.filter_append, List.map_append]
  simp [h]
theorem cand_own {x : PN} {fl : List SD} {f : SD} (h : f.tier = x.tier) (hp : f.proj = -1) : cand x (fl ++ [f]) = { x with rows := f.rows } :: projs x fl := by
  unfold cand ownRows projs
  rw [List.foldl_append, List.filter_append, List.map_append]
  simp [h, hp]
theorem cand_proj {x : PN} {fl : List SD} {f : SD} (h : f.tier = x.tier) (hp : f.proj ≠ -1) : cand x (fl ++ [f]) = cand x fl ++ [{ x with proj := f.proj, rows := f.rows }] := by
  unfold cand ownRows projs
  rw [List.foldl_append, List.filter_append, List.map_append]
  simp [h, hp]
theorem cand_len (x : PN) (fl : List SD) : (cand x fl).length ≤ fl.length + 1 := by
  unfold cand projs
  rw [List.length_cons, List.length_map]
  have := List.length_filter_le (fun f : SD => decide (f.tier = x.tier ∧ f.proj ≠ -1)) fl
  omega
end Go.Vc
namespace Go.Proofs.Ytnofalhkapmcnaa
open Go.Vc Go.Key Go.Bkt
set_option maxRecDepth 100000
theorem sdB {w : World} {b : Nat} {f : SD} (B : Blk w b (sdC f).toArray 57) : w.cell? ⟨b, 1, none⟩ = some (.int .i64 f.tier) ∧ w.cell? ⟨b, 2, none⟩ = some (.int .i64 f.proj) ∧ w.cell? ⟨b, 3, none⟩ = some (.int .i64 f.rows) := ⟨B.cell 1, B.cell 2, B.cell 3⟩
def IC (kf ky : Nat) (f : SD) (x : PN) (w1 : World) (v5 v13 : Value) (b0 b1 b2 b3 b4 b5 b6 b7 : Bool) (s5 s7 s8 s13 s18 s19 s20 s21 s22 s23 : Value) (w : World) : Prop :=
  (s5 = v5 ∧ s7 = pt kf ∧ s8 = pt ky ∧ s13 = v13) ∧ Chg w1 w [ky] ∧ Blk w ky (pnC ⟨x.fr, x.to, x.tier, if b5 = true then f.proj else x.proj, if b7 = true then f.rows else x.rows⟩).toArray 49 ∧
  (b0 = true → s18 = .pointer (some ⟨kf, 2, none⟩)) ∧ (b1 = true → s19 = .int .i64 f.proj) ∧ (b2 = true → s20 = .pointer (some ⟨kf, 3, none⟩)) ∧ (b3 = true → s21 = .int .i64 f.rows) ∧ (b4 = true → s22 = .pointer (some ⟨ky, 3, none⟩)) ∧ (b6 = true → s23 = .pointer (some ⟨ky, 4, none⟩))
set_option maxHeartbeats 2000000 in
theorem reg46_c {w1 : World} {kf ky : Nat} {f : SD} {x : PN} {K : Env → World → Prop} {σ : Env} (e7 : σ 7 = pt kf) (e8 : σ 8 = pt ky) (Bf : Blk w1 kf (sdC f).toArray 57) (By : Blk w1 ky (pnC x).toArray 49)
    (hK : ∀ (σ1 : Env) (w2 : World), σ1 5 = σ 5 → σ1 8 = pt ky → σ1 13 = σ 13 → Chg w1 w2 [ky] → Blk w2 ky (pnC { x with proj := f.proj, rows := f.rows }).toArray 49 → K σ1 w2) :
    anyA Try.prog r46_6 [[], [0], [], [2], [0, 1], [4, 1, 0, 1], [0, 1, 2, 3, 4, 5], [6, 3, 5, 0, 1, 2, 3, 4, 5]] K σ w1 := by
  have hne := blk_ne Bf By (by decide)
  refine ⟨fun D σ1 w => IC kf ky f x w1 (σ 5) (σ 13) (D 0) (D 1) (D 2) (D 3) (D 4) (D 5) (D 6) (D 7) (σ1 5) (σ1 7) (σ1 8) (σ1 13) (σ1 18) (σ1 19) (σ1 20) (σ1 21) (σ1 22) (σ1 23) w, ?_, ?_, ?_⟩
  · intro w' hl
    exact ⟨⟨rfl, e7, e8, rfl⟩, Chg.of_later hl, By.chg (Chg.of_later (ks := []) hl) (by simp), (fun h => by cases h), (fun h => by cases h), (fun h => by cases h), (fun h => by cases h), (fun h => by cases h), (fun h => by cases h)⟩
  · intro D σ1 w2 j o hcl hI hoj hDj hwt
    obtain ⟨⟨g5, g7, g8, g13⟩, hc, hB, k0, k1, k2, k3, k4, k6⟩ := hI
    obtain ⟨c1, c2, c3⟩ := sdB (Bf.chg hc (by simpa using hne))
    match j, hoj with
    | 0, hoj =>
      obtain rfl := Option.some.inj hoj
      repeat' (first | (simp (disch := omega) only [push_cast, ↓reduceIte, zA, zG, zB, zH, zI, zC, zJ, zK, zL, zD, zE, zF, zM, zN, zO, zP, zQ, reduceCtorEq, not_true_eq_false, not_false_eq_true, g7, addr_add_eq, Nat.zero_add]) | (first | refine iE ?_ ?_ | refine iD ?_ ?_ | refine iQ ?_ ?_ | refine iV ?_ ?_) <;> intro _ | refine And.intro (by omega) ?_ | refine drawn_q ?_ | fail)
      exact ⟨⟨g5, rfl, g8, g13⟩, hc, hB, fun _ => rfl, k1, k2, k3, k4, k6⟩
    | 1, hoj =>
      obtain rfl := Option.some.inj hoj
      have h18 := k0 (waits_at' hwt rfl (by simp))
      repeat' (first | (simp (disch := omega) only [push_cast, ↓reduceIte, zA, zG, zB, zH, zI, zC, zJ, zK, zL, zD, zE, zF, zM, zN, zO, zP, zQ, reduceCtorEq, not_true_eq_false, not_false_eq_true, h18, c2]) | (first | refine iE ?_ ?_ | refine iD ?_ ?_ | refine iQ ?_ ?_ | refine iV ?_ ?_) <;> intro _ | refine And.intro (by omega) ?_ | refine drawn_q ?_ | fail)
      exact ⟨⟨g5, g7, g8, g13⟩, hc, hB, fun _ => rfl, fun _ => rfl, k2, k3, k4, k6⟩
    | 2, hoj =>
      obtain rfl := Option.some.inj hoj
      repeat' (first | (simp (disch := omega) only [push_cast, ↓reduceIte, zA, zG, zB, zH, zI, zC, zJ, zK, zL, zD, zE, zF, zM, zN, zO, zP, zQ, reduceCtorEq, not_true_eq_false, not_false_eq_true, g7, addr_add_eq, Nat.zero_add]) | (first | refine iE ?_ ?_ | refine iD ?_ ?_ | refine iQ ?_ ?_ | refine iV ?_ ?_) <;> intro _ | refine And.intro (by omega) ?_ | refine drawn_q ?_ | fail)
      exact ⟨⟨g5, rfl, g8, g13⟩, hc, hB, k0, k1, fun _ => rfl, k3, k4, k6⟩
    | 3, hoj =>
      obtain rfl := Option.some.inj hoj
      have h20 := k2 (waits_at' hwt rfl (by simp))
      repeat' (first | (simp (disch := omega) only [push_cast, ↓reduceIte, zA, zG, zB, zH, zI, zC, zJ, zK, zL, zD, zE, zF, zM, zN, zO, zP, zQ, reduceCtorEq, not_true_eq_false, not_false_eq_true, h20, c3]) | (first | refine iE ?_ ?_ | refine iD ?_ ?_ | refine iQ ?_ ?_ | refine iV ?_ ?_) <;> intro _ | refine And.intro (by omega) ?_ | refine drawn_q ?_ | fail)
      exact ⟨⟨g5, g7, g8, g13⟩, hc, hB, k0, k1, fun _ => rfl, fun _ => rfl, k4, k6⟩
    | 4, hoj =>
      obtain rfl := Option.some.inj hoj
      repeat' (first | (simp (disch := omega) only [push_cast, ↓reduceIte, zA, zG, zB, zH, zI, zC, zJ, zK, zL, zD, zE, zF, zM, zN, zO, zP, zQ, reduceCtorEq, not_true_eq_false, not_false_eq_true, g8, addr_add_eq, Nat.zero_add]) | (first | refine iE ?_ ?_ | refine iD ?_ ?_ | refine iQ ?_ ?_ | refine iV ?_ ?_) <;> intro _ | refine And.intro (by omega) ?_ | refine drawn_q ?_ | fail)
      exact ⟨⟨g5, g7, rfl, g13⟩, hc, hB, k0, k1, k2, k3, fun _ => rfl, k6⟩
    | 5, hoj =>
      obtain rfl := Option.some.inj hoj
      have h22 := k4 (waits_at' hwt rfl (i := 4) (by simp))
      have h19 := k1 (waits_at' hwt rfl (i := 1) (by simp))
      obtain ⟨_, _, _, g3, _⟩ := pnB hB
      have fz := hB.frozen 3
      have hB2 := hB.set 3 (.int .i64 f.proj)
      have hc2 : Chg w2 (w2.setCell ⟨ky, 3, none⟩ (.int .i64 f.proj)) [ky] := chg_setCell w2 (by simp) _
      repeat' (first | (simp (disch := omega) only [push_cast, ↓reduceIte, zA, zG, zB, zH, zI, zC, zJ, zK, zL, zD, zE, zF, zM, zN, zO, zP, zQ, reduceCtorEq, not_true_eq_false, not_false_eq_true, h22, h19, g3, fz]) | (first | refine iE ?_ ?_ | refine iD ?_ ?_ | refine iQ ?_ ?_ | refine iV ?_ ?_) <;> intro _ | refine And.intro (by omega) ?_ | refine drawn_q ?_ | fail)
      generalize w2.setCell ⟨ky, 3, none⟩ (.int .i64 f.proj) = w3 at *
      exact ⟨⟨g5, g7, g8, g13⟩, hc.trans hc2, hB2, k0, fun _ => by first | exact h19 | rfl, k2, k3, fun _ => by first | exact h22 | rfl, k6⟩
    | 6, hoj =>
      obtain rfl := Option.some.inj hoj
      repeat' (first | (simp (disch := omega) only [push_cast, ↓reduceIte, zA, zG, zB, zH, zI, zC, zJ, zK, zL, zD, zE, zF, zM, zN, zO, zP, zQ, reduceCtorEq, not_true_eq_false, not_false_eq_true, g8, addr_add_eq, Nat.zero_add]) | (first | refine iE ?_ ?_ | refine iD ?_ ?_ | refine iQ ?_ ?_ | refine iV ?_ ?_) <;> intro _ | refine And.intro (by omega) ?_ | refine drawn_q ?_ | fail)
      exact ⟨⟨g5, g7, rfl, g13⟩, hc, hB, k0, k1, k2, k3, k4, fun _ => rfl⟩
    | 7, hoj =>
      obtain rfl := Option.some.inj hoj
      have h23 := k6 (waits_at' hwt rfl (i := 6) (by simp))
      have h21 := k3 (waits_at' hwt rfl (i := 3) (by simp))
      obtain ⟨_, _, _, _, g4⟩ := pnB hB
      have fz := hB.frozen 4
      have hB2 := hB.set 4 (.int .i64 f.rows)
      have hc2 : Chg w2 (w2.setCell ⟨ky, 4, none⟩ (.int .i64 f.rows)) [ky] := chg_setCell w2 (by simp) _
      repeat' (first | (simp (disch := omega) only [push_cast, ↓reduceIte, zA, zG, zB, zH, zI, zC, zJ, zK, zL, zD, zE, zF, zM, zN, zO, zP, zQ, reduceCtorEq, not_true_eq_false, not_false_eq_true, h23, h21, g4, fz]) | (first | refine iE ?_ ?_ | refine iD ?_ ?_ | refine iQ ?_ ?_ | refine iV ?_ ?_) <;> intro _ | refine And.intro (by omega) ?_ | refine drawn_q ?_ | fail)
      generalize w2.setCell ⟨ky, 4, none⟩ (.int .i64 f.rows) = w3 at *
      exact ⟨⟨g5, g7, g8, g13⟩, hc.trans hc2, hB2, k0, k1, k2, fun _ => by first | exact h21 | rfl, k4, fun _ => by first | exact h23 | rfl⟩
    | n + 8, hoj => exact absurd hoj (by simp [r46_6])
  · intro D σ1 w2 hI hall
    obtain ⟨⟨g5, g7, g8, g13⟩, hc, hB, _⟩ := hI
    have hall : ∀ j, j < 8 → D j = true := hall
    rw [hall 5 (by decide), hall 7 (by decide)] at hB
    exact hK σ1 w2 g5 g8 g13 hc hB
set_option maxHeartbeats 4000000 in
theorem candidates_c (x : PN) (fv : Value) (fl : List SD) (w : World) (hf : RecS sdC 4 w fv fl) (hfo : ∀ f ∈ fl, f.Ok) (hfl : fl.length ≤ 1000) : FnC Try.prog 46 #[.agg (pnC x).toArray, fv] w fun v w' => OwnN w' w.heap.size v (cand x fl) ∧ Later w w' := by
  obtain ⟨fo, fc, rfl, hf1, hf2⟩ := hf.slice
  refine enter46 _ _ ?_
  unfold B46
  have eca : (Value.agg (pnC x).toArray).cells = (pnC x).toArray := rfl
  have l1 := later_alloc w (.cells (pnC x).toArray 49)
  have B1 := Blk.new w (pnC x).toArray 49
  have f1 : cellsAt (w.alloc (.cells (pnC x).toArray 49)) ⟨w.heap.size, 0, none⟩ 5 = some (pnC x) := Blk.cellsAt (l := pnC x) B1
  repeat' (first | (simp (disch := omega) only [push_cast, ↓reduceIte, zA, zG, zB, zH, zI, zC, zJ, zK, zL, zD, zE, zF, zM, zN, zO, zP, zQ, reduceCtorEq, not_true_eq_false, not_false_eq_true, eca, f1]) | (first | refine iE ?_ ?_ | refine iD ?_ ?_ | refine iQ ?_ ?_ | refine iV ?_ ?_) <;> intro _ | refine And.intro (by omega) ?_ | fail)
  generalize w.alloc (.cells (pnC x).toArray 49) = w1 at *
  have l2 := later_alloc w1 (.cells (pnC x).toArray 49)
  have ho2 : OwnN (w1.alloc (.cells (pnC x).toArray 49)) w1.heap.size (.slice (some ⟨w1.heap.size, 0, none⟩) 1 1) (cand x []) := own_lit w1 (pnC x) _ 5 1 rfl (by unfold maxLen; omega) (Nat.le_refl _)
  generalize w1.alloc (.cells (pnC x).toArray 49) = w2 at *
  generalize hkx : w.heap.size = kx at *
  have hb : kx ≤ w1.heap.size := by rw [← hkx]; exact l1.size
  refine vc_loop W46_0 (fun p : Nat × Value => [(5, p.2), (13, .int .i64 (p.1 : Int))]) (fun p w' => p.1 ≤ fl.length ∧ Later w1 w' ∧ OwnN w' w1.heap.size p.2 (cand x (fl.take p.1))) (fun p => fl.length - p.1) (0, .slice (some ⟨w1.heap.size, 0, none⟩) 1 1) (by decide) ?_ ?_ ?_
  · simp (disch := omega) only [push_cast, ↓reduceIte, zA, zG, zB, zH, zI, zC, zJ, zK, zL, zD, zE, zF, zM, zN, zO, zP, zQ, reduceCtorEq, not_true_eq_false, not_false_eq_true]
    try rfl
  · exact ⟨Nat.zero_le _, l2, by simpa using ho2⟩
  rintro ⟨i, ov⟩ uu w3 ⟨hi, l3, ho⟩
  dsimp only at hi ho ⊢
  by_cases hik : i < fl.length
  · have hd2 : decide ((i : Int) < (fl.length : Int)) = true := decide_eq_true (by omega)
    obtain ⟨a, rfl, fa⟩ := RecS.at sdC_len (hf.later (l1.trans l3)) hik
    have hfok := hfo _ (List.getElem_mem hik)
    have htk : fl.take (i + 1) = fl.take i ++ [fl[i]] := List.take_succ_eq_append_getElem hik
    have hcl := cand_len x (fl.take i)
    rw [List.length_take] at hcl
    generalize fl[i] = f at *
    repeat' (first | (simp (disch := omega) only [push_cast, ↓reduceIte, zA, zG, zB, zH, zI, zC, zJ, zK, zL, zD, zE, zF, zM, zN, zO, zP, zQ, reduceCtorEq, not_true_eq_false, not_false_eq_true, hd2, fa, addr_add_eq, Nat.zero_add]) | (first | refine iE ?_ ?_ | refine iD ?_ ?_ | refine iQ ?_ ?_ | refine iV ?_ ?_) <;> intro _ | refine And.intro (by omega) ?_ | fail)
    refine vStore_new rfl rfl (by intro u hu; simp only [sdC, List.mem_toArray, List.mem_cons, List.not_mem_nil, or_false] at hu; rcases hu with rfl | rfl | rfl | rfl <;> rfl) ?_
    have l4 := later_alloc w3 (.cells (sdC f).toArray 57)
    have Bf := Blk.new w3 (sdC f).toArray 57
    generalize w3.alloc (.cells (sdC f).toArray 57) = w4 at *
    generalize w3.heap.size = kf at *
    have l14 := l3.trans l4
    have ho4 := ho.later l4
    obtain ⟨c1, c2, c3⟩ := sdB Bf
    have B14 := B1.chg (Chg.of_later (ks := []) l14) (by simp)
    obtain ⟨_, _, b2, _, _⟩ := pnB B14
    by_cases ht : f.tier = x.tier
    case neg =>
      have d1 := decide_eq_false ht
      have hst : cand x (fl.take (i + 1)) = cand x (fl.take i) := by rw [htk, cand_skip ht]
      repeat' (first | (simp (disch := omega) only [push_cast, ↓reduceIte, zA, zG, zB, zH, zI, zC, zJ, zK, zL, zD, zE, zF, zM, zN, zO, zP, zQ, reduceCtorEq, not_true_eq_false, not_false_eq_true, c1, b2, d1, addr_add_eq, Nat.zero_add]) | (first | refine iE ?_ ?_ | refine iD ?_ ?_ | refine iQ ?_ ?_ | refine iV ?_ ?_) <;> intro _ | refine And.intro (by omega) ?_ | fail)
      refine ⟨rfl, (i + 1, ov), by simp (disch := omega) only [push_cast, ↓reduceIte, zA, zG, zB, zH, zI, zC, zJ, zK, zL, zD, zE, zF, zM, zN, zO, zP, zQ, reduceCtorEq, not_true_eq_false, not_false_eq_true], ⟨by dsimp only; omega, l14, by dsimp only; rw [hst]; exact ho4⟩, by dsimp only; omega⟩
    have d1 := decide_eq_true ht
    by_cases hp : f.proj = -1
    · have d2 := decide_eq_true hp
      have hst : cand x (fl.take (i + 1)) = { x with rows := f.rows } :: projs x (fl.take i) := by rw [htk, cand_own ht hp]
      have hshape : ∃ g c, ov = .slice (some ⟨g, 0, none⟩) (cand x (fl.take i)).length c := by
        have h : w4.ownsRow w1.heap.size _ 5 ov ((projs x (fl.take i)).length + 1) _ := ho4
        exact own_succ h
      obtain ⟨g, c, rfl⟩ := hshape
      have hlen : (cand x (fl.take i)).length = (projs x (fl.take i)).length + 1 := rfl
      obtain ⟨k, hk, hkB, hklt, ho5, ⟨y, hy⟩, hfz, _⟩ := own_setN (i := 4) ho4 (by rw [hlen]; omega) (.int .i64 f.rows)
      obtain rfl : g = k := congrArg Addr.block hk
      have ho5' : OwnN (w4.setCell ⟨g, 4, none⟩ (.int .i64 f.rows)) w1.heap.size (.slice (some ⟨g, 0, none⟩) (cand x (fl.take i)).length c) (cand x (fl.take (i + 1))) := by
        rw [hst]
        exact ho5
      have l5 : Later w1 (w4.setCell ⟨g, 4, none⟩ (.int .i64 f.rows)) := l14.setCell hkB _
      have d0 : decide ((0 : Int) < ((cand x (fl.take i)).length : Int)) = true := decide_eq_true (by omega)
      repeat' (first | (simp (disch := omega) only [push_cast, ↓reduceIte, zA, zG, zB, zH, zI, zC, zJ, zK, zL, zD, zE, zF, zM, zN, zO, zP, zQ, reduceCtorEq, not_true_eq_false, not_false_eq_true, c1, c2, c3, b2, d1, d2, hy, hfz, hlen, addr_add_eq, Nat.zero_add]) | (first | refine iE ?_ ?_ | refine iD ?_ ?_ | refine iQ ?_ ?_ | refine iV ?_ ?_) <;> intro _ | refine And.intro (by omega) ?_ | fail)
      generalize w4.setCell ⟨g, 4, none⟩ (.int .i64 f.rows) = w5 at *
      try refine ⟨by omega, ?_⟩
      repeat' (first | (simp (disch := omega) only [push_cast, ↓reduceIte, zA, zG, zB, zH, zI, zC, zJ, zK, zL, zD, zE, zF, zM, zN, zO, zP, zQ, reduceCtorEq, not_true_eq_false, not_false_eq_true, hy, hfz, addr_add_eq, Nat.zero_add]) | (first | refine iE ?_ ?_ | refine iD ?_ ?_ | refine iQ ?_ ?_ | refine iV ?_ ?_) <;> intro _ | refine And.intro (by omega) ?_ | fail)
      refine ⟨rfl, (i + 1, .slice (some ⟨g, 0, none⟩) (cand x (fl.take i)).length c), by simp (disch := omega) only [push_cast, ↓reduceIte, zA, zG, zB, zH, zI, zC, zJ, zK, zL, zD, zE, zF, zM, zN, zO, zP, zQ, reduceCtorEq, not_true_eq_false, not_false_eq_true, hlen], ⟨by dsimp only; omega, l5, by dsimp only; exact ho5'⟩, by dsimp only; omega⟩
    · have d2 := decide_eq_false hp
      have hst : cand x (fl.take (i + 1)) = cand x (fl.take i) ++ [{ x with proj := f.proj, rows := f.rows }] := by rw [htk, cand_proj ht hp]
      have fx : cellsAt w4 ⟨kx, 0, none⟩ 5 = some (pnC x) := Blk.cellsAt (l := pnC x) B14
      repeat' (first | (simp (disch := omega) only [push_cast, ↓reduceIte, zA, zG, zB, zH, zI, zC, zJ, zK, zL, zD, zE, zF, zM, zN, zO, zP, zQ, reduceCtorEq, not_true_eq_false, not_false_eq_true, c1, c2, c3, b2, d1, d2, fx, addr_add_eq, Nat.zero_add]) | (first | refine iE ?_ ?_ | refine iD ?_ ?_ | refine iQ ?_ ?_ | refine iV ?_ ?_) <;> intro _ | refine And.intro (by omega) ?_ | fail)
      refine vStore_new rfl rfl (fun u hu => pnC_one x u (by simpa using hu)) ?_
      have l5 := later_alloc w4 (.cells (pnC x).toArray 49)
      have By := Blk.new w4 (pnC x).toArray 49
      have hlt := World.ownsRow.lt ho4
      have hky : w1.heap.size ≤ w4.heap.size := l14.size
      generalize w4.alloc (.cells (pnC x).toArray 49) = w5 at *
      generalize w4.heap.size = ky at *
      have ho5 := ho4.later l5
      have Bf5 := Bf.chg (Chg.of_later (ks := []) l5) (by simp)
      repeat' (first | (simp (disch := omega) only [push_cast, ↓reduceIte, zA, zG, zB, zH, zI, zC, zJ, zK, zL, zD, zE, zF, zM, zN, zO, zP, zQ, reduceCtorEq, not_true_eq_false, not_false_eq_true]) | (first | refine iE ?_ ?_ | refine iD ?_ ?_ | refine iQ ?_ ?_ | refine iV ?_ ?_) <;> intro _ | refine And.intro (by omega) ?_ | fail)
      refine Or.inr (reg46_c rfl rfl Bf5 By ?_)
      intro σ1 w6 g5 g8 g13 hc6 hB6
      have ho6 := own_off ho5 hc6 (by intro k hk; rw [List.mem_singleton.1 hk]; intro h; have := hlt ky h; omega)
      have l16 : Later w1 w6 := Chg.later (l14.trans l5) hc6 (by intro j hj; rw [List.mem_singleton.1 hj]; exact hky)
      have f6 : cellsAt w6 ⟨ky, 0, none⟩ 5 = some (pnC { x with proj := f.proj, rows := f.rows }) := Blk.cellsAt (l := pnC { x with proj := f.proj, rows := f.rows }) hB6
      have g5 : σ1 5 = ov := g5
      have g13 : σ1 13 = .int .i64 (i : Int) := g13
      generalize ({ x with proj := f.proj, rows := f.rows } : PN) = Y at *
      repeat' (first | (simp (disch := omega) only [push_cast, ↓reduceIte, zA, zG, zB, zH, zI, zC, zJ, zK, zL, zD, zE, zF, zM, zN, zO, zP, zQ, reduceCtorEq, not_true_eq_false, not_false_eq_true, g5, g8, g13, f6, addr_add_eq, Nat.zero_add]) | (first | refine iE ?_ ?_ | refine iD ?_ ?_ | refine iQ ?_ ?_ | refine iV ?_ ?_) <;> intro _ | refine And.intro (by omega) ?_ | fail)
      have la := later_alloc w6 (.cells (pnC Y).toArray 49)
      have Bl := Blk.new w6 (pnC Y).toArray 49
      generalize w6.alloc (.cells (pnC Y).toArray 49) = w7 at *
      have ho7 : OwnN w7 w1.heap.size ov (cand x (fl.take i)) := own_later ho6 la
      refine vAppend_pn (r := [Y]) ho7 (RecS.lit1 (pnC_len Y) Bl) (by simp only [List.length_cons, List.length_nil]; omega) (Nat.le_trans l16.size la.size) ?_
      intro v' w8 ho8 hg _
      have l8 := (l16.trans la).appended ho7 (Nat.le_refl _) hg
      repeat' (first | (simp (disch := omega) only [push_cast, ↓reduceIte, zA, zG, zB, zH, zI, zC, zJ, zK, zL, zD, zE, zF, zM, zN, zO, zP, zQ, reduceCtorEq, not_true_eq_false, not_false_eq_true, g13]) | (first | refine iE ?_ ?_ | refine iD ?_ ?_ | refine iQ ?_ ?_ | refine iV ?_ ?_) <;> intro _ | refine And.intro (by omega) ?_ | fail)
      refine ⟨rfl, (i + 1, v'), by simp (disch := omega) only [push_cast, ↓reduceIte, zA, zG, zB, zH, zI, zC, zJ, zK, zL, zD, zE, zF, zM, zN, zO, zP, zQ, reduceCtorEq, not_true_eq_false, not_false_eq_true], ⟨by dsimp only; omega, l8, by dsimp only; rw [hst]; exact ho8⟩, by dsimp only; omega⟩
  · have hd2 : decide ((i : Int) < (fl.length : Int)) = false := decide_eq_false (by omega)
    rw [List.take_of_length_le (by omega)] at ho
    repeat' (first | (simp (disch := omega) only [push_cast, ↓reduceIte, zA, zG, zB, zH, zI, zC, zJ, zK, zL, zD, zE, zF, zM, zN, zO, zP, zQ, reduceCtorEq, not_true_eq_false, not_false_eq_true, hd2]) | (first | refine iE ?_ ?_ | refine iD ?_ ?_ | refine iQ ?_ ?_ | refine iV ?_ ?_) <;> intro _ | refine And.intro (by omega) ?_ | fail)
    first | exact ⟨(ho.base hb), (l1.trans l3)⟩ | exact (l1.trans l3)
end Go.Proofs.Ytnofalhkapmcnaa
end
section
set_option linter.unusedSimpArgs false
namespace Go.Vc
open Go Go.RowKit
/-- What is answered of stretches: their best, or the first that none is eligible for. -/
def chooseR (E : PN → Bool) (best : PN → PN) (l : List PN) : List PN × Int × Int := match l.find? (fun x => !E x) with
  | some x => ([], x.tier, 261)
  | none => (l.map best, -1, 0)
theorem chooseR_bad {E : PN → Bool} {best : PN → PN} {l : List PN} {i : Nat} (hi : i < l.length) (hE : E l[i] = false) (hb : ∀ j (h : j < l.length), j < i → E l[j] = true) : chooseR E best l = ([], l[i].tier, 261) := by
  have : l.find? (fun x => !E x) = some l[i] := by
    rw [List.find?_eq_some_iff_getElem]
    exact ⟨by simp [hE], i, hi, rfl, fun j hj => by simp [hb j (by omega) hj]⟩
  unfold chooseR
  rw [this]
theorem chooseR_good {E : PN → Bool} {best : PN → PN} {l : List PN} (hb : ∀ x ∈ l, E x = true) : chooseR E best l = (l.map best, -1, 0) := by
  have : l.find? (fun x => !E x) = none := by
    rw [List.find?_eq_none]
    intro x hx; simp [hb x hx]
  unfold chooseR
  rw [this]
theorem strL_mem {fr to : Int} {el : List Int} {n : Nat} {x : PN} (h : x ∈ strL fr to el n) : ∃ i, i < n ∧ x = strI fr to el i ∧ x.fr < x.to := by
  unfold strL at h
  obtain ⟨h1, h2⟩ := List.mem_filter.1 h
  obtain ⟨i, hi, rfl⟩ := List.mem_map.1 h1
  exact ⟨i, List.mem_range.1 hi, rfl, of_decide_eq_true h2⟩
theorem getD_i64 {el : List Int} (h : ∀ n ∈ el, I64 n) (i : Nat) : I64 (el.getD i 0) := by
  rw [List.getD_eq_getElem?_getD]
  cases hq : el[i]? with
  | none => exact ⟨by decide, by decide⟩
  | some v => exact h v (List.mem_of_getElem? hq)
theorem strI_i64 {fr to : Int} {el : List Int} (hf : I64 fr) (ht : I64 to) (h : ∀ n ∈ el, I64 n) (i : Nat) : I64 (strI fr to el i).fr ∧ I64 (strI fr to el i).to := by
  have h1 := getD_i64 h i
  refine ⟨?_, ?_⟩
  · show I64 (max fr (el.getD i 0))
    unfold I64 at *
    omega
  · cases i with
    | zero => exact ht
    | succ i =>
      have h2 := getD_i64 h i
      show I64 (min to (el.getD i 0))
      unfold I64 at *
      omega
end Go.Vc
namespace Go.Proofs.Ytnofalhkapmcnaa
open Go.Vc Go.Key Go.Bkt
set_option maxRecDepth 100000
def bestS (d : List ByteArray) (p : PD) (q : QD) (fl : List SD) (x : PN) : PN := minN { x with rows := ownRows x fl } ((projs x fl).filter (elB d p q))
theorem cand_filter (d : List ByteArray) (p : PD) (q : QD) (fl : List SD) {x : PN} (h : elB d p q x = true) : (cand x fl).filter (elB d p q) = { x with rows := ownRows x fl } :: (projs x fl).filter (elB d p q) := by
  unfold cand
  exact List.filter_cons_of_pos h
theorem cand_in {p : PD} {x : PN} (hx : PnIn p x) {fl : List SD} (hfl : ∀ f ∈ fl, -1 ≤ f.proj ∧ f.proj < (p.pl.length : Int)) {y : PN} (hy : y ∈ cand x fl) : PnIn p y ∧ y.fr = x.fr ∧ y.to = x.to := by
  unfold cand projs at hy
  rcases List.mem_cons.1 hy with rfl | hy
  · exact ⟨⟨hx.t, hx.j⟩, rfl, rfl⟩
  · obtain ⟨f, hf, rfl⟩ := List.mem_map.1 hy
    exact ⟨⟨hx.t, hfl f (List.mem_filter.1 hf).1⟩, rfl, rfl⟩
theorem choose1_c (dv mv : Value) (d m : List ByteArray) (p : PD) (q : QD) (x : PN) (ks kp kq : Nat) (w : World) (f1 : cellsAt w ⟨ks, 0, none⟩ 2 = some [dv, mv]) (f2 : cellsAt w ⟨kp, 0, none⟩ 3 = some (pdC p)) (f3 : cellsAt w ⟨kq, 0, none⟩ 12 = some (qdC q)) (h : ScIs w dv mv d m) (hp : p.Ok w) (hq : q.Ok w) (hx : PnIn p x) (hi : QIn d q) (hf : I6 x.fr) (ht : I6 x.to) : FnC Try.prog 47 #[.agg (pnC x).toArray, pt ks, pt kp, pt kq] w fun v w' => v = .bool (!elB d p q x) ∧ Later w w' := by
  refine enter47 _ _ _ _ ?_
  unfold B47
  have eca : (Value.agg (pnC x).toArray).cells = (pnC x).toArray := rfl
  have l1 := later_alloc w (.cells (pnC x).toArray 49)
  have g : cellsAt (w.alloc (.cells (pnC x).toArray 49)) ⟨w.heap.size, 0, none⟩ 5 = some (pnC x) := Blk.cellsAt (l := pnC x) (Blk.new w _ _)
  have g1 := cellsAt_later l1 2 f1
  have g2 := cellsAt_later l1 3 f2
  have g3 := cellsAt_later l1 12 f3
  repeat' (first | (simp (disch := omega) only [push_cast, ↓reduceIte, zA, zG, zB, zH, zI, zC, zJ, zK, zL, zD, zE, zF, zM, zN, zO, zP, zQ, reduceCtorEq, not_true_eq_false, not_false_eq_true, eca, g, g1, g2, g3]) | (first | refine iE ?_ ?_ | refine iD ?_ ?_ | refine iQ ?_ ?_ | refine iV ?_ ?_) <;> intro _ | refine And.intro (by omega) ?_ | fail)
  generalize w.alloc (.cells (pnC x).toArray 49) = w1 at *
  refine (eligible_c dv mv d m p q x w1 (h.later l1) (hp.later l1) (hq.later l1) hx hi hf ht).mono ?_
  rintro _ w2 ⟨rfl, l2⟩
  repeat' (first | (simp (disch := omega) only [push_cast, ↓reduceIte, zA, zG, zB, zH, zI, zC, zJ, zK, zL, zD, zE, zF, zM, zN, zO, zP, zQ, reduceCtorEq, not_true_eq_false, not_false_eq_true]) | (first | refine iE ?_ ?_ | refine iD ?_ ?_ | refine iQ ?_ ?_ | refine iV ?_ ?_) <;> intro _ | refine And.intro (by omega) ?_ | refine drawn_q ?_ | fail)
  first | exact ⟨rfl, (l1.trans l2)⟩ | exact (l1.trans l2)
def ChV (w : World) (v : Value) (r : List PN × Int × Int) : Prop := ∃ lv, v = .tuple #[lv, .int .i64 r.2.1, .int .i64 r.2.2] ∧ RecS pnC 5 w lv r.1
set_option maxHeartbeats 4000000 in
theorem choose_c (dv mv : Value) (d m : List ByteArray) (p : PD) (ev : Value) (el : List Int) (q : QD) (fv : Value) (fl : List SD) (w : World) (h : ScIs w dv mv d m) (hp : p.Ok w) (he : Sl w ev (el.map (Value.int .i64))) (heI : ∀ n ∈ el, I64 n) (hq : q.Ok w) (hf : RecS sdC 4 w fv fl) (hfo : ∀ f ∈ fl, f.Ok)
    (hel : el.length = p.tl.length) (hF : Fall el) (hpl : p.tl.length ≤ 100) (hi : QIn d q) (hfl : fl.length ≤ 1000) (hfp : ∀ f ∈ fl, -1 ≤ f.proj ∧ f.proj < (p.pl.length : Int)) :
    FnC Try.prog 17 #[scV dv mv, .agg (pdC p).toArray, ev, .agg (qdC q).toArray, fv] w fun v w' => ChV w' v (chooseR (elB d p q) (bestS d p q fl) (strL q.fr q.to el p.tl.length)) ∧ Later w w' := by
  have esc : scV dv mv = .agg #[dv, mv] := rfl
  rw [esc]
  refine enter17 _ _ _ _ _ ?_
  unfold B17
  have eca : (Value.agg (pdC p).toArray).cells = (pdC p).toArray := rfl
  have ecb : (Value.agg #[dv, mv]).cells = #[dv, mv] := rfl
  have ecc : (Value.agg (qdC q).toArray).cells = (qdC q).toArray := rfl
  obtain ⟨k0, hk0⟩ : ∃ k0, k0 = w.heap.size := ⟨_, rfl⟩
  have la := later_alloc w (.cells #[dv, mv] 24)
  have Ba := Blk.new w #[dv, mv] 24
  have sa : (w.alloc (.cells #[dv, mv] 24)).heap.size = k0 + 1 := by rw [World.size_alloc, hk0]
  rw [← hk0] at Ba
  generalize hwa : w.alloc (.cells #[dv, mv] 24) = wa at *
  have lb := later_alloc wa (.cells (pdC p).toArray 28)
  have Bb := Blk.new wa (pdC p).toArray 28
  have sb : (wa.alloc (.cells (pdC p).toArray 28)).heap.size = k0 + 2 := by rw [World.size_alloc, sa]
  rw [sa] at Bb
  generalize hwb : wa.alloc (.cells (pdC p).toArray 28) = wb at *
  have lc := later_alloc wb (.cells (qdC q).toArray 42)
  have Bc := Blk.new wb (qdC q).toArray 42
  rw [sb] at Bc
  generalize hwc : wb.alloc (.cells (qdC q).toArray 42) = w1 at *
  repeat' (first | (simp (disch := omega) only [push_cast, ↓reduceIte, zA, zG, zB, zH, zI, zC, zJ, zK, zL, zD, zE, zF, zM, zN, zO, zP, zQ, reduceCtorEq, not_true_eq_false, not_false_eq_true, eca, ecb, ecc, hwa, sa, hwb, sb, hwc, ← hk0]) | (first | refine iE ?_ ?_ | refine iD ?_ ?_ | refine iQ ?_ ?_ | refine iV ?_ ?_) <;> intro _ | refine And.intro (by omega) ?_ | fail)
  have l01 : Later w w1 := (la.trans lb).trans lc
  have FF : ∀ w', Later w1 w' → cellsAt w' ⟨k0, 0, none⟩ 2 = some [dv, mv] ∧ cellsAt w' ⟨k0 + 1, 0, none⟩ 3 = some (pdC p) ∧ cellsAt w' ⟨k0 + 2, 0, none⟩ 12 = some (qdC q) := by
    intro w' hl
    have z1 := (Ba.chg (Chg.of_later (ks := []) ((lb.trans lc).trans hl)) (by simp))
    have z2 := pdLater Bb (lc.trans hl)
    have z3 := qdLater Bc hl
    exact ⟨Blk.cellsAt (l := [dv, mv]) z1, Blk.cellsAt (l := pdC p) z2, Blk.cellsAt (l := qdC q) z3⟩
  have hk1 : w.heap.size ≤ k0 := by omega
  clear hwa hwb hwc sa sb la lb lc Ba Bb Bc
  obtain ⟨f1, f2, f3⟩ := FF w1 (Later.refl _)
  repeat' (first | (simp (disch := omega) only [push_cast, ↓reduceIte, zA, zG, zB, zH, zI, zC, zJ, zK, zL, zD, zE, zF, zM, zN, zO, zP, zQ, reduceCtorEq, not_true_eq_false, not_false_eq_true, f2, f3]) | (first | refine iE ?_ ?_ | refine iD ?_ ?_ | refine iQ ?_ ?_ | refine iV ?_ ?_) <;> intro _ | refine And.intro (by omega) ?_ | fail)
  refine (stretches_c p ev el q w1 (hp.later l01) (Sl.later he l01) (hq.later l01) hel hF hpl).mono ?_
  rintro lv w2 ⟨hL, l2⟩
  have hLs := OwnR.s hL
  have hLl := strL_len q.fr q.to el p.tl.length
  have hLm : ∀ x ∈ strL q.fr q.to el p.tl.length, PnIn p x ∧ I6 x.fr ∧ I6 x.to := by
    intro x hx
    obtain ⟨i, hi, rfl, _⟩ := strL_mem hx
    have := strI_i64 (el := el) hq.fr hq.to heI i
    exact ⟨⟨by show (0 : Int) ≤ (i : Int) ∧ (i : Int) < _; omega, by show (-1 : Int) ≤ -1 ∧ (-1 : Int) < _; omega⟩, this.1, this.2⟩
  generalize strL q.fr q.to el p.tl.length = L at *
  obtain ⟨lo, lc, rfl, hl1, hl2⟩ := hLs.slice
  have l02 := l01.trans l2
  repeat' (first | (simp (disch := omega) only [push_cast, ↓reduceIte, zA, zG, zB, zH, zI, zC, zJ, zK, zL, zD, zE, zF, zM, zN, zO, zP, zQ, reduceCtorEq, not_true_eq_false, not_false_eq_true]) | (first | refine iE ?_ ?_ | refine iD ?_ ?_ | refine iQ ?_ ?_ | refine iV ?_ ?_) <;> intro _ | refine And.intro (by omega) ?_ | fail)
  refine vc_loop W17_0 (fun p : Nat × Value => [(13, p.2), (22, .int .i64 (p.1 : Int))]) (fun r w' => r.1 ≤ L.length ∧ Later w2 w' ∧ OwnN w' w2.heap.size r.2 ((L.take r.1).map (bestS d p q fl)) ∧ ∀ j (h : j < L.length), j < r.1 → elB d p q L[j] = true) (fun r => L.length - r.1) (0, .slice none 0 0) (by decide) ?_ ?_ ?_
  · simp (disch := omega) only [push_cast, ↓reduceIte, zA, zG, zB, zH, zI, zC, zJ, zK, zL, zD, zE, zF, zM, zN, zO, zP, zQ, reduceCtorEq, not_true_eq_false, not_false_eq_true]
    try rfl
  · exact ⟨Nat.zero_le _, Later.refl _, OwnR.nil _ _ _, fun j _ h => absurd h (Nat.not_lt_zero _)⟩
  rintro ⟨i, ov⟩ uu w3 ⟨hi', l3, ho, hE⟩
  dsimp only at hi' ho hE ⊢
  by_cases hik : i < L.length
  · have hd2 : decide ((i : Int) < (L.length : Int)) = true := decide_eq_true (by omega)
    obtain ⟨a, rfl, fa⟩ := RecS.at pnC_len (hLs.later l3) hik
    obtain ⟨hxin, hxf, hxt⟩ := hLm _ (List.getElem_mem hik)
    have hbad := chooseR_bad (E := elB d p q) (best := bestS d p q fl) hik
    have htk : (L.take (i + 1)).map (bestS d p q fl) = (L.take i).map (bestS d p q fl) ++ [bestS d p q fl L[i]] := by rw [List.take_succ_eq_append_getElem hik, List.map_append]; rfl
    have hEs : elB d p q L[i] = true → ∀ j (h : j < L.length), j < i + 1 → elB d p q L[j] = true := fun hx j h hj => by
      by_cases hji : j < i
      · exact hE j h hji
      · have : j = i := by omega
        subst this; exact hx
    generalize L[i] = x at *
    repeat' (first | (simp (disch := omega) only [push_cast, ↓reduceIte, zA, zG, zB, zH, zI, zC, zJ, zK, zL, zD, zE, zF, zM, zN, zO, zP, zQ, reduceCtorEq, not_true_eq_false, not_false_eq_true, hd2, fa, addr_add_eq, Nat.zero_add]) | (first | refine iE ?_ ?_ | refine iD ?_ ?_ | refine iQ ?_ ?_ | refine iV ?_ ?_) <;> intro _ | refine And.intro (by omega) ?_ | fail)
    refine vStore_new rfl rfl (fun u hu => pnC_one x u (by simpa using hu)) ?_
    have l4 := later_alloc w3 (.cells (pnC x).toArray 49)
    have B4 := Blk.new w3 (pnC x).toArray 49
    generalize w3.alloc (.cells (pnC x).toArray 49) = w4 at *
    generalize w3.heap.size = kx at *
    have l24 := l3.trans l4
    have l14 := l2.trans l24
    have l04 := l01.trans l14
    obtain ⟨f1, f2, f3⟩ := FF w4 l14
    have fx : cellsAt w4 ⟨kx, 0, none⟩ 5 = some (pnC x) := Blk.cellsAt (l := pnC x) B4
    repeat' (first | (simp (disch := omega) only [push_cast, ↓reduceIte, zA, zG, zB, zH, zI, zC, zJ, zK, zL, zD, zE, zF, zM, zN, zO, zP, zQ, reduceCtorEq, not_true_eq_false, not_false_eq_true, f1, f2, f3, fx]) | (first | refine iE ?_ ?_ | refine iD ?_ ?_ | refine iQ ?_ ?_ | refine iV ?_ ?_) <;> intro _ | refine And.intro (by omega) ?_ | fail)
    refine (eligible_c dv mv d m p q x w4 (h.later l04) (hp.later l04) (hq.later l04) hxin hi hxf hxt).mono ?_
    rintro _ w5 ⟨rfl, l5⟩
    have l25 := l24.trans l5
    have l15 := l14.trans l5
    have l05 := l04.trans l5
    have B5 := B4.chg (Chg.of_later (ks := []) l5) (by simp)
    obtain ⟨_, _, b2, _, _⟩ := pnB B5
    have fx5 := cellsAt_later l5 5 fx
    cases hel' : elB d p q x with
    | false =>
      rw [hbad hel' hE]
      repeat' (first | (simp (disch := omega) only [push_cast, ↓reduceIte, zA, zG, zB, zH, zI, zC, zJ, zK, zL, zD, zE, zF, zM, zN, zO, zP, zQ, reduceCtorEq, not_true_eq_false, not_false_eq_true]) | (first | refine iE ?_ ?_ | refine iD ?_ ?_ | refine iQ ?_ ?_ | refine iV ?_ ?_) <;> intro _ | refine And.intro (by omega) ?_ | fail)
      refine drawn_q ?_
      repeat' (first | (simp (disch := omega) only [push_cast, ↓reduceIte, zA, zG, zB, zH, zI, zC, zJ, zK, zL, zD, zE, zF, zM, zN, zO, zP, zQ, reduceCtorEq, not_true_eq_false, not_false_eq_true, b2, addr_add_eq, Nat.zero_add]) | (first | refine iE ?_ ?_ | refine iD ?_ ?_ | refine iQ ?_ ?_ | refine iV ?_ ?_) <;> intro _ | refine And.intro (by omega) ?_ | fail)
      intro w6 l6
      repeat' (first | (simp (disch := omega) only [push_cast, ↓reduceIte, zA, zG, zB, zH, zI, zC, zJ, zK, zL, zD, zE, zF, zM, zN, zO, zP, zQ, reduceCtorEq, not_true_eq_false, not_false_eq_true]) | (first | refine iE ?_ ?_ | refine iD ?_ ?_ | refine iQ ?_ ?_ | refine iV ?_ ?_) <;> intro _ | refine And.intro (by omega) ?_ | refine drawn_q ?_ | fail)
      first | exact ⟨⟨_, rfl, RecS.nil _⟩, l05.trans l6⟩ | trace_state
    | true =>
    repeat' (first | (simp (disch := omega) only [push_cast, ↓reduceIte, zA, zG, zB, zH, zI, zC, zJ, zK, zL, zD, zE, zF, zM, zN, zO, zP, zQ, reduceCtorEq, not_true_eq_false, not_false_eq_true, fx5]) | (first | refine iE ?_ ?_ | refine iD ?_ ?_ | refine iQ ?_ ?_ | refine iV ?_ ?_) <;> intro _ | refine And.intro (by omega) ?_ | fail)
    refine (candidates_c x fv fl w5 (hf.later l05) hfo hfl).mono ?_
    rintro cv w6 ⟨hcv, l6⟩
    have l16 := l15.trans l6
    have l06 := l05.trans l6
    have hcl := cand_len x fl
    have hpr : ∀ y ∈ cand x fl, Prd Try.prog w5 47 #[pt k0, pt (k0 + 1), pt (k0 + 2)] (.agg (pnC y).toArray) (!elB d p q y) := by
      intro y hy w' hl
      obtain ⟨hyi, hyf, hyt⟩ := cand_in hxin hfp hy
      obtain ⟨f1, f2, f3⟩ := FF w' (l15.trans hl)
      have l0' := l05.trans hl
      exact choose1_c dv mv d m p q y k0 (k0 + 1) (k0 + 2) w' f1 f2 f3 (h.later l0') (hp.later l0') (hq.later l0') hyi hi (by rw [hyf]; exact hxf) (by rw [hyt]; exact hxt)
    repeat' (first | (simp (disch := omega) only [push_cast, ↓reduceIte, zA, zG, zB, zH, zI, zC, zJ, zK, zL, zD, zE, zF, zM, zN, zO, zP, zQ, reduceCtorEq, not_true_eq_false, not_false_eq_true]) | (first | refine iE ?_ ?_ | refine iD ?_ ?_ | refine iQ ?_ ?_ | refine iV ?_ ?_) <;> intro _ | refine And.intro (by omega) ?_ | fail)
    refine (pdelete_c w5.heap.size cv (cand x fl) 47 #[pt k0, pt (k0 + 1), pt (k0 + 2)] (fun y => !elB d p q y) w5 w6 l6 (Nat.le_refl _) hcv hpr (by omega)).mono ?_
    rintro dl w7 ⟨hdl, l7⟩
    have hfil : (cand x fl).filter (fun y => !!elB d p q y) = { x with rows := ownRows x fl } :: (projs x fl).filter (elB d p q) := by
      rw [← cand_filter d p q fl hel']
      congr 1
      funext y
      simp
    rw [hfil] at hdl
    have l27 := l25.trans l7
    repeat' (first | (simp (disch := omega) only [push_cast, ↓reduceIte, zA, zG, zB, zH, zI, zC, zJ, zK, zL, zD, zE, zF, zM, zN, zO, zP, zQ, reduceCtorEq, not_true_eq_false, not_false_eq_true]) | (first | refine iE ?_ ?_ | refine iD ?_ ?_ | refine iQ ?_ ?_ | refine iV ?_ ?_) <;> intro _ | refine And.intro (by omega) ?_ | fail)
    refine (minFunc_c dl _ _ w7 hdl).mono ?_
    rintro _ w8 ⟨rfl, l8⟩
    have hbs : minN { x with rows := ownRows x fl } ((projs x fl).filter (elB d p q)) = bestS d p q fl x := rfl
    rw [hbs]
    generalize bestS d p q fl x = X at *
    have l28 := l27.trans l8
    have ho8 := ho.later (l4.trans (l5.trans (l7.trans l8)))
    repeat' (first | (simp (disch := omega) only [push_cast, ↓reduceIte, zA, zG, zB, zH, zI, zC, zJ, zK, zL, zD, zE, zF, zM, zN, zO, zP, zQ, reduceCtorEq, not_true_eq_false, not_false_eq_true]) | (first | refine iE ?_ ?_ | refine iD ?_ ?_ | refine iQ ?_ ?_ | refine iV ?_ ?_) <;> intro _ | refine And.intro (by omega) ?_ | fail)
    have la := later_alloc w8 (.cells (pnC X).toArray 49)
    have Bl := Blk.new w8 (pnC X).toArray 49
    generalize w8.alloc (.cells (pnC X).toArray 49) = w9 at *
    have ho9 := ho8.later la
    refine vAppend_pn (r := [X]) ho9 (RecS.lit1 (pnC_len X) Bl) (by simp only [List.length_map, List.length_take, List.length_cons, List.length_nil]; omega) (Nat.le_trans l28.size la.size) ?_
    intro v' w10 ho10 hg _
    have l10 := (l28.trans la).appended ho9 (Nat.le_refl _) hg
    repeat' (first | (simp (disch := omega) only [push_cast, ↓reduceIte, zA, zG, zB, zH, zI, zC, zJ, zK, zL, zD, zE, zF, zM, zN, zO, zP, zQ, reduceCtorEq, not_true_eq_false, not_false_eq_true]) | (first | refine iE ?_ ?_ | refine iD ?_ ?_ | refine iQ ?_ ?_ | refine iV ?_ ?_) <;> intro _ | refine And.intro (by omega) ?_ | fail)
    refine ⟨rfl, (i + 1, v'), by simp (disch := omega) only [push_cast, ↓reduceIte, zA, zG, zB, zH, zI, zC, zJ, zK, zL, zD, zE, zF, zM, zN, zO, zP, zQ, reduceCtorEq, not_true_eq_false, not_false_eq_true], ⟨by dsimp only; omega, l10, by dsimp only; rw [htk]; exact ho10, hEs hel'⟩, by dsimp only; omega⟩
  · have hd2 : decide ((i : Int) < (L.length : Int)) = false := decide_eq_false (by omega)
    rw [List.take_of_length_le (by omega)] at ho
    have hg : chooseR (elB d p q) (bestS d p q fl) L = (L.map (bestS d p q fl), -1, 0) := chooseR_good fun x hx => by
      obtain ⟨j, hj, rfl⟩ := List.getElem_of_mem hx
      exact hE j hj (by omega)
    rw [hg]
    repeat' (first | (simp (disch := omega) only [push_cast, ↓reduceIte, zA, zG, zB, zH, zI, zC, zJ, zK, zL, zD, zE, zF, zM, zN, zO, zP, zQ, reduceCtorEq, not_true_eq_false, not_false_eq_true, hd2]) | (first | refine iE ?_ ?_ | refine iD ?_ ?_ | refine iQ ?_ ?_ | refine iV ?_ ?_) <;> intro _ | refine And.intro (by omega) ?_ | fail)
    exact ⟨⟨_, rfl, OwnR.s ho⟩, l02.trans l3⟩
end Go.Proofs.Ytnofalhkapmcnaa
end
section
set_option linter.unusedSimpArgs false
namespace Go.Vc
open Go Go.RowKit
end Go.Vc
namespace Go.Proofs.Ytnofalhkapmcnaa
open Go.Vc Go.Key Go.Bkt
set_option maxRecDepth 100000
end Go.Proofs.Ytnofalhkapmcnaa
end
section
namespace Go.Vc
open Go
/-- No two files of one cuboid. -/
def Apart (fl : List SD) : Prop := fl.Pairwise fun f g => ¬ (f.tier = g.tier ∧ f.proj = g.proj)
end Go.Vc
namespace Go.Proofs.Ytnofalhkapmcnaa
open Go.Vc Go.Key
structure FilesIn (p : PD) (fl : List SD) : Prop where
  a : Apart fl
  j : ∀ f ∈ fl, -1 ≤ f.proj ∧ f.proj < (p.pl.length : Int)
  t : ∀ f ∈ fl, f.proj ≠ -1 → (p.pl.getD f.proj.toNat default).a = f.tier
end Go.Proofs.Ytnofalhkapmcnaa
end
section
set_option linter.unusedSimpArgs false
namespace Go.Vc
open Go Go.Key
theorem apart_of {fl : List SD} (h : ∀ i j (hi : i < fl.length) (hj : j < fl.length), j < i → ¬ (fl[j].tier = fl[i].tier ∧ fl[j].proj = fl[i].proj)) : Apart fl := by
  unfold Apart
  rw [List.pairwise_iff_getElem]
  intro j i hj hi hji
  exact h i j hi hj hji
end Go.Vc
namespace Go.Proofs.Ytnofalhkapmcnaa
open Go.Vc Go.Key Go.Cub
set_option maxRecDepth 100000
theorem filesIn_of {p : PD} {fl : List SD} (h1 : ∀ i (hi : i < fl.length), FlOk p fl[i]) (h2 : Apart fl) : FilesIn p fl := by
  have all : ∀ f ∈ fl, FlOk p f := fun f hf => by
    obtain ⟨i, hi, rfl⟩ := List.getElem_of_mem hf
    exact h1 i hi
  refine ⟨h2, fun f hf => (all f hf).proj, fun f hf hp => ?_⟩
  obtain ⟨h, e⟩ := (all f hf).of hp
  rw [List.getD_eq_getElem?_getD, List.getElem?_eq_getElem h]
  exact e
set_option maxHeartbeats 4000000 in
theorem files_c (m : MD) (w : World) (hm : m.Ok w) : FnC Try.prog 58 #[.agg (mdC m).toArray] w fun v w' => (∃ b : Bool, v = .bool b ∧ (b = true → FilesIn m.p m.fl ∧ m.fl.length ≤ 40)) ∧ Later w w' := by
  obtain ⟨fo, fc, hfv, hf1, hf2⟩ := RecS.slice hm.fv
  have fail : ∀ (w' : World), Later w w' → (∃ b : Bool, Value.bool false = .bool b ∧ (b = true → FilesIn m.p m.fl ∧ m.fl.length ≤ 40)) ∧ Later w w' := fun w' hl => ⟨⟨false, rfl, fun h => by cases h⟩, hl⟩
  refine enter58 _ ?_
  unfold B58
  have eca : (Value.agg (mdC m).toArray).cells = (mdC m).toArray := rfl
  have l1 := later_alloc w (.cells (mdC m).toArray 34)
  have B1 := Blk.new w (mdC m).toArray 34
  repeat' (first | (simp (disch := omega) only [push_cast, ↓reduceIte, zA, zG, zB, zH, zI, zC, zJ, zK, zL, zD, zE, zF, zM, zN, zO, zP, zQ, reduceCtorEq, not_true_eq_false, not_false_eq_true, eca]) | (first | refine iE ?_ ?_ | refine iD ?_ ?_ | refine iQ ?_ ?_ | refine iV ?_ ?_) <;> intro _ | refine And.intro (by omega) ?_ | fail)
  generalize w.alloc (.cells (mdC m).toArray 34) = w1 at *
  generalize hkf : w.heap.size = kf at *
  have FF : ∀ w', Later w1 w' → cellsAt w' ⟨kf, 2, none⟩ 3 = some (pdC m.p) ∧ w'.cell? ⟨kf, 9, none⟩ = some (.slice fo m.fl.length fc) ∧ w'.cell? ⟨kf, 10, none⟩ = some (.string m.jn) := by
    intro w' hl
    have B := mdLater B1 hl
    obtain ⟨_, _, h3, _⟩ := mdAt B
    refine ⟨h3, ?_, B.cell 10⟩
    rw [← hfv]
    exact B.cell 9
  refine vc_loop W58_0 (fun i : Nat => [(2, .bool false), (3, .int .i64 (i : Int))]) (fun i w' => i ≤ m.fl.length ∧ Later w1 w' ∧ (∀ j (h : j < m.fl.length), j < i → FlOk m.p m.fl[j]) ∧ ∀ a b (ha : a < m.fl.length) (hb : b < m.fl.length), a < i → b < a → ¬ (m.fl[b].tier = m.fl[a].tier ∧ m.fl[b].proj = m.fl[a].proj)) (fun i => m.fl.length - i) 0 (by decide) ?_ ?_ ?_
  · simp (disch := omega) only [push_cast, ↓reduceIte, zA, zG, zB, zH, zI, zC, zJ, zK, zL, zD, zE, zF, zM, zN, zO, zP, zQ, reduceCtorEq, not_true_eq_false, not_false_eq_true]
    try rfl
  · exact ⟨Nat.zero_le _, Later.refl _, fun j _ h => absurd h (Nat.not_lt_zero _), fun a b _ _ h => absurd h (Nat.not_lt_zero _)⟩
  rintro i uu w2 ⟨hi, l2, hok, hap⟩
  obtain ⟨f1, f2, f3⟩ := FF w2 l2
  by_cases hik : i < m.fl.length
  · have hd2 : decide ((i : Int) < (m.fl.length : Int)) = true := decide_eq_true (by omega)
    have hfs := hm.fv
    rw [hfv] at hfs
    obtain ⟨a, rfl, fa⟩ := RecS.at sdC_len (hfs.later (l1.trans l2)) hik
    have hsok := hm.fl _ (List.getElem_mem hik)
    repeat' (first | (simp (disch := omega) only [push_cast, ↓reduceIte, zA, zG, zB, zH, zI, zC, zJ, zK, zL, zD, zE, zF, zM, zN, zO, zP, zQ, reduceCtorEq, not_true_eq_false, not_false_eq_true, f2, hd2, addr_add_eq, Nat.zero_add]) | (first | refine iE ?_ ?_ | refine iD ?_ ?_ | refine iQ ?_ ?_ | refine iV ?_ ?_) <;> intro _ | refine And.intro (by omega) ?_ | fail)
    refine drawn_k 7 ?_
    repeat' (first | (simp (disch := omega) only [push_cast, ↓reduceIte, zA, zG, zB, zH, zI, zC, zJ, zK, zL, zD, zE, zF, zM, zN, zO, zP, zQ, reduceCtorEq, not_true_eq_false, not_false_eq_true, f1, f2, fa, hd2, addr_add_eq, Nat.zero_add]) | (first | refine iE ?_ ?_ | refine iD ?_ ?_ | refine iQ ?_ ?_ | refine iV ?_ ?_) <;> intro _ | refine And.intro (by omega) ?_ | fail)
    intro w3 l3
    repeat' (first | (simp (disch := omega) only [push_cast, ↓reduceIte, zA, zG, zB, zH, zI, zC, zJ, zK, zL, zD, zE, zF, zM, zN, zO, zP, zQ, reduceCtorEq, not_true_eq_false, not_false_eq_true]) | (first | refine iE ?_ ?_ | refine iD ?_ ?_ | refine iQ ?_ ?_ | refine iV ?_ ?_) <;> intro _ | refine And.intro (by omega) ?_ | fail)
    refine (file_c m.p m.fl[i] w3 (hm.p.later ((l1.trans l2).trans l3)) hsok).mono ?_
    rintro _ w4 ⟨⟨b, rfl, hb⟩, l4⟩
    have l24 := l2.trans (l3.trans l4)
    have l04 := l1.trans l24
    obtain ⟨f1, f2, f3⟩ := FF w4 l24
    have n0 : w4.cell? (a.add (i * 4)) = some (.string m.fl[i].name) := by
      have := RecS.cell (j := 0) sdC_len (hfs.later l04) hik rfl
      rwa [addr_add_zero] at this
    cases b with
    | false =>
      repeat' (first | (simp (disch := omega) only [push_cast, ↓reduceIte, zA, zG, zB, zH, zI, zC, zJ, zK, zL, zD, zE, zF, zM, zN, zO, zP, zQ, reduceCtorEq, not_true_eq_false, not_false_eq_true, f2, hd2]) | (first | refine iE ?_ ?_ | refine iD ?_ ?_ | refine iQ ?_ ?_ | refine iV ?_ ?_) <;> intro _ | refine And.intro (by omega) ?_ | fail)
      refine drawn_q ?_
      repeat' (first | (simp (disch := omega) only [push_cast, ↓reduceIte, zA, zG, zB, zH, zI, zC, zJ, zK, zL, zD, zE, zF, zM, zN, zO, zP, zQ, reduceCtorEq, not_true_eq_false, not_false_eq_true, f2, hd2]) | (first | refine iE ?_ ?_ | refine iD ?_ ?_ | refine iQ ?_ ?_ | refine iV ?_ ?_) <;> intro _ | refine And.intro (by omega) ?_ | fail)
      intro w5 l5
      repeat' (first | (simp (disch := omega) only [push_cast, ↓reduceIte, zA, zG, zB, zH, zI, zC, zJ, zK, zL, zD, zE, zF, zM, zN, zO, zP, zQ, reduceCtorEq, not_true_eq_false, not_false_eq_true]) | (first | refine iE ?_ ?_ | refine iD ?_ ?_ | refine iQ ?_ ?_ | refine iV ?_ ?_) <;> intro _ | refine And.intro (by omega) ?_ | fail)
      first | exact fail _ (l04.trans l5) | trace_state
    | true =>
    by_cases hj : m.fl[i].name = m.jn
    · have d1 := decide_eq_true hj
      repeat' (first | (simp (disch := omega) only [push_cast, ↓reduceIte, zA, zG, zB, zH, zI, zC, zJ, zK, zL, zD, zE, zF, zM, zN, zO, zP, zQ, reduceCtorEq, not_true_eq_false, not_false_eq_true, f2, hd2]) | (first | refine iE ?_ ?_ | refine iD ?_ ?_ | refine iQ ?_ ?_ | refine iV ?_ ?_) <;> intro _ | refine And.intro (by omega) ?_ | fail)
      refine drawn_q ?_
      repeat' (first | (simp (disch := omega) only [push_cast, ↓reduceIte, zA, zG, zB, zH, zI, zC, zJ, zK, zL, zD, zE, zF, zM, zN, zO, zP, zQ, reduceCtorEq, not_true_eq_false, not_false_eq_true, f2, f3, n0, d1, hd2, addr_add_eq, Nat.zero_add]) | (first | refine iE ?_ ?_ | refine iD ?_ ?_ | refine iQ ?_ ?_ | refine iV ?_ ?_) <;> intro _ | refine And.intro (by omega) ?_ | fail)
      intro w5 l5
      repeat' (first | (simp (disch := omega) only [push_cast, ↓reduceIte, zA, zG, zB, zH, zI, zC, zJ, zK, zL, zD, zE, zF, zM, zN, zO, zP, zQ, reduceCtorEq, not_true_eq_false, not_false_eq_true]) | (first | refine iE ?_ ?_ | refine iD ?_ ?_ | refine iQ ?_ ?_ | refine iV ?_ ?_) <;> intro _ | refine And.intro (by omega) ?_ | fail)
      first | exact fail _ (l04.trans l5) | trace_state
    have d1 := decide_eq_false hj
    repeat' (first | (simp (disch := omega) only [push_cast, ↓reduceIte, zA, zG, zB, zH, zI, zC, zJ, zK, zL, zD, zE, zF, zM, zN, zO, zP, zQ, reduceCtorEq, not_true_eq_false, not_false_eq_true, f2, hd2]) | (first | refine iE ?_ ?_ | refine iD ?_ ?_ | refine iQ ?_ ?_ | refine iV ?_ ?_) <;> intro _ | refine And.intro (by omega) ?_ | fail)
    refine drawn_q ?_
    repeat' (first | (simp (disch := omega) only [push_cast, ↓reduceIte, zA, zG, zB, zH, zI, zC, zJ, zK, zL, zD, zE, zF, zM, zN, zO, zP, zQ, reduceCtorEq, not_true_eq_false, not_false_eq_true, f2, f3, n0, d1, hd2, addr_add_eq, Nat.zero_add]) | (first | refine iE ?_ ?_ | refine iD ?_ ?_ | refine iQ ?_ ?_ | refine iV ?_ ?_) <;> intro _ | refine And.intro (by omega) ?_ | fail)
    intro w5 l5
    have l25 := l24.trans l5
    have hFl := hb rfl
    repeat' (first | (simp (disch := omega) only [push_cast, ↓reduceIte, zA, zG, zB, zH, zI, zC, zJ, zK, zL, zD, zE, zF, zM, zN, zO, zP, zQ, reduceCtorEq, not_true_eq_false, not_false_eq_true]) | (first | refine iE ?_ ?_ | refine iD ?_ ?_ | refine iQ ?_ ?_ | refine iV ?_ ?_) <;> intro _ | refine And.intro (by omega) ?_ | fail)
    refine vc_loop W58_1 (fun k : Nat => [(2, .bool false), (5, .int .i64 (k : Int))]) (fun k w' => k ≤ i ∧ Later w1 w' ∧ ∀ b (hb : b < m.fl.length), b < k → ¬ (m.fl[b].tier = m.fl[i].tier ∧ m.fl[b].proj = m.fl[i].proj)) (fun k => i - k) 0 (by decide) ?_ ?_ ?_
    · simp (disch := omega) only [push_cast, ↓reduceIte, zA, zG, zB, zH, zI, zC, zJ, zK, zL, zD, zE, zF, zM, zN, zO, zP, zQ, reduceCtorEq, not_true_eq_false, not_false_eq_true]
      try rfl
    · exact ⟨Nat.zero_le _, l25, fun b _ h => absurd h (Nat.not_lt_zero _)⟩
    rintro k uu2 w6 ⟨hk, l6, hno⟩
    obtain ⟨f1, f2, f3⟩ := FF w6 l6
    have l06 := l1.trans l6
    by_cases hkp : k < i
    · have hd3 : decide ((k : Int) < (i : Int)) = true := decide_eq_true (by omega)
      have hkl : k < m.fl.length := by omega
      have hd4 : decide ((k : Int) < (m.fl.length : Int)) = true := decide_eq_true (by omega)
      have hs6 := hfs.later l06
      have m0 : w6.cell? (a.add (k * 4)) = some (.string m.fl[k].name) := by
        have := RecS.cell (j := 0) sdC_len hs6 hkl rfl
        rwa [addr_add_zero] at this
      have m1 := RecS.cell (j := 1) sdC_len hs6 hkl rfl
      have m2 := RecS.cell (j := 2) sdC_len hs6 hkl rfl
      have n0 : w6.cell? (a.add (i * 4)) = some (.string m.fl[i].name) := by
        have := RecS.cell (j := 0) sdC_len hs6 hik rfl
        rwa [addr_add_zero] at this
      have n1 := RecS.cell (j := 1) sdC_len hs6 hik rfl
      have n2 := RecS.cell (j := 2) sdC_len hs6 hik rfl
      have next : ∀ w', Later w6 w' → ¬ (m.fl[k].tier = m.fl[i].tier ∧ m.fl[k].proj = m.fl[i].proj) → k + 1 ≤ i ∧ Later w1 w' ∧ ∀ b (hb : b < m.fl.length), b < k + 1 → ¬ (m.fl[b].tier = m.fl[i].tier ∧ m.fl[b].proj = m.fl[i].proj) := by
        intro w' hl hn
        refine ⟨by omega, l6.trans hl, fun b hb hbk => ?_⟩
        by_cases hbk' : b < k
        · exact hno b hb hbk'
        · have : b = k := by omega
          subst this; exact hn
      by_cases e0 : m.fl[k].name = m.fl[i].name
      · have d0 := decide_eq_true e0
        repeat' (first | (simp (disch := omega) only [push_cast, ↓reduceIte, zA, zG, zB, zH, zI, zC, zJ, zK, zL, zD, zE, zF, zM, zN, zO, zP, zQ, reduceCtorEq, not_true_eq_false, not_false_eq_true, hd3]) | (first | refine iE ?_ ?_ | refine iD ?_ ?_ | refine iQ ?_ ?_ | refine iV ?_ ?_) <;> intro _ | refine And.intro (by omega) ?_ | fail)
        refine drawn_q ?_
        repeat' (first | (simp (disch := omega) only [push_cast, ↓reduceIte, zA, zG, zB, zH, zI, zC, zJ, zK, zL, zD, zE, zF, zM, zN, zO, zP, zQ, reduceCtorEq, not_true_eq_false, not_false_eq_true, f2, m0, n0, d0, hd2, hd4, addr_add_eq, Nat.zero_add]) | (first | refine iE ?_ ?_ | refine iD ?_ ?_ | refine iQ ?_ ?_ | refine iV ?_ ?_) <;> intro _ | refine And.intro (by omega) ?_ | fail)
        intro w7 l7
        repeat' (first | (simp (disch := omega) only [push_cast, ↓reduceIte, zA, zG, zB, zH, zI, zC, zJ, zK, zL, zD, zE, zF, zM, zN, zO, zP, zQ, reduceCtorEq, not_true_eq_false, not_false_eq_true]) | (first | refine iE ?_ ?_ | refine iD ?_ ?_ | refine iQ ?_ ?_ | refine iV ?_ ?_) <;> intro _ | refine And.intro (by omega) ?_ | fail)
        first | exact fail _ (l06.trans l7) | trace_state
      have d0 := decide_eq_false e0
      by_cases e1 : m.fl[k].tier = m.fl[i].tier
      case neg =>
        have d1 := decide_eq_false e1
        repeat' (first | (simp (disch := omega) only [push_cast, ↓reduceIte, zA, zG, zB, zH, zI, zC, zJ, zK, zL, zD, zE, zF, zM, zN, zO, zP, zQ, reduceCtorEq, not_true_eq_false, not_false_eq_true, hd3]) | (first | refine iE ?_ ?_ | refine iD ?_ ?_ | refine iQ ?_ ?_ | refine iV ?_ ?_) <;> intro _ | refine And.intro (by omega) ?_ | fail)
        refine drawn_q ?_
        repeat' (first | (simp (disch := omega) only [push_cast, ↓reduceIte, zA, zG, zB, zH, zI, zC, zJ, zK, zL, zD, zE, zF, zM, zN, zO, zP, zQ, reduceCtorEq, not_true_eq_false, not_false_eq_true, f2, m0, n0, d0, m1, n1, d1, hd2, hd4, addr_add_eq, Nat.zero_add]) | (first | refine iE ?_ ?_ | refine iD ?_ ?_ | refine iQ ?_ ?_ | refine iV ?_ ?_) <;> intro _ | refine And.intro (by omega) ?_ | fail)
        intro w7 l7
        repeat' (first | (simp (disch := omega) only [push_cast, ↓reduceIte, zA, zG, zB, zH, zI, zC, zJ, zK, zL, zD, zE, zF, zM, zN, zO, zP, zQ, reduceCtorEq, not_true_eq_false, not_false_eq_true]) | (first | refine iE ?_ ?_ | refine iD ?_ ?_ | refine iQ ?_ ?_ | refine iV ?_ ?_) <;> intro _ | refine And.intro (by omega) ?_ | fail)
        exact ⟨rfl, k + 1, by simp (disch := omega) only [push_cast, ↓reduceIte, zA, zG, zB, zH, zI, zC, zJ, zK, zL, zD, zE, zF, zM, zN, zO, zP, zQ, reduceCtorEq, not_true_eq_false, not_false_eq_true], next w7 l7 (fun h => e1 h.1), by dsimp only; omega⟩
      have d1 := decide_eq_true e1
      by_cases e2 : m.fl[k].proj = m.fl[i].proj
      · have d2 := decide_eq_true e2
        repeat' (first | (simp (disch := omega) only [push_cast, ↓reduceIte, zA, zG, zB, zH, zI, zC, zJ, zK, zL, zD, zE, zF, zM, zN, zO, zP, zQ, reduceCtorEq, not_true_eq_false, not_false_eq_true, hd3]) | (first | refine iE ?_ ?_ | refine iD ?_ ?_ | refine iQ ?_ ?_ | refine iV ?_ ?_) <;> intro _ | refine And.intro (by omega) ?_ | fail)
        refine drawn_q ?_
        repeat' (first | (simp (disch := omega) only [push_cast, ↓reduceIte, zA, zG, zB, zH, zI, zC, zJ, zK, zL, zD, zE, zF, zM, zN, zO, zP, zQ, reduceCtorEq, not_true_eq_false, not_false_eq_true, f2, m0, n0, d0, m1, n1, d1, m2, n2, d2, hd2, hd4, addr_add_eq, Nat.zero_add]) | (first | refine iE ?_ ?_ | refine iD ?_ ?_ | refine iQ ?_ ?_ | refine iV ?_ ?_) <;> intro _ | refine And.intro (by omega) ?_ | fail)
        intro w7 l7
        repeat' (first | (simp (disch := omega) only [push_cast, ↓reduceIte, zA, zG, zB, zH, zI, zC, zJ, zK, zL, zD, zE, zF, zM, zN, zO, zP, zQ, reduceCtorEq, not_true_eq_false, not_false_eq_true]) | (first | refine iE ?_ ?_ | refine iD ?_ ?_ | refine iQ ?_ ?_ | refine iV ?_ ?_) <;> intro _ | refine And.intro (by omega) ?_ | fail)
        first | exact fail _ (l06.trans l7) | trace_state
      have d2 := decide_eq_false e2
      repeat' (first | (simp (disch := omega) only [push_cast, ↓reduceIte, zA, zG, zB, zH, zI, zC, zJ, zK, zL, zD, zE, zF, zM, zN, zO, zP, zQ, reduceCtorEq, not_true_eq_false, not_false_eq_true, hd3]) | (first | refine iE ?_ ?_ | refine iD ?_ ?_ | refine iQ ?_ ?_ | refine iV ?_ ?_) <;> intro _ | refine And.intro (by omega) ?_ | fail)
      refine drawn_q ?_
      repeat' (first | (simp (disch := omega) only [push_cast, ↓reduceIte, zA, zG, zB, zH, zI, zC, zJ, zK, zL, zD, zE, zF, zM, zN, zO, zP, zQ, reduceCtorEq, not_true_eq_false, not_false_eq_true, f2, m0, n0, d0, m1, n1, d1, m2, n2, d2, hd2, hd4, addr_add_eq, Nat.zero_add]) | (first | refine iE ?_ ?_ | refine iD ?_ ?_ | refine iQ ?_ ?_ | refine iV ?_ ?_) <;> intro _ | refine And.intro (by omega) ?_ | fail)
      intro w7 l7
      repeat' (first | (simp (disch := omega) only [push_cast, ↓reduceIte, zA, zG, zB, zH, zI, zC, zJ, zK, zL, zD, zE, zF, zM, zN, zO, zP, zQ, reduceCtorEq, not_true_eq_false, not_false_eq_true]) | (first | refine iE ?_ ?_ | refine iD ?_ ?_ | refine iQ ?_ ?_ | refine iV ?_ ?_) <;> intro _ | refine And.intro (by omega) ?_ | fail)
      exact ⟨rfl, k + 1, by simp (disch := omega) only [push_cast, ↓reduceIte, zA, zG, zB, zH, zI, zC, zJ, zK, zL, zD, zE, zF, zM, zN, zO, zP, zQ, reduceCtorEq, not_true_eq_false, not_false_eq_true], next w7 l7 (fun h => e2 h.2), by dsimp only; omega⟩
    · have hd3 : decide ((k : Int) < (i : Int)) = false := decide_eq_false (by omega)
      repeat' (first | (simp (disch := omega) only [push_cast, ↓reduceIte, zA, zG, zB, zH, zI, zC, zJ, zK, zL, zD, zE, zF, zM, zN, zO, zP, zQ, reduceCtorEq, not_true_eq_false, not_false_eq_true, hd3]) | (first | refine iE ?_ ?_ | refine iD ?_ ?_ | refine iQ ?_ ?_ | refine iV ?_ ?_) <;> intro _ | refine And.intro (by omega) ?_ | fail)
      refine ⟨rfl, i + 1, by simp (disch := omega) only [push_cast, ↓reduceIte, zA, zG, zB, zH, zI, zC, zJ, zK, zL, zD, zE, zF, zM, zN, zO, zP, zQ, reduceCtorEq, not_true_eq_false, not_false_eq_true], ⟨by omega, l6, fun j hj hji => ?_, fun x y hx hy hxi hyx => ?_⟩, by dsimp only; omega⟩
      · by_cases hj' : j < i
        · exact hok j hj hj'
        · have : j = i := by omega
          subst this; exact hFl
      · by_cases hx' : x < i
        · exact hap x y hx hy hx' hyx
        · have : x = i := by omega
          subst this; exact hno y hy (by omega)
  · have hd2 : decide ((i : Int) < (m.fl.length : Int)) = false := decide_eq_false (by omega)
    have l02 := l1.trans l2
    have hres : FilesIn m.p m.fl := filesIn_of (fun j hj => hok j hj (by omega)) (apart_of fun a b ha hb hba => hap a b ha hb (by omega) hba)
    repeat' (first | (simp (disch := omega) only [push_cast, ↓reduceIte, zA, zG, zB, zH, zI, zC, zJ, zK, zL, zD, zE, zF, zM, zN, zO, zP, zQ, reduceCtorEq, not_true_eq_false, not_false_eq_true, f2, f3, hd2, addr_add_eq, Nat.zero_add]) | (first | refine iE ?_ ?_ | refine iD ?_ ?_ | refine iQ ?_ ?_ | refine iV ?_ ?_) <;> intro _ | refine And.intro (by omega) ?_ | fail)
    refine (fname_c m.jn w2 (Nat.le_trans hm.jn (by unfold Bz; omega))).mono ?_
    rintro _ w0 ⟨rfl, h0⟩; obtain rfl := h0.symm
    by_cases h40 : m.fl.length ≤ 40
    · have d40 : decide ((m.fl.length : Int) ≤ 40) = true := decide_eq_true (by omega)
      have fin : ∀ b : Bool, (∃ b' : Bool, Value.bool b = .bool b' ∧ (b' = true → FilesIn m.p m.fl ∧ m.fl.length ≤ 40)) ∧ Later w w2 := fun b => ⟨⟨b, rfl, fun _ => ⟨hres, h40⟩⟩, l02⟩
      cases hF : fnOk m.jn with
      | false =>
        repeat' (first | (simp (disch := omega) only [push_cast, ↓reduceIte, zA, zG, zB, zH, zI, zC, zJ, zK, zL, zD, zE, zF, zM, zN, zO, zP, zQ, reduceCtorEq, not_true_eq_false, not_false_eq_true, f2, f3, d40, addr_add_eq, Nat.zero_add]) | (first | refine iE ?_ ?_ | refine iD ?_ ?_ | refine iQ ?_ ?_ | refine iV ?_ ?_) <;> intro _ | refine And.intro (by omega) ?_ | fail)
        all_goals first | exact fin _ | trace_state
      | true =>
      by_cases n1 : m.jn = (⟨#[109, 97, 110, 105, 102, 101, 115, 116]⟩ : ByteArray)
      · have e1 := decide_eq_true n1
        repeat' (first | (simp (disch := omega) only [push_cast, ↓reduceIte, zA, zG, zB, zH, zI, zC, zJ, zK, zL, zD, zE, zF, zM, zN, zO, zP, zQ, reduceCtorEq, not_true_eq_false, not_false_eq_true, f2, f3, d40, e1, addr_add_eq, Nat.zero_add]) | (first | refine iE ?_ ?_ | refine iD ?_ ?_ | refine iQ ?_ ?_ | refine iV ?_ ?_) <;> intro _ | refine And.intro (by omega) ?_ | fail)
        all_goals first | exact fin _ | trace_state
      · have e1 := decide_eq_false n1
        repeat' (first | (simp (disch := omega) only [push_cast, ↓reduceIte, zA, zG, zB, zH, zI, zC, zJ, zK, zL, zD, zE, zF, zM, zN, zO, zP, zQ, reduceCtorEq, not_true_eq_false, not_false_eq_true, f2, f3, d40, e1, addr_add_eq, Nat.zero_add]) | (first | refine iE ?_ ?_ | refine iD ?_ ?_ | refine iQ ?_ ?_ | refine iV ?_ ?_) <;> intro _ | refine And.intro (by omega) ?_ | fail)
        all_goals first | exact fin _ | trace_state
    · have d40 : decide ((m.fl.length : Int) ≤ 40) = false := decide_eq_false (by omega)
      repeat' (first | (simp (disch := omega) only [push_cast, ↓reduceIte, zA, zG, zB, zH, zI, zC, zJ, zK, zL, zD, zE, zF, zM, zN, zO, zP, zQ, reduceCtorEq, not_true_eq_false, not_false_eq_true, f2, f3, d40, addr_add_eq, Nat.zero_add]) | (first | refine iE ?_ ?_ | refine iD ?_ ?_ | refine iQ ?_ ?_ | refine iV ?_ ?_) <;> intro _ | refine And.intro (by omega) ?_ | fail)
      all_goals first | exact fail _ l02 | trace_state
end Go.Proofs.Ytnofalhkapmcnaa
end
section
set_option linter.unusedSimpArgs false
namespace Go.Proofs.Ytnofalhkapmcnaa
open Go.Vc Go.Key Go.Cub
set_option maxRecDepth 100000
structure RgOk (m : MD) : Prop where
  sc : ScOk m.dl m.ml
  pl : PlOk m.dl m.p
  ln : m.el.length = m.p.tl.length
  e0 : ∀ i, i < m.el.length → 0 ≤ m.el.getD i 0
  fall : Fall m.el
  top : 0 < m.el.length → m.el.getD 0 0 ≤ m.now
  now : 0 ≤ m.now ∧ m.now ≤ 1099511627776
  fi : FilesIn m.p m.fl
  fn : m.fl.length ≤ 40
def lastE (m : MD) : Nat → Int
  | 0 => m.now
  | i + 1 => m.el.getD i 0
set_option maxHeartbeats 4000000 in
theorem right20_c (m : MD) (w : World) (hm : m.Ok w) (hd : m.dl.length ≤ 2000000) (hml : m.ml.length ≤ 2000000) : FnC Try.prog 20 #[.agg (mdC m).toArray] w fun v w' => (∃ b : Bool, v = .bool b ∧ (b = true → RgOk m)) ∧ Later w w' := by
  obtain ⟨eo, ec, hev, he1, he2, he, he0⟩ := hm.ev.openM
  obtain ⟨so, sc, hsv, hs1, hs2, hs, hs0⟩ := hm.sv.openM
  obtain ⟨to, tc, htv, ht1, ht2⟩ := RecS.slice hm.p.tv
  obtain ⟨mo, mc, hmv⟩ := Sl.slice hm.mv
  rw [List.length_map] at hmv
  have fail : ∀ (w' : World), Later w w' → (∃ b : Bool, Value.bool false = .bool b ∧ (b = true → RgOk m)) ∧ Later w w' := fun w' hl => ⟨⟨false, rfl, fun h => by cases h⟩, hl⟩
  refine enter20 _ ?_
  unfold B20
  have eca : (Value.agg (mdC m).toArray).cells = (mdC m).toArray := rfl
  have l1 := later_alloc w (.cells (mdC m).toArray 34)
  have B1 := Blk.new w (mdC m).toArray 34
  repeat' (first | (simp (disch := omega) only [push_cast, ↓reduceIte, zA, zG, zB, zH, zI, zC, zJ, zK, zL, zD, zE, zF, zM, zN, zO, zP, zQ, reduceCtorEq, not_true_eq_false, not_false_eq_true, eca]) | (first | refine iE ?_ ?_ | refine iD ?_ ?_ | refine iQ ?_ ?_ | refine iV ?_ ?_) <;> intro _ | refine And.intro (by omega) ?_ | fail)
  generalize w.alloc (.cells (mdC m).toArray 34) = w1 at *
  generalize hkf : w.heap.size = kf at *
  have FF : ∀ w', Later w1 w' → cellsAt w' ⟨kf, 0, none⟩ 2 = some [m.dv, m.mv] ∧ cellsAt w' ⟨kf, 2, none⟩ 3 = some (pdC m.p) ∧ w'.cell? ⟨kf, 1, none⟩ = some (.slice mo m.ml.length mc) ∧ w'.cell? ⟨kf, 2, none⟩ = some (.slice to m.p.tl.length tc) ∧ w'.cell? ⟨kf, 5, none⟩ = some (.int .i64 m.now) ∧
      w'.cell? ⟨kf, 6, none⟩ = some (.slice eo m.el.length ec) ∧ w'.cell? ⟨kf, 7, none⟩ = some (.int .i64 m.cnt) ∧ w'.cell? ⟨kf, 8, none⟩ = some (.slice so m.sl.length sc) ∧ w'.cell? ⟨kf, 11, none⟩ = some (.int .i64 m.nx) ∧ cellsAt w' ⟨kf, 0, none⟩ 12 = some (mdC m) := by
    intro w' hl
    have B := mdLater B1 hl
    obtain ⟨h0, h1, h3, h4, h5, h6, h7, _, _, h8⟩ := mdAt B
    rw [← hmv, ← htv, ← hev, ← hsv]
    refine ⟨?_, h3, h1, B.cell 2, h4, h5, h6, h7, h8, Blk.cellsAt (l := mdC m) B⟩
    refine cellsAt_of 2 _ _ rfl fun i x hx => ?_
    rw [addr_add_eq]
    match i, hx with
    | 0, hx => cases hx; exact h0
    | 1, hx => cases hx; exact h1
    | n + 2, hx => exact absurd hx (by simp)
  have hsc : ∀ w', Later w w' → ScIs w' m.dv m.mv m.dl m.ml := fun w' hl => ⟨Sl.later hm.dv hl, Sl.later hm.mv hl, bz_le hm.dl, bz_le hm.ml⟩
  obtain ⟨f1, f2, f3, f4, f5, f6, f7, f8, f9, f10⟩ := FF w1 (Later.refl _)
  repeat' (first | (simp (disch := omega) only [push_cast, ↓reduceIte, zA, zG, zB, zH, zI, zC, zJ, zK, zL, zD, zE, zF, zM, zN, zO, zP, zQ, reduceCtorEq, not_true_eq_false, not_false_eq_true, f1, addr_add_eq, Nat.zero_add]) | (first | refine iE ?_ ?_ | refine iD ?_ ?_ | refine iQ ?_ ?_ | refine iV ?_ ?_) <;> intro _ | refine And.intro (by omega) ?_ | fail)
  refine (dschema_c m.dv m.mv m.dl m.ml w1 (hsc w1 l1) hd hml).mono ?_
  rintro _ w2 ⟨rfl, l2⟩
  have l02 := l1.trans l2
  by_cases hS : ScOk m.dl m.ml
  case neg =>
    have d1 := decide_eq_false hS
    repeat' (first | (simp (disch := omega) only [push_cast, ↓reduceIte, zA, zG, zB, zH, zI, zC, zJ, zK, zL, zD, zE, zF, zM, zN, zO, zP, zQ, reduceCtorEq, not_true_eq_false, not_false_eq_true, d1]) | (first | refine iE ?_ ?_ | refine iD ?_ ?_ | refine iQ ?_ ?_ | refine iV ?_ ?_) <;> intro _ | refine And.intro (by omega) ?_ | fail)
    exact fail _ l02
  have d1 := decide_eq_true hS
  obtain ⟨f1, f2, f3, f4, f5, f6, f7, f8, f9, f10⟩ := FF w2 l2
  repeat' (first | (simp (disch := omega) only [push_cast, ↓reduceIte, zA, zG, zB, zH, zI, zC, zJ, zK, zL, zD, zE, zF, zM, zN, zO, zP, zQ, reduceCtorEq, not_true_eq_false, not_false_eq_true, d1, f1, f2, addr_add_eq, Nat.zero_add]) | (first | refine iE ?_ ?_ | refine iD ?_ ?_ | refine iQ ?_ ?_ | refine iV ?_ ?_) <;> intro _ | refine And.intro (by omega) ?_ | fail)
  refine (pcheck_c m.dv m.mv m.dl m.ml m.p w2 (hsc w2 l02) (hm.p.later l02)).mono ?_
  rintro _ w3 ⟨⟨e, rfl, hpe⟩, l3⟩
  have l03 := l02.trans l3
  have l13 := l2.trans l3
  by_cases hE : e = 0
  case neg =>
    have d2 := decide_eq_false hE
    repeat' (first | (simp (disch := omega) only [push_cast, ↓reduceIte, zA, zG, zB, zH, zI, zC, zJ, zK, zL, zD, zE, zF, zM, zN, zO, zP, zQ, reduceCtorEq, not_true_eq_false, not_false_eq_true, d2]) | (first | refine iE ?_ ?_ | refine iD ?_ ?_ | refine iQ ?_ ?_ | refine iV ?_ ?_) <;> intro _ | refine And.intro (by omega) ?_ | fail)
    exact fail _ l03
  have hP := hpe hE
  have d2 := decide_eq_true hE
  obtain ⟨f1, f2, f3, f4, f5, f6, f7, f8, f9, f10⟩ := FF w3 l13
  by_cases hN : m.el.length = m.p.tl.length
  case neg =>
    have d3 : decide ((m.el.length : Int) = (m.p.tl.length : Int)) = false := decide_eq_false (by omega)
    repeat' (first | (simp (disch := omega) only [push_cast, ↓reduceIte, zA, zG, zB, zH, zI, zC, zJ, zK, zL, zD, zE, zF, zM, zN, zO, zP, zQ, reduceCtorEq, not_true_eq_false, not_false_eq_true, d2, f4, f6, d3, addr_add_eq, Nat.zero_add]) | (first | refine iE ?_ ?_ | refine iD ?_ ?_ | refine iQ ?_ ?_ | refine iV ?_ ?_) <;> intro _ | refine And.intro (by omega) ?_ | fail)
    exact fail _ l03
  have d3 : decide ((m.el.length : Int) = (m.p.tl.length : Int)) = true := decide_eq_true (by omega)
  by_cases hM : m.sl.length = m.ml.length
  case neg =>
    have d4 : decide ((m.sl.length : Int) = (m.ml.length : Int)) = false := decide_eq_false (by omega)
    repeat' (first | (simp (disch := omega) only [push_cast, ↓reduceIte, zA, zG, zB, zH, zI, zC, zJ, zK, zL, zD, zE, zF, zM, zN, zO, zP, zQ, reduceCtorEq, not_true_eq_false, not_false_eq_true, d2, f4, f6, f3, f8, d3, d4, addr_add_eq, Nat.zero_add]) | (first | refine iE ?_ ?_ | refine iD ?_ ?_ | refine iQ ?_ ?_ | refine iV ?_ ?_) <;> intro _ | refine And.intro (by omega) ?_ | fail)
    exact fail _ l03
  have d4 : decide ((m.sl.length : Int) = (m.ml.length : Int)) = true := decide_eq_true (by omega)
  repeat' (first | (simp (disch := omega) only [push_cast, ↓reduceIte, zA, zG, zB, zH, zI, zC, zJ, zK, zL, zD, zE, zF, zM, zN, zO, zP, zQ, reduceCtorEq, not_true_eq_false, not_false_eq_true, d2, f4, f5, f6, f3, f8, d3, d4, addr_add_eq, Nat.zero_add]) | (first | refine iE ?_ ?_ | refine iD ?_ ?_ | refine iQ ?_ ?_ | refine iV ?_ ?_) <;> intro _ | refine And.intro (by omega) ?_ | fail)
  refine vc_loop W20_0 (fun i : Nat => [(4, .int .i64 (lastE m i)), (5, .int .i64 (i : Int))]) (fun i w' => i ≤ m.el.length ∧ Later w1 w' ∧ ∀ j, j < i → 0 ≤ m.el.getD j 0 ∧ m.el.getD j 0 ≤ lastE m j) (fun i => m.el.length - i) 0 (by decide) ?_ ?_ ?_
  · simp (disch := omega) only [push_cast, ↓reduceIte, zA, zG, zB, zH, zI, zC, zJ, zK, zL, zD, zE, zF, zM, zN, zO, zP, zQ, reduceCtorEq, not_true_eq_false, not_false_eq_true]
    try rfl
  · exact ⟨Nat.zero_le _, l13, fun j h => absurd h (Nat.not_lt_zero _)⟩
  rintro i uu w4 ⟨hi, l4, hfa⟩
  obtain ⟨f1, f2, f3, f4, f5, f6, f7, f8, f9, f10⟩ := FF w4 l4
  have l04 := l1.trans l4
  by_cases hik : i < m.el.length
  · have dd : decide ((i : Int) < (m.el.length : Int)) = true := decide_eq_true (by omega)
    obtain ⟨a, rfl, ea⟩ := int_at (Sl.later he l04) hik
    have hls : lastE m (i + 1) = m.el.getD i 0 := rfl
    generalize hv : m.el.getD i 0 = E at *
    repeat' (first | (simp (disch := omega) only [push_cast, ↓reduceIte, zA, zG, zB, zH, zI, zC, zJ, zK, zL, zD, zE, zF, zM, zN, zO, zP, zQ, reduceCtorEq, not_true_eq_false, not_false_eq_true, f6, dd, ea, addr_add_eq, Nat.zero_add]) | (first | refine iE ?_ ?_ | refine iD ?_ ?_ | refine iQ ?_ ?_ | refine iV ?_ ?_) <;> intro _ | refine And.intro (by omega) ?_ | fail)
    refine (within_c E 0 (lastE m i) w4).mono ?_
    rintro _ w0 ⟨rfl, h0⟩; obtain rfl := h0.symm
    by_cases hr : 0 ≤ E ∧ E ≤ lastE m i
    · have dr : (decide (0 ≤ E) && decide (E ≤ lastE m i)) = true := by simp [hr.1, hr.2]
      repeat' (first | (simp (disch := omega) only [push_cast, ↓reduceIte, zA, zG, zB, zH, zI, zC, zJ, zK, zL, zD, zE, zF, zM, zN, zO, zP, zQ, reduceCtorEq, not_true_eq_false, not_false_eq_true, dr, f6, dd, ea, addr_add_eq, Nat.zero_add]) | (first | refine iE ?_ ?_ | refine iD ?_ ?_ | refine iQ ?_ ?_ | refine iV ?_ ?_) <;> intro _ | refine And.intro (by omega) ?_ | fail)
      refine ⟨rfl, i + 1, by simp (disch := omega) only [push_cast, ↓reduceIte, zA, zG, zB, zH, zI, zC, zJ, zK, zL, zD, zE, zF, zM, zN, zO, zP, zQ, reduceCtorEq, not_true_eq_false, not_false_eq_true, hls], ⟨by omega, l4, fun j hj => ?_⟩, by dsimp only; omega⟩
      by_cases hji : j < i
      · exact hfa j hji
      · have : j = i := by omega
        subst this
        rw [hv]
        exact hr
    · have dr : (decide (0 ≤ E) && decide (E ≤ lastE m i)) = false := by
        rw [Bool.and_eq_false_iff, decide_eq_false_iff_not, decide_eq_false_iff_not]; omega
      repeat' (first | (simp (disch := omega) only [push_cast, ↓reduceIte, zA, zG, zB, zH, zI, zC, zJ, zK, zL, zD, zE, zF, zM, zN, zO, zP, zQ, reduceCtorEq, not_true_eq_false, not_false_eq_true, dr]) | (first | refine iE ?_ ?_ | refine iD ?_ ?_ | refine iQ ?_ ?_ | refine iV ?_ ?_) <;> intro _ | refine And.intro (by omega) ?_ | fail)
      exact fail _ l04
  have dd : decide ((i : Int) < (m.el.length : Int)) = false := decide_eq_false (by omega)
  obtain rfl : i = m.el.length := by omega
  repeat' (first | (simp (disch := omega) only [push_cast, ↓reduceIte, zA, zG, zB, zH, zI, zC, zJ, zK, zL, zD, zE, zF, zM, zN, zO, zP, zQ, reduceCtorEq, not_true_eq_false, not_false_eq_true, f6, dd, addr_add_eq, Nat.zero_add]) | (first | refine iE ?_ ?_ | refine iD ?_ ?_ | refine iQ ?_ ?_ | refine iV ?_ ?_) <;> intro _ | refine And.intro (by omega) ?_ | fail)
  refine vc_loop W20_1 (fun i : Nat => [(7, .int .i64 (i : Int))]) (fun i w' => i ≤ m.sl.length ∧ Later w1 w') (fun i => m.sl.length - i) 0 (by decide) ?_ ?_ ?_
  · simp (disch := omega) only [push_cast, ↓reduceIte, zA, zG, zB, zH, zI, zC, zJ, zK, zL, zD, zE, zF, zM, zN, zO, zP, zQ, reduceCtorEq, not_true_eq_false, not_false_eq_true]
    try rfl
  · exact ⟨Nat.zero_le _, l4⟩
  rintro k uu2 w5 ⟨hk, l5⟩
  obtain ⟨f1, f2, f3, f4, f5, f6, f7, f8, f9, f10⟩ := FF w5 l5
  have l05 := l1.trans l5
  by_cases hkl : k < m.sl.length
  · have dk : decide ((k : Int) < (m.sl.length : Int)) = true := decide_eq_true (by omega)
    obtain ⟨a, rfl, ea⟩ := int_at (Sl.later hs l05) hkl
    generalize hv : m.sl.getD k 0 = E at *
    repeat' (first | (simp (disch := omega) only [push_cast, ↓reduceIte, zA, zG, zB, zH, zI, zC, zJ, zK, zL, zD, zE, zF, zM, zN, zO, zP, zQ, reduceCtorEq, not_true_eq_false, not_false_eq_true, f8, dk, ea, addr_add_eq, Nat.zero_add]) | (first | refine iE ?_ ?_ | refine iD ?_ ?_ | refine iQ ?_ ?_ | refine iV ?_ ?_) <;> intro _ | refine And.intro (by omega) ?_ | fail)
    refine (within_c E 0 4611686018427387904 w5).mono ?_
    rintro _ w0 ⟨rfl, h0⟩; obtain rfl := h0.symm
    cases hr : (decide (0 ≤ E) && decide (E ≤ 4611686018427387904)) with
    | true =>
      repeat' (first | (simp (disch := omega) only [push_cast, ↓reduceIte, zA, zG, zB, zH, zI, zC, zJ, zK, zL, zD, zE, zF, zM, zN, zO, zP, zQ, reduceCtorEq, not_true_eq_false, not_false_eq_true]) | (first | refine iE ?_ ?_ | refine iD ?_ ?_ | refine iQ ?_ ?_ | refine iV ?_ ?_) <;> intro _ | refine And.intro (by omega) ?_ | fail)
      exact ⟨rfl, k + 1, by simp (disch := omega) only [push_cast, ↓reduceIte, zA, zG, zB, zH, zI, zC, zJ, zK, zL, zD, zE, zF, zM, zN, zO, zP, zQ, reduceCtorEq, not_true_eq_false, not_false_eq_true], ⟨by omega, l5⟩, by dsimp only; omega⟩
    | false =>
      repeat' (first | (simp (disch := omega) only [push_cast, ↓reduceIte, zA, zG, zB, zH, zI, zC, zJ, zK, zL, zD, zE, zF, zM, zN, zO, zP, zQ, reduceCtorEq, not_true_eq_false, not_false_eq_true]) | (first | refine iE ?_ ?_ | refine iD ?_ ?_ | refine iQ ?_ ?_ | refine iV ?_ ?_) <;> intro _ | refine And.intro (by omega) ?_ | fail)
      exact fail _ l05
  have dk : decide ((k : Int) < (m.sl.length : Int)) = false := decide_eq_false (by omega)
  repeat' (first | (simp (disch := omega) only [push_cast, ↓reduceIte, zA, zG, zB, zH, zI, zC, zJ, zK, zL, zD, zE, zF, zM, zN, zO, zP, zQ, reduceCtorEq, not_true_eq_false, not_false_eq_true, f8, dk, f5, addr_add_eq, Nat.zero_add]) | (first | refine iE ?_ ?_ | refine iD ?_ ?_ | refine iQ ?_ ?_ | refine iV ?_ ?_) <;> intro _ | refine And.intro (by omega) ?_ | fail)
  refine (within_c m.now 0 1099511627776 w5).mono ?_
  rintro _ w0 ⟨rfl, h0⟩; obtain rfl := h0.symm
  have hfin : (decide (0 ≤ m.now) && decide (m.now ≤ 1099511627776)) = true → FilesIn m.p m.fl ∧ m.fl.length ≤ 40 → RgOk m := by
    intro hn hF
    simp only [Bool.and_eq_true, decide_eq_true_eq] at hn
    refine ⟨hS, hP, hN, fun i hi => (hfa i hi).1, fun i hi => (hfa (i + 1) hi).2, fun h => (hfa 0 h).2, hn, hF.1, hF.2⟩
  -- the rest: two more tests, the files
  have rest : ∀ (b1 b2 : Bool) (w' : World), (b1 = true → (decide (0 ≤ m.now) && decide (m.now ≤ 1099511627776)) = true) → Later w w' → ∀ b3 : Bool, (b3 = true → FilesIn m.p m.fl ∧ m.fl.length ≤ 40) → (∃ b : Bool, Value.bool (b1 && b2 && b3) = .bool b ∧ (b = true → RgOk m)) ∧ Later w w' := by
    intro b1 b2 w' h1 hl b3 h3
    refine ⟨⟨_, rfl, fun h => ?_⟩, hl⟩
    simp only [Bool.and_eq_true] at h
    exact hfin (h1 h.1.1) (h3 h.2)
  cases hn : (decide (0 ≤ m.now) && decide (m.now ≤ 1099511627776)) with
  | false =>
    repeat' (first | (simp (disch := omega) only [push_cast, ↓reduceIte, zA, zG, zB, zH, zI, zC, zJ, zK, zL, zD, zE, zF, zM, zN, zO, zP, zQ, reduceCtorEq, not_true_eq_false, not_false_eq_true, f9, addr_add_eq, Nat.zero_add]) | (first | refine iE ?_ ?_ | refine iD ?_ ?_ | refine iQ ?_ ?_ | refine iV ?_ ?_) <;> intro _ | refine And.intro (by omega) ?_ | fail)
    refine (within_c m.nx 0 1073741824 w5).mono ?_
    rintro _ w0 ⟨rfl, h0⟩; obtain rfl := h0.symm
    repeat' (first | (simp (disch := omega) only [push_cast, ↓reduceIte, zA, zG, zB, zH, zI, zC, zJ, zK, zL, zD, zE, zF, zM, zN, zO, zP, zQ, reduceCtorEq, not_true_eq_false, not_false_eq_true, f10, addr_add_eq, Nat.zero_add]) | (first | refine iE ?_ ?_ | refine iD ?_ ?_ | refine iQ ?_ ?_ | refine iV ?_ ?_) <;> intro _ | refine And.intro (by omega) ?_ | fail)
    refine (files_c m w5 (hm.later l05)).mono ?_
    rintro _ w6 ⟨⟨b, rfl, hb⟩, l6⟩
    repeat' (first | (simp (disch := omega) only [push_cast, ↓reduceIte, zA, zG, zB, zH, zI, zC, zJ, zK, zL, zD, zE, zF, zM, zN, zO, zP, zQ, reduceCtorEq, not_true_eq_false, not_false_eq_true]) | (first | refine iE ?_ ?_ | refine iD ?_ ?_ | refine iQ ?_ ?_ | refine iV ?_ ?_) <;> intro _ | refine And.intro (by omega) ?_ | refine drawn_q ?_ | fail)
    all_goals exact fail _ (l05.trans l6)
  | true =>
    repeat' (first | (simp (disch := omega) only [push_cast, ↓reduceIte, zA, zG, zB, zH, zI, zC, zJ, zK, zL, zD, zE, zF, zM, zN, zO, zP, zQ, reduceCtorEq, not_true_eq_false, not_false_eq_true, f7, addr_add_eq, Nat.zero_add]) | (first | refine iE ?_ ?_ | refine iD ?_ ?_ | refine iQ ?_ ?_ | refine iV ?_ ?_) <;> intro _ | refine And.intro (by omega) ?_ | fail)
    refine (within_c m.cnt 0 1048576 w5).mono ?_
    rintro _ w0 ⟨rfl, h0⟩; obtain rfl := h0.symm
    repeat' (first | (simp (disch := omega) only [push_cast, ↓reduceIte, zA, zG, zB, zH, zI, zC, zJ, zK, zL, zD, zE, zF, zM, zN, zO, zP, zQ, reduceCtorEq, not_true_eq_false, not_false_eq_true, f9, addr_add_eq, Nat.zero_add]) | (first | refine iE ?_ ?_ | refine iD ?_ ?_ | refine iQ ?_ ?_ | refine iV ?_ ?_) <;> intro _ | refine And.intro (by omega) ?_ | fail)
    refine (within_c m.nx 0 1073741824 w5).mono ?_
    rintro _ w0 ⟨rfl, h0⟩; obtain rfl := h0.symm
    repeat' (first | (simp (disch := omega) only [push_cast, ↓reduceIte, zA, zG, zB, zH, zI, zC, zJ, zK, zL, zD, zE, zF, zM, zN, zO, zP, zQ, reduceCtorEq, not_true_eq_false, not_false_eq_true, f10, addr_add_eq, Nat.zero_add]) | (first | refine iE ?_ ?_ | refine iD ?_ ?_ | refine iQ ?_ ?_ | refine iV ?_ ?_) <;> intro _ | refine And.intro (by omega) ?_ | fail)
    refine (files_c m w5 (hm.later l05)).mono ?_
    rintro _ w6 ⟨⟨b, rfl, hb⟩, l6⟩
    generalize (decide (0 ≤ m.cnt) && decide (m.cnt ≤ 1048576)) = b1
    generalize (decide (0 ≤ m.nx) && decide (m.nx ≤ 1073741824)) = b2
    cases b1
    · repeat' (first | (simp (disch := omega) only [push_cast, ↓reduceIte, zA, zG, zB, zH, zI, zC, zJ, zK, zL, zD, zE, zF, zM, zN, zO, zP, zQ, reduceCtorEq, not_true_eq_false, not_false_eq_true]) | (first | refine iE ?_ ?_ | refine iD ?_ ?_ | refine iQ ?_ ?_ | refine iV ?_ ?_) <;> intro _ | refine And.intro (by omega) ?_ | refine drawn_q ?_ | fail)
      all_goals exact fail _ (l05.trans l6)
    cases b2
    · repeat' (first | (simp (disch := omega) only [push_cast, ↓reduceIte, zA, zG, zB, zH, zI, zC, zJ, zK, zL, zD, zE, zF, zM, zN, zO, zP, zQ, reduceCtorEq, not_true_eq_false, not_false_eq_true]) | (first | refine iE ?_ ?_ | refine iD ?_ ?_ | refine iQ ?_ ?_ | refine iV ?_ ?_) <;> intro _ | refine And.intro (by omega) ?_ | refine drawn_q ?_ | fail)
      all_goals exact fail _ (l05.trans l6)
    repeat' (first | (simp (disch := omega) only [push_cast, ↓reduceIte, zA, zG, zB, zH, zI, zC, zJ, zK, zL, zD, zE, zF, zM, zN, zO, zP, zQ, reduceCtorEq, not_true_eq_false, not_false_eq_true]) | (first | refine iE ?_ ?_ | refine iD ?_ ?_ | refine iQ ?_ ?_ | refine iV ?_ ?_) <;> intro _ | refine And.intro (by omega) ?_ | refine drawn_q ?_ | fail)
    all_goals exact ⟨⟨b, rfl, fun h => hfin hn (hb h)⟩, l05.trans l6⟩
end Go.Proofs.Ytnofalhkapmcnaa
end
section
namespace Go.Proofs.Ytnofalhkapmcnaa
open Go.Vc
set_option maxRecDepth 100000
variable (Q : Post) (ds : List Deferred) (σ : Env) (w : World)
/-! 6 columbary/columbarylaw26.SelectorWitness (params #[34, 3, 3], results #[(.tmp 6)], 122 slots) -/
def W6_0 : List Nat := [6, 11, 12, 47, 48, 49, 50, 51, 52, 53, 54, 55, 56, 57, 58, 59, 60, 61, 62, 63, 64, 65, 66, 67, 68, 69, 70, 71, 72, 73, 74, 75]
@[push_cast] theorem W6_0_def : W6_0 = [6, 11, 12, 47, 48, 49, 50, 51, 52, 53, 54, 55, 56, 57, 58, 59, 60, 61, 62, 63, 64, 65, 66, 67, 68, 69, 70, 71, 72, 73, 74, 75] := mk_eq rfl
def r6_0 : List VOp :=
  [⟨some 3, .box 34 (.tmp 0), 0, none⟩,
   ⟨some 6, .assign (.const (.bool false)), 4, none⟩]
def r6_1 : List VOp :=
  [lda 17 34 3,
   ⟨some 18, .call ⟨.value (.func 19), #[.tmp 17], #[34]⟩, 4, none⟩,
   asg 7 18 4]
def r6_2 : List VOp :=
  [lda 19 34 3,
   ⟨some 20, .call ⟨.value (.func 20), #[.tmp 19], #[34]⟩, 4, none⟩,
   asg 8 20 4]
def r6_3 : List VOp :=
  [mv 21 7 4,
   ⟨some 22, .unOp .not 4 (.tmp 21), 4, none⟩,
   mv 23 22 4,
   ⟨some 24, .move (.tmp 8), 4, some (23, false)⟩,
   ⟨some 25, .unOp .not 4 (.tmp 24), 4, some (23, false)⟩,
   ⟨some 26, .pick (.tmp 23) (.const (.bool true)) (.tmp 25), 4, none⟩]
def r6_4 : List VOp :=
  [⟨some 27, .call ⟨.value (.func 11), #[], #[]⟩, 4, none⟩,
   asg 6 27 4]
def r6_5 : List VOp :=
  [fad 28 34 3 1,
   fad 29 28 28 0,
   lda 30 25 29,
   fad 31 34 3 1,
   fad 32 28 31 0,
   lda 33 25 32,
   ⟨some 34, .call ⟨.builtin .len, #[.tmp 33], #[25]⟩, 3, none⟩,
   ⟨some 35, .binOp .sub 3 (.tmp 34) (.const (.int .i64 1)) 3, 3, none⟩,
   iad 36 25 30 35,
   fad 37 60 36 1,
   lda 38 3 37,
   asg 9 38 3]
def r6_6 : List VOp :=
  [fad 39 34 3 3,
   lda 40 29 39,
   fad 41 34 3 3,
   lda 42 29 41,
   ⟨some 43, .call ⟨.builtin .len, #[.tmp 42], #[29]⟩, 3, none⟩,
   ⟨some 44, .binOp .sub 3 (.tmp 43) (.const (.int .i64 1)) 3, 3, none⟩,
   iad 45 29 40 44,
   lda 46 3 45,
   asg 10 46 3]
def r6_7 : List VOp :=
  [⟨some 11, .assign (.const (.int .i64 0)), 3, none⟩]
def r6_8 : List VOp :=
  [mv 47 11 3,
   fad 48 34 3 3,
   lda 49 29 48,
   ⟨some 50, .call ⟨.builtin .len, #[.tmp 49], #[29]⟩, 3, none⟩,
   ⟨some 51, .binOp .lss 3 (.tmp 47) (.tmp 50) 3, 4, none⟩]
def r6_10 : List VOp :=
  [mv 54 11 3,
   ⟨some 55, .binOp .add 3 (.tmp 54) (.const (.int .i64 1)) 3, 3, none⟩,
   fad 56 34 3 3,
   lda 57 29 56,
   ⟨some 58, .call ⟨.builtin .len, #[.tmp 57], #[29]⟩, 3, none⟩,
   ⟨some 59, .binOp .sub 3 (.tmp 58) (.const (.int .i64 1)) 3, 3, none⟩,
   ⟨some 60, .call ⟨.builtin .min, #[.tmp 55, .tmp 59], #[3, 3]⟩, 3, none⟩,
   asg 12 60 3]
def r6_11 : List VOp :=
  [fad 61 34 3 3,
   lda 62 29 61,
   mv 63 11 3,
   iad 64 29 62 63,
   lda 65 3 64,
   fad 66 34 3 1,
   fad 67 28 66 0,
   lda 68 25 67,
   mv 69 12 3,
   iad 70 25 68 69,
   fad 71 60 70 1,
   lda 72 3 71,
   ⟨some 73, .binOp .rem 3 (.tmp 65) (.tmp 72) 3, 3, none⟩,
   ⟨some 74, .binOp .neq 3 (.tmp 73) (.const (.int .i64 0)) 3, 4, none⟩]
def r6_12 : List VOp :=
  [⟨some 75, .call ⟨.value (.func 11), #[], #[]⟩, 4, none⟩,
   asg 6 75 4]
def r6_9 : List VOp :=
  [mv 52 11 3,
   ⟨some 53, .binOp .add 3 (.tmp 52) (.const (.int .i64 1)) 3, 3, none⟩,
   asg 11 53 3]
def r6_13 : List VOp :=
  [⟨some 76, .build 63 #[], 63, none⟩,
   ⟨some 77, .buildSlice 35 1 #[(0, (.tmp 76))], 35, none⟩,
   mv 78 9 3,
   mv 79 1 3,
   ⟨some 80, .binOp .and 3 (.tmp 79) (.const (.int .i64 1023)) 3, 3, none⟩,
   ⟨some 81, .binOp .mul 3 (.tmp 78) (.tmp 80) 3, 3, none⟩,
   mv 82 9 3,
   ⟨some 83, .build 42 #[(0, (.tmp 77)), (1, (.tmp 81)), (3, (.tmp 82))], 42, none⟩,
   ⟨some 13, .alloc 42, 0, none⟩,
   ⟨none, .store 42 (.tmp 13) (.tmp 83), 0, none⟩]
def r6_14 : List VOp :=
  [fad 84 42 13 1,
   lda 85 3 84,
   mv 86 9 3,
   mv 87 2 3,
   ⟨some 88, .binOp .and 3 (.tmp 87) (.const (.int .i64 255)) 3, 3, none⟩,
   ⟨some 89, .binOp .add 3 (.const (.int .i64 1)) (.tmp 88) 3, 3, none⟩,
   ⟨some 90, .binOp .mul 3 (.tmp 86) (.tmp 89) 3, 3, none⟩,
   ⟨some 91, .binOp .add 3 (.tmp 85) (.tmp 90) 3, 3, none⟩,
   fad 92 42 13 2,
   ⟨none, .store 3 (.tmp 92) (.tmp 91), 0, none⟩]
def r6_15 : List VOp :=
  [fad 94 34 3 0,
   lda 95 24 94,
   fad 96 34 3 1,
   lda 97 28 96,
   fad 98 34 3 3,
   lda 99 29 98,
   lda 100 42 13,
   fad 101 34 3 5,
   lda 102 32 101,
   ⟨some 103, .call ⟨.value (.func 17), #[.tmp 95, .tmp 97, .tmp 99, .tmp 100, .tmp 102], #[24, 28, 29, 42, 32]⟩, 54, none⟩,
   mv 93 103 54,
   ext 104 93 0 45,
   ext 105 93 1 3,
   ext 106 93 2 53,
   asg 14 104 45,
   asg 15 105 3,
   asg 16 106 53]
def r6_16 : List VOp :=
  [⟨some 107, .call ⟨.value (.func 11), #[], #[]⟩, 4, none⟩,
   mv 108 107 4,
   ⟨some 109, .move (.tmp 16), 53, some (108, true)⟩,
   ⟨some 110, .binOp .eql 53 (.tmp 109) (.const (.int .i64 0)) 53, 4, some (108, true)⟩,
   ⟨some 111, .pick (.tmp 108) (.tmp 110) (.const (.bool false)), 4, none⟩,
   mv 112 111 4,
   ⟨some 113, .move (.tmp 14), 45, some (112, true)⟩,
   ⟨some 114, .call ⟨.builtin .len, #[.tmp 113], #[45]⟩, 3, some (112, true)⟩,
   ⟨some 115, .binOp .gtr 3 (.tmp 114) (.const (.int .i64 0)) 3, 4, some (112, true)⟩,
   ⟨some 116, .fieldAddr 42 (.tmp 13) 2, 0, some (112, true)⟩,
   ⟨some 117, .load 3 (.tmp 116), 3, some (112, true)⟩,
   ⟨some 118, .move (.tmp 10), 3, some (112, true)⟩,
   ⟨some 119, .binOp .gtr 3 (.tmp 117) (.tmp 118) 3, 4, some (112, true)⟩,
   ⟨some 120, .binOp .eql 4 (.tmp 115) (.tmp 119) 4, 4, some (112, true)⟩,
   ⟨some 121, .pick (.tmp 112) (.tmp 120) (.const (.bool false)), 4, none⟩,
   asg 6 121 4]
def B6 : VC :=
  (.seq (.region r6_0) (.seq (.region r6_1) (.seq (.region r6_2) (.seq (.seq (.region r6_3) (.cond (.tmp 26) (.seq (.region r6_4) .ret) .skip)) (.seq (.region r6_5) (.seq (.region r6_6) (.seq (.seq (.region r6_7) (.block 0 (.loop (.seq (.seq (.region r6_8) (.cond (.tmp 51) .skip (.exit 0))) (.seq (.block 1 (.seq (.region r6_10) (.seq (.draw r6_11 3) (.cond (.tmp 74) (.seq (.region r6_12) .ret) .skip)))) (.region r6_9)))))) (.seq (.region r6_13) (.seq (.region r6_14) (.seq (.region r6_15) (.seq (.region r6_16) .ret)))))))))))
theorem code6 : ∃ c, Try.f6.body = some c ∧ abs Try.f6.ntmps c = B6 := ⟨_, rfl, by kernel_rfl⟩
theorem hb6 : HasBody Try.prog 6 := hasBody_of Try.func6 (by kernel_rfl)
theorem res6 : Try.f6.results = #[(.tmp 6)] := rfl
theorem enter6 {w : World} {R : Value → World → Prop} (x0 x1 x2 : Value) (h : vc Try.prog B6 (retK Try.prog #[(.tmp 6)] R) [] (initEnv [x0, x1, x2] 0) w) : FnC Try.prog 6 #[x0, x1, x2] w R := by
  obtain ⟨c, h1, h2⟩ := code6
  exact hb6.fn (ret_of_vc mixed Try.func6 h1 (Nat.le_of_ble_eq_true rfl) B6 h2 h)
@[push_cast] theorem vr6_0 : VR r6_0 [⟨some 3, .box 34 (.tmp 0), 0, none⟩, ⟨some 6, .assign (.const (.bool false)), 4, none⟩] := vR rfl
@[push_cast] theorem vr6_1 : VR r6_1 [⟨some 17, .load 34 (.tmp 3), 34, none⟩, ⟨some 18, .call ⟨.value (.func 19), #[.tmp 17], #[34]⟩, 4, none⟩, ⟨some 7, .assign (.tmp 18), 4, none⟩] := vR rfl
@[push_cast] theorem vr6_2 : VR r6_2 [⟨some 19, .load 34 (.tmp 3), 34, none⟩, ⟨some 20, .call ⟨.value (.func 20), #[.tmp 19], #[34]⟩, 4, none⟩, ⟨some 8, .assign (.tmp 20), 4, none⟩] := vR rfl
@[push_cast] theorem vr6_3 : VR r6_3 [⟨some 21, .move (.tmp 7), 4, none⟩, ⟨some 22, .unOp .not 4 (.tmp 21), 4, none⟩, ⟨some 23, .move (.tmp 22), 4, none⟩, ⟨some 24, .move (.tmp 8), 4, some (23, false)⟩, ⟨some 25, .unOp .not 4 (.tmp 24), 4, some (23, false)⟩, ⟨some 26, .pick (.tmp 23) (.const (.bool true)) (.tmp 25), 4, none⟩] := vR rfl
@[push_cast] theorem vr6_4 : VR r6_4 [⟨some 27, .call ⟨.value (.func 11), #[], #[]⟩, 4, none⟩, ⟨some 6, .assign (.tmp 27), 4, none⟩] := vR rfl
@[push_cast] theorem vr6_5 : VR r6_5 [⟨some 28, .fieldAddr 34 (.tmp 3) 1, 0, none⟩, ⟨some 29, .fieldAddr 28 (.tmp 28) 0, 0, none⟩, ⟨some 30, .load 25 (.tmp 29), 25, none⟩, ⟨some 31, .fieldAddr 34 (.tmp 3) 1, 0, none⟩, ⟨some 32, .fieldAddr 28 (.tmp 31) 0, 0, none⟩, ⟨some 33, .load 25 (.tmp 32), 25, none⟩, ⟨some 34, .call ⟨.builtin .len, #[.tmp 33], #[25]⟩, 3, none⟩, ⟨some 35, .binOp .sub 3 (.tmp 34) (.const (.int .i64 1)) 3, 3, none⟩, ⟨some 36, .indexAddr 25 (.tmp 30) (.tmp 35), 0, none⟩, ⟨some 37, .fieldAddr 60 (.tmp 36) 1, 0, none⟩, ⟨some 38, .load 3 (.tmp 37), 3, none⟩, ⟨some 9, .assign (.tmp 38), 3, none⟩] := vR rfl
@[push_cast] theorem vr6_6 : VR r6_6 [⟨some 39, .fieldAddr 34 (.tmp 3) 3, 0, none⟩, ⟨some 40, .load 29 (.tmp 39), 29, none⟩, ⟨some 41, .fieldAddr 34 (.tmp 3) 3, 0, none⟩, ⟨some 42, .load 29 (.tmp 41), 29, none⟩, ⟨some 43, .call ⟨.builtin .len, #[.tmp 42], #[29]⟩, 3, none⟩, ⟨some 44, .binOp .sub 3 (.tmp 43) (.const (.int .i64 1)) 3, 3, none⟩, ⟨some 45, .indexAddr 29 (.tmp 40) (.tmp 44), 0, none⟩, ⟨some 46, .load 3 (.tmp 45), 3, none⟩, ⟨some 10, .assign (.tmp 46), 3, none⟩] := vR rfl
@[push_cast] theorem vr6_7 : VR r6_7 [⟨some 11, .assign (.const (.int .i64 0)), 3, none⟩] := vR rfl
@[push_cast] theorem vr6_8 : VR r6_8 [⟨some 47, .move (.tmp 11), 3, none⟩, ⟨some 48, .fieldAddr 34 (.tmp 3) 3, 0, none⟩, ⟨some 49, .load 29 (.tmp 48), 29, none⟩, ⟨some 50, .call ⟨.builtin .len, #[.tmp 49], #[29]⟩, 3, none⟩, ⟨some 51, .binOp .lss 3 (.tmp 47) (.tmp 50) 3, 4, none⟩] := vR rfl
@[push_cast] theorem vr6_10 : VR r6_10 [⟨some 54, .move (.tmp 11), 3, none⟩, ⟨some 55, .binOp .add 3 (.tmp 54) (.const (.int .i64 1)) 3, 3, none⟩, ⟨some 56, .fieldAddr 34 (.tmp 3) 3, 0, none⟩, ⟨some 57, .load 29 (.tmp 56), 29, none⟩, ⟨some 58, .call ⟨.builtin .len, #[.tmp 57], #[29]⟩, 3, none⟩, ⟨some 59, .binOp .sub 3 (.tmp 58) (.const (.int .i64 1)) 3, 3, none⟩, ⟨some 60, .call ⟨.builtin .min, #[.tmp 55, .tmp 59], #[3, 3]⟩, 3, none⟩, ⟨some 12, .assign (.tmp 60), 3, none⟩] := vR rfl
@[push_cast] theorem vr6_11 : vc Try.prog (.draw r6_11 3) Q ds σ w = drawn Try.prog [(⟨some 61, .fieldAddr 34 (.tmp 3) 3, 0, none⟩, [3]), (⟨some 62, .load 29 (.tmp 61), 29, none⟩, [61]), (⟨some 63, .move (.tmp 11), 3, none⟩, [11]), (⟨some 64, .indexAddr 29 (.tmp 62) (.tmp 63), 0, none⟩, [62, 63]), (⟨some 65, .load 3 (.tmp 64), 3, none⟩, [64]), (⟨some 66, .fieldAddr 34 (.tmp 3) 1, 0, none⟩, [3]), (⟨some 67, .fieldAddr 28 (.tmp 66) 0, 0, none⟩, [66]), (⟨some 68, .load 25 (.tmp 67), 25, none⟩, [67]), (⟨some 69, .move (.tmp 12), 3, none⟩, [12]), (⟨some 70, .indexAddr 25 (.tmp 68) (.tmp 69), 0, none⟩, [68, 69]), (⟨some 71, .fieldAddr 60 (.tmp 70) 1, 0, none⟩, [70]), (⟨some 72, .load 3 (.tmp 71), 3, none⟩, [71]), (⟨some 73, .binOp .rem 3 (.tmp 65) (.tmp 72) 3, 3, none⟩, [65, 72]), (⟨some 74, .binOp .neq 3 (.tmp 73) (.const (.int .i64 0)) 3, 4, none⟩, [73])] 3 (Q .normal ds) σ w := mk_eq rfl
@[push_cast] theorem vr6_12 : VR r6_12 [⟨some 75, .call ⟨.value (.func 11), #[], #[]⟩, 4, none⟩, ⟨some 6, .assign (.tmp 75), 4, none⟩] := vR rfl
@[push_cast] theorem vr6_9 : VR r6_9 [⟨some 52, .move (.tmp 11), 3, none⟩, ⟨some 53, .binOp .add 3 (.tmp 52) (.const (.int .i64 1)) 3, 3, none⟩, ⟨some 11, .assign (.tmp 53), 3, none⟩] := vR rfl
@[push_cast] theorem vr6_13 : VR r6_13 [⟨some 76, .build 63 #[], 63, none⟩, ⟨some 77, .buildSlice 35 1 #[(0, (.tmp 76))], 35, none⟩, ⟨some 78, .move (.tmp 9), 3, none⟩, ⟨some 79, .move (.tmp 1), 3, none⟩, ⟨some 80, .binOp .and 3 (.tmp 79) (.const (.int .i64 1023)) 3, 3, none⟩, ⟨some 81, .binOp .mul 3 (.tmp 78) (.tmp 80) 3, 3, none⟩, ⟨some 82, .move (.tmp 9), 3, none⟩, ⟨some 83, .build 42 #[(0, (.tmp 77)), (1, (.tmp 81)), (3, (.tmp 82))], 42, none⟩, ⟨some 13, .alloc 42, 0, none⟩, ⟨none, .store 42 (.tmp 13) (.tmp 83), 0, none⟩] := vR rfl
@[push_cast] theorem vr6_14 : VR r6_14 [⟨some 84, .fieldAddr 42 (.tmp 13) 1, 0, none⟩, ⟨some 85, .load 3 (.tmp 84), 3, none⟩, ⟨some 86, .move (.tmp 9), 3, none⟩, ⟨some 87, .move (.tmp 2), 3, none⟩, ⟨some 88, .binOp .and 3 (.tmp 87) (.const (.int .i64 255)) 3, 3, none⟩, ⟨some 89, .binOp .add 3 (.const (.int .i64 1)) (.tmp 88) 3, 3, none⟩, ⟨some 90, .binOp .mul 3 (.tmp 86) (.tmp 89) 3, 3, none⟩, ⟨some 91, .binOp .add 3 (.tmp 85) (.tmp 90) 3, 3, none⟩, ⟨some 92, .fieldAddr 42 (.tmp 13) 2, 0, none⟩, ⟨none, .store 3 (.tmp 92) (.tmp 91), 0, none⟩] := vR rfl
@[push_cast] theorem vr6_15 : VR r6_15 [⟨some 94, .fieldAddr 34 (.tmp 3) 0, 0, none⟩, ⟨some 95, .load 24 (.tmp 94), 24, none⟩, ⟨some 96, .fieldAddr 34 (.tmp 3) 1, 0, none⟩, ⟨some 97, .load 28 (.tmp 96), 28, none⟩, ⟨some 98, .fieldAddr 34 (.tmp 3) 3, 0, none⟩, ⟨some 99, .load 29 (.tmp 98), 29, none⟩, ⟨some 100, .load 42 (.tmp 13), 42, none⟩, ⟨some 101, .fieldAddr 34 (.tmp 3) 5, 0, none⟩, ⟨some 102, .load 32 (.tmp 101), 32, none⟩, ⟨some 103, .call ⟨.value (.func 17), #[.tmp 95, .tmp 97, .tmp 99, .tmp 100, .tmp 102], #[24, 28, 29, 42, 32]⟩, 54, none⟩, ⟨some 93, .move (.tmp 103), 54, none⟩, ⟨some 104, .extract (.tmp 93) 0, 45, none⟩, ⟨some 105, .extract (.tmp 93) 1, 3, none⟩, ⟨some 106, .extract (.tmp 93) 2, 53, none⟩, ⟨some 14, .assign (.tmp 104), 45, none⟩, ⟨some 15, .assign (.tmp 105), 3, none⟩, ⟨some 16, .assign (.tmp 106), 53, none⟩] := vR rfl
@[push_cast] theorem vr6_16 : VR r6_16 [⟨some 107, .call ⟨.value (.func 11), #[], #[]⟩, 4, none⟩, ⟨some 108, .move (.tmp 107), 4, none⟩, ⟨some 109, .move (.tmp 16), 53, some (108, true)⟩, ⟨some 110, .binOp .eql 53 (.tmp 109) (.const (.int .i64 0)) 53, 4, some (108, true)⟩, ⟨some 111, .pick (.tmp 108) (.tmp 110) (.const (.bool false)), 4, none⟩, ⟨some 112, .move (.tmp 111), 4, none⟩, ⟨some 113, .move (.tmp 14), 45, some (112, true)⟩, ⟨some 114, .call ⟨.builtin .len, #[.tmp 113], #[45]⟩, 3, some (112, true)⟩, ⟨some 115, .binOp .gtr 3 (.tmp 114) (.const (.int .i64 0)) 3, 4, some (112, true)⟩, ⟨some 116, .fieldAddr 42 (.tmp 13) 2, 0, some (112, true)⟩, ⟨some 117, .load 3 (.tmp 116), 3, some (112, true)⟩, ⟨some 118, .move (.tmp 10), 3, some (112, true)⟩, ⟨some 119, .binOp .gtr 3 (.tmp 117) (.tmp 118) 3, 4, some (112, true)⟩, ⟨some 120, .binOp .eql 4 (.tmp 115) (.tmp 119) 4, 4, some (112, true)⟩, ⟨some 121, .pick (.tmp 112) (.tmp 120) (.const (.bool false)), 4, none⟩, ⟨some 6, .assign (.tmp 121), 4, none⟩] := vR rfl
@[push_cast] theorem bsl35_1_Codes7L {K : Value → World → Prop} {w : World} (x00 x01 : Value) : vBuildSlice Try.prog 35 1 #[(0, (.agg #[x00, x01]))] K w = K (.slice (some ⟨w.heap.size, 0, none⟩) 1 1) (w.alloc (.cells #[x00, x01] 63)) :=
  vBuildSlice_ok Try.underlying35 ti63 (by kernel_rfl) (by decide)
@[push_cast] theorem bld42_0_1_3_Codes7L {K : Value → World → Prop} {w : World} (x0o : Option Addr) (x0n x0c : Nat) (x1 : Int) (x3 : Int) : vBuild Try.prog 42 #[(0, (.slice x0o x0n x0c)), (1, (.int .i64 x1)), (3, (.int .i64 x3))] K w = K (.agg #[(.slice x0o x0n x0c), (.int .i64 x1), (.int .i64 0), (.int .i64 x3), (.slice none 0 0), (.int .i64 0), (.string ⟨#[]⟩), (.string ⟨#[]⟩), (.slice none 0 0), (.slice none 0 0), (.int .i64 0), (.int .i64 0)]) w :=
  vBuild_ok (by kernel_rfl)
@[push_cast] theorem bld63__Codes7L {K : Value → World → Prop} {w : World}  : vBuild Try.prog 63 #[] K w = K (.agg #[(.int .i64 0), (.string ⟨#[]⟩)]) w :=
  vBuild_ok (by kernel_rfl)
end Go.Proofs.Ytnofalhkapmcnaa
end
section
set_option linter.unusedSimpArgs false
namespace Go.Proofs.Ytnofalhkapmcnaa
open Go.Vc Go.Key Go.Bkt
set_option maxRecDepth 100000
end Go.Proofs.Ytnofalhkapmcnaa
end
section
set_option linter.unusedSimpArgs false
namespace Go.Proofs.Ytnofalhkapmcnaa
open Go.Vc Go.Key Go.Bkt
set_option maxRecDepth 100000
def tA : ByteArray := ⟨#[97]⟩
def tB : ByteArray := ⟨#[98]⟩
theorem iq (n : Int) (h : -1000 ≤ n ∧ n ≤ 1000 := by decide) : I64 n := by unfold I64; omega
theorem elq : ∀ n ∈ ([40, 0] : List Int), I64 n := by
  intro n hn
  simp only [List.mem_cons, List.not_mem_nil, or_false] at hn
  rcases hn with rfl | rfl
  · exact iq 40
  · exact iq 0
/-- The manifest of two tiers, and a projection. -/
structure StoreD (w : World) (m : MD) : Prop where
  ok : m.Ok w
  dl : m.dl = [tA, tB]
  ml : m.ml = []
  tl : ∃ d1 d2, m.p.tl = [⟨0, 1, d1, [tA, tB]⟩, ⟨20, 10, d2, [tA]⟩]
  pl : ∃ d3, m.p.pl = [⟨0, 5, d3, []⟩]
  el : m.el = [40, 0]
  fl : m.fl = [⟨⟨#[115]⟩, 0, -1, 9⟩, ⟨⟨#[116]⟩, 0, 0, 4⟩]
set_option maxHeartbeats 2000000 in
theorem store_c (w : World) : FnC Try.prog 34 #[] w fun v w' => (∃ m : MD, v = .agg (mdC m).toArray ∧ StoreD w' m) ∧ Later w w' := by
  refine enter34 ?_
  unfold B34
  repeat' (first | (simp (disch := omega) only [push_cast, ↓reduceIte, zA, zG, zB, zH, zI, zC, zJ, zK, zL, zD, zE, zF, zM, zN, zO, zP, zQ, reduceCtorEq, not_true_eq_false, not_false_eq_true]) | (first | refine iE ?_ ?_ | refine iD ?_ ?_ | refine iQ ?_ ?_ | refine iV ?_ ?_) <;> intro _ | refine And.intro (by omega) ?_ | fail)
  refine vStore_new rfl rfl (by intro u hu; simp at hu; rcases hu with rfl | rfl <;> rfl) ?_
  have la := later_alloc w (.cells #[.slice none 0 0, .slice none 0 0, .slice none 0 0, .slice none 0 0, .int .i64 0, .int .i64 0, .slice none 0 0, .int .i64 0, .slice none 0 0, .slice none 0 0, .string ⟨#[]⟩, .int .i64 0] 34)
  have Ba := Blk.new w #[.slice none 0 0, .slice none 0 0, .slice none 0 0, .slice none 0 0, .int .i64 0, .int .i64 0, .slice none 0 0, .int .i64 0, .slice none 0 0, .slice none 0 0, .string ⟨#[]⟩, .int .i64 0] 34
  have sa : (w.alloc (.cells #[.slice none 0 0, .slice none 0 0, .slice none 0 0, .slice none 0 0, .int .i64 0, .int .i64 0, .slice none 0 0, .int .i64 0, .slice none 0 0, .slice none 0 0, .string ⟨#[]⟩, .int .i64 0] 34)).heap.size = w.heap.size + 1 := World.size_alloc _ _
  generalize w.alloc (.cells #[.slice none 0 0, .slice none 0 0, .slice none 0 0, .slice none 0 0, .int .i64 0, .int .i64 0, .slice none 0 0, .int .i64 0, .slice none 0 0, .slice none 0 0, .string ⟨#[]⟩, .int .i64 0] 34) = wa at *
  generalize hk0 : w.heap.size = k0 at *
  have lb := later_alloc wa (.cells #[.string ⟨#[97]⟩, .string ⟨#[98]⟩] 9)
  have zlb := lb.size
  have Sb : StS (wa.alloc (.cells #[.string ⟨#[97]⟩, .string ⟨#[98]⟩] 9)) (.slice (some ⟨wa.heap.size, 0, none⟩) 2 2) [tA, tB] := Sl.lit wa [.string ⟨#[97]⟩, .string ⟨#[98]⟩] 9 (by unfold maxLen; simp)
  generalize wa.alloc (.cells #[.string ⟨#[97]⟩, .string ⟨#[98]⟩] 9) = wb at *
  have gkb : k0 < wa.heap.size := by omega
  generalize wa.heap.size = kb at *
  have lc := later_alloc wb (.cells #[.slice (some ⟨kb, 0, none⟩) 2 2, .slice none 0 0] 24)
  have zlc := lc.size
  have Bc := Blk.new wb #[.slice (some ⟨kb, 0, none⟩) 2 2, .slice none 0 0] 24
  generalize wb.alloc (.cells #[.slice (some ⟨kb, 0, none⟩) 2 2, .slice none 0 0] 24) = wc at *
  have gkc : k0 < wb.heap.size := by omega
  generalize wb.heap.size = kc at *
  have ld := later_alloc wc (.cells #[.string ⟨#[97]⟩, .string ⟨#[98]⟩] 9)
  have zld := ld.size
  have Sd : StS (wc.alloc (.cells #[.string ⟨#[97]⟩, .string ⟨#[98]⟩] 9)) (.slice (some ⟨wc.heap.size, 0, none⟩) 2 2) [tA, tB] := Sl.lit wc [.string ⟨#[97]⟩, .string ⟨#[98]⟩] 9 (by unfold maxLen; simp)
  repeat' (first | (simp (disch := omega) only [push_cast, ↓reduceIte, zA, zG, zB, zH, zI, zC, zJ, zK, zL, zD, zE, zF, zM, zN, zO, zP, zQ, reduceCtorEq, not_true_eq_false, not_false_eq_true]) | (first | refine iE ?_ ?_ | refine iD ?_ ?_ | refine iQ ?_ ?_ | refine iV ?_ ?_) <;> intro _ | refine And.intro (by omega) ?_ | fail)
  generalize wc.alloc (.cells #[.string ⟨#[97]⟩, .string ⟨#[98]⟩] 9) = wd at *
  have gkd : k0 < wc.heap.size := by omega
  generalize wc.heap.size = kd at *
  have le := later_alloc wd (.cells #[.string ⟨#[97]⟩] 9)
  have zle := le.size
  have Se : StS (wd.alloc (.cells #[.string ⟨#[97]⟩] 9)) (.slice (some ⟨wd.heap.size, 0, none⟩) 1 1) [tA] := Sl.lit wd [.string ⟨#[97]⟩] 9 (by unfold maxLen; simp)
  generalize wd.alloc (.cells #[.string ⟨#[97]⟩] 9) = we at *
  have gke : k0 < wd.heap.size := by omega
  generalize wd.heap.size = ke at *
  refine vStore_new rfl rfl (by intro u hu; simp at hu; rcases hu with rfl | rfl | rfl <;> rfl) ?_
  have lf := later_alloc we (.cells #[.int .i64 0, .int .i64 1, .slice (some ⟨kd, 0, none⟩) 2 2, .int .i64 20, .int .i64 10, .slice (some ⟨ke, 0, none⟩) 1 1] 60)
  have zlf := lf.size
  have Sf : RecS cdC 3 (we.alloc (.cells #[.int .i64 0, .int .i64 1, .slice (some ⟨kd, 0, none⟩) 2 2, .int .i64 20, .int .i64 10, .slice (some ⟨ke, 0, none⟩) 1 1] 60)) (.slice (some ⟨we.heap.size, 0, none⟩) 2 2) [⟨0, 1, .slice (some ⟨kd, 0, none⟩) 2 2, [tA, tB]⟩, ⟨20, 10, .slice (some ⟨ke, 0, none⟩) 1 1, [tA]⟩] :=
    SlN.lit we [.int .i64 0, .int .i64 1, .slice (some ⟨kd, 0, none⟩) 2 2, .int .i64 20, .int .i64 10, .slice (some ⟨ke, 0, none⟩) 1 1] _ 3 2 rfl (by unfold maxLen; omega)
  generalize we.alloc (.cells #[.int .i64 0, .int .i64 1, .slice (some ⟨kd, 0, none⟩) 2 2, .int .i64 20, .int .i64 10, .slice (some ⟨ke, 0, none⟩) 1 1] 60) = wf at *
  have gkf : k0 < we.heap.size := by omega
  generalize we.heap.size = kf at *
  have lg := later_alloc wf (.cells #[.int .i64 0, .int .i64 5, .slice none 0 0] 51)
  have zlg := lg.size
  have Sg : RecS cdC 3 (wf.alloc (.cells #[.int .i64 0, .int .i64 5, .slice none 0 0] 51)) (.slice (some ⟨wf.heap.size, 0, none⟩) 1 1) [⟨0, 5, .slice none 0 0, []⟩] :=
    SlN.lit wf [.int .i64 0, .int .i64 5, .slice none 0 0] _ 3 1 rfl (by unfold maxLen; omega)
  generalize wf.alloc (.cells #[.int .i64 0, .int .i64 5, .slice none 0 0] 51) = wg at *
  have gkg : k0 < wf.heap.size := by omega
  generalize wf.heap.size = kg at *
  have lh := later_alloc wg (.cells #[.slice (some ⟨kf, 0, none⟩) 2 2, .slice (some ⟨kg, 0, none⟩) 1 1, .int .i64 100] 28)
  have zlh := lh.size
  have Bh := Blk.new wg #[.slice (some ⟨kf, 0, none⟩) 2 2, .slice (some ⟨kg, 0, none⟩) 1 1, .int .i64 100] 28
  generalize wg.alloc (.cells #[.slice (some ⟨kf, 0, none⟩) 2 2, .slice (some ⟨kg, 0, none⟩) 1 1, .int .i64 100] 28) = wh at *
  have gkh : k0 < wg.heap.size := by omega
  generalize wg.heap.size = kh at *
  have lch := ld.trans (le.trans (lf.trans (lg.trans lh)))
  have fc : cellsAt wh ⟨kc, 0, none⟩ 2 = some [.slice (some ⟨kb, 0, none⟩) 2 2, .slice none 0 0] := Blk.cellsAt (l := [.slice (some ⟨kb, 0, none⟩) 2 2, .slice none 0 0]) (Bc.chg (Chg.of_later (ks := []) lch) (by simp))
  have fh : cellsAt wh ⟨kh, 0, none⟩ 3 = some [.slice (some ⟨kf, 0, none⟩) 2 2, .slice (some ⟨kg, 0, none⟩) 1 1, .int .i64 100] := Blk.cellsAt (l := [.slice (some ⟨kf, 0, none⟩) 2 2, .slice (some ⟨kg, 0, none⟩) 1 1, .int .i64 100]) Bh
  repeat' (first | (simp (disch := omega) only [push_cast, ↓reduceIte, zA, zG, zB, zH, zI, zC, zJ, zK, zL, zD, zE, zF, zM, zN, zO, zP, zQ, reduceCtorEq, not_true_eq_false, not_false_eq_true, fc, fh]) | (first | refine iE ?_ ?_ | refine iD ?_ ?_ | refine iQ ?_ ?_ | refine iV ?_ ?_) <;> intro _ | refine And.intro (by omega) ?_ | fail)
  have li := later_alloc wh (.cells #[.int .i64 40, .int .i64 0] 3)
  have zli := li.size
  have Si : Sl (wh.alloc (.cells #[.int .i64 40, .int .i64 0] 3)) (.slice (some ⟨wh.heap.size, 0, none⟩) 2 2) (([40, 0] : List Int).map (Value.int .i64)) := Sl.lit wh [.int .i64 40, .int .i64 0] 3 (by unfold maxLen; simp)
  generalize wh.alloc (.cells #[.int .i64 40, .int .i64 0] 3) = wi at *
  have gki : k0 < wh.heap.size := by omega
  generalize wh.heap.size = ki at *
  have lj := later_alloc wi (.cells #[.string ⟨#[115]⟩, .int .i64 0, .int .i64 (-1), .int .i64 9, .string ⟨#[116]⟩, .int .i64 0, .int .i64 0, .int .i64 4] 57)
  have zlj := lj.size
  have Sj : RecS sdC 4 (wi.alloc (.cells #[.string ⟨#[115]⟩, .int .i64 0, .int .i64 (-1), .int .i64 9, .string ⟨#[116]⟩, .int .i64 0, .int .i64 0, .int .i64 4] 57)) (.slice (some ⟨wi.heap.size, 0, none⟩) 2 2) [⟨⟨#[115]⟩, 0, -1, 9⟩, ⟨⟨#[116]⟩, 0, 0, 4⟩] :=
    SlN.lit wi [.string ⟨#[115]⟩, .int .i64 0, .int .i64 (-1), .int .i64 9, .string ⟨#[116]⟩, .int .i64 0, .int .i64 0, .int .i64 4] _ 4 2 rfl (by unfold maxLen; omega)
  generalize wi.alloc (.cells #[.string ⟨#[115]⟩, .int .i64 0, .int .i64 (-1), .int .i64 9, .string ⟨#[116]⟩, .int .i64 0, .int .i64 0, .int .i64 4] 57) = wj at *
  have gkj : k0 < wi.heap.size := by omega
  generalize wi.heap.size = kj at *
  have laj := lb.trans (lc.trans (lch.trans (li.trans lj)))
  have Bj := Ba.chg (Chg.of_later (ks := []) laj) (by simp)
  obtain ⟨m, hm⟩ : ∃ m : MD, m = ⟨.slice (some ⟨kb, 0, none⟩) 2 2, [tA, tB], .slice none 0 0, [], ⟨.slice (some ⟨kf, 0, none⟩) 2 2, [⟨0, 1, .slice (some ⟨kd, 0, none⟩) 2 2, [tA, tB]⟩, ⟨20, 10, .slice (some ⟨ke, 0, none⟩) 1 1, [tA]⟩], .slice (some ⟨kg, 0, none⟩) 1 1, [⟨0, 5, .slice none 0 0, []⟩], 100⟩, 60, .slice (some ⟨ki, 0, none⟩) 2 2, [40, 0], 0, .slice none 0 0, [], .slice (some ⟨kj, 0, none⟩) 2 2, [⟨⟨#[115]⟩, 0, -1, 9⟩, ⟨⟨#[116]⟩, 0, 0, 4⟩], ⟨#[106]⟩, 0⟩ := ⟨_, rfl⟩
  have hmc : mdC m = [.slice (some ⟨kb, 0, none⟩) 2 2, .slice none 0 0, .slice (some ⟨kf, 0, none⟩) 2 2, .slice (some ⟨kg, 0, none⟩) 1 1, .int .i64 100, .int .i64 60, .slice (some ⟨ki, 0, none⟩) 2 2, .int .i64 0, .slice none 0 0, .slice (some ⟨kj, 0, none⟩) 2 2, .string ⟨#[106]⟩, .int .i64 0] := by rw [hm]; rfl
  repeat' (first | (simp (disch := omega) only [push_cast, ↓reduceIte, zA, zG, zB, zH, zI, zC, zJ, zK, zL, zD, zE, zF, zM, zN, zO, zP, zQ, reduceCtorEq, not_true_eq_false, not_false_eq_true]) | (first | refine iE ?_ ?_ | refine iD ?_ ?_ | refine iQ ?_ ?_ | refine iV ?_ ?_) <;> intro _ | refine And.intro (by omega) ?_ | fail)
  refine vStore_blk (l := [.slice none 0 0, .slice none 0 0, .slice none 0 0, .slice none 0 0, .int .i64 0, .int .i64 0, .slice none 0 0, .int .i64 0, .slice none 0 0, .slice none 0 0, .string ⟨#[]⟩, .int .i64 0]) (xs := [.slice (some ⟨kb, 0, none⟩) 2 2, .slice none 0 0, .slice (some ⟨kf, 0, none⟩) 2 2, .slice (some ⟨kg, 0, none⟩) 1 1, .int .i64 100, .int .i64 60, .slice (some ⟨ki, 0, none⟩) 2 2, .int .i64 0, .slice none 0 0, .slice (some ⟨kj, 0, none⟩) 2 2, .string ⟨#[106]⟩, .int .i64 0]) Bj rfl rfl (by intro u hu; simp at hu; rcases hu with rfl | rfl | rfl | rfl | rfl | rfl | rfl | rfl | rfl | rfl | rfl | rfl <;> rfl) ?_
  intro wk Bk ck
  rw [← hmc] at Bk
  have lk : Later w wk := Chg.later (la.trans laj) ck (by intro j hj; rw [List.mem_singleton.1 hj, hk0]; omega)
  repeat' (first | (simp (disch := omega) only [push_cast, ↓reduceIte, zA, zG, zB, zH, zI, zC, zJ, zK, zL, zD, zE, zF, zM, zN, zO, zP, zQ, reduceCtorEq, not_true_eq_false, not_false_eq_true]) | (first | refine iE ?_ ?_ | refine iD ?_ ?_ | refine iQ ?_ ?_ | refine iV ?_ ?_) <;> intro _ | refine And.intro (by omega) ?_ | fail)
  refine resK_cells (s := 12) (by simp (disch := omega) only [push_cast, ↓reduceIte, zA, zG, zB, zH, zI, zC, zJ, zK, zL, zD, zE, zF, zM, zN, zO, zP, zQ, reduceCtorEq, not_true_eq_false, not_false_eq_true]) (by rw [Try.underlying34]; exact sz34) (Blk.cellsAt (l := mdC m) Bk) ?_
  -- what was made before the last store stays
  have cs : ∀ {n : Nat} {v : Value} {xs : List Value} {s : Nat} {k : Nat}, SlN wj s v n xs → inB k v → k ≠ k0 → SlN wk s v n xs := fun h hi hn => SlN.chg h ck (by simpa using hn) hi
  have nb : kb ≠ k0 := by omega
  have nd : kd ≠ k0 := by omega
  have ne' : ke ≠ k0 := by omega
  have nf : kf ≠ k0 := by omega
  have ng : kg ≠ k0 := by omega
  have ni : ki ≠ k0 := by omega
  have nj : kj ≠ k0 := by omega
  have hB : StS wk (.slice (some ⟨kb, 0, none⟩) 2 2) [tA, tB] := cs (Sl.later Sb (lc.trans (lch.trans (li.trans lj)))) (by simp [inB]) nb
  have hD : StS wk (.slice (some ⟨kd, 0, none⟩) 2 2) [tA, tB] := cs (Sl.later Sd (le.trans (lf.trans (lg.trans (lh.trans (li.trans lj)))))) (by simp [inB]) nd
  have hE : StS wk (.slice (some ⟨ke, 0, none⟩) 1 1) [tA] := cs (Sl.later Se (lf.trans (lg.trans (lh.trans (li.trans lj))))) (by simp [inB]) ne'
  have hF : RecS cdC 3 wk (.slice (some ⟨kf, 0, none⟩) 2 2) [⟨0, 1, .slice (some ⟨kd, 0, none⟩) 2 2, [tA, tB]⟩, ⟨20, 10, .slice (some ⟨ke, 0, none⟩) 1 1, [tA]⟩] := cs (RecS.later Sf (lg.trans (lh.trans (li.trans lj)))) (by simp [inB]) nf
  have hG : RecS cdC 3 wk (.slice (some ⟨kg, 0, none⟩) 1 1) [⟨0, 5, .slice none 0 0, []⟩] := cs (RecS.later Sg (lh.trans (li.trans lj))) (by simp [inB]) ng
  have hI : Sl wk (.slice (some ⟨ki, 0, none⟩) 2 2) (([40, 0] : List Int).map (Value.int .i64)) := cs (Sl.later Si lj) (by simp [inB]) ni
  have hJ : RecS sdC 4 wk (.slice (some ⟨kj, 0, none⟩) 2 2) [⟨⟨#[115]⟩, 0, -1, 9⟩, ⟨⟨#[116]⟩, 0, 0, 4⟩] := cs Sj (by simp [inB]) nj
  have small : ∀ s ∈ [tA, tB], s.size ≤ Bz := by intro s hs; simp only [List.mem_cons, List.not_mem_nil, or_false] at hs; rcases hs with rfl | rfl <;> decide
  repeat' (first | (simp (disch := omega) only [push_cast, ↓reduceIte, zA, zG, zB, zH, zI, zC, zJ, zK, zL, zD, zE, zF, zM, zN, zO, zP, zQ, reduceCtorEq, not_true_eq_false, not_false_eq_true]) | (first | refine iE ?_ ?_ | refine iD ?_ ?_ | refine iQ ?_ ?_ | refine iV ?_ ?_) <;> intro _ | refine And.intro (by omega) ?_ | refine drawn_q ?_ | fail)
  refine ⟨⟨m, rfl, ?_⟩, lk⟩
  subst hm
  refine ⟨⟨hB, small, Sl.nil wk, by simp, ⟨hF, ?_, hG, ?_, iq 100⟩, iq 60, hI, elq, iq 0, Sl.nil wk, by simp, hJ, ?_, (show (⟨#[106]⟩ : ByteArray).size ≤ Bz by decide), iq 0⟩, rfl, rfl, ⟨_, _, rfl⟩, ⟨_, rfl⟩, rfl, rfl⟩
  · intro c hc
    simp only [List.mem_cons, List.not_mem_nil, or_false] at hc
    rcases hc with rfl | rfl
    · exact ⟨iq 0, iq 1, hD, small⟩
    · exact ⟨iq 20, iq 10, hE, fun s hs => small s (by rw [List.mem_singleton.1 hs]; simp)⟩
  · intro c hc
    rw [List.mem_singleton.1 hc]
    exact ⟨iq 0, iq 5, Sl.nil wk, by simp⟩
  · intro f hf
    simp only [List.mem_cons, List.not_mem_nil, or_false] at hf
    rcases hf with rfl | rfl
    · exact ⟨(show (⟨#[115]⟩ : ByteArray).size ≤ Bz by decide), iq 0, iq (-1), iq 9⟩
    · exact ⟨(show (⟨#[116]⟩ : ByteArray).size ≤ Bz by decide), iq 0, iq 0, iq 4⟩
end Go.Proofs.Ytnofalhkapmcnaa
end
