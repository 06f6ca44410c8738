/- Filters: how many parts, how deep: plain, and the contracts. -/
import Derived.Test.YtnofalhkapmcnaaGreatPartF
set_option linter.all false
open Nat renaming reduceEqDiff → zA, reducePow → zB, reduceMul → zC, reduceAdd → zD, reduceSub → zE, reduceLeDiff → zF
open Int renaming reduceToNat → zG, reducePow → zH, reduceNeg → zI, reduceMul → zJ, reduceAdd → zK, reduceSub → zL, reduceLT → zM, reduceLE → zN, reduceEq → zO, reduceMod → zP, reduceDiv → zQ
section
set_option linter.unusedSimpArgs false
namespace Go.Vc
mutual
def FT.cnt : FT → Nat
  | .mk _ _ _ _ l => FT.cntL l + 1
def FT.cntL : List FT → Nat
  | [] => 0
  | k :: l => k.cnt + FT.cntL l
end

mutual
def FT.prt : FT → Int → Int
  | .mk _ d v _ l, left => FT.prtL l (1 + ((d.size : Int) + (v.size : Int)) / 100) left
def FT.prtL : List FT → Int → Int → Int
  | [], n, _ => n
  | k :: l, n, left => if n < left then FT.prtL l (n + k.prt (left - n)) left else n
end
def FT.len0 (f : FT) : Int := 1 + ((f.dim.size : Int) + (f.value.size : Int)) / 100
theorem FT.prt_is (f : FT) (left : Int) : f.prt left = FT.prtL f.kids f.len0 left := by cases f; rfl
theorem FT.cnt_is (f : FT) : f.cnt = FT.cntL f.kids + 1 := by cases f; rfl
theorem FT.prtL_stop {l : List FT} {n left : Int} (h : ¬ n < left) : FT.prtL l n left = n := by
  cases l with
  | nil => rfl
  | cons k l => show (if n < left then _ else n) = n; rw [if_neg h]
theorem FT.prtL_go {k : FT} {l : List FT} {n left : Int} (h : n < left) : FT.prtL (k :: l) n left = FT.prtL l (n + k.prt (left - n)) left := by
  show (if n < left then _ else n) = _; rw [if_pos h]
theorem FT.prt_rng {w : World} : ∀ f : FT, f.Ok w → ∀ left : Int, 0 ≤ left → 1 ≤ f.prt left ∧ f.prt left ≤ left + 3000000000000 := by
  intro f
  induction f using FT.ind with
  | h f ih =>
    intro hf left hl
    obtain ⟨_, h2, h3, _, h5⟩ := FT.ok_iff.1 hf
    rw [FT.prt_is]
    have aux : ∀ (l : List FT), (∀ k ∈ l, k.Ok w ∧ ∀ left : Int, 0 ≤ left → 1 ≤ k.prt left ∧ k.prt left ≤ left + 3000000000000) → ∀ n : Int, 1 ≤ n → n ≤ left + 3000000000000 → 1 ≤ FT.prtL l n left ∧ FT.prtL l n left ≤ left + 3000000000000 := by
      intro l
      induction l with
      | nil => intro _ n h1 h2; exact ⟨h1, h2⟩
      | cons k l ihl =>
        intro hk n h1 h2
        by_cases hn : n < left
        · rw [FT.prtL_go hn]
          have := (hk k (by simp)).2 (left - n) (by omega)
          exact ihl (fun x hx => hk x (by simp [hx])) _ (by omega) (by omega)
        · rw [FT.prtL_stop hn]; exact ⟨h1, h2⟩
    have : 1 ≤ f.len0 ∧ f.len0 ≤ 3000000000000 := by unfold FT.len0; omega
    exact aux f.kids (fun k hk => ⟨h5 k hk, ih k hk (h5 k hk)⟩) f.len0 (by omega) (by omega)
theorem FT.cnt_prt : ∀ f : FT, ∀ left : Int, f.prt left < left → (f.cnt : Int) ≤ f.prt left := by
  intro f
  induction f using FT.ind with
  | h f ih =>
    intro left hl
    rw [FT.prt_is] at hl ⊢
    rw [FT.cnt_is]
    have aux : ∀ (l : List FT), (∀ k ∈ l, ∀ left : Int, k.prt left < left → (k.cnt : Int) ≤ k.prt left) → ∀ n : Int, FT.prtL l n left < left → n + (FT.cntL l : Int) ≤ FT.prtL l n left := by
      intro l
      induction l with
      | nil => intro _ n _; show n + 0 ≤ n; omega
      | cons k l ihl =>
        intro hk n h2
        have e : FT.cntL (k :: l) = k.cnt + FT.cntL l := rfl
        by_cases hn : n < left
        · rw [FT.prtL_go hn] at h2 ⊢
          have h3 := ihl (fun x hx => hk x (by simp [hx])) _ h2
          have h4 := hk k (by simp) (left - n) (by omega)
          omega
        · rw [FT.prtL_stop hn] at h2; exact absurd h2 hn
    have h3 := aux f.kids ih f.len0 hl
    have : 1 ≤ f.len0 := by unfold FT.len0; omega
    omega
theorem FT.cntL_mem {k : FT} : ∀ {l : List FT}, k ∈ l → k.cnt ≤ FT.cntL l
  | x :: l, h => by
    have e : FT.cntL (x :: l) = x.cnt + FT.cntL l := rfl
    rcases List.mem_cons.1 h with rfl | h
    · omega
    · have := FT.cntL_mem h; omega
theorem FT.cntL_len : ∀ l : List FT, l.length ≤ FT.cntL l
  | [] => Nat.le_refl _
  | k :: l => by
    have e : FT.cntL (k :: l) = k.cnt + FT.cntL l := rfl
    have := FT.cntL_len l
    have := FT.cnt_is k
    simp only [List.length_cons]; omega
theorem FT.deep_cnt : ∀ f : FT, f.deep ≤ f.cnt := by
  intro f
  induction f using FT.ind with
  | h f ih =>
    obtain ⟨op, d, v, kv, l⟩ := f
    show FT.deepL l + 1 ≤ FT.cntL l + 1
    replace ih : ∀ k ∈ l, k.deep ≤ k.cnt := ih
    induction l with
    | nil => exact Nat.le_refl _
    | cons k l ihl =>
      have h1 := ih k (by simp)
      have h2 := ihl (fun x hx => ih x (by simp [hx]))
      show max k.deep (FT.deepL l) + 1 ≤ k.cnt + FT.cntL l + 1
      omega
theorem FT.dims_cnt : ∀ f : FT, f.dims.length ≤ f.cnt := by
  intro f
  induction f using FT.ind with
  | h f ih =>
    obtain ⟨op, d, v, kv, l⟩ := f
    show (_ ++ FT.dimsL l).length ≤ FT.cntL l + 1
    replace ih : ∀ k ∈ l, k.dims.length ≤ k.cnt := ih
    have h0 : (FT.dimsL l).length ≤ FT.cntL l := by
      induction l with
      | nil => exact Nat.le_refl _
      | cons k l ihl =>
        have h1 := ih k (by simp)
        have h2 := ihl (fun x hx => ih x (by simp [hx]))
        show (k.dims ++ FT.dimsL l).length ≤ k.cnt + FT.cntL l
        rw [List.length_append]; omega
    rw [List.length_append]
    split <;> simp <;> omega
end Go.Vc
namespace Go.Proofs.YtnofalhkapmcnaaGreat
open Go.Vc
set_option maxRecDepth 100000
theorem ftBox (w : World) (f : FT) : Later w (w.alloc (.cells (ftC f).toArray 29)) ∧ (w.alloc (.cells (ftC f).toArray 29)).heap.size = w.heap.size + 1 ∧ Blk (w.alloc (.cells (ftC f).toArray 29)) w.heap.size (ftC f).toArray 29 := ⟨later_alloc _ _, World.size_alloc _ _, Blk.new _ _ _⟩
theorem ftAt {w : World} {k : Nat} {f : FT} (h : Blk w k (ftC f).toArray 29) : w.cell? ⟨k, 0, none⟩ = some (.int .i64 f.op) ∧ w.cell? ⟨k, 1, none⟩ = some (.string f.dim) ∧ w.cell? ⟨k, 2, none⟩ = some (.string f.value) ∧ w.cell? ⟨k, 3, none⟩ = some f.kv :=
  ⟨h.cell 0, h.cell 1, h.cell 2, h.cell 3⟩
theorem ftLater {w w' : World} {k : Nat} {f : FT} (h : Blk w k (ftC f).toArray 29) (hl : Later w w') : Blk w' k (ftC f).toArray 29 := h.chg (Chg.of_later (ks := []) hl) (by simp)
theorem parts_c : ∀ (f : FT) (left : Int) (w : World), 0 ≤ left → left ≤ 300 → f.Ok w → FnC Tryz.prog 39 #[.agg (ftC f).toArray, .int .i64 left] w fun v w' => v = .int .i64 (f.prt left) ∧ Later w w' := by
  intro f
  induction f using FT.ind with
  | h f ih =>
  intro left w hl0 hl1 hf
  obtain ⟨h1, h2, h3, h4, h5⟩ := FT.ok_iff.1 hf
  obtain ⟨o, c, hkv, hc1, hc2⟩ := RecS.slice h4
  refine enter39 _ _ ?_
  unfold B39
  have eca : (Value.agg (ftC f).toArray).cells = (ftC f).toArray := rfl
  obtain ⟨l1, s1, B1⟩ := ftBox w f
  repeat' (first | (simp (disch := omega) only [push_cast, ↓reduceIte, zA, zG, zB, zH, zI, zC, zJ, zK, zL, zD, zE, zF, zM, zN, zO, zP, zQ, reduceCtorEq, not_true_eq_false, not_false_eq_true, eca]) | (first | refine iE ?_ ?_ | refine iD ?_ ?_ | refine iQ ?_ ?_ | refine iV ?_ ?_) <;> intro _ | refine And.intro (by omega) ?_ | refine drawn_q ?_ | fail)
  generalize w.alloc (.cells (ftC f).toArray 29) = w1 at *
  generalize w.heap.size = kf at *
  obtain ⟨a0, a1, a2, a3⟩ := ftAt B1
  repeat' (first | (simp (disch := omega) only [push_cast, ↓reduceIte, zA, zG, zB, zH, zI, zC, zJ, zK, zL, zD, zE, zF, zM, zN, zO, zP, zQ, reduceCtorEq, not_true_eq_false, not_false_eq_true, a0, a1, a2, a3, addr_add_eq, Nat.zero_add]) | (first | refine iE ?_ ?_ | refine iD ?_ ?_ | refine iQ ?_ ?_ | refine iV ?_ ?_) <;> intro _ | refine And.intro (by omega) ?_ | refine drawn_q ?_ | fail)
  have hrng := FT.prt_rng f hf left hl0
  have hl00 : 1 ≤ f.len0 ∧ f.len0 ≤ 3000000000000 := by unfold FT.len0; omega
  refine vc_loop W39_0 (fun p : Nat × Int => [(5, .int .i64 p.2), (6, .int .i64 (p.1 : Int))]) (fun p w' => p.1 ≤ f.kids.length ∧ Later w1 w' ∧ 1 ≤ p.2 ∧ p.2 ≤ left + 3000000000000 ∧ FT.prtL (f.kids.drop p.1) p.2 left = f.prt left) (fun p => f.kids.length - p.1) (0, f.len0) (by decide) ?_ ?_ ?_
  · simp (disch := omega) only [push_cast, ↓reduceIte, zA, zG, zB, zH, zI, zC, zJ, zK, zL, zD, zE, zF, zM, zN, zO, zP, zQ, reduceCtorEq, not_true_eq_false, not_false_eq_true]
    try rfl
  · exact ⟨Nat.zero_le _, Later.refl _, hl00.1, by dsimp only; omega, by rw [FT.prt_is]; rfl⟩
  rintro ⟨i, n⟩ uu w2 ⟨hi, l2, hn1, hn2, he⟩
  dsimp only at hi hn1 hn2 he ⊢
  obtain ⟨b0, b1, b2, b3⟩ := ftAt (ftLater B1 l2)
  rw [hkv] at b3
  by_cases hik : i < f.kids.length
  case neg =>
    have hd : decide ((i : Int) < (f.kids.length : Int)) = false := decide_eq_false (by omega)
    rw [List.drop_of_length_le (by omega)] at he
    have he : n = f.prt left := he
    repeat' (first | (simp (disch := omega) only [push_cast, ↓reduceIte, zA, zG, zB, zH, zI, zC, zJ, zK, zL, zD, zE, zF, zM, zN, zO, zP, zQ, reduceCtorEq, not_true_eq_false, not_false_eq_true, b3, hd, addr_add_eq, Nat.zero_add]) | (first | refine iE ?_ ?_ | refine iD ?_ ?_ | refine iQ ?_ ?_ | refine iV ?_ ?_) <;> intro _ | refine And.intro (by omega) ?_ | refine drawn_q ?_ | fail)
    first | exact ⟨(by rw [he]), (l1.trans l2)⟩ | exact (l1.trans l2)
  have hd : decide ((i : Int) < (f.kids.length : Int)) = true := decide_eq_true (by omega)
  rw [List.drop_eq_getElem_cons hik] at he
  by_cases hnl : n < left
  case neg =>
    have hd2 := decide_eq_false hnl
    rw [FT.prtL_stop hnl] at he
    repeat' (first | (simp (disch := omega) only [push_cast, ↓reduceIte, zA, zG, zB, zH, zI, zC, zJ, zK, zL, zD, zE, zF, zM, zN, zO, zP, zQ, reduceCtorEq, not_true_eq_false, not_false_eq_true, b3, hd, hd2, addr_add_eq, Nat.zero_add]) | (first | refine iE ?_ ?_ | refine iD ?_ ?_ | refine iQ ?_ ?_ | refine iV ?_ ?_) <;> intro _ | refine And.intro (by omega) ?_ | refine drawn_q ?_ | fail)
    first | exact ⟨(by rw [he]), (l1.trans l2)⟩ | exact (l1.trans l2)
  have hd2 := decide_eq_true hnl
  rw [FT.prtL_go hnl] at he
  rw [hkv] at h4
  obtain ⟨a, rfl, fa⟩ := RecS.at ftC_len (h4.later (l1.trans l2)) hik
  have hk := h5 _ (List.getElem_mem hik)
  have hpr := FT.prt_rng _ hk (left - n) (by omega)
  repeat' (first | (simp (disch := omega) only [push_cast, ↓reduceIte, zA, zG, zB, zH, zI, zC, zJ, zK, zL, zD, zE, zF, zM, zN, zO, zP, zQ, reduceCtorEq, not_true_eq_false, not_false_eq_true, b3, hd, hd2, fa, addr_add_eq, Nat.zero_add]) | (first | refine iE ?_ ?_ | refine iD ?_ ?_ | refine iQ ?_ ?_ | refine iV ?_ ?_) <;> intro _ | refine And.intro (by omega) ?_ | refine drawn_q ?_ | fail)
  refine (ih _ (List.getElem_mem hik) (left - n) w2 (by omega) (by omega) (hk.later (l1.trans l2))).mono ?_
  rintro _ w3 ⟨rfl, l3⟩
  repeat' (first | (simp (disch := omega) only [push_cast, ↓reduceIte, zA, zG, zB, zH, zI, zC, zJ, zK, zL, zD, zE, zF, zM, zN, zO, zP, zQ, reduceCtorEq, not_true_eq_false, not_false_eq_true]) | (first | refine iE ?_ ?_ | refine iD ?_ ?_ | refine iQ ?_ ?_ | refine iV ?_ ?_) <;> intro _ | refine And.intro (by omega) ?_ | refine drawn_q ?_ | fail)
  exact ⟨rfl, (i + 1, n + (f.kids[i]).prt (left - n)), by simp (disch := omega) only [push_cast, ↓reduceIte, zA, zG, zB, zH, zI, zC, zJ, zK, zL, zD, zE, zF, zM, zN, zO, zP, zQ, reduceCtorEq, not_true_eq_false, not_false_eq_true], ⟨by dsimp only; omega, l2.trans l3, by dsimp only; omega, by dsimp only; omega, he⟩, by dsimp only; omega⟩
theorem depth_c : ∀ (f : FT) (w : World), f.cnt ≤ 1000000 → f.Ok w → FnC Tryz.prog 41 #[.agg (ftC f).toArray] w fun v w' => v = .int .i64 (f.deep : Int) ∧ Later w w' := by
  intro f
  induction f using FT.ind with
  | h f ih =>
  intro w hcn hf
  obtain ⟨h1, h2, h3, h4, h5⟩ := FT.ok_iff.1 hf
  obtain ⟨o, c, hkv, hc1, hc2⟩ := RecS.slice h4
  refine enter41 _ ?_
  unfold B41
  have eca : (Value.agg (ftC f).toArray).cells = (ftC f).toArray := rfl
  obtain ⟨l1, s1, B1⟩ := ftBox w f
  repeat' (first | (simp (disch := omega) only [push_cast, ↓reduceIte, zA, zG, zB, zH, zI, zC, zJ, zK, zL, zD, zE, zF, zM, zN, zO, zP, zQ, reduceCtorEq, not_true_eq_false, not_false_eq_true, eca]) | (first | refine iE ?_ ?_ | refine iD ?_ ?_ | refine iQ ?_ ?_ | refine iV ?_ ?_) <;> intro _ | refine And.intro (by omega) ?_ | refine drawn_q ?_ | fail)
  generalize w.alloc (.cells (ftC f).toArray 29) = w1 at *
  generalize w.heap.size = kf at *
  have hcl := FT.cntL_len f.kids
  have hci := FT.cnt_is f
  have hmx : ∀ i, i ≤ f.kids.length → (f.kids.take i).foldl (fun n k => max n k.deep) 0 ≤ 1000000 := by
    intro i _
    have : ∀ (l : List FT) (n : Nat), n ≤ 1000000 → (∀ k ∈ l, k.deep ≤ 1000000) → l.foldl (fun n k => max n k.deep) n ≤ 1000000 := by
      intro l
      induction l with
      | nil => intro n h _; exact h
      | cons k l ihl =>
        intro n h hk
        have := hk k (by simp)
        exact ihl _ (by show max n k.deep ≤ _; omega) (fun x hx => hk x (by simp [hx]))
    refine this _ _ (by omega) fun k hk => ?_
    have := FT.deep_cnt k
    have := FT.cntL_mem (List.mem_of_mem_take hk)
    omega
  refine vc_loop W41_0 (fun i : Nat => [(3, .int .i64 (((f.kids.take i).foldl (fun n k => max n k.deep) 0 : Nat) : Int)), (4, .int .i64 (i : Int))]) (fun i w' => i ≤ f.kids.length ∧ Later w1 w') (fun i => f.kids.length - i) 0 (by decide) ?_ ?_ ?_
  · simp (disch := omega) only [push_cast, ↓reduceIte, zA, zG, zB, zH, zI, zC, zJ, zK, zL, zD, zE, zF, zM, zN, zO, zP, zQ, reduceCtorEq, not_true_eq_false, not_false_eq_true]
    try rfl
  · exact ⟨Nat.zero_le _, Later.refl _⟩
  rintro i uu w2 ⟨hi, l2⟩
  obtain ⟨b0, b1, b2, b3⟩ := ftAt (ftLater B1 l2)
  rw [hkv] at b3
  by_cases hik : i < f.kids.length
  case neg =>
    have hd : decide ((i : Int) < (f.kids.length : Int)) = false := decide_eq_false (by omega)
    have hm := hmx i hi
    have hdp := FT.deep_is f
    rw [List.take_of_length_le (by omega)] at hm ⊢
    have hdp' : ((f.kids.foldl (fun n k => max n k.deep) 0 : Nat) : Int) + 1 = (f.deep : Int) := by omega
    repeat' (first | (simp (disch := omega) only [push_cast, ↓reduceIte, zA, zG, zB, zH, zI, zC, zJ, zK, zL, zD, zE, zF, zM, zN, zO, zP, zQ, reduceCtorEq, not_true_eq_false, not_false_eq_true, b3, hd, addr_add_eq, Nat.zero_add]) | (first | refine iE ?_ ?_ | refine iD ?_ ?_ | refine iQ ?_ ?_ | refine iV ?_ ?_) <;> intro _ | refine And.intro (by omega) ?_ | refine drawn_q ?_ | fail)
    first | exact ⟨(by rw [hdp']), (l1.trans l2)⟩ | exact (l1.trans l2)
  have hd : decide ((i : Int) < (f.kids.length : Int)) = true := decide_eq_true (by omega)
  rw [hkv] at h4
  obtain ⟨a, rfl, fa⟩ := RecS.at ftC_len (h4.later (l1.trans l2)) hik
  have hk := h5 _ (List.getElem_mem hik)
  have hkc := FT.cntL_mem (List.getElem_mem hik)
  have hkd := FT.deep_cnt (f.kids[i])
  have hm := hmx i hi
  have hst : (f.kids.take (i + 1)).foldl (fun n k => max n k.deep) 0 = max ((f.kids.take i).foldl (fun n k => max n k.deep) 0) (f.kids[i]).deep := by
    rw [List.take_succ_eq_append_getElem hik, List.foldl_append]; rfl
  repeat' (first | (simp (disch := omega) only [push_cast, ↓reduceIte, zA, zG, zB, zH, zI, zC, zJ, zK, zL, zD, zE, zF, zM, zN, zO, zP, zQ, reduceCtorEq, not_true_eq_false, not_false_eq_true, b3, hd, fa, addr_add_eq, Nat.zero_add]) | (first | refine iE ?_ ?_ | refine iD ?_ ?_ | refine iQ ?_ ?_ | refine iV ?_ ?_) <;> intro _ | refine And.intro (by omega) ?_ | refine drawn_q ?_ | fail)
  refine (ih _ (List.getElem_mem hik) w2 (by omega) (hk.later (l1.trans l2))).mono ?_
  rintro _ w3 ⟨rfl, l3⟩
  repeat' (first | (simp (disch := omega) only [push_cast, ↓reduceIte, zA, zG, zB, zH, zI, zC, zJ, zK, zL, zD, zE, zF, zM, zN, zO, zP, zQ, reduceCtorEq, not_true_eq_false, not_false_eq_true]) | (first | refine iE ?_ ?_ | refine iD ?_ ?_ | refine iQ ?_ ?_ | refine iV ?_ ?_) <;> intro _ | refine And.intro (by omega) ?_ | refine drawn_q ?_ | fail)
  have hst' : ((List.foldl (fun n k => max n k.deep) 0 (List.take (i + 1) f.kids) : Nat) : Int) = max ((List.foldl (fun n k => max n k.deep) 0 (List.take i f.kids) : Nat) : Int) ((f.kids[i]).deep : Int) := by rw [hst]; omega
  exact ⟨rfl, i + 1, by simp (disch := omega) only [push_cast, ↓reduceIte, zA, zG, zB, zH, zI, zC, zJ, zK, zL, zD, zE, zF, zM, zN, zO, zP, zQ, reduceCtorEq, not_true_eq_false, not_false_eq_true, hst'], ⟨by omega, l2.trans l3⟩, by dsimp only; omega⟩
end Go.Proofs.YtnofalhkapmcnaaGreat
end
section
namespace Go.Key
open Go.Stab
theorem bl_trans : ∀ (a b c : List UInt8), Op.bytesLess a b = true → Op.bytesLess b c = true → Op.bytesLess a c = true
  | _, [], _, h, _ => by simp [Op.bytesLess] at h
  | _, _ :: _, [], _, h => by simp [Op.bytesLess] at h
  | [], _ :: _, _ :: _, _, _ => rfl
  | x :: a, y :: b, z :: c, h, g => by
    simp only [Op.bytesLess, Bool.or_eq_true, decide_eq_true_eq, Bool.and_eq_true, beq_iff_eq] at h g ⊢
    rcases h with h | ⟨rfl, h⟩ <;> rcases g with g | ⟨rfl, g⟩
    · exact .inl (UInt8.lt_trans h g)
    · exact .inl h
    · exact .inl g
    · exact .inr ⟨rfl, bl_trans a b c h g⟩
end Go.Key
end
section
set_option linter.unusedSimpArgs false
namespace Go.Proofs.YtnofalhkapmcnaaGreat
open Go.Vc Go.Key
set_option maxRecDepth 100000
abbrev StS (w : World) (v : Value) (l : List ByteArray) : Prop := Sl w v (l.map Value.string)
theorem StS.atS {w : World} {a : Addr} {l : List ByteArray} {n c : Nat} (h : StS w (.slice (some a) n c) l) {i : Nat} (hi : i < l.length) : w.cell? (a.add i) = some (.string l[i]) := Sl.at h (by simp [hi])
@[push_cast] theorem vBinS_gtr {P : Program} {t : TypeId} {x y : Operand} {m n : ByteArray} {K : Value → World → Prop} {w : World} : vBin P .gtr t x y (.string m) (.string n) K w = K (.bool (!(Op.bytesLess m.data.toList n.data.toList || decide (m = n)))) w := mk_eq rfl
theorem texts_c (u v : Value) (a b : List ByteArray) (w : World) (hu : StS w u a) (hv : StS w v b) : FnC Tryz.prog 18 #[u, v] w fun r w' => r = .bool (decide (a = b)) ∧ Later w w' := by
  obtain ⟨oa, ca, rfl, g1, g2, hu, g3⟩ := hu.openM
  obtain ⟨ob, cb, rfl, k1, k2, hv, k3⟩ := hv.openM
  refine enter18 _ _ ?_
  unfold B18
  by_cases hlen : a.length = b.length
  · repeat' (first | (simp (disch := omega) only [push_cast, ↓reduceIte, zA, zG, zB, zH, zI, zC, zJ, zK, zL, zD, zE, zF, zM, zN, zO, zP, zQ, reduceCtorEq, not_true_eq_false, not_false_eq_true]) | (first | refine iE ?_ ?_ | refine iD ?_ ?_ | refine iQ ?_ ?_ | refine iV ?_ ?_) <;> intro _ | refine And.intro (by omega) ?_ | refine drawn_q ?_ | fail)
    refine vc_loop W18_0 (fun i : Nat => [(4, .bool false), (5, .int .i64 (i : Int))])
      (fun i w' => i ≤ a.length ∧ Later w w' ∧ a.take i = b.take i) (fun i => a.length - i) 0 (by decide) ?_ ?_ ?_
    · simp (disch := omega) only [push_cast, ↓reduceIte, zA, zG, zB, zH, zI, zC, zJ, zK, zL, zD, zE, zF, zM, zN, zO, zP, zQ, reduceCtorEq, not_true_eq_false, not_false_eq_true]
    · exact ⟨by omega, Later.refl _, by simp⟩
    rintro i uu w0 ⟨hi, hl, he⟩
    by_cases ha : i < a.length
    · have hb : i < b.length := by omega
      obtain ⟨aa, rfl⟩ := hu.some ha
      obtain ⟨bb, rfl⟩ := hv.some hb
      have c1 := StS.atS (hu.later hl) ha
      have c2 := StS.atS (hv.later hl) hb
      by_cases hab : a[i] = b[i]
      · repeat' (first | (simp (disch := omega) only [push_cast, ↓reduceIte, zA, zG, zB, zH, zI, zC, zJ, zK, zL, zD, zE, zF, zM, zN, zO, zP, zQ, reduceCtorEq, not_true_eq_false, not_false_eq_true, c1, c2, hab, decide_true, Bool.not_true]) | (first | refine iE ?_ ?_ | refine iD ?_ ?_ | refine iQ ?_ ?_ | refine iV ?_ ?_) <;> intro _ | refine And.intro (by omega) ?_ | refine drawn_q ?_ | fail)
        intro w1 hl1
        repeat' (first | (simp (disch := omega) only [push_cast, ↓reduceIte, zA, zG, zB, zH, zI, zC, zJ, zK, zL, zD, zE, zF, zM, zN, zO, zP, zQ, reduceCtorEq, not_true_eq_false, not_false_eq_true]) | (first | refine iE ?_ ?_ | refine iD ?_ ?_ | refine iQ ?_ ?_ | refine iV ?_ ?_) <;> intro _ | refine And.intro (by omega) ?_ | refine drawn_q ?_ | fail)
        refine ⟨rfl, i + 1, by simp (disch := omega) only [push_cast, ↓reduceIte, zA, zG, zB, zH, zI, zC, zJ, zK, zL, zD, zE, zF, zM, zN, zO, zP, zQ, reduceCtorEq, not_true_eq_false, not_false_eq_true], ⟨by omega, hl.trans hl1, ?_⟩, by simp; omega⟩
        rw [take_snoc a i ha, take_snoc b i hb, he, hab]
      · have hne : a ≠ b := fun e => by subst e; exact hab rfl
        repeat' (first | (simp (disch := omega) only [push_cast, ↓reduceIte, zA, zG, zB, zH, zI, zC, zJ, zK, zL, zD, zE, zF, zM, zN, zO, zP, zQ, reduceCtorEq, not_true_eq_false, not_false_eq_true, c1, c2, hab, decide_false, Bool.not_false]) | (first | refine iE ?_ ?_ | refine iD ?_ ?_ | refine iQ ?_ ?_ | refine iV ?_ ?_) <;> intro _ | refine And.intro (by omega) ?_ | refine drawn_q ?_ | fail)
        intro w1 hl1
        repeat' (first | (simp (disch := omega) only [push_cast, ↓reduceIte, zA, zG, zB, zH, zI, zC, zJ, zK, zL, zD, zE, zF, zM, zN, zO, zP, zQ, reduceCtorEq, not_true_eq_false, not_false_eq_true]) | (first | refine iE ?_ ?_ | refine iD ?_ ?_ | refine iQ ?_ ?_ | refine iV ?_ ?_) <;> intro _ | refine And.intro (by omega) ?_ | refine drawn_q ?_ | fail)
        simp [hne, hl.trans hl1]
    · have e : i = a.length := by omega
      subst e
      rw [List.take_length, hlen, List.take_length] at he
      repeat' (first | (simp (disch := omega) only [push_cast, ↓reduceIte, zA, zG, zB, zH, zI, zC, zJ, zK, zL, zD, zE, zF, zM, zN, zO, zP, zQ, reduceCtorEq, not_true_eq_false, not_false_eq_true]) | (first | refine iE ?_ ?_ | refine iD ?_ ?_ | refine iQ ?_ ?_ | refine iV ?_ ?_) <;> intro _ | refine And.intro (by omega) ?_ | refine drawn_q ?_ | fail)
      simp [he, hl]
  · have hne : a ≠ b := fun e => by subst e; exact hlen rfl
    repeat' (first | (simp (disch := omega) only [push_cast, ↓reduceIte, zA, zG, zB, zH, zI, zC, zJ, zK, zL, zD, zE, zF, zM, zN, zO, zP, zQ, reduceCtorEq, not_true_eq_false, not_false_eq_true]) | (first | refine iE ?_ ?_ | refine iD ?_ ?_ | refine iQ ?_ ?_ | refine iV ?_ ?_) <;> intro _ | refine And.intro (by omega) ?_ | refine drawn_q ?_ | fail)
    simp [hne, Later.refl]
end Go.Proofs.YtnofalhkapmcnaaGreat
end
section
set_option linter.unusedSimpArgs false
namespace Go.Proofs.YtnofalhkapmcnaaGreat
open Go.Vc Go.Key
set_option maxRecDepth 100000
def vlB (b : UInt8) : Bool := decide (32 ≤ b.toNat) && decide (b.toNat ≤ 126) && !decide (b.toNat = 34) && !decide (b.toNat = 92)
def VlOk (s : ByteArray) : Prop := (∀ i (h : i < s.size), vlB s[i] = true) ∧ s.size ≤ 24
instance (s : ByteArray) : Decidable (VlOk s) := inferInstanceAs (Decidable ((∀ i (h : i < s.size), vlB s[i] = true) ∧ s.size ≤ 24))
theorem dvalue_c (s : ByteArray) (w : World) (hs : s.size ≤ 9223372036854775807) : FnC Tryz.prog 103 #[.string s] w fun r w' => r = .bool (decide (VlOk s)) ∧ w' = w := by
  refine enter103 _ ?_
  unfold B103
  repeat' (first | (simp (disch := omega) only [push_cast, ↓reduceIte, zA, zG, zB, zH, zI, zC, zJ, zK, zL, zD, zE, zF, zM, zN, zO, zP, zQ, reduceCtorEq, not_true_eq_false, not_false_eq_true]) | (first | refine iE ?_ ?_ | refine iD ?_ ?_ | refine iQ ?_ ?_ | refine iV ?_ ?_) <;> intro _ | refine And.intro (by omega) ?_ | refine drawn_q ?_ | fail)
  refine vc_loop W103_0 (fun i : Nat => [(2, .bool false), (3, .int .i64 (i : Int))])
    (fun i w' => i ≤ s.size ∧ w' = w ∧ ∀ j (h : j < s.size), j < i → vlB s[j] = true) (fun i => s.size - i) 0 (by decide) ?_ ?_ ?_
  · simp (disch := omega) only [push_cast, ↓reduceIte, zA, zG, zB, zH, zI, zC, zJ, zK, zL, zD, zE, zF, zM, zN, zO, zP, zQ, reduceCtorEq, not_true_eq_false, not_false_eq_true]
  · exact ⟨by omega, rfl, fun j _ hj => absurd hj (Nat.not_lt_zero _)⟩
  rintro i uu w0 ⟨hi, h0, hA⟩
  obtain rfl := h0.symm
  by_cases hlt : i < s.size
  · have hg : s[i]? = some s[i] := getElem?_pos s i hlt
    by_cases hv : vlB s[i] = true
    · have hv' := hv
      simp only [vlB, Bool.and_eq_true, decide_eq_true_eq, Bool.not_eq_true', decide_eq_false_iff_not] at hv'
      repeat' (first | (simp (disch := omega) only [push_cast, ↓reduceIte, zA, zG, zB, zH, zI, zC, zJ, zK, zL, zD, zE, zF, zM, zN, zO, zP, zQ, reduceCtorEq, not_true_eq_false, not_false_eq_true, hg]) | (first | refine iE ?_ ?_ | refine iD ?_ ?_ | refine iQ ?_ ?_ | refine iV ?_ ?_) <;> intro _ | refine And.intro (by omega) ?_ | refine drawn_q ?_ | fail)
      refine ⟨rfl, i + 1, by simp (disch := omega) only [push_cast, ↓reduceIte, zA, zG, zB, zH, zI, zC, zJ, zK, zL, zD, zE, zF, zM, zN, zO, zP, zQ, reduceCtorEq, not_true_eq_false, not_false_eq_true], ⟨by omega, rfl, fun j hj hji => ?_⟩, by dsimp only; omega⟩
      by_cases h : j < i
      · exact hA j hj h
      · have : j = i := by omega
        subst this
        exact hv
    · have hno : decide (VlOk s) = false := decide_eq_false fun h => hv (h.1 i hlt)
      have hv' : ¬ (32 ≤ s[i].toNat ∧ s[i].toNat ≤ 126 ∧ ¬ s[i].toNat = 34 ∧ ¬ s[i].toNat = 92) := by
        intro hh
        apply hv
        simp only [vlB, Bool.and_eq_true, decide_eq_true_eq, Bool.not_eq_true', decide_eq_false_iff_not]
        exact ⟨⟨⟨hh.1, hh.2.1⟩, hh.2.2.1⟩, hh.2.2.2⟩
      repeat' (first | (simp (disch := omega) only [push_cast, ↓reduceIte, zA, zG, zB, zH, zI, zC, zJ, zK, zL, zD, zE, zF, zM, zN, zO, zP, zQ, reduceCtorEq, not_true_eq_false, not_false_eq_true, hg]) | (first | refine iE ?_ ?_ | refine iD ?_ ?_ | refine iQ ?_ ?_ | refine iV ?_ ?_) <;> intro _ | refine And.intro (by omega) ?_ | refine drawn_q ?_ | fail)
      all_goals first
        | exact ⟨by rw [hno], trivial⟩
        | exact ⟨by rw [hno], rfl⟩
        | (rw [hno])
        | (exfalso; omega)
  · by_cases h24 : s.size ≤ 24
    · have hyes : decide (VlOk s) = true := decide_eq_true ⟨fun j hj => hA j hj (by omega), h24⟩
      repeat' (first | (simp (disch := omega) only [push_cast, ↓reduceIte, zA, zG, zB, zH, zI, zC, zJ, zK, zL, zD, zE, zF, zM, zN, zO, zP, zQ, reduceCtorEq, not_true_eq_false, not_false_eq_true]) | (first | refine iE ?_ ?_ | refine iD ?_ ?_ | refine iQ ?_ ?_ | refine iV ?_ ?_) <;> intro _ | refine And.intro (by omega) ?_ | refine drawn_q ?_ | fail)
      rw [hyes]
      exact congrArg Value.bool (decide_eq_true (by omega))
    · have hno : decide (VlOk s) = false := decide_eq_false fun h => h24 h.2
      repeat' (first | (simp (disch := omega) only [push_cast, ↓reduceIte, zA, zG, zB, zH, zI, zC, zJ, zK, zL, zD, zE, zF, zM, zN, zO, zP, zQ, reduceCtorEq, not_true_eq_false, not_false_eq_true]) | (first | refine iE ?_ ?_ | refine iD ?_ ?_ | refine iQ ?_ ?_ | refine iV ?_ ?_) <;> intro _ | refine And.intro (by omega) ?_ | refine drawn_q ?_ | fail)
      rw [hno]
      exact congrArg Value.bool (decide_eq_false (by omega))
def wordsL : List ByteArray := [⟨#[99, 111, 117, 110, 116]⟩, ⟨#[115, 117, 109]⟩, ⟨#[109, 105, 110]⟩, ⟨#[109, 97, 120]⟩, ⟨#[102, 114, 111, 109]⟩, ⟨#[116, 111]⟩, ⟨#[98, 121]⟩, ⟨#[101, 118, 101, 114, 121]⟩, ⟨#[119, 104, 101, 114, 101]⟩, ⟨#[104, 97, 118, 105, 110, 103]⟩, ⟨#[111, 114, 100, 101, 114]⟩, ⟨#[108, 105, 109, 105, 116]⟩, ⟨#[97, 110, 100]⟩, ⟨#[111, 114]⟩, ⟨#[110, 111, 116]⟩, ⟨#[105, 115]⟩, ⟨#[110, 117, 108, 108]⟩, ⟨#[97, 115, 99]⟩, ⟨#[100, 101, 115, 99]⟩, ⟨#[115, 101, 108, 101, 99, 116]⟩]
theorem words_c (w : World) : FnC Tryz.prog 118 #[] w fun r w' => StS w' r wordsL ∧ Later w w' := by
  refine enter118 ?_
  unfold B118
  repeat' (first | (simp (disch := omega) only [push_cast, ↓reduceIte, zA, zG, zB, zH, zI, zC, zJ, zK, zL, zD, zE, zF, zM, zN, zO, zP, zQ, reduceCtorEq, not_true_eq_false, not_false_eq_true]) | (first | refine iE ?_ ?_ | refine iD ?_ ?_ | refine iQ ?_ ?_ | refine iV ?_ ?_) <;> intro _ | refine And.intro (by omega) ?_ | refine drawn_q ?_ | fail)
  exact ⟨Sl.of_blk (xs := wordsL.map Value.string) (Blk.new w _ _) rfl (by unfold maxLen; omega), later_alloc _ _⟩
def nmB (i : Nat) (b : UInt8) : Prop := (97 ≤ b.toNat ∧ b.toNat ≤ 122) ∨ (i ≠ 0 ∧ ((48 ≤ b.toNat ∧ b.toNat ≤ 57) ∨ b.toNat = 95))
instance (i : Nat) (b : UInt8) : Decidable (nmB i b) := inferInstanceAs (Decidable (_ ∨ _))
def NmOk (s : ByteArray) : Prop := (∀ x ∈ wordsL, x ≠ s) ∧ (∀ i (h : i < s.size), nmB i s[i]) ∧ 1 ≤ s.size ∧ s.size ≤ 12
instance (s : ByteArray) : Decidable (NmOk s) := inferInstanceAs (Decidable ((∀ x ∈ wordsL, x ≠ s) ∧ (∀ i (h : i < s.size), nmB i s[i]) ∧ 1 ≤ s.size ∧ s.size ≤ 12))
theorem dname_c (s : ByteArray) (w : World) (hs : s.size ≤ 9223372036854775807) : FnC Tryz.prog 76 #[.string s] w fun r w' => r = .bool (decide (NmOk s)) ∧ Later w w' := by
  refine enter76 _ ?_
  unfold B76
  repeat' (first | (simp (disch := omega) only [push_cast, ↓reduceIte, zA, zG, zB, zH, zI, zC, zJ, zK, zL, zD, zE, zF, zM, zN, zO, zP, zQ, reduceCtorEq, not_true_eq_false, not_false_eq_true]) | (first | refine iE ?_ ?_ | refine iD ?_ ?_ | refine iQ ?_ ?_ | refine iV ?_ ?_) <;> intro _ | refine And.intro (by omega) ?_ | refine drawn_q ?_ | fail)
  refine (words_c w).mono ?_
  rintro v w1 ⟨hW, l1⟩
  obtain ⟨o, c, rfl⟩ := Sl.slice hW
  have hl : (wordsL.map Value.string).length = 20 := rfl
  rw [hl]
  rw [hl] at hW
  repeat' (first | (simp (disch := omega) only [push_cast, ↓reduceIte, zA, zG, zB, zH, zI, zC, zJ, zK, zL, zD, zE, zF, zM, zN, zO, zP, zQ, reduceCtorEq, not_true_eq_false, not_false_eq_true]) | (first | refine iE ?_ ?_ | refine iD ?_ ?_ | refine iQ ?_ ?_ | refine iV ?_ ?_) <;> intro _ | refine And.intro (by omega) ?_ | refine drawn_q ?_ | fail)
  refine vc_loop W76_0 (fun i : Nat => [(2, .bool false), (4, .int .i64 (i : Int))])
    (fun i w' => i ≤ 20 ∧ Later w1 w' ∧ ∀ j (h : j < wordsL.length), j < i → wordsL[j] ≠ s) (fun i => 20 - i) 0 (by decide) ?_ ?_ ?_
  · simp (disch := omega) only [push_cast, ↓reduceIte, zA, zG, zB, zH, zI, zC, zJ, zK, zL, zD, zE, zF, zM, zN, zO, zP, zQ, reduceCtorEq, not_true_eq_false, not_false_eq_true]
  · exact ⟨by omega, Later.refl _, fun j _ hj => absurd hj (Nat.not_lt_zero _)⟩
  rintro i uu w2 ⟨hi, l2, hA⟩
  by_cases hlt : i < wordsL.length
  · have hlt' : i < 20 := hlt
    cases o with
    | none => have := Sl.len hW; simp [wordsL] at this
    | some a =>
    have hc := StS.atS (Sl.later hW l2) hlt
    by_cases hv : wordsL[i] = s
    · have hno : decide (NmOk s) = false := decide_eq_false fun h => h.1 _ (List.getElem_mem hlt) hv
      repeat' (first | (simp (disch := omega) only [push_cast, ↓reduceIte, zA, zG, zB, zH, zI, zC, zJ, zK, zL, zD, zE, zF, zM, zN, zO, zP, zQ, reduceCtorEq, not_true_eq_false, not_false_eq_true, hc, hv, decide_true]) | (first | refine iE ?_ ?_ | refine iD ?_ ?_ | refine iQ ?_ ?_ | refine iV ?_ ?_) <;> intro _ | refine And.intro (by omega) ?_ | refine drawn_q ?_ | fail)
      first | exact ⟨by rw [hno], (l1.trans l2)⟩ | exact (l1.trans l2)
    · repeat' (first | (simp (disch := omega) only [push_cast, ↓reduceIte, zA, zG, zB, zH, zI, zC, zJ, zK, zL, zD, zE, zF, zM, zN, zO, zP, zQ, reduceCtorEq, not_true_eq_false, not_false_eq_true, hc, hv, decide_false]) | (first | refine iE ?_ ?_ | refine iD ?_ ?_ | refine iQ ?_ ?_ | refine iV ?_ ?_) <;> intro _ | refine And.intro (by omega) ?_ | refine drawn_q ?_ | fail)
      refine ⟨rfl, i + 1, by simp (disch := omega) only [push_cast, ↓reduceIte, zA, zG, zB, zH, zI, zC, zJ, zK, zL, zD, zE, zF, zM, zN, zO, zP, zQ, reduceCtorEq, not_true_eq_false, not_false_eq_true], ⟨by omega, l2, fun j hj hji => ?_⟩, by dsimp only; omega⟩
      by_cases h : j < i
      · exact hA j hj h
      · have : j = i := by omega
        subst this
        exact hv
  have hi20 : i = 20 := by have : wordsL.length = 20 := rfl; omega
  subst hi20
  have hmem : ∀ x ∈ wordsL, x ≠ s := by
    intro x hm
    obtain ⟨j, hj, rfl⟩ := List.getElem_of_mem hm
    exact hA j hj hj
  have l12 := l1.trans l2
  repeat' (first | (simp (disch := omega) only [push_cast, ↓reduceIte, zA, zG, zB, zH, zI, zC, zJ, zK, zL, zD, zE, zF, zM, zN, zO, zP, zQ, reduceCtorEq, not_true_eq_false, not_false_eq_true]) | (first | refine iE ?_ ?_ | refine iD ?_ ?_ | refine iQ ?_ ?_ | refine iV ?_ ?_) <;> intro _ | refine And.intro (by omega) ?_ | refine drawn_q ?_ | fail)
  refine vc_loop W76_1 (fun i : Nat => [(2, .bool false), (5, .int .i64 (i : Int))])
    (fun i w' => i ≤ s.size ∧ w' = w2 ∧ ∀ j (h : j < s.size), j < i → nmB j s[j]) (fun i => s.size - i) 0 (by decide) ?_ ?_ ?_
  · simp (disch := omega) only [push_cast, ↓reduceIte, zA, zG, zB, zH, zI, zC, zJ, zK, zL, zD, zE, zF, zM, zN, zO, zP, zQ, reduceCtorEq, not_true_eq_false, not_false_eq_true]
  · exact ⟨by omega, rfl, fun j _ hj => absurd hj (Nat.not_lt_zero _)⟩
  rintro i uu2 w0 ⟨hi, h0, hB⟩
  obtain rfl := h0.symm
  by_cases hlt : i < s.size
  · have hg : s[i]? = some s[i] := getElem?_pos s i hlt
    have hno : ¬ nmB i s[i] → decide (NmOk s) = false := fun hv => decide_eq_false fun h => hv (h.2.1 i hlt)
    have hyes : nmB i s[i] → ∀ j (h : j < s.size), j < i + 1 → nmB j s[j] := by
      intro hv j hj hji
      by_cases h : j < i
      · exact hB j hj h
      · have : j = i := by omega
        subst this
        exact hv
    generalize hN : nmB i s[i] = N at hno hyes
    unfold nmB at hN
    generalize s[i] = ch at *
    repeat' (first | (simp (disch := omega) only [push_cast, ↓reduceIte, zA, zG, zB, zH, zI, zC, zJ, zK, zL, zD, zE, zF, zM, zN, zO, zP, zQ, reduceCtorEq, not_true_eq_false, not_false_eq_true, hg]) | (first | refine iE ?_ ?_ | refine iD ?_ ?_ | refine iQ ?_ ?_ | refine iV ?_ ?_) <;> intro _ | refine And.intro (by omega) ?_ | refine drawn_q ?_ | fail)
    all_goals first
      | (have hn : ¬ N := by rw [← hN]; omega
         first | exact ⟨by rw [hno hn], l12⟩ | (rw [hno hn]))
      | (have hn : N := by rw [← hN]; omega
         exact ⟨rfl, i + 1, by simp (disch := omega) only [push_cast, ↓reduceIte, zA, zG, zB, zH, zI, zC, zJ, zK, zL, zD, zE, zF, zM, zN, zO, zP, zQ, reduceCtorEq, not_true_eq_false, not_false_eq_true], ⟨by omega, rfl, hyes hn⟩, by dsimp only; omega⟩)
  · have hall : ∀ j (h : j < s.size), nmB j s[j] := fun j hj => hB j hj (by omega)
    have hd : decide (NmOk s) = (decide (1 ≤ s.size) && decide (s.size ≤ 12)) := by
      rw [← Bool.decide_and]
      exact decide_eq_decide.2 ⟨fun h => h.2.2, fun h => ⟨hmem, hall, h⟩⟩
    by_cases h1 : 1 ≤ s.size
    · by_cases h2 : s.size ≤ 12
      · rw [hd, decide_eq_true h1, decide_eq_true h2]
        repeat' (first | (simp (disch := omega) only [push_cast, ↓reduceIte, zA, zG, zB, zH, zI, zC, zJ, zK, zL, zD, zE, zF, zM, zN, zO, zP, zQ, reduceCtorEq, not_true_eq_false, not_false_eq_true]) | (first | refine iE ?_ ?_ | refine iD ?_ ?_ | refine iQ ?_ ?_ | refine iV ?_ ?_) <;> intro _ | refine And.intro (by omega) ?_ | refine drawn_q ?_ | fail)
        first | exact ⟨congrArg Value.bool (decide_eq_true (by omega)), l12⟩ | exact l12
      · rw [hd, decide_eq_true h1, decide_eq_false h2]
        repeat' (first | (simp (disch := omega) only [push_cast, ↓reduceIte, zA, zG, zB, zH, zI, zC, zJ, zK, zL, zD, zE, zF, zM, zN, zO, zP, zQ, reduceCtorEq, not_true_eq_false, not_false_eq_true]) | (first | refine iE ?_ ?_ | refine iD ?_ ?_ | refine iQ ?_ ?_ | refine iV ?_ ?_) <;> intro _ | refine And.intro (by omega) ?_ | refine drawn_q ?_ | fail)
        first | exact ⟨congrArg Value.bool (decide_eq_false (by omega)), l12⟩ | exact l12
    · rw [hd, decide_eq_false h1]
      repeat' (first | (simp (disch := omega) only [push_cast, ↓reduceIte, zA, zG, zB, zH, zI, zC, zJ, zK, zL, zD, zE, zF, zM, zN, zO, zP, zQ, reduceCtorEq, not_true_eq_false, not_false_eq_true]) | (first | refine iE ?_ ?_ | refine iD ?_ ?_ | refine iQ ?_ ?_ | refine iV ?_ ?_) <;> intro _ | refine And.intro (by omega) ?_ | refine drawn_q ?_ | fail)
      first | exact ⟨rfl, l12⟩ | exact l12
/-- Texts that are gone through. -/
def F10 (l : List ByteArray) : Prop := l.length ≤ 20 ∧ ∀ s ∈ l, s.size ≤ 80
instance (l : List ByteArray) : Decidable (F10 l) := inferInstanceAs (Decidable (_ ∧ _))
theorem fits10_c (v : Value) (l : List ByteArray) (w : World) (h : StS w v l) (hs : ∀ s ∈ l, s.size ≤ 9223372036854775807) : FnC Tryz.prog 38 #[v] w fun r w' => r = .bool (decide (F10 l)) ∧ w' = w := by
  obtain ⟨o, c, rfl⟩ := Sl.slice h
  rw [List.length_map] at h ⊢
  refine enter38 _ ?_
  unfold B38
  have hbig := (Sl.len h).2.1
  have hbig2 := (Sl.len h).2.2.1
  unfold maxLen at hbig2
  repeat' (first | (simp (disch := omega) only [push_cast, ↓reduceIte, zA, zG, zB, zH, zI, zC, zJ, zK, zL, zD, zE, zF, zM, zN, zO, zP, zQ, reduceCtorEq, not_true_eq_false, not_false_eq_true]) | (first | refine iE ?_ ?_ | refine iD ?_ ?_ | refine iQ ?_ ?_ | refine iV ?_ ?_) <;> intro _ | refine And.intro (by omega) ?_ | refine drawn_q ?_ | fail)
  refine vc_loop W38_0 (fun i : Nat => [(2, .bool false), (3, .int .i64 (i : Int))])
    (fun i w' => i ≤ l.length ∧ i ≤ 20 ∧ w' = w ∧ ∀ j (h : j < l.length), j < i → l[j].size ≤ 80) (fun i => l.length - i) 0 (by decide) ?_ ?_ ?_
  · simp (disch := omega) only [push_cast, ↓reduceIte, zA, zG, zB, zH, zI, zC, zJ, zK, zL, zD, zE, zF, zM, zN, zO, zP, zQ, reduceCtorEq, not_true_eq_false, not_false_eq_true]
  · exact ⟨by omega, by omega, rfl, fun j _ hj => absurd hj (Nat.not_lt_zero _)⟩
  rintro i uu w0 ⟨hi, hi20, h0, hA⟩
  obtain rfl := h0.symm
  by_cases hlt : i < l.length
  · cases o with
    | none => have := (Sl.len h).2.2.2 rfl; simp at this; rw [this.1] at hlt; simp at hlt
    | some a =>
    have hc := StS.atS h hlt
    have hz := hs _ (List.getElem_mem hlt)
    by_cases h20 : i = 20
    · have hno : decide (F10 l) = false := decide_eq_false fun h => by have := h.1; omega
      subst h20
      repeat' (first | (simp (disch := omega) only [push_cast, ↓reduceIte, zA, zG, zB, zH, zI, zC, zJ, zK, zL, zD, zE, zF, zM, zN, zO, zP, zQ, reduceCtorEq, not_true_eq_false, not_false_eq_true, hc]) | (first | refine iE ?_ ?_ | refine iD ?_ ?_ | refine iQ ?_ ?_ | refine iV ?_ ?_) <;> intro _ | refine And.intro (by omega) ?_ | refine drawn_q ?_ | fail)
      first | exact ⟨by rw [hno], trivial⟩ | (rw [hno])
    · by_cases h80 : l[i].size ≤ 80
      · repeat' (first | (simp (disch := omega) only [push_cast, ↓reduceIte, zA, zG, zB, zH, zI, zC, zJ, zK, zL, zD, zE, zF, zM, zN, zO, zP, zQ, reduceCtorEq, not_true_eq_false, not_false_eq_true, hc]) | (first | refine iE ?_ ?_ | refine iD ?_ ?_ | refine iQ ?_ ?_ | refine iV ?_ ?_) <;> intro _ | refine And.intro (by omega) ?_ | refine drawn_q ?_ | fail)
        refine ⟨rfl, i + 1, by simp (disch := omega) only [push_cast, ↓reduceIte, zA, zG, zB, zH, zI, zC, zJ, zK, zL, zD, zE, zF, zM, zN, zO, zP, zQ, reduceCtorEq, not_true_eq_false, not_false_eq_true], ⟨by omega, by omega, rfl, fun j hj hji => ?_⟩, by dsimp only; omega⟩
        by_cases h : j < i
        · exact hA j hj h
        · have : j = i := by omega
          subst this
          exact h80
      · have hno : decide (F10 l) = false := decide_eq_false fun h => h80 (h.2 _ (List.getElem_mem _))
        repeat' (first | (simp (disch := omega) only [push_cast, ↓reduceIte, zA, zG, zB, zH, zI, zC, zJ, zK, zL, zD, zE, zF, zM, zN, zO, zP, zQ, reduceCtorEq, not_true_eq_false, not_false_eq_true, hc]) | (first | refine iE ?_ ?_ | refine iD ?_ ?_ | refine iQ ?_ ?_ | refine iV ?_ ?_) <;> intro _ | refine And.intro (by omega) ?_ | refine drawn_q ?_ | fail)
        first | exact ⟨by rw [hno], trivial⟩ | (rw [hno])
  · have hyes : decide (F10 l) = true := decide_eq_true ⟨by omega, fun s hs => by
      obtain ⟨j, hj, rfl⟩ := List.getElem_of_mem hs
      exact hA j hj (by omega)⟩
    repeat' (first | (simp (disch := omega) only [push_cast, ↓reduceIte, zA, zG, zB, zH, zI, zC, zJ, zK, zL, zD, zE, zF, zM, zN, zO, zP, zQ, reduceCtorEq, not_true_eq_false, not_false_eq_true]) | (first | refine iE ?_ ?_ | refine iD ?_ ?_ | refine iQ ?_ ?_ | refine iV ?_ ?_) <;> intro _ | refine And.intro (by omega) ?_ | refine drawn_q ?_ | fail)
    rw [hyes]
end Go.Proofs.YtnofalhkapmcnaaGreat
end
section
set_option linter.unusedSimpArgs false
namespace Go.Proofs.YtnofalhkapmcnaaGreat
open Go.Vc Go.Key
set_option maxRecDepth 100000
theorem own_is (op : Int) (d v : ByteArray) (n : Nat) : decide (FT.own op d v n) =
    (if op = 1 then decide (n = 0) else if op = 2 then decide (n = 0) && decide (v = ⟨#[]⟩) else if op = 3 then decide (n = 1) && decide (d = ⟨#[]⟩) && decide (v = ⟨#[]⟩) else if op = 4 ∨ op = 5 then decide (2 ≤ n) && decide (d = ⟨#[]⟩) && decide (v = ⟨#[]⟩) else false) := by
  have e : ∀ s : ByteArray, (s.size = 0) ↔ s = ⟨#[]⟩ := by
    intro s
    constructor
    · intro h
      obtain ⟨a⟩ := s
      have : a.size = 0 := h
      rw [Array.size_eq_zero_iff] at this
      rw [this]
    · rintro rfl; rfl
  unfold FT.own
  simp only [e]
  by_cases h1 : op = 1
  · subst h1; simp
  by_cases h2 : op = 2
  · subst h2; simp
  by_cases h3 : op = 3
  · subst h3; simp [Bool.and_assoc]
  by_cases h4 : op = 4
  · subst h4; simp [Bool.and_assoc]
  by_cases h5 : op = 5
  · subst h5; simp [Bool.and_assoc]
  simp [h1, h2, h3, h4, h5]
set_option maxHeartbeats 400000 in
theorem form_c : ∀ (f : FT) (deep : Nat) (w : World), deep ≤ 1000000 → f.Ok w → FnC Tryz.prog 95 #[.agg (ftC f).toArray, .int .i64 (deep : Int)] w fun v w' => v = .bool (f.form deep) ∧ Later w w' := by
  intro f
  induction f using FT.ind with
  | h f ih =>
  intro deep w hdp hf
  obtain ⟨h1, h2, h3, h4, h5⟩ := FT.ok_iff.1 hf
  obtain ⟨o, c, hkv, hc1, hc2⟩ := RecS.slice h4
  refine enter95 _ _ ?_
  unfold B95
  have eca : (Value.agg (ftC f).toArray).cells = (ftC f).toArray := rfl
  obtain ⟨l1, s1, B1⟩ := ftBox w f
  rw [FT.form_is]
  repeat' (first | (simp (disch := omega) only [push_cast, ↓reduceIte, zA, zG, zB, zH, zI, zC, zJ, zK, zL, zD, zE, zF, zM, zN, zO, zP, zQ, reduceCtorEq, not_true_eq_false, not_false_eq_true, eca]) | (first | refine iE ?_ ?_ | refine iD ?_ ?_ | refine iQ ?_ ?_ | refine iV ?_ ?_) <;> intro _ | refine And.intro (by omega) ?_ | refine drawn_q ?_ | fail)
  generalize w.alloc (.cells (ftC f).toArray 29) = w1 at *
  generalize w.heap.size = kf at *
  obtain ⟨a0, a1, a2, a3⟩ := ftAt B1
  rw [hkv] at a3
  by_cases hz : deep = 0
  · subst hz
    have hd : decide (((0 : Nat) : Int) = 0) = true := rfl
    repeat' (first | (simp (disch := omega) only [push_cast, ↓reduceIte, zA, zG, zB, zH, zI, zC, zJ, zK, zL, zD, zE, zF, zM, zN, zO, zP, zQ, reduceCtorEq, not_true_eq_false, not_false_eq_true, a3, hd, addr_add_eq, Nat.zero_add]) | (first | refine iE ?_ ?_ | refine iD ?_ ?_ | refine iQ ?_ ?_ | refine iV ?_ ?_) <;> intro _ | refine And.intro (by omega) ?_ | refine drawn_q ?_ | fail)
    first | exact ⟨rfl, l1⟩ | exact l1
  have hd : decide ((deep : Int) = 0) = false := decide_eq_false (by omega)
  have hdd : (deep : Int) - 1 = ((deep - 1 : Nat) : Int) := by omega
  have hdb : (deep == 0) = false := by simp [hz]
  repeat' (first | (simp (disch := omega) only [push_cast, ↓reduceIte, zA, zG, zB, zH, zI, zC, zJ, zK, zL, zD, zE, zF, zM, zN, zO, zP, zQ, reduceCtorEq, not_true_eq_false, not_false_eq_true, a3, hd, addr_add_eq, Nat.zero_add]) | (first | refine iE ?_ ?_ | refine iD ?_ ?_ | refine iQ ?_ ?_ | refine iV ?_ ?_) <;> intro _ | refine And.intro (by omega) ?_ | refine drawn_q ?_ | fail)
  refine vc_loop W95_0 (fun i : Nat => [(4, .bool false), (6, .int .i64 (i : Int))]) (fun i w' => i ≤ f.kids.length ∧ Later w1 w' ∧ (f.kids.take i).all (fun k => k.form (deep - 1)) = true) (fun i => f.kids.length - i) 0 (by decide) ?_ ?_ ?_
  · simp (disch := omega) only [push_cast, ↓reduceIte, zA, zG, zB, zH, zI, zC, zJ, zK, zL, zD, zE, zF, zM, zN, zO, zP, zQ, reduceCtorEq, not_true_eq_false, not_false_eq_true]
  · exact ⟨Nat.zero_le _, Later.refl _, rfl⟩
  rintro i uu w2 ⟨hi, l2, hall⟩
  obtain ⟨b0, b1, b2, b3⟩ := ftAt (ftLater B1 l2)
  rw [hkv] at b3
  by_cases hik : i < f.kids.length
  · have hd2 : decide ((i : Int) < (f.kids.length : Int)) = true := decide_eq_true (by omega)
    rw [hkv] at h4
    obtain ⟨a, rfl, fa⟩ := RecS.at ftC_len (h4.later (l1.trans l2)) hik
    have hk := h5 _ (List.getElem_mem hik)
    have hst : (f.kids.take (i + 1)).all (fun k => k.form (deep - 1)) = (f.kids[i]).form (deep - 1) := by
      rw [List.take_succ_eq_append_getElem hik, List.all_append, hall]; simp
    have hcall := ih _ (List.getElem_mem hik) (deep - 1) w2 (by omega) (hk.later (l1.trans l2))
    rw [← hdd] at hcall
    repeat' (first | (simp (disch := omega) only [push_cast, ↓reduceIte, zA, zG, zB, zH, zI, zC, zJ, zK, zL, zD, zE, zF, zM, zN, zO, zP, zQ, reduceCtorEq, not_true_eq_false, not_false_eq_true, b3, hd2, fa, addr_add_eq, Nat.zero_add]) | (first | refine iE ?_ ?_ | refine iD ?_ ?_ | refine iQ ?_ ?_ | refine iV ?_ ?_) <;> intro _ | refine And.intro (by omega) ?_ | refine drawn_q ?_ | fail)
    refine hcall.mono ?_
    rintro _ w3 ⟨rfl, l3⟩
    cases hkf : (f.kids[i]).form (deep - 1) with
    | true =>
      repeat' (first | (simp (disch := omega) only [push_cast, ↓reduceIte, zA, zG, zB, zH, zI, zC, zJ, zK, zL, zD, zE, zF, zM, zN, zO, zP, zQ, reduceCtorEq, not_true_eq_false, not_false_eq_true]) | (first | refine iE ?_ ?_ | refine iD ?_ ?_ | refine iQ ?_ ?_ | refine iV ?_ ?_) <;> intro _ | refine And.intro (by omega) ?_ | refine drawn_q ?_ | fail)
      exact ⟨rfl, i + 1, by simp (disch := omega) only [push_cast, ↓reduceIte, zA, zG, zB, zH, zI, zC, zJ, zK, zL, zD, zE, zF, zM, zN, zO, zP, zQ, reduceCtorEq, not_true_eq_false, not_false_eq_true], ⟨by omega, l2.trans l3, by rw [hst, hkf]⟩, by dsimp only; omega⟩
    | false =>
      have hf0 : f.kids.all (fun k => k.form (deep - 1)) = false := by
        rw [List.all_eq_false]
        exact ⟨_, List.getElem_mem hik, by simp [hkf]⟩
      rw [hf0]
      repeat' (first | (simp (disch := omega) only [push_cast, ↓reduceIte, zA, zG, zB, zH, zI, zC, zJ, zK, zL, zD, zE, zF, zM, zN, zO, zP, zQ, reduceCtorEq, not_true_eq_false, not_false_eq_true]) | (first | refine iE ?_ ?_ | refine iD ?_ ?_ | refine iQ ?_ ?_ | refine iV ?_ ?_) <;> intro _ | refine And.intro (by omega) ?_ | refine drawn_q ?_ | fail)
      first | exact ⟨(by simp), (l1.trans (l2.trans l3))⟩ | exact (l1.trans (l2.trans l3))
  · have hd2 : decide ((i : Int) < (f.kids.length : Int)) = false := decide_eq_false (by omega)
    rw [List.take_of_length_le (by omega)] at hall
    rw [hall, own_is, hdb]
    have hl := l1.trans l2
    by_cases k1 : f.op = 1
    · have e1 : decide (f.op = 1) = true := decide_eq_true k1
      rw [if_pos k1]
      repeat' (first | (simp (disch := omega) only [push_cast, ↓reduceIte, zA, zG, zB, zH, zI, zC, zJ, zK, zL, zD, zE, zF, zM, zN, zO, zP, zQ, reduceCtorEq, not_true_eq_false, not_false_eq_true, b0, b1, b2, b3, hd2, e1, addr_add_eq, Nat.zero_add]) | (first | refine iE ?_ ?_ | refine iD ?_ ?_ | refine iQ ?_ ?_ | refine iV ?_ ?_) <;> intro _ | refine And.intro (by omega) ?_ | refine drawn_q ?_ | fail)
      first | exact ⟨(by simp), hl⟩ | exact hl
    have e1 : decide (f.op = 1) = false := decide_eq_false k1
    by_cases k2 : f.op = 2
    · have e2 : decide (f.op = 2) = true := decide_eq_true k2
      rw [if_neg k1, if_pos k2]
      repeat' (first | (simp (disch := omega) only [push_cast, ↓reduceIte, zA, zG, zB, zH, zI, zC, zJ, zK, zL, zD, zE, zF, zM, zN, zO, zP, zQ, reduceCtorEq, not_true_eq_false, not_false_eq_true, b0, b1, b2, b3, hd2, e1, e2, addr_add_eq, Nat.zero_add]) | (first | refine iE ?_ ?_ | refine iD ?_ ?_ | refine iQ ?_ ?_ | refine iV ?_ ?_) <;> intro _ | refine And.intro (by omega) ?_ | refine drawn_q ?_ | fail)
      all_goals (refine ⟨congrArg Value.bool ?_, hl⟩)
      all_goals (clear ih h1 h2 h3 h4 h5 a0 a1 a2 a3 b0 b1 b2 b3 B1 l1 l2 hall hl s1 eca)
      all_goals (try (have hnat : ∀ n : Nat, ((f.kids.length : Int) = (n : Int)) = (f.kids.length = n) := fun n => by rw [Int.ofNat_inj]))
      all_goals simp_all
      all_goals (first | omega | done)
    have e2 : decide (f.op = 2) = false := decide_eq_false k2
    by_cases k3 : f.op = 3
    · have e3 : decide (f.op = 3) = true := decide_eq_true k3
      rw [if_neg k1, if_neg k2, if_pos k3]
      repeat' (first | (simp (disch := omega) only [push_cast, ↓reduceIte, zA, zG, zB, zH, zI, zC, zJ, zK, zL, zD, zE, zF, zM, zN, zO, zP, zQ, reduceCtorEq, not_true_eq_false, not_false_eq_true, b0, b1, b2, b3, hd2, e1, e2, e3, addr_add_eq, Nat.zero_add]) | (first | refine iE ?_ ?_ | refine iD ?_ ?_ | refine iQ ?_ ?_ | refine iV ?_ ?_) <;> intro _ | refine And.intro (by omega) ?_ | refine drawn_q ?_ | fail)
      all_goals (refine ⟨congrArg Value.bool ?_, hl⟩)
      all_goals (clear ih h1 h2 h3 h4 h5 a0 a1 a2 a3 b0 b1 b2 b3 B1 l1 l2 hall hl s1 eca)
      all_goals (try (have hnat : ∀ n : Nat, ((f.kids.length : Int) = (n : Int)) = (f.kids.length = n) := fun n => by rw [Int.ofNat_inj]))
      all_goals simp_all
      all_goals (first | omega | done)
    have e3 : decide (f.op = 3) = false := decide_eq_false k3
    by_cases k4 : f.op = 4
    · have e4 : decide (f.op = 4) = true := decide_eq_true k4
      rw [if_neg k1, if_neg k2, if_neg k3, if_pos (Or.inl k4)]
      repeat' (first | (simp (disch := omega) only [push_cast, ↓reduceIte, zA, zG, zB, zH, zI, zC, zJ, zK, zL, zD, zE, zF, zM, zN, zO, zP, zQ, reduceCtorEq, not_true_eq_false, not_false_eq_true, b0, b1, b2, b3, hd2, e1, e2, e3, e4, addr_add_eq, Nat.zero_add]) | (first | refine iE ?_ ?_ | refine iD ?_ ?_ | refine iQ ?_ ?_ | refine iV ?_ ?_) <;> intro _ | refine And.intro (by omega) ?_ | refine drawn_q ?_ | fail)
      all_goals (refine ⟨congrArg Value.bool ?_, hl⟩)
      all_goals (clear ih h1 h2 h3 h4 h5 a0 a1 a2 a3 b0 b1 b2 b3 B1 l1 l2 hall hl s1 eca)
      all_goals (try (have hnat : ∀ n : Nat, ((f.kids.length : Int) = (n : Int)) = (f.kids.length = n) := fun n => by rw [Int.ofNat_inj]))
      all_goals simp_all
      all_goals (first | omega | done)
    have e4 : decide (f.op = 4) = false := decide_eq_false k4
    by_cases k5 : f.op = 5
    · have e5 : decide (f.op = 5) = true := decide_eq_true k5
      rw [if_neg k1, if_neg k2, if_neg k3, if_pos (Or.inr k5)]
      repeat' (first | (simp (disch := omega) only [push_cast, ↓reduceIte, zA, zG, zB, zH, zI, zC, zJ, zK, zL, zD, zE, zF, zM, zN, zO, zP, zQ, reduceCtorEq, not_true_eq_false, not_false_eq_true, b0, b1, b2, b3, hd2, e1, e2, e3, e4, e5, addr_add_eq, Nat.zero_add]) | (first | refine iE ?_ ?_ | refine iD ?_ ?_ | refine iQ ?_ ?_ | refine iV ?_ ?_) <;> intro _ | refine And.intro (by omega) ?_ | refine drawn_q ?_ | fail)
      all_goals (refine ⟨congrArg Value.bool ?_, hl⟩)
      all_goals (clear ih h1 h2 h3 h4 h5 a0 a1 a2 a3 b0 b1 b2 b3 B1 l1 l2 hall hl s1 eca)
      all_goals (try (have hnat : ∀ n : Nat, ((f.kids.length : Int) = (n : Int)) = (f.kids.length = n) := fun n => by rw [Int.ofNat_inj]))
      all_goals simp_all
      all_goals (first | omega | done)
    have e5 : decide (f.op = 5) = false := decide_eq_false k5
    rw [if_neg k1, if_neg k2, if_neg k3, if_neg (by omega)]
    repeat' (first | (simp (disch := omega) only [push_cast, ↓reduceIte, zA, zG, zB, zH, zI, zC, zJ, zK, zL, zD, zE, zF, zM, zN, zO, zP, zQ, reduceCtorEq, not_true_eq_false, not_false_eq_true, b0, b1, b2, b3, hd2, e1, e2, e3, e4, e5, addr_add_eq, Nat.zero_add]) | (first | refine iE ?_ ?_ | refine iD ?_ ?_ | refine iQ ?_ ?_ | refine iV ?_ ?_) <;> intro _ | refine And.intro (by omega) ?_ | refine drawn_q ?_ | fail)
    first | exact ⟨(by simp), hl⟩ | exact hl
end Go.Proofs.YtnofalhkapmcnaaGreat
end
section
set_option linter.unusedSimpArgs false
namespace Go.Vc
open Go.RowKit in
/-- An append to an empty literal. -/
theorem vAppend_fresh {P : Program} {w : World} {K : Value → World → Prop} {t e ty : TypeId} {z : Value} {s b : Nat} (ht : P.underlying t = some (.slice e)) (hi : (P.info? e).map (fun i => (i.zero, i.size, i.bytes)) = some (some z, s, b)) (hzs : z.cells.size = s) (hsz : 0 < s)
    {db : Nat} {x : Value} {m : Nat} {news : List Value} (hx : SlN w s x m news) (h63 : m ≤ maxLen) (hb : m * b ≤ 140737488355328)
    (hK : ∀ v' w', (m = 0 → v' = .slice (some ⟨db, 0, none⟩) 0 0 ∧ w' = w) → (0 < m → w'.ownsRow w.heap.size e s v' m news ∧ Later w w') → K v' w') : vAppend P #[t, t] ty #[.slice (some ⟨db, 0, none⟩) 0 0, x] K w := by
  obtain ⟨i, hi1, hz, hsi, hbi⟩ := info_parts hi
  unfold vAppend
  obtain ⟨hl, hr⟩ := hx
  rcases hr with ⟨rfl, rfl⟩ | ⟨ad, c, rfl, hc1, hc2, hc3⟩
  · rw [run_val_pure (run_append_nil_src ht hi (some ⟨db, 0, none⟩) 0 0 (Nat.le_refl _) (fun ho => by cases ho))]
    exact hK _ _ (fun _ => ⟨rfl, rfl⟩) (fun h => absurd h (Nat.lt_irrefl _))
  · by_cases hm : m = 0
    · subst hm
      have hn : news = [] := List.eq_nil_of_length_eq_zero (by simpa using hl)
      subst hn
      have hrun := run_append_room_cells (P := P) w t ty e i ht hi1 db 0 0 0 ad 0 c [] (by simp) (fun j u h => by simp at h) (fun u h => by simp at h) (by omega) (fun j h => by simp at h) (fun j h => by simp at h)
      rw [run_val_pure hrun]
      exact hK _ _ (fun _ => ⟨rfl, rfl⟩) (fun h => absurd h (Nat.lt_irrefl _))
    · obtain ⟨v', w', hrun, ho, hg⟩ := run_append_arg_grows (P := P) w t ty e i z s b ht hi1 hz hsi hbi hzs hsz ⟨db, 0, none⟩ 0 0 [] (by simp) (fun j u h => by simp at h) ad m c news hl hc3 (by omega) (by omega) (by simpa using hb)
      rw [run_val_pure hrun]
      refine hK _ _ (fun h => absurd h hm) (fun _ => ⟨by simpa using ho, hg.os, hg.tape, hg.output, hg.size, fun k hk => hg.block k hk (by simp)⟩)
/-- An append to what hangs on the world. -/
theorem nR_app {P : Program} {args : Array Operand} {ts : Array TypeId} {ty : TypeId} {rs : List Nat} {Ns : NS} {σ : Env} {w : World} {Kv : Value → Prop} {Kn : (Value → World → Prop) → Prop} (V' : Value → World → Prop) (hV' : Stb w V')
    (h : ∀ σ' w', Later w w' → psis Ns σ w' σ' rs → vAppend P ts ty (args.map (ev σ')) (fun v w'' => Later w' w'' ∧ V' v w'') w') (hk : Kn V') : nR P (.call ⟨.builtin .append, args, ts⟩) ty rs Ns σ w Kv Kn :=
  .inr ⟨V', hV', fun σ' w' hl hp => nUp_val (h σ' w' hl hp), hk⟩
end Go.Vc
namespace Go.Proofs.YtnofalhkapmcnaaGreat
open Go.Vc Go.Key
set_option maxRecDepth 100000
abbrev OwnS (w : World) (B : Nat) (v : Value) (l : List ByteArray) : Prop := w.ownsRow B 9 1 v l.length (l.map Value.string)
theorem stb_ownS (w0 : World) (B : Nat) (l : List ByteArray) : Stb w0 (fun v w => OwnS w B v l) := fun _ _ _ _ hl h => own_later h hl
def Lit0 (B : Nat) (v : Value) (w : World) : Prop := (∃ b, v = .slice (some ⟨b, 0, none⟩) 0 0) ∧ OwnS w B v []
theorem stb_lit0 (w0 : World) (B : Nat) : Stb w0 (Lit0 B) := fun _ _ _ _ hl h => ⟨h.1, own_later h.2 hl⟩
theorem box2 (w : World) (a b : Value) (e : TypeId) : Later w (w.alloc (.cells #[a, b] e)) ∧ (w.alloc (.cells #[a, b] e)).heap.size = w.heap.size + 1 ∧ ∀ w', Later (w.alloc (.cells #[a, b] e)) w' → w'.cell? ⟨w.heap.size, 0, none⟩ = some a ∧ w'.cell? ⟨w.heap.size, 1, none⟩ = some b ∧ cellsAt w' ⟨w.heap.size, 0, none⟩ 2 = some [a, b] := by
  refine ⟨later_alloc _ _, World.size_alloc _ _, fun w' hl => ?_⟩
  have := (Blk.new w #[a, b] e).chg (Chg.of_later (ks := []) hl) (by simp)
  exact ⟨this.cell 0, this.cell 1, Blk.cellsAt (l := [a, b]) this⟩
/-- Texts, whose lengths are numbers. -/
def StZ (l : List ByteArray) : Prop := ∀ s ∈ l, s.size ≤ 9223372036854775807
structure ScIs (w : World) (dv mv : Value) (d m : List ByteArray) : Prop where
  dS : StS w dv d
  mS : StS w mv m
  dZ : StZ d
  mZ : StZ m
theorem ScIs.later {w w' : World} {dv mv : Value} {d m : List ByteArray} (h : ScIs w dv mv d m) (hl : Later w w') : ScIs w' dv mv d m := ⟨Sl.later h.dS hl, Sl.later h.mS hl, h.dZ, h.mZ⟩
def scV (dv mv : Value) : Value := .agg #[dv, mv]
def ScOk (d m : List ByteArray) : Prop := (∀ x ∈ d ++ m, NmOk x) ∧ (d ++ m).Pairwise (fun x y => x ≠ y) ∧ 1 ≤ d.length ∧ d.length ≤ 6 ∧ m.length ≤ 4
instance (d m : List ByteArray) : Decidable (ScOk d m) := inferInstanceAs (Decidable ((∀ x ∈ d ++ m, NmOk x) ∧ (d ++ m).Pairwise (fun x y => x ≠ y) ∧ 1 ≤ d.length ∧ d.length ≤ 6 ∧ m.length ≤ 4))
theorem StS.n {w : World} {v : Value} {l : List ByteArray} (h : StS w v l) : SlN w 1 v l.length (l.map Value.string) := by
  have := h
  unfold StS Sl at this
  rwa [List.length_map] at this
/-- Texts behind texts of the call's own. -/
theorem vAppend_ss {w : World} {K : Value → World → Prop} {ty : TypeId} {B : Nat} {v x : Value} {l r : List ByteArray} (hown : OwnS w B v l) (hx : StS w x r) (h63 : l.length + r.length ≤ 100000000) (hbase : B ≤ w.heap.size)
    (hK : ∀ v' w', OwnS w' B v' (l ++ r) → w.grownBy w' v.ownBlock → (v'.ownBlock = v.ownBlock ∨ v'.ownBlock = some w.heap.size) → K v' w') : vAppend Tryz.prog #[22, 22] ty #[v, x] K w := by
  refine vAppend_at Tryz.underlying22 ti9 rfl (by decide) hown hx.n ?_ (by unfold maxLen; omega) (by omega) hbase ?_
  · intro u hu
    obtain ⟨p, hp, rfl⟩ := List.mem_map.1 hu
    rfl
  · intro v' w' ho hg hs
    refine hK v' w' ?_ hg hs
    unfold OwnS
    simpa using ho
theorem ok_step {L : List ByteArray} {i : Nat} (hi : i < L.length) (hd : (L.take i).Pairwise (fun x y => x ≠ y)) (hn : ∀ j (h : j < L.length), j < i → L[j] ≠ L[i]) : (L.take (i + 1)).Pairwise (fun x y => x ≠ y) := by
  rw [take_snoc L i hi, List.pairwise_append]
  refine ⟨hd, by simp, fun a ha b hb => ?_⟩
  rw [List.mem_singleton.1 hb]
  obtain ⟨j, hj, rfl⟩ := List.getElem_of_mem ha
  rw [List.length_take] at hj
  rw [List.getElem_take]
  exact hn j (by omega) (by omega)
theorem dschema_c (dv mv : Value) (d m : List ByteArray) (w : World) (h : ScIs w dv mv d m) (fd : d.length ≤ 2000000) (fm : m.length ≤ 2000000) : FnC Tryz.prog 40 #[scV dv mv] w fun r w' => r = .bool (decide (ScOk d m)) ∧ Later w w' := by
  unfold scV
  obtain ⟨od, cd, hdv⟩ := Sl.slice h.dS
  obtain ⟨om, cm, hmv⟩ := Sl.slice h.mS
  rw [List.length_map] at hdv hmv
  refine enter40 _ ?_
  unfold B40
  obtain ⟨l1, s1, F⟩ := box2 w dv mv 24
  have eca : (Value.agg #[dv, mv]).cells = #[dv, mv] := rfl
  repeat' (first | (simp (disch := omega) only [push_cast, ↓reduceIte, zA, zG, zB, zH, zI, zC, zJ, zK, zL, zD, zE, zF, zM, zN, zO, zP, zQ, reduceCtorEq, not_true_eq_false, not_false_eq_true, eca, s1]) | (first | refine iE ?_ ?_ | refine iD ?_ ?_ | refine iQ ?_ ?_ | refine iV ?_ ?_) <;> intro _ | refine And.intro (by omega) ?_ | fail)
  generalize w.alloc (.cells #[dv, mv] 24) = w1 at *
  obtain ⟨a0, a1, _⟩ := F w1 (Later.refl _)
  have h1 := h.later l1
  refine drawn_k 6 ?_
  repeat' (first | (simp (disch := omega) only [push_cast, ↓reduceIte, zA, zG, zB, zH, zI, zC, zJ, zK, zL, zD, zE, zF, zM, zN, zO, zP, zQ, reduceCtorEq, not_true_eq_false, not_false_eq_true, a0, a1, addr_add_eq, Nat.zero_add]) | (first | refine iE ?_ ?_ | refine iD ?_ ?_ | refine iQ ?_ ?_ | refine iV ?_ ?_) <;> intro _ | refine And.intro (by omega) ?_ | fail)
  refine nB_of _ (Lit0 w1.heap.size) (stb_lit0 _ _) (fun w' hl => ?_) ?_
  · repeat' (first | (simp (disch := omega) only [push_cast, ↓reduceIte, zA, zG, zB, zH, zI, zC, zJ, zK, zL, zD, zE, zF, zM, zN, zO, zP, zQ, reduceCtorEq, not_true_eq_false, not_false_eq_true]) | (first | refine iE ?_ ?_ | refine iD ?_ ?_ | refine iQ ?_ ?_ | refine iV ?_ ?_) <;> intro _ | refine And.intro (by omega) ?_ | fail)
    exact ⟨later_alloc _ _, ⟨_, rfl⟩, own_lit w' [] _ 1 0 rfl (by unfold maxLen; omega) hl.size⟩
  repeat' (first | (simp (disch := omega) only [push_cast, ↓reduceIte, zA, zG, zB, zH, zI, zC, zJ, zK, zL, zD, zE, zF, zM, zN, zO, zP, zQ, reduceCtorEq, not_true_eq_false, not_false_eq_true, a0, a1, addr_add_eq, Nat.zero_add]) | (first | refine iE ?_ ?_ | refine iD ?_ ?_ | refine iQ ?_ ?_ | refine iV ?_ ?_) <;> intro _ | refine And.intro (by omega) ?_ | fail)
  refine nR_app (fun v w' => OwnS w' w1.heap.size v d) (stb_ownS _ _ _) (fun σ' w' hl hp => ?_) ?_
  · obtain ⟨hp26, hp28, _⟩ := hp
    obtain ⟨⟨lb, h26⟩, h26o⟩ : Lit0 w1.heap.size (σ' 7) w' := hp26
    have h28 : σ' 9 = dv := hp28
    have hsn := (h1.later hl).dS.n
    rw [h26] at h26o
    repeat' (first | (simp (disch := omega) only [push_cast, ↓reduceIte, zA, zG, zB, zH, zI, zC, zJ, zK, zL, zD, zE, zF, zM, zN, zO, zP, zQ, reduceCtorEq, not_true_eq_false, not_false_eq_true, h28, h26]) | (first | refine iE ?_ ?_ | refine iD ?_ ?_ | refine iQ ?_ ?_ | refine iV ?_ ?_) <;> intro _ | refine And.intro (by omega) ?_ | fail)
    refine vAppend_fresh Tryz.underlying22 ti9 rfl (by decide) hsn (by unfold maxLen; omega) (by omega) ?_
    intro v' w'' h0 h1
    rcases Nat.eq_zero_or_pos d.length with hz | hz
    · obtain ⟨rfl, rfl⟩ := h0 hz
      have : d = [] := List.length_eq_zero_iff.1 hz
      rw [this]
      exact ⟨Later.refl _, h26o⟩
    · obtain ⟨ho, hll⟩ := h1 hz
      exact ⟨hll, own_base ho hl.size⟩
  repeat' (first | (simp (disch := omega) only [push_cast, ↓reduceIte, zA, zG, zB, zH, zI, zC, zJ, zK, zL, zD, zE, zF, zM, zN, zO, zP, zQ, reduceCtorEq, not_true_eq_false, not_false_eq_true, a0, a1, addr_add_eq, Nat.zero_add]) | (first | refine iE ?_ ?_ | refine iD ?_ ?_ | refine iQ ?_ ?_ | refine iV ?_ ?_) <;> intro _ | refine And.intro (by omega) ?_ | fail)
  rintro w2 l2 X hX _ _
  refine vAppend_ss hX (h1.later l2).mS (by omega) l2.size ?_
  intro v3 w3 ho3 hg3 _
  have l13 := l2.appended hX (Nat.le_refl _) hg3
  have hL := Sl.of_own ho3
  have hLn : (d ++ m).length = d.length + m.length := List.length_append
  have hZ : StZ (d ++ m) := fun s hs => by
    rcases List.mem_append.1 hs with hs | hs
    · exact h.dZ s hs
    · exact h.mZ s hs
  have hL : StS w3 v3 (d ++ m) := hL
  have hOk : ScOk d m = ((∀ x ∈ d ++ m, NmOk x) ∧ (d ++ m).Pairwise (fun x y => x ≠ y) ∧ 1 ≤ d.length ∧ d.length ≤ 6 ∧ m.length ≤ 4) := rfl
  generalize d ++ m = L at *
  obtain ⟨o3, c3, rfl⟩ := Sl.slice hL
  rw [List.length_map] at hL ⊢
  clear hX ho3 hg3
  repeat' (first | (simp (disch := omega) only [push_cast, ↓reduceIte, zA, zG, zB, zH, zI, zC, zJ, zK, zL, zD, zE, zF, zM, zN, zO, zP, zQ, reduceCtorEq, not_true_eq_false, not_false_eq_true]) | (first | refine iE ?_ ?_ | refine iD ?_ ?_ | refine iQ ?_ ?_ | refine iV ?_ ?_) <;> intro _ | refine And.intro (by omega) ?_ | refine drawn_q ?_ | fail)
  refine vc_loop W40_0 (fun i : Nat => [(2, .bool false), (4, .int .i64 (i : Int))])
    (fun i w' => i ≤ L.length ∧ Later w3 w' ∧ (∀ j (h : j < L.length), j < i → NmOk L[j]) ∧ (L.take i).Pairwise (fun x y => x ≠ y)) (fun i => L.length - i) 0 (by decide) ?_ ?_ ?_
  · simp (disch := omega) only [push_cast, ↓reduceIte, zA, zG, zB, zH, zI, zC, zJ, zK, zL, zD, zE, zF, zM, zN, zO, zP, zQ, reduceCtorEq, not_true_eq_false, not_false_eq_true]
  · exact ⟨by omega, Later.refl _, fun j _ hj => absurd hj (Nat.not_lt_zero _), by simp⟩
  rintro i uu w4 ⟨hi, l4, hA, hP⟩
  have l04 := (l1.trans l13).trans l4
  by_cases hlt : i < L.length
  · cases o3 with
    | none => have := (Sl.len hL).2.2.2 rfl; simp at this; rw [this.1] at hlt; simp at hlt
    | some a =>
    have hc := StS.atS (Sl.later hL l4) hlt
    repeat' (first | (simp (disch := omega) only [push_cast, ↓reduceIte, zA, zG, zB, zH, zI, zC, zJ, zK, zL, zD, zE, zF, zM, zN, zO, zP, zQ, reduceCtorEq, not_true_eq_false, not_false_eq_true, hc]) | (first | refine iE ?_ ?_ | refine iD ?_ ?_ | refine iQ ?_ ?_ | refine iV ?_ ?_) <;> intro _ | refine And.intro (by omega) ?_ | refine drawn_q ?_ | fail)
    refine (dname_c L[i] w4 (hZ _ (List.getElem_mem _))).mono ?_
    rintro _ w5 ⟨rfl, l5⟩
    by_cases hn : NmOk L[i]
    · rw [decide_eq_true hn]
      repeat' (first | (simp (disch := omega) only [push_cast, ↓reduceIte, zA, zG, zB, zH, zI, zC, zJ, zK, zL, zD, zE, zF, zM, zN, zO, zP, zQ, reduceCtorEq, not_true_eq_false, not_false_eq_true]) | (first | refine iE ?_ ?_ | refine iD ?_ ?_ | refine iQ ?_ ?_ | refine iV ?_ ?_) <;> intro _ | refine And.intro (by omega) ?_ | refine drawn_q ?_ | fail)
      refine vc_loop W40_1 (fun i : Nat => [(2, .bool false), (6, .int .i64 (i : Int))])
        (fun k w' => k ≤ i ∧ Later w5 w' ∧ (∀ j (h : j < L.length), j < k → L[j] ≠ L[i])) (fun k => i - k) 0 (by decide) ?_ ?_ ?_
      · simp (disch := omega) only [push_cast, ↓reduceIte, zA, zG, zB, zH, zI, zC, zJ, zK, zL, zD, zE, zF, zM, zN, zO, zP, zQ, reduceCtorEq, not_true_eq_false, not_false_eq_true]
      · exact ⟨by omega, Later.refl _, fun j _ hj => absurd hj (Nat.not_lt_zero _)⟩
      rintro k uu2 w6 ⟨hk, l6, hB⟩
      have l46 := l5.trans l6
      by_cases hki : k < i
      · have c1 := StS.atS (Sl.later hL (l4.trans l46)) (show k < L.length by omega)
        have c2 := StS.atS (Sl.later hL (l4.trans l46)) hlt
        by_cases he : L[k] = L[i]
        · have hno : decide (ScOk d m) = false := decide_eq_false fun h => by
            rw [hOk] at h
            exact List.pairwise_iff_getElem.1 h.2.1 k i (by omega) hlt hki he
          repeat' (first | (simp (disch := omega) only [push_cast, ↓reduceIte, zA, zG, zB, zH, zI, zC, zJ, zK, zL, zD, zE, zF, zM, zN, zO, zP, zQ, reduceCtorEq, not_true_eq_false, not_false_eq_true, c1, c2, he, decide_true]) | (first | refine iE ?_ ?_ | refine iD ?_ ?_ | refine iQ ?_ ?_ | refine iV ?_ ?_) <;> intro _ | refine And.intro (by omega) ?_ | refine drawn_q ?_ | fail)
          intro w7 l7
          repeat' (first | (simp (disch := omega) only [push_cast, ↓reduceIte, zA, zG, zB, zH, zI, zC, zJ, zK, zL, zD, zE, zF, zM, zN, zO, zP, zQ, reduceCtorEq, not_true_eq_false, not_false_eq_true]) | (first | refine iE ?_ ?_ | refine iD ?_ ?_ | refine iQ ?_ ?_ | refine iV ?_ ?_) <;> intro _ | refine And.intro (by omega) ?_ | refine drawn_q ?_ | fail)
          first | exact ⟨by rw [hno], ((l04.trans l46).trans l7)⟩ | exact ((l04.trans l46).trans l7)
        · repeat' (first | (simp (disch := omega) only [push_cast, ↓reduceIte, zA, zG, zB, zH, zI, zC, zJ, zK, zL, zD, zE, zF, zM, zN, zO, zP, zQ, reduceCtorEq, not_true_eq_false, not_false_eq_true, c1, c2, he, decide_false]) | (first | refine iE ?_ ?_ | refine iD ?_ ?_ | refine iQ ?_ ?_ | refine iV ?_ ?_) <;> intro _ | refine And.intro (by omega) ?_ | refine drawn_q ?_ | fail)
          intro w7 l7
          repeat' (first | (simp (disch := omega) only [push_cast, ↓reduceIte, zA, zG, zB, zH, zI, zC, zJ, zK, zL, zD, zE, zF, zM, zN, zO, zP, zQ, reduceCtorEq, not_true_eq_false, not_false_eq_true]) | (first | refine iE ?_ ?_ | refine iD ?_ ?_ | refine iQ ?_ ?_ | refine iV ?_ ?_) <;> intro _ | refine And.intro (by omega) ?_ | refine drawn_q ?_ | fail)
          refine ⟨rfl, k + 1, by simp (disch := omega) only [push_cast, ↓reduceIte, zA, zG, zB, zH, zI, zC, zJ, zK, zL, zD, zE, zF, zM, zN, zO, zP, zQ, reduceCtorEq, not_true_eq_false, not_false_eq_true], ⟨by omega, l6.trans l7, fun j hj hjk => ?_⟩, by dsimp only; omega⟩
          by_cases h : j < k
          · exact hB j hj h
          · have : j = k := by omega
            subst this
            exact he
      · have hki' : k = i := by omega
        subst hki'
        repeat' (first | (simp (disch := omega) only [push_cast, ↓reduceIte, zA, zG, zB, zH, zI, zC, zJ, zK, zL, zD, zE, zF, zM, zN, zO, zP, zQ, reduceCtorEq, not_true_eq_false, not_false_eq_true]) | (first | refine iE ?_ ?_ | refine iD ?_ ?_ | refine iQ ?_ ?_ | refine iV ?_ ?_) <;> intro _ | refine And.intro (by omega) ?_ | refine drawn_q ?_ | fail)
        refine ⟨rfl, k + 1, by simp (disch := omega) only [push_cast, ↓reduceIte, zA, zG, zB, zH, zI, zC, zJ, zK, zL, zD, zE, zF, zM, zN, zO, zP, zQ, reduceCtorEq, not_true_eq_false, not_false_eq_true], ⟨by omega, l4.trans l46, fun j hj hjk => ?_, ok_step hlt hP hB⟩, by dsimp only; omega⟩
        by_cases h : j < k
        · exact hA j hj h
        · have : j = k := by omega
          subst this
          exact hn
    · have hno : decide (ScOk d m) = false := decide_eq_false fun h => by
        rw [hOk] at h
        exact hn (h.1 _ (List.getElem_mem _))
      rw [decide_eq_false hn]
      repeat' (first | (simp (disch := omega) only [push_cast, ↓reduceIte, zA, zG, zB, zH, zI, zC, zJ, zK, zL, zD, zE, zF, zM, zN, zO, zP, zQ, reduceCtorEq, not_true_eq_false, not_false_eq_true]) | (first | refine iE ?_ ?_ | refine iD ?_ ?_ | refine iQ ?_ ?_ | refine iV ?_ ?_) <;> intro _ | refine And.intro (by omega) ?_ | refine drawn_q ?_ | fail)
      first | exact ⟨by rw [hno], (l04.trans l5)⟩ | exact (l04.trans l5)
  · have hd : decide (ScOk d m) = decide (1 ≤ d.length ∧ d.length ≤ 6 ∧ m.length ≤ 4) := by
      refine decide_eq_decide.2 ?_
      rw [hOk]
      refine ⟨fun h => h.2.2, fun h => ⟨fun x hx => ?_, ?_, h⟩⟩
      · obtain ⟨j, hj, rfl⟩ := List.getElem_of_mem hx
        exact hA j hj (by omega)
      · rw [List.take_of_length_le (by omega)] at hP
        exact hP
    obtain ⟨a0, a1, _⟩ := F w4 (l13.trans l4)
    rw [hdv] at a0
    rw [hmv] at a1
    rw [hd]
    by_cases h1 : 1 ≤ d.length
    · by_cases h2 : d.length ≤ 6
      · by_cases h3 : m.length ≤ 4
        · repeat' (first | (simp (disch := omega) only [push_cast, ↓reduceIte, zA, zG, zB, zH, zI, zC, zJ, zK, zL, zD, zE, zF, zM, zN, zO, zP, zQ, reduceCtorEq, not_true_eq_false, not_false_eq_true, a0, a1, addr_add_eq, Nat.zero_add]) | (first | refine iE ?_ ?_ | refine iD ?_ ?_ | refine iQ ?_ ?_ | refine iV ?_ ?_) <;> intro _ | refine And.intro (by omega) ?_ | refine drawn_q ?_ | fail)
          first | exact ⟨congrArg Value.bool ((decide_eq_true (by omega)).trans (decide_eq_true (by omega)).symm), l04⟩ | exact l04
        · repeat' (first | (simp (disch := omega) only [push_cast, ↓reduceIte, zA, zG, zB, zH, zI, zC, zJ, zK, zL, zD, zE, zF, zM, zN, zO, zP, zQ, reduceCtorEq, not_true_eq_false, not_false_eq_true, a0, a1, addr_add_eq, Nat.zero_add]) | (first | refine iE ?_ ?_ | refine iD ?_ ?_ | refine iQ ?_ ?_ | refine iV ?_ ?_) <;> intro _ | refine And.intro (by omega) ?_ | refine drawn_q ?_ | fail)
          first | exact ⟨congrArg Value.bool ((decide_eq_false (by omega)).trans (decide_eq_false (by omega)).symm), l04⟩ | exact l04
      · repeat' (first | (simp (disch := omega) only [push_cast, ↓reduceIte, zA, zG, zB, zH, zI, zC, zJ, zK, zL, zD, zE, zF, zM, zN, zO, zP, zQ, reduceCtorEq, not_true_eq_false, not_false_eq_true, a0, a1, addr_add_eq, Nat.zero_add]) | (first | refine iE ?_ ?_ | refine iD ?_ ?_ | refine iQ ?_ ?_ | refine iV ?_ ?_) <;> intro _ | refine And.intro (by omega) ?_ | refine drawn_q ?_ | fail)
        first | exact ⟨congrArg Value.bool ((decide_eq_false (by omega)).trans (decide_eq_false (by omega)).symm), congrArg Value.bool (decide_eq_false (by omega)).symm, l04⟩ | exact ⟨congrArg Value.bool (decide_eq_false (by omega)).symm, l04⟩ | exact l04
    · repeat' (first | (simp (disch := omega) only [push_cast, ↓reduceIte, zA, zG, zB, zH, zI, zC, zJ, zK, zL, zD, zE, zF, zM, zN, zO, zP, zQ, reduceCtorEq, not_true_eq_false, not_false_eq_true, a0, a1, addr_add_eq, Nat.zero_add]) | (first | refine iE ?_ ?_ | refine iD ?_ ?_ | refine iQ ?_ ?_ | refine iV ?_ ?_) <;> intro _ | refine And.intro (by omega) ?_ | refine drawn_q ?_ | fail)
      first | exact ⟨congrArg Value.bool ((decide_eq_false (by omega)).trans (decide_eq_false (by omega)).symm), l04⟩ | exact ⟨congrArg Value.bool (decide_eq_false (by omega)).symm, l04⟩ | trace_state
end Go.Proofs.YtnofalhkapmcnaaGreat
end
section
set_option linter.unusedSimpArgs false
namespace Go.Proofs.YtnofalhkapmcnaaGreat
open Go.Vc Go.Key
set_option maxRecDepth 100000
theorem OwnS.st {w : World} {B : Nat} {v : Value} {l : List ByteArray} (h : OwnS w B v l) : StS w v l := by
  have := SlN.of_own h
  unfold StS Sl
  rw [List.length_map]
  exact this
/-- The names in a filter, and in the first of its kids. -/
def dimsTo (f : FT) (i : Nat) : List ByteArray := (if f.op = 1 ∨ f.op = 2 then [f.dim] else []) ++ (f.kids.take i).flatMap FT.dims
theorem dimsTo_len (f : FT) (i : Nat) : (dimsTo f i).length ≤ f.cnt := by
  have h1 : f.dims = dimsTo f i ++ (f.kids.drop i).flatMap FT.dims := by
    rw [FT.dims_is, dimsTo, List.append_assoc, ← List.flatMap_append, List.take_append_drop]
  have h2 := FT.dims_cnt f
  rw [h1, List.length_append] at h2
  omega
theorem dimsTo_succ (f : FT) {i : Nat} (hi : i < f.kids.length) : dimsTo f (i + 1) = dimsTo f i ++ (f.kids[i]).dims := by
  unfold dimsTo
  rw [List.take_succ_eq_append_getElem hi, List.flatMap_append]
  simp
theorem dims_c : ∀ (f : FT) (w : World), f.cnt ≤ 1000000 → f.Ok w → FnC Tryz.prog 53 #[.agg (ftC f).toArray] w fun v w' => OwnS w' w.heap.size v f.dims ∧ Later w w' := by
  intro f
  induction f using FT.ind with
  | h f ih =>
  intro w hcn hf
  obtain ⟨h1, h2, h3, h4, h5⟩ := FT.ok_iff.1 hf
  obtain ⟨o, c, hkv, hc1, hc2⟩ := RecS.slice h4
  refine enter53 _ ?_
  unfold B53
  have eca : (Value.agg (ftC f).toArray).cells = (ftC f).toArray := rfl
  obtain ⟨l1, s1, B1⟩ := ftBox w f
  repeat' (first | (simp (disch := omega) only [push_cast, ↓reduceIte, zA, zG, zB, zH, zI, zC, zJ, zK, zL, zD, zE, zF, zM, zN, zO, zP, zQ, reduceCtorEq, not_true_eq_false, not_false_eq_true, eca]) | (first | refine iE ?_ ?_ | refine iD ?_ ?_ | refine iQ ?_ ?_ | refine iV ?_ ?_) <;> intro _ | refine And.intro (by omega) ?_ | refine drawn_q ?_ | fail)
  generalize w.alloc (.cells (ftC f).toArray 29) = w1 at *
  generalize hkf : w.heap.size = kf at *
  obtain ⟨a0, a1, a2, a3⟩ := ftAt B1
  have hcl := FT.cntL_len f.kids
  have hci := FT.cnt_is f
  by_cases k1 : f.op = 1
  · have e1 : decide (f.op = 1) = true := decide_eq_true k1
    have hd0 : dimsTo f 0 = [f.dim] := by
      unfold dimsTo
      rw [if_pos (Or.inl k1)]; rfl
    repeat' (first | (simp (disch := omega) only [push_cast, ↓reduceIte, zA, zG, zB, zH, zI, zC, zJ, zK, zL, zD, zE, zF, zM, zN, zO, zP, zQ, reduceCtorEq, not_true_eq_false, not_false_eq_true, a0, a1, e1, addr_add_eq, Nat.zero_add]) | (first | refine iE ?_ ?_ | refine iD ?_ ?_ | refine iQ ?_ ?_ | refine iV ?_ ?_) <;> intro _ | refine And.intro (by omega) ?_ | refine drawn_q ?_ | fail)
    refine vAppend_one Tryz.underlying22 ti9 rfl (own_nil w1 w1.heap.size 9 1) rfl (by unfold maxLen; omega) (by omega) (Nat.le_refl _) ?_
    intro V0 w2 hO hlat
    have l2 : Later w1 w2 := hlat w1 (Later.refl _) (Nat.le_refl _)
    have hO : OwnS w2 w1.heap.size V0 (dimsTo f 0) := by rw [hd0]; exact hO
    repeat' (first | (simp (disch := omega) only [push_cast, ↓reduceIte, zA, zG, zB, zH, zI, zC, zJ, zK, zL, zD, zE, zF, zM, zN, zO, zP, zQ, reduceCtorEq, not_true_eq_false, not_false_eq_true]) | (first | refine iE ?_ ?_ | refine iD ?_ ?_ | refine iQ ?_ ?_ | refine iV ?_ ?_) <;> intro _ | refine And.intro (by omega) ?_ | refine drawn_q ?_ | fail)
    refine vc_loop W53_0 (fun p : Nat × Value => [(3, p.2), (4, .int .i64 (p.1 : Int))]) (fun p w' => p.1 ≤ f.kids.length ∧ Later w1 w' ∧ OwnS w' w1.heap.size p.2 (dimsTo f p.1)) (fun p => f.kids.length - p.1) (0, V0) (by decide) ?_ ?_ ?_
    · simp (disch := omega) only [push_cast, ↓reduceIte, zA, zG, zB, zH, zI, zC, zJ, zK, zL, zD, zE, zF, zM, zN, zO, zP, zQ, reduceCtorEq, not_true_eq_false, not_false_eq_true]
    · exact ⟨Nat.zero_le _, l2, hO⟩
    rintro ⟨i, x⟩ uu w3 ⟨hi, l3, ho⟩
    dsimp only at hi ho ⊢
    obtain ⟨b0, b1, b2, b3⟩ := ftAt (ftLater B1 l3)
    rw [hkv] at b3
    by_cases hik : i < f.kids.length
    · have hd2 : decide ((i : Int) < (f.kids.length : Int)) = true := decide_eq_true (by omega)
      rw [hkv] at h4
      obtain ⟨a, rfl, fa⟩ := RecS.at ftC_len (h4.later (l1.trans l3)) hik
      have hk := h5 _ (List.getElem_mem hik)
      have hkc := FT.cntL_mem (List.getElem_mem hik)
      have hn1 := dimsTo_len f (i + 1)
      rw [dimsTo_succ f hik, List.length_append] at hn1
      repeat' (first | (simp (disch := omega) only [push_cast, ↓reduceIte, zA, zG, zB, zH, zI, zC, zJ, zK, zL, zD, zE, zF, zM, zN, zO, zP, zQ, reduceCtorEq, not_true_eq_false, not_false_eq_true, b3, hd2, fa, addr_add_eq, Nat.zero_add]) | (first | refine iE ?_ ?_ | refine iD ?_ ?_ | refine iQ ?_ ?_ | refine iV ?_ ?_) <;> intro _ | refine And.intro (by omega) ?_ | refine drawn_q ?_ | fail)
      refine (ih _ (List.getElem_mem hik) w3 (by omega) (hk.later (l1.trans l3))).mono ?_
      rintro x2 w4 ⟨ho2, l4⟩
      repeat' (first | (simp (disch := omega) only [push_cast, ↓reduceIte, zA, zG, zB, zH, zI, zC, zJ, zK, zL, zD, zE, zF, zM, zN, zO, zP, zQ, reduceCtorEq, not_true_eq_false, not_false_eq_true]) | (first | refine iE ?_ ?_ | refine iD ?_ ?_ | refine iQ ?_ ?_ | refine iV ?_ ?_) <;> intro _ | refine And.intro (by omega) ?_ | refine drawn_q ?_ | fail)
      refine vAppend_ss (own_later ho l4) (OwnS.st ho2) (by omega) (l3.trans l4).size ?_
      intro v' w' ho' hg _
      have l5 : Later w1 w' := (l3.trans l4).appended (own_later ho l4) (Nat.le_refl _) hg
      rw [← dimsTo_succ f hik] at ho'
      repeat' (first | (simp (disch := omega) only [push_cast, ↓reduceIte, zA, zG, zB, zH, zI, zC, zJ, zK, zL, zD, zE, zF, zM, zN, zO, zP, zQ, reduceCtorEq, not_true_eq_false, not_false_eq_true]) | (first | refine iE ?_ ?_ | refine iD ?_ ?_ | refine iQ ?_ ?_ | refine iV ?_ ?_) <;> intro _ | refine And.intro (by omega) ?_ | refine drawn_q ?_ | fail)
      exact ⟨rfl, (i + 1, v'), by simp (disch := omega) only [push_cast, ↓reduceIte, zA, zG, zB, zH, zI, zC, zJ, zK, zL, zD, zE, zF, zM, zN, zO, zP, zQ, reduceCtorEq, not_true_eq_false, not_false_eq_true], ⟨by dsimp only; omega, l5, ho'⟩, by dsimp only; omega⟩
    · have hd2 : decide ((i : Int) < (f.kids.length : Int)) = false := decide_eq_false (by omega)
      have hdm : dimsTo f i = f.dims := by rw [FT.dims_is, dimsTo, List.take_of_length_le (by omega)]
      rw [hdm] at ho
      repeat' (first | (simp (disch := omega) only [push_cast, ↓reduceIte, zA, zG, zB, zH, zI, zC, zJ, zK, zL, zD, zE, zF, zM, zN, zO, zP, zQ, reduceCtorEq, not_true_eq_false, not_false_eq_true, b3, hd2, addr_add_eq, Nat.zero_add]) | (first | refine iE ?_ ?_ | refine iD ?_ ?_ | refine iQ ?_ ?_ | refine iV ?_ ?_) <;> intro _ | refine And.intro (by omega) ?_ | refine drawn_q ?_ | fail)
      first | exact ⟨(own_base ho (by omega)), (l1.trans l3)⟩ | exact (l1.trans l3)
  have e1 : decide (f.op = 1) = false := decide_eq_false k1
  by_cases k2 : f.op = 2
  · have e2 : decide (f.op = 2) = true := decide_eq_true k2
    have hd0 : dimsTo f 0 = [f.dim] := by
      unfold dimsTo
      rw [if_pos (Or.inr k2)]; rfl
    repeat' (first | (simp (disch := omega) only [push_cast, ↓reduceIte, zA, zG, zB, zH, zI, zC, zJ, zK, zL, zD, zE, zF, zM, zN, zO, zP, zQ, reduceCtorEq, not_true_eq_false, not_false_eq_true, a0, a1, e1, e2, addr_add_eq, Nat.zero_add]) | (first | refine iE ?_ ?_ | refine iD ?_ ?_ | refine iQ ?_ ?_ | refine iV ?_ ?_) <;> intro _ | refine And.intro (by omega) ?_ | refine drawn_q ?_ | fail)
    refine vAppend_one Tryz.underlying22 ti9 rfl (own_nil w1 w1.heap.size 9 1) rfl (by unfold maxLen; omega) (by omega) (Nat.le_refl _) ?_
    intro V0 w2 hO hlat
    have l2 : Later w1 w2 := hlat w1 (Later.refl _) (Nat.le_refl _)
    have hO : OwnS w2 w1.heap.size V0 (dimsTo f 0) := by rw [hd0]; exact hO
    repeat' (first | (simp (disch := omega) only [push_cast, ↓reduceIte, zA, zG, zB, zH, zI, zC, zJ, zK, zL, zD, zE, zF, zM, zN, zO, zP, zQ, reduceCtorEq, not_true_eq_false, not_false_eq_true]) | (first | refine iE ?_ ?_ | refine iD ?_ ?_ | refine iQ ?_ ?_ | refine iV ?_ ?_) <;> intro _ | refine And.intro (by omega) ?_ | refine drawn_q ?_ | fail)
    refine vc_loop W53_0 (fun p : Nat × Value => [(3, p.2), (4, .int .i64 (p.1 : Int))]) (fun p w' => p.1 ≤ f.kids.length ∧ Later w1 w' ∧ OwnS w' w1.heap.size p.2 (dimsTo f p.1)) (fun p => f.kids.length - p.1) (0, V0) (by decide) ?_ ?_ ?_
    · simp (disch := omega) only [push_cast, ↓reduceIte, zA, zG, zB, zH, zI, zC, zJ, zK, zL, zD, zE, zF, zM, zN, zO, zP, zQ, reduceCtorEq, not_true_eq_false, not_false_eq_true]
    · exact ⟨Nat.zero_le _, l2, hO⟩
    rintro ⟨i, x⟩ uu w3 ⟨hi, l3, ho⟩
    dsimp only at hi ho ⊢
    obtain ⟨b0, b1, b2, b3⟩ := ftAt (ftLater B1 l3)
    rw [hkv] at b3
    by_cases hik : i < f.kids.length
    · have hd2 : decide ((i : Int) < (f.kids.length : Int)) = true := decide_eq_true (by omega)
      rw [hkv] at h4
      obtain ⟨a, rfl, fa⟩ := RecS.at ftC_len (h4.later (l1.trans l3)) hik
      have hk := h5 _ (List.getElem_mem hik)
      have hkc := FT.cntL_mem (List.getElem_mem hik)
      have hn1 := dimsTo_len f (i + 1)
      rw [dimsTo_succ f hik, List.length_append] at hn1
      repeat' (first | (simp (disch := omega) only [push_cast, ↓reduceIte, zA, zG, zB, zH, zI, zC, zJ, zK, zL, zD, zE, zF, zM, zN, zO, zP, zQ, reduceCtorEq, not_true_eq_false, not_false_eq_true, b3, hd2, fa, addr_add_eq, Nat.zero_add]) | (first | refine iE ?_ ?_ | refine iD ?_ ?_ | refine iQ ?_ ?_ | refine iV ?_ ?_) <;> intro _ | refine And.intro (by omega) ?_ | refine drawn_q ?_ | fail)
      refine (ih _ (List.getElem_mem hik) w3 (by omega) (hk.later (l1.trans l3))).mono ?_
      rintro x2 w4 ⟨ho2, l4⟩
      repeat' (first | (simp (disch := omega) only [push_cast, ↓reduceIte, zA, zG, zB, zH, zI, zC, zJ, zK, zL, zD, zE, zF, zM, zN, zO, zP, zQ, reduceCtorEq, not_true_eq_false, not_false_eq_true]) | (first | refine iE ?_ ?_ | refine iD ?_ ?_ | refine iQ ?_ ?_ | refine iV ?_ ?_) <;> intro _ | refine And.intro (by omega) ?_ | refine drawn_q ?_ | fail)
      refine vAppend_ss (own_later ho l4) (OwnS.st ho2) (by omega) (l3.trans l4).size ?_
      intro v' w' ho' hg _
      have l5 : Later w1 w' := (l3.trans l4).appended (own_later ho l4) (Nat.le_refl _) hg
      rw [← dimsTo_succ f hik] at ho'
      repeat' (first | (simp (disch := omega) only [push_cast, ↓reduceIte, zA, zG, zB, zH, zI, zC, zJ, zK, zL, zD, zE, zF, zM, zN, zO, zP, zQ, reduceCtorEq, not_true_eq_false, not_false_eq_true]) | (first | refine iE ?_ ?_ | refine iD ?_ ?_ | refine iQ ?_ ?_ | refine iV ?_ ?_) <;> intro _ | refine And.intro (by omega) ?_ | refine drawn_q ?_ | fail)
      exact ⟨rfl, (i + 1, v'), by simp (disch := omega) only [push_cast, ↓reduceIte, zA, zG, zB, zH, zI, zC, zJ, zK, zL, zD, zE, zF, zM, zN, zO, zP, zQ, reduceCtorEq, not_true_eq_false, not_false_eq_true], ⟨by dsimp only; omega, l5, ho'⟩, by dsimp only; omega⟩
    · have hd2 : decide ((i : Int) < (f.kids.length : Int)) = false := decide_eq_false (by omega)
      have hdm : dimsTo f i = f.dims := by rw [FT.dims_is, dimsTo, List.take_of_length_le (by omega)]
      rw [hdm] at ho
      repeat' (first | (simp (disch := omega) only [push_cast, ↓reduceIte, zA, zG, zB, zH, zI, zC, zJ, zK, zL, zD, zE, zF, zM, zN, zO, zP, zQ, reduceCtorEq, not_true_eq_false, not_false_eq_true, b3, hd2, addr_add_eq, Nat.zero_add]) | (first | refine iE ?_ ?_ | refine iD ?_ ?_ | refine iQ ?_ ?_ | refine iV ?_ ?_) <;> intro _ | refine And.intro (by omega) ?_ | refine drawn_q ?_ | fail)
      first | exact ⟨(own_base ho (by omega)), (l1.trans l3)⟩ | exact (l1.trans l3)
  have e2 : decide (f.op = 2) = false := decide_eq_false k2
  have hd0 : dimsTo f 0 = [] := by
    unfold dimsTo
    rw [if_neg (by omega)]; rfl
  repeat' (first | (simp (disch := omega) only [push_cast, ↓reduceIte, zA, zG, zB, zH, zI, zC, zJ, zK, zL, zD, zE, zF, zM, zN, zO, zP, zQ, reduceCtorEq, not_true_eq_false, not_false_eq_true, a0, a1, e1, e2, addr_add_eq, Nat.zero_add]) | (first | refine iE ?_ ?_ | refine iD ?_ ?_ | refine iQ ?_ ?_ | refine iV ?_ ?_) <;> intro _ | refine And.intro (by omega) ?_ | refine drawn_q ?_ | fail)
  refine vc_loop W53_0 (fun p : Nat × Value => [(3, p.2), (4, .int .i64 (p.1 : Int))]) (fun p w' => p.1 ≤ f.kids.length ∧ Later w1 w' ∧ OwnS w' w1.heap.size p.2 (dimsTo f p.1)) (fun p => f.kids.length - p.1) (0, Value.slice none 0 0) (by decide) ?_ ?_ ?_
  · simp (disch := omega) only [push_cast, ↓reduceIte, zA, zG, zB, zH, zI, zC, zJ, zK, zL, zD, zE, zF, zM, zN, zO, zP, zQ, reduceCtorEq, not_true_eq_false, not_false_eq_true]
  · exact ⟨Nat.zero_le _, (Later.refl _), (by rw [hd0]; exact own_nil w1 w1.heap.size 9 1)⟩
  rintro ⟨i, x⟩ uu w3 ⟨hi, l3, ho⟩
  dsimp only at hi ho ⊢
  obtain ⟨b0, b1, b2, b3⟩ := ftAt (ftLater B1 l3)
  rw [hkv] at b3
  by_cases hik : i < f.kids.length
  · have hd2 : decide ((i : Int) < (f.kids.length : Int)) = true := decide_eq_true (by omega)
    rw [hkv] at h4
    obtain ⟨a, rfl, fa⟩ := RecS.at ftC_len (h4.later (l1.trans l3)) hik
    have hk := h5 _ (List.getElem_mem hik)
    have hkc := FT.cntL_mem (List.getElem_mem hik)
    have hn1 := dimsTo_len f (i + 1)
    rw [dimsTo_succ f hik, List.length_append] at hn1
    repeat' (first | (simp (disch := omega) only [push_cast, ↓reduceIte, zA, zG, zB, zH, zI, zC, zJ, zK, zL, zD, zE, zF, zM, zN, zO, zP, zQ, reduceCtorEq, not_true_eq_false, not_false_eq_true, b3, hd2, fa, addr_add_eq, Nat.zero_add]) | (first | refine iE ?_ ?_ | refine iD ?_ ?_ | refine iQ ?_ ?_ | refine iV ?_ ?_) <;> intro _ | refine And.intro (by omega) ?_ | refine drawn_q ?_ | fail)
    refine (ih _ (List.getElem_mem hik) w3 (by omega) (hk.later (l1.trans l3))).mono ?_
    rintro x2 w4 ⟨ho2, l4⟩
    repeat' (first | (simp (disch := omega) only [push_cast, ↓reduceIte, zA, zG, zB, zH, zI, zC, zJ, zK, zL, zD, zE, zF, zM, zN, zO, zP, zQ, reduceCtorEq, not_true_eq_false, not_false_eq_true]) | (first | refine iE ?_ ?_ | refine iD ?_ ?_ | refine iQ ?_ ?_ | refine iV ?_ ?_) <;> intro _ | refine And.intro (by omega) ?_ | refine drawn_q ?_ | fail)
    refine vAppend_ss (own_later ho l4) (OwnS.st ho2) (by omega) (l3.trans l4).size ?_
    intro v' w' ho' hg _
    have l5 : Later w1 w' := (l3.trans l4).appended (own_later ho l4) (Nat.le_refl _) hg
    rw [← dimsTo_succ f hik] at ho'
    repeat' (first | (simp (disch := omega) only [push_cast, ↓reduceIte, zA, zG, zB, zH, zI, zC, zJ, zK, zL, zD, zE, zF, zM, zN, zO, zP, zQ, reduceCtorEq, not_true_eq_false, not_false_eq_true]) | (first | refine iE ?_ ?_ | refine iD ?_ ?_ | refine iQ ?_ ?_ | refine iV ?_ ?_) <;> intro _ | refine And.intro (by omega) ?_ | refine drawn_q ?_ | fail)
    exact ⟨rfl, (i + 1, v'), by simp (disch := omega) only [push_cast, ↓reduceIte, zA, zG, zB, zH, zI, zC, zJ, zK, zL, zD, zE, zF, zM, zN, zO, zP, zQ, reduceCtorEq, not_true_eq_false, not_false_eq_true], ⟨by dsimp only; omega, l5, ho'⟩, by dsimp only; omega⟩
  · have hd2 : decide ((i : Int) < (f.kids.length : Int)) = false := decide_eq_false (by omega)
    have hdm : dimsTo f i = f.dims := by rw [FT.dims_is, dimsTo, List.take_of_length_le (by omega)]
    rw [hdm] at ho
    repeat' (first | (simp (disch := omega) only [push_cast, ↓reduceIte, zA, zG, zB, zH, zI, zC, zJ, zK, zL, zD, zE, zF, zM, zN, zO, zP, zQ, reduceCtorEq, not_true_eq_false, not_false_eq_true, b3, hd2, addr_add_eq, Nat.zero_add]) | (first | refine iE ?_ ?_ | refine iD ?_ ?_ | refine iQ ?_ ?_ | refine iV ?_ ?_) <;> intro _ | refine And.intro (by omega) ?_ | refine drawn_q ?_ | fail)
    first | exact ⟨(own_base ho (by omega)), (l1.trans l3)⟩ | exact (l1.trans l3)
end Go.Proofs.YtnofalhkapmcnaaGreat
end
section
namespace Go.Vc
open Go Go.Key
abbrev I64 (n : Int) : Prop := -9223372036854775808 ≤ n ∧ n ≤ 9223372036854775807
abbrev Bz : Nat := 140737488351232
/-- A term. -/
structure TD where
  f : Int
  m : ByteArray
def tdC (t : TD) : List Value := [.int .i64 t.f, .string t.m]
structure TD.Ok (t : TD) : Prop where
  f : I64 t.f
  m : t.m.size ≤ Bz
/-- A condition on a term. -/
structure HD where
  t : TD
  sign : Int
  value : Int
def hdC (h : HD) : List Value := [.int .i64 h.t.f, .string h.t.m, .int .i64 h.sign, .int .i64 h.value]
structure HD.Ok (h : HD) : Prop where
  t : h.t.Ok
  sign : I64 h.sign
  value : I64 h.value
/-- A query, and where its lists lie. -/
structure QD where
  tv : Value
  tl : List TD
  fr : Int
  to : Int
  ev : Int
  bv : Value
  bl : List ByteArray
  wh : FT
  hv : Value
  hl : List HD
  od : Int
  lm : Int
def qdC (q : QD) : List Value := [q.tv, .int .i64 q.fr, .int .i64 q.to, .int .i64 q.ev, q.bv, .int .i64 q.wh.op, .string q.wh.dim, .string q.wh.value, q.wh.kv, q.hv, .int .i64 q.od, .int .i64 q.lm]
structure QD.Ok (w : World) (q : QD) : Prop where
  tv : RecS tdC 2 w q.tv q.tl
  tl : ∀ t ∈ q.tl, t.Ok
  fr : I64 q.fr
  to : I64 q.to
  ev : I64 q.ev
  bv : Sl w q.bv (q.bl.map Value.string)
  bl : ∀ s ∈ q.bl, s.size ≤ Bz
  wh : q.wh.Ok w
  hv : RecS hdC 4 w q.hv q.hl
  hl : ∀ h ∈ q.hl, h.Ok
  od : I64 q.od
  lm : I64 q.lm
theorem QD.Ok.later {w w' : World} {q : QD} (h : q.Ok w) (hl : Later w w') : q.Ok w' := ⟨h.tv.later hl, h.tl, h.fr, h.to, h.ev, Sl.later h.bv hl, h.bl, h.wh.later hl, h.hv.later hl, h.hl, h.od, h.lm⟩
end Go.Vc
namespace Go.Proofs.YtnofalhkapmcnaaGreat
open Go.Vc Go.RowKit Go.ChangeShapes Go.Key
set_option maxRecDepth 100000
section
variable {H : Type} {enc : TypeId × Value → H} {w : World} {sp : Nat → Bool} {hd : Bool} {M : Nat}
theorem z_int : OZ M enc Tryz.prog w sp hd 3 (fun cs => ∃ n : Int, cs = [.int .i64 n] ∧ I64 n) := oz_i64 Tryz.underlying3
theorem z_str : OZ M enc Tryz.prog w sp hd 9 (fun cs => ∃ s : ByteArray, cs = [.string s] ∧ s.size ≤ Bz) := oz_string Tryz.underlying9
theorem z_strs : OZ M enc Tryz.prog w sp hd 22 (fun cs => ∃ (v : Value) (l : List ByteArray), cs = [v] ∧ StS w v l ∧ ∀ s ∈ l, s.size ≤ Bz) :=
  (oz_slice (en := fun s => [Value.string s]) (Q := fun s => s.size ≤ Bz) Tryz.underlying22 (by kernel_rfl) z_str).mono fun cs ⟨v, l, h1, h2, h3, _⟩ => ⟨v, l, h1, sl_of_rec h2, h3⟩
theorem z_term : OZ M enc Tryz.prog w sp hd 58 (fun cs => ∃ x : TD, cs = tdC x ∧ x.Ok) :=
  (oz_struct (S := 2) Tryz.underlying58 (by kernel_rfl)).mono fun cs ⟨hl, hf⟩ => by
    match cs, hl with
    | [c0, c1], _ =>
      obtain ⟨k, hk, wk⟩ := hf 0 _ 1 _ rfl (by kernel_rfl) (fun _ => oz_i64 Tryz.underlying56)
      obtain ⟨m, hm, wm⟩ := hf 1 _ 1 _ rfl (by kernel_rfl) (fun _ => z_str)
      obtain rfl : c0 = _ := (List.cons.inj hk).1
      obtain rfl : c1 = _ := (List.cons.inj hm).1
      exact ⟨⟨k, m⟩, rfl, wk, wm⟩
theorem z_having : OZ M enc Tryz.prog w sp hd 103 (fun cs => ∃ x : HD, cs = hdC x ∧ x.Ok) :=
  (oz_struct (S := 4) Tryz.underlying103 (by kernel_rfl)).mono fun cs ⟨hl, hf⟩ => by
    match cs, hl with
    | [c0, c1, c2, c3], _ =>
      obtain ⟨t, ht, wt⟩ := hf 0 _ 2 _ rfl (by kernel_rfl) (fun _ => z_term)
      obtain ⟨s, hs, ws⟩ := hf 1 _ 1 _ rfl (by kernel_rfl) (fun _ => z_int)
      obtain ⟨v, hv, wv⟩ := hf 2 _ 1 _ rfl (by kernel_rfl) (fun _ => z_int)
      have h2 : [c0, c1] = tdC t := ht
      obtain rfl : c0 = _ := (List.cons.inj h2).1
      obtain rfl : c1 = _ := (List.cons.inj (List.cons.inj h2).2).1
      obtain rfl : c2 = _ := (List.cons.inj hs).1
      obtain rfl : c3 = _ := (List.cons.inj hv).1
      exact ⟨⟨t, s, v⟩, rfl, wt, ws, wv⟩
theorem z_query : OZ M enc Tryz.prog w sp hd 32 (fun cs => ∃ q : QD, cs = qdC q ∧ q.Ok w) :=
  (oz_struct (S := 12) Tryz.underlying32 (by kernel_rfl)).mono fun cs ⟨hl, hf⟩ => by
    match cs, hl with
    | [c0, c1, c2, c3, c4, c5, c6, c7, c8, c9, c10, c11], _ =>
      obtain ⟨tv, tl, h0, w0, v0, _⟩ := hf 0 _ 1 _ rfl (by kernel_rfl) (fun _ => oz_slice (en := tdC) (Q := fun x => x.Ok) (s := 2) Tryz.underlying25 (by kernel_rfl) z_term)
      obtain ⟨fr, h1, w1⟩ := hf 1 _ 1 _ rfl (by kernel_rfl) (fun _ => z_int)
      obtain ⟨to, h2, w2⟩ := hf 2 _ 1 _ rfl (by kernel_rfl) (fun _ => z_int)
      obtain ⟨ev, h3, w3⟩ := hf 3 _ 1 _ rfl (by kernel_rfl) (fun _ => z_int)
      obtain ⟨bv, bl, h4, w4, v4⟩ := hf 4 _ 1 _ rfl (by kernel_rfl) (fun _ => z_strs)
      obtain ⟨f, h5, w5⟩ := hf 5 _ 4 _ rfl (by kernel_rfl) (fun m => filter_at m)
      obtain ⟨hv, hl', h6, w6, v6, _⟩ := hf 6 _ 1 _ rfl (by kernel_rfl) (fun _ => oz_slice (en := hdC) (Q := fun x => x.Ok) (s := 4) Tryz.underlying30 (by kernel_rfl) z_having)
      obtain ⟨od, h7, w7⟩ := hf 7 _ 1 _ rfl (by kernel_rfl) (fun _ => z_int)
      obtain ⟨lm, h8, w8⟩ := hf 8 _ 1 _ rfl (by kernel_rfl) (fun _ => z_int)
      have h5 : [c5, c6, c7, c8] = ftC f := h5
      obtain rfl : c0 = _ := (List.cons.inj h0).1
      obtain rfl : c1 = _ := (List.cons.inj h1).1
      obtain rfl : c2 = _ := (List.cons.inj h2).1
      obtain rfl : c3 = _ := (List.cons.inj h3).1
      obtain rfl : c4 = _ := (List.cons.inj h4).1
      obtain rfl : c5 = _ := (List.cons.inj h5).1
      obtain rfl : c6 = _ := (List.cons.inj (List.cons.inj h5).2).1
      obtain rfl : c7 = _ := (List.cons.inj (List.cons.inj (List.cons.inj h5).2).2).1
      obtain rfl : c8 = _ := (List.cons.inj (List.cons.inj (List.cons.inj (List.cons.inj h5).2).2).2).1
      obtain rfl : c9 = _ := (List.cons.inj h6).1
      obtain rfl : c10 = _ := (List.cons.inj h7).1
      obtain rfl : c11 = _ := (List.cons.inj h8).1
      exact ⟨⟨c0, tl, fr, to, ev, c4, bl, f, c9, hl', od, lm⟩, rfl, w0, v0, w1, w2, w3, w4, v4, w5, w6, v6, w7, w8⟩
theorem z_schema : OZ M enc Tryz.prog w sp hd 24 (fun cs => ∃ (dv mv : Value) (d m : List ByteArray), cs = [dv, mv] ∧ StS w dv d ∧ (∀ s ∈ d, s.size ≤ Bz) ∧ StS w mv m ∧ ∀ s ∈ m, s.size ≤ Bz) :=
  (oz_struct (S := 2) Tryz.underlying24 (by kernel_rfl)).mono fun cs ⟨hl, hf⟩ => by
    match cs, hl with
    | [c0, c1], _ =>
      obtain ⟨v, l, h0, w0, v0⟩ := hf 0 _ 1 _ rfl (by kernel_rfl) (fun _ => z_strs)
      obtain ⟨v', l', h1, w1, v1⟩ := hf 1 _ 1 _ rfl (by kernel_rfl) (fun _ => z_strs)
      obtain rfl : c0 = _ := (List.cons.inj h0).1
      obtain rfl : c1 = _ := (List.cons.inj h1).1
      exact ⟨c0, c1, l, l', rfl, w0, v0, w1, v1⟩
end
end Go.Proofs.YtnofalhkapmcnaaGreat
end
section
set_option linter.unusedSimpArgs false
namespace Go.Proofs.YtnofalhkapmcnaaGreat
open Go.Vc Go.Key
set_option maxRecDepth 100000
def vlsTo (f : FT) (i : Nat) : Bool := decide (VlOk f.value) && (f.kids.take i).all (fun k => k.vals.all (fun s => decide (VlOk s)))
theorem vlsTo_succ (f : FT) {i : Nat} (hi : i < f.kids.length) : vlsTo f (i + 1) = (vlsTo f i && (f.kids[i]).vals.all (fun s => decide (VlOk s))) := by
  unfold vlsTo
  rw [List.take_succ_eq_append_getElem hi, List.all_append]
  simp [Bool.and_assoc]
theorem vls_is (f : FT) : f.vals.all (fun s => decide (VlOk s)) = vlsTo f f.kids.length := by
  unfold vlsTo
  rw [FT.vals_is, List.take_length, List.all_cons, List.all_flatMap]
set_option maxHeartbeats 1000000 in
theorem values_c : ∀ (f : FT) (w : World), f.Ok w → FnC Tryz.prog 97 #[.agg (ftC f).toArray] w fun v w' => v = .bool (f.vals.all (fun s => decide (VlOk s))) ∧ Later w w' := by
  intro f
  induction f using FT.ind with
  | h f ih =>
  intro w hf
  obtain ⟨h1, h2, h3, h4, h5⟩ := FT.ok_iff.1 hf
  obtain ⟨o, c, hkv, hc1, hc2⟩ := RecS.slice h4
  refine enter97 _ ?_
  unfold B97
  have eca : (Value.agg (ftC f).toArray).cells = (ftC f).toArray := rfl
  obtain ⟨l1, s1, B1⟩ := ftBox w f
  repeat' (first | (simp (disch := omega) only [push_cast, ↓reduceIte, zA, zG, zB, zH, zI, zC, zJ, zK, zL, zD, zE, zF, zM, zN, zO, zP, zQ, reduceCtorEq, not_true_eq_false, not_false_eq_true, eca]) | (first | refine iE ?_ ?_ | refine iD ?_ ?_ | refine iQ ?_ ?_ | refine iV ?_ ?_) <;> intro _ | refine And.intro (by omega) ?_ | refine drawn_q ?_ | fail)
  generalize w.alloc (.cells (ftC f).toArray 29) = w1 at *
  generalize hkf : w.heap.size = kf at *
  obtain ⟨a0, a1, a2, a3⟩ := ftAt B1
  repeat' (first | (simp (disch := omega) only [push_cast, ↓reduceIte, zA, zG, zB, zH, zI, zC, zJ, zK, zL, zD, zE, zF, zM, zN, zO, zP, zQ, reduceCtorEq, not_true_eq_false, not_false_eq_true, a2, addr_add_eq, Nat.zero_add]) | (first | refine iE ?_ ?_ | refine iD ?_ ?_ | refine iQ ?_ ?_ | refine iV ?_ ?_) <;> intro _ | refine And.intro (by omega) ?_ | refine drawn_q ?_ | fail)
  refine (dvalue_c f.value w1 (by omega)).mono ?_
  rintro _ w0 ⟨rfl, h0⟩; obtain rfl := h0.symm
  have hv0 : decide (VlOk f.value) = vlsTo f 0 := by simp [vlsTo]
  rw [hv0]
  repeat' (first | (simp (disch := omega) only [push_cast, ↓reduceIte, zA, zG, zB, zH, zI, zC, zJ, zK, zL, zD, zE, zF, zM, zN, zO, zP, zQ, reduceCtorEq, not_true_eq_false, not_false_eq_true]) | (first | refine iE ?_ ?_ | refine iD ?_ ?_ | refine iQ ?_ ?_ | refine iV ?_ ?_) <;> intro _ | refine And.intro (by omega) ?_ | refine drawn_q ?_ | fail)
  refine vc_loop W97_0 (fun i : Nat => [(3, .bool (vlsTo f i)), (4, .int .i64 (i : Int))]) (fun i w' => i ≤ f.kids.length ∧ Later w1 w') (fun i => f.kids.length - i) 0 (by decide) ?_ ?_ ?_
  · simp (disch := omega) only [push_cast, ↓reduceIte, zA, zG, zB, zH, zI, zC, zJ, zK, zL, zD, zE, zF, zM, zN, zO, zP, zQ, reduceCtorEq, not_true_eq_false, not_false_eq_true]
    try rfl
  · exact ⟨Nat.zero_le _, Later.refl _⟩
  rintro i uu w3 ⟨hi, l3⟩
  obtain ⟨b0, b1, b2, b3⟩ := ftAt (ftLater B1 l3)
  rw [hkv] at b3
  by_cases hik : i < f.kids.length
  · have hd2 : decide ((i : Int) < (f.kids.length : Int)) = true := decide_eq_true (by omega)
    rw [hkv] at h4
    obtain ⟨a, rfl, fa⟩ := RecS.at ftC_len (h4.later (l1.trans l3)) hik
    have hk := h5 _ (List.getElem_mem hik)
    have hsc := vlsTo_succ f hik
    repeat' (first | (simp (disch := omega) only [push_cast, ↓reduceIte, zA, zG, zB, zH, zI, zC, zJ, zK, zL, zD, zE, zF, zM, zN, zO, zP, zQ, reduceCtorEq, not_true_eq_false, not_false_eq_true, b3, hd2, fa, addr_add_eq, Nat.zero_add]) | (first | refine iE ?_ ?_ | refine iD ?_ ?_ | refine iQ ?_ ?_ | refine iV ?_ ?_) <;> intro _ | refine And.intro (by omega) ?_ | refine drawn_q ?_ | fail)
    refine (ih _ (List.getElem_mem hik) w3 (hk.later (l1.trans l3))).mono ?_
    rintro _ w4 ⟨rfl, l4⟩
    cases hvi : vlsTo f i with
    | false =>
      rw [hvi, Bool.false_and] at hsc
      repeat' (first | (simp (disch := omega) only [push_cast, ↓reduceIte, zA, zG, zB, zH, zI, zC, zJ, zK, zL, zD, zE, zF, zM, zN, zO, zP, zQ, reduceCtorEq, not_true_eq_false, not_false_eq_true]) | (first | refine iE ?_ ?_ | refine iD ?_ ?_ | refine iQ ?_ ?_ | refine iV ?_ ?_) <;> intro _ | refine And.intro (by omega) ?_ | refine drawn_q ?_ | fail)
      exact ⟨rfl, i + 1, by simp (disch := omega) only [push_cast, ↓reduceIte, zA, zG, zB, zH, zI, zC, zJ, zK, zL, zD, zE, zF, zM, zN, zO, zP, zQ, reduceCtorEq, not_true_eq_false, not_false_eq_true, hsc], ⟨by omega, l3.trans l4⟩, by dsimp only; omega⟩
    | true =>
      rw [hvi, Bool.true_and] at hsc
      repeat' (first | (simp (disch := omega) only [push_cast, ↓reduceIte, zA, zG, zB, zH, zI, zC, zJ, zK, zL, zD, zE, zF, zM, zN, zO, zP, zQ, reduceCtorEq, not_true_eq_false, not_false_eq_true]) | (first | refine iE ?_ ?_ | refine iD ?_ ?_ | refine iQ ?_ ?_ | refine iV ?_ ?_) <;> intro _ | refine And.intro (by omega) ?_ | refine drawn_q ?_ | fail)
      exact ⟨rfl, i + 1, by simp (disch := omega) only [push_cast, ↓reduceIte, zA, zG, zB, zH, zI, zC, zJ, zK, zL, zD, zE, zF, zM, zN, zO, zP, zQ, reduceCtorEq, not_true_eq_false, not_false_eq_true, hsc], ⟨by omega, l3.trans l4⟩, by dsimp only; omega⟩
  · have hd2 : decide ((i : Int) < (f.kids.length : Int)) = false := decide_eq_false (by omega)
    have hdm : i = f.kids.length := by omega
    subst hdm
    rw [vls_is]
    repeat' (first | (simp (disch := omega) only [push_cast, ↓reduceIte, zA, zG, zB, zH, zI, zC, zJ, zK, zL, zD, zE, zF, zM, zN, zO, zP, zQ, reduceCtorEq, not_true_eq_false, not_false_eq_true, b3, hd2, addr_add_eq, Nat.zero_add]) | (first | refine iE ?_ ?_ | refine iD ?_ ?_ | refine iQ ?_ ?_ | refine iV ?_ ?_) <;> intro _ | refine And.intro (by omega) ?_ | refine drawn_q ?_ | fail)
    first | exact ⟨rfl, (l1.trans l3)⟩ | exact (l1.trans l3)
/-- Is a name in a list? -/
def inL (x : ByteArray) (l : List ByteArray) : Bool := l.any fun y => decide (y = x)
theorem inL_iff {x : ByteArray} {l : List ByteArray} : inL x l = true ↔ x ∈ l := by
  unfold inL
  rw [List.any_eq_true]
  constructor
  · rintro ⟨y, hy, h⟩
    rw [decide_eq_true_eq] at h
    exact h ▸ hy
  · intro h; exact ⟨x, h, decide_eq_true rfl⟩
/-- Where. -/
def fndV (x : ByteArray) (l : List ByteArray) : Value := .tuple #[.int .i64 (if inL x l then ((l.findIdx (fun y => decide (y = x)) : Nat) : Int) else 0), .bool (inL x l)]
theorem fndV_at {x : ByteArray} {l : List ByteArray} {i : Nat} (hi : i < l.length) (hx : l[i] = x) (hno : inL x (l.take i) = false) : fndV x l = .tuple #[.int .i64 (i : Int), .bool true] := by
  have hin : inL x l = true := inL_iff.2 (hx ▸ List.getElem_mem hi)
  have hf : l.findIdx (fun y => decide (y = x)) = i := by
    rw [List.findIdx_eq hi]
    refine ⟨decide_eq_true hx, fun j hj => decide_eq_false fun hjx => ?_⟩
    have : inL x (l.take i) = true := inL_iff.2 (by
      rw [← hjx]
      exact List.mem_take_iff_getElem.2 ⟨j, by omega, rfl⟩)
    rw [hno] at this; cases this
  unfold fndV
  rw [hin, hf]; rfl
theorem dfind_c (v : Value) (l : List ByteArray) (x : ByteArray) (w : World) (h : StS w v l) : FnC Tryz.prog 30 #[v, .string x] w fun r w' => r = fndV x l ∧ w' = w := by
  obtain ⟨o, c, rfl, g1, g2, hm, g3⟩ := h.openM
  refine enter30 _ _ ?_
  unfold B30
  repeat' (first | (simp (disch := omega) only [push_cast, ↓reduceIte, zA, zG, zB, zH, zI, zC, zJ, zK, zL, zD, zE, zF, zM, zN, zO, zP, zQ, reduceCtorEq, not_true_eq_false, not_false_eq_true]) | (first | refine iE ?_ ?_ | refine iD ?_ ?_ | refine iQ ?_ ?_ | refine iV ?_ ?_) <;> intro _ | refine And.intro (by omega) ?_ | refine drawn_q ?_ | fail)
  refine vc_loop W30_0 (fun i : Nat => [(4, .int .i64 0), (5, .bool false), (6, .int .i64 (i : Int))]) (fun i w' => i ≤ l.length ∧ w' = w ∧ inL x (l.take i) = false) (fun i => l.length - i) 0 (by decide) ?_ ?_ ?_
  · simp (disch := omega) only [push_cast, ↓reduceIte, zA, zG, zB, zH, zI, zC, zJ, zK, zL, zD, zE, zF, zM, zN, zO, zP, zQ, reduceCtorEq, not_true_eq_false, not_false_eq_true]
    try rfl
  · exact ⟨Nat.zero_le _, rfl, by simp [inL]⟩
  rintro i uu _ ⟨hi, rfl, hno⟩
  by_cases hil : i < l.length
  · have hd : decide ((i : Int) < (l.length : Int)) = true := decide_eq_true (by omega)
    cases o with
    | none => have := (g3 rfl).1; rw [this] at hil; simp at hil
    | some la =>
    have hc := StS.atS hm hil
    by_cases hx : l[i] = x
    · have hd2 : decide (l[i] = x) = true := decide_eq_true hx
      rw [fndV_at hil hx hno]
      repeat' (first | (simp (disch := omega) only [push_cast, ↓reduceIte, zA, zG, zB, zH, zI, zC, zJ, zK, zL, zD, zE, zF, zM, zN, zO, zP, zQ, reduceCtorEq, not_true_eq_false, not_false_eq_true, hd, hc, hd2]) | (first | refine iE ?_ ?_ | refine iD ?_ ?_ | refine iQ ?_ ?_ | refine iV ?_ ?_) <;> intro _ | refine And.intro (by omega) ?_ | refine drawn_q ?_ | fail)
      first | done | exact ⟨rfl, rfl⟩ | rfl | omega
    · have hd2 : decide (l[i] = x) = false := decide_eq_false hx
      repeat' (first | (simp (disch := omega) only [push_cast, ↓reduceIte, zA, zG, zB, zH, zI, zC, zJ, zK, zL, zD, zE, zF, zM, zN, zO, zP, zQ, reduceCtorEq, not_true_eq_false, not_false_eq_true, hd, hc, hd2]) | (first | refine iE ?_ ?_ | refine iD ?_ ?_ | refine iQ ?_ ?_ | refine iV ?_ ?_) <;> intro _ | refine And.intro (by omega) ?_ | refine drawn_q ?_ | fail)
      refine ⟨rfl, i + 1, by simp (disch := omega) only [push_cast, ↓reduceIte, zA, zG, zB, zH, zI, zC, zJ, zK, zL, zD, zE, zF, zM, zN, zO, zP, zQ, reduceCtorEq, not_true_eq_false, not_false_eq_true], ⟨by omega, rfl, ?_⟩, by dsimp only; omega⟩
      unfold inL at hno ⊢
      rw [List.take_succ_eq_append_getElem hil, List.any_append, hno]
      simp [hx]
  · have hd : decide ((i : Int) < (l.length : Int)) = false := decide_eq_false (by omega)
    rw [List.take_of_length_le (by omega)] at hno
    unfold fndV
    rw [hno]
    repeat' (first | (simp (disch := omega) only [push_cast, ↓reduceIte, zA, zG, zB, zH, zI, zC, zJ, zK, zL, zD, zE, zF, zM, zN, zO, zP, zQ, reduceCtorEq, not_true_eq_false, not_false_eq_true, hd]) | (first | refine iE ?_ ?_ | refine iD ?_ ?_ | refine iQ ?_ ?_ | refine iV ?_ ?_) <;> intro _ | refine And.intro (by omega) ?_ | refine drawn_q ?_ | fail)
    first | done | exact ⟨rfl, rfl⟩ | rfl | omega
/-- May a term be? -/
def tmOk (t : TD) : Bool := decide (0 ≤ t.f) && decide (t.f ≤ 3) && (decide (t.f = 0) == decide (t.m = ⟨#[]⟩))
theorem term_c (t : TD) (w : World) : FnC Tryz.prog 94 #[.agg (tdC t).toArray] w fun v w' => v = .bool (tmOk t) ∧ Later w w' := by
  refine enter94 _ ?_
  unfold B94
  have eca : (Value.agg (tdC t).toArray).cells = (tdC t).toArray := rfl
  have l1 := later_alloc w (.cells (tdC t).toArray 58)
  have B1 := Blk.new w (tdC t).toArray 58
  repeat' (first | (simp (disch := omega) only [push_cast, ↓reduceIte, zA, zG, zB, zH, zI, zC, zJ, zK, zL, zD, zE, zF, zM, zN, zO, zP, zQ, reduceCtorEq, not_true_eq_false, not_false_eq_true, eca]) | (first | refine iE ?_ ?_ | refine iD ?_ ?_ | refine iQ ?_ ?_ | refine iV ?_ ?_) <;> intro _ | refine And.intro (by omega) ?_ | refine drawn_q ?_ | fail)
  generalize w.alloc (.cells (tdC t).toArray 58) = w1 at *
  generalize w.heap.size = kf at *
  have a0 : w1.cell? ⟨kf, 0, none⟩ = some (.int .i64 t.f) := B1.cell 0
  have a1 : w1.cell? ⟨kf, 1, none⟩ = some (.string t.m) := B1.cell 1
  unfold tmOk
  repeat' (first | (simp (disch := omega) only [push_cast, ↓reduceIte, zA, zG, zB, zH, zI, zC, zJ, zK, zL, zD, zE, zF, zM, zN, zO, zP, zQ, reduceCtorEq, not_true_eq_false, not_false_eq_true, a0, a1, addr_add_eq, Nat.zero_add]) | (first | refine iE ?_ ?_ | refine iD ?_ ?_ | refine iQ ?_ ?_ | refine iV ?_ ?_) <;> intro _ | refine And.intro (by omega) ?_ | refine drawn_q ?_ | fail)
  all_goals (refine ⟨congrArg Value.bool ?_, l1⟩)
  all_goals (clear a0 a1 B1 l1 eca)
  all_goals simp_all
  all_goals (intros; omega)
theorem metric_c (dv mv : Value) (d m : List ByteArray) (t : TD) (w : World) (h : ScIs w dv mv d m) : FnC Tryz.prog 96 #[scV dv mv, .agg (tdC t).toArray] w fun v w' => v = .bool (decide (t.f = 0) || inL t.m m) ∧ Later w w' := by
  unfold scV
  refine enter96 _ _ ?_
  unfold B96
  have eca : (Value.agg (tdC t).toArray).cells = (tdC t).toArray := rfl
  have ecb : (Value.agg #[dv, mv]).cells = #[dv, mv] := rfl
  obtain ⟨l1, s1, F⟩ := box2 w dv mv 24
  have B2 := Blk.new (w.alloc (.cells #[dv, mv] 24)) (tdC t).toArray 58
  have l2 := later_alloc (w.alloc (.cells #[dv, mv] 24)) (.cells (tdC t).toArray 58)
  rw [s1] at B2
  repeat' (first | (simp (disch := omega) only [push_cast, ↓reduceIte, zA, zG, zB, zH, zI, zC, zJ, zK, zL, zD, zE, zF, zM, zN, zO, zP, zQ, reduceCtorEq, not_true_eq_false, not_false_eq_true, eca, ecb, s1]) | (first | refine iE ?_ ?_ | refine iD ?_ ?_ | refine iQ ?_ ?_ | refine iV ?_ ?_) <;> intro _ | refine And.intro (by omega) ?_ | refine drawn_q ?_ | fail)
  obtain ⟨_, f1, _⟩ := F _ l2
  have l12 := l1.trans l2
  have h2 := h.later l12
  generalize (w.alloc (.cells #[dv, mv] 24)).alloc (.cells (tdC t).toArray 58) = w2 at *
  generalize w.heap.size = kf at *
  have a0 : w2.cell? ⟨kf + 1, 0, none⟩ = some (.int .i64 t.f) := B2.cell 0
  have a1 : w2.cell? ⟨kf + 1, 1, none⟩ = some (.string t.m) := B2.cell 1
  repeat' (first | (simp (disch := omega) only [push_cast, ↓reduceIte, zA, zG, zB, zH, zI, zC, zJ, zK, zL, zD, zE, zF, zM, zN, zO, zP, zQ, reduceCtorEq, not_true_eq_false, not_false_eq_true, f1, a0, a1, addr_add_eq, Nat.zero_add]) | (first | refine iE ?_ ?_ | refine iD ?_ ?_ | refine iQ ?_ ?_ | refine iV ?_ ?_) <;> intro _ | refine And.intro (by omega) ?_ | refine drawn_q ?_ | fail)
  refine (dfind_c mv m t.m w2 h2.mS).mono ?_
  rintro _ w0 ⟨rfl, h0⟩; obtain rfl := h0.symm
  unfold fndV
  repeat' (first | (simp (disch := omega) only [push_cast, ↓reduceIte, zA, zG, zB, zH, zI, zC, zJ, zK, zL, zD, zE, zF, zM, zN, zO, zP, zQ, reduceCtorEq, not_true_eq_false, not_false_eq_true, f1, a0, a1, addr_add_eq, Nat.zero_add]) | (first | refine iE ?_ ?_ | refine iD ?_ ?_ | refine iQ ?_ ?_ | refine iV ?_ ?_) <;> intro _ | refine And.intro (by omega) ?_ | refine drawn_q ?_ | fail)
  all_goals (refine ⟨congrArg Value.bool ?_, l12⟩)
  all_goals simp_all
end Go.Proofs.YtnofalhkapmcnaaGreat
end
section
set_option linter.unusedSimpArgs false
namespace Go.Proofs.YtnofalhkapmcnaaGreat
open Go.Vc Go.Key
set_option maxRecDepth 100000
def hvOk (h : HD) : Bool := tmOk h.t && decide (-1 ≤ h.sign) && decide (h.sign ≤ 1) && decide (-4611686018427387904 ≤ h.value) && decide (h.value ≤ 4611686018427387904)
def whOk (f : FT) : Bool := if f.op = 0 then decide (f.kids.length = 0) && decide (f.dim = ⟨#[]⟩) && decide (f.value = ⟨#[]⟩) else f.form 30
def szOk (q : QD) : Bool := decide (1 ≤ q.tl.length) && decide (q.tl.length ≤ 8) && decide (q.bl.length ≤ 6) && decide (q.hl.length ≤ 8)
def shOk (q : QD) : Bool := szOk q && q.tl.all tmOk && q.hl.all hvOk && whOk q.wh
theorem qdAt {w : World} {k : Nat} {q : QD} (h : Blk w k (qdC q).toArray 32) : w.cell? ⟨k, 0, none⟩ = some q.tv ∧ w.cell? ⟨k, 1, none⟩ = some (.int .i64 q.fr) ∧ w.cell? ⟨k, 2, none⟩ = some (.int .i64 q.to) ∧ w.cell? ⟨k, 3, none⟩ = some (.int .i64 q.ev) ∧ w.cell? ⟨k, 4, none⟩ = some q.bv ∧ w.cell? ⟨k, 5, none⟩ = some (.int .i64 q.wh.op) ∧ w.cell? ⟨k, 6, none⟩ = some (.string q.wh.dim) ∧ w.cell? ⟨k, 7, none⟩ = some (.string q.wh.value) ∧ w.cell? ⟨k, 8, none⟩ = some q.wh.kv ∧ w.cell? ⟨k, 9, none⟩ = some q.hv ∧ w.cell? ⟨k, 10, none⟩ = some (.int .i64 q.od) ∧ w.cell? ⟨k, 11, none⟩ = some (.int .i64 q.lm) :=
  ⟨h.cell 0, h.cell 1, h.cell 2, h.cell 3, h.cell 4, h.cell 5, h.cell 6, h.cell 7, h.cell 8, h.cell 9, h.cell 10, h.cell 11⟩
theorem qdLater {w w' : World} {k : Nat} {q : QD} (h : Blk w k (qdC q).toArray 32) (hl : Later w w') : Blk w' k (qdC q).toArray 32 := h.chg (Chg.of_later (ks := []) hl) (by simp)
theorem vStore_hd {K : Value → World → Prop} (h : HD) (w : World) (hK : K undef (w.alloc (.cells (hdC h).toArray 103))) :
    vStoreD Tryz.prog 103 (some 4) (.pointer (some ⟨w.heap.size, 0, none⟩)) (.agg (hdC h).toArray) K (w.alloc (.cells #[.int .i64 0, .string ⟨#[]⟩, .int .i64 0, .int .i64 0] 103)) :=
  vStore_new rfl rfl (fun u hu => by
    simp only [hdC, List.mem_toArray, List.mem_cons, List.not_mem_nil, or_false] at hu
    rcases hu with rfl | rfl | rfl | rfl <;> rfl) hK
theorem tdC_len (t : TD) : (tdC t).length = 2 := rfl
theorem hdC_len (h : HD) : (hdC h).length = 4 := rfl
set_option maxHeartbeats 1000000 in
theorem shape_c (q : QD) (w : World) (hq : q.Ok w) : FnC Tryz.prog 45 #[.agg (qdC q).toArray] w fun v w' => v = .bool (shOk q) ∧ Later w w' := by
  obtain ⟨to, tc, htv, ht1, ht2⟩ := RecS.slice hq.tv
  obtain ⟨ho, hc, hhv, hh1, hh2⟩ := RecS.slice hq.hv
  obtain ⟨bo, bc, hbv⟩ := Sl.slice hq.bv
  rw [List.length_map] at hbv
  refine enter45 _ ?_
  unfold B45
  have eca : (Value.agg (qdC q).toArray).cells = (qdC q).toArray := rfl
  have l1 := later_alloc w (.cells (qdC q).toArray 32)
  have B1 := Blk.new w (qdC q).toArray 32
  repeat' (first | (simp (disch := omega) only [push_cast, ↓reduceIte, zA, zG, zB, zH, zI, zC, zJ, zK, zL, zD, zE, zF, zM, zN, zO, zP, zQ, reduceCtorEq, not_true_eq_false, not_false_eq_true, eca]) | (first | refine iE ?_ ?_ | refine iD ?_ ?_ | refine iQ ?_ ?_ | refine iV ?_ ?_) <;> intro _ | refine And.intro (by omega) ?_ | refine drawn_q ?_ | fail)
  generalize w.alloc (.cells (qdC q).toArray 32) = w1 at *
  generalize w.heap.size = kf at *
  obtain ⟨a0, _, _, _, a4, a5, a6, a7, a8, a9, _, _⟩ := qdAt B1
  rw [htv] at a0
  rw [hbv] at a4
  rw [hhv] at a9
  cases hsz : szOk q with
  | false =>
    have hsh : shOk q = false := by unfold shOk; rw [hsz]; rfl
    have hn : ¬ (1 ≤ q.tl.length ∧ q.tl.length ≤ 8 ∧ q.bl.length ≤ 6 ∧ q.hl.length ≤ 8) := by
      unfold szOk at hsz
      intro ⟨p1, p2, p3, p4⟩
      simp [p1, p2, p3, p4] at hsz
    rw [hsh]
    repeat' (first | (simp (disch := omega) only [push_cast, ↓reduceIte, zA, zG, zB, zH, zI, zC, zJ, zK, zL, zD, zE, zF, zM, zN, zO, zP, zQ, reduceCtorEq, not_true_eq_false, not_false_eq_true, a0, a4, a9, addr_add_eq, Nat.zero_add]) | (first | refine iE ?_ ?_ | refine iD ?_ ?_ | refine iQ ?_ ?_ | refine iV ?_ ?_) <;> intro _ | refine And.intro (by omega) ?_ | refine drawn_q ?_ | fail)
    all_goals first | exact l1 | exact ⟨rfl, l1⟩ | (exfalso; exact hn ⟨by omega, by omega, by omega, by omega⟩)
  | true =>
  have hn : 1 ≤ q.tl.length ∧ q.tl.length ≤ 8 ∧ q.bl.length ≤ 6 ∧ q.hl.length ≤ 8 := by
    unfold szOk at hsz
    simpa [and_assoc] using hsz
  have d1 : decide ((q.tl.length : Int) < 1) = false := decide_eq_false (by omega)
  have d2 : decide (8 < (q.tl.length : Int)) = false := decide_eq_false (by omega)
  have d3 : decide (6 < (q.bl.length : Int)) = false := decide_eq_false (by omega)
  have d4 : decide (8 < (q.hl.length : Int)) = false := decide_eq_false (by omega)
  repeat' (first | (simp (disch := omega) only [push_cast, ↓reduceIte, zA, zG, zB, zH, zI, zC, zJ, zK, zL, zD, zE, zF, zM, zN, zO, zP, zQ, reduceCtorEq, not_true_eq_false, not_false_eq_true, a0, a4, a9, d1, d2, d3, d4, addr_add_eq, Nat.zero_add]) | (first | refine iE ?_ ?_ | refine iD ?_ ?_ | refine iQ ?_ ?_ | refine iV ?_ ?_) <;> intro _ | refine And.intro (by omega) ?_ | refine drawn_q ?_ | fail)
  refine vc_loop W45_0 (fun i : Nat => [(2, .bool false), (3, .int .i64 (i : Int))]) (fun i w' => i ≤ q.tl.length ∧ Later w1 w' ∧ (q.tl.take i).all tmOk = true) (fun i => q.tl.length - i) 0 (by decide) ?_ ?_ ?_
  · simp (disch := omega) only [push_cast, ↓reduceIte, zA, zG, zB, zH, zI, zC, zJ, zK, zL, zD, zE, zF, zM, zN, zO, zP, zQ, reduceCtorEq, not_true_eq_false, not_false_eq_true]
  · exact ⟨Nat.zero_le _, Later.refl _, rfl⟩
  rintro i uu w2 ⟨hi, l2, hall⟩
  obtain ⟨b0, _⟩ := qdAt (qdLater B1 l2)
  rw [htv] at b0
  by_cases hik : i < q.tl.length
  · have hd2 : decide ((i : Int) < (q.tl.length : Int)) = true := decide_eq_true (by omega)
    have h4 := hq.tv
    rw [htv] at h4
    obtain ⟨a, rfl, fa⟩ := RecS.at tdC_len (h4.later (l1.trans l2)) hik
    have hst : (q.tl.take (i + 1)).all tmOk = tmOk q.tl[i] := by
      rw [List.take_succ_eq_append_getElem hik, List.all_append, hall]; simp
    repeat' (first | (simp (disch := omega) only [push_cast, ↓reduceIte, zA, zG, zB, zH, zI, zC, zJ, zK, zL, zD, zE, zF, zM, zN, zO, zP, zQ, reduceCtorEq, not_true_eq_false, not_false_eq_true, b0, hd2, fa, addr_add_eq, Nat.zero_add]) | (first | refine iE ?_ ?_ | refine iD ?_ ?_ | refine iQ ?_ ?_ | refine iV ?_ ?_) <;> intro _ | refine And.intro (by omega) ?_ | refine drawn_q ?_ | fail)
    refine (term_c _ w2).mono ?_
    rintro _ w3 ⟨rfl, l3⟩
    cases hkf : tmOk q.tl[i] with
    | true =>
      repeat' (first | (simp (disch := omega) only [push_cast, ↓reduceIte, zA, zG, zB, zH, zI, zC, zJ, zK, zL, zD, zE, zF, zM, zN, zO, zP, zQ, reduceCtorEq, not_true_eq_false, not_false_eq_true]) | (first | refine iE ?_ ?_ | refine iD ?_ ?_ | refine iQ ?_ ?_ | refine iV ?_ ?_) <;> intro _ | refine And.intro (by omega) ?_ | refine drawn_q ?_ | fail)
      exact ⟨rfl, i + 1, by simp (disch := omega) only [push_cast, ↓reduceIte, zA, zG, zB, zH, zI, zC, zJ, zK, zL, zD, zE, zF, zM, zN, zO, zP, zQ, reduceCtorEq, not_true_eq_false, not_false_eq_true], ⟨by omega, l2.trans l3, by rw [hst, hkf]⟩, by dsimp only; omega⟩
    | false =>
      have hf0 : q.tl.all tmOk = false := by
        rw [List.all_eq_false]
        exact ⟨_, List.getElem_mem hik, by simp [hkf]⟩
      have hsh : shOk q = false := by unfold shOk; rw [hsz, hf0]; simp
      rw [hsh]
      repeat' (first | (simp (disch := omega) only [push_cast, ↓reduceIte, zA, zG, zB, zH, zI, zC, zJ, zK, zL, zD, zE, zF, zM, zN, zO, zP, zQ, reduceCtorEq, not_true_eq_false, not_false_eq_true]) | (first | refine iE ?_ ?_ | refine iD ?_ ?_ | refine iQ ?_ ?_ | refine iV ?_ ?_) <;> intro _ | refine And.intro (by omega) ?_ | refine drawn_q ?_ | fail)
      first | exact ⟨rfl, (l1.trans (l2.trans l3))⟩ | exact (l1.trans (l2.trans l3))
  have hd2 : decide ((i : Int) < (q.tl.length : Int)) = false := decide_eq_false (by omega)
  rw [List.take_of_length_le (by omega)] at hall
  repeat' (first | (simp (disch := omega) only [push_cast, ↓reduceIte, zA, zG, zB, zH, zI, zC, zJ, zK, zL, zD, zE, zF, zM, zN, zO, zP, zQ, reduceCtorEq, not_true_eq_false, not_false_eq_true, b0, hd2, addr_add_eq, Nat.zero_add]) | (first | refine iE ?_ ?_ | refine iD ?_ ?_ | refine iQ ?_ ?_ | refine iV ?_ ?_) <;> intro _ | refine And.intro (by omega) ?_ | refine drawn_q ?_ | fail)
  have l2' := l1.trans l2
  have B2 := qdLater B1 l2
  clear b0 hd2 hi
  refine vc_loop W45_1 (fun i : Nat => [(2, .bool false), (5, .int .i64 (i : Int))]) (fun i w' => i ≤ q.hl.length ∧ Later w2 w' ∧ (q.hl.take i).all hvOk = true) (fun i => q.hl.length - i) 0 (by decide) ?_ ?_ ?_
  · simp (disch := omega) only [push_cast, ↓reduceIte, zA, zG, zB, zH, zI, zC, zJ, zK, zL, zD, zE, zF, zM, zN, zO, zP, zQ, reduceCtorEq, not_true_eq_false, not_false_eq_true]
  · exact ⟨Nat.zero_le _, Later.refl _, rfl⟩
  rintro i uu w3 ⟨hi, l3, hall2⟩
  obtain ⟨_, _, _, _, _, b5, b6, b7, b8, b9, _⟩ := qdAt (qdLater B2 l3)
  rw [hhv] at b9
  by_cases hik : i < q.hl.length
  · have hd2 : decide ((i : Int) < (q.hl.length : Int)) = true := decide_eq_true (by omega)
    have h4 := hq.hv
    rw [hhv] at h4
    obtain ⟨a, rfl, fa⟩ := RecS.at hdC_len (h4.later (l2'.trans l3)) hik
    have hst : (q.hl.take (i + 1)).all hvOk = hvOk q.hl[i] := by
      rw [List.take_succ_eq_append_getElem hik, List.all_append, hall2]; simp
    repeat' (first | (simp (disch := omega) only [push_cast, ↓reduceIte, zA, zG, zB, zH, zI, zC, zJ, zK, zL, zD, zE, zF, zM, zN, zO, zP, zQ, reduceCtorEq, not_true_eq_false, not_false_eq_true, b9, hd2, fa, addr_add_eq, Nat.zero_add]) | (first | refine iE ?_ ?_ | refine iD ?_ ?_ | refine iQ ?_ ?_ | refine iV ?_ ?_) <;> intro _ | refine And.intro (by omega) ?_ | refine drawn_q ?_ | fail)
    refine vStore_hd q.hl[i] w3 ?_
    have hall3 : hvOk q.hl[i] = false → q.hl.all hvOk = false := fun h => by
      rw [List.all_eq_false]
      exact ⟨_, List.getElem_mem hik, by simp [h]⟩
    have l4 := later_alloc w3 (.cells (hdC q.hl[i]).toArray 103)
    have B4 := Blk.new w3 (hdC q.hl[i]).toArray 103
    clear fa hd2 h4
    generalize q.hl[i] = x at *
    generalize w3.alloc (.cells (hdC x).toArray 103) = w4 at *
    generalize w3.heap.size = kh at *
    have fx : cellsAt w4 ⟨kh, 0, none⟩ 2 = some (tdC x.t) := by
      refine cellsAt_of 2 _ _ rfl fun i y hx => ?_
      rw [addr_add_eq]
      match i, hx with
      | 0, hx => cases hx; exact B4.cell 0
      | 1, hx => cases hx; exact B4.cell 1
      | n + 2, hx => exact absurd hx (by simp [tdC])
    repeat' (first | (simp (disch := omega) only [push_cast, ↓reduceIte, zA, zG, zB, zH, zI, zC, zJ, zK, zL, zD, zE, zF, zM, zN, zO, zP, zQ, reduceCtorEq, not_true_eq_false, not_false_eq_true, fx, addr_add_eq, Nat.zero_add]) | (first | refine iE ?_ ?_ | refine iD ?_ ?_ | refine iQ ?_ ?_ | refine iV ?_ ?_) <;> intro _ | refine And.intro (by omega) ?_ | refine drawn_q ?_ | fail)
    refine (term_c x.t w4).mono ?_
    rintro _ w5 ⟨rfl, l5⟩
    have B5 : Blk w5 kh (hdC x).toArray 103 := B4.chg (Chg.of_later (ks := []) l5) (by simp)
    have c2 : w5.cell? ⟨kh, 2, none⟩ = some (.int .i64 x.sign) := B5.cell 2
    have c3 : w5.cell? ⟨kh, 3, none⟩ = some (.int .i64 x.value) := B5.cell 3
    have l35 := l4.trans l5
    cases hh : hvOk x with
    | true =>
      unfold hvOk at hh
      simp only [Bool.and_eq_true, decide_eq_true_eq] at hh
      obtain ⟨⟨⟨⟨q1, q2⟩, q3⟩, q4⟩, q5⟩ := hh
      have e2 : decide (x.sign < -1) = false := decide_eq_false (by omega)
      have e3 : decide (1 < x.sign) = false := decide_eq_false (by omega)
      have e4 : decide (x.value < -4611686018427387904) = false := decide_eq_false (by omega)
      have e5 : decide (4611686018427387904 < x.value) = false := decide_eq_false (by omega)
      have hsx : hvOk x = true := by unfold hvOk; simp [q1, q2, q3, q4, q5]
      rw [q1]
      repeat' (first | (simp (disch := omega) only [push_cast, ↓reduceIte, zA, zG, zB, zH, zI, zC, zJ, zK, zL, zD, zE, zF, zM, zN, zO, zP, zQ, reduceCtorEq, not_true_eq_false, not_false_eq_true, c2, c3, e2, e3, e4, e5, addr_add_eq, Nat.zero_add]) | (first | refine iE ?_ ?_ | refine iD ?_ ?_ | refine iQ ?_ ?_ | refine iV ?_ ?_) <;> intro _ | refine And.intro (by omega) ?_ | refine drawn_q ?_ | fail)
      exact ⟨rfl, i + 1, by simp (disch := omega) only [push_cast, ↓reduceIte, zA, zG, zB, zH, zI, zC, zJ, zK, zL, zD, zE, zF, zM, zN, zO, zP, zQ, reduceCtorEq, not_true_eq_false, not_false_eq_true], ⟨by omega, l3.trans l35, by rw [hst, hsx]⟩, by dsimp only; omega⟩
    | false =>
      have hsh : shOk q = false := by unfold shOk; rw [hall3 hh]; simp
      rw [hsh]
      have hno : ¬ (tmOk x.t = true ∧ -1 ≤ x.sign ∧ x.sign ≤ 1 ∧ -4611686018427387904 ≤ x.value ∧ x.value ≤ 4611686018427387904) := by
        rintro ⟨q1, q2, q3, q4, q5⟩
        unfold hvOk at hh
        simp [q1, q2, q3, q4, q5] at hh
      have lf := l2'.trans (l3.trans l35)
      cases ht : tmOk x.t with
      | false =>
        repeat' (first | (simp (disch := omega) only [push_cast, ↓reduceIte, zA, zG, zB, zH, zI, zC, zJ, zK, zL, zD, zE, zF, zM, zN, zO, zP, zQ, reduceCtorEq, not_true_eq_false, not_false_eq_true]) | (first | refine iE ?_ ?_ | refine iD ?_ ?_ | refine iQ ?_ ?_ | refine iV ?_ ?_) <;> intro _ | refine And.intro (by omega) ?_ | refine drawn_q ?_ | fail)
        first | exact ⟨rfl, lf⟩ | exact lf
      | true =>
        repeat' (first | (simp (disch := omega) only [push_cast, ↓reduceIte, zA, zG, zB, zH, zI, zC, zJ, zK, zL, zD, zE, zF, zM, zN, zO, zP, zQ, reduceCtorEq, not_true_eq_false, not_false_eq_true, c2, c3, addr_add_eq, Nat.zero_add]) | (first | refine iE ?_ ?_ | refine iD ?_ ?_ | refine iQ ?_ ?_ | refine iV ?_ ?_) <;> intro _ | refine And.intro (by omega) ?_ | refine drawn_q ?_ | fail)
        all_goals first | exact lf | exact ⟨rfl, lf⟩ | (exfalso; exact hno ⟨ht, by omega, by omega, by omega, by omega⟩)
  have hd2 : decide ((i : Int) < (q.hl.length : Int)) = false := decide_eq_false (by omega)
  rw [List.take_of_length_le (by omega)] at hall2
  have hsh : shOk q = whOk q.wh := by unfold shOk; rw [hsz, hall, hall2]; simp
  rw [hsh]
  obtain ⟨wo, wc, hwv, hw1, hw2⟩ := RecS.slice (FT.ok_iff.1 hq.wh).2.2.2.1
  have b8o := b8
  rw [hwv] at b8
  unfold whOk
  have l03 := l2'.trans l3
  by_cases k0 : q.wh.op = 0
  · have e0 : decide (q.wh.op = 0) = true := decide_eq_true k0
    rw [if_pos k0]
    repeat' (first | (simp (disch := omega) only [push_cast, ↓reduceIte, zA, zG, zB, zH, zI, zC, zJ, zK, zL, zD, zE, zF, zM, zN, zO, zP, zQ, reduceCtorEq, not_true_eq_false, not_false_eq_true, b5, b6, b7, b8, b9, hd2, e0, addr_add_eq, Nat.zero_add]) | (first | refine iE ?_ ?_ | refine iD ?_ ?_ | refine iQ ?_ ?_ | refine iV ?_ ?_) <;> intro _ | refine And.intro (by omega) ?_ | refine drawn_q ?_ | fail)
    all_goals (refine ⟨congrArg Value.bool ?_, l03⟩)
    all_goals (clear b5 b6 b7 b8 b8o b9 B1 B2 l1 l2 l3 l03 l2' hq a0 a4 a5 a6 a7 a8 a9 eca htv hhv hbv hwv)
    all_goals simp_all
  · have e0 : decide (q.wh.op = 0) = false := decide_eq_false k0
    rw [if_neg k0]
    have fw : cellsAt w3 ⟨kf, 5, none⟩ 4 = some (ftC q.wh) := by
      refine cellsAt_of 4 _ _ rfl fun i x hx => ?_
      rw [addr_add_eq]
      match i, hx with
      | 0, hx => cases hx; exact b5
      | 1, hx => cases hx; exact b6
      | 2, hx => cases hx; exact b7
      | 3, hx => cases hx; exact b8o
      | n + 4, hx => exact absurd hx (by simp [ftC])
    repeat' (first | (simp (disch := omega) only [push_cast, ↓reduceIte, zA, zG, zB, zH, zI, zC, zJ, zK, zL, zD, zE, zF, zM, zN, zO, zP, zQ, reduceCtorEq, not_true_eq_false, not_false_eq_true, b5, b9, hd2, e0, fw, addr_add_eq, Nat.zero_add]) | (first | refine iE ?_ ?_ | refine iD ?_ ?_ | refine iQ ?_ ?_ | refine iV ?_ ?_) <;> intro _ | refine And.intro (by omega) ?_ | refine drawn_q ?_ | fail)
    refine (form_c q.wh 30 w3 (by omega) (hq.wh.later l03)).mono ?_
    rintro _ w4 ⟨rfl, l4⟩
    repeat' (first | (simp (disch := omega) only [push_cast, ↓reduceIte, zA, zG, zB, zH, zI, zC, zJ, zK, zL, zD, zE, zF, zM, zN, zO, zP, zQ, reduceCtorEq, not_true_eq_false, not_false_eq_true]) | (first | refine iE ?_ ?_ | refine iD ?_ ?_ | refine iQ ?_ ?_ | refine iV ?_ ?_) <;> intro _ | refine And.intro (by omega) ?_ | refine drawn_q ?_ | fail)
    first | exact ⟨rfl, (l03.trans l4)⟩ | exact (l03.trans l4)
end Go.Proofs.YtnofalhkapmcnaaGreat
end
section
set_option linter.unusedSimpArgs false
namespace Go.Proofs.YtnofalhkapmcnaaGreat
open Go.Vc Go.Key
set_option maxRecDepth 100000
def mtOk (m : List ByteArray) (t : TD) : Bool := decide (t.f = 0) || inL t.m m
def nsOk (d m : List ByteArray) (q : QD) : Bool := (q.bl ++ q.wh.dims).all (fun s => inL s d) && q.tl.all (mtOk m) && q.hl.all (fun h => mtOk m h.t)
set_option maxHeartbeats 2000000 in
theorem names_c (dv mv : Value) (d m : List ByteArray) (q : QD) (w : World) (h : ScIs w dv mv d m) (hq : q.Ok w) (hcn : q.wh.cnt ≤ 1000000) (hbl : q.bl.length ≤ 1000) : FnC Tryz.prog 46 #[scV dv mv, .agg (qdC q).toArray] w fun v w' => v = .bool (nsOk d m q) ∧ Later w w' := by
  unfold scV
  obtain ⟨to, tc, htv, ht1, ht2⟩ := RecS.slice hq.tv
  obtain ⟨ho, hc, hhv, hh1, hh2⟩ := RecS.slice hq.hv
  obtain ⟨bo, bc, hbv⟩ := Sl.slice hq.bv
  rw [List.length_map] at hbv
  refine enter46 _ _ ?_
  unfold B46
  have eca : (Value.agg (qdC q).toArray).cells = (qdC q).toArray := rfl
  have ecb : (Value.agg #[dv, mv]).cells = #[dv, mv] := rfl
  obtain ⟨l1, s1, F⟩ := box2 w dv mv 24
  have B2 := Blk.new (w.alloc (.cells #[dv, mv] 24)) (qdC q).toArray 32
  have l2 := later_alloc (w.alloc (.cells #[dv, mv] 24)) (.cells (qdC q).toArray 32)
  rw [s1] at B2
  repeat' (first | (simp (disch := omega) only [push_cast, ↓reduceIte, zA, zG, zB, zH, zI, zC, zJ, zK, zL, zD, zE, zF, zM, zN, zO, zP, zQ, reduceCtorEq, not_true_eq_false, not_false_eq_true, eca, ecb, s1]) | (first | refine iE ?_ ?_ | refine iD ?_ ?_ | refine iQ ?_ ?_ | refine iV ?_ ?_) <;> intro _ | refine And.intro (by omega) ?_ | fail)
  have l12 := l1.trans l2
  have FF : ∀ w', Later ((w.alloc (.cells #[dv, mv] 24)).alloc (.cells (qdC q).toArray 32)) w' → w'.cell? ⟨w.heap.size, 0, none⟩ = some dv ∧ cellsAt w' ⟨w.heap.size, 0, none⟩ 2 = some [dv, mv] := fun w' hl => ⟨(F w' (l2.trans hl)).1, (F w' (l2.trans hl)).2.2⟩
  clear F
  have hs1 : ((w.alloc (.cells #[dv, mv] 24)).alloc (.cells (qdC q).toArray 32)).heap.size = w.heap.size + 2 := by rw [World.size_alloc, s1]
  generalize (w.alloc (.cells #[dv, mv] 24)).alloc (.cells (qdC q).toArray 32) = w1 at *
  generalize hkf : w.heap.size = kf at *
  have h1 := h.later l12
  have q1 := hq.later l12
  have fw : ∀ w', Later w1 w' → cellsAt w' ⟨kf + 1, 5, none⟩ 4 = some (ftC q.wh) := fun w' hl => by
    obtain ⟨_, _, _, _, _, b5, b6, b7, b8, _⟩ := qdAt (qdLater B2 hl)
    refine cellsAt_of 4 _ _ rfl fun i x hx => ?_
    rw [addr_add_eq]
    match i, hx with
    | 0, hx => cases hx; exact b5
    | 1, hx => cases hx; exact b6
    | 2, hx => cases hx; exact b7
    | 3, hx => cases hx; exact b8
    | n + 4, hx => exact absurd hx (by simp [ftC])
  obtain ⟨a0, _, _, _, a4, _, _, _, _, a9, _⟩ := qdAt B2
  have fw1 := fw w1 (Later.refl _)
  refine drawn_k 7 ?_
  repeat' (first | (simp (disch := omega) only [push_cast, ↓reduceIte, zA, zG, zB, zH, zI, zC, zJ, zK, zL, zD, zE, zF, zM, zN, zO, zP, zQ, reduceCtorEq, not_true_eq_false, not_false_eq_true, a4, fw1, addr_add_eq, Nat.zero_add]) | (first | refine iE ?_ ?_ | refine iD ?_ ?_ | refine iQ ?_ ?_ | refine iV ?_ ?_) <;> intro _ | refine And.intro (by omega) ?_ | fail)
  refine nB_of _ (Lit0 w1.heap.size) (stb_lit0 _ _) (fun w' hl => ?_) ?_
  · repeat' (first | (simp (disch := omega) only [push_cast, ↓reduceIte, zA, zG, zB, zH, zI, zC, zJ, zK, zL, zD, zE, zF, zM, zN, zO, zP, zQ, reduceCtorEq, not_true_eq_false, not_false_eq_true]) | (first | refine iE ?_ ?_ | refine iD ?_ ?_ | refine iQ ?_ ?_ | refine iV ?_ ?_) <;> intro _ | refine And.intro (by omega) ?_ | fail)
    exact ⟨later_alloc _ _, ⟨_, rfl⟩, own_lit w' [] _ 1 0 rfl (by unfold maxLen; omega) hl.size⟩
  repeat' (first | (simp (disch := omega) only [push_cast, ↓reduceIte, zA, zG, zB, zH, zI, zC, zJ, zK, zL, zD, zE, zF, zM, zN, zO, zP, zQ, reduceCtorEq, not_true_eq_false, not_false_eq_true, a4, fw1, addr_add_eq, Nat.zero_add]) | (first | refine iE ?_ ?_ | refine iD ?_ ?_ | refine iQ ?_ ?_ | refine iV ?_ ?_) <;> intro _ | refine And.intro (by omega) ?_ | fail)
  refine nR_app (fun v w' => OwnS w' w1.heap.size v q.bl) (stb_ownS _ _ _) (fun σ' w' hl hp => ?_) ?_
  · obtain ⟨hp26, hp28, _⟩ := hp
    obtain ⟨⟨lb, h26⟩, h26o⟩ : Lit0 w1.heap.size (σ' 13) w' := hp26
    have h28 : σ' 15 = q.bv := hp28
    have hsn := StS.n (q1.later hl).bv
    rw [h26] at h26o
    repeat' (first | (simp (disch := omega) only [push_cast, ↓reduceIte, zA, zG, zB, zH, zI, zC, zJ, zK, zL, zD, zE, zF, zM, zN, zO, zP, zQ, reduceCtorEq, not_true_eq_false, not_false_eq_true, h28, h26]) | (first | refine iE ?_ ?_ | refine iD ?_ ?_ | refine iQ ?_ ?_ | refine iV ?_ ?_) <;> intro _ | refine And.intro (by omega) ?_ | fail)
    refine vAppend_fresh Tryz.underlying22 ti9 rfl (by decide) hsn (by unfold maxLen; omega) (by omega) ?_
    intro v' w'' h0 h1
    rcases Nat.eq_zero_or_pos q.bl.length with hz | hz
    · obtain ⟨rfl, rfl⟩ := h0 hz
      have : q.bl = [] := List.length_eq_zero_iff.1 hz
      rw [this]
      exact ⟨Later.refl _, h26o⟩
    · obtain ⟨ho, hll⟩ := h1 hz
      exact ⟨hll, own_base ho hl.size⟩
  repeat' (first | (simp (disch := omega) only [push_cast, ↓reduceIte, zA, zG, zB, zH, zI, zC, zJ, zK, zL, zD, zE, zF, zM, zN, zO, zP, zQ, reduceCtorEq, not_true_eq_false, not_false_eq_true, a4, fw1, addr_add_eq, Nat.zero_add]) | (first | refine iE ?_ ?_ | refine iD ?_ ?_ | refine iQ ?_ ?_ | refine iV ?_ ?_) <;> intro _ | refine And.intro (by omega) ?_ | fail)
  refine NFn.of hb53 (fun v w' => OwnS w' w1.heap.size v q.wh.dims) (stb_ownS _ _ _) (fun w' hl => (dims_c q.wh w' hcn (q1.wh.later hl)).mono fun v w'' hv => ⟨own_base hv.1 hl.size, hv.2⟩) ?_
  repeat' (first | (simp (disch := omega) only [push_cast, ↓reduceIte, zA, zG, zB, zH, zI, zC, zJ, zK, zL, zD, zE, zF, zM, zN, zO, zP, zQ, reduceCtorEq, not_true_eq_false, not_false_eq_true, a4, fw1, addr_add_eq, Nat.zero_add]) | (first | refine iE ?_ ?_ | refine iD ?_ ?_ | refine iQ ?_ ?_ | refine iV ?_ ?_) <;> intro _ | refine And.intro (by omega) ?_ | fail)
  rintro w2 l2' X2 hX2 X1 hX1 _ _
  have hdc := FT.dims_cnt q.wh
  refine vAppend_ss hX1 (OwnS.st hX2) (by omega) l2'.size ?_
  intro v3 w3 ho3 hg3 _
  have l13 := l2'.appended hX1 (Nat.le_refl _) hg3
  have hL := OwnS.st ho3
  have hns : nsOk d m q = ((q.bl ++ q.wh.dims).all (fun s => inL s d) && q.tl.all (mtOk m) && q.hl.all (fun h => mtOk m h.t)) := rfl
  rw [hns]
  clear hns ho3 hg3 hX1 hX2
  have hLl : (q.bl ++ q.wh.dims).length ≤ 100000000 := by rw [List.length_append]; omega
  generalize q.bl ++ q.wh.dims = L at *
  obtain ⟨lo, lc, rfl⟩ := Sl.slice hL
  rw [List.length_map] at hL ⊢
  have h3 := h1.later l13
  have q3 := q1.later l13
  repeat' (first | (simp (disch := omega) only [push_cast, ↓reduceIte, zA, zG, zB, zH, zI, zC, zJ, zK, zL, zD, zE, zF, zM, zN, zO, zP, zQ, reduceCtorEq, not_true_eq_false, not_false_eq_true]) | (first | refine iE ?_ ?_ | refine iD ?_ ?_ | refine iQ ?_ ?_ | refine iV ?_ ?_) <;> intro _ | refine And.intro (by omega) ?_ | refine drawn_q ?_ | fail)
  refine vc_loop W46_0 (fun i : Nat => [(4, .bool false), (6, .int .i64 (i : Int))]) (fun i w' => i ≤ L.length ∧ Later w3 w' ∧ (L.take i).all (fun s => inL s d) = true) (fun i => L.length - i) 0 (by decide) ?_ ?_ ?_
  · simp (disch := omega) only [push_cast, ↓reduceIte, zA, zG, zB, zH, zI, zC, zJ, zK, zL, zD, zE, zF, zM, zN, zO, zP, zQ, reduceCtorEq, not_true_eq_false, not_false_eq_true]
  · exact ⟨Nat.zero_le _, Later.refl _, rfl⟩
  rintro i uu w4 ⟨hi, l4, hall⟩
  have f4 := FF w4 (l13.trans l4)
  by_cases hik : i < L.length
  · have hd2 : decide ((i : Int) < (L.length : Int)) = true := decide_eq_true (by omega)
    have hS := Sl.later hL l4
    cases lo with
    | none => have := (Sl.len hS).2.2.2 rfl; have h0 := this.1; simp at h0; rw [h0] at hik; simp at hik
    | some la =>
    have hc := StS.atS hS hik
    repeat' (first | (simp (disch := omega) only [push_cast, ↓reduceIte, zA, zG, zB, zH, zI, zC, zJ, zK, zL, zD, zE, zF, zM, zN, zO, zP, zQ, reduceCtorEq, not_true_eq_false, not_false_eq_true, hd2, hc, f4.1, addr_add_eq, Nat.zero_add]) | (first | refine iE ?_ ?_ | refine iD ?_ ?_ | refine iQ ?_ ?_ | refine iV ?_ ?_) <;> intro _ | refine And.intro (by omega) ?_ | refine drawn_q ?_ | fail)
    refine QFn.of hb30 (v := fndV L[i] d) (fun w' hl => (dfind_c dv d L[i] w' (h3.later (l4.trans hl)).dS).mono fun u w'' hu => ⟨hu.1, by rw [hu.2]; exact Later.refl _⟩) ?_
    unfold fndV
    have hst : (L.take (i + 1)).all (fun s => inL s d) = inL L[i] d := by
      rw [List.take_succ_eq_append_getElem hik, List.all_append, hall]; simp
    have hf0 : inL L[i] d = false → L.all (fun s => inL s d) = false := fun h => by
      rw [List.all_eq_false]
      exact ⟨_, List.getElem_mem hik, by simp [h]⟩
    cases hin : inL L[i] d with
    | true =>
      repeat' (first | (simp (disch := omega) only [push_cast, ↓reduceIte, zA, zG, zB, zH, zI, zC, zJ, zK, zL, zD, zE, zF, zM, zN, zO, zP, zQ, reduceCtorEq, not_true_eq_false, not_false_eq_true]) | (first | refine iE ?_ ?_ | refine iD ?_ ?_ | refine iQ ?_ ?_ | refine iV ?_ ?_) <;> intro _ | refine And.intro (by omega) ?_ | refine drawn_q ?_ | fail)
      exact fun w' hl => ⟨rfl, i + 1, by simp (disch := omega) only [push_cast, ↓reduceIte, zA, zG, zB, zH, zI, zC, zJ, zK, zL, zD, zE, zF, zM, zN, zO, zP, zQ, reduceCtorEq, not_true_eq_false, not_false_eq_true], ⟨by omega, l4.trans hl, by rw [hst, hin]⟩, by dsimp only; omega⟩
    | false =>
      rw [hf0 hin]
      repeat' (first | (simp (disch := omega) only [push_cast, ↓reduceIte, zA, zG, zB, zH, zI, zC, zJ, zK, zL, zD, zE, zF, zM, zN, zO, zP, zQ, reduceCtorEq, not_true_eq_false, not_false_eq_true]) | (first | refine iE ?_ ?_ | refine iD ?_ ?_ | refine iQ ?_ ?_ | refine iV ?_ ?_) <;> intro _ | refine And.intro (by omega) ?_ | refine drawn_q ?_ | fail)
      exact fun w' hl => l12.trans (l13.trans (l4.trans hl))
  have hd2 : decide ((i : Int) < (L.length : Int)) = false := decide_eq_false (by omega)
  rw [List.take_of_length_le (by omega)] at hall
  rw [hall, Bool.true_and]
  clear f4 hall hi
  repeat' (first | (simp (disch := omega) only [push_cast, ↓reduceIte, zA, zG, zB, zH, zI, zC, zJ, zK, zL, zD, zE, zF, zM, zN, zO, zP, zQ, reduceCtorEq, not_true_eq_false, not_false_eq_true, hd2]) | (first | refine iE ?_ ?_ | refine iD ?_ ?_ | refine iQ ?_ ?_ | refine iV ?_ ?_) <;> intro _ | refine And.intro (by omega) ?_ | refine drawn_q ?_ | fail)
  have l14 := l13.trans l4
  refine vc_loop W46_1 (fun i : Nat => [(4, .bool false), (9, .int .i64 (i : Int))]) (fun i w' => i ≤ q.tl.length ∧ Later w4 w' ∧ (q.tl.take i).all (mtOk m) = true) (fun i => q.tl.length - i) 0 (by decide) ?_ ?_ ?_
  · simp (disch := omega) only [push_cast, ↓reduceIte, zA, zG, zB, zH, zI, zC, zJ, zK, zL, zD, zE, zF, zM, zN, zO, zP, zQ, reduceCtorEq, not_true_eq_false, not_false_eq_true]
  · exact ⟨Nat.zero_le _, Later.refl _, rfl⟩
  clear hd2
  rintro i uu w5 ⟨hi, l5, hall⟩
  have l15 := l14.trans l5
  have f5 := FF w5 l15
  obtain ⟨b0, _⟩ := qdAt (qdLater B2 l15)
  rw [htv] at b0
  by_cases hik : i < q.tl.length
  · have hd2 : decide ((i : Int) < (q.tl.length : Int)) = true := decide_eq_true (by omega)
    have h4 := (q1.later l15).tv
    rw [htv] at h4
    obtain ⟨a, rfl, fa⟩ := RecS.at tdC_len h4 hik
    have hst : (q.tl.take (i + 1)).all (mtOk m) = mtOk m q.tl[i] := by
      rw [List.take_succ_eq_append_getElem hik, List.all_append, hall]; simp
    have hf0 : mtOk m q.tl[i] = false → q.tl.all (mtOk m) = false := fun h => by
      rw [List.all_eq_false]
      exact ⟨_, List.getElem_mem hik, by simp [h]⟩
    have fb := f5.2
    repeat' (first | (simp (disch := omega) only [push_cast, ↓reduceIte, zA, zG, zB, zH, zI, zC, zJ, zK, zL, zD, zE, zF, zM, zN, zO, zP, zQ, reduceCtorEq, not_true_eq_false, not_false_eq_true, b0, hd2, fa, fb, addr_add_eq, Nat.zero_add]) | (first | refine iE ?_ ?_ | refine iD ?_ ?_ | refine iQ ?_ ?_ | refine iV ?_ ?_) <;> intro _ | refine And.intro (by omega) ?_ | refine drawn_q ?_ | fail)
    refine QFn.of hb96 (v := .bool (mtOk m q.tl[i])) (fun w' hl => metric_c dv mv d m q.tl[i] w' (h1.later (l15.trans hl))) ?_
    cases hin : mtOk m q.tl[i] with
    | true =>
      repeat' (first | (simp (disch := omega) only [push_cast, ↓reduceIte, zA, zG, zB, zH, zI, zC, zJ, zK, zL, zD, zE, zF, zM, zN, zO, zP, zQ, reduceCtorEq, not_true_eq_false, not_false_eq_true]) | (first | refine iE ?_ ?_ | refine iD ?_ ?_ | refine iQ ?_ ?_ | refine iV ?_ ?_) <;> intro _ | refine And.intro (by omega) ?_ | refine drawn_q ?_ | fail)
      exact fun w' hl => ⟨rfl, i + 1, by simp (disch := omega) only [push_cast, ↓reduceIte, zA, zG, zB, zH, zI, zC, zJ, zK, zL, zD, zE, zF, zM, zN, zO, zP, zQ, reduceCtorEq, not_true_eq_false, not_false_eq_true], ⟨by omega, l5.trans hl, by rw [hst, hin]⟩, by dsimp only; omega⟩
    | false =>
      rw [hf0 hin]
      repeat' (first | (simp (disch := omega) only [push_cast, ↓reduceIte, zA, zG, zB, zH, zI, zC, zJ, zK, zL, zD, zE, zF, zM, zN, zO, zP, zQ, reduceCtorEq, not_true_eq_false, not_false_eq_true]) | (first | refine iE ?_ ?_ | refine iD ?_ ?_ | refine iQ ?_ ?_ | refine iV ?_ ?_) <;> intro _ | refine And.intro (by omega) ?_ | refine drawn_q ?_ | fail)
      exact fun w' hl => l12.trans (l15.trans hl)
  have hd2 : decide ((i : Int) < (q.tl.length : Int)) = false := decide_eq_false (by omega)
  rw [List.take_of_length_le (by omega)] at hall
  rw [hall, Bool.true_and]
  clear f5 hall hi
  repeat' (first | (simp (disch := omega) only [push_cast, ↓reduceIte, zA, zG, zB, zH, zI, zC, zJ, zK, zL, zD, zE, zF, zM, zN, zO, zP, zQ, reduceCtorEq, not_true_eq_false, not_false_eq_true, b0, hd2, addr_add_eq, Nat.zero_add]) | (first | refine iE ?_ ?_ | refine iD ?_ ?_ | refine iQ ?_ ?_ | refine iV ?_ ?_) <;> intro _ | refine And.intro (by omega) ?_ | refine drawn_q ?_ | fail)
  clear b0
  refine vc_loop W46_2 (fun i : Nat => [(4, .bool false), (11, .int .i64 (i : Int))]) (fun i w' => i ≤ q.hl.length ∧ Later w5 w' ∧ (q.hl.take i).all (fun h => mtOk m h.t) = true) (fun i => q.hl.length - i) 0 (by decide) ?_ ?_ ?_
  · simp (disch := omega) only [push_cast, ↓reduceIte, zA, zG, zB, zH, zI, zC, zJ, zK, zL, zD, zE, zF, zM, zN, zO, zP, zQ, reduceCtorEq, not_true_eq_false, not_false_eq_true]
  · exact ⟨Nat.zero_le _, Later.refl _, rfl⟩
  clear hd2
  rintro i uu w6 ⟨hi, l6, hall⟩
  have l16 := l15.trans l6
  have f6 := FF w6 l16
  obtain ⟨_, _, _, _, _, _, _, _, _, b9, _⟩ := qdAt (qdLater B2 l16)
  rw [hhv] at b9
  by_cases hik : i < q.hl.length
  · have hd2 : decide ((i : Int) < (q.hl.length : Int)) = true := decide_eq_true (by omega)
    have h4 := (q1.later l16).hv
    rw [hhv] at h4
    obtain ⟨a, rfl, fa⟩ := RecS.at hdC_len h4 hik
    have fx : cellsAt w6 (a.add (i * 4)) 2 = some (tdC q.hl[i].t) := by
      refine cellsAt_of 2 _ _ rfl fun j y hx => ?_
      match j, hx with
      | 0, hx => cases hx; exact RecS.cell (j := 0) hdC_len h4 hik rfl
      | 1, hx => cases hx; exact RecS.cell (j := 1) hdC_len h4 hik rfl
      | n + 2, hx => exact absurd hx (by simp [tdC])
    have hst : (q.hl.take (i + 1)).all (fun h => mtOk m h.t) = mtOk m q.hl[i].t := by
      rw [List.take_succ_eq_append_getElem hik, List.all_append, hall]; simp
    have hf0 : mtOk m q.hl[i].t = false → q.hl.all (fun h => mtOk m h.t) = false := fun h => by
      rw [List.all_eq_false]
      exact ⟨_, List.getElem_mem hik, by simp [h]⟩
    have fb := f6.2
    repeat' (first | (simp (disch := omega) only [push_cast, ↓reduceIte, zA, zG, zB, zH, zI, zC, zJ, zK, zL, zD, zE, zF, zM, zN, zO, zP, zQ, reduceCtorEq, not_true_eq_false, not_false_eq_true, b9, hd2, fx, fb, addr_add_eq, Nat.zero_add]) | (first | refine iE ?_ ?_ | refine iD ?_ ?_ | refine iQ ?_ ?_ | refine iV ?_ ?_) <;> intro _ | refine And.intro (by omega) ?_ | refine drawn_q ?_ | fail)
    refine QFn.of hb96 (v := .bool (mtOk m q.hl[i].t)) (fun w' hl => metric_c dv mv d m q.hl[i].t w' (h1.later (l16.trans hl))) ?_
    cases hin : mtOk m q.hl[i].t with
    | true =>
      repeat' (first | (simp (disch := omega) only [push_cast, ↓reduceIte, zA, zG, zB, zH, zI, zC, zJ, zK, zL, zD, zE, zF, zM, zN, zO, zP, zQ, reduceCtorEq, not_true_eq_false, not_false_eq_true]) | (first | refine iE ?_ ?_ | refine iD ?_ ?_ | refine iQ ?_ ?_ | refine iV ?_ ?_) <;> intro _ | refine And.intro (by omega) ?_ | refine drawn_q ?_ | fail)
      exact fun w' hl => ⟨rfl, i + 1, by simp (disch := omega) only [push_cast, ↓reduceIte, zA, zG, zB, zH, zI, zC, zJ, zK, zL, zD, zE, zF, zM, zN, zO, zP, zQ, reduceCtorEq, not_true_eq_false, not_false_eq_true], ⟨by omega, l6.trans hl, by rw [hst, hin]⟩, by dsimp only; omega⟩
    | false =>
      rw [hf0 hin]
      repeat' (first | (simp (disch := omega) only [push_cast, ↓reduceIte, zA, zG, zB, zH, zI, zC, zJ, zK, zL, zD, zE, zF, zM, zN, zO, zP, zQ, reduceCtorEq, not_true_eq_false, not_false_eq_true]) | (first | refine iE ?_ ?_ | refine iD ?_ ?_ | refine iQ ?_ ?_ | refine iV ?_ ?_) <;> intro _ | refine And.intro (by omega) ?_ | refine drawn_q ?_ | fail)
      exact fun w' hl => l12.trans (l16.trans hl)
  have hd2 : decide ((i : Int) < (q.hl.length : Int)) = false := decide_eq_false (by omega)
  rw [List.take_of_length_le (by omega)] at hall
  rw [hall]
  repeat' (first | (simp (disch := omega) only [push_cast, ↓reduceIte, zA, zG, zB, zH, zI, zC, zJ, zK, zL, zD, zE, zF, zM, zN, zO, zP, zQ, reduceCtorEq, not_true_eq_false, not_false_eq_true, b9, hd2, addr_add_eq, Nat.zero_add]) | (first | refine iE ?_ ?_ | refine iD ?_ ?_ | refine iQ ?_ ?_ | refine iV ?_ ?_) <;> intro _ | refine And.intro (by omega) ?_ | refine drawn_q ?_ | fail)
  first | exact ⟨rfl, (l12.trans l16)⟩ | exact (l12.trans l16)
end Go.Proofs.YtnofalhkapmcnaaGreat
end
