/- Filters: their form, the dimensions' names and the values in them: the document's. -/
import Derived.Test.YtnofalhkapmcnaaPartE
set_option linter.all false
open Nat renaming reduceEqDiff → zA, reducePow → zB, reduceMul → zC, reduceAdd → zD, reduceSub → zE, reduceLeDiff → zF
open Int renaming reduceToNat → zG, reducePow → zH, reduceNeg → zI, reduceMul → zJ, reduceAdd → zK, reduceSub → zL, reduceLT → zM, reduceLE → zN, reduceEq → zO, reduceMod → zP, reduceDiv → zQ
section
set_option linter.unusedSimpArgs false
namespace Go.Proofs.Ytnofalhkapmcnaa
open Go.Vc Go.Key
set_option maxRecDepth 100000
theorem own_is (op : Int) (d v : ByteArray) (n : Nat) : decide (FT.own op d v n) =
    (if op = 1 then decide (n = 0) else if op = 2 then decide (n = 0) && decide (v = ⟨#[]⟩) else if op = 3 then decide (n = 1) && decide (d = ⟨#[]⟩) && decide (v = ⟨#[]⟩) else if op = 4 ∨ op = 5 then decide (2 ≤ n) && decide (d = ⟨#[]⟩) && decide (v = ⟨#[]⟩) else false) := by
  have e : ∀ s : ByteArray, (s.size = 0) ↔ s = ⟨#[]⟩ := by
    intro s
    constructor
    · intro h
      obtain ⟨a⟩ := s
      have : a.size = 0 := h
      rw [Array.size_eq_zero_iff] at this
      rw [this]
    · rintro rfl; rfl
  unfold FT.own
  simp only [e]
  by_cases h1 : op = 1
  · subst h1; simp
  by_cases h2 : op = 2
  · subst h2; simp
  by_cases h3 : op = 3
  · subst h3; simp [Bool.and_assoc]
  by_cases h4 : op = 4
  · subst h4; simp [Bool.and_assoc]
  by_cases h5 : op = 5
  · subst h5; simp [Bool.and_assoc]
  simp [h1, h2, h3, h4, h5]
set_option maxHeartbeats 400000 in
theorem form_c : ∀ (f : FT) (deep : Nat) (w : World), deep ≤ 1000000 → f.Ok w → FnC Try.prog 123 #[.agg (ftC f).toArray, .int .i64 (deep : Int)] w fun v w' => v = .bool (f.form deep) ∧ Later w w' := by
  intro f
  induction f using FT.ind with
  | h f ih =>
  intro deep w hdp hf
  obtain ⟨h1, h2, h3, h4, h5⟩ := FT.ok_iff.1 hf
  obtain ⟨o, c, hkv, hc1, hc2⟩ := RecS.slice h4
  refine enter123 _ _ ?_
  unfold B123
  have eca : (Value.agg (ftC f).toArray).cells = (ftC f).toArray := rfl
  obtain ⟨l1, s1, B1⟩ := ftBox w f
  rw [FT.form_is]
  repeat' (first | (simp (disch := omega) only [push_cast, ↓reduceIte, zA, zG, zB, zH, zI, zC, zJ, zK, zL, zD, zE, zF, zM, zN, zO, zP, zQ, reduceCtorEq, eca]) | refine iX ?_ ?_ <;> intro _ | refine And.intro (by omega) ?_ | refine dq ?_)
  generalize w.alloc (.cells (ftC f).toArray 39) = w1 at *
  generalize w.heap.size = kf at *
  obtain ⟨a0, a1, a2, a3⟩ := ftAt B1
  rw [hkv] at a3
  by_cases hz : deep = 0
  · subst hz
    have hd : decide (((0 : Nat) : Int) = 0) = true := rfl
    repeat' (first | (simp (disch := omega) only [push_cast, ↓reduceIte, zA, zG, zB, zH, zI, zC, zJ, zK, zL, zD, zE, zF, zM, zN, zO, zP, zQ, reduceCtorEq, a3, hd, addr_add_eq, Nat.zero_add]) | refine iX ?_ ?_ <;> intro _ | refine And.intro (by omega) ?_ | refine dq ?_)
    first | exact ⟨rfl, l1⟩ | exact l1
  have hd : decide ((deep : Int) = 0) = false := decide_eq_false (by omega)
  have hdd : (deep : Int) - 1 = ((deep - 1 : Nat) : Int) := by omega
  have hdb : (deep == 0) = false := by simp [hz]
  repeat' (first | (simp (disch := omega) only [push_cast, ↓reduceIte, zA, zG, zB, zH, zI, zC, zJ, zK, zL, zD, zE, zF, zM, zN, zO, zP, zQ, reduceCtorEq, a3, hd, addr_add_eq, Nat.zero_add]) | refine iX ?_ ?_ <;> intro _ | refine And.intro (by omega) ?_ | refine dq ?_)
  refine vc_loop W123_0 (fun i : Nat => [(4, .bool false), (6, .int .i64 (i : Int))]) (fun i w' => i ≤ f.kids.length ∧ Later w1 w' ∧ (f.kids.take i).all (fun k => k.form (deep - 1)) = true) (fun i => f.kids.length - i) 0 (by decide) ?_ ?_ ?_
  · simp (disch := omega) only [push_cast, ↓reduceIte, zA, zG, zB, zH, zI, zC, zJ, zK, zL, zD, zE, zF, zM, zN, zO, zP, zQ, reduceCtorEq]
  · exact ⟨Nat.zero_le _, Later.refl _, rfl⟩
  rintro i uu w2 ⟨hi, l2, hall⟩
  obtain ⟨b0, b1, b2, b3⟩ := ftAt (ftLater B1 l2)
  rw [hkv] at b3
  by_cases hik : i < f.kids.length
  · have hd2 : decide ((i : Int) < (f.kids.length : Int)) = true := decide_eq_true (by omega)
    rw [hkv] at h4
    obtain ⟨a, rfl, fa⟩ := RecS.at ftC_len (h4.later (l1.trans l2)) hik
    have hk := h5 _ (List.getElem_mem hik)
    have hst : (f.kids.take (i + 1)).all (fun k => k.form (deep - 1)) = (f.kids[i]).form (deep - 1) := by
      rw [List.take_succ_eq_append_getElem hik, List.all_append, hall]; simp
    have hcall := ih _ (List.getElem_mem hik) (deep - 1) w2 (by omega) (hk.later (l1.trans l2))
    rw [← hdd] at hcall
    repeat' (first | (simp (disch := omega) only [push_cast, ↓reduceIte, zA, zG, zB, zH, zI, zC, zJ, zK, zL, zD, zE, zF, zM, zN, zO, zP, zQ, reduceCtorEq, b3, hd2, fa, addr_add_eq, Nat.zero_add]) | refine iX ?_ ?_ <;> intro _ | refine And.intro (by omega) ?_ | refine dq ?_)
    refine hcall.mono ?_
    rintro _ w3 ⟨rfl, l3⟩
    cases hkf : (f.kids[i]).form (deep - 1) with
    | true =>
      repeat' (first | (simp (disch := omega) only [push_cast, ↓reduceIte, zA, zG, zB, zH, zI, zC, zJ, zK, zL, zD, zE, zF, zM, zN, zO, zP, zQ, reduceCtorEq]) | refine iX ?_ ?_ <;> intro _ | refine And.intro (by omega) ?_ | refine dq ?_)
      exact ⟨rfl, i + 1, by simp (disch := omega) only [push_cast, ↓reduceIte, zA, zG, zB, zH, zI, zC, zJ, zK, zL, zD, zE, zF, zM, zN, zO, zP, zQ, reduceCtorEq], ⟨by omega, l2.trans l3, by rw [hst, hkf]⟩, by dsimp only; omega⟩
    | false =>
      have hf0 : f.kids.all (fun k => k.form (deep - 1)) = false := by
        rw [List.all_eq_false]
        exact ⟨_, List.getElem_mem hik, by simp [hkf]⟩
      rw [hf0]
      repeat' (first | (simp (disch := omega) only [push_cast, ↓reduceIte, zA, zG, zB, zH, zI, zC, zJ, zK, zL, zD, zE, zF, zM, zN, zO, zP, zQ, reduceCtorEq]) | refine iX ?_ ?_ <;> intro _ | refine And.intro (by omega) ?_ | refine dq ?_)
      first | exact ⟨(by simp), (l1.trans (l2.trans l3))⟩ | exact (l1.trans (l2.trans l3))
  · have hd2 : decide ((i : Int) < (f.kids.length : Int)) = false := decide_eq_false (by omega)
    rw [List.take_of_length_le (by omega)] at hall
    rw [hall, own_is, hdb]
    have hl := l1.trans l2
    by_cases k1 : f.op = 1
    · have e1 : decide (f.op = 1) = true := decide_eq_true k1
      rw [if_pos k1]
      repeat' (first | (simp (disch := omega) only [push_cast, ↓reduceIte, zA, zG, zB, zH, zI, zC, zJ, zK, zL, zD, zE, zF, zM, zN, zO, zP, zQ, reduceCtorEq, b0, b1, b2, b3, hd2, e1, addr_add_eq, Nat.zero_add]) | refine iX ?_ ?_ <;> intro _ | refine And.intro (by omega) ?_ | refine dq ?_)
      first | exact ⟨(by simp), hl⟩ | exact hl
    have e1 : decide (f.op = 1) = false := decide_eq_false k1
    by_cases k2 : f.op = 2
    · have e2 : decide (f.op = 2) = true := decide_eq_true k2
      rw [if_neg k1, if_pos k2]
      repeat' (first | (simp (disch := omega) only [push_cast, ↓reduceIte, zA, zG, zB, zH, zI, zC, zJ, zK, zL, zD, zE, zF, zM, zN, zO, zP, zQ, reduceCtorEq, b0, b1, b2, b3, hd2, e1, e2, addr_add_eq, Nat.zero_add]) | refine iX ?_ ?_ <;> intro _ | refine And.intro (by omega) ?_ | refine dq ?_)
      all_goals (refine ⟨congrArg Value.bool ?_, hl⟩)
      all_goals (clear ih h1 h2 h3 h4 h5 a0 a1 a2 a3 b0 b1 b2 b3 B1 l1 l2 hall hl s1 eca)
      all_goals (try (have hnat : ∀ n : Nat, ((f.kids.length : Int) = (n : Int)) = (f.kids.length = n) := fun n => by rw [Int.ofNat_inj]))
      all_goals simp_all
      all_goals (first | omega | done)
    have e2 : decide (f.op = 2) = false := decide_eq_false k2
    by_cases k3 : f.op = 3
    · have e3 : decide (f.op = 3) = true := decide_eq_true k3
      rw [if_neg k1, if_neg k2, if_pos k3]
      repeat' (first | (simp (disch := omega) only [push_cast, ↓reduceIte, zA, zG, zB, zH, zI, zC, zJ, zK, zL, zD, zE, zF, zM, zN, zO, zP, zQ, reduceCtorEq, b0, b1, b2, b3, hd2, e1, e2, e3, addr_add_eq, Nat.zero_add]) | refine iX ?_ ?_ <;> intro _ | refine And.intro (by omega) ?_ | refine dq ?_)
      all_goals (refine ⟨congrArg Value.bool ?_, hl⟩)
      all_goals (clear ih h1 h2 h3 h4 h5 a0 a1 a2 a3 b0 b1 b2 b3 B1 l1 l2 hall hl s1 eca)
      all_goals (try (have hnat : ∀ n : Nat, ((f.kids.length : Int) = (n : Int)) = (f.kids.length = n) := fun n => by rw [Int.ofNat_inj]))
      all_goals simp_all
      all_goals (first | omega | done)
    have e3 : decide (f.op = 3) = false := decide_eq_false k3
    by_cases k4 : f.op = 4
    · have e4 : decide (f.op = 4) = true := decide_eq_true k4
      rw [if_neg k1, if_neg k2, if_neg k3, if_pos (Or.inl k4)]
      repeat' (first | (simp (disch := omega) only [push_cast, ↓reduceIte, zA, zG, zB, zH, zI, zC, zJ, zK, zL, zD, zE, zF, zM, zN, zO, zP, zQ, reduceCtorEq, b0, b1, b2, b3, hd2, e1, e2, e3, e4, addr_add_eq, Nat.zero_add]) | refine iX ?_ ?_ <;> intro _ | refine And.intro (by omega) ?_ | refine dq ?_)
      all_goals (refine ⟨congrArg Value.bool ?_, hl⟩)
      all_goals (clear ih h1 h2 h3 h4 h5 a0 a1 a2 a3 b0 b1 b2 b3 B1 l1 l2 hall hl s1 eca)
      all_goals (try (have hnat : ∀ n : Nat, ((f.kids.length : Int) = (n : Int)) = (f.kids.length = n) := fun n => by rw [Int.ofNat_inj]))
      all_goals simp_all
      all_goals (first | omega | done)
    have e4 : decide (f.op = 4) = false := decide_eq_false k4
    by_cases k5 : f.op = 5
    · have e5 : decide (f.op = 5) = true := decide_eq_true k5
      rw [if_neg k1, if_neg k2, if_neg k3, if_pos (Or.inr k5)]
      repeat' (first | (simp (disch := omega) only [push_cast, ↓reduceIte, zA, zG, zB, zH, zI, zC, zJ, zK, zL, zD, zE, zF, zM, zN, zO, zP, zQ, reduceCtorEq, b0, b1, b2, b3, hd2, e1, e2, e3, e4, e5, addr_add_eq, Nat.zero_add]) | refine iX ?_ ?_ <;> intro _ | refine And.intro (by omega) ?_ | refine dq ?_)
      all_goals (refine ⟨congrArg Value.bool ?_, hl⟩)
      all_goals (clear ih h1 h2 h3 h4 h5 a0 a1 a2 a3 b0 b1 b2 b3 B1 l1 l2 hall hl s1 eca)
      all_goals (try (have hnat : ∀ n : Nat, ((f.kids.length : Int) = (n : Int)) = (f.kids.length = n) := fun n => by rw [Int.ofNat_inj]))
      all_goals simp_all
      all_goals (first | omega | done)
    have e5 : decide (f.op = 5) = false := decide_eq_false k5
    rw [if_neg k1, if_neg k2, if_neg k3, if_neg (by omega)]
    repeat' (first | (simp (disch := omega) only [push_cast, ↓reduceIte, zA, zG, zB, zH, zI, zC, zJ, zK, zL, zD, zE, zF, zM, zN, zO, zP, zQ, reduceCtorEq, b0, b1, b2, b3, hd2, e1, e2, e3, e4, e5, addr_add_eq, Nat.zero_add]) | refine iX ?_ ?_ <;> intro _ | refine And.intro (by omega) ?_ | refine dq ?_)
    first | exact ⟨(by simp), hl⟩ | exact hl
end Go.Proofs.Ytnofalhkapmcnaa
end
section
set_option linter.unusedSimpArgs false
namespace Go.Vc
open Go.RowKit in
theorem vAppend_fresh {P : Program} {w : World} {K : Value → World → Prop} {t e ty : TypeId} {z : Value} {s b : Nat} (ht : P.underlying t = some (.slice e)) (hi : (P.info? e).map (fun i => (i.zero, i.size, i.bytes)) = some (some z, s, b)) (hzs : z.cells.size = s) (hsz : 0 < s)
    {db : Nat} {x : Value} {m : Nat} {news : List Value} (hx : SlN w s x m news) (h63 : m ≤ maxLen) (hb : m * b ≤ 140737488355328)
    (hK : ∀ v' w', (m = 0 → v' = .slice (some ⟨db, 0, none⟩) 0 0 ∧ w' = w) → (0 < m → w'.ownsRow w.heap.size e s v' m news ∧ Later w w') → K v' w') : vAppend P #[t, t] ty #[.slice (some ⟨db, 0, none⟩) 0 0, x] K w := by
  obtain ⟨i, hi1, hz, hsi, hbi⟩ := info_parts hi
  unfold vAppend
  obtain ⟨hl, hr⟩ := hx
  rcases hr with ⟨rfl, rfl⟩ | ⟨ad, c, rfl, hc1, hc2, hc3⟩
  · rw [run_val_pure (run_append_nil_src ht hi (some ⟨db, 0, none⟩) 0 0 (Nat.le_refl _) (fun ho => by cases ho))]
    exact hK _ _ (fun _ => ⟨rfl, rfl⟩) (fun h => absurd h (Nat.lt_irrefl _))
  · by_cases hm : m = 0
    · subst hm
      have hn : news = [] := List.eq_nil_of_length_eq_zero (by simpa using hl)
      subst hn
      have hrun := run_append_room_cells (P := P) w t ty e i ht hi1 db 0 0 0 ad 0 c [] (by simp) (fun j u h => by simp at h) (fun u h => by simp at h) (by omega) (fun j h => by simp at h) (fun j h => by simp at h)
      rw [run_val_pure hrun]
      exact hK _ _ (fun _ => ⟨rfl, rfl⟩) (fun h => absurd h (Nat.lt_irrefl _))
    · obtain ⟨v', w', hrun, ho, hg⟩ := run_append_arg_grows (P := P) w t ty e i z s b ht hi1 hz hsi hbi hzs hsz ⟨db, 0, none⟩ 0 0 [] (by simp) (fun j u h => by simp at h) ad m c news hl hc3 (by omega) (by omega) (by simpa using hb)
      rw [run_val_pure hrun]
      refine hK _ _ (fun h => absurd h hm) (fun _ => ⟨by simpa using ho, hg.os, hg.tape, hg.output, hg.size, fun k hk => hg.block k hk (by simp)⟩)
theorem nR_app {P : Program} {args : Array Operand} {ts : Array TypeId} {ty : TypeId} {rs : List Nat} {Ns : NS} {σ : Env} {w : World} {Kv : Value → Prop} {Kn : (Value → World → Prop) → Prop} (V' : Value → World → Prop) (hV' : Stb w V')
    (h : ∀ σ' w', Later w w' → psis Ns σ w' σ' rs → vAppend P ts ty (args.map (ev σ')) (fun v w'' => Later w' w'' ∧ V' v w'') w') (hk : Kn V') : nR P (.call ⟨.builtin .append, args, ts⟩) ty rs Ns σ w Kv Kn :=
  .inr ⟨V', hV', fun σ' w' hl hp => nUp_val (h σ' w' hl hp), hk⟩
end Go.Vc
namespace Go.Proofs.Ytnofalhkapmcnaa
open Go.Vc Go.Key
set_option maxRecDepth 100000
abbrev OwnS (w : World) (B : Nat) (v : Value) (l : List ByteArray) : Prop := w.ownsRow B 9 1 v l.length (l.map Value.string)
theorem stb_ownS (w0 : World) (B : Nat) (l : List ByteArray) : Stb w0 (fun v w => OwnS w B v l) := fun _ _ _ _ hl h => own_later h hl
def Lit0 (B : Nat) (v : Value) (w : World) : Prop := (∃ b, v = .slice (some ⟨b, 0, none⟩) 0 0) ∧ OwnS w B v []
theorem stb_lit0 (w0 : World) (B : Nat) : Stb w0 (Lit0 B) := fun _ _ _ _ hl h => ⟨h.1, own_later h.2 hl⟩
theorem box2 (w : World) (a b : Value) (e : TypeId) : Later w (w.alloc (.cells #[a, b] e)) ∧ (w.alloc (.cells #[a, b] e)).heap.size = w.heap.size + 1 ∧ ∀ w', Later (w.alloc (.cells #[a, b] e)) w' → w'.cell? ⟨w.heap.size, 0, none⟩ = some a ∧ w'.cell? ⟨w.heap.size, 1, none⟩ = some b ∧ cellsAt w' ⟨w.heap.size, 0, none⟩ 2 = some [a, b] := by
  refine ⟨later_alloc _ _, World.size_alloc _ _, fun w' hl => ?_⟩
  have := (Blk.new w #[a, b] e).chg (Chg.of_later (ks := []) hl) (by simp)
  exact ⟨this.cell 0, this.cell 1, Blk.cellsAt (l := [a, b]) this⟩
def StZ (l : List ByteArray) : Prop := ∀ s ∈ l, s.size ≤ 9223372036854775807
structure ScIs (w : World) (dv mv : Value) (d m : List ByteArray) : Prop where
  dS : StS w dv d
  mS : StS w mv m
  dZ : StZ d
  mZ : StZ m
theorem ScIs.later {w w' : World} {dv mv : Value} {d m : List ByteArray} (h : ScIs w dv mv d m) (hl : Later w w') : ScIs w' dv mv d m := ⟨Sl.later h.dS hl, Sl.later h.mS hl, h.dZ, h.mZ⟩
def scV (dv mv : Value) : Value := .agg #[dv, mv]
def ScOk (d m : List ByteArray) : Prop := (∀ x ∈ d ++ m, NmOk x) ∧ (d ++ m).Pairwise (fun x y => x ≠ y) ∧ 1 ≤ d.length ∧ d.length ≤ 6 ∧ m.length ≤ 4
instance (d m : List ByteArray) : Decidable (ScOk d m) := inferInstanceAs (Decidable ((∀ x ∈ d ++ m, NmOk x) ∧ (d ++ m).Pairwise (fun x y => x ≠ y) ∧ 1 ≤ d.length ∧ d.length ≤ 6 ∧ m.length ≤ 4))
theorem StS.n {w : World} {v : Value} {l : List ByteArray} (h : StS w v l) : SlN w 1 v l.length (l.map Value.string) := by
  have := h
  unfold StS Sl at this
  rwa [List.length_map] at this
theorem vAppend_ss {w : World} {K : Value → World → Prop} {ty : TypeId} {B : Nat} {v x : Value} {l r : List ByteArray} (hown : OwnS w B v l) (hx : StS w x r) (h63 : l.length + r.length ≤ 100000000) (hbase : B ≤ w.heap.size)
    (hK : ∀ v' w', OwnS w' B v' (l ++ r) → w.grownBy w' v.ownBlock → (v'.ownBlock = v.ownBlock ∨ v'.ownBlock = some w.heap.size) → K v' w') : vAppend Try.prog #[22, 22] ty #[v, x] K w := by
  refine vAppend_at Try.underlying22 ti9 rfl (by decide) hown hx.n ?_ (by unfold maxLen; omega) (by omega) hbase ?_
  · intro u hu
    obtain ⟨p, hp, rfl⟩ := List.mem_map.1 hu
    rfl
  · intro v' w' ho hg hs
    refine hK v' w' ?_ hg hs
    unfold OwnS
    simpa using ho
theorem ok_step {L : List ByteArray} {i : Nat} (hi : i < L.length) (hd : (L.take i).Pairwise (fun x y => x ≠ y)) (hn : ∀ j (h : j < L.length), j < i → L[j] ≠ L[i]) : (L.take (i + 1)).Pairwise (fun x y => x ≠ y) := by
  rw [take_snoc L i hi, List.pairwise_append]
  refine ⟨hd, by simp, fun a ha b hb => ?_⟩
  rw [List.mem_singleton.1 hb]
  obtain ⟨j, hj, rfl⟩ := List.getElem_of_mem ha
  rw [List.length_take] at hj
  rw [List.getElem_take]
  exact hn j (by omega) (by omega)
theorem dschema_c (dv mv : Value) (d m : List ByteArray) (w : World) (h : ScIs w dv mv d m) (fd : d.length ≤ 2000000) (fm : m.length ≤ 2000000) : FnC Try.prog 55 #[scV dv mv] w fun r w' => r = .bool (decide (ScOk d m)) ∧ Later w w' := by
  unfold scV
  obtain ⟨od, cd, hdv⟩ := Sl.slice h.dS
  obtain ⟨om, cm, hmv⟩ := Sl.slice h.mS
  rw [List.length_map] at hdv hmv
  refine enter55 _ ?_
  unfold B55
  obtain ⟨l1, s1, F⟩ := box2 w dv mv 24
  have eca : (Value.agg #[dv, mv]).cells = #[dv, mv] := rfl
  repeat' (first | (simp (disch := omega) only [push_cast, ↓reduceIte, zA, zG, zB, zH, zI, zC, zJ, zK, zL, zD, zE, zF, zM, zN, zO, zP, zQ, reduceCtorEq, eca, s1]) | refine iX ?_ ?_ <;> intro _ | refine And.intro (by omega) ?_ | fail)
  generalize w.alloc (.cells #[dv, mv] 24) = w1 at *
  obtain ⟨a0, a1, _⟩ := F w1 (Later.refl _)
  have h1 := h.later l1
  refine drawn_k 6 ?_
  repeat' (first | (simp (disch := omega) only [push_cast, ↓reduceIte, zA, zG, zB, zH, zI, zC, zJ, zK, zL, zD, zE, zF, zM, zN, zO, zP, zQ, reduceCtorEq, a0, a1, addr_add_eq, Nat.zero_add]) | refine iX ?_ ?_ <;> intro _ | refine And.intro (by omega) ?_ | fail)
  refine nB_of _ (Lit0 w1.heap.size) (stb_lit0 _ _) (fun w' hl => ?_) ?_
  · repeat' (first | (simp (disch := omega) only [push_cast, ↓reduceIte, zA, zG, zB, zH, zI, zC, zJ, zK, zL, zD, zE, zF, zM, zN, zO, zP, zQ, reduceCtorEq]) | refine iX ?_ ?_ <;> intro _ | refine And.intro (by omega) ?_ | fail)
    exact ⟨later_alloc _ _, ⟨_, rfl⟩, own_lit w' [] _ 1 0 rfl (by unfold maxLen; omega) hl.size⟩
  repeat' (first | (simp (disch := omega) only [push_cast, ↓reduceIte, zA, zG, zB, zH, zI, zC, zJ, zK, zL, zD, zE, zF, zM, zN, zO, zP, zQ, reduceCtorEq, a0, a1, addr_add_eq, Nat.zero_add]) | refine iX ?_ ?_ <;> intro _ | refine And.intro (by omega) ?_ | fail)
  refine nR_app (fun v w' => OwnS w' w1.heap.size v d) (stb_ownS _ _ _) (fun σ' w' hl hp => ?_) ?_
  · obtain ⟨hp26, hp28, _⟩ := hp
    obtain ⟨⟨lb, h26⟩, h26o⟩ : Lit0 w1.heap.size (σ' 7) w' := hp26
    have h28 : σ' 9 = dv := hp28
    have hsn := (h1.later hl).dS.n
    rw [h26] at h26o
    repeat' (first | (simp (disch := omega) only [push_cast, ↓reduceIte, zA, zG, zB, zH, zI, zC, zJ, zK, zL, zD, zE, zF, zM, zN, zO, zP, zQ, reduceCtorEq, h28, h26]) | refine iX ?_ ?_ <;> intro _ | refine And.intro (by omega) ?_ | fail)
    refine vAppend_fresh Try.underlying22 ti9 rfl (by decide) hsn (by unfold maxLen; omega) (by omega) ?_
    intro v' w'' h0 h1
    rcases Nat.eq_zero_or_pos d.length with hz | hz
    · obtain ⟨rfl, rfl⟩ := h0 hz
      have : d = [] := List.length_eq_zero_iff.1 hz
      rw [this]
      exact ⟨Later.refl _, h26o⟩
    · obtain ⟨ho, hll⟩ := h1 hz
      exact ⟨hll, own_base ho hl.size⟩
  repeat' (first | (simp (disch := omega) only [push_cast, ↓reduceIte, zA, zG, zB, zH, zI, zC, zJ, zK, zL, zD, zE, zF, zM, zN, zO, zP, zQ, reduceCtorEq, a0, a1, addr_add_eq, Nat.zero_add]) | refine iX ?_ ?_ <;> intro _ | refine And.intro (by omega) ?_ | fail)
  rintro w2 l2 X hX _ _
  refine vAppend_ss hX (h1.later l2).mS (by omega) l2.size ?_
  intro v3 w3 ho3 hg3 _
  have l13 := l2.appended hX (Nat.le_refl _) hg3
  have hL := Sl.of_own ho3
  have hLn : (d ++ m).length = d.length + m.length := List.length_append
  have hZ : StZ (d ++ m) := fun s hs => by
    rcases List.mem_append.1 hs with hs | hs
    · exact h.dZ s hs
    · exact h.mZ s hs
  have hL : StS w3 v3 (d ++ m) := hL
  have hOk : ScOk d m = ((∀ x ∈ d ++ m, NmOk x) ∧ (d ++ m).Pairwise (fun x y => x ≠ y) ∧ 1 ≤ d.length ∧ d.length ≤ 6 ∧ m.length ≤ 4) := rfl
  generalize d ++ m = L at *
  obtain ⟨o3, c3, rfl⟩ := Sl.slice hL
  rw [List.length_map] at hL ⊢
  clear hX ho3 hg3
  repeat' (first | (simp (disch := omega) only [push_cast, ↓reduceIte, zA, zG, zB, zH, zI, zC, zJ, zK, zL, zD, zE, zF, zM, zN, zO, zP, zQ, reduceCtorEq]) | refine iX ?_ ?_ <;> intro _ | refine And.intro (by omega) ?_ | refine dq ?_)
  refine vc_loop W55_0 (fun i : Nat => [(2, .bool false), (4, .int .i64 (i : Int))])
    (fun i w' => i ≤ L.length ∧ Later w3 w' ∧ (∀ j (h : j < L.length), j < i → NmOk L[j]) ∧ (L.take i).Pairwise (fun x y => x ≠ y)) (fun i => L.length - i) 0 (by decide) ?_ ?_ ?_
  · simp (disch := omega) only [push_cast, ↓reduceIte, zA, zG, zB, zH, zI, zC, zJ, zK, zL, zD, zE, zF, zM, zN, zO, zP, zQ, reduceCtorEq]
  · exact ⟨by omega, Later.refl _, fun j _ hj => absurd hj (Nat.not_lt_zero _), by simp⟩
  rintro i uu w4 ⟨hi, l4, hA, hP⟩
  have l04 := (l1.trans l13).trans l4
  by_cases hlt : i < L.length
  · cases o3 with
    | none => have := (Sl.len hL).2.2.2 rfl; simp at this; rw [this.1] at hlt; simp at hlt
    | some a =>
    have hc := StS.atS (Sl.later hL l4) hlt
    repeat' (first | (simp (disch := omega) only [push_cast, ↓reduceIte, zA, zG, zB, zH, zI, zC, zJ, zK, zL, zD, zE, zF, zM, zN, zO, zP, zQ, reduceCtorEq, hc]) | refine iX ?_ ?_ <;> intro _ | refine And.intro (by omega) ?_ | refine dq ?_)
    refine (dname_c L[i] w4 (hZ _ (List.getElem_mem _))).mono ?_
    rintro _ w5 ⟨rfl, l5⟩
    by_cases hn : NmOk L[i]
    · rw [decide_eq_true hn]
      repeat' (first | (simp (disch := omega) only [push_cast, ↓reduceIte, zA, zG, zB, zH, zI, zC, zJ, zK, zL, zD, zE, zF, zM, zN, zO, zP, zQ, reduceCtorEq]) | refine iX ?_ ?_ <;> intro _ | refine And.intro (by omega) ?_ | refine dq ?_)
      refine vc_loop W55_1 (fun i : Nat => [(2, .bool false), (6, .int .i64 (i : Int))])
        (fun k w' => k ≤ i ∧ Later w5 w' ∧ (∀ j (h : j < L.length), j < k → L[j] ≠ L[i])) (fun k => i - k) 0 (by decide) ?_ ?_ ?_
      · simp (disch := omega) only [push_cast, ↓reduceIte, zA, zG, zB, zH, zI, zC, zJ, zK, zL, zD, zE, zF, zM, zN, zO, zP, zQ, reduceCtorEq]
      · exact ⟨by omega, Later.refl _, fun j _ hj => absurd hj (Nat.not_lt_zero _)⟩
      rintro k uu2 w6 ⟨hk, l6, hB⟩
      have l46 := l5.trans l6
      by_cases hki : k < i
      · have c1 := StS.atS (Sl.later hL (l4.trans l46)) (show k < L.length by omega)
        have c2 := StS.atS (Sl.later hL (l4.trans l46)) hlt
        by_cases he : L[k] = L[i]
        · have hno : decide (ScOk d m) = false := decide_eq_false fun h => by
            rw [hOk] at h
            exact List.pairwise_iff_getElem.1 h.2.1 k i (by omega) hlt hki he
          repeat' (first | (simp (disch := omega) only [push_cast, ↓reduceIte, zA, zG, zB, zH, zI, zC, zJ, zK, zL, zD, zE, zF, zM, zN, zO, zP, zQ, reduceCtorEq, c1, c2, he, decide_true]) | refine iX ?_ ?_ <;> intro _ | refine And.intro (by omega) ?_ | refine dq ?_)
          intro w7 l7
          repeat' (first | (simp (disch := omega) only [push_cast, ↓reduceIte, zA, zG, zB, zH, zI, zC, zJ, zK, zL, zD, zE, zF, zM, zN, zO, zP, zQ, reduceCtorEq]) | refine iX ?_ ?_ <;> intro _ | refine And.intro (by omega) ?_ | refine dq ?_)
          first | exact ⟨by rw [hno], ((l04.trans l46).trans l7)⟩ | exact ((l04.trans l46).trans l7)
        · repeat' (first | (simp (disch := omega) only [push_cast, ↓reduceIte, zA, zG, zB, zH, zI, zC, zJ, zK, zL, zD, zE, zF, zM, zN, zO, zP, zQ, reduceCtorEq, c1, c2, he, decide_false]) | refine iX ?_ ?_ <;> intro _ | refine And.intro (by omega) ?_ | refine dq ?_)
          intro w7 l7
          repeat' (first | (simp (disch := omega) only [push_cast, ↓reduceIte, zA, zG, zB, zH, zI, zC, zJ, zK, zL, zD, zE, zF, zM, zN, zO, zP, zQ, reduceCtorEq]) | refine iX ?_ ?_ <;> intro _ | refine And.intro (by omega) ?_ | refine dq ?_)
          refine ⟨rfl, k + 1, by simp (disch := omega) only [push_cast, ↓reduceIte, zA, zG, zB, zH, zI, zC, zJ, zK, zL, zD, zE, zF, zM, zN, zO, zP, zQ, reduceCtorEq], ⟨by omega, l6.trans l7, fun j hj hjk => ?_⟩, by dsimp only; omega⟩
          by_cases h : j < k
          · exact hB j hj h
          · have : j = k := by omega
            subst this
            exact he
      · have hki' : k = i := by omega
        subst hki'
        repeat' (first | (simp (disch := omega) only [push_cast, ↓reduceIte, zA, zG, zB, zH, zI, zC, zJ, zK, zL, zD, zE, zF, zM, zN, zO, zP, zQ, reduceCtorEq]) | refine iX ?_ ?_ <;> intro _ | refine And.intro (by omega) ?_ | refine dq ?_)
        refine ⟨rfl, k + 1, by simp (disch := omega) only [push_cast, ↓reduceIte, zA, zG, zB, zH, zI, zC, zJ, zK, zL, zD, zE, zF, zM, zN, zO, zP, zQ, reduceCtorEq], ⟨by omega, l4.trans l46, fun j hj hjk => ?_, ok_step hlt hP hB⟩, by dsimp only; omega⟩
        by_cases h : j < k
        · exact hA j hj h
        · have : j = k := by omega
          subst this
          exact hn
    · have hno : decide (ScOk d m) = false := decide_eq_false fun h => by
        rw [hOk] at h
        exact hn (h.1 _ (List.getElem_mem _))
      rw [decide_eq_false hn]
      repeat' (first | (simp (disch := omega) only [push_cast, ↓reduceIte, zA, zG, zB, zH, zI, zC, zJ, zK, zL, zD, zE, zF, zM, zN, zO, zP, zQ, reduceCtorEq]) | refine iX ?_ ?_ <;> intro _ | refine And.intro (by omega) ?_ | refine dq ?_)
      first | exact ⟨by rw [hno], (l04.trans l5)⟩ | exact (l04.trans l5)
  · have hd : decide (ScOk d m) = decide (1 ≤ d.length ∧ d.length ≤ 6 ∧ m.length ≤ 4) := by
      refine decide_eq_decide.2 ?_
      rw [hOk]
      refine ⟨fun h => h.2.2, fun h => ⟨fun x hx => ?_, ?_, h⟩⟩
      · obtain ⟨j, hj, rfl⟩ := List.getElem_of_mem hx
        exact hA j hj (by omega)
      · rw [List.take_of_length_le (by omega)] at hP
        exact hP
    obtain ⟨a0, a1, _⟩ := F w4 (l13.trans l4)
    rw [hdv] at a0
    rw [hmv] at a1
    rw [hd]
    by_cases h1 : 1 ≤ d.length
    · by_cases h2 : d.length ≤ 6
      · by_cases h3 : m.length ≤ 4
        · repeat' (first | (simp (disch := omega) only [push_cast, ↓reduceIte, zA, zG, zB, zH, zI, zC, zJ, zK, zL, zD, zE, zF, zM, zN, zO, zP, zQ, reduceCtorEq, a0, a1, addr_add_eq, Nat.zero_add]) | refine iX ?_ ?_ <;> intro _ | refine And.intro (by omega) ?_ | refine dq ?_)
          first | exact ⟨congrArg Value.bool ((decide_eq_true (by omega)).trans (decide_eq_true (by omega)).symm), l04⟩ | exact l04
        · repeat' (first | (simp (disch := omega) only [push_cast, ↓reduceIte, zA, zG, zB, zH, zI, zC, zJ, zK, zL, zD, zE, zF, zM, zN, zO, zP, zQ, reduceCtorEq, a0, a1, addr_add_eq, Nat.zero_add]) | refine iX ?_ ?_ <;> intro _ | refine And.intro (by omega) ?_ | refine dq ?_)
          first | exact ⟨congrArg Value.bool ((decide_eq_false (by omega)).trans (decide_eq_false (by omega)).symm), l04⟩ | exact l04
      · repeat' (first | (simp (disch := omega) only [push_cast, ↓reduceIte, zA, zG, zB, zH, zI, zC, zJ, zK, zL, zD, zE, zF, zM, zN, zO, zP, zQ, reduceCtorEq, a0, a1, addr_add_eq, Nat.zero_add]) | refine iX ?_ ?_ <;> intro _ | refine And.intro (by omega) ?_ | refine dq ?_)
        first | exact ⟨congrArg Value.bool ((decide_eq_false (by omega)).trans (decide_eq_false (by omega)).symm), congrArg Value.bool (decide_eq_false (by omega)).symm, l04⟩ | exact ⟨congrArg Value.bool (decide_eq_false (by omega)).symm, l04⟩ | exact l04
    · repeat' (first | (simp (disch := omega) only [push_cast, ↓reduceIte, zA, zG, zB, zH, zI, zC, zJ, zK, zL, zD, zE, zF, zM, zN, zO, zP, zQ, reduceCtorEq, a0, a1, addr_add_eq, Nat.zero_add]) | refine iX ?_ ?_ <;> intro _ | refine And.intro (by omega) ?_ | refine dq ?_)
      first | exact ⟨congrArg Value.bool ((decide_eq_false (by omega)).trans (decide_eq_false (by omega)).symm), l04⟩ | exact ⟨congrArg Value.bool (decide_eq_false (by omega)).symm, l04⟩ | trace_state
end Go.Proofs.Ytnofalhkapmcnaa
end
section
set_option linter.unusedSimpArgs false
namespace Go.Proofs.Ytnofalhkapmcnaa
open Go.Vc Go.Key
set_option maxRecDepth 100000
theorem OwnS.st {w : World} {B : Nat} {v : Value} {l : List ByteArray} (h : OwnS w B v l) : StS w v l := by
  have := SlN.of_own h
  unfold StS Sl
  rw [List.length_map]
  exact this
def dimsTo (f : FT) (i : Nat) : List ByteArray := (if f.op = 1 ∨ f.op = 2 then [f.dim] else []) ++ (f.kids.take i).flatMap FT.dims
theorem dimsTo_len (f : FT) (i : Nat) : (dimsTo f i).length ≤ f.cnt := by
  have h1 : f.dims = dimsTo f i ++ (f.kids.drop i).flatMap FT.dims := by
    rw [FT.dims_is, dimsTo, List.append_assoc, ← List.flatMap_append, List.take_append_drop]
  have h2 := FT.dims_cnt f
  rw [h1, List.length_append] at h2
  omega
theorem dimsTo_succ (f : FT) {i : Nat} (hi : i < f.kids.length) : dimsTo f (i + 1) = dimsTo f i ++ (f.kids[i]).dims := by
  unfold dimsTo
  rw [List.take_succ_eq_append_getElem hi, List.flatMap_append]
  simp
theorem dims_c : ∀ (f : FT) (w : World), f.cnt ≤ 1000000 → f.Ok w → FnC Try.prog 83 #[.agg (ftC f).toArray] w fun v w' => OwnS w' w.heap.size v f.dims ∧ Later w w' := by
  intro f
  induction f using FT.ind with
  | h f ih =>
  intro w hcn hf
  obtain ⟨h1, h2, h3, h4, h5⟩ := FT.ok_iff.1 hf
  obtain ⟨o, c, hkv, hc1, hc2⟩ := RecS.slice h4
  refine enter83 _ ?_
  unfold B83
  have eca : (Value.agg (ftC f).toArray).cells = (ftC f).toArray := rfl
  obtain ⟨l1, s1, B1⟩ := ftBox w f
  repeat' (first | (simp (disch := omega) only [push_cast, ↓reduceIte, zA, zG, zB, zH, zI, zC, zJ, zK, zL, zD, zE, zF, zM, zN, zO, zP, zQ, reduceCtorEq, eca]) | refine iX ?_ ?_ <;> intro _ | refine And.intro (by omega) ?_ | refine dq ?_)
  generalize w.alloc (.cells (ftC f).toArray 39) = w1 at *
  generalize hkf : w.heap.size = kf at *
  obtain ⟨a0, a1, a2, a3⟩ := ftAt B1
  have hcl := FT.cntL_len f.kids
  have hci := FT.cnt_is f
  by_cases k1 : f.op = 1
  · have e1 : decide (f.op = 1) = true := decide_eq_true k1
    have hd0 : dimsTo f 0 = [f.dim] := by
      unfold dimsTo
      rw [if_pos (Or.inl k1)]; rfl
    repeat' (first | (simp (disch := omega) only [push_cast, ↓reduceIte, zA, zG, zB, zH, zI, zC, zJ, zK, zL, zD, zE, zF, zM, zN, zO, zP, zQ, reduceCtorEq, a0, a1, e1, addr_add_eq, Nat.zero_add]) | refine iX ?_ ?_ <;> intro _ | refine And.intro (by omega) ?_ | refine dq ?_)
    refine vAppend_one Try.underlying22 ti9 rfl (own_nil w1 w1.heap.size 9 1) rfl (by unfold maxLen; omega) (by omega) (Nat.le_refl _) ?_
    intro V0 w2 hO hlat
    have l2 : Later w1 w2 := hlat w1 (Later.refl _) (Nat.le_refl _)
    have hO : OwnS w2 w1.heap.size V0 (dimsTo f 0) := by rw [hd0]; exact hO
    repeat' (first | (simp (disch := omega) only [push_cast, ↓reduceIte, zA, zG, zB, zH, zI, zC, zJ, zK, zL, zD, zE, zF, zM, zN, zO, zP, zQ, reduceCtorEq]) | refine iX ?_ ?_ <;> intro _ | refine And.intro (by omega) ?_ | refine dq ?_)
    refine vc_loop W83_0 (fun p : Nat × Value => [(3, p.2), (4, .int .i64 (p.1 : Int))]) (fun p w' => p.1 ≤ f.kids.length ∧ Later w1 w' ∧ OwnS w' w1.heap.size p.2 (dimsTo f p.1)) (fun p => f.kids.length - p.1) (0, V0) (by decide) ?_ ?_ ?_
    · simp (disch := omega) only [push_cast, ↓reduceIte, zA, zG, zB, zH, zI, zC, zJ, zK, zL, zD, zE, zF, zM, zN, zO, zP, zQ, reduceCtorEq]
    · exact ⟨Nat.zero_le _, l2, hO⟩
    rintro ⟨i, x⟩ uu w3 ⟨hi, l3, ho⟩
    dsimp only at hi ho ⊢
    obtain ⟨b0, b1, b2, b3⟩ := ftAt (ftLater B1 l3)
    rw [hkv] at b3
    by_cases hik : i < f.kids.length
    · have hd2 : decide ((i : Int) < (f.kids.length : Int)) = true := decide_eq_true (by omega)
      rw [hkv] at h4
      obtain ⟨a, rfl, fa⟩ := RecS.at ftC_len (h4.later (l1.trans l3)) hik
      have hk := h5 _ (List.getElem_mem hik)
      have hkc := FT.cntL_mem (List.getElem_mem hik)
      have hn1 := dimsTo_len f (i + 1)
      rw [dimsTo_succ f hik, List.length_append] at hn1
      repeat' (first | (simp (disch := omega) only [push_cast, ↓reduceIte, zA, zG, zB, zH, zI, zC, zJ, zK, zL, zD, zE, zF, zM, zN, zO, zP, zQ, reduceCtorEq, b3, hd2, fa, addr_add_eq, Nat.zero_add]) | refine iX ?_ ?_ <;> intro _ | refine And.intro (by omega) ?_ | refine dq ?_)
      refine (ih _ (List.getElem_mem hik) w3 (by omega) (hk.later (l1.trans l3))).mono ?_
      rintro x2 w4 ⟨ho2, l4⟩
      repeat' (first | (simp (disch := omega) only [push_cast, ↓reduceIte, zA, zG, zB, zH, zI, zC, zJ, zK, zL, zD, zE, zF, zM, zN, zO, zP, zQ, reduceCtorEq]) | refine iX ?_ ?_ <;> intro _ | refine And.intro (by omega) ?_ | refine dq ?_)
      refine vAppend_ss (own_later ho l4) (OwnS.st ho2) (by omega) (l3.trans l4).size ?_
      intro v' w' ho' hg _
      have l5 : Later w1 w' := (l3.trans l4).appended (own_later ho l4) (Nat.le_refl _) hg
      rw [← dimsTo_succ f hik] at ho'
      repeat' (first | (simp (disch := omega) only [push_cast, ↓reduceIte, zA, zG, zB, zH, zI, zC, zJ, zK, zL, zD, zE, zF, zM, zN, zO, zP, zQ, reduceCtorEq]) | refine iX ?_ ?_ <;> intro _ | refine And.intro (by omega) ?_ | refine dq ?_)
      exact ⟨rfl, (i + 1, v'), by simp (disch := omega) only [push_cast, ↓reduceIte, zA, zG, zB, zH, zI, zC, zJ, zK, zL, zD, zE, zF, zM, zN, zO, zP, zQ, reduceCtorEq], ⟨by dsimp only; omega, l5, ho'⟩, by dsimp only; omega⟩
    · have hd2 : decide ((i : Int) < (f.kids.length : Int)) = false := decide_eq_false (by omega)
      have hdm : dimsTo f i = f.dims := by rw [FT.dims_is, dimsTo, List.take_of_length_le (by omega)]
      rw [hdm] at ho
      repeat' (first | (simp (disch := omega) only [push_cast, ↓reduceIte, zA, zG, zB, zH, zI, zC, zJ, zK, zL, zD, zE, zF, zM, zN, zO, zP, zQ, reduceCtorEq, b3, hd2, addr_add_eq, Nat.zero_add]) | refine iX ?_ ?_ <;> intro _ | refine And.intro (by omega) ?_ | refine dq ?_)
      first | exact ⟨(own_base ho (by omega)), (l1.trans l3)⟩ | exact (l1.trans l3)
  have e1 : decide (f.op = 1) = false := decide_eq_false k1
  by_cases k2 : f.op = 2
  · have e2 : decide (f.op = 2) = true := decide_eq_true k2
    have hd0 : dimsTo f 0 = [f.dim] := by
      unfold dimsTo
      rw [if_pos (Or.inr k2)]; rfl
    repeat' (first | (simp (disch := omega) only [push_cast, ↓reduceIte, zA, zG, zB, zH, zI, zC, zJ, zK, zL, zD, zE, zF, zM, zN, zO, zP, zQ, reduceCtorEq, a0, a1, e1, e2, addr_add_eq, Nat.zero_add]) | refine iX ?_ ?_ <;> intro _ | refine And.intro (by omega) ?_ | refine dq ?_)
    refine vAppend_one Try.underlying22 ti9 rfl (own_nil w1 w1.heap.size 9 1) rfl (by unfold maxLen; omega) (by omega) (Nat.le_refl _) ?_
    intro V0 w2 hO hlat
    have l2 : Later w1 w2 := hlat w1 (Later.refl _) (Nat.le_refl _)
    have hO : OwnS w2 w1.heap.size V0 (dimsTo f 0) := by rw [hd0]; exact hO
    repeat' (first | (simp (disch := omega) only [push_cast, ↓reduceIte, zA, zG, zB, zH, zI, zC, zJ, zK, zL, zD, zE, zF, zM, zN, zO, zP, zQ, reduceCtorEq]) | refine iX ?_ ?_ <;> intro _ | refine And.intro (by omega) ?_ | refine dq ?_)
    refine vc_loop W83_0 (fun p : Nat × Value => [(3, p.2), (4, .int .i64 (p.1 : Int))]) (fun p w' => p.1 ≤ f.kids.length ∧ Later w1 w' ∧ OwnS w' w1.heap.size p.2 (dimsTo f p.1)) (fun p => f.kids.length - p.1) (0, V0) (by decide) ?_ ?_ ?_
    · simp (disch := omega) only [push_cast, ↓reduceIte, zA, zG, zB, zH, zI, zC, zJ, zK, zL, zD, zE, zF, zM, zN, zO, zP, zQ, reduceCtorEq]
    · exact ⟨Nat.zero_le _, l2, hO⟩
    rintro ⟨i, x⟩ uu w3 ⟨hi, l3, ho⟩
    dsimp only at hi ho ⊢
    obtain ⟨b0, b1, b2, b3⟩ := ftAt (ftLater B1 l3)
    rw [hkv] at b3
    by_cases hik : i < f.kids.length
    · have hd2 : decide ((i : Int) < (f.kids.length : Int)) = true := decide_eq_true (by omega)
      rw [hkv] at h4
      obtain ⟨a, rfl, fa⟩ := RecS.at ftC_len (h4.later (l1.trans l3)) hik
      have hk := h5 _ (List.getElem_mem hik)
      have hkc := FT.cntL_mem (List.getElem_mem hik)
      have hn1 := dimsTo_len f (i + 1)
      rw [dimsTo_succ f hik, List.length_append] at hn1
      repeat' (first | (simp (disch := omega) only [push_cast, ↓reduceIte, zA, zG, zB, zH, zI, zC, zJ, zK, zL, zD, zE, zF, zM, zN, zO, zP, zQ, reduceCtorEq, b3, hd2, fa, addr_add_eq, Nat.zero_add]) | refine iX ?_ ?_ <;> intro _ | refine And.intro (by omega) ?_ | refine dq ?_)
      refine (ih _ (List.getElem_mem hik) w3 (by omega) (hk.later (l1.trans l3))).mono ?_
      rintro x2 w4 ⟨ho2, l4⟩
      repeat' (first | (simp (disch := omega) only [push_cast, ↓reduceIte, zA, zG, zB, zH, zI, zC, zJ, zK, zL, zD, zE, zF, zM, zN, zO, zP, zQ, reduceCtorEq]) | refine iX ?_ ?_ <;> intro _ | refine And.intro (by omega) ?_ | refine dq ?_)
      refine vAppend_ss (own_later ho l4) (OwnS.st ho2) (by omega) (l3.trans l4).size ?_
      intro v' w' ho' hg _
      have l5 : Later w1 w' := (l3.trans l4).appended (own_later ho l4) (Nat.le_refl _) hg
      rw [← dimsTo_succ f hik] at ho'
      repeat' (first | (simp (disch := omega) only [push_cast, ↓reduceIte, zA, zG, zB, zH, zI, zC, zJ, zK, zL, zD, zE, zF, zM, zN, zO, zP, zQ, reduceCtorEq]) | refine iX ?_ ?_ <;> intro _ | refine And.intro (by omega) ?_ | refine dq ?_)
      exact ⟨rfl, (i + 1, v'), by simp (disch := omega) only [push_cast, ↓reduceIte, zA, zG, zB, zH, zI, zC, zJ, zK, zL, zD, zE, zF, zM, zN, zO, zP, zQ, reduceCtorEq], ⟨by dsimp only; omega, l5, ho'⟩, by dsimp only; omega⟩
    · have hd2 : decide ((i : Int) < (f.kids.length : Int)) = false := decide_eq_false (by omega)
      have hdm : dimsTo f i = f.dims := by rw [FT.dims_is, dimsTo, List.take_of_length_le (by omega)]
      rw [hdm] at ho
      repeat' (first | (simp (disch := omega) only [push_cast, ↓reduceIte, zA, zG, zB, zH, zI, zC, zJ, zK, zL, zD, zE, zF, zM, zN, zO, zP, zQ, reduceCtorEq, b3, hd2, addr_add_eq, Nat.zero_add]) | refine iX ?_ ?_ <;> intro _ | refine And.intro (by omega) ?_ | refine dq ?_)
      first | exact ⟨(own_base ho (by omega)), (l1.trans l3)⟩ | exact (l1.trans l3)
  have e2 : decide (f.op = 2) = false := decide_eq_false k2
  have hd0 : dimsTo f 0 = [] := by
    unfold dimsTo
    rw [if_neg (by omega)]; rfl
  repeat' (first | (simp (disch := omega) only [push_cast, ↓reduceIte, zA, zG, zB, zH, zI, zC, zJ, zK, zL, zD, zE, zF, zM, zN, zO, zP, zQ, reduceCtorEq, a0, a1, e1, e2, addr_add_eq, Nat.zero_add]) | refine iX ?_ ?_ <;> intro _ | refine And.intro (by omega) ?_ | refine dq ?_)
  refine vc_loop W83_0 (fun p : Nat × Value => [(3, p.2), (4, .int .i64 (p.1 : Int))]) (fun p w' => p.1 ≤ f.kids.length ∧ Later w1 w' ∧ OwnS w' w1.heap.size p.2 (dimsTo f p.1)) (fun p => f.kids.length - p.1) (0, Value.slice none 0 0) (by decide) ?_ ?_ ?_
  · simp (disch := omega) only [push_cast, ↓reduceIte, zA, zG, zB, zH, zI, zC, zJ, zK, zL, zD, zE, zF, zM, zN, zO, zP, zQ, reduceCtorEq]
  · exact ⟨Nat.zero_le _, (Later.refl _), (by rw [hd0]; exact own_nil w1 w1.heap.size 9 1)⟩
  rintro ⟨i, x⟩ uu w3 ⟨hi, l3, ho⟩
  dsimp only at hi ho ⊢
  obtain ⟨b0, b1, b2, b3⟩ := ftAt (ftLater B1 l3)
  rw [hkv] at b3
  by_cases hik : i < f.kids.length
  · have hd2 : decide ((i : Int) < (f.kids.length : Int)) = true := decide_eq_true (by omega)
    rw [hkv] at h4
    obtain ⟨a, rfl, fa⟩ := RecS.at ftC_len (h4.later (l1.trans l3)) hik
    have hk := h5 _ (List.getElem_mem hik)
    have hkc := FT.cntL_mem (List.getElem_mem hik)
    have hn1 := dimsTo_len f (i + 1)
    rw [dimsTo_succ f hik, List.length_append] at hn1
    repeat' (first | (simp (disch := omega) only [push_cast, ↓reduceIte, zA, zG, zB, zH, zI, zC, zJ, zK, zL, zD, zE, zF, zM, zN, zO, zP, zQ, reduceCtorEq, b3, hd2, fa, addr_add_eq, Nat.zero_add]) | refine iX ?_ ?_ <;> intro _ | refine And.intro (by omega) ?_ | refine dq ?_)
    refine (ih _ (List.getElem_mem hik) w3 (by omega) (hk.later (l1.trans l3))).mono ?_
    rintro x2 w4 ⟨ho2, l4⟩
    repeat' (first | (simp (disch := omega) only [push_cast, ↓reduceIte, zA, zG, zB, zH, zI, zC, zJ, zK, zL, zD, zE, zF, zM, zN, zO, zP, zQ, reduceCtorEq]) | refine iX ?_ ?_ <;> intro _ | refine And.intro (by omega) ?_ | refine dq ?_)
    refine vAppend_ss (own_later ho l4) (OwnS.st ho2) (by omega) (l3.trans l4).size ?_
    intro v' w' ho' hg _
    have l5 : Later w1 w' := (l3.trans l4).appended (own_later ho l4) (Nat.le_refl _) hg
    rw [← dimsTo_succ f hik] at ho'
    repeat' (first | (simp (disch := omega) only [push_cast, ↓reduceIte, zA, zG, zB, zH, zI, zC, zJ, zK, zL, zD, zE, zF, zM, zN, zO, zP, zQ, reduceCtorEq]) | refine iX ?_ ?_ <;> intro _ | refine And.intro (by omega) ?_ | refine dq ?_)
    exact ⟨rfl, (i + 1, v'), by simp (disch := omega) only [push_cast, ↓reduceIte, zA, zG, zB, zH, zI, zC, zJ, zK, zL, zD, zE, zF, zM, zN, zO, zP, zQ, reduceCtorEq], ⟨by dsimp only; omega, l5, ho'⟩, by dsimp only; omega⟩
  · have hd2 : decide ((i : Int) < (f.kids.length : Int)) = false := decide_eq_false (by omega)
    have hdm : dimsTo f i = f.dims := by rw [FT.dims_is, dimsTo, List.take_of_length_le (by omega)]
    rw [hdm] at ho
    repeat' (first | (simp (disch := omega) only [push_cast, ↓reduceIte, zA, zG, zB, zH, zI, zC, zJ, zK, zL, zD, zE, zF, zM, zN, zO, zP, zQ, reduceCtorEq, b3, hd2, addr_add_eq, Nat.zero_add]) | refine iX ?_ ?_ <;> intro _ | refine And.intro (by omega) ?_ | refine dq ?_)
    first | exact ⟨(own_base ho (by omega)), (l1.trans l3)⟩ | exact (l1.trans l3)
end Go.Proofs.Ytnofalhkapmcnaa
end
section
namespace Go.Vc
open Go Go.Key
abbrev I64 (n : Int) : Prop := -9223372036854775808 ≤ n ∧ n ≤ 9223372036854775807
abbrev Bz : Nat := 140737488351232
structure TD where
  f : Int
  m : ByteArray
def tdC (t : TD) : List Value := [.int .i64 t.f, .string t.m]
structure TD.Ok (t : TD) : Prop where
  f : I64 t.f
  m : t.m.size ≤ Bz
structure HD where
  t : TD
  sign : Int
  value : Int
def hdC (h : HD) : List Value := [.int .i64 h.t.f, .string h.t.m, .int .i64 h.sign, .int .i64 h.value]
structure HD.Ok (h : HD) : Prop where
  t : h.t.Ok
  sign : I64 h.sign
  value : I64 h.value
structure QD where
  tv : Value
  tl : List TD
  fr : Int
  to : Int
  ev : Int
  bv : Value
  bl : List ByteArray
  wh : FT
  hv : Value
  hl : List HD
  od : Int
  lm : Int
def qdC (q : QD) : List Value := [q.tv, .int .i64 q.fr, .int .i64 q.to, .int .i64 q.ev, q.bv, .int .i64 q.wh.op, .string q.wh.dim, .string q.wh.value, q.wh.kv, q.hv, .int .i64 q.od, .int .i64 q.lm]
structure QD.Ok (w : World) (q : QD) : Prop where
  tv : RecS tdC 2 w q.tv q.tl
  tl : ∀ t ∈ q.tl, t.Ok
  fr : I64 q.fr
  to : I64 q.to
  ev : I64 q.ev
  bv : Sl w q.bv (q.bl.map Value.string)
  bl : ∀ s ∈ q.bl, s.size ≤ Bz
  wh : q.wh.Ok w
  hv : RecS hdC 4 w q.hv q.hl
  hl : ∀ h ∈ q.hl, h.Ok
  od : I64 q.od
  lm : I64 q.lm
theorem QD.Ok.later {w w' : World} {q : QD} (h : q.Ok w) (hl : Later w w') : q.Ok w' := ⟨h.tv.later hl, h.tl, h.fr, h.to, h.ev, Sl.later h.bv hl, h.bl, h.wh.later hl, h.hv.later hl, h.hl, h.od, h.lm⟩
end Go.Vc
namespace Go.Proofs.Ytnofalhkapmcnaa
open Go.Vc Go.RowKit Go.ChangeShapes Go.Key
set_option maxRecDepth 100000
section
variable {H : Type} {enc : TypeId × Value → H} {w : World} {sp : Nat → Bool} {hd : Bool} {M : Nat}
theorem z_int : OZ M enc Try.prog w sp hd 3 (fun cs => ∃ n : Int, cs = [.int .i64 n] ∧ I64 n) := oz_i64 Try.underlying3
theorem z_str : OZ M enc Try.prog w sp hd 9 (fun cs => ∃ s : ByteArray, cs = [.string s] ∧ s.size ≤ Bz) := oz_string Try.underlying9
theorem z_strs : OZ M enc Try.prog w sp hd 22 (fun cs => ∃ (v : Value) (l : List ByteArray), cs = [v] ∧ StS w v l ∧ ∀ s ∈ l, s.size ≤ Bz) :=
  (oz_slice (en := fun s => [Value.string s]) (Q := fun s => s.size ≤ Bz) Try.underlying22 (by kernel_rfl) z_str).mono fun cs ⟨v, l, h1, h2, h3, _⟩ => ⟨v, l, h1, sl_of_rec h2, h3⟩
theorem z_term : OZ M enc Try.prog w sp hd 63 (fun cs => ∃ x : TD, cs = tdC x ∧ x.Ok) :=
  (oz_struct (S := 2) Try.underlying63 (by kernel_rfl)).mono fun cs ⟨hl, hf⟩ => by
    match cs, hl with
    | [c0, c1], _ =>
      obtain ⟨k, hk, wk⟩ := hf 0 _ 1 _ rfl (by kernel_rfl) (fun _ => oz_i64 Try.underlying61)
      obtain ⟨m, hm, wm⟩ := hf 1 _ 1 _ rfl (by kernel_rfl) (fun _ => z_str)
      obtain rfl : c0 = _ := (List.cons.inj hk).1
      obtain rfl : c1 = _ := (List.cons.inj hm).1
      exact ⟨⟨k, m⟩, rfl, wk, wm⟩
theorem z_having : OZ M enc Try.prog w sp hd 146 (fun cs => ∃ x : HD, cs = hdC x ∧ x.Ok) :=
  (oz_struct (S := 4) Try.underlying146 (by kernel_rfl)).mono fun cs ⟨hl, hf⟩ => by
    match cs, hl with
    | [c0, c1, c2, c3], _ =>
      obtain ⟨t, ht, wt⟩ := hf 0 _ 2 _ rfl (by kernel_rfl) (fun _ => z_term)
      obtain ⟨s, hs, ws⟩ := hf 1 _ 1 _ rfl (by kernel_rfl) (fun _ => z_int)
      obtain ⟨v, hv, wv⟩ := hf 2 _ 1 _ rfl (by kernel_rfl) (fun _ => z_int)
      have h2 : [c0, c1] = tdC t := ht
      obtain rfl : c0 = _ := (List.cons.inj h2).1
      obtain rfl : c1 = _ := (List.cons.inj (List.cons.inj h2).2).1
      obtain rfl : c2 = _ := (List.cons.inj hs).1
      obtain rfl : c3 = _ := (List.cons.inj hv).1
      exact ⟨⟨t, s, v⟩, rfl, wt, ws, wv⟩
theorem z_query : OZ M enc Try.prog w sp hd 42 (fun cs => ∃ q : QD, cs = qdC q ∧ q.Ok w) :=
  (oz_struct (S := 12) Try.underlying42 (by kernel_rfl)).mono fun cs ⟨hl, hf⟩ => by
    match cs, hl with
    | [c0, c1, c2, c3, c4, c5, c6, c7, c8, c9, c10, c11], _ =>
      obtain ⟨tv, tl, h0, w0, v0, _⟩ := hf 0 _ 1 _ rfl (by kernel_rfl) (fun _ => oz_slice (en := tdC) (Q := fun x => x.Ok) (s := 2) Try.underlying35 (by kernel_rfl) z_term)
      obtain ⟨fr, h1, w1⟩ := hf 1 _ 1 _ rfl (by kernel_rfl) (fun _ => z_int)
      obtain ⟨to, h2, w2⟩ := hf 2 _ 1 _ rfl (by kernel_rfl) (fun _ => z_int)
      obtain ⟨ev, h3, w3⟩ := hf 3 _ 1 _ rfl (by kernel_rfl) (fun _ => z_int)
      obtain ⟨bv, bl, h4, w4, v4⟩ := hf 4 _ 1 _ rfl (by kernel_rfl) (fun _ => z_strs)
      obtain ⟨f, h5, w5⟩ := hf 5 _ 4 _ rfl (by kernel_rfl) (fun m => filter_at m)
      obtain ⟨hv, hl', h6, w6, v6, _⟩ := hf 6 _ 1 _ rfl (by kernel_rfl) (fun _ => oz_slice (en := hdC) (Q := fun x => x.Ok) (s := 4) Try.underlying40 (by kernel_rfl) z_having)
      obtain ⟨od, h7, w7⟩ := hf 7 _ 1 _ rfl (by kernel_rfl) (fun _ => z_int)
      obtain ⟨lm, h8, w8⟩ := hf 8 _ 1 _ rfl (by kernel_rfl) (fun _ => z_int)
      have h5 : [c5, c6, c7, c8] = ftC f := h5
      obtain rfl : c0 = _ := (List.cons.inj h0).1
      obtain rfl : c1 = _ := (List.cons.inj h1).1
      obtain rfl : c2 = _ := (List.cons.inj h2).1
      obtain rfl : c3 = _ := (List.cons.inj h3).1
      obtain rfl : c4 = _ := (List.cons.inj h4).1
      obtain rfl : c5 = _ := (List.cons.inj h5).1
      obtain rfl : c6 = _ := (List.cons.inj (List.cons.inj h5).2).1
      obtain rfl : c7 = _ := (List.cons.inj (List.cons.inj (List.cons.inj h5).2).2).1
      obtain rfl : c8 = _ := (List.cons.inj (List.cons.inj (List.cons.inj (List.cons.inj h5).2).2).2).1
      obtain rfl : c9 = _ := (List.cons.inj h6).1
      obtain rfl : c10 = _ := (List.cons.inj h7).1
      obtain rfl : c11 = _ := (List.cons.inj h8).1
      exact ⟨⟨c0, tl, fr, to, ev, c4, bl, f, c9, hl', od, lm⟩, rfl, w0, v0, w1, w2, w3, w4, v4, w5, w6, v6, w7, w8⟩
theorem z_schema : OZ M enc Try.prog w sp hd 24 (fun cs => ∃ (dv mv : Value) (d m : List ByteArray), cs = [dv, mv] ∧ StS w dv d ∧ (∀ s ∈ d, s.size ≤ Bz) ∧ StS w mv m ∧ ∀ s ∈ m, s.size ≤ Bz) :=
  (oz_struct (S := 2) Try.underlying24 (by kernel_rfl)).mono fun cs ⟨hl, hf⟩ => by
    match cs, hl with
    | [c0, c1], _ =>
      obtain ⟨v, l, h0, w0, v0⟩ := hf 0 _ 1 _ rfl (by kernel_rfl) (fun _ => z_strs)
      obtain ⟨v', l', h1, w1, v1⟩ := hf 1 _ 1 _ rfl (by kernel_rfl) (fun _ => z_strs)
      obtain rfl : c0 = _ := (List.cons.inj h0).1
      obtain rfl : c1 = _ := (List.cons.inj h1).1
      exact ⟨c0, c1, l, l', rfl, w0, v0, w1, v1⟩
end
end Go.Proofs.Ytnofalhkapmcnaa
end
section
set_option linter.unusedSimpArgs false
namespace Go.Proofs.Ytnofalhkapmcnaa
open Go.Vc Go.Key
set_option maxRecDepth 100000
def vlsTo (f : FT) (i : Nat) : Bool := decide (VlOk f.value) && (f.kids.take i).all (fun k => k.vals.all (fun s => decide (VlOk s)))
theorem vlsTo_succ (f : FT) {i : Nat} (hi : i < f.kids.length) : vlsTo f (i + 1) = (vlsTo f i && (f.kids[i]).vals.all (fun s => decide (VlOk s))) := by
  unfold vlsTo
  rw [List.take_succ_eq_append_getElem hi, List.all_append]
  simp [Bool.and_assoc]
theorem vls_is (f : FT) : f.vals.all (fun s => decide (VlOk s)) = vlsTo f f.kids.length := by
  unfold vlsTo
  rw [FT.vals_is, List.take_length, List.all_cons, List.all_flatMap]
set_option maxHeartbeats 1000000 in
theorem values_c : ∀ (f : FT) (w : World), f.Ok w → FnC Try.prog 125 #[.agg (ftC f).toArray] w fun v w' => v = .bool (f.vals.all (fun s => decide (VlOk s))) ∧ Later w w' := by
  intro f
  induction f using FT.ind with
  | h f ih =>
  intro w hf
  obtain ⟨h1, h2, h3, h4, h5⟩ := FT.ok_iff.1 hf
  obtain ⟨o, c, hkv, hc1, hc2⟩ := RecS.slice h4
  refine enter125 _ ?_
  unfold B125
  have eca : (Value.agg (ftC f).toArray).cells = (ftC f).toArray := rfl
  obtain ⟨l1, s1, B1⟩ := ftBox w f
  repeat' (first | (simp (disch := omega) only [push_cast, ↓reduceIte, zA, zG, zB, zH, zI, zC, zJ, zK, zL, zD, zE, zF, zM, zN, zO, zP, zQ, reduceCtorEq, eca]) | refine iX ?_ ?_ <;> intro _ | refine And.intro (by omega) ?_ | refine dq ?_)
  generalize w.alloc (.cells (ftC f).toArray 39) = w1 at *
  generalize hkf : w.heap.size = kf at *
  obtain ⟨a0, a1, a2, a3⟩ := ftAt B1
  repeat' (first | (simp (disch := omega) only [push_cast, ↓reduceIte, zA, zG, zB, zH, zI, zC, zJ, zK, zL, zD, zE, zF, zM, zN, zO, zP, zQ, reduceCtorEq, a2, addr_add_eq, Nat.zero_add]) | refine iX ?_ ?_ <;> intro _ | refine And.intro (by omega) ?_ | refine dq ?_)
  refine (dvalue_c f.value w1 (by omega)).mono ?_
  rintro _ w0 ⟨rfl, h0⟩; obtain rfl := h0.symm
  have hv0 : decide (VlOk f.value) = vlsTo f 0 := by simp [vlsTo]
  rw [hv0]
  repeat' (first | (simp (disch := omega) only [push_cast, ↓reduceIte, zA, zG, zB, zH, zI, zC, zJ, zK, zL, zD, zE, zF, zM, zN, zO, zP, zQ, reduceCtorEq]) | refine iX ?_ ?_ <;> intro _ | refine And.intro (by omega) ?_ | refine dq ?_)
  refine vc_loop W125_0 (fun i : Nat => [(3, .bool (vlsTo f i)), (4, .int .i64 (i : Int))]) (fun i w' => i ≤ f.kids.length ∧ Later w1 w') (fun i => f.kids.length - i) 0 (by decide) ?_ ?_ ?_
  · simp (disch := omega) only [push_cast, ↓reduceIte, zA, zG, zB, zH, zI, zC, zJ, zK, zL, zD, zE, zF, zM, zN, zO, zP, zQ, reduceCtorEq]
    try rfl
  · exact ⟨Nat.zero_le _, Later.refl _⟩
  rintro i uu w3 ⟨hi, l3⟩
  obtain ⟨b0, b1, b2, b3⟩ := ftAt (ftLater B1 l3)
  rw [hkv] at b3
  by_cases hik : i < f.kids.length
  · have hd2 : decide ((i : Int) < (f.kids.length : Int)) = true := decide_eq_true (by omega)
    rw [hkv] at h4
    obtain ⟨a, rfl, fa⟩ := RecS.at ftC_len (h4.later (l1.trans l3)) hik
    have hk := h5 _ (List.getElem_mem hik)
    have hsc := vlsTo_succ f hik
    repeat' (first | (simp (disch := omega) only [push_cast, ↓reduceIte, zA, zG, zB, zH, zI, zC, zJ, zK, zL, zD, zE, zF, zM, zN, zO, zP, zQ, reduceCtorEq, b3, hd2, fa, addr_add_eq, Nat.zero_add]) | refine iX ?_ ?_ <;> intro _ | refine And.intro (by omega) ?_ | refine dq ?_)
    refine (ih _ (List.getElem_mem hik) w3 (hk.later (l1.trans l3))).mono ?_
    rintro _ w4 ⟨rfl, l4⟩
    cases hvi : vlsTo f i with
    | false =>
      rw [hvi, Bool.false_and] at hsc
      repeat' (first | (simp (disch := omega) only [push_cast, ↓reduceIte, zA, zG, zB, zH, zI, zC, zJ, zK, zL, zD, zE, zF, zM, zN, zO, zP, zQ, reduceCtorEq]) | refine iX ?_ ?_ <;> intro _ | refine And.intro (by omega) ?_ | refine dq ?_)
      exact ⟨rfl, i + 1, by simp (disch := omega) only [push_cast, ↓reduceIte, zA, zG, zB, zH, zI, zC, zJ, zK, zL, zD, zE, zF, zM, zN, zO, zP, zQ, reduceCtorEq, hsc], ⟨by omega, l3.trans l4⟩, by dsimp only; omega⟩
    | true =>
      rw [hvi, Bool.true_and] at hsc
      repeat' (first | (simp (disch := omega) only [push_cast, ↓reduceIte, zA, zG, zB, zH, zI, zC, zJ, zK, zL, zD, zE, zF, zM, zN, zO, zP, zQ, reduceCtorEq]) | refine iX ?_ ?_ <;> intro _ | refine And.intro (by omega) ?_ | refine dq ?_)
      exact ⟨rfl, i + 1, by simp (disch := omega) only [push_cast, ↓reduceIte, zA, zG, zB, zH, zI, zC, zJ, zK, zL, zD, zE, zF, zM, zN, zO, zP, zQ, reduceCtorEq, hsc], ⟨by omega, l3.trans l4⟩, by dsimp only; omega⟩
  · have hd2 : decide ((i : Int) < (f.kids.length : Int)) = false := decide_eq_false (by omega)
    have hdm : i = f.kids.length := by omega
    subst hdm
    rw [vls_is]
    repeat' (first | (simp (disch := omega) only [push_cast, ↓reduceIte, zA, zG, zB, zH, zI, zC, zJ, zK, zL, zD, zE, zF, zM, zN, zO, zP, zQ, reduceCtorEq, b3, hd2, addr_add_eq, Nat.zero_add]) | refine iX ?_ ?_ <;> intro _ | refine And.intro (by omega) ?_ | refine dq ?_)
    first | exact ⟨rfl, (l1.trans l3)⟩ | exact (l1.trans l3)
def inL (x : ByteArray) (l : List ByteArray) : Bool := l.any fun y => decide (y = x)
theorem inL_iff {x : ByteArray} {l : List ByteArray} : inL x l = true ↔ x ∈ l := by
  unfold inL
  rw [List.any_eq_true]
  constructor
  · rintro ⟨y, hy, h⟩
    rw [decide_eq_true_eq] at h
    exact h ▸ hy
  · intro h; exact ⟨x, h, decide_eq_true rfl⟩
def fndV (x : ByteArray) (l : List ByteArray) : Value := .tuple #[.int .i64 (if inL x l then ((l.findIdx (fun y => decide (y = x)) : Nat) : Int) else 0), .bool (inL x l)]
theorem fndV_at {x : ByteArray} {l : List ByteArray} {i : Nat} (hi : i < l.length) (hx : l[i] = x) (hno : inL x (l.take i) = false) : fndV x l = .tuple #[.int .i64 (i : Int), .bool true] := by
  have hin : inL x l = true := inL_iff.2 (hx ▸ List.getElem_mem hi)
  have hf : l.findIdx (fun y => decide (y = x)) = i := by
    rw [List.findIdx_eq hi]
    refine ⟨decide_eq_true hx, fun j hj => decide_eq_false fun hjx => ?_⟩
    have : inL x (l.take i) = true := inL_iff.2 (by
      rw [← hjx]
      exact List.mem_take_iff_getElem.2 ⟨j, by omega, rfl⟩)
    rw [hno] at this; cases this
  unfold fndV
  rw [hin, hf]; rfl
theorem dfind_c (v : Value) (l : List ByteArray) (x : ByteArray) (w : World) (h : StS w v l) : FnC Try.prog 43 #[v, .string x] w fun r w' => r = fndV x l ∧ w' = w := by
  obtain ⟨o, c, rfl, g1, g2, hm, g3⟩ := h.openM
  refine enter43 _ _ ?_
  unfold B43
  repeat' (first | (simp (disch := omega) only [push_cast, ↓reduceIte, zA, zG, zB, zH, zI, zC, zJ, zK, zL, zD, zE, zF, zM, zN, zO, zP, zQ, reduceCtorEq]) | refine iX ?_ ?_ <;> intro _ | refine And.intro (by omega) ?_ | refine dq ?_)
  refine vc_loop W43_0 (fun i : Nat => [(4, .int .i64 0), (5, .bool false), (6, .int .i64 (i : Int))]) (fun i w' => i ≤ l.length ∧ w' = w ∧ inL x (l.take i) = false) (fun i => l.length - i) 0 (by decide) ?_ ?_ ?_
  · simp (disch := omega) only [push_cast, ↓reduceIte, zA, zG, zB, zH, zI, zC, zJ, zK, zL, zD, zE, zF, zM, zN, zO, zP, zQ, reduceCtorEq]
    try rfl
  · exact ⟨Nat.zero_le _, rfl, by simp [inL]⟩
  rintro i uu _ ⟨hi, rfl, hno⟩
  by_cases hil : i < l.length
  · have hd : decide ((i : Int) < (l.length : Int)) = true := decide_eq_true (by omega)
    cases o with
    | none => have := (g3 rfl).1; rw [this] at hil; simp at hil
    | some la =>
    have hc := StS.atS hm hil
    by_cases hx : l[i] = x
    · have hd2 : decide (l[i] = x) = true := decide_eq_true hx
      rw [fndV_at hil hx hno]
      repeat' (first | (simp (disch := omega) only [push_cast, ↓reduceIte, zA, zG, zB, zH, zI, zC, zJ, zK, zL, zD, zE, zF, zM, zN, zO, zP, zQ, reduceCtorEq, hd, hc, hd2]) | refine iX ?_ ?_ <;> intro _ | refine And.intro (by omega) ?_ | refine dq ?_)
      first | done | exact ⟨rfl, rfl⟩ | rfl | omega
    · have hd2 : decide (l[i] = x) = false := decide_eq_false hx
      repeat' (first | (simp (disch := omega) only [push_cast, ↓reduceIte, zA, zG, zB, zH, zI, zC, zJ, zK, zL, zD, zE, zF, zM, zN, zO, zP, zQ, reduceCtorEq, hd, hc, hd2]) | refine iX ?_ ?_ <;> intro _ | refine And.intro (by omega) ?_ | refine dq ?_)
      refine ⟨rfl, i + 1, by simp (disch := omega) only [push_cast, ↓reduceIte, zA, zG, zB, zH, zI, zC, zJ, zK, zL, zD, zE, zF, zM, zN, zO, zP, zQ, reduceCtorEq], ⟨by omega, rfl, ?_⟩, by dsimp only; omega⟩
      unfold inL at hno ⊢
      rw [List.take_succ_eq_append_getElem hil, List.any_append, hno]
      simp [hx]
  · have hd : decide ((i : Int) < (l.length : Int)) = false := decide_eq_false (by omega)
    rw [List.take_of_length_le (by omega)] at hno
    unfold fndV
    rw [hno]
    repeat' (first | (simp (disch := omega) only [push_cast, ↓reduceIte, zA, zG, zB, zH, zI, zC, zJ, zK, zL, zD, zE, zF, zM, zN, zO, zP, zQ, reduceCtorEq, hd]) | refine iX ?_ ?_ <;> intro _ | refine And.intro (by omega) ?_ | refine dq ?_)
    first | done | exact ⟨rfl, rfl⟩ | rfl | omega
def tmOk (t : TD) : Bool := decide (0 ≤ t.f) && decide (t.f ≤ 3) && (decide (t.f = 0) == decide (t.m = ⟨#[]⟩))
theorem term_c (t : TD) (w : World) : FnC Try.prog 122 #[.agg (tdC t).toArray] w fun v w' => v = .bool (tmOk t) ∧ Later w w' := by
  refine enter122 _ ?_
  unfold B122
  have eca : (Value.agg (tdC t).toArray).cells = (tdC t).toArray := rfl
  have l1 := later_alloc w (.cells (tdC t).toArray 63)
  have B1 := Blk.new w (tdC t).toArray 63
  repeat' (first | (simp (disch := omega) only [push_cast, ↓reduceIte, zA, zG, zB, zH, zI, zC, zJ, zK, zL, zD, zE, zF, zM, zN, zO, zP, zQ, reduceCtorEq, eca]) | refine iX ?_ ?_ <;> intro _ | refine And.intro (by omega) ?_ | refine dq ?_)
  generalize w.alloc (.cells (tdC t).toArray 63) = w1 at *
  generalize w.heap.size = kf at *
  have a0 : w1.cell? ⟨kf, 0, none⟩ = some (.int .i64 t.f) := B1.cell 0
  have a1 : w1.cell? ⟨kf, 1, none⟩ = some (.string t.m) := B1.cell 1
  unfold tmOk
  repeat' (first | (simp (disch := omega) only [push_cast, ↓reduceIte, zA, zG, zB, zH, zI, zC, zJ, zK, zL, zD, zE, zF, zM, zN, zO, zP, zQ, reduceCtorEq, a0, a1, addr_add_eq, Nat.zero_add]) | refine iX ?_ ?_ <;> intro _ | refine And.intro (by omega) ?_ | refine dq ?_)
  all_goals (refine ⟨congrArg Value.bool ?_, l1⟩)
  all_goals (clear a0 a1 B1 l1 eca)
  all_goals simp_all
  all_goals (intros; omega)
theorem metric_c (dv mv : Value) (d m : List ByteArray) (t : TD) (w : World) (h : ScIs w dv mv d m) : FnC Try.prog 124 #[scV dv mv, .agg (tdC t).toArray] w fun v w' => v = .bool (decide (t.f = 0) || inL t.m m) ∧ Later w w' := by
  unfold scV
  refine enter124 _ _ ?_
  unfold B124
  have eca : (Value.agg (tdC t).toArray).cells = (tdC t).toArray := rfl
  have ecb : (Value.agg #[dv, mv]).cells = #[dv, mv] := rfl
  obtain ⟨l1, s1, F⟩ := box2 w dv mv 24
  have B2 := Blk.new (w.alloc (.cells #[dv, mv] 24)) (tdC t).toArray 63
  have l2 := later_alloc (w.alloc (.cells #[dv, mv] 24)) (.cells (tdC t).toArray 63)
  rw [s1] at B2
  repeat' (first | (simp (disch := omega) only [push_cast, ↓reduceIte, zA, zG, zB, zH, zI, zC, zJ, zK, zL, zD, zE, zF, zM, zN, zO, zP, zQ, reduceCtorEq, eca, ecb, s1]) | refine iX ?_ ?_ <;> intro _ | refine And.intro (by omega) ?_ | refine dq ?_)
  obtain ⟨_, f1, _⟩ := F _ l2
  have l12 := l1.trans l2
  have h2 := h.later l12
  generalize (w.alloc (.cells #[dv, mv] 24)).alloc (.cells (tdC t).toArray 63) = w2 at *
  generalize w.heap.size = kf at *
  have a0 : w2.cell? ⟨kf + 1, 0, none⟩ = some (.int .i64 t.f) := B2.cell 0
  have a1 : w2.cell? ⟨kf + 1, 1, none⟩ = some (.string t.m) := B2.cell 1
  repeat' (first | (simp (disch := omega) only [push_cast, ↓reduceIte, zA, zG, zB, zH, zI, zC, zJ, zK, zL, zD, zE, zF, zM, zN, zO, zP, zQ, reduceCtorEq, f1, a0, a1, addr_add_eq, Nat.zero_add]) | refine iX ?_ ?_ <;> intro _ | refine And.intro (by omega) ?_ | refine dq ?_)
  refine (dfind_c mv m t.m w2 h2.mS).mono ?_
  rintro _ w0 ⟨rfl, h0⟩; obtain rfl := h0.symm
  unfold fndV
  repeat' (first | (simp (disch := omega) only [push_cast, ↓reduceIte, zA, zG, zB, zH, zI, zC, zJ, zK, zL, zD, zE, zF, zM, zN, zO, zP, zQ, reduceCtorEq, f1, a0, a1, addr_add_eq, Nat.zero_add]) | refine iX ?_ ?_ <;> intro _ | refine And.intro (by omega) ?_ | refine dq ?_)
  all_goals (refine ⟨congrArg Value.bool ?_, l12⟩)
  all_goals simp_all
end Go.Proofs.Ytnofalhkapmcnaa
end
section
set_option linter.unusedSimpArgs false
namespace Go.Proofs.Ytnofalhkapmcnaa
open Go.Vc Go.Key
set_option maxRecDepth 100000
def hvOk (h : HD) : Bool := tmOk h.t && decide (-1 ≤ h.sign) && decide (h.sign ≤ 1) && decide (-4611686018427387904 ≤ h.value) && decide (h.value ≤ 4611686018427387904)
def whOk (f : FT) : Bool := if f.op = 0 then decide (f.kids.length = 0) && decide (f.dim = ⟨#[]⟩) && decide (f.value = ⟨#[]⟩) else f.form 30
def szOk (q : QD) : Bool := decide (1 ≤ q.tl.length) && decide (q.tl.length ≤ 8) && decide (q.bl.length ≤ 6) && decide (q.hl.length ≤ 8)
def shOk (q : QD) : Bool := szOk q && q.tl.all tmOk && q.hl.all hvOk && whOk q.wh
theorem qdAt {w : World} {k : Nat} {q : QD} (h : Blk w k (qdC q).toArray 42) : w.cell? ⟨k, 0, none⟩ = some q.tv ∧ w.cell? ⟨k, 1, none⟩ = some (.int .i64 q.fr) ∧ w.cell? ⟨k, 2, none⟩ = some (.int .i64 q.to) ∧ w.cell? ⟨k, 3, none⟩ = some (.int .i64 q.ev) ∧ w.cell? ⟨k, 4, none⟩ = some q.bv ∧ w.cell? ⟨k, 5, none⟩ = some (.int .i64 q.wh.op) ∧ w.cell? ⟨k, 6, none⟩ = some (.string q.wh.dim) ∧ w.cell? ⟨k, 7, none⟩ = some (.string q.wh.value) ∧ w.cell? ⟨k, 8, none⟩ = some q.wh.kv ∧ w.cell? ⟨k, 9, none⟩ = some q.hv ∧ w.cell? ⟨k, 10, none⟩ = some (.int .i64 q.od) ∧ w.cell? ⟨k, 11, none⟩ = some (.int .i64 q.lm) :=
  ⟨h.cell 0, h.cell 1, h.cell 2, h.cell 3, h.cell 4, h.cell 5, h.cell 6, h.cell 7, h.cell 8, h.cell 9, h.cell 10, h.cell 11⟩
theorem qdLater {w w' : World} {k : Nat} {q : QD} (h : Blk w k (qdC q).toArray 42) (hl : Later w w') : Blk w' k (qdC q).toArray 42 := h.chg (Chg.of_later (ks := []) hl) (by simp)
theorem vStore_hd {K : Value → World → Prop} (h : HD) (w : World) (hK : K undef (w.alloc (.cells (hdC h).toArray 146))) :
    vStoreD Try.prog 146 (some 4) (.pointer (some ⟨w.heap.size, 0, none⟩)) (.agg (hdC h).toArray) K (w.alloc (.cells #[.int .i64 0, .string ⟨#[]⟩, .int .i64 0, .int .i64 0] 146)) :=
  vStore_new rfl rfl (fun u hu => by
    simp only [hdC, List.mem_toArray, List.mem_cons, List.not_mem_nil, or_false] at hu
    rcases hu with rfl | rfl | rfl | rfl <;> rfl) hK
theorem tdC_len (t : TD) : (tdC t).length = 2 := rfl
theorem hdC_len (h : HD) : (hdC h).length = 4 := rfl
set_option maxHeartbeats 1000000 in
theorem shape_c (q : QD) (w : World) (hq : q.Ok w) : FnC Try.prog 77 #[.agg (qdC q).toArray] w fun v w' => v = .bool (shOk q) ∧ Later w w' := by
  obtain ⟨to, tc, htv, ht1, ht2⟩ := RecS.slice hq.tv
  obtain ⟨ho, hc, hhv, hh1, hh2⟩ := RecS.slice hq.hv
  obtain ⟨bo, bc, hbv⟩ := Sl.slice hq.bv
  rw [List.length_map] at hbv
  refine enter77 _ ?_
  unfold B77
  have eca : (Value.agg (qdC q).toArray).cells = (qdC q).toArray := rfl
  have l1 := later_alloc w (.cells (qdC q).toArray 42)
  have B1 := Blk.new w (qdC q).toArray 42
  repeat' (first | (simp (disch := omega) only [push_cast, ↓reduceIte, zA, zG, zB, zH, zI, zC, zJ, zK, zL, zD, zE, zF, zM, zN, zO, zP, zQ, reduceCtorEq, eca]) | refine iX ?_ ?_ <;> intro _ | refine And.intro (by omega) ?_ | refine dq ?_)
  generalize w.alloc (.cells (qdC q).toArray 42) = w1 at *
  generalize w.heap.size = kf at *
  obtain ⟨a0, _, _, _, a4, a5, a6, a7, a8, a9, _, _⟩ := qdAt B1
  rw [htv] at a0
  rw [hbv] at a4
  rw [hhv] at a9
  cases hsz : szOk q with
  | false =>
    have hsh : shOk q = false := by unfold shOk; rw [hsz]; rfl
    have hn : ¬ (1 ≤ q.tl.length ∧ q.tl.length ≤ 8 ∧ q.bl.length ≤ 6 ∧ q.hl.length ≤ 8) := by
      unfold szOk at hsz
      intro ⟨p1, p2, p3, p4⟩
      simp [p1, p2, p3, p4] at hsz
    rw [hsh]
    repeat' (first | (simp (disch := omega) only [push_cast, ↓reduceIte, zA, zG, zB, zH, zI, zC, zJ, zK, zL, zD, zE, zF, zM, zN, zO, zP, zQ, reduceCtorEq, a0, a4, a9, addr_add_eq, Nat.zero_add]) | refine iX ?_ ?_ <;> intro _ | refine And.intro (by omega) ?_ | refine dq ?_)
    all_goals first | exact l1 | exact ⟨rfl, l1⟩ | (exfalso; exact hn ⟨by omega, by omega, by omega, by omega⟩)
  | true =>
  have hn : 1 ≤ q.tl.length ∧ q.tl.length ≤ 8 ∧ q.bl.length ≤ 6 ∧ q.hl.length ≤ 8 := by
    unfold szOk at hsz
    simpa [and_assoc] using hsz
  have d1 : decide ((q.tl.length : Int) < 1) = false := decide_eq_false (by omega)
  have d2 : decide (8 < (q.tl.length : Int)) = false := decide_eq_false (by omega)
  have d3 : decide (6 < (q.bl.length : Int)) = false := decide_eq_false (by omega)
  have d4 : decide (8 < (q.hl.length : Int)) = false := decide_eq_false (by omega)
  repeat' (first | (simp (disch := omega) only [push_cast, ↓reduceIte, zA, zG, zB, zH, zI, zC, zJ, zK, zL, zD, zE, zF, zM, zN, zO, zP, zQ, reduceCtorEq, a0, a4, a9, d1, d2, d3, d4, addr_add_eq, Nat.zero_add]) | refine iX ?_ ?_ <;> intro _ | refine And.intro (by omega) ?_ | refine dq ?_)
  refine vc_loop W77_0 (fun i : Nat => [(2, .bool false), (3, .int .i64 (i : Int))]) (fun i w' => i ≤ q.tl.length ∧ Later w1 w' ∧ (q.tl.take i).all tmOk = true) (fun i => q.tl.length - i) 0 (by decide) ?_ ?_ ?_
  · simp (disch := omega) only [push_cast, ↓reduceIte, zA, zG, zB, zH, zI, zC, zJ, zK, zL, zD, zE, zF, zM, zN, zO, zP, zQ, reduceCtorEq]
  · exact ⟨Nat.zero_le _, Later.refl _, rfl⟩
  rintro i uu w2 ⟨hi, l2, hall⟩
  obtain ⟨b0, _⟩ := qdAt (qdLater B1 l2)
  rw [htv] at b0
  by_cases hik : i < q.tl.length
  · have hd2 : decide ((i : Int) < (q.tl.length : Int)) = true := decide_eq_true (by omega)
    have h4 := hq.tv
    rw [htv] at h4
    obtain ⟨a, rfl, fa⟩ := RecS.at tdC_len (h4.later (l1.trans l2)) hik
    have hst : (q.tl.take (i + 1)).all tmOk = tmOk q.tl[i] := by
      rw [List.take_succ_eq_append_getElem hik, List.all_append, hall]; simp
    repeat' (first | (simp (disch := omega) only [push_cast, ↓reduceIte, zA, zG, zB, zH, zI, zC, zJ, zK, zL, zD, zE, zF, zM, zN, zO, zP, zQ, reduceCtorEq, b0, hd2, fa, addr_add_eq, Nat.zero_add]) | refine iX ?_ ?_ <;> intro _ | refine And.intro (by omega) ?_ | refine dq ?_)
    refine (term_c _ w2).mono ?_
    rintro _ w3 ⟨rfl, l3⟩
    cases hkf : tmOk q.tl[i] with
    | true =>
      repeat' (first | (simp (disch := omega) only [push_cast, ↓reduceIte, zA, zG, zB, zH, zI, zC, zJ, zK, zL, zD, zE, zF, zM, zN, zO, zP, zQ, reduceCtorEq]) | refine iX ?_ ?_ <;> intro _ | refine And.intro (by omega) ?_ | refine dq ?_)
      exact ⟨rfl, i + 1, by simp (disch := omega) only [push_cast, ↓reduceIte, zA, zG, zB, zH, zI, zC, zJ, zK, zL, zD, zE, zF, zM, zN, zO, zP, zQ, reduceCtorEq], ⟨by omega, l2.trans l3, by rw [hst, hkf]⟩, by dsimp only; omega⟩
    | false =>
      have hf0 : q.tl.all tmOk = false := by
        rw [List.all_eq_false]
        exact ⟨_, List.getElem_mem hik, by simp [hkf]⟩
      have hsh : shOk q = false := by unfold shOk; rw [hsz, hf0]; simp
      rw [hsh]
      repeat' (first | (simp (disch := omega) only [push_cast, ↓reduceIte, zA, zG, zB, zH, zI, zC, zJ, zK, zL, zD, zE, zF, zM, zN, zO, zP, zQ, reduceCtorEq]) | refine iX ?_ ?_ <;> intro _ | refine And.intro (by omega) ?_ | refine dq ?_)
      first | exact ⟨rfl, (l1.trans (l2.trans l3))⟩ | exact (l1.trans (l2.trans l3))
  have hd2 : decide ((i : Int) < (q.tl.length : Int)) = false := decide_eq_false (by omega)
  rw [List.take_of_length_le (by omega)] at hall
  repeat' (first | (simp (disch := omega) only [push_cast, ↓reduceIte, zA, zG, zB, zH, zI, zC, zJ, zK, zL, zD, zE, zF, zM, zN, zO, zP, zQ, reduceCtorEq, b0, hd2, addr_add_eq, Nat.zero_add]) | refine iX ?_ ?_ <;> intro _ | refine And.intro (by omega) ?_ | refine dq ?_)
  have l2' := l1.trans l2
  have B2 := qdLater B1 l2
  clear b0 hd2 hi
  refine vc_loop W77_1 (fun i : Nat => [(2, .bool false), (5, .int .i64 (i : Int))]) (fun i w' => i ≤ q.hl.length ∧ Later w2 w' ∧ (q.hl.take i).all hvOk = true) (fun i => q.hl.length - i) 0 (by decide) ?_ ?_ ?_
  · simp (disch := omega) only [push_cast, ↓reduceIte, zA, zG, zB, zH, zI, zC, zJ, zK, zL, zD, zE, zF, zM, zN, zO, zP, zQ, reduceCtorEq]
  · exact ⟨Nat.zero_le _, Later.refl _, rfl⟩
  rintro i uu w3 ⟨hi, l3, hall2⟩
  obtain ⟨_, _, _, _, _, b5, b6, b7, b8, b9, _⟩ := qdAt (qdLater B2 l3)
  rw [hhv] at b9
  by_cases hik : i < q.hl.length
  · have hd2 : decide ((i : Int) < (q.hl.length : Int)) = true := decide_eq_true (by omega)
    have h4 := hq.hv
    rw [hhv] at h4
    obtain ⟨a, rfl, fa⟩ := RecS.at hdC_len (h4.later (l2'.trans l3)) hik
    have hst : (q.hl.take (i + 1)).all hvOk = hvOk q.hl[i] := by
      rw [List.take_succ_eq_append_getElem hik, List.all_append, hall2]; simp
    repeat' (first | (simp (disch := omega) only [push_cast, ↓reduceIte, zA, zG, zB, zH, zI, zC, zJ, zK, zL, zD, zE, zF, zM, zN, zO, zP, zQ, reduceCtorEq, b9, hd2, fa, addr_add_eq, Nat.zero_add]) | refine iX ?_ ?_ <;> intro _ | refine And.intro (by omega) ?_ | refine dq ?_)
    refine vStore_hd q.hl[i] w3 ?_
    have hall3 : hvOk q.hl[i] = false → q.hl.all hvOk = false := fun h => by
      rw [List.all_eq_false]
      exact ⟨_, List.getElem_mem hik, by simp [h]⟩
    have l4 := later_alloc w3 (.cells (hdC q.hl[i]).toArray 146)
    have B4 := Blk.new w3 (hdC q.hl[i]).toArray 146
    clear fa hd2 h4
    generalize q.hl[i] = x at *
    generalize w3.alloc (.cells (hdC x).toArray 146) = w4 at *
    generalize w3.heap.size = kh at *
    have fx : cellsAt w4 ⟨kh, 0, none⟩ 2 = some (tdC x.t) := by
      refine cellsAt_of 2 _ _ rfl fun i y hx => ?_
      rw [addr_add_eq]
      match i, hx with
      | 0, hx => cases hx; exact B4.cell 0
      | 1, hx => cases hx; exact B4.cell 1
      | n + 2, hx => exact absurd hx (by simp [tdC])
    repeat' (first | (simp (disch := omega) only [push_cast, ↓reduceIte, zA, zG, zB, zH, zI, zC, zJ, zK, zL, zD, zE, zF, zM, zN, zO, zP, zQ, reduceCtorEq, fx, addr_add_eq, Nat.zero_add]) | refine iX ?_ ?_ <;> intro _ | refine And.intro (by omega) ?_ | refine dq ?_)
    refine (term_c x.t w4).mono ?_
    rintro _ w5 ⟨rfl, l5⟩
    have B5 : Blk w5 kh (hdC x).toArray 146 := B4.chg (Chg.of_later (ks := []) l5) (by simp)
    have c2 : w5.cell? ⟨kh, 2, none⟩ = some (.int .i64 x.sign) := B5.cell 2
    have c3 : w5.cell? ⟨kh, 3, none⟩ = some (.int .i64 x.value) := B5.cell 3
    have l35 := l4.trans l5
    cases hh : hvOk x with
    | true =>
      unfold hvOk at hh
      simp only [Bool.and_eq_true, decide_eq_true_eq] at hh
      obtain ⟨⟨⟨⟨q1, q2⟩, q3⟩, q4⟩, q5⟩ := hh
      have e2 : decide (x.sign < -1) = false := decide_eq_false (by omega)
      have e3 : decide (1 < x.sign) = false := decide_eq_false (by omega)
      have e4 : decide (x.value < -4611686018427387904) = false := decide_eq_false (by omega)
      have e5 : decide (4611686018427387904 < x.value) = false := decide_eq_false (by omega)
      have hsx : hvOk x = true := by unfold hvOk; simp [q1, q2, q3, q4, q5]
      rw [q1]
      repeat' (first | (simp (disch := omega) only [push_cast, ↓reduceIte, zA, zG, zB, zH, zI, zC, zJ, zK, zL, zD, zE, zF, zM, zN, zO, zP, zQ, reduceCtorEq, c2, c3, e2, e3, e4, e5, addr_add_eq, Nat.zero_add]) | refine iX ?_ ?_ <;> intro _ | refine And.intro (by omega) ?_ | refine dq ?_)
      exact ⟨rfl, i + 1, by simp (disch := omega) only [push_cast, ↓reduceIte, zA, zG, zB, zH, zI, zC, zJ, zK, zL, zD, zE, zF, zM, zN, zO, zP, zQ, reduceCtorEq], ⟨by omega, l3.trans l35, by rw [hst, hsx]⟩, by dsimp only; omega⟩
    | false =>
      have hsh : shOk q = false := by unfold shOk; rw [hall3 hh]; simp
      rw [hsh]
      have hno : ¬ (tmOk x.t = true ∧ -1 ≤ x.sign ∧ x.sign ≤ 1 ∧ -4611686018427387904 ≤ x.value ∧ x.value ≤ 4611686018427387904) := by
        rintro ⟨q1, q2, q3, q4, q5⟩
        unfold hvOk at hh
        simp [q1, q2, q3, q4, q5] at hh
      have lf := l2'.trans (l3.trans l35)
      cases ht : tmOk x.t with
      | false =>
        repeat' (first | (simp (disch := omega) only [push_cast, ↓reduceIte, zA, zG, zB, zH, zI, zC, zJ, zK, zL, zD, zE, zF, zM, zN, zO, zP, zQ, reduceCtorEq]) | refine iX ?_ ?_ <;> intro _ | refine And.intro (by omega) ?_ | refine dq ?_)
        first | exact ⟨rfl, lf⟩ | exact lf
      | true =>
        repeat' (first | (simp (disch := omega) only [push_cast, ↓reduceIte, zA, zG, zB, zH, zI, zC, zJ, zK, zL, zD, zE, zF, zM, zN, zO, zP, zQ, reduceCtorEq, c2, c3, addr_add_eq, Nat.zero_add]) | refine iX ?_ ?_ <;> intro _ | refine And.intro (by omega) ?_ | refine dq ?_)
        all_goals first | exact lf | exact ⟨rfl, lf⟩ | (exfalso; exact hno ⟨ht, by omega, by omega, by omega, by omega⟩)
  have hd2 : decide ((i : Int) < (q.hl.length : Int)) = false := decide_eq_false (by omega)
  rw [List.take_of_length_le (by omega)] at hall2
  have hsh : shOk q = whOk q.wh := by unfold shOk; rw [hsz, hall, hall2]; simp
  rw [hsh]
  obtain ⟨wo, wc, hwv, hw1, hw2⟩ := RecS.slice (FT.ok_iff.1 hq.wh).2.2.2.1
  have b8o := b8
  rw [hwv] at b8
  unfold whOk
  have l03 := l2'.trans l3
  by_cases k0 : q.wh.op = 0
  · have e0 : decide (q.wh.op = 0) = true := decide_eq_true k0
    rw [if_pos k0]
    repeat' (first | (simp (disch := omega) only [push_cast, ↓reduceIte, zA, zG, zB, zH, zI, zC, zJ, zK, zL, zD, zE, zF, zM, zN, zO, zP, zQ, reduceCtorEq, b5, b6, b7, b8, b9, hd2, e0, addr_add_eq, Nat.zero_add]) | refine iX ?_ ?_ <;> intro _ | refine And.intro (by omega) ?_ | refine dq ?_)
    all_goals (refine ⟨congrArg Value.bool ?_, l03⟩)
    all_goals (clear b5 b6 b7 b8 b8o b9 B1 B2 l1 l2 l3 l03 l2' hq a0 a4 a5 a6 a7 a8 a9 eca htv hhv hbv hwv)
    all_goals simp_all
  · have e0 : decide (q.wh.op = 0) = false := decide_eq_false k0
    rw [if_neg k0]
    have fw : cellsAt w3 ⟨kf, 5, none⟩ 4 = some (ftC q.wh) := by
      refine cellsAt_of 4 _ _ rfl fun i x hx => ?_
      rw [addr_add_eq]
      match i, hx with
      | 0, hx => cases hx; exact b5
      | 1, hx => cases hx; exact b6
      | 2, hx => cases hx; exact b7
      | 3, hx => cases hx; exact b8o
      | n + 4, hx => exact absurd hx (by simp [ftC])
    repeat' (first | (simp (disch := omega) only [push_cast, ↓reduceIte, zA, zG, zB, zH, zI, zC, zJ, zK, zL, zD, zE, zF, zM, zN, zO, zP, zQ, reduceCtorEq, b5, b9, hd2, e0, fw, addr_add_eq, Nat.zero_add]) | refine iX ?_ ?_ <;> intro _ | refine And.intro (by omega) ?_ | refine dq ?_)
    refine (form_c q.wh 30 w3 (by omega) (hq.wh.later l03)).mono ?_
    rintro _ w4 ⟨rfl, l4⟩
    repeat' (first | (simp (disch := omega) only [push_cast, ↓reduceIte, zA, zG, zB, zH, zI, zC, zJ, zK, zL, zD, zE, zF, zM, zN, zO, zP, zQ, reduceCtorEq]) | refine iX ?_ ?_ <;> intro _ | refine And.intro (by omega) ?_ | refine dq ?_)
    first | exact ⟨rfl, (l03.trans l4)⟩ | exact (l03.trans l4)
end Go.Proofs.Ytnofalhkapmcnaa
end
section
set_option linter.unusedSimpArgs false
namespace Go.Proofs.Ytnofalhkapmcnaa
open Go.Vc Go.Key
set_option maxRecDepth 100000
def mtOk (m : List ByteArray) (t : TD) : Bool := decide (t.f = 0) || inL t.m m
def nsOk (d m : List ByteArray) (q : QD) : Bool := (q.bl ++ q.wh.dims).all (fun s => inL s d) && q.tl.all (mtOk m) && q.hl.all (fun h => mtOk m h.t)
set_option maxHeartbeats 2000000 in
theorem names_c (dv mv : Value) (d m : List ByteArray) (q : QD) (w : World) (h : ScIs w dv mv d m) (hq : q.Ok w) (hcn : q.wh.cnt ≤ 1000000) (hbl : q.bl.length ≤ 1000) : FnC Try.prog 78 #[scV dv mv, .agg (qdC q).toArray] w fun v w' => v = .bool (nsOk d m q) ∧ Later w w' := by
  unfold scV
  obtain ⟨to, tc, htv, ht1, ht2⟩ := RecS.slice hq.tv
  obtain ⟨ho, hc, hhv, hh1, hh2⟩ := RecS.slice hq.hv
  obtain ⟨bo, bc, hbv⟩ := Sl.slice hq.bv
  rw [List.length_map] at hbv
  refine enter78 _ _ ?_
  unfold B78
  have eca : (Value.agg (qdC q).toArray).cells = (qdC q).toArray := rfl
  have ecb : (Value.agg #[dv, mv]).cells = #[dv, mv] := rfl
  obtain ⟨l1, s1, F⟩ := box2 w dv mv 24
  have B2 := Blk.new (w.alloc (.cells #[dv, mv] 24)) (qdC q).toArray 42
  have l2 := later_alloc (w.alloc (.cells #[dv, mv] 24)) (.cells (qdC q).toArray 42)
  rw [s1] at B2
  repeat' (first | (simp (disch := omega) only [push_cast, ↓reduceIte, zA, zG, zB, zH, zI, zC, zJ, zK, zL, zD, zE, zF, zM, zN, zO, zP, zQ, reduceCtorEq, eca, ecb, s1]) | refine iX ?_ ?_ <;> intro _ | refine And.intro (by omega) ?_ | fail)
  have l12 := l1.trans l2
  have FF : ∀ w', Later ((w.alloc (.cells #[dv, mv] 24)).alloc (.cells (qdC q).toArray 42)) w' → w'.cell? ⟨w.heap.size, 0, none⟩ = some dv ∧ cellsAt w' ⟨w.heap.size, 0, none⟩ 2 = some [dv, mv] := fun w' hl => ⟨(F w' (l2.trans hl)).1, (F w' (l2.trans hl)).2.2⟩
  clear F
  have hs1 : ((w.alloc (.cells #[dv, mv] 24)).alloc (.cells (qdC q).toArray 42)).heap.size = w.heap.size + 2 := by rw [World.size_alloc, s1]
  generalize (w.alloc (.cells #[dv, mv] 24)).alloc (.cells (qdC q).toArray 42) = w1 at *
  generalize hkf : w.heap.size = kf at *
  have h1 := h.later l12
  have q1 := hq.later l12
  have fw : ∀ w', Later w1 w' → cellsAt w' ⟨kf + 1, 5, none⟩ 4 = some (ftC q.wh) := fun w' hl => by
    obtain ⟨_, _, _, _, _, b5, b6, b7, b8, _⟩ := qdAt (qdLater B2 hl)
    refine cellsAt_of 4 _ _ rfl fun i x hx => ?_
    rw [addr_add_eq]
    match i, hx with
    | 0, hx => cases hx; exact b5
    | 1, hx => cases hx; exact b6
    | 2, hx => cases hx; exact b7
    | 3, hx => cases hx; exact b8
    | n + 4, hx => exact absurd hx (by simp [ftC])
  obtain ⟨a0, _, _, _, a4, _, _, _, _, a9, _⟩ := qdAt B2
  have fw1 := fw w1 (Later.refl _)
  refine drawn_k 7 ?_
  repeat' (first | (simp (disch := omega) only [push_cast, ↓reduceIte, zA, zG, zB, zH, zI, zC, zJ, zK, zL, zD, zE, zF, zM, zN, zO, zP, zQ, reduceCtorEq, a4, fw1, addr_add_eq, Nat.zero_add]) | refine iX ?_ ?_ <;> intro _ | refine And.intro (by omega) ?_ | fail)
  refine nB_of _ (Lit0 w1.heap.size) (stb_lit0 _ _) (fun w' hl => ?_) ?_
  · repeat' (first | (simp (disch := omega) only [push_cast, ↓reduceIte, zA, zG, zB, zH, zI, zC, zJ, zK, zL, zD, zE, zF, zM, zN, zO, zP, zQ, reduceCtorEq]) | refine iX ?_ ?_ <;> intro _ | refine And.intro (by omega) ?_ | fail)
    exact ⟨later_alloc _ _, ⟨_, rfl⟩, own_lit w' [] _ 1 0 rfl (by unfold maxLen; omega) hl.size⟩
  repeat' (first | (simp (disch := omega) only [push_cast, ↓reduceIte, zA, zG, zB, zH, zI, zC, zJ, zK, zL, zD, zE, zF, zM, zN, zO, zP, zQ, reduceCtorEq, a4, fw1, addr_add_eq, Nat.zero_add]) | refine iX ?_ ?_ <;> intro _ | refine And.intro (by omega) ?_ | fail)
  refine nR_app (fun v w' => OwnS w' w1.heap.size v q.bl) (stb_ownS _ _ _) (fun σ' w' hl hp => ?_) ?_
  · obtain ⟨hp26, hp28, _⟩ := hp
    obtain ⟨⟨lb, h26⟩, h26o⟩ : Lit0 w1.heap.size (σ' 13) w' := hp26
    have h28 : σ' 15 = q.bv := hp28
    have hsn := StS.n (q1.later hl).bv
    rw [h26] at h26o
    repeat' (first | (simp (disch := omega) only [push_cast, ↓reduceIte, zA, zG, zB, zH, zI, zC, zJ, zK, zL, zD, zE, zF, zM, zN, zO, zP, zQ, reduceCtorEq, h28, h26]) | refine iX ?_ ?_ <;> intro _ | refine And.intro (by omega) ?_ | fail)
    refine vAppend_fresh Try.underlying22 ti9 rfl (by decide) hsn (by unfold maxLen; omega) (by omega) ?_
    intro v' w'' h0 h1
    rcases Nat.eq_zero_or_pos q.bl.length with hz | hz
    · obtain ⟨rfl, rfl⟩ := h0 hz
      have : q.bl = [] := List.length_eq_zero_iff.1 hz
      rw [this]
      exact ⟨Later.refl _, h26o⟩
    · obtain ⟨ho, hll⟩ := h1 hz
      exact ⟨hll, own_base ho hl.size⟩
  repeat' (first | (simp (disch := omega) only [push_cast, ↓reduceIte, zA, zG, zB, zH, zI, zC, zJ, zK, zL, zD, zE, zF, zM, zN, zO, zP, zQ, reduceCtorEq, a4, fw1, addr_add_eq, Nat.zero_add]) | refine iX ?_ ?_ <;> intro _ | refine And.intro (by omega) ?_ | fail)
  refine NFn.of hb83 (fun v w' => OwnS w' w1.heap.size v q.wh.dims) (stb_ownS _ _ _) (fun w' hl => (dims_c q.wh w' hcn (q1.wh.later hl)).mono fun v w'' hv => ⟨own_base hv.1 hl.size, hv.2⟩) ?_
  repeat' (first | (simp (disch := omega) only [push_cast, ↓reduceIte, zA, zG, zB, zH, zI, zC, zJ, zK, zL, zD, zE, zF, zM, zN, zO, zP, zQ, reduceCtorEq, a4, fw1, addr_add_eq, Nat.zero_add]) | refine iX ?_ ?_ <;> intro _ | refine And.intro (by omega) ?_ | fail)
  rintro w2 l2' X2 hX2 X1 hX1 _ _
  have hdc := FT.dims_cnt q.wh
  refine vAppend_ss hX1 (OwnS.st hX2) (by omega) l2'.size ?_
  intro v3 w3 ho3 hg3 _
  have l13 := l2'.appended hX1 (Nat.le_refl _) hg3
  have hL := OwnS.st ho3
  have hns : nsOk d m q = ((q.bl ++ q.wh.dims).all (fun s => inL s d) && q.tl.all (mtOk m) && q.hl.all (fun h => mtOk m h.t)) := rfl
  rw [hns]
  clear hns ho3 hg3 hX1 hX2
  have hLl : (q.bl ++ q.wh.dims).length ≤ 100000000 := by rw [List.length_append]; omega
  generalize q.bl ++ q.wh.dims = L at *
  obtain ⟨lo, lc, rfl⟩ := Sl.slice hL
  rw [List.length_map] at hL ⊢
  have h3 := h1.later l13
  have q3 := q1.later l13
  repeat' (first | (simp (disch := omega) only [push_cast, ↓reduceIte, zA, zG, zB, zH, zI, zC, zJ, zK, zL, zD, zE, zF, zM, zN, zO, zP, zQ, reduceCtorEq]) | refine iX ?_ ?_ <;> intro _ | refine And.intro (by omega) ?_ | refine dq ?_)
  refine vc_loop W78_0 (fun i : Nat => [(4, .bool false), (6, .int .i64 (i : Int))]) (fun i w' => i ≤ L.length ∧ Later w3 w' ∧ (L.take i).all (fun s => inL s d) = true) (fun i => L.length - i) 0 (by decide) ?_ ?_ ?_
  · simp (disch := omega) only [push_cast, ↓reduceIte, zA, zG, zB, zH, zI, zC, zJ, zK, zL, zD, zE, zF, zM, zN, zO, zP, zQ, reduceCtorEq]
  · exact ⟨Nat.zero_le _, Later.refl _, rfl⟩
  rintro i uu w4 ⟨hi, l4, hall⟩
  have f4 := FF w4 (l13.trans l4)
  by_cases hik : i < L.length
  · have hd2 : decide ((i : Int) < (L.length : Int)) = true := decide_eq_true (by omega)
    have hS := Sl.later hL l4
    cases lo with
    | none => have := (Sl.len hS).2.2.2 rfl; have h0 := this.1; simp at h0; rw [h0] at hik; simp at hik
    | some la =>
    have hc := StS.atS hS hik
    repeat' (first | (simp (disch := omega) only [push_cast, ↓reduceIte, zA, zG, zB, zH, zI, zC, zJ, zK, zL, zD, zE, zF, zM, zN, zO, zP, zQ, reduceCtorEq, hd2, hc, f4.1, addr_add_eq, Nat.zero_add]) | refine iX ?_ ?_ <;> intro _ | refine And.intro (by omega) ?_ | refine dq ?_)
    refine QFn.of hb43 (v := fndV L[i] d) (fun w' hl => (dfind_c dv d L[i] w' (h3.later (l4.trans hl)).dS).mono fun u w'' hu => ⟨hu.1, by rw [hu.2]; exact Later.refl _⟩) ?_
    unfold fndV
    have hst : (L.take (i + 1)).all (fun s => inL s d) = inL L[i] d := by
      rw [List.take_succ_eq_append_getElem hik, List.all_append, hall]; simp
    have hf0 : inL L[i] d = false → L.all (fun s => inL s d) = false := fun h => by
      rw [List.all_eq_false]
      exact ⟨_, List.getElem_mem hik, by simp [h]⟩
    cases hin : inL L[i] d with
    | true =>
      repeat' (first | (simp (disch := omega) only [push_cast, ↓reduceIte, zA, zG, zB, zH, zI, zC, zJ, zK, zL, zD, zE, zF, zM, zN, zO, zP, zQ, reduceCtorEq]) | refine iX ?_ ?_ <;> intro _ | refine And.intro (by omega) ?_ | refine dq ?_)
      exact fun w' hl => ⟨rfl, i + 1, by simp (disch := omega) only [push_cast, ↓reduceIte, zA, zG, zB, zH, zI, zC, zJ, zK, zL, zD, zE, zF, zM, zN, zO, zP, zQ, reduceCtorEq], ⟨by omega, l4.trans hl, by rw [hst, hin]⟩, by dsimp only; omega⟩
    | false =>
      rw [hf0 hin]
      repeat' (first | (simp (disch := omega) only [push_cast, ↓reduceIte, zA, zG, zB, zH, zI, zC, zJ, zK, zL, zD, zE, zF, zM, zN, zO, zP, zQ, reduceCtorEq]) | refine iX ?_ ?_ <;> intro _ | refine And.intro (by omega) ?_ | refine dq ?_)
      exact fun w' hl => l12.trans (l13.trans (l4.trans hl))
  have hd2 : decide ((i : Int) < (L.length : Int)) = false := decide_eq_false (by omega)
  rw [List.take_of_length_le (by omega)] at hall
  rw [hall, Bool.true_and]
  clear f4 hall hi
  repeat' (first | (simp (disch := omega) only [push_cast, ↓reduceIte, zA, zG, zB, zH, zI, zC, zJ, zK, zL, zD, zE, zF, zM, zN, zO, zP, zQ, reduceCtorEq, hd2]) | refine iX ?_ ?_ <;> intro _ | refine And.intro (by omega) ?_ | refine dq ?_)
  have l14 := l13.trans l4
  refine vc_loop W78_1 (fun i : Nat => [(4, .bool false), (9, .int .i64 (i : Int))]) (fun i w' => i ≤ q.tl.length ∧ Later w4 w' ∧ (q.tl.take i).all (mtOk m) = true) (fun i => q.tl.length - i) 0 (by decide) ?_ ?_ ?_
  · simp (disch := omega) only [push_cast, ↓reduceIte, zA, zG, zB, zH, zI, zC, zJ, zK, zL, zD, zE, zF, zM, zN, zO, zP, zQ, reduceCtorEq]
  · exact ⟨Nat.zero_le _, Later.refl _, rfl⟩
  clear hd2
  rintro i uu w5 ⟨hi, l5, hall⟩
  have l15 := l14.trans l5
  have f5 := FF w5 l15
  obtain ⟨b0, _⟩ := qdAt (qdLater B2 l15)
  rw [htv] at b0
  by_cases hik : i < q.tl.length
  · have hd2 : decide ((i : Int) < (q.tl.length : Int)) = true := decide_eq_true (by omega)
    have h4 := (q1.later l15).tv
    rw [htv] at h4
    obtain ⟨a, rfl, fa⟩ := RecS.at tdC_len h4 hik
    have hst : (q.tl.take (i + 1)).all (mtOk m) = mtOk m q.tl[i] := by
      rw [List.take_succ_eq_append_getElem hik, List.all_append, hall]; simp
    have hf0 : mtOk m q.tl[i] = false → q.tl.all (mtOk m) = false := fun h => by
      rw [List.all_eq_false]
      exact ⟨_, List.getElem_mem hik, by simp [h]⟩
    have fb := f5.2
    repeat' (first | (simp (disch := omega) only [push_cast, ↓reduceIte, zA, zG, zB, zH, zI, zC, zJ, zK, zL, zD, zE, zF, zM, zN, zO, zP, zQ, reduceCtorEq, b0, hd2, fa, fb, addr_add_eq, Nat.zero_add]) | refine iX ?_ ?_ <;> intro _ | refine And.intro (by omega) ?_ | refine dq ?_)
    refine QFn.of hb124 (v := .bool (mtOk m q.tl[i])) (fun w' hl => metric_c dv mv d m q.tl[i] w' (h1.later (l15.trans hl))) ?_
    cases hin : mtOk m q.tl[i] with
    | true =>
      repeat' (first | (simp (disch := omega) only [push_cast, ↓reduceIte, zA, zG, zB, zH, zI, zC, zJ, zK, zL, zD, zE, zF, zM, zN, zO, zP, zQ, reduceCtorEq]) | refine iX ?_ ?_ <;> intro _ | refine And.intro (by omega) ?_ | refine dq ?_)
      exact fun w' hl => ⟨rfl, i + 1, by simp (disch := omega) only [push_cast, ↓reduceIte, zA, zG, zB, zH, zI, zC, zJ, zK, zL, zD, zE, zF, zM, zN, zO, zP, zQ, reduceCtorEq], ⟨by omega, l5.trans hl, by rw [hst, hin]⟩, by dsimp only; omega⟩
    | false =>
      rw [hf0 hin]
      repeat' (first | (simp (disch := omega) only [push_cast, ↓reduceIte, zA, zG, zB, zH, zI, zC, zJ, zK, zL, zD, zE, zF, zM, zN, zO, zP, zQ, reduceCtorEq]) | refine iX ?_ ?_ <;> intro _ | refine And.intro (by omega) ?_ | refine dq ?_)
      exact fun w' hl => l12.trans (l15.trans hl)
  have hd2 : decide ((i : Int) < (q.tl.length : Int)) = false := decide_eq_false (by omega)
  rw [List.take_of_length_le (by omega)] at hall
  rw [hall, Bool.true_and]
  clear f5 hall hi
  repeat' (first | (simp (disch := omega) only [push_cast, ↓reduceIte, zA, zG, zB, zH, zI, zC, zJ, zK, zL, zD, zE, zF, zM, zN, zO, zP, zQ, reduceCtorEq, b0, hd2, addr_add_eq, Nat.zero_add]) | refine iX ?_ ?_ <;> intro _ | refine And.intro (by omega) ?_ | refine dq ?_)
  clear b0
  refine vc_loop W78_2 (fun i : Nat => [(4, .bool false), (11, .int .i64 (i : Int))]) (fun i w' => i ≤ q.hl.length ∧ Later w5 w' ∧ (q.hl.take i).all (fun h => mtOk m h.t) = true) (fun i => q.hl.length - i) 0 (by decide) ?_ ?_ ?_
  · simp (disch := omega) only [push_cast, ↓reduceIte, zA, zG, zB, zH, zI, zC, zJ, zK, zL, zD, zE, zF, zM, zN, zO, zP, zQ, reduceCtorEq]
  · exact ⟨Nat.zero_le _, Later.refl _, rfl⟩
  clear hd2
  rintro i uu w6 ⟨hi, l6, hall⟩
  have l16 := l15.trans l6
  have f6 := FF w6 l16
  obtain ⟨_, _, _, _, _, _, _, _, _, b9, _⟩ := qdAt (qdLater B2 l16)
  rw [hhv] at b9
  by_cases hik : i < q.hl.length
  · have hd2 : decide ((i : Int) < (q.hl.length : Int)) = true := decide_eq_true (by omega)
    have h4 := (q1.later l16).hv
    rw [hhv] at h4
    obtain ⟨a, rfl, fa⟩ := RecS.at hdC_len h4 hik
    have fx : cellsAt w6 (a.add (i * 4)) 2 = some (tdC q.hl[i].t) := by
      refine cellsAt_of 2 _ _ rfl fun j y hx => ?_
      match j, hx with
      | 0, hx => cases hx; exact RecS.cell (j := 0) hdC_len h4 hik rfl
      | 1, hx => cases hx; exact RecS.cell (j := 1) hdC_len h4 hik rfl
      | n + 2, hx => exact absurd hx (by simp [tdC])
    have hst : (q.hl.take (i + 1)).all (fun h => mtOk m h.t) = mtOk m q.hl[i].t := by
      rw [List.take_succ_eq_append_getElem hik, List.all_append, hall]; simp
    have hf0 : mtOk m q.hl[i].t = false → q.hl.all (fun h => mtOk m h.t) = false := fun h => by
      rw [List.all_eq_false]
      exact ⟨_, List.getElem_mem hik, by simp [h]⟩
    have fb := f6.2
    repeat' (first | (simp (disch := omega) only [push_cast, ↓reduceIte, zA, zG, zB, zH, zI, zC, zJ, zK, zL, zD, zE, zF, zM, zN, zO, zP, zQ, reduceCtorEq, b9, hd2, fx, fb, addr_add_eq, Nat.zero_add]) | refine iX ?_ ?_ <;> intro _ | refine And.intro (by omega) ?_ | refine dq ?_)
    refine QFn.of hb124 (v := .bool (mtOk m q.hl[i].t)) (fun w' hl => metric_c dv mv d m q.hl[i].t w' (h1.later (l16.trans hl))) ?_
    cases hin : mtOk m q.hl[i].t with
    | true =>
      repeat' (first | (simp (disch := omega) only [push_cast, ↓reduceIte, zA, zG, zB, zH, zI, zC, zJ, zK, zL, zD, zE, zF, zM, zN, zO, zP, zQ, reduceCtorEq]) | refine iX ?_ ?_ <;> intro _ | refine And.intro (by omega) ?_ | refine dq ?_)
      exact fun w' hl => ⟨rfl, i + 1, by simp (disch := omega) only [push_cast, ↓reduceIte, zA, zG, zB, zH, zI, zC, zJ, zK, zL, zD, zE, zF, zM, zN, zO, zP, zQ, reduceCtorEq], ⟨by omega, l6.trans hl, by rw [hst, hin]⟩, by dsimp only; omega⟩
    | false =>
      rw [hf0 hin]
      repeat' (first | (simp (disch := omega) only [push_cast, ↓reduceIte, zA, zG, zB, zH, zI, zC, zJ, zK, zL, zD, zE, zF, zM, zN, zO, zP, zQ, reduceCtorEq]) | refine iX ?_ ?_ <;> intro _ | refine And.intro (by omega) ?_ | refine dq ?_)
      exact fun w' hl => l12.trans (l16.trans hl)
  have hd2 : decide ((i : Int) < (q.hl.length : Int)) = false := decide_eq_false (by omega)
  rw [List.take_of_length_le (by omega)] at hall
  rw [hall]
  repeat' (first | (simp (disch := omega) only [push_cast, ↓reduceIte, zA, zG, zB, zH, zI, zC, zJ, zK, zL, zD, zE, zF, zM, zN, zO, zP, zQ, reduceCtorEq, b9, hd2, addr_add_eq, Nat.zero_add]) | refine iX ?_ ?_ <;> intro _ | refine And.intro (by omega) ?_ | refine dq ?_)
  first | exact ⟨rfl, (l12.trans l16)⟩ | exact (l12.trans l16)
end Go.Proofs.Ytnofalhkapmcnaa
end
section
set_option linter.unusedSimpArgs false
namespace Go.Proofs.Ytnofalhkapmcnaa
open Go.Vc Go.Key
set_option maxRecDepth 100000
def grOk (g : Int) : Bool := decide (1 ≤ g) && decide (g ≤ 1048576)
theorem dgright_c (g : Int) (w : World) : FnC Try.prog 84 #[.int .i64 g] w fun r w' => r = .bool (grOk g) ∧ w' = w := by
  refine enter84 _ ?_
  unfold B84
  unfold grOk
  by_cases h1 : 1 ≤ g
  · have e1 : decide (1 ≤ g) = true := decide_eq_true h1
    repeat' (first | (simp (disch := omega) only [push_cast, ↓reduceIte, zA, zG, zB, zH, zI, zC, zJ, zK, zL, zD, zE, zF, zM, zN, zO, zP, zQ, reduceCtorEq, e1]) | refine iX ?_ ?_ <;> intro _ | refine And.intro (by omega) ?_ | refine dq ?_)
    first | done | exact ⟨by simp, rfl⟩ | simp
  · have e1 : decide (1 ≤ g) = false := decide_eq_false h1
    repeat' (first | (simp (disch := omega) only [push_cast, ↓reduceIte, zA, zG, zB, zH, zI, zC, zJ, zK, zL, zD, zE, zF, zM, zN, zO, zP, zQ, reduceCtorEq, e1]) | refine iX ?_ ?_ <;> intro _ | refine And.intro (by omega) ?_ | refine dq ?_)
    first | done | exact ⟨by simp, rfl⟩ | simp
def tyNum (q : QD) : Prop := 0 ≤ q.fr ∧ q.fr < q.to ∧ q.to ≤ 1099511627776 ∧ -(q.tl.length : Int) ≤ q.od ∧ q.od ≤ (q.tl.length : Int) ∧ 0 ≤ q.lm ∧ q.lm ≤ 1000
instance (q : QD) : Decidable (tyNum q) := inferInstanceAs (Decidable (_ ∧ _))
def evOk (q : QD) : Bool := decide (q.ev = 0) || grOk q.ev
def tpOk (q : QD) : Bool := decide (q.bl.Pairwise (fun x y => x ≠ y)) && q.wh.vals.all (fun s => decide (VlOk s)) && evOk q && decide (tyNum q)
set_option maxHeartbeats 4000000 in
theorem types_c (q : QD) (w : World) (hq : q.Ok w) (hbl : q.bl.length ≤ 1000) : FnC Try.prog 79 #[.agg (qdC q).toArray] w fun v w' => v = .bool (tpOk q) ∧ Later w w' := by
  obtain ⟨to, tc, htv, ht1, ht2⟩ := RecS.slice hq.tv
  obtain ⟨bo, bc, hbv⟩ := Sl.slice hq.bv
  rw [List.length_map] at hbv
  have hbS := hq.bv
  rw [hbv] at hbS
  refine enter79 _ ?_
  unfold B79
  have eca : (Value.agg (qdC q).toArray).cells = (qdC q).toArray := rfl
  have l1 := later_alloc w (.cells (qdC q).toArray 42)
  have B1 := Blk.new w (qdC q).toArray 42
  repeat' (first | (simp (disch := omega) only [push_cast, ↓reduceIte, zA, zG, zB, zH, zI, zC, zJ, zK, zL, zD, zE, zF, zM, zN, zO, zP, zQ, reduceCtorEq, eca]) | refine iX ?_ ?_ <;> intro _ | refine And.intro (by omega) ?_ | refine dq ?_)
  generalize w.alloc (.cells (qdC q).toArray 42) = w1 at *
  generalize w.heap.size = kf at *
  refine vc_loop W79_0 (fun i : Nat => [(2, .bool false), (3, .int .i64 (i : Int))]) (fun i w' => i ≤ q.bl.length ∧ Later w1 w' ∧ (q.bl.take i).Pairwise (fun x y => x ≠ y)) (fun i => q.bl.length - i) 0 (by decide) ?_ ?_ ?_
  · simp (disch := omega) only [push_cast, ↓reduceIte, zA, zG, zB, zH, zI, zC, zJ, zK, zL, zD, zE, zF, zM, zN, zO, zP, zQ, reduceCtorEq]
  · exact ⟨Nat.zero_le _, Later.refl _, by simp⟩
  rintro i uu w2 ⟨hi, l2, hall⟩
  obtain ⟨b0, b1, b2, b3, b4, b5, b6, b7, b8, b9, b10, b11⟩ := qdAt (qdLater B1 l2)
  rw [hbv] at b4
  by_cases hik : i < q.bl.length
  · have hd2 : decide ((i : Int) < (q.bl.length : Int)) = true := decide_eq_true (by omega)
    cases bo with
    | none => have := (Sl.len hbS).2.2.2 rfl; have h0 := this.1; simp at h0; rw [h0] at hik; simp at hik
    | some la =>
    repeat' (first | (simp (disch := omega) only [push_cast, ↓reduceIte, zA, zG, zB, zH, zI, zC, zJ, zK, zL, zD, zE, zF, zM, zN, zO, zP, zQ, reduceCtorEq, b4, hd2, addr_add_eq, Nat.zero_add]) | refine iX ?_ ?_ <;> intro _ | refine And.intro (by omega) ?_ | refine dq ?_)
    refine vc_loop W79_1 (fun k : Nat => [(2, .bool false), (4, .int .i64 (k : Int))]) (fun k w' => k ≤ i ∧ Later w2 w' ∧ ∀ j (h : j < q.bl.length), j < k → q.bl[j] ≠ q.bl[i]) (fun k => i - k) 0 (by decide) ?_ ?_ ?_
    · simp (disch := omega) only [push_cast, ↓reduceIte, zA, zG, zB, zH, zI, zC, zJ, zK, zL, zD, zE, zF, zM, zN, zO, zP, zQ, reduceCtorEq]
    · exact ⟨Nat.zero_le _, Later.refl _, fun j _ hj => absurd hj (by omega)⟩
    rintro k u2 w3 ⟨hk, l3, hne⟩
    obtain ⟨_, _, _, _, c4, _⟩ := qdAt (qdLater B1 (l2.trans l3))
    rw [hbv] at c4
    have hS3 := Sl.later hbS (l1.trans (l2.trans l3))
    have hci := StS.atS hS3 hik
    by_cases hki : k < i
    · have hd3 : decide ((k : Int) < (i : Int)) = true := decide_eq_true (by omega)
      have hkl : k < q.bl.length := by omega
      have hck := StS.atS hS3 hkl
      by_cases he : q.bl[i] = q.bl[k]
      · have hd4 : decide (q.bl[i] = q.bl[k]) = true := decide_eq_true he
        have hf : tpOk q = false := by
          unfold tpOk
          rw [decide_eq_false (fun hp => (show q.bl[k] ≠ q.bl[i] from List.pairwise_iff_getElem.1 hp k i hkl hik hki) he.symm)]
          simp
        rw [hf]
        repeat' (first | (simp (disch := omega) only [push_cast, ↓reduceIte, zA, zG, zB, zH, zI, zC, zJ, zK, zL, zD, zE, zF, zM, zN, zO, zP, zQ, reduceCtorEq, c4, hci, hck, hd3, hd4, addr_add_eq, Nat.zero_add]) | refine iX ?_ ?_ <;> intro _ | refine And.intro (by omega) ?_ | refine dq ?_)
        first | exact fun w' hl => (l1.trans (l2.trans (l3.trans hl))) | exact fun w' hl => ⟨rfl, l1.trans (l2.trans (l3.trans hl))⟩ | trace_state
      · have hd4 : decide (q.bl[i] = q.bl[k]) = false := decide_eq_false he
        repeat' (first | (simp (disch := omega) only [push_cast, ↓reduceIte, zA, zG, zB, zH, zI, zC, zJ, zK, zL, zD, zE, zF, zM, zN, zO, zP, zQ, reduceCtorEq, c4, hci, hck, hd3, hd4, addr_add_eq, Nat.zero_add]) | refine iX ?_ ?_ <;> intro _ | refine And.intro (by omega) ?_ | refine dq ?_)
        refine fun w' hl => ⟨rfl, k + 1, by simp (disch := omega) only [push_cast, ↓reduceIte, zA, zG, zB, zH, zI, zC, zJ, zK, zL, zD, zE, zF, zM, zN, zO, zP, zQ, reduceCtorEq], ⟨by omega, l3.trans hl, fun j hj hjk => ?_⟩, by dsimp only; omega⟩
        by_cases hjk' : j = k
        · subst hjk'; exact fun h => he h.symm
        · exact hne j hj (by omega)
    · have hd3 : decide ((k : Int) < (i : Int)) = false := decide_eq_false (by omega)
      repeat' (first | (simp (disch := omega) only [push_cast, ↓reduceIte, zA, zG, zB, zH, zI, zC, zJ, zK, zL, zD, zE, zF, zM, zN, zO, zP, zQ, reduceCtorEq, hd3]) | refine iX ?_ ?_ <;> intro _ | refine And.intro (by omega) ?_ | refine dq ?_)
      exact ⟨rfl, i + 1, by simp (disch := omega) only [push_cast, ↓reduceIte, zA, zG, zB, zH, zI, zC, zJ, zK, zL, zD, zE, zF, zM, zN, zO, zP, zQ, reduceCtorEq], ⟨by omega, l2.trans l3, ok_step hik hall (fun j hj hji => hne j hj (by omega))⟩, by dsimp only; omega⟩
  have hd2 : decide ((i : Int) < (q.bl.length : Int)) = false := decide_eq_false (by omega)
  rw [List.take_of_length_le (by omega)] at hall
  have l02 := l1.trans l2
  have fw : cellsAt w2 ⟨kf, 5, none⟩ 4 = some (ftC q.wh) := by
    refine cellsAt_of 4 _ _ rfl fun i x hx => ?_
    rw [addr_add_eq]
    match i, hx with
    | 0, hx => cases hx; exact b5
    | 1, hx => cases hx; exact b6
    | 2, hx => cases hx; exact b7
    | 3, hx => cases hx; exact b8
    | n + 4, hx => exact absurd hx (by simp [ftC])
  have htp : tpOk q = (q.wh.vals.all (fun s => decide (VlOk s)) && evOk q && decide (tyNum q)) := by
    unfold tpOk; rw [decide_eq_true hall]; simp
  rw [htp]
  repeat' (first | (simp (disch := omega) only [push_cast, ↓reduceIte, zA, zG, zB, zH, zI, zC, zJ, zK, zL, zD, zE, zF, zM, zN, zO, zP, zQ, reduceCtorEq, b4, hd2, fw, addr_add_eq, Nat.zero_add]) | refine iX ?_ ?_ <;> intro _ | refine And.intro (by omega) ?_ | refine dq ?_)
  refine (values_c q.wh w2 (hq.wh.later l02)).mono ?_
  rintro _ w3 ⟨rfl, l3⟩
  obtain ⟨b0, b1, b2, b3, _, _, _, _, _, _, b10, b11⟩ := qdAt (qdLater B1 (l2.trans l3))
  rw [htv] at b0
  have l03 := l02.trans l3
  generalize q.wh.vals.all (fun s => decide (VlOk s)) = vb at *
  clear fw b4 hd2 B1 hall hik htp
  by_cases h0 : q.ev = 0
  · have e0 : decide (q.ev = 0) = true := decide_eq_true h0
    have he : evOk q = true := by unfold evOk; rw [e0]; rfl
    rw [he]
    clear he
    cases vb with
    | false =>
      repeat' (first | (simp (disch := omega) only [push_cast, ↓reduceIte, zA, zG, zB, zH, zI, zC, zJ, zK, zL, zD, zE, zF, zM, zN, zO, zP, zQ, reduceCtorEq, b0, b3, e0, addr_add_eq, Nat.zero_add]) | refine iX ?_ ?_ <;> intro _ | refine And.intro (by omega) ?_ | refine dq ?_)
      first | exact ⟨(by simp), l03⟩ | exact l03
    | true =>
    have hE : evOk q = true := by unfold evOk; rw [e0]; rfl
    by_cases hT : tyNum q
    · obtain ⟨t1, t2, t3, t4, t5, t6, t7⟩ := hT
      have e1 : decide (0 ≤ q.fr) = true := decide_eq_true t1
      have e2 : decide (q.fr < q.to) = true := decide_eq_true t2
      have e3 : decide (q.to ≤ 1099511627776) = true := decide_eq_true t3
      have e4 : decide (-(q.tl.length : Int) ≤ q.od) = true := decide_eq_true t4
      have e5 : decide (q.od ≤ (q.tl.length : Int)) = true := decide_eq_true t5
      have e6 : decide (0 ≤ q.lm) = true := decide_eq_true t6
      have e7 : decide (q.lm ≤ 1000) = true := decide_eq_true t7
      have hT : decide (tyNum q) = true := decide_eq_true ⟨t1, t2, t3, t4, t5, t6, t7⟩
      repeat' (first | (simp (disch := omega) only [push_cast, ↓reduceIte, zA, zG, zB, zH, zI, zC, zJ, zK, zL, zD, zE, zF, zM, zN, zO, zP, zQ, reduceCtorEq, b0, b1, b2, b3, b10, b11, e0, hE, e1, e2, e3, e4, e5, e6, e7, addr_add_eq, Nat.zero_add]) | refine iX ?_ ?_ <;> intro _ | refine And.intro (by omega) ?_ | refine dq ?_)
      first | exact ⟨(by rw [hT]), l03⟩ | exact l03
    · have hTd : decide (tyNum q) = false := decide_eq_false hT
      unfold tyNum at hT
      repeat' (first | (simp (disch := omega) only [push_cast, ↓reduceIte, zA, zG, zB, zH, zI, zC, zJ, zK, zL, zD, zE, zF, zM, zN, zO, zP, zQ, reduceCtorEq, b0, b1, b2, b3, b10, b11, e0, hE, addr_add_eq, Nat.zero_add]) | refine iX ?_ ?_ <;> intro _ | refine And.intro (by omega) ?_ | refine dq ?_)
      all_goals (refine ⟨congrArg Value.bool ?_, l03⟩)
      all_goals (try rw [hTd])
      all_goals (first | rfl | (apply decide_eq_false; intro hx; exact hT (by omega)))
  have e0 : decide (q.ev = 0) = false := decide_eq_false h0
  have hEq : evOk q = grOk q.ev := by unfold evOk; rw [e0]; rfl
  have qf : ∀ w', Later w3 w' → FnC Try.prog 84 #[.int .i64 q.ev] w' fun u w'' => u = .bool (evOk q) ∧ Later w' w'' := fun w' hl => (dgright_c q.ev w').mono fun u w'' hu => ⟨by rw [hEq]; exact hu.1, by rw [hu.2]; exact Later.refl _⟩
  repeat' (first | (simp (disch := omega) only [push_cast, ↓reduceIte, zA, zG, zB, zH, zI, zC, zJ, zK, zL, zD, zE, zF, zM, zN, zO, zP, zQ, reduceCtorEq, b0, b3, e0, addr_add_eq, Nat.zero_add]) | refine iX ?_ ?_ <;> intro _ | refine And.intro (by omega) ?_ | refine dq ?_)
  refine (dgright_c q.ev w3).mono ?_
  rintro _ w0 ⟨rfl, hw0⟩; obtain rfl := hw0.symm
  rw [← hEq]
  cases vb with
  | false =>
    repeat' (first | (simp (disch := omega) only [push_cast, ↓reduceIte, zA, zG, zB, zH, zI, zC, zJ, zK, zL, zD, zE, zF, zM, zN, zO, zP, zQ, reduceCtorEq, b0, b3, e0, addr_add_eq, Nat.zero_add]) | refine iX ?_ ?_ <;> intro _ | refine And.intro (by omega) ?_ | refine dq ?_)
    first | exact ⟨(by simp), l03⟩ | exact l03
  | true =>
  cases hE : evOk q with
  | false =>
    repeat' (first | (simp (disch := omega) only [push_cast, ↓reduceIte, zA, zG, zB, zH, zI, zC, zJ, zK, zL, zD, zE, zF, zM, zN, zO, zP, zQ, reduceCtorEq, b0, b3, e0, hE, addr_add_eq, Nat.zero_add]) | refine iX ?_ ?_ <;> intro _ | refine And.intro (by omega) ?_ | refine dq ?_)
    first | exact ⟨(by simp), l03⟩ | exact l03
  | true =>
  by_cases hT : tyNum q
  · obtain ⟨t1, t2, t3, t4, t5, t6, t7⟩ := hT
    have e1 : decide (0 ≤ q.fr) = true := decide_eq_true t1
    have e2 : decide (q.fr < q.to) = true := decide_eq_true t2
    have e3 : decide (q.to ≤ 1099511627776) = true := decide_eq_true t3
    have e4 : decide (-(q.tl.length : Int) ≤ q.od) = true := decide_eq_true t4
    have e5 : decide (q.od ≤ (q.tl.length : Int)) = true := decide_eq_true t5
    have e6 : decide (0 ≤ q.lm) = true := decide_eq_true t6
    have e7 : decide (q.lm ≤ 1000) = true := decide_eq_true t7
    have hT : decide (tyNum q) = true := decide_eq_true ⟨t1, t2, t3, t4, t5, t6, t7⟩
    repeat' (first | (simp (disch := omega) only [push_cast, ↓reduceIte, zA, zG, zB, zH, zI, zC, zJ, zK, zL, zD, zE, zF, zM, zN, zO, zP, zQ, reduceCtorEq, b0, b1, b2, b3, b10, b11, e0, hE, e1, e2, e3, e4, e5, e6, e7, addr_add_eq, Nat.zero_add]) | refine iX ?_ ?_ <;> intro _ | refine And.intro (by omega) ?_ | refine dq ?_)
    first | exact ⟨(by rw [hT]), l03⟩ | exact l03
  · have hTd : decide (tyNum q) = false := decide_eq_false hT
    unfold tyNum at hT
    repeat' (first | (simp (disch := omega) only [push_cast, ↓reduceIte, zA, zG, zB, zH, zI, zC, zJ, zK, zL, zD, zE, zF, zM, zN, zO, zP, zQ, reduceCtorEq, b0, b1, b2, b3, b10, b11, e0, hE, addr_add_eq, Nat.zero_add]) | refine iX ?_ ?_ <;> intro _ | refine And.intro (by omega) ?_ | refine dq ?_)
    all_goals (refine ⟨congrArg Value.bool ?_, l03⟩)
    all_goals (try rw [hTd])
    all_goals (first | rfl | (apply decide_eq_false; intro hx; exact hT (by omega)))
end Go.Proofs.Ytnofalhkapmcnaa
end
section
set_option linter.unusedSimpArgs false
namespace Go.Proofs.Ytnofalhkapmcnaa
open Go.Vc Go.Key
set_option maxRecDepth 100000
def ckQ (d m : List ByteArray) (q : QD) : Int := if shOk q = false then 221 else if nsOk d m q = false then 231 else if tpOk q = false then 232 else 0
theorem check_c (dv mv : Value) (d m : List ByteArray) (q : QD) (w : World) (h : ScIs w dv mv d m) (hq : q.Ok w) (hcn : q.wh.cnt ≤ 1000000) (hbl : q.bl.length ≤ 1000) : FnC Try.prog 33 #[scV dv mv, .agg (qdC q).toArray] w fun v w' => v = .int .i64 (ckQ d m q) ∧ Later w w' := by
  have esc : scV dv mv = .agg #[dv, mv] := rfl
  rw [esc]
  refine enter33 _ _ ?_
  unfold B33
  have eca : (Value.agg (qdC q).toArray).cells = (qdC q).toArray := rfl
  have ecb : (Value.agg #[dv, mv]).cells = #[dv, mv] := rfl
  obtain ⟨l1, s1, F⟩ := box2 w dv mv 24
  have B2 := Blk.new (w.alloc (.cells #[dv, mv] 24)) (qdC q).toArray 42
  have l2 := later_alloc (w.alloc (.cells #[dv, mv] 24)) (.cells (qdC q).toArray 42)
  rw [s1] at B2
  repeat' (first | (simp (disch := omega) only [push_cast, ↓reduceIte, zA, zG, zB, zH, zI, zC, zJ, zK, zL, zD, zE, zF, zM, zN, zO, zP, zQ, reduceCtorEq, eca, ecb, s1]) | refine iX ?_ ?_ <;> intro _ | refine And.intro (by omega) ?_ | fail)
  have l12 := l1.trans l2
  have FF : ∀ w', Later ((w.alloc (.cells #[dv, mv] 24)).alloc (.cells (qdC q).toArray 42)) w' → cellsAt w' ⟨w.heap.size, 0, none⟩ 2 = some [dv, mv] := fun w' hl => (F w' (l2.trans hl)).2.2
  clear F
  generalize (w.alloc (.cells #[dv, mv] 24)).alloc (.cells (qdC q).toArray 42) = w1 at *
  generalize hkf : w.heap.size = kf at *
  have h1 := h.later l12
  have q1 := hq.later l12
  have QQ : ∀ w', Later w1 w' → cellsAt w' ⟨kf + 1, 0, none⟩ 12 = some (qdC q) := fun w' hl => Blk.cellsAt (l := qdC q) (qdLater B2 hl)
  have c1 := QQ w1 (Later.refl _)
  repeat' (first | (simp (disch := omega) only [push_cast, ↓reduceIte, zA, zG, zB, zH, zI, zC, zJ, zK, zL, zD, zE, zF, zM, zN, zO, zP, zQ, reduceCtorEq, c1]) | refine iX ?_ ?_ <;> intro _ | refine And.intro (by omega) ?_ | refine dq ?_)
  refine (shape_c q w1 q1).mono ?_
  rintro _ w2 ⟨rfl, l3⟩
  unfold ckQ
  cases hS : shOk q with
  | false =>
    repeat' (first | (simp (disch := omega) only [push_cast, ↓reduceIte, zA, zG, zB, zH, zI, zC, zJ, zK, zL, zD, zE, zF, zM, zN, zO, zP, zQ, reduceCtorEq]) | refine iX ?_ ?_ <;> intro _ | refine And.intro (by omega) ?_ | refine dq ?_)
    first | exact ⟨(by simp), (l12.trans l3)⟩ | exact (l12.trans l3)
  | true =>
  have c2 := QQ w2 l3
  have f2 := FF w2 l3
  repeat' (first | (simp (disch := omega) only [push_cast, ↓reduceIte, zA, zG, zB, zH, zI, zC, zJ, zK, zL, zD, zE, zF, zM, zN, zO, zP, zQ, reduceCtorEq, c2, f2]) | refine iX ?_ ?_ <;> intro _ | refine And.intro (by omega) ?_ | refine dq ?_)
  refine (names_c dv mv d m q w2 (h1.later l3) (q1.later l3) hcn hbl).mono ?_
  rintro _ w3 ⟨rfl, l4⟩
  cases hN : nsOk d m q with
  | false =>
    repeat' (first | (simp (disch := omega) only [push_cast, ↓reduceIte, zA, zG, zB, zH, zI, zC, zJ, zK, zL, zD, zE, zF, zM, zN, zO, zP, zQ, reduceCtorEq]) | refine iX ?_ ?_ <;> intro _ | refine And.intro (by omega) ?_ | refine dq ?_)
    first | exact ⟨(by simp), (l12.trans (l3.trans l4))⟩ | exact (l12.trans (l3.trans l4))
  | true =>
  have l34 := l3.trans l4
  have c3 := QQ w3 l34
  repeat' (first | (simp (disch := omega) only [push_cast, ↓reduceIte, zA, zG, zB, zH, zI, zC, zJ, zK, zL, zD, zE, zF, zM, zN, zO, zP, zQ, reduceCtorEq, c3]) | refine iX ?_ ?_ <;> intro _ | refine And.intro (by omega) ?_ | refine dq ?_)
  refine (types_c q w3 (q1.later l34) hbl).mono ?_
  rintro _ w4 ⟨rfl, l5⟩
  cases hT : tpOk q with
  | false =>
    repeat' (first | (simp (disch := omega) only [push_cast, ↓reduceIte, zA, zG, zB, zH, zI, zC, zJ, zK, zL, zD, zE, zF, zM, zN, zO, zP, zQ, reduceCtorEq]) | refine iX ?_ ?_ <;> intro _ | refine And.intro (by omega) ?_ | refine dq ?_)
    first | exact ⟨(by simp), (l12.trans (l34.trans l5))⟩ | exact (l12.trans (l34.trans l5))
  | true =>
    repeat' (first | (simp (disch := omega) only [push_cast, ↓reduceIte, zA, zG, zB, zH, zI, zC, zJ, zK, zL, zD, zE, zF, zM, zN, zO, zP, zQ, reduceCtorEq]) | refine iX ?_ ?_ <;> intro _ | refine And.intro (by omega) ?_ | refine dq ?_)
    first | exact ⟨(by simp), (l12.trans (l34.trans l5))⟩ | exact (l12.trans (l34.trans l5))
end Go.Proofs.Ytnofalhkapmcnaa
end
section
set_option linter.unusedSimpArgs false
namespace Go.Proofs.Ytnofalhkapmcnaa
open Go.Vc Go.Key
set_option maxRecDepth 100000
def f23 (d m : List ByteArray) (q : QD) : Bool := decide (F10 d) && decide (F10 m) && decide (F10 q.bl) && decide (q.tl.length ≤ 30) && decide (q.hl.length ≤ 30) && decide (q.wh.prt 300 < 300) && decide (ScOk d m) && decide (q.wh.deep ≤ 60)
set_option maxHeartbeats 2000000 in
theorem fits23_c (dv mv : Value) (d m : List ByteArray) (q : QD) (w : World) (h : ScIs w dv mv d m) (hq : q.Ok w) : FnC Try.prog 27 #[scV dv mv, .agg (qdC q).toArray] w fun v w' => v = .bool (f23 d m q) ∧ Later w w' := by
  have esc : scV dv mv = .agg #[dv, mv] := rfl
  obtain ⟨to, tc, htv, ht1, ht2⟩ := RecS.slice hq.tv
  obtain ⟨ho, hc, hhv, hh1, hh2⟩ := RecS.slice hq.hv
  rw [esc]
  refine enter27 _ _ ?_
  unfold B27
  have eca : (Value.agg (qdC q).toArray).cells = (qdC q).toArray := rfl
  have ecb : (Value.agg #[dv, mv]).cells = #[dv, mv] := rfl
  obtain ⟨l1, s1, F⟩ := box2 w dv mv 24
  have B2 := Blk.new (w.alloc (.cells #[dv, mv] 24)) (qdC q).toArray 42
  have l2 := later_alloc (w.alloc (.cells #[dv, mv] 24)) (.cells (qdC q).toArray 42)
  rw [s1] at B2
  repeat' (first | (simp (disch := omega) only [push_cast, ↓reduceIte, zA, zG, zB, zH, zI, zC, zJ, zK, zL, zD, zE, zF, zM, zN, zO, zP, zQ, reduceCtorEq, eca, ecb, s1]) | refine iX ?_ ?_ <;> intro _ | refine And.intro (by omega) ?_ | fail)
  have l12 := l1.trans l2
  obtain ⟨f0, f1, f2⟩ := F _ l2
  clear F
  generalize (w.alloc (.cells #[dv, mv] 24)).alloc (.cells (qdC q).toArray 42) = w1 at *
  generalize hkf : w.heap.size = kf at *
  have h1 := h.later l12
  have q1 := hq.later l12
  have hbz : ∀ s ∈ q.bl, s.size ≤ 9223372036854775807 := fun s hs => Nat.le_trans (hq.bl s hs) (by unfold Bz; omega)
  obtain ⟨a0, a1, a2, a3, a4, b5, b6, b7, b8, a9, _⟩ := qdAt B2
  have fw : cellsAt w1 ⟨kf + 1, 5, none⟩ 4 = some (ftC q.wh) := by
    refine cellsAt_of 4 _ _ rfl fun i x hx => ?_
    rw [addr_add_eq]
    match i, hx with
    | 0, hx => cases hx; exact b5
    | 1, hx => cases hx; exact b6
    | 2, hx => cases hx; exact b7
    | 3, hx => cases hx; exact b8
    | n + 4, hx => exact absurd hx (by simp [ftC])
  rw [htv] at a0
  rw [hhv] at a9
  repeat' (first | (simp (disch := omega) only [push_cast, ↓reduceIte, zA, zG, zB, zH, zI, zC, zJ, zK, zL, zD, zE, zF, zM, zN, zO, zP, zQ, reduceCtorEq, f0, addr_add_eq, Nat.zero_add]) | refine iX ?_ ?_ <;> intro _ | refine And.intro (by omega) ?_ | refine dq ?_)
  refine (fits10_c dv d w1 h1.dS h1.dZ).mono ?_
  rintro _ w0 ⟨rfl, h0⟩; obtain rfl := h0.symm
  repeat' (first | (simp (disch := omega) only [push_cast, ↓reduceIte, zA, zG, zB, zH, zI, zC, zJ, zK, zL, zD, zE, zF, zM, zN, zO, zP, zQ, reduceCtorEq, f1, addr_add_eq, Nat.zero_add]) | refine iX ?_ ?_ <;> intro _ | refine And.intro (by omega) ?_ | refine dq ?_)
  refine (fits10_c mv m w1 h1.mS h1.mZ).mono ?_
  rintro _ w0 ⟨rfl, h0⟩; obtain rfl := h0.symm
  repeat' (first | (simp (disch := omega) only [push_cast, ↓reduceIte, zA, zG, zB, zH, zI, zC, zJ, zK, zL, zD, zE, zF, zM, zN, zO, zP, zQ, reduceCtorEq, a4, addr_add_eq, Nat.zero_add]) | refine iX ?_ ?_ <;> intro _ | refine And.intro (by omega) ?_ | refine dq ?_)
  refine (fits10_c q.bv q.bl w1 q1.bv hbz).mono ?_
  rintro _ w0 ⟨rfl, h0⟩; obtain rfl := h0.symm
  by_cases k0 : F10 d
  case neg =>
    have e0 : decide (F10 d) = false := decide_eq_false k0
    have hf : f23 d m q = false := by unfold f23; rw [e0]; simp
    rw [hf]
    repeat' (first | (simp (disch := omega) only [push_cast, ↓reduceIte, zA, zG, zB, zH, zI, zC, zJ, zK, zL, zD, zE, zF, zM, zN, zO, zP, zQ, reduceCtorEq, e0, addr_add_eq, Nat.zero_add]) | refine iX ?_ ?_ <;> intro _ | refine And.intro (by omega) ?_ | refine dq ?_)
    first | exact ⟨rfl, l12⟩ | exact l12
  have e0 : decide (F10 d) = true := decide_eq_true k0
  by_cases k1 : F10 m
  case neg =>
    have e1 : decide (F10 m) = false := decide_eq_false k1
    have hf : f23 d m q = false := by unfold f23; rw [e1]; simp
    rw [hf]
    repeat' (first | (simp (disch := omega) only [push_cast, ↓reduceIte, zA, zG, zB, zH, zI, zC, zJ, zK, zL, zD, zE, zF, zM, zN, zO, zP, zQ, reduceCtorEq, e0, e1, addr_add_eq, Nat.zero_add]) | refine iX ?_ ?_ <;> intro _ | refine And.intro (by omega) ?_ | refine dq ?_)
    first | exact ⟨rfl, l12⟩ | exact l12
  have e1 : decide (F10 m) = true := decide_eq_true k1
  by_cases k2 : F10 q.bl
  case neg =>
    have e2 : decide (F10 q.bl) = false := decide_eq_false k2
    have hf : f23 d m q = false := by unfold f23; rw [e2]; simp
    rw [hf]
    repeat' (first | (simp (disch := omega) only [push_cast, ↓reduceIte, zA, zG, zB, zH, zI, zC, zJ, zK, zL, zD, zE, zF, zM, zN, zO, zP, zQ, reduceCtorEq, e0, e1, e2, addr_add_eq, Nat.zero_add]) | refine iX ?_ ?_ <;> intro _ | refine And.intro (by omega) ?_ | refine dq ?_)
    first | exact ⟨rfl, l12⟩ | exact l12
  have e2 : decide (F10 q.bl) = true := decide_eq_true k2
  by_cases k3 : q.tl.length ≤ 30
  case neg =>
    have e3 : decide (30 < (q.tl.length : Int)) = true := decide_eq_true (by omega)
    have hf : f23 d m q = false := by unfold f23; rw [decide_eq_false k3]; simp
    rw [hf]
    repeat' (first | (simp (disch := omega) only [push_cast, ↓reduceIte, zA, zG, zB, zH, zI, zC, zJ, zK, zL, zD, zE, zF, zM, zN, zO, zP, zQ, reduceCtorEq, e0, e1, e2, e3, a0, a9, addr_add_eq, Nat.zero_add]) | refine iX ?_ ?_ <;> intro _ | refine And.intro (by omega) ?_ | refine dq ?_)
    first | exact ⟨rfl, l12⟩ | exact l12
  have e3 : decide (30 < (q.tl.length : Int)) = false := decide_eq_false (by omega)
  by_cases k4 : q.hl.length ≤ 30
  case neg =>
    have e4 : decide (30 < (q.hl.length : Int)) = true := decide_eq_true (by omega)
    have hf : f23 d m q = false := by unfold f23; rw [decide_eq_false k4]; simp
    rw [hf]
    repeat' (first | (simp (disch := omega) only [push_cast, ↓reduceIte, zA, zG, zB, zH, zI, zC, zJ, zK, zL, zD, zE, zF, zM, zN, zO, zP, zQ, reduceCtorEq, e0, e1, e2, e3, e4, a0, a9, addr_add_eq, Nat.zero_add]) | refine iX ?_ ?_ <;> intro _ | refine And.intro (by omega) ?_ | refine dq ?_)
    first | exact ⟨rfl, l12⟩ | exact l12
  have e4 : decide (30 < (q.hl.length : Int)) = false := decide_eq_false (by omega)
  repeat' (first | (simp (disch := omega) only [push_cast, ↓reduceIte, zA, zG, zB, zH, zI, zC, zJ, zK, zL, zD, zE, zF, zM, zN, zO, zP, zQ, reduceCtorEq, e0, e1, e2, e3, e4, a0, a9, fw, addr_add_eq, Nat.zero_add]) | refine iX ?_ ?_ <;> intro _ | refine And.intro (by omega) ?_ | refine dq ?_)
  refine (parts_c q.wh 300 w1 (by omega) (by omega) q1.wh).mono ?_
  rintro _ w2 ⟨rfl, l3⟩
  by_cases k5 : q.wh.prt 300 < 300
  case neg =>
    have e5 : decide (300 ≤ q.wh.prt 300) = true := decide_eq_true (by omega)
    have hf : f23 d m q = false := by unfold f23; rw [decide_eq_false k5]; simp
    rw [hf]
    repeat' (first | (simp (disch := omega) only [push_cast, ↓reduceIte, zA, zG, zB, zH, zI, zC, zJ, zK, zL, zD, zE, zF, zM, zN, zO, zP, zQ, reduceCtorEq, e5]) | refine iX ?_ ?_ <;> intro _ | refine And.intro (by omega) ?_ | refine dq ?_)
    first | exact ⟨rfl, (l12.trans l3)⟩ | exact (l12.trans l3)
  have e5 : decide (300 ≤ q.wh.prt 300) = false := decide_eq_false (by omega)
  have hcn := FT.cnt_prt q.wh 300 k5
  have g2 : cellsAt w2 ⟨kf, 0, none⟩ 2 = some [dv, mv] := cellsAt_later l3 _ f2
  have hF : ∀ l : List ByteArray, F10 l → l.length ≤ 2000000 := fun l h => by
    exact Nat.le_trans h.1 (by omega)
  repeat' (first | (simp (disch := omega) only [push_cast, ↓reduceIte, zA, zG, zB, zH, zI, zC, zJ, zK, zL, zD, zE, zF, zM, zN, zO, zP, zQ, reduceCtorEq, e5, g2]) | refine iX ?_ ?_ <;> intro _ | refine And.intro (by omega) ?_ | refine dq ?_)
  refine (dschema_c dv mv d m w2 (h1.later l3) (hF d k0) (hF m k1)).mono ?_
  rintro _ w3 ⟨rfl, l4⟩
  have l34 := l3.trans l4
  have fw3 := cellsAt_later l34 _ fw
  repeat' (first | (simp (disch := omega) only [push_cast, ↓reduceIte, zA, zG, zB, zH, zI, zC, zJ, zK, zL, zD, zE, zF, zM, zN, zO, zP, zQ, reduceCtorEq, fw3, addr_add_eq, Nat.zero_add]) | refine iX ?_ ?_ <;> intro _ | refine And.intro (by omega) ?_ | refine dq ?_)
  refine (depth_c q.wh w3 (by omega) (q1.wh.later l34)).mono ?_
  rintro _ w4 ⟨rfl, l5⟩
  have hf : f23 d m q = (decide (ScOk d m) && decide (q.wh.deep ≤ 60)) := by
    unfold f23
    rw [e0, e1, e2, decide_eq_true k3, decide_eq_true k4, decide_eq_true k5]; simp
  rw [hf]
  have e6 : decide ((q.wh.deep : Int) ≤ 60) = decide (q.wh.deep ≤ 60) := by
    by_cases hh : q.wh.deep ≤ 60
    · rw [decide_eq_true hh, decide_eq_true (by omega)]
    · rw [decide_eq_false hh, decide_eq_false (by omega)]
  by_cases k7 : ScOk d m
  · have e7 : decide (ScOk d m) = true := decide_eq_true k7
    repeat' (first | (simp (disch := omega) only [push_cast, ↓reduceIte, zA, zG, zB, zH, zI, zC, zJ, zK, zL, zD, zE, zF, zM, zN, zO, zP, zQ, reduceCtorEq, e7, e6]) | refine iX ?_ ?_ <;> intro _ | refine And.intro (by omega) ?_ | refine dq ?_)
    first | exact ⟨(by simp), (l12.trans (l34.trans l5))⟩ | exact (l12.trans (l34.trans l5))
  · have e7 : decide (ScOk d m) = false := decide_eq_false k7
    repeat' (first | (simp (disch := omega) only [push_cast, ↓reduceIte, zA, zG, zB, zH, zI, zC, zJ, zK, zL, zD, zE, zF, zM, zN, zO, zP, zQ, reduceCtorEq, e7, e6]) | refine iX ?_ ?_ <;> intro _ | refine And.intro (by omega) ?_ | refine dq ?_)
    first | exact ⟨(by simp), (l12.trans (l34.trans l5))⟩ | exact (l12.trans (l34.trans l5))
end Go.Proofs.Ytnofalhkapmcnaa
end
section
set_option linter.unusedSimpArgs false
namespace Go.Proofs.Ytnofalhkapmcnaa
open Go.Vc Go.Key
set_option maxRecDepth 100000
end Go.Proofs.Ytnofalhkapmcnaa
end
section
namespace Go.Proofs.Ytnofalhkapmcnaa
open Go.Vc
set_option maxRecDepth 100000
variable (Q : Post) (ds : List Deferred) (σ : Env) (w : World)
/-! 75 slices.Clone[[]string,string] (params #[22], results #[(.tmp 2)], 8 slots) -/
def r75_0 : List VOp :=
  [⟨some 2, .assign (.const (.slice none 0 0)), 22, none⟩]
def r75_1 : List VOp :=
  [mv 3 0 22,
   ⟨some 4, .binOp .eql 22 (.tmp 3) (.const (.slice none 0 0)) 22, 4, none⟩]
def r75_2 : List VOp :=
  [⟨some 2, .assign (.const (.slice none 0 0)), 22, none⟩]
def r75_3 : List VOp :=
  [⟨some 5, .buildSlice 22 0 #[], 22, none⟩,
   mv 6 0 22,
   ⟨some 7, .call ⟨.builtin .append, #[.tmp 5, .tmp 6], #[22, 22]⟩, 22, none⟩,
   asg 2 7 22]
def B75 : VC :=
  (.seq (.region r75_0) (.seq (.seq (.region r75_1) (.cond (.tmp 4) (.seq (.region r75_2) .ret) .skip)) (.seq (.region r75_3) .ret)))
theorem code75 : ∃ c, Try.f75.body = some c ∧ abs Try.f75.ntmps c = B75 := ⟨_, rfl, by kernel_rfl⟩
theorem hb75 : HasBody Try.prog 75 := hasBody_of Try.func75 (by kernel_rfl)
theorem enter75 (x0 : Value) : Ent 75 B75 #[(.tmp 2)] [x0] := ent code75 hb75 Try.func75 rfl rfl
@[push_cast] def vr75_0 := vR r75_0.eq_1
@[push_cast] def vr75_1 := vR r75_1.eq_1
@[push_cast] def vr75_2 := vR r75_2.eq_1
@[push_cast] def vr75_3 := vR r75_3.eq_1
/-! 81 slices.Index[[]string,string] (params #[22, 9], results #[(.tmp 4)], 19 slots) -/
def W81_0 : List Nat := [4, 5, 8, 9, 10, 11, 12, 13, 14, 15, 16, 17, 18]
@[push_cast] theorem W81_0_def : W81_0 = [4, 5, 8, 9, 10, 11, 12, 13, 14, 15, 16, 17, 18] := mk_eq rfl
def r81_0 : List VOp :=
  [⟨some 4, .assign (.const (.int .i64 0)), 3, none⟩]
def r81_1 : List VOp :=
  [mv 6 0 22,
   ⟨some 7, .call ⟨.builtin .len, #[.tmp 6], #[22]⟩, 3, none⟩,
   ⟨some 8, .move (.const (.int .i64 0)), 3, none⟩]
def r81_2 : List VOp :=
  [⟨some 9, .binOp .lss 3 (.tmp 8) (.tmp 7) 3, 0, none⟩]
def r81_3 : List VOp :=
  [mv 10 8 3,
   asg 5 10 3]
def r81_4 : List VOp :=
  [mv 11 1 9,
   mv 12 0 22,
   mv 13 5 3,
   iad 14 22 12 13,
   lda 15 9 14,
   ⟨some 16, .binOp .eql 9 (.tmp 11) (.tmp 15) 9, 4, none⟩]
def r81_5 : List VOp :=
  [mv 17 5 3,
   asg 4 17 3]
def r81_6 : List VOp :=
  [⟨some 18, .binOp .add 3 (.tmp 8) (.const (.int .i64 1)) 3, 3, none⟩,
   mv 8 18 3]
def r81_7 : List VOp :=
  [⟨some 4, .assign (.const (.int .i64 (-1))), 3, none⟩]
def B81 : VC :=
  (.seq (.region r81_0) (.seq (.seq (.region r81_1) (.block 0 (.loop (.seq (.region r81_2) (.seq (.cond (.tmp 9) .skip (.exit 0)) (.seq (.block 1 (.seq (.region r81_3) (.seq (.region r81_4) (.cond (.tmp 16) (.seq (.region r81_5) .ret) .skip)))) (.region r81_6))))))) (.seq (.region r81_7) .ret)))
theorem code81 : ∃ c, Try.f81.body = some c ∧ abs Try.f81.ntmps c = B81 := ⟨_, rfl, by kernel_rfl⟩
theorem hb81 : HasBody Try.prog 81 := hasBody_of Try.func81 (by kernel_rfl)
theorem enter81 (x0 x1 : Value) : Ent 81 B81 #[(.tmp 4)] [x0, x1] := ent code81 hb81 Try.func81 rfl rfl
@[push_cast] def vr81_0 := vR r81_0.eq_1
@[push_cast] def vr81_1 := vR r81_1.eq_1
@[push_cast] def vr81_2 := vR r81_2.eq_1
@[push_cast] def vr81_3 := vR r81_3.eq_1
@[push_cast] def vr81_4 := vR r81_4.eq_1
@[push_cast] def vr81_5 := vR r81_5.eq_1
@[push_cast] def vr81_6 := vR r81_6.eq_1
@[push_cast] def vr81_7 := vR r81_7.eq_1
/-! 82 columbary/bucket.Right (params #[3], results #[(.tmp 2)], 9 slots) -/
def r82_0 : List VOp :=
  [⟨some 2, .assign (.const (.bool false)), 4, none⟩]
def r82_1 : List VOp :=
  [mv 3 0 3,
   ⟨some 4, .binOp .geq 3 (.tmp 3) (.const (.int .i64 1)) 3, 4, none⟩,
   mv 5 4 4,
   ⟨some 6, .move (.tmp 0), 3, some (5, true)⟩,
   ⟨some 7, .binOp .leq 3 (.tmp 6) (.const (.int .i64 1048576)) 3, 4, some (5, true)⟩,
   ⟨some 8, .pick (.tmp 5) (.tmp 7) (.const (.bool false)), 4, none⟩,
   asg 2 8 4]
def B82 : VC :=
  (.seq (.region r82_0) (.seq (.region r82_1) .ret))
theorem code82 : ∃ c, Try.f82.body = some c ∧ abs Try.f82.ntmps c = B82 := ⟨_, rfl, by kernel_rfl⟩
theorem hb82 : HasBody Try.prog 82 := hasBody_of Try.func82 (by kernel_rfl)
theorem enter82 (x0 : Value) : Ent 82 B82 #[(.tmp 2)] [x0] := ent code82 hb82 Try.func82 rfl rfl
@[push_cast] def vr82_0 := vR r82_0.eq_1
@[push_cast] def vr82_1 := vR r82_1.eq_1
/-! 98 columbary/bucket.Floor (params #[3, 3], results #[(.tmp 4), (.tmp 5)], 19 slots) -/
def r98_0 : List VOp :=
  [⟨some 4, .assign (.const (.int .i64 0)), 3, none⟩,
   ⟨some 5, .assign (.const (.int .i64 0)), 53, none⟩]
def r98_1 : List VOp :=
  [mv 6 1 3,
   ⟨some 7, .call ⟨.value (.func 82), #[.tmp 6], #[3]⟩, 4, none⟩,
   ⟨some 8, .unOp .not 4 (.tmp 7), 4, none⟩,
   mv 9 8 4,
   ⟨some 10, .move (.tmp 0), 3, some (9, false)⟩,
   ⟨some 11, .call ⟨.value (.func 130), #[.tmp 10], #[3]⟩, 4, some (9, false)⟩,
   ⟨some 12, .unOp .not 4 (.tmp 11), 4, some (9, false)⟩,
   ⟨some 13, .pick (.tmp 9) (.const (.bool true)) (.tmp 12), 4, none⟩]
def r98_2 : List VOp :=
  [⟨some 4, .assign (.const (.int .i64 0)), 3, none⟩,
   ⟨some 5, .assign (.const (.int .i64 111)), 53, none⟩]
def r98_3 : List VOp :=
  [mv 14 0 3,
   mv 15 0 3,
   mv 16 1 3,
   ⟨some 17, .call ⟨.value (.func 131), #[.tmp 15, .tmp 16], #[3, 3]⟩, 3, none⟩,
   ⟨some 18, .binOp .sub 3 (.tmp 14) (.tmp 17) 3, 3, none⟩,
   asg 4 18 3,
   ⟨some 5, .assign (.const (.int .i64 0)), 53, none⟩]
def B98 : VC :=
  (.seq (.region r98_0) (.seq (.seq (.region r98_1) (.cond (.tmp 13) (.seq (.region r98_2) .ret) .skip)) (.seq (.region r98_3) .ret)))
theorem code98 : ∃ c, Try.f98.body = some c ∧ abs Try.f98.ntmps c = B98 := ⟨_, rfl, by kernel_rfl⟩
theorem hb98 : HasBody Try.prog 98 := hasBody_of Try.func98 (by kernel_rfl)
theorem enter98 (x0 x1 : Value) : Ent 98 B98 #[(.tmp 4), (.tmp 5)] [x0, x1] := ent code98 hb98 Try.func98 rfl rfl
@[push_cast] def vr98_0 := vR r98_0.eq_1
@[push_cast] def vr98_1 := vR r98_1.eq_1
@[push_cast] def vr98_2 := vR r98_2.eq_1
@[push_cast] def vr98_3 := vR r98_3.eq_1
/-! 130 columbary/bucket.fits (params #[3], results #[(.tmp 2)], 9 slots) -/
def r130_0 : List VOp :=
  [⟨some 2, .assign (.const (.bool false)), 4, none⟩]
def r130_1 : List VOp :=
  [mv 3 0 3,
   ⟨some 4, .binOp .geq 3 (.tmp 3) (.const (.int .i64 (-1099511627776))) 3, 4, none⟩,
   mv 5 4 4,
   ⟨some 6, .move (.tmp 0), 3, some (5, true)⟩,
   ⟨some 7, .binOp .leq 3 (.tmp 6) (.const (.int .i64 1099511627776)) 3, 4, some (5, true)⟩,
   ⟨some 8, .pick (.tmp 5) (.tmp 7) (.const (.bool false)), 4, none⟩,
   asg 2 8 4]
def B130 : VC :=
  (.seq (.region r130_0) (.seq (.region r130_1) .ret))
theorem code130 : ∃ c, Try.f130.body = some c ∧ abs Try.f130.ntmps c = B130 := ⟨_, rfl, by kernel_rfl⟩
theorem hb130 : HasBody Try.prog 130 := hasBody_of Try.func130 (by kernel_rfl)
theorem enter130 (x0 : Value) : Ent 130 B130 #[(.tmp 2)] [x0] := ent code130 hb130 Try.func130 rfl rfl
@[push_cast] def vr130_0 := vR r130_0.eq_1
@[push_cast] def vr130_1 := vR r130_1.eq_1
/-! 131 columbary/bucket.rest (params #[3, 3], results #[(.tmp 4)], 12 slots) -/
def r131_0 : List VOp :=
  [⟨some 4, .assign (.const (.int .i64 0)), 3, none⟩]
def r131_1 : List VOp :=
  [mv 5 0 3,
   mv 6 1 3,
   ⟨some 7, .binOp .rem 3 (.tmp 5) (.tmp 6) 3, 3, none⟩,
   mv 8 1 3,
   ⟨some 9, .binOp .add 3 (.tmp 7) (.tmp 8) 3, 3, none⟩,
   mv 10 1 3,
   ⟨some 11, .binOp .rem 3 (.tmp 9) (.tmp 10) 3, 3, none⟩,
   asg 4 11 3]
def B131 : VC :=
  (.seq (.region r131_0) (.seq (.region r131_1) .ret))
theorem code131 : ∃ c, Try.f131.body = some c ∧ abs Try.f131.ntmps c = B131 := ⟨_, rfl, by kernel_rfl⟩
theorem hb131 : HasBody Try.prog 131 := hasBody_of Try.func131 (by kernel_rfl)
theorem enter131 (x0 x1 : Value) : Ent 131 B131 #[(.tmp 4)] [x0, x1] := ent code131 hb131 Try.func131 rfl rfl
@[push_cast] def vr131_0 := vR r131_0.eq_1
@[push_cast] def vr131_1 := vR r131_1.eq_1
@[push_cast] theorem bsl22_0_Codes7A {K : Value → World → Prop} {w : World}  : vBuildSlice Try.prog 22 0 #[] K w = K (.slice (some ⟨w.heap.size, 0, none⟩) 0 0) (w.alloc (.cells #[] 9)) :=
  vBuildSlice_ok Try.underlying22 ti9 (by kernel_rfl) (by decide)
@[push_cast] theorem bsl22_1_Codes7A {K : Value → World → Prop} {w : World} (x0 : ByteArray) : vBuildSlice Try.prog 22 1 #[(0, (.string x0))] K w = K (.slice (some ⟨w.heap.size, 0, none⟩) 1 1) (w.alloc (.cells #[(.string x0)] 9)) :=
  vBuildSlice_ok Try.underlying22 ti9 (by kernel_rfl) (by decide)
@[push_cast] theorem bsl22_2_Codes7A {K : Value → World → Prop} {w : World} (x0 : ByteArray) (x1 : ByteArray) : vBuildSlice Try.prog 22 2 #[(0, (.string x0)), (1, (.string x1))] K w = K (.slice (some ⟨w.heap.size, 0, none⟩) 2 2) (w.alloc (.cells #[(.string x0), (.string x1)] 9)) :=
  vBuildSlice_ok Try.underlying22 ti9 (by kernel_rfl) (by decide)
@[push_cast] theorem bsl25_2_Codes7A {K : Value → World → Prop} {w : World} (x00 x01 x02 : Value) (x10 x11 x12 : Value) : vBuildSlice Try.prog 25 2 #[(0, (.agg #[x00, x01, x02])), (1, (.agg #[x10, x11, x12]))] K w = K (.slice (some ⟨w.heap.size, 0, none⟩) 2 2) (w.alloc (.cells #[x00, x01, x02, x10, x11, x12] 60)) :=
  vBuildSlice_ok Try.underlying25 ti60 (by kernel_rfl) (by decide)
@[push_cast] theorem bsl26_1_Codes7A {K : Value → World → Prop} {w : World} (x00 x01 x02 : Value) : vBuildSlice Try.prog 26 1 #[(0, (.agg #[x00, x01, x02]))] K w = K (.slice (some ⟨w.heap.size, 0, none⟩) 1 1) (w.alloc (.cells #[x00, x01, x02] 51)) :=
  vBuildSlice_ok Try.underlying26 ti51 (by kernel_rfl) (by decide)
@[push_cast] theorem bsl29_2_Codes7A {K : Value → World → Prop} {w : World} (x0 : Int) (x1 : Int) : vBuildSlice Try.prog 29 2 #[(0, (.int .i64 x0)), (1, (.int .i64 x1))] K w = K (.slice (some ⟨w.heap.size, 0, none⟩) 2 2) (w.alloc (.cells #[(.int .i64 x0), (.int .i64 x1)] 3)) :=
  vBuildSlice_ok Try.underlying29 ti3 (by kernel_rfl) (by decide)
@[push_cast] theorem bsl32_2_Codes7A {K : Value → World → Prop} {w : World} (x00 x01 x02 x03 : Value) (x10 x11 x12 x13 : Value) : vBuildSlice Try.prog 32 2 #[(0, (.agg #[x00, x01, x02, x03])), (1, (.agg #[x10, x11, x12, x13]))] K w = K (.slice (some ⟨w.heap.size, 0, none⟩) 2 2) (w.alloc (.cells #[x00, x01, x02, x03, x10, x11, x12, x13] 57)) :=
  vBuildSlice_ok Try.underlying32 ti57 (by kernel_rfl) (by decide)
@[push_cast] theorem bsl35_1_Codes7A {K : Value → World → Prop} {w : World} (x00 x01 : Value) : vBuildSlice Try.prog 35 1 #[(0, (.agg #[x00, x01]))] K w = K (.slice (some ⟨w.heap.size, 0, none⟩) 1 1) (w.alloc (.cells #[x00, x01] 63)) :=
  vBuildSlice_ok Try.underlying35 ti63 (by kernel_rfl) (by decide)
@[push_cast] theorem bsl37_1_Codes7A {K : Value → World → Prop} {w : World} (x00 x01 x02 x03 : Value) : vBuildSlice Try.prog 37 1 #[(0, (.agg #[x00, x01, x02, x03]))] K w = K (.slice (some ⟨w.heap.size, 0, none⟩) 1 1) (w.alloc (.cells #[x00, x01, x02, x03] 39)) :=
  vBuildSlice_ok Try.underlying37 ti39 (by kernel_rfl) (by decide)
@[push_cast] theorem bsl45_1_Codes7A {K : Value → World → Prop} {w : World} (x00 x01 x02 x03 x04 : Value) : vBuildSlice Try.prog 45 1 #[(0, (.agg #[x00, x01, x02, x03, x04]))] K w = K (.slice (some ⟨w.heap.size, 0, none⟩) 1 1) (w.alloc (.cells #[x00, x01, x02, x03, x04] 49)) :=
  vBuildSlice_ok Try.underlying45 ti49 (by kernel_rfl) (by decide)
@[push_cast] theorem bld24_0_Codes7A {K : Value → World → Prop} {w : World} (x0o : Option Addr) (x0n x0c : Nat) : vBuild Try.prog 24 #[(0, (.slice x0o x0n x0c))] K w = K (.agg #[(.slice x0o x0n x0c), (.slice none 0 0)]) w :=
  vBuild_ok (by kernel_rfl)
@[push_cast] theorem bld28_0_1_2_Codes7A {K : Value → World → Prop} {w : World} (x0o : Option Addr) (x0n x0c : Nat) (x1o : Option Addr) (x1n x1c : Nat) (x2 : Int) : vBuild Try.prog 28 #[(0, (.slice x0o x0n x0c)), (1, (.slice x1o x1n x1c)), (2, (.int .i64 x2))] K w = K (.agg #[(.slice x0o x0n x0c), (.slice x1o x1n x1c), (.int .i64 x2)]) w :=
  vBuild_ok (by kernel_rfl)
@[push_cast] theorem bld34_0_1_2_3_5_6_Codes7A {K : Value → World → Prop} {w : World} (x00 x01 : Value) (x10 x11 x12 : Value) (x2 : Int) (x3o : Option Addr) (x3n x3c : Nat) (x5o : Option Addr) (x5n x5c : Nat) (x6 : ByteArray) : vBuild Try.prog 34 #[(0, (.agg #[x00, x01])), (1, (.agg #[x10, x11, x12])), (2, (.int .i64 x2)), (3, (.slice x3o x3n x3c)), (5, (.slice x5o x5n x5c)), (6, (.string x6))] K w = K (.agg #[x00, x01, x10, x11, x12, (.int .i64 x2), (.slice x3o x3n x3c), (.int .i64 0), (.slice none 0 0), (.slice x5o x5n x5c), (.string x6), (.int .i64 0)]) w :=
  vBuild_ok (by kernel_rfl)
@[push_cast] theorem bld42_0_1_2_3_Codes7A {K : Value → World → Prop} {w : World} (x0o : Option Addr) (x0n x0c : Nat) (x1 : Int) (x2 : Int) (x3 : Int) : vBuild Try.prog 42 #[(0, (.slice x0o x0n x0c)), (1, (.int .i64 x1)), (2, (.int .i64 x2)), (3, (.int .i64 x3))] K w = K (.agg #[(.slice x0o x0n x0c), (.int .i64 x1), (.int .i64 x2), (.int .i64 x3), (.slice none 0 0), (.int .i64 0), (.string ⟨#[]⟩), (.string ⟨#[]⟩), (.slice none 0 0), (.slice none 0 0), (.int .i64 0), (.int .i64 0)]) w :=
  vBuild_ok (by kernel_rfl)
@[push_cast] theorem bld49_0_1_2_3_Codes7A {K : Value → World → Prop} {w : World} (x0 : Int) (x1 : Int) (x2 : Int) (x3 : Int) : vBuild Try.prog 49 #[(0, (.int .i64 x0)), (1, (.int .i64 x1)), (2, (.int .i64 x2)), (3, (.int .i64 x3))] K w = K (.agg #[(.int .i64 x0), (.int .i64 x1), (.int .i64 x2), (.int .i64 x3), (.int .i64 0)]) w :=
  vBuild_ok (by kernel_rfl)
@[push_cast] theorem bld49_0_1_2_3_4_Codes7A {K : Value → World → Prop} {w : World} (x0 : Int) (x1 : Int) (x2 : Int) (x3 : Int) (x4 : Int) : vBuild Try.prog 49 #[(0, (.int .i64 x0)), (1, (.int .i64 x1)), (2, (.int .i64 x2)), (3, (.int .i64 x3)), (4, (.int .i64 x4))] K w = K (.agg #[(.int .i64 x0), (.int .i64 x1), (.int .i64 x2), (.int .i64 x3), (.int .i64 x4)]) w :=
  vBuild_ok (by kernel_rfl)
@[push_cast] theorem bld51_0_1_Codes7A {K : Value → World → Prop} {w : World} (x0 : Int) (x1 : Int) : vBuild Try.prog 51 #[(0, (.int .i64 x0)), (1, (.int .i64 x1))] K w = K (.agg #[(.int .i64 x0), (.int .i64 x1), (.slice none 0 0)]) w :=
  vBuild_ok (by kernel_rfl)
@[push_cast] theorem bld51_0_1_2_Codes7A {K : Value → World → Prop} {w : World} (x0 : Int) (x1 : Int) (x2o : Option Addr) (x2n x2c : Nat) : vBuild Try.prog 51 #[(0, (.int .i64 x0)), (1, (.int .i64 x1)), (2, (.slice x2o x2n x2c))] K w = K (.agg #[(.int .i64 x0), (.int .i64 x1), (.slice x2o x2n x2c)]) w :=
  vBuild_ok (by kernel_rfl)
@[push_cast] theorem bld57_0_2_3_Codes7A {K : Value → World → Prop} {w : World} (x0 : ByteArray) (x2 : Int) (x3 : Int) : vBuild Try.prog 57 #[(0, (.string x0)), (2, (.int .i64 x2)), (3, (.int .i64 x3))] K w = K (.agg #[(.string x0), (.int .i64 0), (.int .i64 x2), (.int .i64 x3)]) w :=
  vBuild_ok (by kernel_rfl)
@[push_cast] theorem bld57_0_3_Codes7A {K : Value → World → Prop} {w : World} (x0 : ByteArray) (x3 : Int) : vBuild Try.prog 57 #[(0, (.string x0)), (3, (.int .i64 x3))] K w = K (.agg #[(.string x0), (.int .i64 0), (.int .i64 0), (.int .i64 x3)]) w :=
  vBuild_ok (by kernel_rfl)
@[push_cast] theorem bld60_0_1_2_Codes7A {K : Value → World → Prop} {w : World} (x0 : Int) (x1 : Int) (x2o : Option Addr) (x2n x2c : Nat) : vBuild Try.prog 60 #[(0, (.int .i64 x0)), (1, (.int .i64 x1)), (2, (.slice x2o x2n x2c))] K w = K (.agg #[(.int .i64 x0), (.int .i64 x1), (.slice x2o x2n x2c)]) w :=
  vBuild_ok (by kernel_rfl)
@[push_cast] theorem bld60_1_2_Codes7A {K : Value → World → Prop} {w : World} (x1 : Int) (x2o : Option Addr) (x2n x2c : Nat) : vBuild Try.prog 60 #[(1, (.int .i64 x1)), (2, (.slice x2o x2n x2c))] K w = K (.agg #[(.int .i64 0), (.int .i64 x1), (.slice x2o x2n x2c)]) w :=
  vBuild_ok (by kernel_rfl)
@[push_cast] theorem bld63__Codes7A {K : Value → World → Prop} {w : World}  : vBuild Try.prog 63 #[] K w = K (.agg #[(.int .i64 0), (.string ⟨#[]⟩)]) w :=
  vBuild_ok (by kernel_rfl)
end Go.Proofs.Ytnofalhkapmcnaa
end
section
set_option linter.unusedSimpArgs false
namespace Go.Vc
open Go
def idxI {α : Type} (p : α → Bool) (l : List α) : Int := if l.any p then ((l.findIdx p : Nat) : Int) else -1
theorem idxI_hit {α : Type} {p : α → Bool} {l : List α} {i : Nat} (hi : i < l.length) (hp : p l[i] = true) (hno : (l.take i).any p = false) : idxI p l = (i : Int) := by
  have ha : l.any p = true := List.any_eq_true.2 ⟨l[i], List.getElem_mem hi, hp⟩
  have hf : l.findIdx p = i := by
    rw [List.findIdx_eq hi]
    refine ⟨hp, fun j hj => ?_⟩
    cases h : p (l[j]'(by omega)) with
    | false => rfl
    | true =>
      have : (l.take i).any p = true := List.any_eq_true.2 ⟨l[j]'(by omega), List.mem_take_iff_getElem.2 ⟨j, by omega, rfl⟩, h⟩
      rw [hno] at this; cases this
  unfold idxI
  rw [ha, hf]; rfl
theorem idxI_miss {α : Type} {p : α → Bool} {l : List α} (h : l.any p = false) : idxI p l = -1 := by
  unfold idxI; rw [h]; rfl
theorem idxI_ge {α : Type} (p : α → Bool) (l : List α) : decide (0 ≤ idxI p l) = l.any p := by
  cases h : l.any p with
  | true => unfold idxI; rw [h]; exact decide_eq_true (by simp)
  | false => rw [idxI_miss h]; rfl
theorem any_step {α : Type} {p : α → Bool} {l : List α} {i : Nat} (hi : i < l.length) (hp : p l[i] = false) (hno : (l.take i).any p = false) : (l.take (i + 1)).any p = false := by
  rw [List.take_succ_eq_append_getElem hi, List.any_append, hno]
  simp [hp]
def Prd (P : Program) (w : World) (g : FuncId) (lb : Array Value) (x : Value) (b : Bool) : Prop := ∀ w', Later w w' → FnC P g (#[x] ++ lb) w' fun v w'' => v = .bool b ∧ Later w' w''
@[push_cast] theorem app_nil_l (x : Array Value) : (#[] : Array Value) ++ x = x := by simp
end Go.Vc
namespace Go.Proofs.Ytnofalhkapmcnaa
open Go.Vc Go.Key
set_option maxRecDepth 100000
end Go.Proofs.Ytnofalhkapmcnaa
end
