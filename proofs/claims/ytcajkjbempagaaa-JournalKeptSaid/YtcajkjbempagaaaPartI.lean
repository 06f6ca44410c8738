/- How much room a vault has left. -/
import Derived.Lib.AppendZerosOnto
import Derived.Shelf.Strings.IndexAnyAll
import Derived.Shelf.Strings.FuncGrows
import Derived.Test.YtcajkjbempagaaaProg
import Derived.Shelf.Small.Utf8
import Derived.WalkMore
import Derived.Handy
import Derived.Lib.BufferKept
import Derived.Deep.DeepBigQuietO
import Derived.Shelf.Strings.Search1
import Derived.Laws.Runes
import Derived.Laws.RangeAny
import Derived.Sort.Grow
import Derived.Lib.SlicesCompact
import Derived.Test.YtcajkjbempagaaaPartH
set_option linter.all false
section
set_option linter.unusedSimpArgs false
namespace Go.Vlt
open Go Go.Vc
def tot : List VE → Int
  | [] => 0
  | e :: l => e.b.length + tot l
theorem tot_nn : ∀ l : List VE, 0 ≤ tot l
  | [] => Int.le_refl _
  | e :: l => by have := tot_nn l; unfold tot; omega
def lft (seen : Array Nat) (es : List VE) : List VE := es.filter fun e => !seen.contains e.born
theorem lft_push (seen : Array Nat) (b : Nat) (es : List VE) : lft (seen.push b) es = (lft seen es).filter fun e => !(e.born == b) := by
  unfold lft
  rw [List.filter_filter]
  apply List.filter_congr
  intro x _
  rw [Array.contains_push, Bool.not_or]
  rw [Bool.and_comm]
theorem tot_le (p : VE → Bool) : ∀ l : List VE, tot (l.filter p) ≤ tot l
  | [] => Int.le_refl _
  | e :: l => by
    have ih := tot_le p l
    rw [List.filter_cons]
    split
    · unfold tot; omega
    · show tot (l.filter p) ≤ e.b.length + tot l; omega
theorem filter_out : ∀ (l : List VE) (b : Nat), (∀ x ∈ l, x.born ≠ b) → (l.filter fun x => !(x.born == b)) = l := fun l b h => by
  rw [List.filter_eq_self]
  intro x hx
  have := h x hx
  simpa using this
theorem tot_out : ∀ {l : List VE}, (l.map VE.born).Nodup → ∀ {e : VE}, e ∈ l → tot l = e.b.length + tot (l.filter fun x => !(x.born == e.born)) ∧ l.length = (l.filter fun x => !(x.born == e.born)).length + 1
  | x :: l, hn, e, he => by
    rw [List.map_cons, List.nodup_cons] at hn
    obtain ⟨h1, h2⟩ := hn
    rw [List.filter_cons]
    rcases List.mem_cons.1 he with rfl | he
    · have hx : (l.filter fun y => !(y.born == e.born)) = l := filter_out l _ fun y hy hb => h1 (hb ▸ List.mem_map_of_mem hy)
      have hb : (!(e.born == e.born)) = false := by simp
      rw [hb, if_neg (by simp), hx]
      exact ⟨rfl, rfl⟩
    · have hne : x.born ≠ e.born := fun hb => h1 (hb ▸ List.mem_map_of_mem he)
      have hb : (!(x.born == e.born)) = true := by simpa using hne
      rw [hb, if_pos rfl]
      obtain ⟨i1, i2⟩ := tot_out h2 he
      refine ⟨?_, by rw [List.length_cons, List.length_cons, i2]⟩
      show (x.b.length : Int) + tot l = e.b.length + (x.b.length + tot (l.filter fun y => !(y.born == e.born)))
      omega
end Go.Vlt
namespace Go.Proofs.Ytcajkjbempagaaa
open Go.Vc Go.Vlt
set_option maxRecDepth 100000
theorem free_c (bk r : Nat) (room fuse : Int) (es : List VE) (c : Nat) (w : World) (h : Vt w bk r room fuse es c) (hr : 0 ≤ room ∧ room ≤ 16777216) (ht : tot es ≤ 1000000000000) : FnC Try.prog 28 #[.pointer (some ⟨bk, 0, none⟩)] w fun v w' => v = .int .i64 (room - tot es) ∧ Later w w' := by
  refine enter28 _ ?_
  unfold B28
  have f0 : w.cell? ⟨bk, 0, none⟩ = some (.int .i64 room) := h.blk.cell 0
  have f2 : w.cell? ⟨bk, 2, none⟩ = some (.map (some r)) := h.blk.cell 2
  repeat' (first | (simp (disch := omega) only [push_cast, seval, f0, f2, addr_add_eq, Nat.zero_add]) | refine iX ?_ ?_ <;> intros | refine aI (by omega) ?_ | refine dq ?_)
  refine vRng_of Try.underlying64 h.map ?_
  have l1 := later_alloc w (.mapIter (some r) c #[] c)
  have hi : (w.alloc (.mapIter (some r) c #[] c)).heap[w.heap.size]? = some (.mapIter (some r) c #[] c) := heap_new w _
  have h1 := h.later l1
  generalize w.alloc (.mapIter (some r) c #[] c) = w1 at *
  generalize hit : w.heap.size = it at *
  repeat' (first | (simp (disch := omega) only [push_cast, seval]) | refine iX ?_ ?_ <;> intros | refine aI (by omega) ?_ | refine dq ?_)
  refine vc_loop W28_0 (fun n : Int × Nat => [(3, .int .i64 n.1)])
    (fun n w' => ∃ seen : Array Nat, w'.heap[it]? = some (.mapIter (some r) c seen c) ∧ Later w w' ∧ n.2 = (lft seen es).length ∧ n.1 = room - (tot es - tot (lft seen es))) (fun n => n.2) (room, (lft #[] es).length) (by decide) ?_ ?_ ?_
  · simp (disch := omega) only [push_cast, seval]
  · exact ⟨#[], hi, l1, rfl, by have : lft #[] es = es := by unfold lft; simp
                                rw [this]; omega⟩
  rintro ⟨n, m⟩ uu w2 ⟨seen, hs, l2, hm, hn⟩
  dsimp only at hm hn
  have h2 := h.later l2
  have hb0 := tot_nn (lft seen es)
  have hb1 := tot_le (fun e => !seen.contains e.born) es
  have hb1' : tot (lft seen es) ≤ tot es := hb1
  repeat' (first | (simp (disch := omega) only [push_cast, seval]) | refine iX ?_ ?_ <;> intros | refine aI (by omega) ?_ | refine dq ?_)
  refine vNxt_of hs h2.map (fun e he => by obtain ⟨x, hx, rfl⟩ := List.mem_map.1 he; exact h.born x hx) (Nat.le_refl _) (fun hall => ?_) (fun ee hee hns w3' hw3' => ?_)
  · have hl : lft seen es = [] := by
      unfold lft
      rw [List.filter_eq_nil_iff]
      intro x hx
      have hc : seen.contains x.born = true := hall x.ent (List.mem_map_of_mem hx)
      rw [hc]
      simp
    rw [hl] at hn
    have hn' : n = room - tot es := by rw [hn]; unfold tot; omega
    subst hn'
    repeat' (first | (simp (disch := omega) only [push_cast, seval]) | refine iX ?_ ?_ <;> intros | refine aI (by omega) ?_ | refine dq ?_)
    exact l2
  · obtain ⟨e, he, rfl⟩ := List.mem_map.1 hee
    have hns : seen.contains e.born = false := hns
    have hel : e ∈ lft seen es := List.mem_filter.2 ⟨he, by rw [hns]; rfl⟩
    obtain ⟨t1, t2⟩ := tot_out (l := lft seen es) ((List.Sublist.map _ List.filter_sublist).nodup h.nodup) hel
    rw [← lft_push] at t1 t2
    have hs' : w3'.heap[it]? = some (.mapIter (some r) c seen c) := by rcases hw3' with rfl | rfl <;> exact hs
    have l2' : Later w w3' := by rcases hw3' with rfl | rfl; exact l2; exact l2.drew
    have c3 := chg_setB (w := w3') (r := it) (ks := [it]) (by simp) (.mapIter (some r) c (seen.push e.ent.2.2) c)
    have hs3 : (setB w3' it (.mapIter (some r) c (seen.push e.ent.2.2) c)).heap[it]? = some (.mapIter (some r) c (seen.push e.ent.2.2) c) := setB_at hs'
    have l3 : Later w (setB w3' it (.mapIter (some r) c (seen.push e.ent.2.2) c)) := Chg.later l2' c3 (by intro j hj; rw [List.mem_singleton.1 hj]; omega)
    generalize setB w3' it (.mapIter (some r) c (seen.push e.ent.2.2) c) = w3 at *
    have hs3 : w3.heap[it]? = some (.mapIter (some r) c (seen.push e.born) c) := hs3
    clear hs' l2' c3
    have h3 := h.later l3
    have hok := h3.ok e he
    obtain ⟨os, cs, hsv⟩ := Sl.slice hok.sl
    rw [List.length_map] at hsv
    repeat' (first | (simp (disch := omega) only [push_cast, seval]) | refine iX ?_ ?_ <;> intros | refine aI (by omega) ?_ | refine dq ?_)
    refine vEnt_of (e := e.ent) hs3 h3.map (List.mem_map_of_mem he) (by rw [List.map_map]; exact h.nodup) ?_
    unfold VE.ent
    repeat' (first | (simp (disch := omega) only [push_cast, seval]) | refine iX ?_ ?_ <;> intros | refine aI (by omega) ?_ | refine dq ?_)
    refine vStore_new rfl rfl (by intro u hu; rw [hsv] at hu; simp at hu; rcases hu with rfl | rfl <;> rfl) ?_
    have l4 := later_alloc w3 (.cells #[e.sv, .int .i64 e.safe] 70)
    have f3 : (w3.alloc (.cells #[e.sv, .int .i64 e.safe] 70)).cell? ⟨w3.heap.size, 0, none⟩ = some e.sv := (Blk.new w3 _ _).cell 0
    have hs4 : (w3.alloc (.cells #[e.sv, .int .i64 e.safe] 70)).heap[it]? = some (.mapIter (some r) c (seen.push e.born) c) := (heap_alloc (Array.getElem?_eq_some_iff.1 hs3).1 _).trans hs3
    generalize w3.alloc (.cells #[e.sv, .int .i64 e.safe] 70) = w4 at *
    rw [hsv] at f3
    have hb2 := tot_nn (lft (seen.push e.born) es)
    repeat' (first | (simp (disch := omega) only [push_cast, seval, f3, addr_add_eq, Nat.zero_add]) | refine iX ?_ ?_ <;> intros | refine aI (by omega) ?_ | refine dq ?_)
    exact ⟨rfl, (n - e.b.length, (lft (seen.push e.born) es).length), by simp (disch := omega) only [push_cast, seval], ⟨_, hs4, l3.trans l4, rfl, by dsimp only; omega⟩, by dsimp only; omega⟩
end Go.Proofs.Ytcajkjbempagaaa
end
section
set_option linter.unusedSimpArgs false
namespace Go.Proofs.Ytcajkjbempagaaa
open Go.Vc Go.Vlt
set_option maxRecDepth 100000
def nmB (c : UInt8) : Bool := (97 ≤ c && c ≤ 122) || (48 ≤ c && c ≤ 57) || c == 46
def nmOk (s : ByteArray) : Bool := s.data.toList.all nmB && decide (1 ≤ s.size ∧ s.size ≤ 12)
def NamedAt (s : ByteArray) : Prop := ∀ w, FnC Try.prog 49 #[.string s] w fun v w' => v = .bool (nmOk s) ∧ Later w w'
theorem may_c (bk r : Nat) (room fuse : Int) (es : List VE) (c : Nat) (k : ByteArray) (must : Bool) (w : World) (h : Vt w bk r room fuse es c) (hN : NamedAt k) : FnC Try.prog 26 #[.pointer (some ⟨bk, 0, none⟩), .string k, .bool must] w fun v w' => v = .int .i64 (if nmOk k = false ∨ (must = true ∧ vFind k es = none) then 31 else 0) ∧ Later w w' := by
  refine enter26 _ _ _ ?_
  unfold B26
  have f2 : w.cell? ⟨bk, 2, none⟩ = some (.map (some r)) := h.blk.cell 2
  repeat' (first | (simp (disch := omega) only [push_cast, seval, f2, addr_add_eq, Nat.zero_add]) | refine iX ?_ ?_ <;> intros | refine aI (by omega) ?_ | refine dq ?_)
  refine vLook_of Try.underlying64 Try.underlying9 zfile h.map k true ?_
  rcases mIdx_ent k es 0 with ⟨h1, h2⟩ | ⟨e, j, he, h1, h2⟩
  · rw [h2]
    unfold mGot
    repeat' (first | (simp (disch := omega) only [push_cast, seval]) | refine iX ?_ ?_ <;> intros | refine aI (by omega) ?_ | refine dq ?_)
    refine vStore_new rfl rfl (by intro u hu; simp at hu; rcases hu with rfl | rfl <;> rfl) ?_
    have l1 := later_alloc w (.cells #[.slice none 0 0, .int .i64 0] 70)
    generalize w.alloc (.cells #[.slice none 0 0, .int .i64 0] 70) = w1 at *
    repeat' (first | (simp (disch := omega) only [push_cast, seval]) | refine iX ?_ ?_ <;> intros | refine aI (by omega) ?_ | refine dq ?_)
    refine (hN w1).mono ?_
    rintro _ w2 ⟨rfl, l2⟩
    cases hk : nmOk k <;> cases must <;> repeat' (first | (simp (disch := omega) only [push_cast, seval]) | refine iX ?_ ?_ <;> intros | refine aI (by omega) ?_ | refine dq ?_)
    all_goals first | exact l1.trans l2 | exact ⟨by simp [hk, h1], l1.trans l2⟩ | trace_state
  · rw [h2]
    unfold mGot VE.val
    have hok := h.ok e he
    obtain ⟨os, cs, hsv⟩ := Sl.slice hok.sl
    repeat' (first | (simp (disch := omega) only [push_cast, seval]) | refine iX ?_ ?_ <;> intros | refine aI (by omega) ?_ | refine dq ?_)
    refine vStore_new rfl rfl (by intro u hu; rw [hsv] at hu; simp at hu; rcases hu with rfl | rfl <;> rfl) ?_
    have l1 := later_alloc w (.cells #[e.sv, .int .i64 e.safe] 70)
    generalize w.alloc (.cells #[e.sv, .int .i64 e.safe] 70) = w1 at *
    repeat' (first | (simp (disch := omega) only [push_cast, seval]) | refine iX ?_ ?_ <;> intros | refine aI (by omega) ?_ | refine dq ?_)
    refine (hN w1).mono ?_
    rintro _ w2 ⟨rfl, l2⟩
    cases hk : nmOk k <;> cases must <;> repeat' (first | (simp (disch := omega) only [push_cast, seval]) | refine iX ?_ ?_ <;> intros | refine aI (by omega) ?_ | refine dq ?_)
    all_goals first | exact l1.trans l2 | exact ⟨by simp [hk, h1], l1.trans l2⟩ | trace_state
end Go.Proofs.Ytcajkjbempagaaa
end
section
namespace Go.Vlt
open Go Go.Vc
theorem mIdx_shift (k : ByteArray) : ∀ (l : List Ent) (i : Nat), mIdx k l (i + 1) = (mIdx k l i).map fun p => (p.1 + 1, p.2)
  | [], _ => rfl
  | e :: l, i => by
    unfold mIdx
    split
    · rfl
    · exact mIdx_shift k l (i + 1)
theorem mPut_cons (k : ByteArray) (v : Value) (c : Nat) (e : Ent) (l : List Ent) : mPut k v c (e :: l) = if (k == e.1) = true then (k, v, e.2.2) :: l else e :: mPut k v c l := by
  unfold mPut
  show (match (if (k == e.1) = true then some (0, e.2.1) else mIdx k l (0 + 1)) with | some (i, _) => (e :: l).modify i fun e => (k, v, e.2.2) | none => (e :: l) ++ [(k, v, c)]) = _
  by_cases h : (k == e.1) = true
  · rw [if_pos h, if_pos h]
    rfl
  · rw [if_neg h, if_neg h, mIdx_shift]
    cases mIdx k l 0 with
    | none => rfl
    | some p => rfl
theorem mTick_cons (k : ByteArray) (c : Nat) (e : Ent) (l : List Ent) : mTick k c (e :: l) = if (k == e.1) = true then c else mTick k c l := by
  unfold mTick
  show (match (if (k == e.1) = true then some (0, e.2.1) else mIdx k l (0 + 1)) with | some _ => c | none => c + 1) = _
  by_cases h : (k == e.1) = true
  · rw [if_pos h, if_pos h]
  · rw [if_neg h, if_neg h, mIdx_shift]
    cases mIdx k l 0 <;> rfl
def ePut (k : ByteArray) (b : List UInt8) (s : Nat) (sv : Value) (c : Nat) : List VE → List VE
  | [] => [⟨k, b, s, sv, c⟩]
  | e :: l => if k = e.name then ⟨k, b, s, sv, e.born⟩ :: l else e :: ePut k b s sv c l
def eTick (k : ByteArray) (c : Nat) (es : List VE) : Nat := if vFind k es = none then c + 1 else c
theorem mPut_ent (k : ByteArray) (b : List UInt8) (s : Nat) (sv : Value) (c : Nat) : ∀ es : List VE, mPut k (.agg #[sv, .int .i64 s]) c (es.map VE.ent) = (ePut k b s sv c es).map VE.ent
  | [] => rfl
  | e :: l => by
    rw [List.map_cons, mPut_cons]
    unfold ePut
    have he : e.ent.1 = e.name := rfl
    rw [he]
    by_cases h : k = e.name
    · rw [if_pos (bytes_beq.2 h), if_pos h]
      rfl
    · rw [if_neg (fun h' => h (bytes_beq.1 h')), if_neg h, mPut_ent k b s sv c l]
      rfl
theorem find_put (k k' : ByteArray) (b : List UInt8) (s : Nat) (sv : Value) (c : Nat) : ∀ es : List VE, (vFind k' (ePut k b s sv c es)).map (fun e => (e.b, e.safe)) = if k' = k then some (b, s) else (vFind k' es).map fun e => (e.b, e.safe)
  | [] => by
    unfold ePut vFind
    split <;> rfl
  | e :: l => by
    unfold ePut
    by_cases h : k = e.name
    · rw [if_pos h]
      unfold vFind
      by_cases h2 : k' = k
      · rw [if_pos h2, if_pos h2]; rfl
      · rw [if_neg h2, if_neg h2, if_neg (fun h3 => h2 (h3.trans h.symm))]
    · rw [if_neg h]
      unfold vFind
      by_cases h2 : k' = e.name
      · rw [if_pos h2, if_pos h2, if_neg (fun h3 => h (h3.symm.trans h2))]
      · rw [if_neg h2, if_neg h2]
        exact find_put k k' b s sv c l
theorem put_mem {k : ByteArray} {b : List UInt8} {s : Nat} {sv : Value} {c : Nat} : ∀ {es : List VE} {x : VE}, x ∈ ePut k b s sv c es → x ∈ es ∨ (x.name = k ∧ x.b = b ∧ x.safe = s ∧ x.sv = sv)
  | [], x, h => by rw [List.mem_singleton.1 h]; exact .inr ⟨rfl, rfl, rfl, rfl⟩
  | e :: l, x, h => by
    unfold ePut at h
    split at h
    · rcases List.mem_cons.1 h with rfl | h
      · exact .inr ⟨rfl, rfl, rfl, rfl⟩
      · exact .inl (List.mem_cons_of_mem _ h)
    · rcases List.mem_cons.1 h with rfl | h
      · exact .inl (by simp)
      · rcases put_mem h with h | h
        · exact .inl (List.mem_cons_of_mem _ h)
        · exact .inr h
end Go.Vlt
end
section
namespace Go.Vlt
open Go Go.Vc
theorem put_none {k : ByteArray} (b : List UInt8) (s : Nat) (sv : Value) (c : Nat) : ∀ {es : List VE}, vFind k es = none → ePut k b s sv c es = es ++ [⟨k, b, s, sv, c⟩] ∧ ∀ e ∈ es, e.name ≠ k
  | [], _ => ⟨rfl, by simp⟩
  | e :: l, h => by
    unfold vFind at h
    by_cases hk : k = e.name
    · rw [if_pos hk] at h; cases h
    · rw [if_neg hk] at h
      obtain ⟨h1, h2⟩ := put_none b s sv c h
      unfold ePut
      rw [if_neg hk, h1]
      refine ⟨rfl, fun x hx => ?_⟩
      rcases List.mem_cons.1 hx with rfl | hx
      · exact fun h3 => hk h3.symm
      · exact h2 x hx
theorem put_some {k : ByteArray} (b : List UInt8) (s : Nat) (sv : Value) (c : Nat) : ∀ {es : List VE}, vFind k es ≠ none → (ePut k b s sv c es).map (fun e => (e.name, e.born)) = es.map fun e => (e.name, e.born)
  | [], h => absurd rfl h
  | e :: l, h => by
    unfold vFind at h
    unfold ePut
    by_cases hk : k = e.name
    · rw [if_pos hk, hk]; rfl
    · rw [if_neg hk] at h ⊢
      rw [List.map_cons, List.map_cons, put_some b s sv c h]
theorem mTick_ent (k : ByteArray) (c : Nat) : ∀ es : List VE, mTick k c (es.map VE.ent) = eTick k c es
  | [] => rfl
  | e :: l => by
    rw [List.map_cons, mTick_cons]
    unfold eTick vFind
    have he : e.ent.1 = e.name := rfl
    rw [he]
    by_cases h : k = e.name
    · rw [if_pos (bytes_beq.2 h), if_pos h]; rfl
    · rw [if_neg (fun h' => h (bytes_beq.1 h')), if_neg h, mTick_ent k c l]; rfl
theorem put_keys {k : ByteArray} (b : List UInt8) (s : Nat) (sv : Value) (c : Nat) {es : List VE} (h1 : es.Pairwise fun x y => x.name ≠ y.name) (h2 : ∀ e ∈ es, e.born < c) (h3 : (es.map VE.born).Nodup) :
    ((ePut k b s sv c es).Pairwise fun x y => x.name ≠ y.name) ∧ (∀ e ∈ ePut k b s sv c es, e.born < eTick k c es) ∧ ((ePut k b s sv c es).map VE.born).Nodup := by
  unfold eTick
  by_cases hf : vFind k es = none
  · obtain ⟨g1, g2⟩ := put_none b s sv c hf
    rw [if_pos hf, g1]
    refine ⟨List.pairwise_append.2 ⟨h1, List.pairwise_singleton _ _, fun x hx y hy => ?_⟩, fun e he => ?_, ?_⟩
    · rw [List.mem_singleton.1 hy]; exact g2 x hx
    · rcases List.mem_append.1 he with he | he
      · have := h2 e he; omega
      · rw [List.mem_singleton.1 he]; exact Nat.lt_succ_self c
    · rw [List.map_append, List.nodup_append]
      refine ⟨h3, by simp, fun a ha d hd => ?_⟩
      obtain ⟨x, hx, rfl⟩ := List.mem_map.1 ha
      have hdc : d = c := by simpa using hd
      have := h2 x hx
      omega
  · have g := put_some b s sv c hf
    rw [if_neg hf]
    have e1 : (ePut k b s sv c es).map VE.born = es.map VE.born := by
      have := congrArg (List.map Prod.snd) g
      rw [List.map_map, List.map_map] at this
      exact this
    have e2 : (ePut k b s sv c es).map VE.name = es.map VE.name := by
      have := congrArg (List.map Prod.fst) g
      rw [List.map_map, List.map_map] at this
      exact this
    refine ⟨?_, fun e he => ?_, by rw [e1]; exact h3⟩
    · have h4 : (es.map VE.name).Pairwise (fun x y => x ≠ y) := List.pairwise_map.2 h1
      rw [← e2] at h4
      exact List.pairwise_map.1 h4
    · have : e.born ∈ (ePut k b s sv c es).map VE.born := List.mem_map_of_mem he
      rw [e1] at this
      obtain ⟨x, hx, hxe⟩ := List.mem_map.1 this
      rw [← hxe]; exact h2 x hx
end Go.Vlt
namespace Go.Proofs.Ytcajkjbempagaaa
open Go.Vc Go.Vlt
theorem Vt.put {w : World} {bk r : Nat} {room fuse : Int} {es : List VE} {c : Nat} (h : Vt w bk r room fuse es c) (k : ByteArray) {b : List UInt8} {s : Nat} {sv : Value} (hsl : Sl w sv (b.map u8v)) (hat : InT 5 w sv) (hs : s ≤ b.length) :
    Vt (setB w r (.map ((mPut k (.agg #[sv, .int .i64 s]) c (es.map VE.ent)).map mE).toArray (mTick k c (es.map VE.ent)))) bk r room fuse (ePut k b s sv c es) (eTick k c es) := by
  have c2 := chg_setB (w := w) (r := r) (ks := [r]) (by simp) (.map ((mPut k (.agg #[sv, .int .i64 s]) c (es.map VE.ent)).map mE).toArray (mTick k c (es.map VE.ent)))
  have hm := setB_at (o := .map ((mPut k (.agg #[sv, .int .i64 s]) c (es.map VE.ent)).map mE).toArray (mTick k c (es.map VE.ent))) h.map
  obtain ⟨k1, k2, k3⟩ := put_keys (k := k) b s sv c h.apart h.born h.nodup
  have hno : ∀ j ∈ [r], ∀ cs, ¬ Blk w j cs 5 := fun j hj => by rw [List.mem_singleton.1 hj]; exact h.mapb _
  refine ⟨h.te, h.blk.chg c2 (by simpa using h.ne), ?_, k1, k2, k3, fun e he => ?_⟩
  · unfold MapB
    rw [hm, mPut_ent, mTick_ent]
  · rcases put_mem he with he | ⟨_, e2, e3, e4⟩
    · exact (h.ok e he).chg c2 hno
    · have hx : (VE.mk k b s sv 0).Ok 5 w := ⟨hsl, hat, hs⟩
      have hx := hx.chg c2 hno
      exact ⟨by rw [e2, e4]; exact hx.sl, by rw [e4]; exact hx.u8, by rw [e2, e3]; exact hs⟩
end Go.Proofs.Ytcajkjbempagaaa
end
section
set_option linter.unusedSimpArgs false
namespace Go.Proofs.Ytcajkjbempagaaa
open Go.Vc Go.Vlt
set_option maxRecDepth 100000
theorem nP_bld {P : Program} {t : TypeId} {ps : Array (Nat × Operand)} {ty : TypeId} {σ : Env} {w : World} {Kv : Value → Prop} {Kn : (Value → World → Prop) → Prop} (v : Value) (h : ∀ w', vBuild P t (ps.map fun (i, x) => (i, ev σ x)) (fun u w'' => u = v ∧ w'' = w') w') (hk : Kv v) : nPlain P (.build t ps) ty σ w Kv Kn := by
  show qX P (.build t ps) ty σ w Kv
  refine ⟨v, fun w' _ => ?_, hk⟩
  have h1 := h w'
  unfold vBuild at h1
  show qUp P w' v ((val (Instr.build t (ps.map fun (i, x) => (i, ev σ x)))).run P w')
  have e : ∀ s : Sem Value, (val s).run P w' = (s.run P w').andThen fun v w' => .ok (.value v) w' := fun s => by simp [val]
  rw [e] at h1 ⊢
  cases hs : (Instr.build t (ps.map fun (i, x) => (i, ev σ x))).run P w' with
  | ok u w'' => rw [hs] at h1; exact ⟨h1.2, h1.1⟩
  | _ => rw [hs] at h1; exact h1.elim
def brn (fuse : Int) : Int := if 0 < fuse then fuse - 1 else fuse
theorem Chg.more {w w' : World} {ks ks' : List Nat} (h : Chg w w' ks) (hk : ∀ k ∈ ks, k ∈ ks') : Chg w w' ks' := ⟨h.os, h.tape, h.output, h.size, fun k hkl hn => h.block k hkl fun hm => hn (hk k hm)⟩
def SyncR (v : Value) (w' : World) (bk r : Nat) (room fuse : Int) (es : List VE) (c : Nat) (k : ByteArray) : Prop :=
  (v = .int .i64 31 ∧ (nmOk k = false ∨ vFind k es = none) ∧ Vt w' bk r room fuse es c) ∨
  (v = .int .i64 272 ∧ nmOk k = true ∧ vFind k es ≠ none ∧ brn fuse = 0 ∧ Vt w' bk r room (brn fuse) es c) ∨
  (v = .int .i64 0 ∧ nmOk k = true ∧ brn fuse ≠ 0 ∧ ∃ e, vFind k es = some e ∧ Vt w' bk r room (brn fuse) (ePut k e.b e.b.length e.sv c es) (eTick k c es))
theorem sync_c (bk r : Nat) (room fuse : Int) (es : List VE) (c : Nat) (k : ByteArray) (w : World) (h : Vt w bk r room fuse es c) (hf : -1 ≤ fuse ∧ fuse ≤ 9223372036854775807) (hN : NamedAt k) (hbl : ∀ e ∈ es, e.b.length ≤ 1000000000) : FnC Try.prog 44 #[.pointer (some ⟨bk, 0, none⟩), .string k] w fun v w' => SyncR v w' bk r room fuse es c k ∧ Chg w w' [bk, r] := by
  refine enter44 _ _ ?_
  unfold B44
  repeat' (first | (simp (disch := omega) only [push_cast, seval]) | refine iX ?_ ?_ <;> intros | refine aI (by omega) ?_ | refine dq ?_)
  refine (may_c bk r room fuse es c k true w h hN).mono ?_
  rintro _ w1 ⟨rfl, l1⟩
  have h1 := h.later l1
  have c1 : Chg w w1 [bk, r] := Chg.of_later l1
  by_cases hm : nmOk k = false ∨ (true = true ∧ vFind k es = none)
  · rw [if_pos hm]
    repeat' (first | (simp (disch := omega) only [push_cast, seval]) | refine iX ?_ ?_ <;> intros | refine aI (by omega) ?_ | refine dq ?_)
    exact ⟨.inl ⟨rfl, by simpa using hm, h1⟩, c1⟩
  rw [if_neg hm]
  obtain ⟨m1, m2⟩ : nmOk k = true ∧ vFind k es ≠ none := by
    refine ⟨?_, fun h' => hm (.inr ⟨rfl, h'⟩)⟩
    cases hk : nmOk k with
    | true => rfl
    | false => exact absurd (.inl hk) hm
  repeat' (first | (simp (disch := omega) only [push_cast, seval]) | refine iX ?_ ?_ <;> intros | refine aI (by omega) ?_ | refine dq ?_)
  refine (burns_c bk r room fuse es c w1 h1 hf).mono ?_
  rintro _ w2 ⟨⟨f, hfe, rfl, h2⟩, c2⟩
  have hfe : f = brn fuse := hfe
  subst hfe
  have c02 : Chg w w2 [bk, r] := c1.trans (Chg.more c2 (by simp))
  by_cases hz : brn fuse = 0
  · rw [if_pos hz]
    repeat' (first | (simp (disch := omega) only [push_cast, seval]) | refine iX ?_ ?_ <;> intros | refine aI (by omega) ?_ | refine dq ?_)
    exact ⟨.inr (.inl ⟨rfl, m1, m2, hz, h2⟩), c02⟩
  rw [if_neg hz]
  have f2 : w2.cell? ⟨bk, 2, none⟩ = some (.map (some r)) := h2.blk.cell 2
  repeat' (first | (simp (disch := omega) only [push_cast, seval, f2, addr_add_eq, Nat.zero_add]) | refine iX ?_ ?_ <;> intros | refine aI (by omega) ?_ | refine dq ?_)
  refine vLook_of Try.underlying64 Try.underlying9 zfile h2.map k false ?_
  rcases mIdx_ent k es 0 with ⟨g1, g2⟩ | ⟨e, j, he, g1, g2⟩
  · exact absurd g1 m2
  rw [g2]
  unfold mGot VE.val
  have hok := h2.ok e he
  obtain ⟨os, cs, hsv⟩ := Sl.slice hok.sl
  rw [List.length_map] at hsv
  repeat' (first | (simp (disch := omega) only [push_cast, seval]) | refine iX ?_ ?_ <;> intros | refine aI (by omega) ?_ | refine dq ?_)
  refine vStore_new rfl rfl (by intro u hu; rw [hsv] at hu; simp at hu; rcases hu with rfl | rfl <;> rfl) ?_
  have l3 := later_alloc w2 (.cells #[e.sv, .int .i64 e.safe] 70)
  have f3 : (w2.alloc (.cells #[e.sv, .int .i64 e.safe] 70)).cell? ⟨w2.heap.size, 0, none⟩ = some e.sv := (Blk.new w2 _ _).cell 0
  have h3 := h2.later l3
  generalize w2.alloc (.cells #[e.sv, .int .i64 e.safe] 70) = w3 at *
  rw [hsv] at f3
  have f4 : w3.cell? ⟨bk, 2, none⟩ = some (.map (some r)) := h3.blk.cell 2
  repeat' (first | (simp (disch := omega) only [push_cast, seval, f3, f4, addr_add_eq, Nat.zero_add]) | refine iX ?_ ?_ <;> intros | refine aI (by omega) ?_ | fail)
  refine drawn_k 11 ?_
  repeat' (first | (simp (disch := omega) only [push_cast, seval, f3, f4, addr_add_eq, Nat.zero_add]) | refine iX ?_ ?_ <;> intros | refine aI (by omega) ?_ | fail)
  refine nP_bld (.agg #[.slice os e.b.length cs, .int .i64 (e.b.length : Int)]) (fun w' => ?_) ?_
  · repeat' (first | (simp (disch := omega) only [push_cast, seval]) | refine iX ?_ ?_ <;> intros | refine aI (by omega) ?_ | fail)
  repeat' (first | (simp (disch := omega) only [push_cast, seval]) | refine iX ?_ ?_ <;> intros | refine aI (by omega) ?_ | fail)
  intro w4 l4
  have h4 := h3.later l4
  rw [← hsv]
  have hp := Vt.put h4 k (b := e.b) (s := e.b.length) (sv := e.sv) (h4.ok e he).sl (h4.ok e he).u8 (Nat.le_refl _)
  have c4 := chg_setB (w := w4) (r := r) (ks := [bk, r]) (by simp) (.map ((mPut k (.agg #[e.sv, .int .i64 (e.b.length : Nat)]) c (es.map VE.ent)).map mE).toArray (mTick k c (es.map VE.ent)))
  refine vUpd_of Try.underlying64 Try.underlying9 h4.map k _ ?_
  generalize setB w4 r (.map ((mPut k (.agg #[e.sv, .int .i64 (e.b.length : Nat)]) c (es.map VE.ent)).map mE).toArray (mTick k c (es.map VE.ent))) = w5 at *
  repeat' (first | (simp (disch := omega) only [push_cast, seval]) | refine iX ?_ ?_ <;> intros | refine aI (by omega) ?_ | refine dq ?_)
  exact ⟨.inr (.inr ⟨rfl, m1, hz, e, g1, hp⟩), c02.trans ((Chg.of_later (l3.trans l4)).trans c4)⟩
end Go.Proofs.Ytcajkjbempagaaa
end
section
namespace Go.Vlt
open Go Go.Vc
end Go.Vlt
namespace Go.Proofs.Ytcajkjbempagaaa
open Go.Vc Go.Vlt
end Go.Proofs.Ytcajkjbempagaaa
end
section
namespace Go.Proofs.Ytcajkjbempagaaa
open Go.Vc Go.Vlt
set_option maxRecDepth 100000
end Go.Proofs.Ytcajkjbempagaaa
end
section
namespace Go.Proofs.Ytcajkjbempagaaa
open Go.Vc Go.Vlt
set_option maxRecDepth 100000
end Go.Proofs.Ytcajkjbempagaaa
end
section
set_option linter.unusedSimpArgs false
namespace Go.Vc
open Go.RowKit
theorem vAppend_zeros0 {P : Program} {w : World} {K : Value → World → Prop} {t tn e ty : TypeId} {z : Value} {b : Nat} {kn : IntKind} (ht : P.underlying t = some (.slice e)) (htn : P.underlying tn = some (.int kn)) (hi : (P.info? e).map (fun i => (i.zero, i.size, i.bytes)) = some (some z, 1, b)) (hzs : z.cells.size = 1)
    {k : Nat} (h0 : 0 < k) (h63 : k ≤ maxLen) (hb : k * b ≤ 140737488355328)
    (hK : ∀ (c : Nat) (cs : Array Value), k ≤ c → c ≤ maxLen → cs.size = c → K (.slice (some ⟨w.heap.size, 0, none⟩) k c) (w.drew.alloc (.cells cs e))) : vAppend P #[t, tn] ty #[.slice none 0 0, .int .i64 (k : Int)] K w := by
  obtain ⟨i, hi1, hz, hsi, rfl⟩ := info_parts hi
  unfold vAppend
  have hr := Lib.run_append_grow_zeros (P := P) w t tn ty e i z .i64 kn ht htn hi1 hz none 0 0 [] (by simpa using run_firstCells_none w.drew i.size 0 0 0) k h0 (by omega) (by omega) (by unfold maxLen at h63; omega) (by omega) (growslice_fits (by omega) (by simpa using hb))
  rw [run_val_pure hr]
  simp only [Nat.zero_add]
  have hge := grownCap_ge w k 0 e
  have hle := grownCap_le_maxLen w k 0 e h63
  refine hK _ _ hge hle ?_
  simp [size_zeroCells, hzs]
  omega
end Go.Vc
namespace Go.Proofs.Ytcajkjbempagaaa
open Go.Vc Go.Vlt
set_option maxRecDepth 100000
theorem grow0_c (n : Nat) (w : World) (hn : n ≤ 1000000000) : FnC Try.prog 50 #[.slice none 0 0, .int .i64 (n : Int)] w fun v w' => OwnB w' w.heap.size 5 v [] ∧ Later w w' := by
  refine enter50 _ _ ?_
  unfold B50
  by_cases h0 : n = 0
  · subst h0
    repeat' (first | (simp (disch := omega) only [push_cast, seval]) | refine iX ?_ ?_ <;> intros | refine aI (by omega) ?_ | refine dq ?_)
    exact ⟨own_nil _ _ _ _, Later.refl _⟩
  · have h1 : 0 < n := by omega
    repeat' (first | (simp (disch := omega) only [push_cast, seval]) | refine iX ?_ ?_ <;> intros | refine aI (by omega) ?_ | refine dq ?_)
    refine vAppend_zeros0 Try.underlying25 Try.underlying3 ti5 rfl h1 (by unfold maxLen; omega) (by omega) ?_
    intro c cs h2 h3 h4
    have hown : OwnB (w.drew.alloc (.cells cs 5)) w.heap.size 5 (.slice (some ⟨w.heap.size, 0, none⟩) 0 c) [] :=
      ⟨rfl, .inr ⟨w.heap.size, c, cs, rfl, Nat.le_refl _, heap_new_drew w _, Nat.zero_le _, h3, by omega, by simp⟩⟩
    have l1 : Later w (w.drew.alloc (.cells cs 5)) := ⟨rfl, rfl, rfl, by simp, fun k hk => heap_old_drew w _ k hk⟩
    generalize w.drew.alloc (.cells cs 5) = w1 at *
    repeat' (first | (simp (disch := omega) only [push_cast, seval]) | refine iX ?_ ?_ <;> intros | refine aI (by omega) ?_ | refine dq ?_)
    first | exact ⟨hown, l1⟩ | exact l1
theorem concat_c (xv : Value) (ls : List (List UInt8)) (w : World) (h : LL w xv ls) (hb : ls.flatten.length ≤ 1000000000) : FnC Try.prog 29 #[xv] w fun v w' => OwnB w' w.heap.size 5 v ls.flatten ∧ Later w w' := by
  obtain ⟨o, c, rfl, hc1, hc2⟩ := h.slice
  have sumL : ∀ i, i < ls.length → (ls.take (i + 1)).flatten = (ls.take i).flatten ++ ls[i]! := fun i hi => by
    rw [List.take_add_one, List.getElem?_eq_getElem hi, List.flatten_append]
    simp [hi]
  have len_le : ∀ i, (ls.take i).flatten.length ≤ ls.flatten.length := fun i => by
    conv => rhs; rw [← List.take_append_drop i ls, List.flatten_append, List.length_append]
    omega
  refine enter29 _ ?_
  unfold B29
  repeat' (first | (simp (disch := omega) only [push_cast, seval]) | refine iX ?_ ?_ <;> intros | refine aI (by omega) ?_ | refine dq ?_)
  refine vc_loop W29_0 (fun i : Nat => [(11, .int .i64 (i : Int)), (3, .int .i64 (((ls.take i).flatten.length : Nat) : Int))]) (fun i w' => i ≤ ls.length ∧ w' = w) (fun i => ls.length - i) 0 (by decide) ?_ ?_ ?_
  · have : (([] : List (List UInt8)).flatten.length : Int) = 0 := rfl
    simp (disch := omega) only [push_cast, seval, List.take_zero]
    rfl
  · exact ⟨Nat.zero_le _, rfl⟩
  rintro i uu w1 ⟨hi, hw⟩
  obtain rfl := hw.symm
  have hl1 := len_le i
  by_cases hlt : i < ls.length
  · obtain ⟨a, x, rfl, hx, hsx⟩ := h.at hlt
    obtain ⟨xo, xc, rfl⟩ := Sl.slice hsx
    rw [List.length_map] at hsx hx
    have hl2 := len_le (i + 1)
    have hs := sumL i hlt
    have e1 : ls[i]! = ls[i] := by simp [hlt]
    rw [e1] at hs
    rw [hs, List.length_append] at hl2
    repeat' (first | (simp (disch := omega) only [push_cast, seval, hx]) | refine iX ?_ ?_ <;> intros | refine aI (by omega) ?_ | refine dq ?_)
    have e2 : (((ls.take (i + 1)).flatten.length : Nat) : Int) = ((ls.take i).flatten.length : Int) + (ls[i].length : Int) := by rw [hs, List.length_append]; omega
    refine ⟨rfl, i + 1, by simp (disch := omega) only [push_cast, seval, e2], ⟨by omega, rfl⟩, by dsimp only; omega⟩
  · have hil : i = ls.length := by omega
    subst hil
    rw [List.take_length]
    repeat' (first | (simp (disch := omega) only [push_cast, seval]) | refine iX ?_ ?_ <;> intros | refine aI (by omega) ?_ | refine dq ?_)
    refine (grow0_c ls.flatten.length w hb).mono ?_
    rintro v1 w1 ⟨ho1, l1⟩
    obtain ⟨o1, c1, rfl⟩ := ho1.slice
    repeat' (first | (simp (disch := omega) only [push_cast, seval]) | refine iX ?_ ?_ <;> intros | refine aI (by omega) ?_ | refine dq ?_)
    refine vc_loop W29_1 (fun s : Nat × Value => [(27, .int .i64 (s.1 : Int)), (6, s.2)]) (fun s w' => s.1 ≤ ls.length ∧ OwnB w' w.heap.size 5 s.2 (ls.take s.1).flatten ∧ Later w w') (fun s => ls.length - s.1) (0, .slice o1 0 c1) (by decide) ?_ ?_ ?_
    · simp (disch := omega) only [push_cast, seval]
      try rfl
    · exact ⟨Nat.zero_le _, ho1, l1⟩
    rintro ⟨i, vv⟩ u2 w2 ⟨hi, ho2, l2⟩
    dsimp only at hi ho2
    by_cases hlt : i < ls.length
    · obtain ⟨a, x, rfl, hx, hsx⟩ := (h.later l2).at hlt
      obtain ⟨xo, xc, rfl⟩ := Sl.slice hsx
      have hl2 := len_le (i + 1)
      have hs := sumL i hlt
      have e1 : ls[i]! = ls[i] := by simp [hlt]
      rw [e1] at hs
      rw [hs, List.length_append] at hl2
      repeat' (first | (simp (disch := omega) only [push_cast, seval, hx]) | refine iX ?_ ?_ <;> intros | refine aI (by omega) ?_ | refine dq ?_)
      refine vAppend_own Try.underlying25 ti5 rfl (by decide) ho2 (sl8_n hsx) (u8vs_one _) (by unfold maxLen; omega) (by omega) l2.size ?_
      intro v3 w3 h3 g3 _
      have l3 : Later w w3 := l2.appended ho2 (Nat.le_refl _) g3
      have h3 := own8_app h3
      rw [← hs] at h3
      repeat' (first | (simp (disch := omega) only [push_cast, seval]) | refine iX ?_ ?_ <;> intros | refine aI (by omega) ?_ | refine dq ?_)
      exact ⟨rfl, (i + 1, v3), by simp (disch := omega) only [push_cast, seval], ⟨by omega, h3, l3⟩, by dsimp only; omega⟩
    · have hil : i = ls.length := by omega
      subst hil
      rw [List.take_length] at ho2
      obtain ⟨o2, c2, rfl⟩ := ho2.slice
      repeat' (first | (simp (disch := omega) only [push_cast, seval]) | refine iX ?_ ?_ <;> intros | refine aI (by omega) ?_ | refine dq ?_)
      first | exact ⟨ho2, l2⟩ | exact l2
end Go.Proofs.Ytcajkjbempagaaa
end
section
namespace Go.Vc
open Go.RowKit
variable {P : Program}
theorem nR_fnV {g : FuncId} {xs : Array Operand} {ts : Array TypeId} {ty : TypeId} {rs : List Nat} {Ns : NS} {σ : Env} {w : World} {Kv : Value → Prop} {Kn : (Value → World → Prop) → Prop} (hb : HasBody P g) (V' : Value → World → Prop) (hV' : Stb w V')
    (h : ∀ σ' w', Later w w' → psis Ns σ w' σ' rs → FnC P g (xs.map (ev σ')) w' fun u w'' => V' u w'' ∧ Later w' w'') (hk : Kn V') : nR P (.call ⟨.value (.func g), xs, ts⟩) ty rs Ns σ w Kv Kn :=
  .inr ⟨V', hV', fun σ' w' hl hp => by
    have e : exe P (.call ⟨.value (.func g), xs, ts⟩) ty σ' w' = (callFunc g (#[] ++ xs.map (ev σ') ++ #[])).run P w' := exe_call rfl rfl w'
    rw [e, hb]
    refine ⟨rfl, Calls.mono (hb.ret (by simpa using h σ' w' hl hp)) ?_⟩
    rintro e w'' ⟨u, rfl, hu, hl'⟩
    exact ⟨u, rfl, hl', hu⟩, hk⟩
theorem nR_bldV {t : TypeId} {ps : Array (Nat × Operand)} {ty : TypeId} {rs : List Nat} {Ns : NS} {σ : Env} {w : World} {Kv : Value → Prop} {Kn : (Value → World → Prop) → Prop} (V' : Value → World → Prop) (hV' : Stb w V')
    (h : ∀ σ' w', Later w w' → psis Ns σ w' σ' rs → vBuild P t (ps.map fun (i, x) => (i, ev σ' x)) (fun v w'' => Later w' w'' ∧ V' v w'') w') (hk : Kn V') : nR P (.build t ps) ty rs Ns σ w Kv Kn :=
  .inr ⟨V', hV', fun σ' w' hl hp => nUp_val (h σ' w' hl hp), hk⟩
end Go.Vc
end
section
set_option linter.unusedSimpArgs false
namespace Go.Vlt
def fB' (k : ByteArray) (es : List VE) : List UInt8 := ((vFind k es).map VE.b).getD []
def fS' (k : ByteArray) (es : List VE) : Nat := ((vFind k es).map VE.safe).getD 0
end Go.Vlt
namespace Go.Proofs.Ytcajkjbempagaaa
open Go.Vc Go.Vlt
set_option maxRecDepth 100000
def AppR (v : Value) (w' : World) (bk r : Nat) (room fuse : Int) (es : List VE) (c : Nat) (k : ByteArray) (bl : List UInt8) : Prop :=
  (v = .int .i64 31 ∧ nmOk k = false ∧ Vt w' bk r room fuse es c) ∨
  (v = .int .i64 272 ∧ nmOk k = true ∧ brn fuse = 0 ∧ Vt w' bk r room (brn fuse) es c) ∨
  (v = .int .i64 32 ∧ nmOk k = true ∧ brn fuse ≠ 0 ∧ (room - tot es < bl.length ∨ (vFind k es = none ∧ 200 ≤ es.length)) ∧ Vt w' bk r room (brn fuse) es c) ∨
  (v = .int .i64 0 ∧ nmOk k = true ∧ brn fuse ≠ 0 ∧ bl.length ≤ room - tot es ∧ (vFind k es = none → es.length < 200) ∧ ∃ sv, Vt w' bk r room (brn fuse) (ePut k (fB' k es ++ bl) (fS' k es) sv c es) (eTick k c es))
def Two (a b : List UInt8) (v : Value) (w : World) : Prop := (∃ k, v = .slice (some ⟨k, 0, none⟩) 2 2) ∧ LL w v [a, b]
theorem stb_two (w0 : World) (a b : List UInt8) : Stb w0 (Two a b) := fun _ _ _ _ hl h => ⟨h.1, h.2.later hl⟩
def FileV (B : Nat) (l : List UInt8) (s : Nat) (v : Value) (w : World) : Prop := ∃ u, v = .agg #[u, .int .i64 s] ∧ OwnB w B 5 u l
theorem stb_file (w0 : World) (B : Nat) (l : List UInt8) (s : Nat) : Stb w0 (FileV B l s) := by
  rintro v w w' _ hl ⟨u, h1, h2⟩
  exact ⟨u, h1, h2.later hl⟩
theorem ll_two {w : World} {a b : Value} {la lb : List UInt8} (ha : Sl w a (la.map u8v)) (hb : Sl w b (lb.map u8v)) (e : TypeId) : LL (w.alloc (.cells #[a, b] e)) (.slice (some ⟨w.heap.size, 0, none⟩) 2 2) [la, lb] :=
  ⟨[a, b], Sl.lit w [a, b] e (by unfold maxLen; simp), rfl, fun i x l hx hl => by
    match i, hx, hl with
    | 0, hx, hl => cases hx; cases hl; exact Sl.later ha (later_alloc _ _)
    | 1, hx, hl => cases hx; cases hl; exact Sl.later hb (later_alloc _ _)
    | n + 2, hx, _ => simp at hx⟩
set_option maxHeartbeats 1000000 in
theorem append_c (bk r : Nat) (room fuse : Int) (es : List VE) (c : Nat) (k : ByteArray) (bv : Value) (bl : List UInt8) (w : World) (h : Vt w bk r room fuse es c) (hr : 0 ≤ room ∧ room ≤ 16777216) (ht : tot es ≤ 1000000000) (hf : -1 ≤ fuse ∧ fuse ≤ 9223372036854775807) (hN : NamedAt k) (hb : Sl w bv (bl.map u8v)) (hbj : ∃ j, inB j bv ∧ j ≠ bk) (hbl : bl.length ≤ 100000000) (hne : es.length ≤ 1000000) :
    FnC Try.prog 10 #[.pointer (some ⟨bk, 0, none⟩), .string k, bv] w fun v w' => AppR v w' bk r room fuse es c k bl ∧ Chg w w' [bk, r] := by
  obtain ⟨bo, bc, rfl⟩ := Sl.slice hb
  rw [List.length_map] at hb hbj ⊢
  refine enter10 _ _ _ ?_
  unfold B10
  repeat' (first | (simp (disch := omega) only [push_cast, seval]) | refine iX ?_ ?_ <;> intros | refine aI (by omega) ?_ | refine dq ?_)
  refine (may_c bk r room fuse es c k false w h hN).mono ?_
  rintro _ w1 ⟨rfl, l1⟩
  have h1 := h.later l1
  have c1 : Chg w w1 [bk, r] := Chg.of_later l1
  cases m1 : nmOk k with
  | false =>
    rw [if_pos (.inl rfl)]
    repeat' (first | (simp (disch := omega) only [push_cast, seval]) | refine iX ?_ ?_ <;> intros | refine aI (by omega) ?_ | refine dq ?_)
    exact ⟨.inl ⟨rfl, m1, h1⟩, c1⟩
  | true =>
  rw [if_neg (by simp)]
  repeat' (first | (simp (disch := omega) only [push_cast, seval]) | refine iX ?_ ?_ <;> intros | refine aI (by omega) ?_ | refine dq ?_)
  have hb1 := Sl.later hb l1
  refine (burns_c bk r room fuse es c w1 h1 hf).mono ?_
  rintro _ w2 ⟨⟨f, hfe, rfl, h2⟩, c2⟩
  have hfe : f = brn fuse := hfe
  subst hfe
  obtain ⟨bj, bj1, bj2⟩ := hbj
  have hb2 := Sl.chg hb1 c2 (by simpa using bj2) bj1
  have c02 : Chg w w2 [bk, r] := c1.trans (Chg.more c2 (by simp))
  by_cases hz : brn fuse = 0
  · rw [if_pos hz]
    repeat' (first | (simp (disch := omega) only [push_cast, seval]) | refine iX ?_ ?_ <;> intros | refine aI (by omega) ?_ | refine dq ?_)
    exact ⟨.inr (.inl ⟨rfl, m1, hz, h2⟩), c02⟩
  rw [if_neg hz]
  have f2 : w2.cell? ⟨bk, 2, none⟩ = some (.map (some r)) := h2.blk.cell 2
  repeat' (first | (simp (disch := omega) only [push_cast, seval, f2, addr_add_eq, Nat.zero_add]) | refine iX ?_ ?_ <;> intros | refine aI (by omega) ?_ | refine dq ?_)
  refine vLook_of Try.underlying64 Try.underlying9 zfile h2.map k true ?_
  have htn := tot_nn es
  obtain ⟨ol, os, fl, sn, is, hgot, hsl, hsn, hol, hinB⟩ : ∃ ol os fl sn is, mGot (.agg #[.slice none 0 0, .int .i64 0]) (mIdx k (es.map VE.ent) 0) true = .tuple #[.agg #[.slice ol (List.length fl) os, .int .i64 ((sn : Nat) : Int)], .bool is] ∧ Sl w2 (.slice ol fl.length os) (fl.map u8v) ∧ (is = (vFind k es).isSome ∧ fl = fB' k es ∧ sn = fS' k es) ∧ (fl.length : Int) ≤ tot es ∧ sn ≤ fl.length := by
    unfold fB' fS'
    rcases mIdx_ent k es 0 with ⟨g1, g2⟩ | ⟨e, j, he, g1, g2⟩
    · refine ⟨none, 0, [], 0, false, ?_, Sl.nil _, ?_, ?_, Nat.le_refl _⟩
      · rw [g2]; rfl
      · rw [g1]; exact ⟨rfl, rfl, rfl⟩
      · exact htn
    · have hok := h2.ok e he
      obtain ⟨os, cs, hsv⟩ := Sl.slice hok.sl
      rw [List.length_map] at hsv
      refine ⟨os, cs, e.b, e.safe, true, ?_, ?_, ?_, ?_, hok.safe⟩
      · rw [g2]; unfold mGot VE.val; rw [hsv]; rfl
      · rw [← hsv]; exact hok.sl
      · rw [g1]; exact ⟨rfl, rfl, rfl⟩
      · obtain ⟨t1, _⟩ := tot_out h2.nodup he
        have := tot_nn (es.filter fun x => !(x.born == e.born))
        omega
  rw [hgot]
  obtain ⟨his, hfl, hsn'⟩ := hsn
  repeat' (first | (simp (disch := omega) only [push_cast, seval]) | refine iX ?_ ?_ <;> intros | refine aI (by omega) ?_ | refine dq ?_)
  refine vStore_new rfl rfl (by intro u hu; simp at hu; rcases hu with rfl | rfl <;> rfl) ?_
  have l3 := later_alloc w2 (.cells #[.slice ol fl.length os, .int .i64 (sn : Int)] 70)
  have B3 := Blk.new w2 #[.slice ol fl.length os, .int .i64 (sn : Int)] 70
  have h3 := h2.later l3
  have hsl3 := Sl.later hsl l3
  have hb3 := Sl.later hb2 l3
  generalize w2.alloc (.cells #[.slice ol fl.length os, .int .i64 (sn : Int)] 70) = w3 at *
  generalize hkb : w2.heap.size = kb at *
  repeat' (first | (simp (disch := omega) only [push_cast, seval]) | refine iX ?_ ?_ <;> intros | refine aI (by omega) ?_ | refine dq ?_)
  refine (free_c bk r room (brn fuse) es c w3 h3 hr (by omega)).mono ?_
  rintro _ w4 ⟨rfl, l4⟩
  have h4 := h3.later l4
  have f4 : w4.cell? ⟨bk, 2, none⟩ = some (.map (some r)) := h4.blk.cell 2
  have hlen : (es.map VE.ent).length = es.length := List.length_map _
  have hms : (((es.map VE.ent).map mE).toArray.size : Int) = (es.length : Int) := by simp
  by_cases hb1 : room - tot es < bl.length
  · have hd := decide_eq_true hb1
    repeat' (first | (simp (disch := omega) only [push_cast, seval, f4, hd, decide_true, addr_add_eq, Nat.zero_add]) | refine iX ?_ ?_ <;> intros | refine aI (by omega) ?_ | refine dq ?_)
    exact ⟨.inr (.inr (.inl ⟨rfl, m1, hz, .inl hb1, h4⟩)), c02.trans (Chg.of_later (l3.trans l4))⟩
  have hd := decide_eq_false hb1
  by_cases hfull : vFind k es = none ∧ 200 ≤ es.length
  · have hisf : is = false := by rw [his, hfull.1]; rfl
    have hd2 : decide ((200 : Int) ≤ (es.length : Int)) = true := decide_eq_true (by omega)
    subst hisf
    repeat' (first | (simp (disch := omega) only [push_cast, seval, f4, hd, decide_false, addr_add_eq, Nat.zero_add]) | refine iX ?_ ?_ <;> intros | refine aI (by omega) ?_ | refine dq ?_)
    refine ⟨_, _, h4.map, ?_⟩
    rw [hms]
    repeat' (first | (simp (disch := omega) only [push_cast, seval, hd2, decide_true]) | refine iX ?_ ?_ <;> intros | refine aI (by omega) ?_ | refine dq ?_)
    exact ⟨.inr (.inr (.inl ⟨rfl, m1, hz, .inr hfull, h4⟩)), c02.trans (Chg.of_later (l3.trans l4))⟩
  have tail : ∀ σ : Env, True := fun _ => trivial
  have B4 := B3.chg (Chg.of_later (ks := []) l4) (by simp)
  have hsl4 := Sl.later hsl3 l4
  have hb4 := Sl.later hb3 l4
  have fc0 : w4.cell? ⟨kb, 0, none⟩ = some (.slice ol fl.length os) := B4.cell 0
  have fc1 : w4.cell? ⟨kb, 1, none⟩ = some (.int .i64 (sn : Int)) := B4.cell 1
  have hroom : vFind k es = none → es.length < 200 := fun h0 => by
    have : ¬ (200 ≤ es.length) := fun h1 => hfull ⟨h0, h1⟩
    omega
  cases hisc : is
  case' true => repeat' (first | (simp (disch := omega) only [push_cast, seval, f4, hd, decide_false, addr_add_eq, Nat.zero_add]) | refine iX ?_ ?_ <;> intros | refine aI (by omega) ?_ | fail)
  case' false =>
    have h0 : vFind k es = none := by
      cases hv : vFind k es with
      | none => rfl
      | some e => rw [hisc, hv] at his; cases his
    have hd2 : decide ((200 : Int) ≤ (es.length : Int)) = false := decide_eq_false (by have := hroom h0; omega)
    repeat' (first | (simp (disch := omega) only [push_cast, seval, f4, hd, decide_false, addr_add_eq, Nat.zero_add]) | refine iX ?_ ?_ <;> intros | refine aI (by omega) ?_ | fail)
    refine ⟨_, _, h4.map, ?_⟩
    rw [hms]
    repeat' (first | (simp (disch := omega) only [push_cast, seval, hd2, decide_false]) | refine iX ?_ ?_ <;> intros | refine aI (by omega) ?_ | fail)
  all_goals
    refine drawn_k 13 ?_
    repeat' (first | (simp (disch := omega) only [push_cast, seval, f4, fc0, fc1, addr_add_eq, Nat.zero_add]) | refine iX ?_ ?_ <;> intros | refine aI (by omega) ?_ | fail)
    refine nB_of _ (Two fl bl) (stb_two _ _ _) (fun w' hl => ?_) ?_
    · repeat' (first | (simp (disch := omega) only [push_cast, seval]) | refine iX ?_ ?_ <;> intros | refine aI (by omega) ?_ | fail)
      exact ⟨later_alloc _ _, ⟨_, rfl⟩, ll_two (Sl.later hsl4 hl) (Sl.later hb4 hl) _⟩
    repeat' (first | (simp (disch := omega) only [push_cast, seval, f4, fc0, fc1, addr_add_eq, Nat.zero_add]) | refine iX ?_ ?_ <;> intros | refine aI (by omega) ?_ | fail)
    refine nR_fnV hb29 (fun v w' => OwnB w' w4.heap.size 5 v (fl ++ bl)) (fun _ _ _ _ hl h => h.later hl) (fun σ' w' hl hp => ?_) ?_
    · obtain ⟨hp56, _⟩ := hp
      have h56 : Two fl bl (σ' 56) w' := hp56
      have ea : Array.map (ev σ') #[Operand.tmp 56] = #[σ' 56] := by simp [ev]
      rw [ea]
      refine (concat_c _ [fl, bl] w' h56.2 (by simp only [List.flatten_cons, List.flatten_nil, List.append_nil, List.length_append]; omega)).mono ?_
      rintro v w'' ⟨hv, hl'⟩
      have hv : OwnB w'' w'.heap.size 5 v (fl ++ bl) := by simpa using hv
      exact ⟨hv.base hl.size, hl'⟩
    repeat' (first | (simp (disch := omega) only [push_cast, seval, f4, fc0, fc1, addr_add_eq, Nat.zero_add]) | refine iX ?_ ?_ <;> intros | refine aI (by omega) ?_ | fail)
    refine nR_bldV (FileV w4.heap.size (fl ++ bl) sn) (stb_file _ _ _ _) (fun σ' w' hl hp => ?_) ?_
    · obtain ⟨hp57, hp59, _⟩ := hp
      have h57 : OwnB w' w4.heap.size 5 (σ' 57) (fl ++ bl) := hp57
      have h59 : σ' 59 = .int .i64 (sn : Int) := hp59
      obtain ⟨o3, c3, hv⟩ := h57.slice
      rw [hv] at h57
      repeat' (first | (simp (disch := omega) only [push_cast, seval, h59, hv]) | refine iX ?_ ?_ <;> intros | refine aI (by omega) ?_ | fail)
      exact ⟨Later.refl _, _, rfl, h57⟩
    repeat' (first | (simp (disch := omega) only [push_cast, seval]) | refine iX ?_ ?_ <;> intros | refine aI (by omega) ?_ | fail)
    rintro w5 l5 _ ⟨u, rfl, hu⟩ _ _ _ _
    have h5 := h4.later l5
    have hp := Vt.put h5 k (b := fl ++ bl) (s := sn) (sv := u) hu.sl (InT.of_own hu) (by rw [List.length_append]; omega)
    have c5 := chg_setB (w := w5) (r := r) (ks := [bk, r]) (by simp) (.map ((mPut k (.agg #[u, .int .i64 (sn : Nat)]) c (es.map VE.ent)).map mE).toArray (mTick k c (es.map VE.ent)))
    refine vUpd_of Try.underlying64 Try.underlying9 h5.map k _ ?_
    generalize setB w5 r (.map ((mPut k (.agg #[u, .int .i64 (sn : Nat)]) c (es.map VE.ent)).map mE).toArray (mTick k c (es.map VE.ent))) = w6 at *
    repeat' (first | (simp (disch := omega) only [push_cast, seval]) | refine iX ?_ ?_ <;> intros | refine aI (by omega) ?_ | refine dq ?_)
    exact ⟨.inr (.inr (.inr ⟨rfl, m1, hz, by omega, hroom, u, by rw [← hfl, ← hsn']; exact hp⟩)), c02.trans ((Chg.of_later (l3.trans (l4.trans l5))).trans c5)⟩
end Go.Proofs.Ytcajkjbempagaaa
end
section
namespace Go.Proofs
open Go.Shelf
def Try.laysGw17_ren : Go.Shelf.Ren := ⟨fun | 17 => 70 | 15 => 84 | 20 => 93 | n => n, fun | 9 => 9 | 23 => 119 | 4 => 4 | 3 => 3 | 0 => 0 | 21 => 21 | n => n, fun | n => n⟩
theorem Try.laysGw17 : Go.Proofs.LaysGw.n17 Try.prog Try.laysGw17_ren := {
  mixed := by kernel_rfl
  f15 := Try.func84.trans (congrArg some (by kernel_rfl))
  f17 := Try.func70.trans (congrArg some (by kernel_rfl))
  f20 := Try.func93.trans (congrArg some (by kernel_rfl))
  t0 := Try.underlying0
  a0 := Try.isAgg0
  z0 := Try.sizeOf0
  v0 := Try.zeroValue0
  i0 := by kernel_rfl
  t3 := Try.underlying3
  a3 := Try.isAgg3
  z3 := Try.sizeOf3
  v3 := Try.zeroValue3
  i3 := by kernel_rfl
  t4 := Try.underlying4
  a4 := Try.isAgg4
  z4 := Try.sizeOf4
  v4 := Try.zeroValue4
  i4 := by kernel_rfl
  t9 := Try.underlying9
  a9 := Try.isAgg9
  z9 := Try.sizeOf9
  v9 := Try.zeroValue9
  i9 := by kernel_rfl
  t21 := Try.underlying21
  a21 := Try.isAgg21
  z21 := Try.sizeOf21
  v21 := Try.zeroValue21
  i21 := by kernel_rfl
  t23 := Try.underlying119
  a23 := Try.isAgg119
  z23 := Try.sizeOf119
  v23 := Try.zeroValue119
  i23 := by kernel_rfl }
def Try.lays151_ren : Go.Shelf.Ren := ⟨fun | 151 => 72 | 152 => 85 | 137 => 94 | 119 => 95 | 224 => 96 | 225 => 97 | 217 => 99 | 266 => 103 | n => n, fun | 9 => 9 | 21 => 21 | 4 => 4 | 3 => 3 | 5 => 5 | 0 => 0 | 46 => 122 | n => n, fun | n => n⟩
theorem Try.lays151 : Go.Proofs.Lays.n151 Try.prog Try.lays151_ren := {
  mixed := by kernel_rfl
  f119 := Try.func95.trans (congrArg some (by kernel_rfl))
  f137 := Try.func94.trans (congrArg some (by kernel_rfl))
  f151 := Try.func72.trans (congrArg some (by kernel_rfl))
  f152 := Try.func85.trans (congrArg some (by kernel_rfl))
  f217 := Try.func99.trans (congrArg some (by kernel_rfl))
  f224 := Try.func96.trans (congrArg some (by kernel_rfl))
  f225 := Try.func97.trans (congrArg some (by kernel_rfl))
  f266 := Try.func103.trans (congrArg some (by kernel_rfl))
  t0 := Try.underlying0
  a0 := Try.isAgg0
  z0 := Try.sizeOf0
  v0 := Try.zeroValue0
  t3 := Try.underlying3
  a3 := Try.isAgg3
  z3 := Try.sizeOf3
  v3 := Try.zeroValue3
  t4 := Try.underlying4
  a4 := Try.isAgg4
  z4 := Try.sizeOf4
  v4 := Try.zeroValue4
  t5 := Try.underlying5
  a5 := Try.isAgg5
  z5 := Try.sizeOf5
  v5 := Try.zeroValue5
  t9 := Try.underlying9
  a9 := Try.isAgg9
  z9 := Try.sizeOf9
  v9 := Try.zeroValue9
  t21 := Try.underlying21
  a21 := Try.isAgg21
  z21 := Try.sizeOf21
  v21 := Try.zeroValue21
  t46 := Try.underlying122
  a46 := Try.isAgg122
  z46 := Try.sizeOf122
  v46 := Try.zeroValue122 }
def Try.lays150_ren : Go.Shelf.Ren := ⟨fun | 150 => 90 | 153 => 98 | 152 => 85 | 226 => 100 | 227 => 101 | 228 => 102 | 137 => 94 | 119 => 95 | 224 => 96 | 225 => 97 | 217 => 99 | 266 => 103 | n => n, fun | 9 => 9 | 4 => 4 | 3 => 3 | 5 => 5 | 21 => 21 | 117 => 143 | 116 => 142 | 0 => 0 | 46 => 122 | 124 => 146 | n => n, fun | n => n⟩
theorem Try.lays150 : Go.Proofs.Lays.n150 Try.prog Try.lays150_ren := {
  mixed := by kernel_rfl
  f119 := Try.func95.trans (congrArg some (by kernel_rfl))
  f137 := Try.func94.trans (congrArg some (by kernel_rfl))
  f150 := Try.func90.trans (congrArg some (by kernel_rfl))
  f152 := Try.func85.trans (congrArg some (by kernel_rfl))
  f153 := Try.func98.trans (congrArg some (by kernel_rfl))
  f217 := Try.func99.trans (congrArg some (by kernel_rfl))
  f224 := Try.func96.trans (congrArg some (by kernel_rfl))
  f225 := Try.func97.trans (congrArg some (by kernel_rfl))
  f226 := Try.func100.trans (congrArg some (by kernel_rfl))
  f227 := Try.func101.trans (congrArg some (by kernel_rfl))
  f228 := Try.func102.trans (congrArg some (by kernel_rfl))
  f266 := Try.func103.trans (congrArg some (by kernel_rfl))
  t0 := Try.underlying0
  a0 := Try.isAgg0
  z0 := Try.sizeOf0
  v0 := Try.zeroValue0
  t3 := Try.underlying3
  a3 := Try.isAgg3
  z3 := Try.sizeOf3
  v3 := Try.zeroValue3
  t4 := Try.underlying4
  a4 := Try.isAgg4
  z4 := Try.sizeOf4
  v4 := Try.zeroValue4
  t5 := Try.underlying5
  a5 := Try.isAgg5
  z5 := Try.sizeOf5
  v5 := Try.zeroValue5
  t9 := Try.underlying9
  a9 := Try.isAgg9
  z9 := Try.sizeOf9
  v9 := Try.zeroValue9
  t21 := Try.underlying21
  a21 := Try.isAgg21
  z21 := Try.sizeOf21
  v21 := Try.zeroValue21
  t46 := Try.underlying122
  a46 := Try.isAgg122
  z46 := Try.sizeOf122
  v46 := Try.zeroValue122
  t116 := Try.underlying142
  a116 := Try.isAgg142
  z116 := Try.sizeOf142
  t117 := Try.underlying143
  a117 := Try.isAgg143
  z117 := Try.sizeOf143
  v117 := Try.zeroValue143
  t124 := Try.underlying146
  a124 := Try.isAgg146
  z124 := Try.sizeOf146
  v124 := Try.zeroValue146 }
open Go.RowKit Go.Lib in
theorem Try.strings_ContainsRune_ascii (s : ByteArray) (r : Int) (w : World) (h0 : 0 ≤ r) (h1 : r < 128) :
    Calls Try.prog 72 #[.string s, .int .i32 r] w fun e w' => e = .returned (.bool (decide (0 ≤ Lib.indexByte s.data.toList r.toNat.toUInt8))) ∧ w' = w := Any.strings_ContainsRune_ascii Try.lays151 s r w h0 h1
open Go.RowKit Go.Lib in
theorem Try.strings_ContainsAny_laid (s chars : ByteArray) (w : World) (hs : s.size < 4294967281) (hcs : chars.size < 4294967281) (has : ∀ (j : Nat) b, s.data.toList[j]? = some b → b.toNat < 128) (hac : ∀ (j : Nat) b, chars.data.toList[j]? = some b → b.toNat < 128) :
    Calls Try.prog 90 #[.string s, .string chars] w fun e w' => e = .returned (.bool (Lib.containsAny s.data.toList chars.data.toList)) ∧ Below w.heap.size w w' := Any.strings_ContainsAny_laid Try.lays150 (by kernel_rfl) s chars w hs hcs has hac
open Go.RowKit Go.Lib in
theorem Try.strings_ContainsFunc_grows (g : Nat) (lb : Array Value) (eg : ∀ args w, (callFunc g args).run Try.prog w = .ok (.enter g args) w) (p : Nat → Bool) (s : ByteArray) (w : World) (hp : PredGrows Try.prog g lb p w) :
    Calls Try.prog 70 #[.string s, .func (.func g) #[] lb] w fun e w' => e = .returned (.bool (decide (0 ≤ Lib.idxFunc p true s))) ∧ Below w.heap.size w w' := Any.strings_ContainsFunc_grows Try.laysGw17 g lb eg p s w hp
end Go.Proofs
end
section
/- strings.ContainsAny of a quotation mark and a backslash, at any text: it tells something (what, for texts of 7 bits, the kit's contracts say). -/
namespace Go.Proofs
open Go.Shelf Go.RowKit Go.Lib BigFrame
variable {P : Program} {ρ : Ren}
set_option maxHeartbeats 4000000 in
set_option maxRecDepth 1000000 in
theorem Any.IndexRune_high_s (L : Lays.n152 P ρ) (s : ByteArray) (hs : s.size ≤ 1000000) (has : ∀ i (h : i < s.size), s[i].toNat < 128) (r : Int) (w : World) (h1 : 128 ≤ r) (hne : ¬ r = 65533) (hv : Utf8.valid r = true) :
    Calls P (ρ.f 152) #[.string s, .int .i32 r] w fun e w' => e = .returned (.int .i64 (-1)) ∧ ∃ n, w' = w.drewN n := by
  obtain ⟨g1, g2, g3⟩ := encode_facts r hv h1
  have hvr : Lib.validRune r = true := by
    have := validRune_eq r
    rw [hv] at this
    unfold Go.validRune at this
    unfold Lib.validRune
    exact this.symm
  have mixed := L.mixed
  have t3 := L.t3; have a3 := L.a3; have z3 := L.z3; have v3 := L.v3
  have t4 := L.t4; have a4 := L.a4; have z4 := L.z4; have v4 := L.v4
  have t5 := L.t5; have a5 := L.a5; have z5 := L.z5; have v5 := L.v5
  have t9 := L.t9; have a9 := L.a9; have z9 := L.z9; have v9 := L.v9
  have t21 := L.t21; have a21 := L.a21; have z21 := L.z21; have v21 := L.v21
  have e119 : ∀ args w, (callFunc (ρ.f 119) args).run P w = .ok (.enter (ρ.f 119) args) w := enters_of L.f119 (by kernel_rfl) rfl
  go_enter L.f152, Body.n152_ntmps ρ
  go_wp2_with (go_at_fn (ρ.f 119); refine (Any.utf8_ValidRune { L with } _ _).mono ?_; rintro e w' ⟨rfl, hw⟩; rw [hw, hvr])
  subst hw
  have hcv : ∀ w, (convert (ρ.t 21) (ρ.t 9) (.int .i32 r)).run P w = .ok (.string (Utf8.encode r)) w := fun w => run_convert_int_string w _ _ _ _ (by rw [t21]; rfl) t9
  generalize Utf8.encode r = rs at *
  clear hv hvr
  obtain ⟨n, hn⟩ : ∃ n, rs.size = n + 1 := ⟨rs.size - 1, by omega⟩
  by_cases h2 : n < s.size
  · have hlt : (n : Int) < (s.size : Int) := by omega
    have g4 : 128 ≤ (rs[n]'(by omega)).toNat := by
      have := g3 (by omega)
      simpa only [hn, Nat.add_sub_cancel] using this
    clear g3
    go_step3
    go_wp2
    go_rounds 1
    obtain ⟨x, hx⟩ : ∃ x : UInt8, ∀ h, s[n]'h = x := ⟨s[n]'h2, fun _ => rfl⟩
    obtain ⟨y, hy⟩ : ∃ y : UInt8, ∀ h, rs[n]'h = y := ⟨rs[n]'(by omega), fun _ => rfl⟩
    rw [hy] at g4
    have hx1 : x.toNat < 128 := by rw [← hx h2]; exact has n h2
    have hb1 : (0 : Int) ≤ (n : Int) ∧ (n : Int) < (s.size : Int) := by omega
    have hb2 : (0 : Int) ≤ (n : Int) ∧ (n : Int) < (rs.size : Int) := by omega
    have hb3 : (n : Int) < (rs.size : Int) := by omega
    go_step3
    refine wp_seq_k fun K1 hK1 => ?_
    refine wp_seq_k fun K2 hK2 => ?_
    go_big_quiet_o (fail)
    refine hK2 _ _ ?_
    clear hK2
    have exy : ((x.toNat : Int) != (y.toNat : Int)) = true := by
      rw [bne_iff_ne]
      omega
    rw [exy]
    go_wp2
    have e137 : ∀ args w, (callFunc (ρ.f 137) args).run P w = .ok (.enter (ρ.f 137) args) w := enters_of L.f137 (by kernel_rfl) rfl
    have hIB := fun (t : ByteArray) (w : World) => Any.strings_IndexByte (P := P) (ρ := ρ) { L with } t (y.toNat : Int) w
    obtain ⟨w1, hw1⟩ : ∃ w1, w'.drewN nq = w1 := ⟨_, rfl⟩
    rw [hw1]
    have hb4 : (0 : Int) ≤ (n : Int) + 1 ∧ (n : Int) + 1 ≤ (s.size : Int) := by omega
    go_big_quiet_o (first | (go_at_fn (ρ.f 137); refine Calls.quiet_of_same (hIB _ _)))
    have hneg : Lib.indexByte (s.extract (n + 1) s.size).data.toList (y.toNat : Int).toNat.toUInt8 = -1 := by
      have hyy : (y.toNat : Int).toNat.toUInt8 = y := by simp
      rw [hyy]
      have hall : ∀ b ∈ (s.extract (n + 1) s.size).data.toList, b ≠ y := fun b hb he => by
        have hm := mem_extract hb
        obtain ⟨i, hi, rfl⟩ := List.getElem_of_mem hm
        have := has i (by simpa using hi)
        have e1 : s[i]'(by simpa using hi) = s.data.toList[i] := rfl
        rw [e1, he] at this
        omega
      generalize (s.extract (n + 1) s.size).data.toList = l at hall
      induction l with
      | nil => rfl
      | cons b l ih =>
        have h1 : (b == y) = false := beq_eq_false_iff_ne.2 (hall b (by simp))
        have h2 := ih fun c hc => hall c (List.mem_cons_of_mem _ hc)
        simp [Lib.indexByte, h1, h2]
    rw [hneg]
    go_wp2
    rw [Exit.noGoto_ret]
    simp only [Exit.inBlock, Exit.then, Exit.noGoto_ret]
    go_ret
    rw [← hw1, World.drewN_drewN]
    exact ⟨rfl, _, rfl⟩
  · have hlt : ¬ ((n : Int) < (s.size : Int)) := by omega
    clear g3
    go_step3
    go_wp2
    go_rounds 1
    rw [Exit.noGoto_ret]
    go_ret
    exact ⟨rfl, 0, rfl⟩
set_option maxHeartbeats 4000000 in
set_option maxRecDepth 1000000 in
theorem Any.IndexRune_bad_s (L : Lays.n152 P ρ) (s : ByteArray) (r : Int) (w : World) (h1 : 128 ≤ r) (hne : ¬ r = 65533) (hv : Utf8.valid r = false) :
    Calls P (ρ.f 152) #[.string s, .int .i32 r] w fun e w' => e = .returned (.int .i64 (-1)) ∧ w' = w := by
  have hvr : Lib.validRune r = false := by
    have := validRune_eq r
    rw [hv] at this
    unfold Go.validRune at this
    unfold Lib.validRune
    exact this.symm
  have mixed := L.mixed
  have t3 := L.t3; have a3 := L.a3; have z3 := L.z3; have v3 := L.v3
  have t4 := L.t4; have a4 := L.a4; have z4 := L.z4; have v4 := L.v4
  have t5 := L.t5; have a5 := L.a5; have z5 := L.z5; have v5 := L.v5
  have t9 := L.t9; have a9 := L.a9; have z9 := L.z9; have v9 := L.v9
  have t21 := L.t21; have a21 := L.a21; have z21 := L.z21; have v21 := L.v21
  have e119 : ∀ args w, (callFunc (ρ.f 119) args).run P w = .ok (.enter (ρ.f 119) args) w := enters_of L.f119 (by kernel_rfl) rfl
  go_enter L.f152, Body.n152_ntmps ρ
  go_wp2_with (go_at_fn (ρ.f 119); refine (Any.utf8_ValidRune { L with } _ _).mono ?_; rintro e w' ⟨rfl, hw⟩; rw [hw, hvr])
  go_ret
  exact ⟨rfl, rfl⟩
theorem below_drewN_s (w : World) (n : Nat) : Below w.heap.size w (w.drewN n) := ⟨rfl, rfl, rfl, Nat.le_refl _, fun _ _ => rfl⟩
set_option maxHeartbeats 8000000 in
set_option maxRecDepth 1000000 in
theorem Any.IndexRune_err_s (L : Lays.n152 P ρ) (s : ByteArray) (has : ∀ i (h : i < s.size), s[i].toNat < 128) (hs : s.size ≤ 1000000) (w : World) :
    Calls P (ρ.f 152) #[.string s, .int .i32 65533] w fun e w' => e = .returned (.int .i64 (-1)) ∧ Below w.heap.size w w' := by
  have mixed := L.mixed
  have t3 := L.t3; have a3 := L.a3; have z3 := L.z3; have v3 := L.v3
  have t4 := L.t4; have a4 := L.a4; have z4 := L.z4; have v4 := L.v4
  have t5 := L.t5; have a5 := L.a5; have z5 := L.z5; have v5 := L.v5
  have t9 := L.t9; have a9 := L.a9; have z9 := L.z9; have v9 := L.v9
  have t21 := L.t21; have a21 := L.a21; have z21 := L.z21; have v21 := L.v21
  go_enter L.f152, Body.n152_ntmps ρ
  go_wp2
  go_loopw [5, 6] (fun _ _ wr => ∃ pos : Nat, wr.heap[w.heap.size]? = some (.stringIter s pos) ∧ Below w.heap.size w wr) (fun _ _ wr => s.size - wr.iterPos w.heap.size)
  case atStart => exact ⟨0, World.iter_heap w s 0, (Below.refl _ _).alloc (Nat.le_refl _) _⟩
  case round =>
    obtain ⟨pos, hit, hbw⟩ := hrel
    have hsz : w.heap.size < wr.heap.size := (Array.getElem?_eq_some_iff.1 hit).1
    by_cases hp : pos < s.size
    · have hnx : ∀ ty, (Instr.next (.pointer (some ⟨w.heap.size, 0, none⟩)) true ty).run P wr = _ := fun ty => Lib.run_next_any_at wr w.heap.size s pos ty hit hp
      have hdec := decode_ascii s pos hp (has pos hp)
      rw [hdec] at hnx
      have hit2 := Lib.iterAt_heap wr w.heap.size s pos (pos + 1) hit
      have hbw2 := Lib.below_iterAt hbw (k := w.heap.size) (by omega) s (pos + 1)
      have hdn : ¬ ((s[pos].toNat : Int) = 65533) := by have := has pos hp; omega
      have hdn2 : ((s[pos].toNat : Int) == 65533) = false := beq_eq_false_iff_ne.2 hdn
      go_wp2
      refine ⟨⟨_, hit2, hbw2⟩, ?_⟩
      simp only [World.iterPos, hit2, hit]
      omega
    · have hnx : ∀ ty, (Instr.next (.pointer (some ⟨w.heap.size, 0, none⟩)) true ty).run P wr = _ := fun ty => Lib.run_next_end_at wr w.heap.size s pos ty hit hp
      go_wp2
      go_ret
      exact ⟨rfl, hbw⟩
theorem Any.IndexRune_out (L : Lays.n152 P ρ) (s : ByteArray) (hs : s.size ≤ 1000000) (has : ∀ i (h : i < s.size), s[i].toNat < 128) (r : Int) (w : World) (h1 : 128 ≤ r) :
    Calls P (ρ.f 152) #[.string s, .int .i32 r] w fun e w' => e = .returned (.int .i64 (-1)) ∧ Below w.heap.size w w' := by
  by_cases hne : r = 65533
  · subst hne
    exact Any.IndexRune_err_s L s has hs w
  cases hv : Utf8.valid r with
  | false => exact (Any.IndexRune_bad_s L s r w (by omega) hne hv).mono fun e w' ⟨h, hw⟩ => ⟨h, hw ▸ Below.refl _ _⟩
  | true => exact (Any.IndexRune_high_s L s hs has r w (by omega) hne hv).mono fun e w' ⟨h, n, hw⟩ => ⟨h, hw ▸ below_drewN_s w n⟩
theorem Any.ContainsRune_out (L : Lays.n151 P ρ) (s : ByteArray) (hs : s.size ≤ 1000000) (has : ∀ i (h : i < s.size), s[i].toNat < 128) (r : Int) (w : World) (h1 : 128 ≤ r) :
    Calls P (ρ.f 151) #[.string s, .int .i32 r] w fun e w' => e = .returned (.bool false) ∧ Below w.heap.size w w' := by
  have c := Any.IndexRune_out (P := P) (ρ := ρ) { L with } s hs has r w h1
  have t3 := L.t3; have a3 := L.a3; have z3 := L.z3; have v3 := L.v3
  have t4 := L.t4; have a4 := L.a4; have z4 := L.z4; have v4 := L.v4
  have t9 := L.t9; have a9 := L.a9; have z9 := L.z9; have v9 := L.v9
  have t21 := L.t21; have a21 := L.a21; have z21 := L.z21; have v21 := L.v21
  have e152 : ∀ args w, (callFunc (ρ.f 152) args).run P w = .ok (.enter (ρ.f 152) args) w := enters_of L.f152 (by kernel_rfl) rfl
  go_enter L.f151, Body.n151_ntmps ρ
  go_wp2_with (go_at_fn (ρ.f 152); refine c.mono ?_; rintro e w' ⟨rfl, hw⟩)
  go_ret
  exact ⟨rfl, hw⟩
end Go.Proofs
end
section
namespace Go.Vc
open Go.RowKit Go.Sort
theorem FnC.of_calls {P : Program} {f : FuncId} {args : Array Value} {w : World} {R : Value → World → Prop} {Q : Ending → World → Prop} (hb : HasBody P f) (h : Calls P f args w Q) (hR : ∀ e w', Q e w' → ∃ v, e = .returned v ∧ R v w') : FnC P f args w R :=
  hb.fn (Calls.mono h hR)
/-! ### in order, each once -/
end Go.Vc
end
section
set_option linter.unusedSimpArgs false
namespace Go.Vc
theorem calls_of_fn {P : Program} {f : FuncId} {args : Array Value} {w : World} {R : Value → World → Prop} {Q : Ending → World → Prop} (hb : HasBody P f) (h : FnC P f args w R) (hR : ∀ v w', R v w' → Q (.returned v) w') : Calls P f args w Q := by
  unfold FnC at h
  rw [hb args w] at h
  have h : Ret P f args w R := h
  refine Calls.mono h ?_
  rintro e w' ⟨v, rfl, hr⟩
  exact hR v w' hr
end Go.Vc
namespace Go.Proofs.Ytcajkjbempagaaa
open Go.Vc Go.Vlt
set_option maxRecDepth 100000
abbrev letters : ByteArray := ⟨#[97, 98, 99, 100, 101, 102, 103, 104, 105, 106, 107, 108, 109, 110, 111, 112, 113, 114, 115, 116, 117, 118, 119, 120, 121, 122, 48, 49, 50, 51, 52, 53, 54, 55, 56, 57, 46]⟩
theorem hbCF : HasBody Try.prog 70 := hasBody_of Try.func70 (by kernel_rfl)
theorem hbCR : HasBody Try.prog 72 := hasBody_of Try.func72 (by kernel_rfl)
def outN (x : Nat) : Bool := !(decide (x < 128) && nmB (UInt8.ofNat x))
theorem letters_asc : ∀ i (h : i < letters.size), letters[i].toNat < 128 := by decide +kernel
theorem letters_is : ∀ x : Nat, x < 128 → decide (0 ≤ Go.Lib.indexByte letters.data.toList ((x : Int).toNat.toUInt8)) = nmB (UInt8.ofNat x) := by decide +kernel
theorem crune_c (x : Nat) (w : World) : FnC Try.prog 72 #[.string letters, .int .i32 (x : Int)] w fun r w' => r = .bool (!outN x) ∧ Later w w' := by
  unfold outN
  by_cases hx : x < 128
  · refine FnC.of_calls hbCR (Try.strings_ContainsRune_ascii letters (x : Int) w (by omega) (by omega)) ?_
    rintro e w' ⟨rfl, rfl⟩
    refine ⟨_, rfl, ?_, Later.refl _⟩
    rw [letters_is x hx, decide_eq_true hx, Bool.true_and, Bool.not_not]
  · refine FnC.of_calls hbCR (Any.ContainsRune_out Try.lays151 letters (by decide) letters_asc (x : Int) w (by omega)) ?_
    rintro e w' ⟨rfl, hl⟩
    exact ⟨_, rfl, by rw [decide_eq_false hx]; rfl, hl⟩
theorem named1_c (x : Nat) (w : World) : FnC Try.prog 71 #[.int .i32 (x : Int)] w fun r w' => r = .bool (outN x) ∧ Later w w' := by
  refine enter71 _ ?_
  unfold B71
  repeat' (first | (simp (disch := omega) only [push_cast, seval]) | refine iX ?_ ?_ <;> intros | refine aI (by omega) ?_ | refine dq ?_)
  refine (crune_c x w).mono ?_
  rintro _ w1 ⟨rfl, l1⟩
  repeat' (first | (simp (disch := omega) only [push_cast, seval]) | refine iX ?_ ?_ <;> intros | refine aI (by omega) ?_ | refine dq ?_)
  first | exact ⟨by rw [Bool.not_not], l1⟩ | (rw [Bool.not_not]; exact ⟨rfl, l1⟩)
theorem idx_outN {s : ByteArray} : (decide (0 ≤ Go.Lib.idxFunc outN true s) = false) ↔ ∀ i (h : i < s.size), nmB s[i] = true := by
  have key : ∀ (f pos : Nat), s.size - pos ≤ f → (¬ 0 ≤ Go.Lib.idxFuncFrom outN true s f pos ↔ ∀ i (h : i < s.size), pos ≤ i → nmB s[i] = true) := by
    intro f
    induction f with
    | zero =>
      intro pos hp
      unfold Go.Lib.idxFuncFrom
      exact ⟨fun _ i hi h => by omega, fun _ => by omega⟩
    | succ f ih =>
      intro pos hp
      unfold Go.Lib.idxFuncFrom
      by_cases hlt : pos < s.size
      · rw [if_pos hlt]
        by_cases hb : s[pos].toNat < 128
        · rw [decode_ascii s pos hlt hb]
          dsimp only
          have ho : outN s[pos].toNat = !nmB s[pos] := by
            unfold outN
            rw [decide_eq_true hb, Bool.true_and, UInt8.ofNat_toNat]
          rw [ho]
          cases hn : nmB s[pos] with
          | false =>
            simp only [Bool.not_false, if_true]
            refine ⟨fun h => absurd (by omega) h, fun h => ?_⟩
            have := h pos hlt (Nat.le_refl _)
            rw [hn] at this; cases this
          | true =>
            simp only [Bool.not_true, Bool.false_eq_true, if_false]
            rw [ih (pos + 1) (by omega)]
            refine ⟨fun h i hi hpi => ?_, fun h i hi hpi => h i hi (by omega)⟩
            by_cases he : i = pos
            · subst he
              exact hn
            · exact h i hi (by omega)
        · have hd := (decode_high s pos hlt (by omega)).1
          have ho : outN (Utf8.decode s pos).1 = true := by
            unfold outN
            rw [decide_eq_false (by omega)]; rfl
          rw [if_pos ho]
          refine ⟨fun h => absurd (by omega) h, fun h => ?_⟩
          have h1 := h pos hlt (Nat.le_refl _)
          unfold nmB at h1
          simp only [Bool.or_eq_true, Bool.and_eq_true, decide_eq_true_eq, beq_iff_eq] at h1
          rcases h1 with (⟨_, h1⟩ | ⟨_, h1⟩) | h1
          · have := UInt8.le_iff_toNat_le.1 h1
            simp at this; omega
          · have := UInt8.le_iff_toNat_le.1 h1
            simp at this; omega
          · rw [h1] at hb
            simp at hb
      · rw [if_neg hlt]
        exact ⟨fun _ i hi h => by omega, fun _ => by omega⟩
  unfold Go.Lib.idxFunc
  rw [decide_eq_false_iff_not, key s.size 0 (by omega)]
  exact ⟨fun h i hi => h i hi (Nat.zero_le _), fun h i hi _ => h i hi⟩
theorem named_at (s : ByteArray) (hs : s.size ≤ 1000000000) : NamedAt s := by
  intro w
  have hidx : ∀ w1, FnC Try.prog 70 #[.string s, .func (.func 71) #[] #[]] w1 fun r w' => r = .bool (decide (0 ≤ Go.Lib.idxFunc outN true s)) ∧ Later w1 w' := fun w1 => by
    refine FnC.of_calls hbCF (Try.strings_ContainsFunc_grows 71 #[] hb71 outN s w1 ?_) ?_
    · intro W x hx hW
      refine calls_of_fn hb71 (named1_c x W) ?_
      rintro v w' ⟨rfl, hl⟩
      exact ⟨rfl, hl⟩
    · rintro e w' ⟨rfl, hl⟩
      exact ⟨_, rfl, rfl, hl⟩
  have hall : s.data.toList.all nmB = true ↔ ∀ i (h : i < s.size), nmB s[i] = true := by
    rw [List.all_eq_true]
    constructor
    · intro h i hi
      have e : s[i] = s.data.toList[i]'(by simpa using hi) := rfl
      rw [e]
      exact h _ (List.getElem_mem _)
    · intro h b hb
      obtain ⟨i, hi, rfl⟩ := List.getElem_of_mem hb
      exact h i (by simpa using hi)
  refine enter49 _ ?_
  unfold B49
  by_cases h0 : s.size = 0
  · have hs0 : s = ⟨#[]⟩ := by
      apply ByteArray.ext
      exact Array.eq_empty_of_size_eq_zero h0
    have hn : nmOk s = false := by unfold nmOk; rw [h0]; simp
    subst hs0
    repeat' (first | (simp (disch := omega) only [push_cast, seval]) | refine iX ?_ ?_ <;> intros | refine aI (by omega) ?_ | refine dq ?_)
    first | exact ⟨by rw [hn], Later.refl _⟩ | (rw [hn]; exact ⟨rfl, Later.refl _⟩)
  have hs0 : ¬ s = ⟨#[]⟩ := fun h => h0 (by rw [h]; rfl)
  have hd0 := decide_eq_false hs0
  by_cases h12 : 12 < s.size
  · have hn : nmOk s = false := by unfold nmOk; rw [decide_eq_false (by omega)]; simp
    repeat' (first | (simp (disch := omega) only [push_cast, seval, hd0, decide_false]) | refine iX ?_ ?_ <;> intros | refine aI (by omega) ?_ | refine dq ?_)
    first | exact ⟨by rw [hn], Later.refl _⟩ | (rw [hn]; exact ⟨rfl, Later.refl _⟩)
  have hn : nmOk s = !decide (0 ≤ Go.Lib.idxFunc outN true s) := by
    unfold nmOk
    rw [decide_eq_true (by omega : 1 ≤ s.size ∧ s.size ≤ 12), Bool.and_true]
    rw [Bool.eq_iff_iff, hall, Bool.not_eq_true', idx_outN]
  repeat' (first | (simp (disch := omega) only [push_cast, seval, hd0, decide_false]) | refine iX ?_ ?_ <;> intros | refine aI (by omega) ?_ | refine dq ?_)
  refine (hidx w).mono ?_
  rintro _ w1 ⟨rfl, l1⟩
  rw [hn]
  repeat' (first | (simp (disch := omega) only [push_cast, seval]) | refine iX ?_ ?_ <;> intros | refine aI (by omega) ?_ | refine dq ?_)
  first | exact ⟨rfl, l1⟩ | exact l1
end Go.Proofs.Ytcajkjbempagaaa
end
section
namespace Go.Proofs
open Go.Shelf Go.RowKit Go.Lib BigFrame
variable {P : Program} {ρ : Ren}
set_option maxHeartbeats 4000000 in
set_option maxRecDepth 1000000 in
theorem Any.IndexRune_high (L : Lays.n152 P ρ) (r : Int) (w : World) (h1 : 128 ≤ r) (hne : ¬ r = 65533) (hv : Utf8.valid r = true) :
    Calls P (ρ.f 152) #[.string ⟨#[34, 92]⟩, .int .i32 r] w fun e w' => e = .returned (.int .i64 (-1)) ∧ ∃ n, w' = w.drewN n := by
  obtain ⟨g1, g2, g3⟩ := encode_facts r hv h1
  have hvr : Lib.validRune r = true := by
    have := validRune_eq r
    rw [hv] at this
    unfold Go.validRune at this
    unfold Lib.validRune
    exact this.symm
  have mixed := L.mixed
  have t3 := L.t3; have a3 := L.a3; have z3 := L.z3; have v3 := L.v3
  have t4 := L.t4; have a4 := L.a4; have z4 := L.z4; have v4 := L.v4
  have t5 := L.t5; have a5 := L.a5; have z5 := L.z5; have v5 := L.v5
  have t9 := L.t9; have a9 := L.a9; have z9 := L.z9; have v9 := L.v9
  have t21 := L.t21; have a21 := L.a21; have z21 := L.z21; have v21 := L.v21
  have e119 : ∀ args w, (callFunc (ρ.f 119) args).run P w = .ok (.enter (ρ.f 119) args) w := enters_of L.f119 (by kernel_rfl) rfl
  go_enter L.f152, Body.n152_ntmps ρ
  go_wp2_with (go_at_fn (ρ.f 119); refine (Any.utf8_ValidRune { L with } _ _).mono ?_; rintro e w' ⟨rfl, hw⟩; rw [hw, hvr])
  subst hw
  have hcv : ∀ w, (convert (ρ.t 21) (ρ.t 9) (.int .i32 r)).run P w = .ok (.string (Utf8.encode r)) w := fun w => run_convert_int_string w _ _ _ _ (by rw [t21]; rfl) t9
  generalize Utf8.encode r = rs at *
  clear hv hvr
  by_cases h2 : rs.size = 2
  · have hi : ((rs.size : Int) - 1 < 2) := by omega
    have hi2 : ((rs.size : Int) - 1) = 1 := by omega
    have g4 : 128 ≤ (rs[1]'(by omega)).toNat := by
      have := g3 (by omega)
      simpa only [h2] using this
    clear g3
    go_step3
    go_wp2
    go_rounds 1
    obtain ⟨y, hy⟩ : ∃ y : UInt8, ∀ h, rs[1]'h = y := ⟨rs[1]'(by omega), fun _ => rfl⟩
    rw [hy] at g4
    have hne2 : ((92 : Int) == (y.toNat : Int)) = false := beq_eq_false_iff_ne.2 (by omega)
    have hlt1 : (1 : Int) < (rs.size : Int) := by omega
    have hlt2 : (0 : Int) ≤ 1 ∧ (1 : Int) < (rs.size : Int) := by omega
    clear h2
    go_step3
    refine wp_seq_k fun K1 hK1 => ?_
    refine wp_seq_k fun K2 hK2 => ?_
    go_big_quiet_o (fail)
    refine hK2 _ _ ?_
    clear hK2
    have e92 : (((({ data := #[34, 92] } : ByteArray)[1]'(by decide)).toNat : Int) != (y.toNat : Int)) = true := by
      have e : ((({ data := #[34, 92] } : ByteArray)[1]'(by decide)).toNat : Int) = 92 := rfl
      rw [e, bne_iff_ne]
      omega
    rw [e92]
    go_wp2
    have e137 : ∀ args w, (callFunc (ρ.f 137) args).run P w = .ok (.enter (ρ.f 137) args) w := enters_of L.f137 (by kernel_rfl) rfl
    have hIB := fun (w : World) => Any.strings_IndexByte (P := P) (ρ := ρ) { L with } ByteArray.empty (y.toNat : Int) w
    obtain ⟨w1, hw1⟩ : ∃ w1, w'.drewN nq = w1 := ⟨_, rfl⟩
    rw [hw1]
    go_big_quiet_o (first | (go_at_fn (ρ.f 137); refine Calls.quiet_of_same (hIB _)))
    go_wp2
    rw [Exit.noGoto_ret]
    simp only [Exit.inBlock, Exit.then, Exit.noGoto_ret]
    go_ret
    rw [← hw1, World.drewN_drewN]
    exact ⟨rfl, _, rfl⟩
  · have hn : ¬ ((rs.size : Int) - 1 < 2) := by omega
    clear g3
    go_step3
    go_wp2
    go_rounds 1
    rw [Exit.noGoto_ret]
    go_ret
    exact ⟨rfl, 0, rfl⟩
set_option maxHeartbeats 4000000 in
set_option maxRecDepth 1000000 in
theorem Any.IndexRune_err (L : Lays.n152 P ρ) (w : World) :
    Calls P (ρ.f 152) #[.string ⟨#[34, 92]⟩, .int .i32 65533] w fun e w' => e = .returned (.int .i64 (-1)) ∧ ∃ n, w' = w.iter ⟨#[34, 92]⟩ n := by
  have mixed := L.mixed
  have t3 := L.t3; have a3 := L.a3; have z3 := L.z3; have v3 := L.v3
  have t4 := L.t4; have a4 := L.a4; have z4 := L.z4; have v4 := L.v4
  have t5 := L.t5; have a5 := L.a5; have z5 := L.z5; have v5 := L.v5
  have t9 := L.t9; have a9 := L.a9; have z9 := L.z9; have v9 := L.v9
  have t21 := L.t21; have a21 := L.a21; have z21 := L.z21; have v21 := L.v21
  have hn0 := fun ty => run_next_ascii (P := P) w (⟨#[34, 92]⟩ : ByteArray) 0 ty (by decide) (by decide)
  have hn1 := fun ty => run_next_ascii (P := P) w (⟨#[34, 92]⟩ : ByteArray) 1 ty (by decide) (by decide)
  have hn2 := fun ty => run_next_end (P := P) w (⟨#[34, 92]⟩ : ByteArray) 2 ty (by decide)
  go_enter L.f152, Body.n152_ntmps ρ
  go_wp2
  go_rounds 3
  go_ret
  exact ⟨rfl, _, rfl⟩
set_option maxHeartbeats 4000000 in
set_option maxRecDepth 1000000 in
theorem Any.IndexRune_bad (L : Lays.n152 P ρ) (r : Int) (w : World) (h1 : 128 ≤ r) (hne : ¬ r = 65533) (hv : Utf8.valid r = false) :
    Calls P (ρ.f 152) #[.string ⟨#[34, 92]⟩, .int .i32 r] w fun e w' => e = .returned (.int .i64 (-1)) ∧ w' = w := by
  have hvr : Lib.validRune r = false := by
    have := validRune_eq r
    rw [hv] at this
    unfold Go.validRune at this
    unfold Lib.validRune
    exact this.symm
  have mixed := L.mixed
  have t3 := L.t3; have a3 := L.a3; have z3 := L.z3; have v3 := L.v3
  have t4 := L.t4; have a4 := L.a4; have z4 := L.z4; have v4 := L.v4
  have t5 := L.t5; have a5 := L.a5; have z5 := L.z5; have v5 := L.v5
  have t9 := L.t9; have a9 := L.a9; have z9 := L.z9; have v9 := L.v9
  have t21 := L.t21; have a21 := L.a21; have z21 := L.z21; have v21 := L.v21
  have e119 : ∀ args w, (callFunc (ρ.f 119) args).run P w = .ok (.enter (ρ.f 119) args) w := enters_of L.f119 (by kernel_rfl) rfl
  go_enter L.f152, Body.n152_ntmps ρ
  go_wp2_with (go_at_fn (ρ.f 119); refine (Any.utf8_ValidRune { L with } _ _).mono ?_; rintro e w' ⟨rfl, hw⟩; rw [hw, hvr])
  go_ret
  exact ⟨rfl, rfl⟩
theorem below_drewN_any (w : World) (n : Nat) : Below w.heap.size w (w.drewN n) := ⟨rfl, rfl, rfl, Nat.le_refl _, fun _ _ => rfl⟩
theorem Any.IndexRune_any (L : Lays.n152 P ρ) (r : Int) (w : World) (h0 : 0 ≤ r) (hr : r ≤ 2147483647) :
    Calls P (ρ.f 152) #[.string ⟨#[34, 92]⟩, .int .i32 r] w fun e w' => (∃ n : Int, e = .returned (.int .i64 n)) ∧ Below w.heap.size w w' := by
  by_cases h1 : r < 128
  · exact (Any.strings_IndexRune_ascii L _ r w h0 h1).mono fun e w' ⟨h, hw⟩ => ⟨⟨_, h⟩, hw ▸ Below.refl _ _⟩
  by_cases hne : r = 65533
  · subst hne
    exact (Any.IndexRune_err L w).mono fun e w' ⟨h, n, hw⟩ => ⟨⟨_, h⟩, hw ▸ (Below.refl _ _).alloc (Nat.le_refl _) _⟩
  cases hv : Utf8.valid r with
  | false => exact (Any.IndexRune_bad L r w (by omega) hne hv).mono fun e w' ⟨h, hw⟩ => ⟨⟨_, h⟩, hw ▸ Below.refl _ _⟩
  | true => exact (Any.IndexRune_high L r w (by omega) hne hv).mono fun e w' ⟨h, n, hw⟩ => ⟨⟨_, h⟩, hw ▸ below_drewN_any w n⟩
set_option maxHeartbeats 8000000 in
set_option maxRecDepth 1000000 in
theorem Any.IndexAny_short_any (L : Lays.n153 P ρ) (s : ByteArray) (w : World) (h8 : s.size ≤ 8) :
    Calls P (ρ.f 153) #[.string s, .string ⟨#[34, 92]⟩] w fun e w' => (∃ n : Int, e = .returned (.int .i64 n)) ∧ Below w.heap.size w w' := by
  have h8z : decide ((8 : Int) < (s.size : Int)) = false := decide_eq_false (by omega)
  have t3 := L.t3; have a3 := L.a3; have z3 := L.z3; have v3 := L.v3
  have t4 := L.t4; have a4 := L.a4; have z4 := L.z4; have v4 := L.v4
  have t5 := L.t5; have a5 := L.a5; have z5 := L.z5; have v5 := L.v5
  have t9 := L.t9; have a9 := L.a9; have z9 := L.z9; have v9 := L.v9
  have t21 := L.t21; have a21 := L.a21; have z21 := L.z21; have v21 := L.v21
  have e152 : ∀ args w, (callFunc (ρ.f 152) args).run P w = .ok (.enter (ρ.f 152) args) w := enters_of L.f152 (by kernel_rfl) rfl
  have e226 : ∀ args w, (callFunc (ρ.f 226) args).run P w = .ok (.enter (ρ.f 226) args) w := enters_of L.f226 (by kernel_rfl) rfl
  go_enter L.f153, Body.n153_ntmps ρ
  go_wp2_with (go_at_fn (ρ.f 226); refine (Any.strings_shouldUseASCIISet { L with } _ _).mono ?_; rintro e w' ⟨rfl, hw⟩; rw [hw, h8z])
  go_loopw [9, 10] (fun _ _ wr => ∃ pos : Nat, wr.heap[w.heap.size]? = some (.stringIter s pos) ∧ Below w.heap.size w wr) (fun _ _ wr => s.size - wr.iterPos w.heap.size)
  case atStart => exact ⟨0, World.iter_heap w s 0, (Below.refl _ _).alloc (Nat.le_refl _) _⟩
  case round =>
    obtain ⟨pos, hit, hbw⟩ := hrel
    have hsz : w.heap.size < wr.heap.size := (Array.getElem?_eq_some_iff.1 hit).1
    by_cases hp : pos < s.size
    · have hnx : ∀ ty, (Instr.next (.pointer (some ⟨w.heap.size, 0, none⟩)) true ty).run P wr = _ := fun ty => Lib.run_next_any_at wr w.heap.size s pos ty hit hp
      have hwd : 1 ≤ (Utf8.decode s pos).2 := by
        by_cases ha : (s[pos]'hp).toNat < 128
        · rw [decode_ascii s pos hp ha]; exact Nat.le_refl _
        · exact (decode_high s pos hp (by omega)).2
      have hd1 := decode_le s pos
      have hit2 := Lib.iterAt_heap wr w.heap.size s pos (pos + (Utf8.decode s pos).2) hit
      have hbw2 := Lib.below_iterAt hbw (k := w.heap.size) (by omega) s (pos + (Utf8.decode s pos).2)
      have hsz2 : w.heap.size < (wr.iterAt w.heap.size s (pos + (Utf8.decode s pos).2)).heap.size := by rw [Lib.iterAt_size]; omega
      go_wp2_with (go_at_fn (ρ.f 152); refine (Any.IndexRune_any { L with } _ _ (by omega) (by omega)).mono ?_; rintro e w1 ⟨⟨n, rfl⟩, hb1⟩)
      all_goals have hit3 : w1.heap[w.heap.size]? = some (.stringIter s (pos + (Utf8.decode s pos).2)) := (hb1.block _ hsz2).trans hit2
      all_goals have hbw3 := hbw2.trans (hb1.mono (Nat.le_of_lt hsz2))
      · go_ret
        exact ⟨⟨_, rfl⟩, hbw3⟩
      · refine ⟨⟨_, hit3, hbw3⟩, ?_⟩
        simp only [World.iterPos, hit3, hit]
        omega
    · have hnx : ∀ ty, (Instr.next (.pointer (some ⟨w.heap.size, 0, none⟩)) true ty).run P wr = _ := fun ty => Lib.run_next_end_at wr w.heap.size s pos ty hit hp
      go_wp2
      go_ret
      exact ⟨⟨_, rfl⟩, hbw⟩
set_option maxHeartbeats 1000000 in
theorem Any.ContainsAny_quotes (L : Lays.n150 P ρ) (h116 : (P.info? (ρ.t 116)).map (fun i => (i.zero, i.size)) = some (some (.agg (Array.replicate 256 (.bool false))), 256)) (s : ByteArray) (w : World) (hs : s.size < 4294967281) :
    Calls P (ρ.f 150) #[.string s, .string ⟨#[34, 92]⟩] w fun e w' => (∃ t : Bool, e = .returned (.bool t)) ∧ Below w.heap.size w w' := by
  have c : Calls P (ρ.f 153) #[.string s, .string ⟨#[34, 92]⟩] w fun e w' => (∃ n : Int, e = .returned (.int .i64 n)) ∧ Below w.heap.size w w' := by
    by_cases h8 : s.size ≤ 8
    · exact Any.IndexAny_short_any { L with } s w h8
    · refine (Any.strings_IndexAny_long { L with } (zero_of_info h116).1 (zero_of_info h116).2 s ⟨#[34, 92]⟩ w (by decide) (by omega) hs (by decide) (fun j b hb => ?_)).mono fun e w' ⟨h1, h2⟩ => ⟨⟨_, h1⟩, ?_⟩
      · match j, hb with
        | 0, hb => cases hb; decide
        | 1, hb => cases hb; decide
        | n + 2, hb => simp at hb
      · rw [h2]
        exact ((Below.refl _ _).alloc (Nat.le_refl _) _).alloc (by simp) _
  have t3 := L.t3; have a3 := L.a3; have z3 := L.z3; have v3 := L.v3
  have t4 := L.t4; have a4 := L.a4; have z4 := L.z4; have v4 := L.v4
  have t9 := L.t9; have a9 := L.a9; have z9 := L.z9; have v9 := L.v9
  have e153 : ∀ args w, (callFunc (ρ.f 153) args).run P w = .ok (.enter (ρ.f 153) args) w := enters_of L.f153 (by kernel_rfl) rfl
  go_enter L.f150, Body.n150_ntmps ρ
  go_wp2_with (go_at_fn (ρ.f 153); refine c.mono ?_; rintro e w' ⟨⟨n, rfl⟩, hw⟩)
  go_ret
  exact ⟨⟨_, rfl⟩, hw⟩
end Go.Proofs
end
section
set_option linter.unusedSimpArgs false
namespace Go.Proofs.Ytcajkjbempagaaa
open Go.Vc Go.Key
set_option maxRecDepth 100000
theorem hbCA : HasBody Try.prog 90 := hasBody_of Try.func90 (by kernel_rfl)
def outR (x : Nat) : Bool := decide (x < 32) || decide (126 < x)
theorem value1_c (x : Nat) (w : World) : FnC Try.prog 91 #[.int .i32 (x : Int)] w fun r w' => r = .bool (outR x) ∧ w' = w := by
  refine enter91 _ ?_
  unfold B91
  unfold outR
  by_cases h1 : x < 32
  · rw [decide_eq_true h1]
    repeat' (first | (simp (disch := omega) only [push_cast, seval]) | refine iX ?_ ?_ <;> intros | refine aI (by omega) ?_ | refine dq ?_)
    all_goals simp
  · rw [decide_eq_false h1]
    repeat' (first | (simp (disch := omega) only [push_cast, seval]) | refine iX ?_ ?_ <;> intros | refine aI (by omega) ?_ | refine dq ?_)
    first | exact ⟨congrArg Value.bool (by first | (rw [Bool.false_or]; exact decide_eq_decide.2 (by omega)) | exact decide_eq_decide.2 (by omega)), rfl⟩ | (exact congrArg Value.bool (by first | (rw [Bool.false_or]; exact decide_eq_decide.2 (by omega)) | exact decide_eq_decide.2 (by omega)))
def Asc (s : ByteArray) : Prop := ∀ i (h : i < s.size), s[i].toNat < 128
instance (s : ByteArray) : Decidable (Asc s) := inferInstanceAs (Decidable (∀ i (h : i < s.size), s[i].toNat < 128))
theorem idx_out {s : ByteArray} : (decide (0 ≤ Go.Lib.idxFunc outR true s) = false) ↔ ∀ i (h : i < s.size), 32 ≤ s[i].toNat ∧ s[i].toNat ≤ 126 := by
  have key : ∀ (f pos : Nat), s.size - pos ≤ f → (¬ 0 ≤ Go.Lib.idxFuncFrom outR true s f pos ↔ ∀ i (h : i < s.size), pos ≤ i → 32 ≤ s[i].toNat ∧ s[i].toNat ≤ 126) := by
    intro f
    induction f with
    | zero =>
      intro pos hp
      unfold Go.Lib.idxFuncFrom
      exact ⟨fun _ i hi h => by omega, fun _ => by omega⟩
    | succ f ih =>
      intro pos hp
      unfold Go.Lib.idxFuncFrom
      by_cases hlt : pos < s.size
      · rw [if_pos hlt]
        by_cases hb : s[pos].toNat < 128
        · rw [decode_ascii s pos hlt hb]
          dsimp only
          by_cases ho : outR s[pos].toNat = true
          · rw [if_pos ho]
            refine ⟨fun h => absurd (by omega) h, fun h => ?_⟩
            have := h pos hlt (Nat.le_refl _)
            simp [outR] at ho
            omega
          · rw [if_neg ho, ih (pos + 1) (by omega)]
            refine ⟨fun h i hi hpi => ?_, fun h i hi hpi => h i hi (by omega)⟩
            by_cases he : i = pos
            · subst he
              simp [outR] at ho
              omega
            · exact h i hi (by omega)
        · have hd := (decode_high s pos hlt (by omega)).1
          have ho : outR (Utf8.decode s pos).1 = true := by simp [outR]; omega
          rw [if_pos ho]
          refine ⟨fun h => absurd (by omega) h, fun h => ?_⟩
          have := h pos hlt (Nat.le_refl _)
          omega
      · rw [if_neg hlt]
        exact ⟨fun _ i hi h => by omega, fun _ => by omega⟩
  unfold Go.Lib.idxFunc
  rw [decide_eq_false_iff_not, key s.size 0 (by omega)]
  exact ⟨fun h i hi => h i hi (Nat.zero_le _), fun h i hi _ => h i hi⟩
abbrev quotes : ByteArray := ⟨#[34, 92]⟩
def CanyAt (s : ByteArray) : Prop := ∀ w, FnC Try.prog 90 #[.string s, .string quotes] w fun r w' => (∃ t, r = .bool t ∧ (Asc s → (t = true ↔ ∃ i, ∃ h : i < s.size, s[i].toNat = 34 ∨ s[i].toNat = 92))) ∧ Later w w'
theorem any_is (chars : List UInt8) : ∀ l : List UInt8, Go.Lib.containsAny l chars = true ↔ ∃ b ∈ l, chars.contains b = true := by
  intro l
  unfold Go.Lib.containsAny
  rw [decide_eq_true_eq]
  induction l with
  | nil => simp [Go.Lib.indexAny]
  | cons b l ih =>
    unfold Go.Lib.indexAny
    by_cases hb : chars.contains b = true
    · rw [if_pos hb]
      exact ⟨fun _ => ⟨b, by simp, hb⟩, fun _ => by omega⟩
    · have hb' : chars.contains b = false := by simpa using hb
      rw [if_neg hb]
      have hge := Go.Lib.indexAny_ge chars l
      by_cases he : (Go.Lib.indexAny l chars == -1) = true
      · rw [if_pos he]
        have he' : Go.Lib.indexAny l chars = -1 := by simpa using he
        rw [he'] at ih
        constructor
        · intro h; omega
        · rintro ⟨x, hx, hc⟩
          rcases List.mem_cons.1 hx with rfl | hx
          · rw [hb'] at hc; cases hc
          · exact ih.2 ⟨x, hx, hc⟩
      · rw [if_neg he]
        have he' : Go.Lib.indexAny l chars ≠ -1 := by simpa using he
        constructor
        · intro h
          obtain ⟨x, hx, hc⟩ := ih.1 (by omega)
          exact ⟨x, List.mem_cons_of_mem _ hx, hc⟩
        · rintro _; omega
theorem cany_asc (s : ByteArray) (ha : Asc s) (hs : s.size ≤ 1000) : CanyAt s := by
  intro w
  refine FnC.of_calls hbCA (Try.strings_ContainsAny_laid s quotes w (by omega) (by decide) (fun j b hb => ?_) (fun j b hb => ?_)) ?_
  · obtain ⟨hj, rfl⟩ := List.getElem?_eq_some_iff.1 hb
    exact ha j (by simpa using hj)
  · match j, hb with
    | 0, hb => cases hb; decide
    | 1, hb => cases hb; decide
    | n + 2, hb => simp at hb
  · rintro e w' ⟨rfl, hl⟩
    refine ⟨_, rfl, ⟨_, rfl, fun _ => ?_⟩, hl⟩
    rw [any_is]
    constructor
    · rintro ⟨b, hb, hc⟩
      obtain ⟨i, hi, rfl⟩ := List.getElem_of_mem hb
      refine ⟨i, by simpa using hi, ?_⟩
      simp at hc
      rcases hc with hc | hc
      · left; exact congrArg UInt8.toNat hc
      · right; exact congrArg UInt8.toNat hc
    · rintro ⟨i, hi, hc⟩
      refine ⟨s[i], ?_, ?_⟩
      · have : s[i] = s.data.toList[i]'(by simpa using hi) := rfl
        rw [this]
        exact List.getElem_mem _
      · simp
        rcases hc with hc | hc
        · left; exact UInt8.toNat_inj.1 hc
        · right; exact UInt8.toNat_inj.1 hc
theorem value_c (s : ByteArray) (w : World) (hC : s.size ≤ 24 → CanyAt s) : FnC Try.prog 81 #[.string s] w fun r w' => r = .bool (decide (VlOk s)) ∧ Later w w' := by
  refine enter81 _ ?_
  unfold B81
  by_cases h24 : s.size ≤ 24
  case neg =>
    have hno : decide (VlOk s) = false := decide_eq_false fun h => h24 h.2
    repeat' (first | (simp (disch := omega) only [push_cast, seval]) | refine iX ?_ ?_ <;> intros | refine aI (by omega) ?_ | refine dq ?_)
    first | exact ⟨by rw [hno], Later.refl _⟩ | exact Later.refl _
  repeat' (first | (simp (disch := omega) only [push_cast, seval]) | refine iX ?_ ?_ <;> intros | refine aI (by omega) ?_ | refine dq ?_)
  refine (hC h24 w).mono ?_
  rintro _ w1 ⟨⟨t, rfl, ht⟩, l1⟩
  have hidx : FnC Try.prog 70 #[.string s, .func (.func 91) #[] #[]] w1 fun r w' => r = .bool (decide (0 ≤ Go.Lib.idxFunc outR true s)) ∧ Later w1 w' := by
    refine FnC.of_calls hbCF (Try.strings_ContainsFunc_grows 91 #[] hb91 outR s w1 ?_) ?_
    · intro W x hx hW
      refine calls_of_fn hb91 (value1_c x W) ?_
      rintro v w' ⟨rfl, rfl⟩
      exact ⟨rfl, Later.refl _⟩
    · rintro e w' ⟨rfl, hl⟩
      exact ⟨_, rfl, rfl, hl⟩
  have asc_of : decide (0 ≤ Go.Lib.idxFunc outR true s) = false → Asc s := fun h i hi => by have := idx_out.1 h i hi; omega
  cases t with
  | true =>
    have hno : decide (VlOk s) = false := decide_eq_false fun h => by
      have ha : Asc s := fun i hi => by
        have := h.1 i hi
        simp [vlB] at this
        omega
      obtain ⟨i, hi, hc⟩ := (ht ha).1 rfl
      have := h.1 i hi
      simp [vlB] at this
      omega
    repeat' (first | (simp (disch := omega) only [push_cast, seval]) | refine iX ?_ ?_ <;> intros | refine aI (by omega) ?_ | refine dq ?_)
    first | exact ⟨by rw [hno], l1⟩ | exact l1
  | false =>
    repeat' (first | (simp (disch := omega) only [push_cast, seval]) | refine iX ?_ ?_ <;> intros | refine aI (by omega) ?_ | refine dq ?_)
    refine hidx.mono ?_
    rintro _ w2 ⟨rfl, l2⟩
    cases hi : decide (0 ≤ Go.Lib.idxFunc outR true s) with
    | true =>
      have hno : decide (VlOk s) = false := decide_eq_false fun h => by
        have : decide (0 ≤ Go.Lib.idxFunc outR true s) = false := idx_out.2 fun i hi => by
          have := h.1 i hi
          simp [vlB] at this
          omega
        rw [hi] at this; cases this
      repeat' (first | (simp (disch := omega) only [push_cast, seval]) | refine iX ?_ ?_ <;> intros | refine aI (by omega) ?_ | refine dq ?_)
      first | exact ⟨by rw [hno], (l1.trans l2)⟩ | exact (l1.trans l2)
    | false =>
      have hasc := asc_of hi
      have hyes : decide (VlOk s) = true := decide_eq_true ⟨fun i hii => by
        have h1 := idx_out.1 hi i hii
        have h2 : ¬ (s[i].toNat = 34 ∨ s[i].toNat = 92) := fun hc => by
          have := (ht hasc).2 ⟨i, hii, hc⟩
          cases this
        simp [vlB]
        omega, h24⟩
      repeat' (first | (simp (disch := omega) only [push_cast, seval]) | refine iX ?_ ?_ <;> intros | refine aI (by omega) ?_ | refine dq ?_)
      first | exact ⟨by rw [hyes], (l1.trans l2)⟩ | exact (l1.trans l2)
theorem cany_all (s : ByteArray) (hs : s.size ≤ 1000) : CanyAt s := by
  by_cases ha : Asc s
  · exact cany_asc s ha hs
  intro w
  refine FnC.of_calls hbCA (Go.Proofs.Any.ContainsAny_quotes Try.lays150 (by kernel_rfl) s w (by omega)) ?_
  rintro e w' ⟨⟨t, rfl⟩, hl⟩
  exact ⟨_, rfl, ⟨t, rfl, fun h => absurd h ha⟩, hl⟩
theorem tvalue_c (s : ByteArray) (w : World) : FnC Try.prog 81 #[.string s] w fun r w' => r = .bool (decide (VlOk s)) ∧ Later w w' := value_c s w fun h => cany_all s (by omega)
end Go.Proofs.Ytcajkjbempagaaa
end
section
set_option linter.unusedSimpArgs false
namespace Go.Proofs.Ytcajkjbempagaaa
open Go.Vc Go.Key
set_option maxRecDepth 100000
theorem box3_later {w w' : World} {k : Nat} {a b c : Value} {e : TypeId} (h : Blk w k #[a, b, c] e) (hl : Later w w') : w'.cell? ⟨k, 0, none⟩ = some a ∧ w'.cell? ⟨k, 1, none⟩ = some b ∧ w'.cell? ⟨k, 2, none⟩ = some c ∧ cellsAt w' ⟨k, 0, none⟩ 3 = some [a, b, c] := by
  have := h.chg (Chg.of_later (ks := []) hl) (by simp)
  exact ⟨this.cell 0, this.cell 1, this.cell 2, Blk.cellsAt (l := [a, b, c]) this⟩
theorem indexFS_c (v : Value) (l : List ByteArray) (f : FuncId) (p : ByteArray → Bool) (w : World) (h : StS w v l) (hf : ∀ x ∈ l, ∀ w', Later w w' → FnC Try.prog f #[.string x] w' fun v w'' => v = .bool (p x) ∧ Later w' w'') :
    FnC Try.prog 89 #[v, .func (.func f) #[] #[]] w fun r w' => (∃ k : Int, r = .int .i64 k ∧ ((0 ≤ k) ↔ l.any p = true)) ∧ Later w w' := by
  obtain ⟨o, c, rfl⟩ := Sl.slice h
  rw [List.length_map] at h ⊢
  have g1 := (Sl.len h).2.1
  have g2 := (Sl.len h).2.2.1
  have hmx : maxLen = 9223372036854775807 := rfl
  rw [hmx] at g2
  refine enter89 _ _ ?_
  unfold B89
  repeat' (first | (simp (disch := omega) only [push_cast, seval]) | refine iX ?_ ?_ <;> intros | refine aI (by omega) ?_ | refine dq ?_)
  refine vc_loop W89_0 (fun i : Nat => [(8, .int .i64 (i : Int))]) (fun i w' => i ≤ l.length ∧ Later w w' ∧ (l.take i).any p = false) (fun i => l.length - i) 0 (by decide) ?_ ?_ ?_
  · simp (disch := omega) only [push_cast, seval]
  · exact ⟨by omega, Later.refl _, rfl⟩
  rintro i uu w1 ⟨hi, hl1, hf0⟩
  by_cases hlt : i < l.length
  · cases o with
    | none => have := (Sl.len h).2.2.2 rfl; simp at this; rw [this.1] at hlt; simp at hlt
    | some a =>
    have c0 := StS.atS (Sl.later h hl1) hlt
    have hsn : (l.take (i + 1)).any p = p l[i] := by rw [take_snoc l i hlt, List.any_append, hf0]; simp
    have hyes : p l[i] = true → l.any p = true := fun hp => List.any_eq_true.2 ⟨_, List.getElem_mem _, hp⟩
    have hfx := hf l[i] (List.getElem_mem _) w1 hl1
    generalize l[i] = x at *
    repeat' (first | (simp (disch := omega) only [push_cast, seval, c0]) | refine iX ?_ ?_ <;> intros | refine aI (by omega) ?_ | refine dq ?_)
    refine hfx.mono ?_
    rintro _ w2 ⟨rfl, hl2⟩
    cases hp : p x with
    | true =>
      repeat' (first | (simp (disch := omega) only [push_cast, seval]) | refine iX ?_ ?_ <;> intros | refine aI (by omega) ?_ | refine dq ?_)
      exact ⟨⟨_, rfl, ⟨fun _ => hyes hp, fun _ => by omega⟩⟩, hl1.trans hl2⟩
    | false =>
      repeat' (first | (simp (disch := omega) only [push_cast, seval]) | refine iX ?_ ?_ <;> intros | refine aI (by omega) ?_ | refine dq ?_)
      exact ⟨rfl, i + 1, by simp (disch := omega) only [push_cast, seval], ⟨by omega, hl1.trans hl2, by rw [hsn, hp]⟩, by dsimp only; omega⟩
  · have e : i = l.length := by omega
    subst e
    rw [List.take_length] at hf0
    repeat' (first | (simp (disch := omega) only [push_cast, seval]) | refine iX ?_ ?_ <;> intros | refine aI (by omega) ?_ | refine dq ?_)
    exact ⟨⟨_, rfl, ⟨fun h => by omega, fun h => by rw [hf0] at h; cases h⟩⟩, hl1⟩
theorem containsFS_c (v : Value) (l : List ByteArray) (f : FuncId) (p : ByteArray → Bool) (w : World) (h : StS w v l) (hf : ∀ x ∈ l, ∀ w', Later w w' → FnC Try.prog f #[.string x] w' fun v w'' => v = .bool (p x) ∧ Later w' w'') :
    FnC Try.prog 79 #[v, .func (.func f) #[] #[]] w fun r w' => r = .bool (l.any p) ∧ Later w w' := by
  obtain ⟨o, c, rfl⟩ := Sl.slice h
  refine enter79 _ _ ?_
  unfold B79
  repeat' (first | (simp (disch := omega) only [push_cast, seval]) | refine iX ?_ ?_ <;> intros | refine aI (by omega) ?_ | refine dq ?_)
  refine (indexFS_c _ l f p w h hf).mono ?_
  rintro _ w1 ⟨⟨k, rfl, hk⟩, hl1⟩
  have e : decide (0 ≤ k) = l.any p := by rw [Bool.eq_iff_iff, decide_eq_true_eq]; exact hk
  repeat' (first | (simp (disch := omega) only [push_cast, seval, e]) | refine iX ?_ ?_ <;> intros | refine aI (by omega) ?_ | refine dq ?_)
  first | exact ⟨rfl, hl1⟩ | exact hl1
theorem indexFI_c (v : Value) (l : List Int) (f : FuncId) (p : Int → Bool) (w : World) (h : Sl w v (l.map i64v)) (hf : ∀ x ∈ l, ∀ w', Later w w' → FnC Try.prog f #[.int .i64 x] w' fun v w'' => v = .bool (p x) ∧ Later w' w'') :
    FnC Try.prog 92 #[v, .func (.func f) #[] #[]] w fun r w' => (∃ k : Int, r = .int .i64 k ∧ ((0 ≤ k) ↔ l.any p = true)) ∧ Later w w' := by
  obtain ⟨o, c, rfl, g1, g2, h, g3⟩ := Sl.openM h
  refine enter92 _ _ ?_
  unfold B92
  repeat' (first | (simp (disch := omega) only [push_cast, seval]) | refine iX ?_ ?_ <;> intros | refine aI (by omega) ?_ | refine dq ?_)
  refine vc_loop W92_0 (fun i : Nat => [(8, .int .i64 (i : Int))]) (fun i w' => i ≤ l.length ∧ Later w w' ∧ (l.take i).any p = false) (fun i => l.length - i) 0 (by decide) ?_ ?_ ?_
  · simp (disch := omega) only [push_cast, seval]
  · exact ⟨by omega, Later.refl _, rfl⟩
  rintro i uu w1 ⟨hi, hl1, hf0⟩
  by_cases hlt : i < l.length
  · obtain ⟨a, rfl⟩ := h.some hlt
    have c0 := (h.later hl1).atI hlt
    have hsn : (l.take (i + 1)).any p = p l[i] := by rw [take_snoc l i hlt, List.any_append, hf0]; simp
    have hyes : p l[i] = true → l.any p = true := fun hp => List.any_eq_true.2 ⟨_, List.getElem_mem _, hp⟩
    have hfx := hf l[i] (List.getElem_mem _) w1 hl1
    generalize l[i] = x at *
    repeat' (first | (simp (disch := omega) only [push_cast, seval, c0]) | refine iX ?_ ?_ <;> intros | refine aI (by omega) ?_ | refine dq ?_)
    refine hfx.mono ?_
    rintro _ w2 ⟨rfl, hl2⟩
    cases hp : p x with
    | true =>
      repeat' (first | (simp (disch := omega) only [push_cast, seval]) | refine iX ?_ ?_ <;> intros | refine aI (by omega) ?_ | refine dq ?_)
      exact ⟨⟨_, rfl, ⟨fun _ => hyes hp, fun _ => by omega⟩⟩, hl1.trans hl2⟩
    | false =>
      repeat' (first | (simp (disch := omega) only [push_cast, seval]) | refine iX ?_ ?_ <;> intros | refine aI (by omega) ?_ | refine dq ?_)
      exact ⟨rfl, i + 1, by simp (disch := omega) only [push_cast, seval], ⟨by omega, hl1.trans hl2, by rw [hsn, hp]⟩, by dsimp only; omega⟩
  · have e : i = l.length := by omega
    subst e
    rw [List.take_length] at hf0
    repeat' (first | (simp (disch := omega) only [push_cast, seval]) | refine iX ?_ ?_ <;> intros | refine aI (by omega) ?_ | refine dq ?_)
    exact ⟨⟨_, rfl, ⟨fun h => by omega, fun h => by rw [hf0] at h; cases h⟩⟩, hl1⟩
theorem containsFI_c (v : Value) (l : List Int) (f : FuncId) (p : Int → Bool) (w : World) (h : Sl w v (l.map i64v)) (hf : ∀ x ∈ l, ∀ w', Later w w' → FnC Try.prog f #[.int .i64 x] w' fun v w'' => v = .bool (p x) ∧ Later w' w'') :
    FnC Try.prog 82 #[v, .func (.func f) #[] #[]] w fun r w' => r = .bool (l.any p) ∧ Later w w' := by
  have h0 := h
  obtain ⟨o, c, rfl, g1, g2, h, g3⟩ := Sl.openM h0
  refine enter82 _ _ ?_
  unfold B82
  repeat' (first | (simp (disch := omega) only [push_cast, seval]) | refine iX ?_ ?_ <;> intros | refine aI (by omega) ?_ | refine dq ?_)
  refine (indexFI_c _ l f p w h hf).mono ?_
  rintro _ w1 ⟨⟨k, rfl, hk⟩, hl1⟩
  have e : decide (0 ≤ k) = l.any p := by rw [Bool.eq_iff_iff, decide_eq_true_eq]; exact hk
  repeat' (first | (simp (disch := omega) only [push_cast, seval, e]) | refine iX ?_ ?_ <;> intros | refine aI (by omega) ?_ | refine dq ?_)
  first | exact ⟨rfl, hl1⟩ | exact hl1
theorem check1_c (s : ByteArray) (w : World) : FnC Try.prog 80 #[.string s] w fun r w' => r = .bool (!decide (VlOk s)) ∧ Later w w' := by
  refine enter80 _ ?_
  unfold B80
  repeat' (first | (simp (disch := omega) only [push_cast, seval]) | refine iX ?_ ?_ <;> intros | refine aI (by omega) ?_ | refine dq ?_)
  refine (tvalue_c s w).mono ?_
  rintro _ w1 ⟨rfl, hl⟩
  repeat' (first | (simp (disch := omega) only [push_cast, seval]) | refine iX ?_ ?_ <;> intros | refine aI (by omega) ?_ | refine dq ?_)
  first | exact ⟨rfl, hl⟩ | exact hl
def fiB (n : Int) : Bool := decide (Fi n)
theorem check2_c (n : Int) (w : World) : FnC Try.prog 83 #[.int .i64 n] w fun r w' => r = .bool (!fiB n) ∧ Later w w' := by
  refine enter83 _ ?_
  unfold B83
  unfold fiB
  by_cases h1 : n < -4611686018427387904
  · have e : decide (Fi n) = false := decide_eq_false fun h => by have := h.1; omega
    rw [e]
    repeat' (first | (simp (disch := omega) only [push_cast, seval]) | refine iX ?_ ?_ <;> intros | refine aI (by omega) ?_ | refine dq ?_)
    first | exact ⟨rfl, Later.refl _⟩ | exact Later.refl _
  · by_cases h2 : 4611686018427387904 < n
    · have e : decide (Fi n) = false := decide_eq_false fun h => by have := h.2; omega
      rw [e]
      repeat' (first | (simp (disch := omega) only [push_cast, seval]) | refine iX ?_ ?_ <;> intros | refine aI (by omega) ?_ | refine dq ?_)
      first | exact ⟨(by simp [h2]), Later.refl _⟩ | exact Later.refl _
    · have e : decide (Fi n) = true := decide_eq_true ⟨by omega, by omega⟩
      rw [e]
      repeat' (first | (simp (disch := omega) only [push_cast, seval]) | refine iX ?_ ?_ <;> intros | refine aI (by omega) ?_ | refine dq ?_)
      first | exact ⟨(by simp [h2]), Later.refl _⟩ | exact Later.refl _
theorem any_not {α : Type} (l : List α) (P : α → Prop) [DecidablePred P] : (l.any fun x => !decide (P x)) = !decide (∀ x ∈ l, P x) := by
  by_cases h : ∀ x ∈ l, P x
  · rw [decide_eq_true h, List.any_eq_false.2]; rfl
    intro x hx; simp [h x hx]
  · rw [decide_eq_false h, List.any_eq_true.2]; rfl
    apply Classical.byContradiction
    intro hn
    exact h fun x hx => Classical.byContradiction fun hp => hn ⟨x, hx, by simp [hp]⟩
structure Ev where
  t : Int
  d : List ByteArray
  k : List Int
  dv : Value
  kv : Value
def evV (e : Ev) : Value := .agg #[.int .i64 e.t, e.dv, e.kv]
structure EvIs (w : World) (e : Ev) : Prop where
  dS : StS w e.dv e.d
  kS : Sl w e.kv (e.k.map i64v)
def evErr (nd nm : Nat) (e : Ev) : Int := if e.d.length ≠ nd ∨ e.k.length ≠ nm then 101 else if (¬ ∀ s ∈ e.d, VlOk s) ∨ (¬ ∀ n ∈ e.k, Fi n) then 102 else if e.t < 0 ∨ 1099511627776 < e.t then 181 else 0
theorem boxSE (w : World) (dv mv : Value) (y : Ev) : Later w ((w.alloc (.cells #[dv, mv] 24)).alloc (.cells #[.int .i64 y.t, y.dv, y.kv] 41)) ∧ ((w.alloc (.cells #[dv, mv] 24)).alloc (.cells #[.int .i64 y.t, y.dv, y.kv] 41)).heap.size = w.heap.size + 2 ∧
    ∀ w', Later ((w.alloc (.cells #[dv, mv] 24)).alloc (.cells #[.int .i64 y.t, y.dv, y.kv] 41)) w' →
      w'.cell? ⟨w.heap.size, 0, none⟩ = some dv ∧ w'.cell? ⟨w.heap.size, 1, none⟩ = some mv ∧ cellsAt w' ⟨w.heap.size, 0, none⟩ 2 = some [dv, mv] ∧
      w'.cell? ⟨w.heap.size + 1, 0, none⟩ = some (.int .i64 y.t) ∧ w'.cell? ⟨w.heap.size + 1, 1, none⟩ = some y.dv ∧ w'.cell? ⟨w.heap.size + 1, 2, none⟩ = some y.kv ∧ cellsAt w' ⟨w.heap.size + 1, 0, none⟩ 3 = some [.int .i64 y.t, y.dv, y.kv] := by
  obtain ⟨l1, s1, F⟩ := box2 w dv mv 24
  generalize w.alloc (.cells #[dv, mv] 24) = w1 at *
  have l2 := later_alloc w1 (.cells #[.int .i64 y.t, y.dv, y.kv] 41)
  have B2 := Blk.new w1 #[.int .i64 y.t, y.dv, y.kv] 41
  have s2 : (w1.alloc (.cells #[.int .i64 y.t, y.dv, y.kv] 41)).heap.size = w1.heap.size + 1 := World.size_alloc w1 _
  generalize w1.alloc (.cells #[.int .i64 y.t, y.dv, y.kv] 41) = w2 at *
  rw [s1] at B2
  refine ⟨l1.trans l2, by omega, fun w' hl => ?_⟩
  obtain ⟨f0, f1, f2⟩ := F w' (l2.trans hl)
  obtain ⟨b0, b1, b2, b3⟩ := box3_later B2 hl
  exact ⟨f0, f1, f2, b0, b1, b2, b3⟩
theorem check_c (dv mv : Value) (d m : List ByteArray) (y : Ev) (w : World) (h : ScIs w dv mv d m) (hy : EvIs w y) : FnC Try.prog 63 #[scV dv mv, evV y] w fun r w' => r = .int .i64 (evErr d.length m.length y) ∧ Later w w' := by
  unfold scV evV
  obtain ⟨od, cd, hdv⟩ := Sl.slice h.dS
  obtain ⟨om, cm, hmv⟩ := Sl.slice h.mS
  have hyd := hy.dS
  have hya := hy.kS
  obtain ⟨oy, cy, hydv⟩ := Sl.slice hy.dS
  obtain ⟨oa, ca, hyav⟩ := Sl.slice hy.kS
  rw [List.length_map] at hdv hmv hydv hyav
  refine enter63 _ _ ?_
  unfold B63
  obtain ⟨l2, s2, F⟩ := boxSE w dv mv y
  have s1 := World.size_alloc w (.cells #[dv, mv] 24)
  have eca : (Value.agg #[dv, mv]).cells = #[dv, mv] := rfl
  have ecb : (Value.agg #[.int .i64 y.t, y.dv, y.kv]).cells = #[.int .i64 y.t, y.dv, y.kv] := rfl
  repeat' (first | (simp (disch := omega) only [push_cast, seval, eca, ecb, s1, s2]) | refine iX ?_ ?_ <;> intros | refine aI (by omega) ?_ | fail)
  generalize ((w.alloc (.cells #[dv, mv] 24)).alloc (.cells #[.int .i64 y.t, y.dv, y.kv] 41)) = w2 at *
  have F' : ∀ w', Later w2 w' → w'.cell? ⟨w.heap.size, 0, none⟩ = some (.slice od d.length cd) ∧ w'.cell? ⟨w.heap.size, 1, none⟩ = some (.slice om m.length cm) ∧
      w'.cell? ⟨w.heap.size + 1, 0, none⟩ = some (.int .i64 y.t) ∧ w'.cell? ⟨w.heap.size + 1, 1, none⟩ = some (.slice oy y.d.length cy) ∧ w'.cell? ⟨w.heap.size + 1, 2, none⟩ = some (.slice oa y.k.length ca) := by
    intro w' hl
    obtain ⟨f0, f1, _, b0, b1, b2, _⟩ := F w' hl
    rw [hdv] at f0
    rw [hmv] at f1
    rw [hydv] at b1
    rw [hyav] at b2
    exact ⟨f0, f1, b0, b1, b2⟩
  rw [hydv] at hyd
  rw [hyav] at hya
  clear F hdv hmv hydv hyav eca ecb s1 s2
  obtain ⟨f0, f1, b0, b1, b2⟩ := F' w2 (Later.refl _)
  by_cases h1 : y.d.length = d.length
  case neg =>
    have e : evErr d.length m.length y = 101 := if_pos (.inl h1)
    repeat' (first | (simp (disch := omega) only [push_cast, seval, f0, f1, b0, b1, b2, addr_add_eq, Nat.zero_add]) | refine iX ?_ ?_ <;> intros | refine aI (by omega) ?_ | refine dq ?_)
    all_goals first | exact ⟨by rw [e], l2⟩ | exact l2
  by_cases h2 : y.k.length = m.length
  case neg =>
    have e : evErr d.length m.length y = 101 := if_pos (.inr h2)
    repeat' (first | (simp (disch := omega) only [push_cast, seval, f0, f1, b0, b1, b2, addr_add_eq, Nat.zero_add]) | refine iX ?_ ?_ <;> intros | refine aI (by omega) ?_ | refine dq ?_)
    all_goals first | exact ⟨by rw [e], l2⟩ | exact l2
  have e0 : evErr d.length m.length y = if (¬ ∀ s ∈ y.d, VlOk s) ∨ (¬ ∀ n ∈ y.k, Fi n) then 102 else if y.t < 0 ∨ 1099511627776 < y.t then 181 else 0 := if_neg (by omega)
  repeat' (first | (simp (disch := omega) only [push_cast, seval, f0, f1, b0, b1, b2, addr_add_eq, Nat.zero_add]) | refine iX ?_ ?_ <;> intros | refine aI (by omega) ?_ | refine dq ?_)
  refine (containsFS_c _ y.d _ (fun s => !decide (VlOk s)) w2 (Sl.later hyd l2) (fun s hs w' _ => check1_c s w')).mono ?_
  rintro _ w3 ⟨rfl, l3⟩
  obtain ⟨f0, f1, b0, b1, b2⟩ := F' w3 l3
  rw [any_not]
  by_cases hv : ∀ s ∈ y.d, VlOk s
  case neg =>
    have e : evErr d.length m.length y = 102 := e0.trans (if_pos (.inl hv))
    rw [decide_eq_false hv]
    repeat' (first | (simp (disch := omega) only [push_cast, seval]) | refine iX ?_ ?_ <;> intros | refine aI (by omega) ?_ | refine dq ?_)
    all_goals first | exact ⟨by rw [e], (l2.trans l3)⟩ | exact (l2.trans l3)
  rw [decide_eq_true hv]
  repeat' (first | (simp (disch := omega) only [push_cast, seval, b2, addr_add_eq, Nat.zero_add]) | refine iX ?_ ?_ <;> intros | refine aI (by omega) ?_ | refine dq ?_)
  refine (containsFI_c _ y.k _ (fun n => !fiB n) w3 (Sl.later hya (l2.trans l3)) (fun n hn w' _ => check2_c n w')).mono ?_
  rintro _ w4 ⟨rfl, l4⟩
  have l24 := (l2.trans l3).trans l4
  obtain ⟨f0, f1, b0, b1, b2⟩ := F' w4 (l3.trans l4)
  have ea : (y.k.any fun n => !fiB n) = !decide (∀ n ∈ y.k, Fi n) := any_not y.k Fi
  rw [ea]
  by_cases hr : ∀ n ∈ y.k, Fi n
  case neg =>
    have e : evErr d.length m.length y = 102 := e0.trans (if_pos (.inr hr))
    rw [decide_eq_false hr]
    repeat' (first | (simp (disch := omega) only [push_cast, seval]) | refine iX ?_ ?_ <;> intros | refine aI (by omega) ?_ | refine dq ?_)
    all_goals first | exact ⟨by rw [e], l24⟩ | exact l24
  rw [decide_eq_true hr]
  have e1 : evErr d.length m.length y = if y.t < 0 ∨ 1099511627776 < y.t then 181 else 0 := e0.trans (if_neg (fun h => h.elim (fun h => h hv) (fun h => h hr)))
  by_cases ht : y.t < 0 ∨ 1099511627776 < y.t
  · have e : evErr d.length m.length y = 181 := e1.trans (if_pos ht)
    repeat' (first | (simp (disch := omega) only [push_cast, seval, b0, addr_add_eq, Nat.zero_add]) | refine iX ?_ ?_ <;> intros | refine aI (by omega) ?_ | refine dq ?_)
    all_goals first | (exfalso; omega) | skip
    all_goals first | exact ⟨by rw [e], l24⟩ | exact l24
  · have e : evErr d.length m.length y = 0 := e1.trans (if_neg ht)
    repeat' (first | (simp (disch := omega) only [push_cast, seval, b0, addr_add_eq, Nat.zero_add]) | refine iX ?_ ?_ <;> intros | refine aI (by omega) ?_ | refine dq ?_)
    all_goals first | (exfalso; omega) | skip
    all_goals first | exact ⟨by rw [e], l24⟩ | exact l24
theorem dcheck_c (dv mv : Value) (d m : List ByteArray) (y : Ev) (w : World) (h : ScIs w dv mv d m) (hy : EvIs w y) (hz : StZ y.d) : FnC Try.prog 45 #[scV dv mv, evV y] w fun r w' => r = .int .i64 (evErr d.length m.length y) ∧ Later w w' := by
  unfold scV evV
  obtain ⟨od, cd, hdv⟩ := Sl.slice h.dS
  obtain ⟨om, cm, hmv⟩ := Sl.slice h.mS
  have hyd := hy.dS
  have hya := hy.kS
  obtain ⟨oy, cy, hydv⟩ := Sl.slice hy.dS
  obtain ⟨oa, ca, hyav, gk1, gk2, hyk, _⟩ := Sl.openM hy.kS
  have gd := (Sl.len (hydv ▸ hyd)).2
  have hmax : maxLen = 9223372036854775807 := rfl
  rw [List.length_map] at hdv hmv hydv gd
  rw [hmax] at gd
  refine enter45 _ _ ?_
  unfold B45
  obtain ⟨l2, s2, F⟩ := boxSE w dv mv y
  have s1 := World.size_alloc w (.cells #[dv, mv] 24)
  have eca : (Value.agg #[dv, mv]).cells = #[dv, mv] := rfl
  have ecb : (Value.agg #[.int .i64 y.t, y.dv, y.kv]).cells = #[.int .i64 y.t, y.dv, y.kv] := rfl
  repeat' (first | (simp (disch := omega) only [push_cast, seval, eca, ecb, s1, s2]) | refine iX ?_ ?_ <;> intros | refine aI (by omega) ?_ | fail)
  generalize ((w.alloc (.cells #[dv, mv] 24)).alloc (.cells #[.int .i64 y.t, y.dv, y.kv] 41)) = w2 at *
  have F' : ∀ w', Later w2 w' → w'.cell? ⟨w.heap.size, 0, none⟩ = some (.slice od d.length cd) ∧ w'.cell? ⟨w.heap.size, 1, none⟩ = some (.slice om m.length cm) ∧
      w'.cell? ⟨w.heap.size + 1, 0, none⟩ = some (.int .i64 y.t) ∧ w'.cell? ⟨w.heap.size + 1, 1, none⟩ = some (.slice oy y.d.length cy) ∧ w'.cell? ⟨w.heap.size + 1, 2, none⟩ = some (.slice oa y.k.length ca) := by
    intro w' hl
    obtain ⟨f0, f1, _, b0, b1, b2, _⟩ := F w' hl
    rw [hdv] at f0
    rw [hmv] at f1
    rw [hydv] at b1
    rw [hyav] at b2
    exact ⟨f0, f1, b0, b1, b2⟩
  rw [hydv] at hyd
  clear F hdv hmv hydv eca ecb s1 s2
  obtain ⟨f0, f1, b0, b1, b2⟩ := F' w2 (Later.refl _)
  by_cases h1 : y.d.length = d.length
  case neg =>
    have e : evErr d.length m.length y = 101 := if_pos (.inl h1)
    repeat' (first | (simp (disch := omega) only [push_cast, seval, f0, f1, b0, b1, b2, addr_add_eq, Nat.zero_add]) | refine iX ?_ ?_ <;> intros | refine aI (by omega) ?_ | refine dq ?_)
    all_goals first | exact ⟨by rw [e], l2⟩ | exact l2
  by_cases h2 : y.k.length = m.length
  case neg =>
    have e : evErr d.length m.length y = 101 := if_pos (.inr h2)
    repeat' (first | (simp (disch := omega) only [push_cast, seval, f0, f1, b0, b1, b2, addr_add_eq, Nat.zero_add]) | refine iX ?_ ?_ <;> intros | refine aI (by omega) ?_ | refine dq ?_)
    all_goals first | exact ⟨by rw [e], l2⟩ | exact l2
  have e0 : evErr d.length m.length y = if (¬ ∀ s ∈ y.d, VlOk s) ∨ (¬ ∀ n ∈ y.k, Fi n) then 102 else if y.t < 0 ∨ 1099511627776 < y.t then 181 else 0 := if_neg (by omega)
  repeat' (first | (simp (disch := omega) only [push_cast, seval, f0, f1, b0, b1, b2, addr_add_eq, Nat.zero_add]) | refine iX ?_ ?_ <;> intros | refine aI (by omega) ?_ | refine dq ?_)
  refine vc_loop W45_0 (fun i : Nat => [(4, .int .i64 0), (5, .int .i64 (i : Int))])
    (fun i w' => i ≤ y.d.length ∧ Later w2 w' ∧ (∀ j (h : j < y.d.length), j < i → VlOk y.d[j])) (fun i => y.d.length - i) 0 (by decide) ?_ ?_ ?_
  · simp (disch := omega) only [push_cast, seval]
  · exact ⟨by omega, Later.refl _, fun j _ hj => absurd hj (Nat.not_lt_zero _)⟩
  rintro i uu w3 ⟨hi, l3, hA⟩
  have l03 := l2.trans l3
  obtain ⟨f0, f1, b0, b1, b2⟩ := F' w3 l3
  by_cases hlt : i < y.d.length
  · cases oy with
    | none => have := (Sl.len hyd).2.2.2 rfl; simp at this; rw [this.1] at hlt; simp at hlt
    | some ad =>
    have hc := StS.atS (Sl.later hyd l03) hlt
    repeat' (first | (simp (disch := omega) only [push_cast, seval, b1, hc, addr_add_eq, Nat.zero_add]) | refine iX ?_ ?_ <;> intros | refine aI (by omega) ?_ | refine dq ?_)
    refine (dvalue_c y.d[i] w3 (hz _ (List.getElem_mem _))).mono ?_
    rintro _ w0 ⟨rfl, h0⟩
    obtain rfl := h0.symm
    by_cases hv : VlOk y.d[i]
    · rw [decide_eq_true hv]
      repeat' (first | (simp (disch := omega) only [push_cast, seval]) | refine iX ?_ ?_ <;> intros | refine aI (by omega) ?_ | refine dq ?_)
      refine ⟨rfl, i + 1, by simp (disch := omega) only [push_cast, seval], ⟨by omega, l3, fun j hj hji => ?_⟩, by dsimp only; omega⟩
      by_cases h : j < i
      · exact hA j hj h
      · have : j = i := by omega
        subst this
        exact hv
    · have e : evErr d.length m.length y = 102 := e0.trans (if_pos (.inl fun h => hv (h _ (List.getElem_mem _))))
      rw [decide_eq_false hv]
      repeat' (first | (simp (disch := omega) only [push_cast, seval]) | refine iX ?_ ?_ <;> intros | refine aI (by omega) ?_ | refine dq ?_)
      first | exact ⟨by rw [e], l03⟩ | exact l03
  have hvs : ∀ s ∈ y.d, VlOk s := fun s hs => by
    obtain ⟨j, hj, rfl⟩ := List.getElem_of_mem hs
    exact hA j hj (by omega)
  repeat' (first | (simp (disch := omega) only [push_cast, seval, b1, addr_add_eq, Nat.zero_add]) | refine iX ?_ ?_ <;> intros | refine aI (by omega) ?_ | refine dq ?_)
  refine vc_loop W45_1 (fun i : Nat => [(4, .int .i64 0), (7, .int .i64 (i : Int))])
    (fun i w' => i ≤ y.k.length ∧ Later w2 w' ∧ (∀ j (h : j < y.k.length), j < i → Fi y.k[j])) (fun i => y.k.length - i) 0 (by decide) ?_ ?_ ?_
  · simp (disch := omega) only [push_cast, seval]
  · exact ⟨by omega, l3, fun j _ hj => absurd hj (Nat.not_lt_zero _)⟩
  rintro i uu2 w4 ⟨hi, l4, hB⟩
  have l04 := l2.trans l4
  obtain ⟨f0, f1, b0, b1, b2⟩ := F' w4 l4
  by_cases hlt : i < y.k.length
  · obtain ⟨ad, rfl⟩ := hyk.some hlt
    have hc := (hyk.later l04).atI hlt
    by_cases hv : Fi y.k[i]
    · have hvv := hv
      obtain ⟨v1, v2⟩ := hvv
      repeat' (first | (simp (disch := omega) only [push_cast, seval, b2, hc, addr_add_eq, Nat.zero_add]) | refine iX ?_ ?_ <;> intros | refine aI (by omega) ?_ | refine dq ?_)
      refine ⟨rfl, i + 1, by simp (disch := omega) only [push_cast, seval], ⟨by omega, l4, fun j hj hji => ?_⟩, by dsimp only; omega⟩
      by_cases h : j < i
      · exact hB j hj h
      · have : j = i := by omega
        subst this
        exact hv
    · have e : evErr d.length m.length y = 102 := e0.trans (if_pos (.inr fun h => hv (h _ (List.getElem_mem _))))
      have hv' : y.k[i] < -4611686018427387904 ∨ 4611686018427387904 < y.k[i] := by
        by_cases h : y.k[i] < -4611686018427387904
        · exact .inl h
        · right
          apply Classical.byContradiction
          intro h'
          exact hv ⟨by omega, by omega⟩
      repeat' (first | (simp (disch := omega) only [push_cast, seval, b2, hc, addr_add_eq, Nat.zero_add]) | refine iX ?_ ?_ <;> intros | refine aI (by omega) ?_ | refine dq ?_)
      all_goals first | (exfalso; omega) | skip
      all_goals first | exact ⟨by rw [e], l04⟩ | exact l04
  have has : ∀ a ∈ y.k, Fi a := fun s hs => by
    obtain ⟨j, hj, rfl⟩ := List.getElem_of_mem hs
    exact hB j hj (by omega)
  have e1 : evErr d.length m.length y = if y.t < 0 ∨ 1099511627776 < y.t then 181 else 0 := e0.trans (if_neg (fun h => h.elim (fun h => h hvs) (fun h => h has)))
  by_cases ht : y.t < 0 ∨ 1099511627776 < y.t
  · have e : evErr d.length m.length y = 181 := e1.trans (if_pos ht)
    repeat' (first | (simp (disch := omega) only [push_cast, seval, b0, b2, addr_add_eq, Nat.zero_add]) | refine iX ?_ ?_ <;> intros | refine aI (by omega) ?_ | refine dq ?_)
    all_goals first | (exfalso; omega) | skip
    all_goals first | exact ⟨by rw [e], l04⟩ | exact l04
  · have e : evErr d.length m.length y = 0 := e1.trans (if_neg ht)
    repeat' (first | (simp (disch := omega) only [push_cast, seval, b0, b2, addr_add_eq, Nat.zero_add]) | refine iX ?_ ?_ <;> intros | refine aI (by omega) ?_ | refine dq ?_)
    all_goals first | (exfalso; omega) | skip
    all_goals first | exact ⟨by rw [e], l04⟩ | exact l04
end Go.Proofs.Ytcajkjbempagaaa
end
section
set_option linter.unusedSimpArgs false
namespace Go.Proofs.Ytcajkjbempagaaa
open Go.Vc Go.Zig Go.Key
set_option maxRecDepth 100000
structure Ej where
  e : En
  dv : Value
  kv : Value
def ejC (x : Ej) : List Value := [.bool x.e.tick, .int .i64 x.e.now, .int .i64 x.e.t, x.dv, x.kv]
structure EjIs (w : World) (x : Ej) : Prop where
  dS : StS w x.dv x.e.d
  kS : Sl w x.kv (x.e.k.map i64v)
theorem EjIs.later {w w' : World} {x : Ej} (h : EjIs w x) (hl : Later w w') : EjIs w' x := ⟨Sl.later h.dS hl, Sl.later h.kS hl⟩
def Ej.ev (x : Ej) : Ev := ⟨x.e.t, x.e.d, x.e.k, x.dv, x.kv⟩
theorem evErr_ok (nd nm : Nat) (x : Ej) : decide (evErr nd nm x.ev = 0) = evOk nd nm x.e.t x.e.d x.e.k := by
  rw [Bool.eq_iff_iff, decide_eq_true_iff, evOk_iff]
  unfold evErr Ej.ev
  dsimp only
  constructor
  · intro h
    split at h
    · cases h
    split at h
    · cases h
    split at h
    · cases h
    rename_i h1 h2 h3
    refine ⟨by omega, by omega, Classical.byContradiction fun g => h2 (.inl g), Classical.byContradiction fun g => h2 (.inr g), by omega, by omega⟩
  · rintro ⟨h1, h2, h3, h4, h5, h6⟩
    rw [if_neg (by omega), if_neg (by simp only [not_or, Classical.not_not]; exact ⟨h3, h4⟩), if_neg (by omega)]
theorem ejAt {w : World} {k : Nat} {x : Ej} (B : Blk w k (ejC x).toArray 43) : ∀ w', Later w w' →
    w'.cell? ⟨k, 0, none⟩ = some (.bool x.e.tick) ∧ w'.cell? ⟨k, 1, none⟩ = some (.int .i64 x.e.now) ∧ w'.cell? ⟨k, 2, none⟩ = some (.int .i64 x.e.t) ∧ w'.cell? ⟨k, 3, none⟩ = some x.dv ∧ w'.cell? ⟨k, 4, none⟩ = some x.kv ∧
    cellsAt w' ⟨k, 2, none⟩ 3 = some [.int .i64 x.e.t, x.dv, x.kv] ∧ cellsAt w' ⟨k, 0, none⟩ 5 = some (ejC x) := fun w' hl => by
  have B' := B.chg (Chg.of_later (ks := []) hl) (by simp)
  refine ⟨B'.cell 0, B'.cell 1, B'.cell 2, B'.cell 3, B'.cell 4, ?_, Blk.cellsAt (l := ejC x) B'⟩
  refine cellsAt_of 3 _ _ rfl fun i y hy => ?_
  rw [addr_add_eq, B'.cell]
  have hi := (List.getElem?_eq_some_iff.1 hy).1
  have hi : i < 3 := hi
  match i, hi with
  | 0, _ => exact hy
  | 1, _ => exact hy
  | 2, _ => exact hy
theorem boxSJ (w : World) (dv mv : Value) (x : Ej) : Later w ((w.alloc (.cells #[dv, mv] 24)).alloc (.cells (ejC x).toArray 43)) ∧ (w.alloc (.cells #[dv, mv] 24)).heap.size = w.heap.size + 1 ∧ ((w.alloc (.cells #[dv, mv] 24)).alloc (.cells (ejC x).toArray 43)).heap.size = w.heap.size + 2 ∧
    (∀ w', Later ((w.alloc (.cells #[dv, mv] 24)).alloc (.cells (ejC x).toArray 43)) w' → w'.cell? ⟨w.heap.size, 0, none⟩ = some dv ∧ w'.cell? ⟨w.heap.size, 1, none⟩ = some mv ∧ cellsAt w' ⟨w.heap.size, 0, none⟩ 2 = some [dv, mv]) ∧
    Blk ((w.alloc (.cells #[dv, mv] 24)).alloc (.cells (ejC x).toArray 43)) (w.heap.size + 1) (ejC x).toArray 43 := by
  obtain ⟨l1, s1, F⟩ := box2 w dv mv 24
  generalize w.alloc (.cells #[dv, mv] 24) = w1 at *
  have l2 := later_alloc w1 (.cells (ejC x).toArray 43)
  have B2 := Blk.new w1 (ejC x).toArray 43
  have s2 : (w1.alloc (.cells (ejC x).toArray 43)).heap.size = w1.heap.size + 1 := World.size_alloc w1 _
  rw [s1] at B2
  exact ⟨l1.trans l2, s1, by omega, fun w' hl => F w' (l2.trans hl), B2⟩
set_option maxHeartbeats 1000000 in
theorem right_c (dv mv : Value) (d m : List ByteArray) (x : Ej) (w : World) (h : ScIs w dv mv d m) (hx : EjIs w x) (h1 : x.e.d.length ≤ 1000000) (h2 : x.e.k.length ≤ 1000000) : FnC Try.prog 34 #[scV dv mv, .agg (ejC x).toArray] w fun r w' => r = .bool (rgE d.length m.length x.e) ∧ Later w w' := by
  unfold scV
  refine enter34 _ _ ?_
  unfold B34
  obtain ⟨l2, s1, s2, F, B⟩ := boxSJ w dv mv x
  have eca : (Value.agg #[dv, mv]).cells = #[dv, mv] := rfl
  have ecb : (Value.agg (ejC x).toArray).cells = (ejC x).toArray := rfl
  obtain ⟨od, cd, hdv⟩ := Sl.slice hx.dS
  obtain ⟨ok, ck, hkv⟩ := Sl.slice hx.kS
  rw [List.length_map] at hdv hkv
  repeat' (first | (simp (disch := omega) only [push_cast, seval, eca, ecb, s1, s2]) | refine iX ?_ ?_ <;> intros | refine aI (by omega) ?_ | fail)
  generalize ((w.alloc (.cells #[dv, mv] 24)).alloc (.cells (ejC x).toArray 43)) = w2 at *
  obtain ⟨f0, f1, f2⟩ := F w2 (Later.refl _)
  obtain ⟨g0, g1, g2, g3, g4, g5, g6⟩ := ejAt B w2 (Later.refl _)
  have g3' := g3
  have g4' := g4
  rw [hdv] at g3'
  rw [hkv] at g4'
  unfold rgE
  cases ht : x.e.tick with
  | true =>
    rw [if_pos rfl]
    rw [ht] at g0
    have ez : decide ((x.e.d.length : Int) + (x.e.k.length : Int) = 0) = decide (x.e.d.length + x.e.k.length = 0) := decide_eq_decide.2 (by omega)
    rw [← ez]
    generalize e1 : decide (0 ≤ x.e.now) = b1
    generalize e2 : decide (x.e.now ≤ 1099511627776) = b2
    generalize e3 : decide (x.e.t = 0) = b3
    generalize e4 : decide ((x.e.d.length : Int) + (x.e.k.length : Int) = 0) = b4
    clear ez
    cases b1 <;> cases b2 <;> cases b3 <;> cases b4
    all_goals
      repeat' (first | (simp (disch := omega) only [push_cast, seval, g0, g1, g2, g3', g4', e1, e2, e3, e4, addr_add_eq, Nat.zero_add]) | refine iX ?_ ?_ <;> intros | refine aI (by omega) ?_ | refine dq ?_)
      first | exact ⟨rfl, l2⟩ | exact l2
  | false =>
    rw [if_neg (by simp)]
    rw [ht] at g0
    generalize e1 : decide (x.e.now = 0) = b1
    cases b1 with
    | false =>
      repeat' (first | (simp (disch := omega) only [push_cast, seval, g0, g1, e1, addr_add_eq, Nat.zero_add]) | refine iX ?_ ?_ <;> intros | refine aI (by omega) ?_ | refine dq ?_)
      first | exact ⟨rfl, l2⟩ | exact l2
    | true =>
      repeat' (first | (simp (disch := omega) only [push_cast, seval, g0, g1, f2, g5, e1, addr_add_eq, Nat.zero_add]) | refine iX ?_ ?_ <;> intros | refine aI (by omega) ?_ | refine dq ?_)
      refine (check_c dv mv d m x.ev w2 (h.later l2) ⟨Sl.later hx.dS l2, Sl.later hx.kS l2⟩).mono ?_
      rintro _ w3 ⟨rfl, l3⟩
      have e5 := evErr_ok d.length m.length x
      repeat' (first | (simp (disch := omega) only [push_cast, seval, e5]) | refine iX ?_ ?_ <;> intros | refine aI (by omega) ?_ | refine dq ?_)
      first | exact ⟨rfl, (l2.trans l3)⟩ | exact (l2.trans l3)
set_option maxHeartbeats 1000000 in
theorem dRight_c (dv mv : Value) (d m : List ByteArray) (x : Ej) (w : World) (h : ScIs w dv mv d m) (hx : EjIs w x) (hz : StZ x.e.d) : FnC Try.prog 19 #[scV dv mv, .agg (ejC x).toArray] w fun r w' => r = .bool (rgE d.length m.length x.e) ∧ Later w w' := by
  unfold scV
  refine enter19 _ _ ?_
  unfold B19
  obtain ⟨l2, s1, s2, F, B⟩ := boxSJ w dv mv x
  have eca : (Value.agg #[dv, mv]).cells = #[dv, mv] := rfl
  have ecb : (Value.agg (ejC x).toArray).cells = (ejC x).toArray := rfl
  obtain ⟨od, cd, hdv⟩ := Sl.slice hx.dS
  obtain ⟨ok, ck, hkv⟩ := Sl.slice hx.kS
  rw [List.length_map] at hdv hkv
  repeat' (first | (simp (disch := omega) only [push_cast, seval, eca, ecb, s1, s2]) | refine iX ?_ ?_ <;> intros | refine aI (by omega) ?_ | fail)
  generalize ((w.alloc (.cells #[dv, mv] 24)).alloc (.cells (ejC x).toArray 43)) = w2 at *
  obtain ⟨f0, f1, f2⟩ := F w2 (Later.refl _)
  obtain ⟨g0, g1, g2, g3, g4, g5, g6⟩ := ejAt B w2 (Later.refl _)
  have g3' := g3
  have g4' := g4
  rw [hdv] at g3'
  rw [hkv] at g4'
  unfold rgE
  cases ht : x.e.tick with
  | true =>
    rw [if_pos rfl]
    rw [ht] at g0
    have ez : decide (x.e.d.length + x.e.k.length = 0) = (decide ((x.e.d.length : Int) = 0) && decide ((x.e.k.length : Int) = 0)) := by rw [Bool.eq_iff_iff]; simp only [Bool.and_eq_true, decide_eq_true_eq]; omega
    rw [ez]
    generalize e1 : decide (0 ≤ x.e.now) = b1
    generalize e2 : decide (x.e.now ≤ 1099511627776) = b2
    generalize e3 : decide (x.e.t = 0) = b3
    generalize e4 : decide ((x.e.d.length : Int) = 0) = b4
    generalize e5 : decide ((x.e.k.length : Int) = 0) = b5
    clear ez
    cases b1 <;> cases b2 <;> cases b3 <;> cases b4 <;> cases b5
    all_goals
      repeat' (first | (simp (disch := omega) only [push_cast, seval, g0, g1, g2, g3', g4', e1, e2, e3, e4, e5, addr_add_eq, Nat.zero_add]) | refine iX ?_ ?_ <;> intros | refine aI (by omega) ?_ | refine dq ?_)
      first | exact ⟨rfl, l2⟩ | exact l2
  | false =>
    rw [if_neg (by simp)]
    rw [ht] at g0
    generalize e1 : decide (x.e.now = 0) = b1
    cases b1 with
    | false =>
      repeat' (first | (simp (disch := omega) only [push_cast, seval, g0, g1, e1, addr_add_eq, Nat.zero_add]) | refine iX ?_ ?_ <;> intros | refine aI (by omega) ?_ | refine dq ?_)
      first | exact ⟨rfl, l2⟩ | exact l2
    | true =>
      repeat' (first | (simp (disch := omega) only [push_cast, seval, g0, g1, f2, g5, e1, addr_add_eq, Nat.zero_add]) | refine iX ?_ ?_ <;> intros | refine aI (by omega) ?_ | refine dq ?_)
      refine (dcheck_c dv mv d m x.ev w2 (h.later l2) ⟨Sl.later hx.dS l2, Sl.later hx.kS l2⟩ hz).mono ?_
      rintro _ w3 ⟨rfl, l3⟩
      have e5 := evErr_ok d.length m.length x
      repeat' (first | (simp (disch := omega) only [push_cast, seval, e5]) | refine iX ?_ ?_ <;> intros | refine aI (by omega) ?_ | refine dq ?_)
      first | exact ⟨rfl, (l2.trans l3)⟩ | exact (l2.trans l3)
end Go.Proofs.Ytcajkjbempagaaa
end
section
set_option linter.unusedSimpArgs false
namespace Go.Proofs.Ytcajkjbempagaaa
open Go.Vc Go.Zig Go.Key
set_option maxRecDepth 100000
def EncR (w : World) (B : Nat) (r : Value) (nd nm : Nat) (e : En) : Prop := (rgE nd nm e = false ∧ r = .tuple #[.slice none 0 0, .int .i64 191]) ∨ (rgE nd nm e = true ∧ ∃ v, r = .tuple #[v, .int .i64 0] ∧ OwnB w B 5 v (encE e))
theorem stb_own8 (w : World) (B : Nat) (l : List UInt8) : Stb w (fun v w' => OwnB w' B 5 v l) := fun _ _ _ _ hl h => OwnB.later h hl
theorem zInt8_c (b : Value) (bs : List UInt8) (n : Int) (w : World) (h : I64 n) (hb : Sl w b (bs.map u8v)) (hl : bs.length ≤ 140737488355000) :
    FnC Try.prog 35 #[b, .int .i64 n] w fun v w' => OwnB w' w.heap.size 5 v (bs ++ zi n) ∧ Later w w' :=
  (zInt_c b bs n w h hb hl).mono fun _ _ h => ⟨own8_of h.1, h.2⟩
theorem tx_len {d : List ByteArray} (h : ∀ s ∈ d, VlOk s) : (d.flatMap txE).length ≤ 34 * d.length := len_flat txE 34 d fun x hx => by
  have g := (h x hx).2
  have := zi_len (n := (x.size : Int)) (by unfold I64; omega)
  have hls : x.data.toList.length = x.size := rfl
  unfold txE
  rw [List.length_append]
  omega
theorem flat_take {α : Type} (f : α → List UInt8) (l : List α) (i : Nat) (h : i < l.length) : (l.take (i + 1)).flatMap f = (l.take i).flatMap f ++ f l[i] := by
  rw [List.take_add_one, List.getElem?_eq_getElem h, List.flatMap_append]; simp
theorem ki_len {k : List Int} (h : ∀ n ∈ k, Fi n) : (k.flatMap zi).length ≤ 10 * k.length := len_flat zi 10 k fun x hx => (zi_len (n := x) (by have := h x hx; unfold I64; omega)).1
set_option maxHeartbeats 2000000 in
theorem encode_c (dv mv : Value) (d m : List ByteArray) (x : Ej) (w : World) (h : ScIs w dv mv d m) (hx : EjIs w x) (h1 : x.e.d.length ≤ 1000000) (h2 : x.e.k.length ≤ 1000000) : FnC Try.prog 14 #[scV dv mv, .agg (ejC x).toArray] w fun r w' => EncR w' w.heap.size r d.length m.length x.e ∧ Later w w' := by
  unfold scV
  refine enter14 _ _ ?_
  unfold B14
  obtain ⟨l2, s1, s2, F, B⟩ := boxSJ w dv mv x
  have eca : (Value.agg #[dv, mv]).cells = #[dv, mv] := rfl
  have ecb : (Value.agg (ejC x).toArray).cells = (ejC x).toArray := rfl
  repeat' (first | (simp (disch := omega) only [push_cast, seval, eca, ecb, s1, s2]) | refine iX ?_ ?_ <;> intros | refine aI (by omega) ?_ | fail)
  generalize ((w.alloc (.cells #[dv, mv] 24)).alloc (.cells (ejC x).toArray 43)) = w2 at *
  obtain ⟨f0, f1, f2⟩ := F w2 (Later.refl _)
  obtain ⟨g0, g1, g2, g3, g4, g5, g6⟩ := ejAt B w2 (Later.refl _)
  repeat' (first | (simp (disch := omega) only [push_cast, seval, f2, g6]) | refine iX ?_ ?_ <;> intros | refine aI (by omega) ?_ | refine dq ?_)
  refine (right_c dv mv d m x w2 (h.later l2) (hx.later l2) h1 h2).mono ?_
  rintro _ w3 ⟨rfl, l3⟩
  have l03 := l2.trans l3
  unfold EncR
  cases hr : rgE d.length m.length x.e with
  | false =>
    repeat' (first | (simp (disch := omega) only [push_cast, seval]) | refine iX ?_ ?_ <;> intros | refine aI (by omega) ?_ | refine dq ?_)
    first | exact ⟨(by simp), l03⟩ | exact l03
  | true =>
  have hr' := hr
  unfold rgE at hr'
  obtain ⟨g0, g1, g2, g3, g4, g5, g6⟩ := ejAt B w3 l3
  have hB3 := l03.size
  cases ht : x.e.tick with
  | true =>
    rw [ht] at g0 hr'
    rw [if_pos rfl] at hr'
    simp only [Bool.and_eq_true, decide_eq_true_eq] at hr'
    have hn : I64 x.e.now := by unfold I64; omega
    have h1z : I64 1 := by unfold I64; omega
    have z1 := zi_len h1z
    repeat' (first | (simp (disch := omega) only [push_cast, seval, g0, addr_add_eq, Nat.zero_add]) | refine iX ?_ ?_ <;> intros | refine aI (by omega) ?_ | fail)
    refine drawn_k 4 ?_
    repeat' (first | (simp (disch := omega) only [push_cast, seval, g0, g1, addr_add_eq, Nat.zero_add]) | refine iX ?_ ?_ <;> intros | refine aI (by omega) ?_ | fail)
    refine NFn.of hb35 (fun v w' => OwnB w' w3.heap.size 5 v (zi 1)) (stb_own8 _ _ _) (fun w' hl => ?_) ?_
    · refine (zInt8_c _ [] 1 w' h1z (Sl.nil _) (by simp)).mono fun v w'' hv => ⟨OwnB.base (by simpa using hv.1) hl.size, hv.2⟩
    repeat' (first | (simp (disch := omega) only [push_cast, seval, g0, g1, addr_add_eq, Nat.zero_add]) | refine iX ?_ ?_ <;> intros | refine aI (by omega) ?_ | fail)
    refine nR_fnV hb35 (fun v w' => OwnB w' w3.heap.size 5 v (zi 1 ++ zi x.e.now)) (stb_own8 _ _ _) (fun σ' w' hl hp => ?_) ?_
    · obtain ⟨hp19, hp21, _⟩ := hp
      have h19 : OwnB w' w3.heap.size 5 (σ' 19) (zi 1) := hp19
      have h21 : σ' 21 = .int .i64 x.e.now := hp21
      have ea : Array.map (ev σ') #[Operand.tmp 19, Operand.tmp 21] = #[σ' 19, σ' 21] := by simp [ev]
      rw [ea, h21]
      refine (zInt8_c _ (zi 1) x.e.now w' hn (OwnB.sl h19) (by omega)).mono fun v w'' hv => ⟨OwnB.base hv.1 hl.size, hv.2⟩
    repeat' (first | (simp (disch := omega) only [push_cast, seval, g0, g1, addr_add_eq, Nat.zero_add]) | refine iX ?_ ?_ <;> intros | refine aI (by omega) ?_ | fail)
    rintro w4 l4 v22 h22 v19 h19
    repeat' (first | (simp (disch := omega) only [push_cast, seval]) | refine iX ?_ ?_ <;> intros | refine aI (by omega) ?_ | refine dq ?_)
    refine ⟨.inr ⟨_, rfl, ?_⟩, l03.trans l4⟩
    have e : encE x.e = zi 1 ++ zi x.e.now := by unfold encE; rw [ht, if_pos rfl]
    rw [e]
    exact OwnB.base h22 hB3
  | false =>
    rw [ht] at g0 hr'
    rw [if_neg (by simp)] at hr'
    simp only [Bool.and_eq_true, decide_eq_true_eq] at hr'
    obtain ⟨_, hev⟩ := hr'
    obtain ⟨k1, k2, k3, k4, k5, k6⟩ := evOk_iff.1 hev
    have hn : I64 x.e.t := by unfold I64; omega
    have h0z : I64 0 := by unfold I64; omega
    have z0 := zi_len h0z
    have zt := zi_len hn
    have tl := tx_len k3
    have kl := ki_len k4
    obtain ⟨od, cd, hdv⟩ := Sl.slice hx.dS
    obtain ⟨ok, ck, hkv⟩ := Sl.slice hx.kS
    rw [List.length_map] at hdv hkv
    have hdS := hx.dS.later l03
    have hkS := hx.kS.later l03
    rw [hdv] at hdS
    rw [hkv] at hkS
    have e : encE x.e = (zi 0 ++ zi x.e.t) ++ x.e.d.flatMap txE ++ x.e.k.flatMap zi := by unfold encE; rw [ht, if_neg (by simp)]
    repeat' (first | (simp (disch := omega) only [push_cast, seval, g0, addr_add_eq, Nat.zero_add]) | refine iX ?_ ?_ <;> intros | refine aI (by omega) ?_ | fail)
    refine drawn_k 5 ?_
    repeat' (first | (simp (disch := omega) only [push_cast, seval, g0, g1, g2, addr_add_eq, Nat.zero_add]) | refine iX ?_ ?_ <;> intros | refine aI (by omega) ?_ | fail)
    refine NFn.of hb35 (fun v w' => OwnB w' w3.heap.size 5 v (zi 0)) (stb_own8 _ _ _) (fun w' hl => ?_) ?_
    · refine (zInt8_c _ [] 0 w' h0z (Sl.nil _) (by simp)).mono fun v w'' hv => ⟨OwnB.base (by simpa using hv.1) hl.size, hv.2⟩
    repeat' (first | (simp (disch := omega) only [push_cast, seval, g0, g1, g2, addr_add_eq, Nat.zero_add]) | refine iX ?_ ?_ <;> intros | refine aI (by omega) ?_ | fail)
    refine nR_fnV hb35 (fun v w' => OwnB w' w3.heap.size 5 v (zi 0 ++ zi x.e.t)) (stb_own8 _ _ _) (fun σ' w' hl hp => ?_) ?_
    · obtain ⟨hp23, hp26, _⟩ := hp
      have h23 : OwnB w' w3.heap.size 5 (σ' 23) (zi 0) := hp23
      have h26 : σ' 26 = .int .i64 x.e.t := hp26
      have ea : Array.map (ev σ') #[Operand.tmp 23, Operand.tmp 26] = #[σ' 23, σ' 26] := by simp [ev]
      rw [ea, h26]
      refine (zInt8_c _ (zi 0) x.e.t w' hn (OwnB.sl h23) (by omega)).mono fun v w'' hv => ⟨OwnB.base hv.1 hl.size, hv.2⟩
    repeat' (first | (simp (disch := omega) only [push_cast, seval, g0, g1, g2, addr_add_eq, Nat.zero_add]) | refine iX ?_ ?_ <;> intros | refine aI (by omega) ?_ | fail)
    rintro w4 l4 v27 h27 v23 h23
    clear h23
    have l24 := l3.trans l4
    obtain ⟨g0, g1, g2, g3, g4, g5, g6⟩ := ejAt B w4 l24
    have hdS := hdS.later l4
    rw [hdv] at g3
    repeat' (first | (simp (disch := omega) only [push_cast, seval, g3, addr_add_eq, Nat.zero_add]) | refine iX ?_ ?_ <;> intros | refine aI (by omega) ?_ | refine dq ?_)
    refine vc_loop W14_0 (fun p : Nat × Value => [(6, p.2), (32, .int .i64 (p.1 : Int))])
      (fun p w' => p.1 ≤ x.e.d.length ∧ Later w4 w' ∧ OwnB w' w3.heap.size 5 p.2 ((zi 0 ++ zi x.e.t) ++ (x.e.d.take p.1).flatMap txE)) (fun p => x.e.d.length - p.1) (0, v27) (by decide) ?_ ?_ ?_
    · simp (disch := omega) only [push_cast, seval]
    · exact ⟨by omega, Later.refl _, by simpa using h27⟩
    rintro ⟨i, v⟩ uu w5 ⟨hi, l5, ho⟩
    dsimp only at hi ho
    by_cases hlt : i < x.e.d.length
    · obtain ⟨a, rfl⟩ : ∃ a, od = some a := by
        cases od with
        | none => have := (Sl.len hdS).2.2.2 rfl; simp at this; rw [this.1] at hlt; simp at hlt
        | some a => exact ⟨a, rfl⟩
      have c0 := StS.atS (Sl.later hdS l5) hlt
      have hft := flat_take txE x.e.d i hlt
      have hv := (k3 _ (List.getElem_mem hlt)).2
      have ht2 := len_flat txE 34 (x.e.d.take i) fun y hy => by
        have g := (k3 y (List.mem_of_mem_take hy)).2
        have := zi_len (n := (y.size : Int)) (by unfold I64; omega)
        have hls : y.data.toList.length = y.size := rfl
        unfold txE
        rw [List.length_append]
        omega
      rw [List.length_take] at ht2
      generalize x.e.d[i] = s at *
      repeat' (first | (simp (disch := omega) only [push_cast, seval, c0, addr_add_eq, Nat.zero_add]) | refine iX ?_ ?_ <;> intros | refine aI (by omega) ?_ | refine dq ?_)
      refine (zText_c _ _ s w5 (OwnB.sl ho) (by simp only [List.length_append]; omega)).mono ?_
      rintro v6 w6 ⟨ho6, l6⟩
      repeat' (first | (simp (disch := omega) only [push_cast, seval]) | refine iX ?_ ?_ <;> intros | refine aI (by omega) ?_ | refine dq ?_)
      refine ⟨rfl, (i + 1, v6), by simp (disch := omega) only [push_cast, seval], ⟨by dsimp only; omega, l5.trans l6, ?_⟩, by dsimp only; omega⟩
      dsimp only
      rw [hft]
      have e2 : zi 0 ++ zi x.e.t ++ ((x.e.d.take i).flatMap txE ++ txE s) = zi 0 ++ zi x.e.t ++ (x.e.d.take i).flatMap txE ++ zi s.size ++ s.data.toList := by unfold txE; simp
      rw [e2]
      exact OwnB.base ho6 (l4.trans l5).size
    have hie : i = x.e.d.length := by omega
    subst hie
    rw [List.take_length] at ho
    have l25 := l24.trans l5
    obtain ⟨g0, g1, g2, g3, g4, g5, g6⟩ := ejAt B w5 l25
    have hkS := hkS.later (l4.trans l5)
    rw [hkv] at g4
    repeat' (first | (simp (disch := omega) only [push_cast, seval, g4, addr_add_eq, Nat.zero_add]) | refine iX ?_ ?_ <;> intros | refine aI (by omega) ?_ | refine dq ?_)
    refine vc_loop W14_1 (fun p : Nat × Value => [(6, p.2), (44, .int .i64 (p.1 : Int))])
      (fun p w' => p.1 ≤ x.e.k.length ∧ Later w5 w' ∧ OwnB w' w3.heap.size 5 p.2 ((zi 0 ++ zi x.e.t) ++ x.e.d.flatMap txE ++ (x.e.k.take p.1).flatMap zi)) (fun p => x.e.k.length - p.1) (0, v) (by decide) ?_ ?_ ?_
    · simp (disch := omega) only [push_cast, seval]
    · exact ⟨by omega, Later.refl _, by simpa using ho⟩
    rintro ⟨i, v'⟩ uu w6 ⟨hi, l6, ho⟩
    dsimp only at hi ho
    by_cases hlt : i < x.e.k.length
    · obtain ⟨a, rfl⟩ : ∃ a, ok = some a := by
        cases ok with
        | none => have := (Sl.len hkS).2.2.2 rfl; simp at this; rw [this.1] at hlt; simp at hlt
        | some a => exact ⟨a, rfl⟩
      have c0 := Sl.atI (Sl.later hkS l6) hlt
      have hft := flat_take zi x.e.k i hlt
      have hv := k4 _ (List.getElem_mem hlt)
      have ht2 := len_flat zi 10 (x.e.k.take i) fun y hy => (zi_len (n := y) (by have := k4 y (List.mem_of_mem_take hy); unfold I64; omega)).1
      rw [List.length_take] at ht2
      generalize x.e.k[i] = n at *
      repeat' (first | (simp (disch := omega) only [push_cast, seval, c0, addr_add_eq, Nat.zero_add]) | refine iX ?_ ?_ <;> intros | refine aI (by omega) ?_ | refine dq ?_)
      refine (zInt8_c _ _ n w6 (by unfold I64; omega) (OwnB.sl ho) (by simp only [List.length_append]; omega)).mono ?_
      rintro v7 w7 ⟨ho7, l7⟩
      repeat' (first | (simp (disch := omega) only [push_cast, seval]) | refine iX ?_ ?_ <;> intros | refine aI (by omega) ?_ | refine dq ?_)
      refine ⟨rfl, (i + 1, v7), by simp (disch := omega) only [push_cast, seval], ⟨by dsimp only; omega, l6.trans l7, ?_⟩, by dsimp only; omega⟩
      dsimp only
      rw [hft]
      have e2 : zi 0 ++ zi x.e.t ++ x.e.d.flatMap txE ++ ((x.e.k.take i).flatMap zi ++ zi n) = zi 0 ++ zi x.e.t ++ x.e.d.flatMap txE ++ (x.e.k.take i).flatMap zi ++ zi n := by simp
      rw [e2]
      exact OwnB.base ho7 ((l4.trans l5).trans l6).size
    have hie : i = x.e.k.length := by omega
    subst hie
    rw [List.take_length] at ho
    repeat' (first | (simp (disch := omega) only [push_cast, seval]) | refine iX ?_ ?_ <;> intros | refine aI (by omega) ?_ | refine dq ?_)
    refine ⟨.inr ⟨_, rfl, ?_⟩, (l03.trans l4).trans (l5.trans l6)⟩
    rw [e]
    exact OwnB.base ho hB3
end Go.Proofs.Ytcajkjbempagaaa
end
