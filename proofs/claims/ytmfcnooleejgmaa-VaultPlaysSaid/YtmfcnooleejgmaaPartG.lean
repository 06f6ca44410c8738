/- Whether an act of a file may be. -/
import Derived.Lib.AppendZerosOnto
import Derived.Shelf.Sort.Plain
import Derived.Shelf.Strings.Runes
import Derived.Shelf.Strings.FuncGrows
import Derived.Shelf.Slices.In.SortNone
import Derived.Test.YtmfcnooleejgmaaProg
import Derived.Shelf.Strings.IndexAnyAll
import Derived.Shelf.Small.Utf8
import Derived.WalkMore
import Derived.Handy
import Derived.Lib.BufferKept
import Derived.Deep.DeepBigQuietO
import Derived.Shelf.Strings.Search1
import Derived.Laws.Runes
import Derived.Laws.RangeAny
import Derived.Sort.Grow
import Derived.Lib.SlicesCompact
import Derived.Test.YtmfcnooleejgmaaPartF
set_option linter.all false
open Nat renaming reduceEqDiff → zA, reducePow → zB, reduceMul → zC, reduceAdd → zD, reduceSub → zE, reduceLeDiff → zF
open Int renaming reduceToNat → zG, reducePow → zH, reduceNeg → zI, reduceMul → zJ, reduceAdd → zK, reduceSub → zL, reduceLT → zM, reduceLE → zN, reduceEq → zO, reduceMod → zP, reduceDiv → zQ
section
set_option linter.unusedSimpArgs false
namespace Go.Proofs.Ytmfcnooleejgmaa
open Go.Vc Go.Vlt
set_option maxRecDepth 100000
/-- Whether a name may be. -/
def nmB (c : UInt8) : Bool := (97 ≤ c && c ≤ 122) || (48 ≤ c && c ≤ 57) || c == 46
def nmOk (s : ByteArray) : Bool := s.data.toList.all nmB && decide (1 ≤ s.size ∧ s.size ≤ 12)
def NamedAt (s : ByteArray) : Prop := ∀ w, FnC Try.prog 45 #[.string s] w fun v w' => v = .bool (nmOk s) ∧ Later w w'
theorem may_c (bk r : Nat) (room fuse : Int) (es : List VE) (c : Nat) (k : ByteArray) (must : Bool) (w : World) (h : Vt w bk r room fuse es c) (hN : NamedAt k) : FnC Try.prog 31 #[.pointer (some ⟨bk, 0, none⟩), .string k, .bool must] w fun v w' => v = .int .i64 (if nmOk k = false ∨ (must = true ∧ vFind k es = none) then 31 else 0) ∧ Later w w' := by
  refine enter31 _ _ _ ?_
  unfold B31
  have f2 : w.cell? ⟨bk, 2, none⟩ = some (.map (some r)) := h.blk.cell 2
  repeat' (first | (simp (disch := omega) only [push_cast, ↓reduceIte, zA, zG, zB, zH, zI, zC, zJ, zK, zL, zD, zE, zF, zM, zN, zO, zP, zQ, reduceCtorEq, not_true_eq_false, not_false_eq_true, f2, addr_add_eq, Nat.zero_add]) | (first | refine vIfE_of ?_ ?_ | refine vIfD_of ?_ ?_ | refine vIfQ_of ?_ ?_ | refine vIfV_of ?_ ?_) <;> intro _ | refine And.intro (by omega) ?_ | refine drawn_q ?_ | fail)
  refine vLook_of Try.underlying55 Try.underlying9 zfile h.map k true ?_
  rcases mIdx_ent k es 0 with ⟨h1, h2⟩ | ⟨e, j, he, h1, h2⟩
  · rw [h2]
    unfold mGot
    repeat' (first | (simp (disch := omega) only [push_cast, ↓reduceIte, zA, zG, zB, zH, zI, zC, zJ, zK, zL, zD, zE, zF, zM, zN, zO, zP, zQ, reduceCtorEq, not_true_eq_false, not_false_eq_true]) | (first | refine vIfE_of ?_ ?_ | refine vIfD_of ?_ ?_ | refine vIfQ_of ?_ ?_ | refine vIfV_of ?_ ?_) <;> intro _ | refine And.intro (by omega) ?_ | refine drawn_q ?_ | fail)
    refine vStore_new rfl rfl (by intro u hu; simp at hu; rcases hu with rfl | rfl <;> rfl) ?_
    have l1 := later_alloc w (.cells #[.slice none 0 0, .int .i64 0] 61)
    generalize w.alloc (.cells #[.slice none 0 0, .int .i64 0] 61) = w1 at *
    repeat' (first | (simp (disch := omega) only [push_cast, ↓reduceIte, zA, zG, zB, zH, zI, zC, zJ, zK, zL, zD, zE, zF, zM, zN, zO, zP, zQ, reduceCtorEq, not_true_eq_false, not_false_eq_true]) | (first | refine vIfE_of ?_ ?_ | refine vIfD_of ?_ ?_ | refine vIfQ_of ?_ ?_ | refine vIfV_of ?_ ?_) <;> intro _ | refine And.intro (by omega) ?_ | refine drawn_q ?_ | fail)
    refine (hN w1).mono ?_
    rintro _ w2 ⟨rfl, l2⟩
    cases hk : nmOk k <;> cases must <;> repeat' (first | (simp (disch := omega) only [push_cast, ↓reduceIte, zA, zG, zB, zH, zI, zC, zJ, zK, zL, zD, zE, zF, zM, zN, zO, zP, zQ, reduceCtorEq, not_true_eq_false, not_false_eq_true]) | (first | refine vIfE_of ?_ ?_ | refine vIfD_of ?_ ?_ | refine vIfQ_of ?_ ?_ | refine vIfV_of ?_ ?_) <;> intro _ | refine And.intro (by omega) ?_ | refine drawn_q ?_ | fail)
    all_goals first | exact l1.trans l2 | exact ⟨by simp [hk, h1], l1.trans l2⟩ | trace_state
  · rw [h2]
    unfold mGot VE.val
    have hok := h.ok e he
    obtain ⟨os, cs, hsv⟩ := Sl.slice hok.sl
    repeat' (first | (simp (disch := omega) only [push_cast, ↓reduceIte, zA, zG, zB, zH, zI, zC, zJ, zK, zL, zD, zE, zF, zM, zN, zO, zP, zQ, reduceCtorEq, not_true_eq_false, not_false_eq_true]) | (first | refine vIfE_of ?_ ?_ | refine vIfD_of ?_ ?_ | refine vIfQ_of ?_ ?_ | refine vIfV_of ?_ ?_) <;> intro _ | refine And.intro (by omega) ?_ | refine drawn_q ?_ | fail)
    refine vStore_new rfl rfl (by intro u hu; rw [hsv] at hu; simp at hu; rcases hu with rfl | rfl <;> rfl) ?_
    have l1 := later_alloc w (.cells #[e.sv, .int .i64 e.safe] 61)
    generalize w.alloc (.cells #[e.sv, .int .i64 e.safe] 61) = w1 at *
    repeat' (first | (simp (disch := omega) only [push_cast, ↓reduceIte, zA, zG, zB, zH, zI, zC, zJ, zK, zL, zD, zE, zF, zM, zN, zO, zP, zQ, reduceCtorEq, not_true_eq_false, not_false_eq_true]) | (first | refine vIfE_of ?_ ?_ | refine vIfD_of ?_ ?_ | refine vIfQ_of ?_ ?_ | refine vIfV_of ?_ ?_) <;> intro _ | refine And.intro (by omega) ?_ | refine drawn_q ?_ | fail)
    refine (hN w1).mono ?_
    rintro _ w2 ⟨rfl, l2⟩
    cases hk : nmOk k <;> cases must <;> repeat' (first | (simp (disch := omega) only [push_cast, ↓reduceIte, zA, zG, zB, zH, zI, zC, zJ, zK, zL, zD, zE, zF, zM, zN, zO, zP, zQ, reduceCtorEq, not_true_eq_false, not_false_eq_true]) | (first | refine vIfE_of ?_ ?_ | refine vIfD_of ?_ ?_ | refine vIfQ_of ?_ ?_ | refine vIfV_of ?_ ?_) <;> intro _ | refine And.intro (by omega) ?_ | refine drawn_q ?_ | fail)
    all_goals first | exact l1.trans l2 | exact ⟨by simp [hk, h1], l1.trans l2⟩ | trace_state
end Go.Proofs.Ytmfcnooleejgmaa
end
section
namespace Go.Vlt
open Go Go.Vc
theorem mIdx_shift (k : ByteArray) : ∀ (l : List Ent) (i : Nat), mIdx k l (i + 1) = (mIdx k l i).map fun p => (p.1 + 1, p.2)
  | [], _ => rfl
  | e :: l, i => by
    unfold mIdx
    split
    · rfl
    · exact mIdx_shift k l (i + 1)
theorem mPut_cons (k : ByteArray) (v : Value) (c : Nat) (e : Ent) (l : List Ent) : mPut k v c (e :: l) = if (k == e.1) = true then (k, v, e.2.2) :: l else e :: mPut k v c l := by
  unfold mPut
  show (match (if (k == e.1) = true then some (0, e.2.1) else mIdx k l (0 + 1)) with | some (i, _) => (e :: l).modify i fun e => (k, v, e.2.2) | none => (e :: l) ++ [(k, v, c)]) = _
  by_cases h : (k == e.1) = true
  · rw [if_pos h, if_pos h]
    rfl
  · rw [if_neg h, if_neg h, mIdx_shift]
    cases mIdx k l 0 with
    | none => rfl
    | some p => rfl
theorem mTick_cons (k : ByteArray) (c : Nat) (e : Ent) (l : List Ent) : mTick k c (e :: l) = if (k == e.1) = true then c else mTick k c l := by
  unfold mTick
  show (match (if (k == e.1) = true then some (0, e.2.1) else mIdx k l (0 + 1)) with | some _ => c | none => c + 1) = _
  by_cases h : (k == e.1) = true
  · rw [if_pos h, if_pos h]
  · rw [if_neg h, if_neg h, mIdx_shift]
    cases mIdx k l 0 <;> rfl
/-- A file put in. -/
def ePut (k : ByteArray) (b : List UInt8) (s : Nat) (sv : Value) (c : Nat) : List VE → List VE
  | [] => [⟨k, b, s, sv, c⟩]
  | e :: l => if k = e.name then ⟨k, b, s, sv, e.born⟩ :: l else e :: ePut k b s sv c l
def eTick (k : ByteArray) (c : Nat) (es : List VE) : Nat := if vFind k es = none then c + 1 else c
theorem mPut_ent (k : ByteArray) (b : List UInt8) (s : Nat) (sv : Value) (c : Nat) : ∀ es : List VE, mPut k (.agg #[sv, .int .i64 s]) c (es.map VE.ent) = (ePut k b s sv c es).map VE.ent
  | [] => rfl
  | e :: l => by
    rw [List.map_cons, mPut_cons]
    unfold ePut
    have he : e.ent.1 = e.name := rfl
    rw [he]
    by_cases h : k = e.name
    · rw [if_pos (bytes_beq.2 h), if_pos h]
      rfl
    · rw [if_neg (fun h' => h (bytes_beq.1 h')), if_neg h, mPut_ent k b s sv c l]
      rfl
theorem find_put (k k' : ByteArray) (b : List UInt8) (s : Nat) (sv : Value) (c : Nat) : ∀ es : List VE, (vFind k' (ePut k b s sv c es)).map (fun e => (e.b, e.safe)) = if k' = k then some (b, s) else (vFind k' es).map fun e => (e.b, e.safe)
  | [] => by
    unfold ePut vFind
    split <;> rfl
  | e :: l => by
    unfold ePut
    by_cases h : k = e.name
    · rw [if_pos h]
      unfold vFind
      by_cases h2 : k' = k
      · rw [if_pos h2, if_pos h2]; rfl
      · rw [if_neg h2, if_neg h2, if_neg (fun h3 => h2 (h3.trans h.symm))]
    · rw [if_neg h]
      unfold vFind
      by_cases h2 : k' = e.name
      · rw [if_pos h2, if_pos h2, if_neg (fun h3 => h (h3.symm.trans h2))]
      · rw [if_neg h2, if_neg h2]
        exact find_put k k' b s sv c l
theorem put_mem {k : ByteArray} {b : List UInt8} {s : Nat} {sv : Value} {c : Nat} : ∀ {es : List VE} {x : VE}, x ∈ ePut k b s sv c es → x ∈ es ∨ (x.name = k ∧ x.b = b ∧ x.safe = s ∧ x.sv = sv)
  | [], x, h => by rw [List.mem_singleton.1 h]; exact .inr ⟨rfl, rfl, rfl, rfl⟩
  | e :: l, x, h => by
    unfold ePut at h
    split at h
    · rcases List.mem_cons.1 h with rfl | h
      · exact .inr ⟨rfl, rfl, rfl, rfl⟩
      · exact .inl (List.mem_cons_of_mem _ h)
    · rcases List.mem_cons.1 h with rfl | h
      · exact .inl (by simp)
      · rcases put_mem h with h | h
        · exact .inl (List.mem_cons_of_mem _ h)
        · exact .inr h
end Go.Vlt
end
section
namespace Go.Vlt
open Go Go.Vc
theorem put_none {k : ByteArray} (b : List UInt8) (s : Nat) (sv : Value) (c : Nat) : ∀ {es : List VE}, vFind k es = none → ePut k b s sv c es = es ++ [⟨k, b, s, sv, c⟩] ∧ ∀ e ∈ es, e.name ≠ k
  | [], _ => ⟨rfl, by simp⟩
  | e :: l, h => by
    unfold vFind at h
    by_cases hk : k = e.name
    · rw [if_pos hk] at h; cases h
    · rw [if_neg hk] at h
      obtain ⟨h1, h2⟩ := put_none b s sv c h
      unfold ePut
      rw [if_neg hk, h1]
      refine ⟨rfl, fun x hx => ?_⟩
      rcases List.mem_cons.1 hx with rfl | hx
      · exact fun h3 => hk h3.symm
      · exact h2 x hx
theorem put_some {k : ByteArray} (b : List UInt8) (s : Nat) (sv : Value) (c : Nat) : ∀ {es : List VE}, vFind k es ≠ none → (ePut k b s sv c es).map (fun e => (e.name, e.born)) = es.map fun e => (e.name, e.born)
  | [], h => absurd rfl h
  | e :: l, h => by
    unfold vFind at h
    unfold ePut
    by_cases hk : k = e.name
    · rw [if_pos hk, hk]; rfl
    · rw [if_neg hk] at h ⊢
      rw [List.map_cons, List.map_cons, put_some b s sv c h]
theorem mTick_ent (k : ByteArray) (c : Nat) : ∀ es : List VE, mTick k c (es.map VE.ent) = eTick k c es
  | [] => rfl
  | e :: l => by
    rw [List.map_cons, mTick_cons]
    unfold eTick vFind
    have he : e.ent.1 = e.name := rfl
    rw [he]
    by_cases h : k = e.name
    · rw [if_pos (bytes_beq.2 h), if_pos h]; rfl
    · rw [if_neg (fun h' => h (bytes_beq.1 h')), if_neg h, mTick_ent k c l]; rfl
theorem put_keys {k : ByteArray} (b : List UInt8) (s : Nat) (sv : Value) (c : Nat) {es : List VE} (h1 : es.Pairwise fun x y => x.name ≠ y.name) (h2 : ∀ e ∈ es, e.born < c) (h3 : (es.map VE.born).Nodup) :
    ((ePut k b s sv c es).Pairwise fun x y => x.name ≠ y.name) ∧ (∀ e ∈ ePut k b s sv c es, e.born < eTick k c es) ∧ ((ePut k b s sv c es).map VE.born).Nodup := by
  unfold eTick
  by_cases hf : vFind k es = none
  · obtain ⟨g1, g2⟩ := put_none b s sv c hf
    rw [if_pos hf, g1]
    refine ⟨List.pairwise_append.2 ⟨h1, List.pairwise_singleton _ _, fun x hx y hy => ?_⟩, fun e he => ?_, ?_⟩
    · rw [List.mem_singleton.1 hy]; exact g2 x hx
    · rcases List.mem_append.1 he with he | he
      · have := h2 e he; omega
      · rw [List.mem_singleton.1 he]; exact Nat.lt_succ_self c
    · rw [List.map_append, List.nodup_append]
      refine ⟨h3, by simp, fun a ha d hd => ?_⟩
      obtain ⟨x, hx, rfl⟩ := List.mem_map.1 ha
      have hdc : d = c := by simpa using hd
      have := h2 x hx
      omega
  · have g := put_some b s sv c hf
    rw [if_neg hf]
    have e1 : (ePut k b s sv c es).map VE.born = es.map VE.born := by
      have := congrArg (List.map Prod.snd) g
      rw [List.map_map, List.map_map] at this
      exact this
    have e2 : (ePut k b s sv c es).map VE.name = es.map VE.name := by
      have := congrArg (List.map Prod.fst) g
      rw [List.map_map, List.map_map] at this
      exact this
    refine ⟨?_, fun e he => ?_, by rw [e1]; exact h3⟩
    · have h4 : (es.map VE.name).Pairwise (fun x y => x ≠ y) := List.pairwise_map.2 h1
      rw [← e2] at h4
      exact List.pairwise_map.1 h4
    · have : e.born ∈ (ePut k b s sv c es).map VE.born := List.mem_map_of_mem he
      rw [e1] at this
      obtain ⟨x, hx, hxe⟩ := List.mem_map.1 this
      rw [← hxe]; exact h2 x hx
end Go.Vlt
namespace Go.Proofs.Ytmfcnooleejgmaa
open Go.Vc Go.Vlt
theorem Vt.put {w : World} {bk r : Nat} {room fuse : Int} {es : List VE} {c : Nat} (h : Vt w bk r room fuse es c) (k : ByteArray) {b : List UInt8} {s : Nat} {sv : Value} (hsl : Sl w sv (b.map u8v)) (hat : InT 5 w sv) (hs : s ≤ b.length) :
    Vt (setB w r (.map ((mPut k (.agg #[sv, .int .i64 s]) c (es.map VE.ent)).map mE).toArray (mTick k c (es.map VE.ent)))) bk r room fuse (ePut k b s sv c es) (eTick k c es) := by
  have c2 := chg_setB (w := w) (r := r) (ks := [r]) (by simp) (.map ((mPut k (.agg #[sv, .int .i64 s]) c (es.map VE.ent)).map mE).toArray (mTick k c (es.map VE.ent)))
  have hm := setB_at (o := .map ((mPut k (.agg #[sv, .int .i64 s]) c (es.map VE.ent)).map mE).toArray (mTick k c (es.map VE.ent))) h.map
  obtain ⟨k1, k2, k3⟩ := put_keys (k := k) b s sv c h.apart h.born h.nodup
  have hno : ∀ j ∈ [r], ∀ cs, ¬ Blk w j cs 5 := fun j hj => by rw [List.mem_singleton.1 hj]; exact h.mapb _
  refine ⟨h.te, h.blk.chg c2 (by simpa using h.ne), ?_, k1, k2, k3, fun e he => ?_⟩
  · unfold MapB
    rw [hm, mPut_ent, mTick_ent]
  · rcases put_mem he with he | ⟨_, e2, e3, e4⟩
    · exact (h.ok e he).chg c2 hno
    · have hx : (VE.mk k b s sv 0).Ok 5 w := ⟨hsl, hat, hs⟩
      have hx := hx.chg c2 hno
      exact ⟨by rw [e2, e4]; exact hx.sl, by rw [e4]; exact hx.u8, by rw [e2, e3]; exact hs⟩
end Go.Proofs.Ytmfcnooleejgmaa
end
section
set_option linter.unusedSimpArgs false
namespace Go.Proofs.Ytmfcnooleejgmaa
open Go.Vc Go.Vlt
set_option maxRecDepth 100000
theorem nP_bld {P : Program} {t : TypeId} {ps : Array (Nat × Operand)} {ty : TypeId} {σ : Env} {w : World} {Kv : Value → Prop} {Kn : (Value → World → Prop) → Prop} (v : Value) (h : ∀ w', vBuild P t (ps.map fun (i, x) => (i, ev σ x)) (fun u w'' => u = v ∧ w'' = w') w') (hk : Kv v) : nPlain P (.build t ps) ty σ w Kv Kn := by
  show qX P (.build t ps) ty σ w Kv
  refine ⟨v, fun w' _ => ?_, hk⟩
  have h1 := h w'
  unfold vBuild at h1
  show qUp P w' v ((val (Instr.build t (ps.map fun (i, x) => (i, ev σ x)))).run P w')
  have e : ∀ s : Sem Value, (val s).run P w' = (s.run P w').andThen fun v w' => .ok (.value v) w' := fun s => by simp [val]
  rw [e] at h1 ⊢
  cases hs : (Instr.build t (ps.map fun (i, x) => (i, ev σ x))).run P w' with
  | ok u w'' => rw [hs] at h1; exact ⟨h1.2, h1.1⟩
  | _ => rw [hs] at h1; exact h1.elim
def brn (fuse : Int) : Int := if 0 < fuse then fuse - 1 else fuse
theorem Chg.more {w w' : World} {ks ks' : List Nat} (h : Chg w w' ks) (hk : ∀ k ∈ ks, k ∈ ks') : Chg w w' ks' := ⟨h.os, h.tape, h.output, h.size, fun k hkl hn => h.block k hkl fun hm => hn (hk k hm)⟩
def SyncR (v : Value) (w' : World) (bk r : Nat) (room fuse : Int) (es : List VE) (c : Nat) (k : ByteArray) : Prop :=
  (v = .int .i64 31 ∧ (nmOk k = false ∨ vFind k es = none) ∧ Vt w' bk r room fuse es c) ∨
  (v = .int .i64 272 ∧ nmOk k = true ∧ vFind k es ≠ none ∧ brn fuse = 0 ∧ Vt w' bk r room (brn fuse) es c) ∨
  (v = .int .i64 0 ∧ nmOk k = true ∧ brn fuse ≠ 0 ∧ ∃ e, vFind k es = some e ∧ Vt w' bk r room (brn fuse) (ePut k e.b e.b.length e.sv c es) (eTick k c es))
theorem sync_c (bk r : Nat) (room fuse : Int) (es : List VE) (c : Nat) (k : ByteArray) (w : World) (h : Vt w bk r room fuse es c) (hf : -1 ≤ fuse ∧ fuse ≤ 9223372036854775807) (hN : NamedAt k) (hbl : ∀ e ∈ es, e.b.length ≤ 1000000000) : FnC Try.prog 11 #[.pointer (some ⟨bk, 0, none⟩), .string k] w fun v w' => SyncR v w' bk r room fuse es c k ∧ Chg w w' [bk, r] := by
  refine enter11 _ _ ?_
  unfold B11
  repeat' (first | (simp (disch := omega) only [push_cast, ↓reduceIte, zA, zG, zB, zH, zI, zC, zJ, zK, zL, zD, zE, zF, zM, zN, zO, zP, zQ, reduceCtorEq, not_true_eq_false, not_false_eq_true]) | (first | refine vIfE_of ?_ ?_ | refine vIfD_of ?_ ?_ | refine vIfQ_of ?_ ?_ | refine vIfV_of ?_ ?_) <;> intro _ | refine And.intro (by omega) ?_ | refine drawn_q ?_ | fail)
  refine (may_c bk r room fuse es c k true w h hN).mono ?_
  rintro _ w1 ⟨rfl, l1⟩
  have h1 := h.later l1
  have c1 : Chg w w1 [bk, r] := Chg.of_later l1
  by_cases hm : nmOk k = false ∨ (true = true ∧ vFind k es = none)
  · rw [if_pos hm]
    repeat' (first | (simp (disch := omega) only [push_cast, ↓reduceIte, zA, zG, zB, zH, zI, zC, zJ, zK, zL, zD, zE, zF, zM, zN, zO, zP, zQ, reduceCtorEq, not_true_eq_false, not_false_eq_true]) | (first | refine vIfE_of ?_ ?_ | refine vIfD_of ?_ ?_ | refine vIfQ_of ?_ ?_ | refine vIfV_of ?_ ?_) <;> intro _ | refine And.intro (by omega) ?_ | refine drawn_q ?_ | fail)
    exact ⟨.inl ⟨rfl, by simpa using hm, h1⟩, c1⟩
  rw [if_neg hm]
  obtain ⟨m1, m2⟩ : nmOk k = true ∧ vFind k es ≠ none := by
    refine ⟨?_, fun h' => hm (.inr ⟨rfl, h'⟩)⟩
    cases hk : nmOk k with
    | true => rfl
    | false => exact absurd (.inl hk) hm
  repeat' (first | (simp (disch := omega) only [push_cast, ↓reduceIte, zA, zG, zB, zH, zI, zC, zJ, zK, zL, zD, zE, zF, zM, zN, zO, zP, zQ, reduceCtorEq, not_true_eq_false, not_false_eq_true]) | (first | refine vIfE_of ?_ ?_ | refine vIfD_of ?_ ?_ | refine vIfQ_of ?_ ?_ | refine vIfV_of ?_ ?_) <;> intro _ | refine And.intro (by omega) ?_ | refine drawn_q ?_ | fail)
  refine (burns_c bk r room fuse es c w1 h1 hf).mono ?_
  rintro _ w2 ⟨⟨f, hfe, rfl, h2⟩, c2⟩
  have hfe : f = brn fuse := hfe
  subst hfe
  have c02 : Chg w w2 [bk, r] := c1.trans (Chg.more c2 (by simp))
  by_cases hz : brn fuse = 0
  · rw [if_pos hz]
    repeat' (first | (simp (disch := omega) only [push_cast, ↓reduceIte, zA, zG, zB, zH, zI, zC, zJ, zK, zL, zD, zE, zF, zM, zN, zO, zP, zQ, reduceCtorEq, not_true_eq_false, not_false_eq_true]) | (first | refine vIfE_of ?_ ?_ | refine vIfD_of ?_ ?_ | refine vIfQ_of ?_ ?_ | refine vIfV_of ?_ ?_) <;> intro _ | refine And.intro (by omega) ?_ | refine drawn_q ?_ | fail)
    exact ⟨.inr (.inl ⟨rfl, m1, m2, hz, h2⟩), c02⟩
  rw [if_neg hz]
  have f2 : w2.cell? ⟨bk, 2, none⟩ = some (.map (some r)) := h2.blk.cell 2
  repeat' (first | (simp (disch := omega) only [push_cast, ↓reduceIte, zA, zG, zB, zH, zI, zC, zJ, zK, zL, zD, zE, zF, zM, zN, zO, zP, zQ, reduceCtorEq, not_true_eq_false, not_false_eq_true, f2, addr_add_eq, Nat.zero_add]) | (first | refine vIfE_of ?_ ?_ | refine vIfD_of ?_ ?_ | refine vIfQ_of ?_ ?_ | refine vIfV_of ?_ ?_) <;> intro _ | refine And.intro (by omega) ?_ | refine drawn_q ?_ | fail)
  refine vLook_of Try.underlying55 Try.underlying9 zfile h2.map k false ?_
  rcases mIdx_ent k es 0 with ⟨g1, g2⟩ | ⟨e, j, he, g1, g2⟩
  · exact absurd g1 m2
  rw [g2]
  unfold mGot VE.val
  have hok := h2.ok e he
  obtain ⟨os, cs, hsv⟩ := Sl.slice hok.sl
  rw [List.length_map] at hsv
  repeat' (first | (simp (disch := omega) only [push_cast, ↓reduceIte, zA, zG, zB, zH, zI, zC, zJ, zK, zL, zD, zE, zF, zM, zN, zO, zP, zQ, reduceCtorEq, not_true_eq_false, not_false_eq_true]) | (first | refine vIfE_of ?_ ?_ | refine vIfD_of ?_ ?_ | refine vIfQ_of ?_ ?_ | refine vIfV_of ?_ ?_) <;> intro _ | refine And.intro (by omega) ?_ | refine drawn_q ?_ | fail)
  refine vStore_new rfl rfl (by intro u hu; rw [hsv] at hu; simp at hu; rcases hu with rfl | rfl <;> rfl) ?_
  have l3 := later_alloc w2 (.cells #[e.sv, .int .i64 e.safe] 61)
  have f3 : (w2.alloc (.cells #[e.sv, .int .i64 e.safe] 61)).cell? ⟨w2.heap.size, 0, none⟩ = some e.sv := (Blk.new w2 _ _).cell 0
  have h3 := h2.later l3
  generalize w2.alloc (.cells #[e.sv, .int .i64 e.safe] 61) = w3 at *
  rw [hsv] at f3
  have f4 : w3.cell? ⟨bk, 2, none⟩ = some (.map (some r)) := h3.blk.cell 2
  repeat' (first | (simp (disch := omega) only [push_cast, ↓reduceIte, zA, zG, zB, zH, zI, zC, zJ, zK, zL, zD, zE, zF, zM, zN, zO, zP, zQ, reduceCtorEq, not_true_eq_false, not_false_eq_true, f3, f4, addr_add_eq, Nat.zero_add]) | (first | refine vIfE_of ?_ ?_ | refine vIfD_of ?_ ?_ | refine vIfQ_of ?_ ?_ | refine vIfV_of ?_ ?_) <;> intro _ | refine And.intro (by omega) ?_ | fail)
  refine drawn_k 11 ?_
  repeat' (first | (simp (disch := omega) only [push_cast, ↓reduceIte, zA, zG, zB, zH, zI, zC, zJ, zK, zL, zD, zE, zF, zM, zN, zO, zP, zQ, reduceCtorEq, not_true_eq_false, not_false_eq_true, f3, f4, addr_add_eq, Nat.zero_add]) | (first | refine vIfE_of ?_ ?_ | refine vIfD_of ?_ ?_ | refine vIfQ_of ?_ ?_ | refine vIfV_of ?_ ?_) <;> intro _ | refine And.intro (by omega) ?_ | fail)
  refine nP_bld (.agg #[.slice os e.b.length cs, .int .i64 (e.b.length : Int)]) (fun w' => ?_) ?_
  · repeat' (first | (simp (disch := omega) only [push_cast, ↓reduceIte, zA, zG, zB, zH, zI, zC, zJ, zK, zL, zD, zE, zF, zM, zN, zO, zP, zQ, reduceCtorEq, not_true_eq_false, not_false_eq_true]) | (first | refine vIfE_of ?_ ?_ | refine vIfD_of ?_ ?_ | refine vIfQ_of ?_ ?_ | refine vIfV_of ?_ ?_) <;> intro _ | refine And.intro (by omega) ?_ | fail)
  repeat' (first | (simp (disch := omega) only [push_cast, ↓reduceIte, zA, zG, zB, zH, zI, zC, zJ, zK, zL, zD, zE, zF, zM, zN, zO, zP, zQ, reduceCtorEq, not_true_eq_false, not_false_eq_true]) | (first | refine vIfE_of ?_ ?_ | refine vIfD_of ?_ ?_ | refine vIfQ_of ?_ ?_ | refine vIfV_of ?_ ?_) <;> intro _ | refine And.intro (by omega) ?_ | fail)
  intro w4 l4
  have h4 := h3.later l4
  rw [← hsv]
  have hp := Vt.put h4 k (b := e.b) (s := e.b.length) (sv := e.sv) (h4.ok e he).sl (h4.ok e he).u8 (Nat.le_refl _)
  have c4 := chg_setB (w := w4) (r := r) (ks := [bk, r]) (by simp) (.map ((mPut k (.agg #[e.sv, .int .i64 (e.b.length : Nat)]) c (es.map VE.ent)).map mE).toArray (mTick k c (es.map VE.ent)))
  refine vUpd_of Try.underlying55 Try.underlying9 h4.map k _ ?_
  generalize setB w4 r (.map ((mPut k (.agg #[e.sv, .int .i64 (e.b.length : Nat)]) c (es.map VE.ent)).map mE).toArray (mTick k c (es.map VE.ent))) = w5 at *
  repeat' (first | (simp (disch := omega) only [push_cast, ↓reduceIte, zA, zG, zB, zH, zI, zC, zJ, zK, zL, zD, zE, zF, zM, zN, zO, zP, zQ, reduceCtorEq, not_true_eq_false, not_false_eq_true]) | (first | refine vIfE_of ?_ ?_ | refine vIfD_of ?_ ?_ | refine vIfQ_of ?_ ?_ | refine vIfV_of ?_ ?_) <;> intro _ | refine And.intro (by omega) ?_ | refine drawn_q ?_ | fail)
  exact ⟨.inr (.inr ⟨rfl, m1, hz, e, g1, hp⟩), c02.trans ((Chg.of_later (l3.trans l4)).trans c4)⟩
end Go.Proofs.Ytmfcnooleejgmaa
end
section
namespace Go.Vlt
open Go Go.Vc
theorem mDel_cons (k : ByteArray) (e : Ent) (l : List Ent) : mDel k (e :: l) = if (k == e.1) = true then l else e :: mDel k l := by
  unfold mDel
  show (match (if (k == e.1) = true then some (0, e.2.1) else mIdx k l (0 + 1)) with | some (i, _) => (e :: l).eraseIdx i | none => e :: l) = _
  by_cases h : (k == e.1) = true
  · rw [if_pos h, if_pos h]
    rfl
  · rw [if_neg h, if_neg h, mIdx_shift]
    cases mIdx k l 0 with
    | none => rfl
    | some p => rfl
def eDel (k : ByteArray) : List VE → List VE
  | [] => []
  | e :: l => if k = e.name then l else e :: eDel k l
theorem mDel_ent (k : ByteArray) : ∀ es : List VE, mDel k (es.map VE.ent) = (eDel k es).map VE.ent
  | [] => rfl
  | e :: l => by
    rw [List.map_cons, mDel_cons]
    unfold eDel
    have he : e.ent.1 = e.name := rfl
    rw [he]
    by_cases h : k = e.name
    · rw [if_pos (bytes_beq.2 h), if_pos h]
    · rw [if_neg (fun h' => h (bytes_beq.1 h')), if_neg h, mDel_ent k l]
      rfl
theorem del_sub (k : ByteArray) : ∀ es : List VE, (eDel k es).Sublist es
  | [] => List.Sublist.refl _
  | e :: l => by
    unfold eDel
    split
    · exact List.sublist_cons_self _ _
    · exact (del_sub k l).cons_cons _
theorem find_none {k : ByteArray} : ∀ {es : List VE}, (∀ e ∈ es, e.name ≠ k) → vFind k es = none
  | [], _ => rfl
  | e :: l, h => by
    unfold vFind
    rw [if_neg (fun h' => h e (by simp) h'.symm)]
    exact find_none fun x hx => h x (List.mem_cons_of_mem _ hx)
theorem find_del (k k' : ByteArray) : ∀ {es : List VE}, (es.Pairwise fun x y => x.name ≠ y.name) → vFind k' (eDel k es) = if k' = k then none else vFind k' es
  | [], _ => by unfold eDel vFind; split <;> rfl
  | e :: l, hp => by
    obtain ⟨h1, h2⟩ := List.pairwise_cons.1 hp
    unfold eDel
    by_cases h : k = e.name
    · rw [if_pos h]
      by_cases h3 : k' = k
      · rw [if_pos h3]
        exact find_none fun x hx hxe => h1 x hx (by rw [hxe, h3, h])
      · rw [if_neg h3]
        conv => rhs; unfold vFind
        rw [if_neg (fun h4 => h3 (h4.trans h.symm))]
    · rw [if_neg h]
      unfold vFind
      by_cases h4 : k' = e.name
      · rw [if_pos h4, if_pos h4, if_neg (fun h5 => h (h5.symm.trans h4))]
      · rw [if_neg h4, if_neg h4]
        exact find_del k k' h2
end Go.Vlt
namespace Go.Proofs.Ytmfcnooleejgmaa
open Go.Vc Go.Vlt
theorem Vt.del {w : World} {bk r : Nat} {room fuse : Int} {es : List VE} {c : Nat} (h : Vt w bk r room fuse es c) (k : ByteArray) :
    Vt (setB w r (.map ((mDel k (es.map VE.ent)).map mE).toArray c)) bk r room fuse (eDel k es) c := by
  have c2 := chg_setB (w := w) (r := r) (ks := [r]) (by simp) (.map ((mDel k (es.map VE.ent)).map mE).toArray c)
  have hm := setB_at (o := .map ((mDel k (es.map VE.ent)).map mE).toArray c) h.map
  have hs := del_sub k es
  have hno : ∀ j ∈ [r], ∀ cs, ¬ Blk w j cs 5 := fun j hj => by rw [List.mem_singleton.1 hj]; exact h.mapb _
  refine ⟨h.te, h.blk.chg c2 (by simpa using h.ne), ?_, h.apart.sublist hs, fun e he => h.born e (hs.subset he), (hs.map _).nodup h.nodup, fun e he => (h.ok e (hs.subset he)).chg c2 hno⟩
  unfold MapB
  rw [hm, mDel_ent]
end Go.Proofs.Ytmfcnooleejgmaa
end
section
set_option linter.unusedSimpArgs false
namespace Go.Proofs.Ytmfcnooleejgmaa
open Go.Vc Go.Vlt
set_option maxRecDepth 100000
def DelR (v : Value) (w' : World) (bk r : Nat) (room fuse : Int) (es : List VE) (c : Nat) (k : ByteArray) : Prop :=
  (v = .int .i64 31 ∧ (nmOk k = false ∨ vFind k es = none) ∧ Vt w' bk r room fuse es c) ∨
  (v = .int .i64 272 ∧ nmOk k = true ∧ vFind k es ≠ none ∧ brn fuse = 0 ∧ Vt w' bk r room (brn fuse) es c) ∨
  (v = .int .i64 0 ∧ nmOk k = true ∧ vFind k es ≠ none ∧ brn fuse ≠ 0 ∧ Vt w' bk r room (brn fuse) (eDel k es) c)
theorem delete_c (bk r : Nat) (room fuse : Int) (es : List VE) (c : Nat) (k : ByteArray) (w : World) (h : Vt w bk r room fuse es c) (hf : -1 ≤ fuse ∧ fuse ≤ 9223372036854775807) (hN : NamedAt k) : FnC Try.prog 30 #[.pointer (some ⟨bk, 0, none⟩), .string k] w fun v w' => DelR v w' bk r room fuse es c k ∧ Chg w w' [bk, r] := by
  refine enter30 _ _ ?_
  unfold B30
  repeat' (first | (simp (disch := omega) only [push_cast, ↓reduceIte, zA, zG, zB, zH, zI, zC, zJ, zK, zL, zD, zE, zF, zM, zN, zO, zP, zQ, reduceCtorEq, not_true_eq_false, not_false_eq_true]) | (first | refine vIfE_of ?_ ?_ | refine vIfD_of ?_ ?_ | refine vIfQ_of ?_ ?_ | refine vIfV_of ?_ ?_) <;> intro _ | refine And.intro (by omega) ?_ | refine drawn_q ?_ | fail)
  refine (may_c bk r room fuse es c k true w h hN).mono ?_
  rintro _ w1 ⟨rfl, l1⟩
  have h1 := h.later l1
  have c1 : Chg w w1 [bk, r] := Chg.of_later l1
  by_cases hm : nmOk k = false ∨ (true = true ∧ vFind k es = none)
  · rw [if_pos hm]
    repeat' (first | (simp (disch := omega) only [push_cast, ↓reduceIte, zA, zG, zB, zH, zI, zC, zJ, zK, zL, zD, zE, zF, zM, zN, zO, zP, zQ, reduceCtorEq, not_true_eq_false, not_false_eq_true]) | (first | refine vIfE_of ?_ ?_ | refine vIfD_of ?_ ?_ | refine vIfQ_of ?_ ?_ | refine vIfV_of ?_ ?_) <;> intro _ | refine And.intro (by omega) ?_ | refine drawn_q ?_ | fail)
    exact ⟨.inl ⟨rfl, by simpa using hm, h1⟩, c1⟩
  rw [if_neg hm]
  obtain ⟨m1, m2⟩ : nmOk k = true ∧ vFind k es ≠ none := by
    refine ⟨?_, fun h' => hm (.inr ⟨rfl, h'⟩)⟩
    cases hk : nmOk k with
    | true => rfl
    | false => exact absurd (.inl hk) hm
  repeat' (first | (simp (disch := omega) only [push_cast, ↓reduceIte, zA, zG, zB, zH, zI, zC, zJ, zK, zL, zD, zE, zF, zM, zN, zO, zP, zQ, reduceCtorEq, not_true_eq_false, not_false_eq_true]) | (first | refine vIfE_of ?_ ?_ | refine vIfD_of ?_ ?_ | refine vIfQ_of ?_ ?_ | refine vIfV_of ?_ ?_) <;> intro _ | refine And.intro (by omega) ?_ | refine drawn_q ?_ | fail)
  refine (burns_c bk r room fuse es c w1 h1 hf).mono ?_
  rintro _ w2 ⟨⟨f, hfe, rfl, h2⟩, c2⟩
  have hfe : f = brn fuse := hfe
  subst hfe
  have c02 : Chg w w2 [bk, r] := c1.trans (Chg.more c2 (by simp))
  by_cases hz : brn fuse = 0
  · rw [if_pos hz]
    repeat' (first | (simp (disch := omega) only [push_cast, ↓reduceIte, zA, zG, zB, zH, zI, zC, zJ, zK, zL, zD, zE, zF, zM, zN, zO, zP, zQ, reduceCtorEq, not_true_eq_false, not_false_eq_true]) | (first | refine vIfE_of ?_ ?_ | refine vIfD_of ?_ ?_ | refine vIfQ_of ?_ ?_ | refine vIfV_of ?_ ?_) <;> intro _ | refine And.intro (by omega) ?_ | refine drawn_q ?_ | fail)
    exact ⟨.inr (.inl ⟨rfl, m1, m2, hz, h2⟩), c02⟩
  rw [if_neg hz]
  have f2 : w2.cell? ⟨bk, 2, none⟩ = some (.map (some r)) := h2.blk.cell 2
  repeat' (first | (simp (disch := omega) only [push_cast, ↓reduceIte, zA, zG, zB, zH, zI, zC, zJ, zK, zL, zD, zE, zF, zM, zN, zO, zP, zQ, reduceCtorEq, not_true_eq_false, not_false_eq_true, f2, addr_add_eq, Nat.zero_add]) | (first | refine vIfE_of ?_ ?_ | refine vIfD_of ?_ ?_ | refine vIfQ_of ?_ ?_ | refine vIfV_of ?_ ?_) <;> intro _ | refine And.intro (by omega) ?_ | refine drawn_q ?_ | fail)
  have hp := Vt.del h2 k
  have c4 := chg_setB (w := w2) (r := r) (ks := [bk, r]) (by simp) (.map ((mDel k (es.map VE.ent)).map mE).toArray c)
  refine vDel_of rfl Try.underlying55 Try.underlying9 h2.map k ?_
  generalize setB w2 r (.map ((mDel k (es.map VE.ent)).map mE).toArray c) = w5 at *
  repeat' (first | (simp (disch := omega) only [push_cast, ↓reduceIte, zA, zG, zB, zH, zI, zC, zJ, zK, zL, zD, zE, zF, zM, zN, zO, zP, zQ, reduceCtorEq, not_true_eq_false, not_false_eq_true]) | (first | refine vIfE_of ?_ ?_ | refine vIfD_of ?_ ?_ | refine vIfQ_of ?_ ?_ | refine vIfV_of ?_ ?_) <;> intro _ | refine And.intro (by omega) ?_ | refine drawn_q ?_ | fail)
  exact ⟨.inr (.inr ⟨rfl, m1, m2, hz, hp⟩), c02.trans c4⟩
end Go.Proofs.Ytmfcnooleejgmaa
end
section
set_option linter.unusedSimpArgs false
namespace Go.Proofs.Ytmfcnooleejgmaa
open Go.Vc Go.Vlt
set_option maxRecDepth 100000
def RenR (v : Value) (w' : World) (bk r : Nat) (room fuse : Int) (es : List VE) (c : Nat) (k k2 : ByteArray) : Prop :=
  (v = .int .i64 31 ∧ (nmOk k = false ∨ vFind k es = none ∨ nmOk k2 = false) ∧ Vt w' bk r room fuse es c) ∨
  (v = .int .i64 272 ∧ nmOk k = true ∧ vFind k es ≠ none ∧ nmOk k2 = true ∧ brn fuse = 0 ∧ Vt w' bk r room (brn fuse) es c) ∨
  (v = .int .i64 0 ∧ nmOk k = true ∧ nmOk k2 = true ∧ brn fuse ≠ 0 ∧ ∃ e, vFind k es = some e ∧ Vt w' bk r room (brn fuse) (ePut k2 e.b e.safe e.sv c (eDel k es)) (eTick k2 c (eDel k es)))
theorem rename_c (bk r : Nat) (room fuse : Int) (es : List VE) (c : Nat) (k k2 : ByteArray) (w : World) (h : Vt w bk r room fuse es c) (hf : -1 ≤ fuse ∧ fuse ≤ 9223372036854775807) (hN : NamedAt k) (hN2 : NamedAt k2) : FnC Try.prog 12 #[.pointer (some ⟨bk, 0, none⟩), .string k, .string k2] w fun v w' => RenR v w' bk r room fuse es c k k2 ∧ Chg w w' [bk, r] := by
  refine enter12 _ _ _ ?_
  unfold B12
  repeat' (first | (simp (disch := omega) only [push_cast, ↓reduceIte, zA, zG, zB, zH, zI, zC, zJ, zK, zL, zD, zE, zF, zM, zN, zO, zP, zQ, reduceCtorEq, not_true_eq_false, not_false_eq_true]) | (first | refine vIfE_of ?_ ?_ | refine vIfD_of ?_ ?_ | refine vIfQ_of ?_ ?_ | refine vIfV_of ?_ ?_) <;> intro _ | refine And.intro (by omega) ?_ | refine drawn_q ?_ | fail)
  refine (may_c bk r room fuse es c k true w h hN).mono ?_
  rintro _ w1 ⟨rfl, l1⟩
  have h1 := h.later l1
  have c1 : Chg w w1 [bk, r] := Chg.of_later l1
  by_cases hm : nmOk k = false ∨ (true = true ∧ vFind k es = none)
  · rw [if_pos hm]
    repeat' (first | (simp (disch := omega) only [push_cast, ↓reduceIte, zA, zG, zB, zH, zI, zC, zJ, zK, zL, zD, zE, zF, zM, zN, zO, zP, zQ, reduceCtorEq, not_true_eq_false, not_false_eq_true]) | (first | refine vIfE_of ?_ ?_ | refine vIfD_of ?_ ?_ | refine vIfQ_of ?_ ?_ | refine vIfV_of ?_ ?_) <;> intro _ | refine And.intro (by omega) ?_ | refine drawn_q ?_ | fail)
    have hm' : nmOk k = false ∨ vFind k es = none := by simpa using hm
    exact ⟨.inl ⟨rfl, hm'.elim .inl (fun h => .inr (.inl h)), h1⟩, c1⟩
  rw [if_neg hm]
  obtain ⟨m1, m2⟩ : nmOk k = true ∧ vFind k es ≠ none := by
    refine ⟨?_, fun h' => hm (.inr ⟨rfl, h'⟩)⟩
    cases hk : nmOk k with
    | true => rfl
    | false => exact absurd (.inl hk) hm
  repeat' (first | (simp (disch := omega) only [push_cast, ↓reduceIte, zA, zG, zB, zH, zI, zC, zJ, zK, zL, zD, zE, zF, zM, zN, zO, zP, zQ, reduceCtorEq, not_true_eq_false, not_false_eq_true]) | (first | refine vIfE_of ?_ ?_ | refine vIfD_of ?_ ?_ | refine vIfQ_of ?_ ?_ | refine vIfV_of ?_ ?_) <;> intro _ | refine And.intro (by omega) ?_ | refine drawn_q ?_ | fail)
  refine (may_c bk r room fuse es c k2 false w1 h1 hN2).mono ?_
  rintro _ w1' ⟨rfl, l1'⟩
  have h1' := h1.later l1'
  have c1' : Chg w w1' [bk, r] := Chg.of_later (l1.trans l1')
  cases hk2 : nmOk k2 with
  | false =>
    rw [if_pos (.inl rfl)]
    repeat' (first | (simp (disch := omega) only [push_cast, ↓reduceIte, zA, zG, zB, zH, zI, zC, zJ, zK, zL, zD, zE, zF, zM, zN, zO, zP, zQ, reduceCtorEq, not_true_eq_false, not_false_eq_true]) | (first | refine vIfE_of ?_ ?_ | refine vIfD_of ?_ ?_ | refine vIfQ_of ?_ ?_ | refine vIfV_of ?_ ?_) <;> intro _ | refine And.intro (by omega) ?_ | refine drawn_q ?_ | fail)
    exact ⟨.inl ⟨rfl, .inr (.inr hk2), h1'⟩, c1'⟩
  | true =>
  rw [if_neg (by simp)]
  repeat' (first | (simp (disch := omega) only [push_cast, ↓reduceIte, zA, zG, zB, zH, zI, zC, zJ, zK, zL, zD, zE, zF, zM, zN, zO, zP, zQ, reduceCtorEq, not_true_eq_false, not_false_eq_true]) | (first | refine vIfE_of ?_ ?_ | refine vIfD_of ?_ ?_ | refine vIfQ_of ?_ ?_ | refine vIfV_of ?_ ?_) <;> intro _ | refine And.intro (by omega) ?_ | refine drawn_q ?_ | fail)
  refine (burns_c bk r room fuse es c w1' h1' hf).mono ?_
  rintro _ w2 ⟨⟨f, hfe, rfl, h2⟩, c2⟩
  have hfe : f = brn fuse := hfe
  subst hfe
  have c02 : Chg w w2 [bk, r] := c1'.trans (Chg.more c2 (by simp))
  by_cases hz : brn fuse = 0
  · rw [if_pos hz]
    repeat' (first | (simp (disch := omega) only [push_cast, ↓reduceIte, zA, zG, zB, zH, zI, zC, zJ, zK, zL, zD, zE, zF, zM, zN, zO, zP, zQ, reduceCtorEq, not_true_eq_false, not_false_eq_true]) | (first | refine vIfE_of ?_ ?_ | refine vIfD_of ?_ ?_ | refine vIfQ_of ?_ ?_ | refine vIfV_of ?_ ?_) <;> intro _ | refine And.intro (by omega) ?_ | refine drawn_q ?_ | fail)
    exact ⟨.inr (.inl ⟨rfl, m1, m2, hk2, hz, h2⟩), c02⟩
  rw [if_neg hz]
  have f2 : w2.cell? ⟨bk, 2, none⟩ = some (.map (some r)) := h2.blk.cell 2
  repeat' (first | (simp (disch := omega) only [push_cast, ↓reduceIte, zA, zG, zB, zH, zI, zC, zJ, zK, zL, zD, zE, zF, zM, zN, zO, zP, zQ, reduceCtorEq, not_true_eq_false, not_false_eq_true, f2, addr_add_eq, Nat.zero_add]) | (first | refine vIfE_of ?_ ?_ | refine vIfD_of ?_ ?_ | refine vIfQ_of ?_ ?_ | refine vIfV_of ?_ ?_) <;> intro _ | refine And.intro (by omega) ?_ | refine drawn_q ?_ | fail)
  refine vLook_of Try.underlying55 Try.underlying9 zfile h2.map k false ?_
  rcases mIdx_ent k es 0 with ⟨g1, g2⟩ | ⟨e, j, he, g1, g2⟩
  · exact absurd g1 m2
  rw [g2]
  unfold mGot VE.val
  have hok := h2.ok e he
  obtain ⟨os, cs, hsv⟩ := Sl.slice hok.sl
  rw [List.length_map] at hsv
  repeat' (first | (simp (disch := omega) only [push_cast, ↓reduceIte, zA, zG, zB, zH, zI, zC, zJ, zK, zL, zD, zE, zF, zM, zN, zO, zP, zQ, reduceCtorEq, not_true_eq_false, not_false_eq_true]) | (first | refine vIfE_of ?_ ?_ | refine vIfD_of ?_ ?_ | refine vIfQ_of ?_ ?_ | refine vIfV_of ?_ ?_) <;> intro _ | refine And.intro (by omega) ?_ | refine drawn_q ?_ | fail)
  refine vStore_new rfl rfl (by intro u hu; rw [hsv] at hu; simp at hu; rcases hu with rfl | rfl <;> rfl) ?_
  have l3 := later_alloc w2 (.cells #[e.sv, .int .i64 e.safe] 61)
  have B3 := Blk.new w2 #[e.sv, .int .i64 e.safe] 61
  have h3 := h2.later l3
  generalize w2.alloc (.cells #[e.sv, .int .i64 e.safe] 61) = w3 at *
  generalize hkb : w2.heap.size = kb at *
  have f4 : w3.cell? ⟨bk, 2, none⟩ = some (.map (some r)) := h3.blk.cell 2
  repeat' (first | (simp (disch := omega) only [push_cast, ↓reduceIte, zA, zG, zB, zH, zI, zC, zJ, zK, zL, zD, zE, zF, zM, zN, zO, zP, zQ, reduceCtorEq, not_true_eq_false, not_false_eq_true, f4, addr_add_eq, Nat.zero_add]) | (first | refine vIfE_of ?_ ?_ | refine vIfD_of ?_ ?_ | refine vIfQ_of ?_ ?_ | refine vIfV_of ?_ ?_) <;> intro _ | refine And.intro (by omega) ?_ | refine drawn_q ?_ | fail)
  have hb1 := h2.blk.lt
  have hb2 := (Array.getElem?_eq_some_iff.1 h2.map).1
  have hp := Vt.del h3 k
  have c4 := chg_setB (w := w3) (r := r) (ks := [r]) (by simp) (.map ((mDel k (es.map VE.ent)).map mE).toArray c)
  have hok3 := h3.ok e he
  have hno : ∀ j ∈ [r], ∀ cs, ¬ Blk w3 j cs 5 := fun j hj => by rw [List.mem_singleton.1 hj]; exact h3.mapb _
  have hok4 := hok3.chg c4 hno
  have B4 := B3.chg c4 (by simp; omega)
  refine vDel_of rfl Try.underlying55 Try.underlying9 h3.map k ?_
  generalize setB w3 r (.map ((mDel k (es.map VE.ent)).map mE).toArray c) = w4 at *
  have f5 : w4.cell? ⟨bk, 2, none⟩ = some (.map (some r)) := hp.blk.cell 2
  have f6 : Go.Vc.cellsAt w4 ⟨kb, 0, none⟩ 2 = some [e.sv, .int .i64 e.safe] := Blk.cellsAt (l := [e.sv, .int .i64 e.safe]) B4
  repeat' (first | (simp (disch := omega) only [push_cast, ↓reduceIte, zA, zG, zB, zH, zI, zC, zJ, zK, zL, zD, zE, zF, zM, zN, zO, zP, zQ, reduceCtorEq, not_true_eq_false, not_false_eq_true]) | (first | refine vIfE_of ?_ ?_ | refine vIfD_of ?_ ?_ | refine vIfQ_of ?_ ?_ | refine vIfV_of ?_ ?_) <;> intro _ | refine And.intro (by omega) ?_ | fail)
  refine drawn_k 6 ?_
  repeat' (first | (simp (disch := omega) only [push_cast, ↓reduceIte, zA, zG, zB, zH, zI, zC, zJ, zK, zL, zD, zE, zF, zM, zN, zO, zP, zQ, reduceCtorEq, not_true_eq_false, not_false_eq_true, f5, f6, addr_add_eq, Nat.zero_add]) | (first | refine vIfE_of ?_ ?_ | refine vIfD_of ?_ ?_ | refine vIfQ_of ?_ ?_ | refine vIfV_of ?_ ?_) <;> intro _ | refine And.intro (by omega) ?_ | fail)
  intro w5 l5
  have hp5 := hp.later l5
  have hp6 := Vt.put hp5 k2 (b := e.b) (s := e.safe) (sv := e.sv) (Sl.later hok4.sl l5) (hok4.u8.later l5) hok3.safe
  have c6 := chg_setB (w := w5) (r := r) (ks := [bk, r]) (by simp) (.map ((mPut k2 (.agg #[e.sv, .int .i64 e.safe]) c ((eDel k es).map VE.ent)).map mE).toArray (mTick k2 c ((eDel k es).map VE.ent)))
  refine vUpd_of Try.underlying55 Try.underlying9 hp5.map k2 _ ?_
  generalize setB w5 r (.map ((mPut k2 (.agg #[e.sv, .int .i64 e.safe]) c ((eDel k es).map VE.ent)).map mE).toArray (mTick k2 c ((eDel k es).map VE.ent))) = w6 at *
  repeat' (first | (simp (disch := omega) only [push_cast, ↓reduceIte, zA, zG, zB, zH, zI, zC, zJ, zK, zL, zD, zE, zF, zM, zN, zO, zP, zQ, reduceCtorEq, not_true_eq_false, not_false_eq_true]) | (first | refine vIfE_of ?_ ?_ | refine vIfD_of ?_ ?_ | refine vIfQ_of ?_ ?_ | refine vIfV_of ?_ ?_) <;> intro _ | refine And.intro (by omega) ?_ | refine drawn_q ?_ | fail)
  exact ⟨.inr (.inr ⟨rfl, m1, hk2, hz, e, g1, hp6⟩), c02.trans ((Chg.of_later l3).trans ((Chg.more c4 (by simp)).trans ((Chg.of_later l5).trans c6)))⟩
end Go.Proofs.Ytmfcnooleejgmaa
end
section
set_option linter.unusedSimpArgs false
namespace Go.Vc
open Go.RowKit
/-- 'append(nil, make([]T, k)...)': a new block of k elements, or more. -/
theorem vAppend_zeros0 {P : Program} {w : World} {K : Value → World → Prop} {t tn e ty : TypeId} {z : Value} {b : Nat} {kn : IntKind} (ht : P.underlying t = some (.slice e)) (htn : P.underlying tn = some (.int kn)) (hi : (P.info? e).map (fun i => (i.zero, i.size, i.bytes)) = some (some z, 1, b)) (hzs : z.cells.size = 1)
    {k : Nat} (h0 : 0 < k) (h63 : k ≤ maxLen) (hb : k * b ≤ 140737488355328)
    (hK : ∀ (c : Nat) (cs : Array Value), k ≤ c → c ≤ maxLen → cs.size = c → K (.slice (some ⟨w.heap.size, 0, none⟩) k c) (w.drew.alloc (.cells cs e))) : vAppend P #[t, tn] ty #[.slice none 0 0, .int .i64 (k : Int)] K w := by
  obtain ⟨i, hi1, hz, hsi, rfl⟩ := info_parts hi
  unfold vAppend
  have hr := Lib.run_append_grow_zeros (P := P) w t tn ty e i z .i64 kn ht htn hi1 hz none 0 0 [] (by simpa using run_firstCells_none w.drew i.size 0 0 0) k h0 (by omega) (by omega) (by unfold maxLen at h63; omega) (by omega) (growslice_fits (by omega) (by simpa using hb))
  rw [run_val_pure hr]
  simp only [Nat.zero_add]
  have hge := grownCap_ge w k 0 e
  have hle := grownCap_le_maxLen w k 0 e h63
  refine hK _ _ hge hle ?_
  simp [size_zeroCells, hzs]
  omega
end Go.Vc
namespace Go.Proofs.Ytmfcnooleejgmaa
open Go.Vc Go.Vlt
set_option maxRecDepth 100000
theorem grow0_c (n : Nat) (w : World) (hn : n ≤ 1000000000) : FnC Try.prog 46 #[.slice none 0 0, .int .i64 (n : Int)] w fun v w' => OwnB w' w.heap.size 5 v [] ∧ Later w w' := by
  refine enter46 _ _ ?_
  unfold B46
  by_cases h0 : n = 0
  · subst h0
    repeat' (first | (simp (disch := omega) only [push_cast, ↓reduceIte, zA, zG, zB, zH, zI, zC, zJ, zK, zL, zD, zE, zF, zM, zN, zO, zP, zQ, reduceCtorEq, not_true_eq_false, not_false_eq_true]) | (first | refine vIfE_of ?_ ?_ | refine vIfD_of ?_ ?_ | refine vIfQ_of ?_ ?_ | refine vIfV_of ?_ ?_) <;> intro _ | refine And.intro (by omega) ?_ | refine drawn_q ?_ | fail)
    exact ⟨own_nil _ _ _ _, Later.refl _⟩
  · have h1 : 0 < n := by omega
    repeat' (first | (simp (disch := omega) only [push_cast, ↓reduceIte, zA, zG, zB, zH, zI, zC, zJ, zK, zL, zD, zE, zF, zM, zN, zO, zP, zQ, reduceCtorEq, not_true_eq_false, not_false_eq_true]) | (first | refine vIfE_of ?_ ?_ | refine vIfD_of ?_ ?_ | refine vIfQ_of ?_ ?_ | refine vIfV_of ?_ ?_) <;> intro _ | refine And.intro (by omega) ?_ | refine drawn_q ?_ | fail)
    refine vAppend_zeros0 Try.underlying22 Try.underlying3 ti5 rfl h1 (by unfold maxLen; omega) (by omega) ?_
    intro c cs h2 h3 h4
    have hown : OwnB (w.drew.alloc (.cells cs 5)) w.heap.size 5 (.slice (some ⟨w.heap.size, 0, none⟩) 0 c) [] :=
      ⟨rfl, .inr ⟨w.heap.size, c, cs, rfl, Nat.le_refl _, heap_new_drew w _, Nat.zero_le _, h3, by omega, by simp⟩⟩
    have l1 : Later w (w.drew.alloc (.cells cs 5)) := ⟨rfl, rfl, rfl, by simp, fun k hk => heap_old_drew w _ k hk⟩
    generalize w.drew.alloc (.cells cs 5) = w1 at *
    repeat' (first | (simp (disch := omega) only [push_cast, ↓reduceIte, zA, zG, zB, zH, zI, zC, zJ, zK, zL, zD, zE, zF, zM, zN, zO, zP, zQ, reduceCtorEq, not_true_eq_false, not_false_eq_true]) | (first | refine vIfE_of ?_ ?_ | refine vIfD_of ?_ ?_ | refine vIfQ_of ?_ ?_ | refine vIfV_of ?_ ?_) <;> intro _ | refine And.intro (by omega) ?_ | refine drawn_q ?_ | fail)
    first | exact ⟨hown, l1⟩ | exact l1
theorem concat_c (xv : Value) (ls : List (List UInt8)) (w : World) (h : LL w xv ls) (hb : ls.flatten.length ≤ 1000000000) : FnC Try.prog 33 #[xv] w fun v w' => OwnB w' w.heap.size 5 v ls.flatten ∧ Later w w' := by
  obtain ⟨o, c, rfl, hc1, hc2⟩ := h.slice
  have sumL : ∀ i, i < ls.length → (ls.take (i + 1)).flatten = (ls.take i).flatten ++ ls[i]! := fun i hi => by
    rw [List.take_add_one, List.getElem?_eq_getElem hi, List.flatten_append]
    simp [hi]
  have len_le : ∀ i, (ls.take i).flatten.length ≤ ls.flatten.length := fun i => by
    conv => rhs; rw [← List.take_append_drop i ls, List.flatten_append, List.length_append]
    omega
  refine enter33 _ ?_
  unfold B33
  repeat' (first | (simp (disch := omega) only [push_cast, ↓reduceIte, zA, zG, zB, zH, zI, zC, zJ, zK, zL, zD, zE, zF, zM, zN, zO, zP, zQ, reduceCtorEq, not_true_eq_false, not_false_eq_true]) | (first | refine vIfE_of ?_ ?_ | refine vIfD_of ?_ ?_ | refine vIfQ_of ?_ ?_ | refine vIfV_of ?_ ?_) <;> intro _ | refine And.intro (by omega) ?_ | refine drawn_q ?_ | fail)
  refine vc_loop W33_0 (fun i : Nat => [(11, .int .i64 (i : Int)), (3, .int .i64 (((ls.take i).flatten.length : Nat) : Int))]) (fun i w' => i ≤ ls.length ∧ w' = w) (fun i => ls.length - i) 0 (by decide) ?_ ?_ ?_
  · have : (([] : List (List UInt8)).flatten.length : Int) = 0 := rfl
    simp (disch := omega) only [push_cast, ↓reduceIte, zA, zG, zB, zH, zI, zC, zJ, zK, zL, zD, zE, zF, zM, zN, zO, zP, zQ, reduceCtorEq, not_true_eq_false, not_false_eq_true, List.take_zero]
    rfl
  · exact ⟨Nat.zero_le _, rfl⟩
  rintro i uu w1 ⟨hi, hw⟩
  obtain rfl := hw.symm
  have hl1 := len_le i
  by_cases hlt : i < ls.length
  · obtain ⟨a, x, rfl, hx, hsx⟩ := h.at hlt
    obtain ⟨xo, xc, rfl⟩ := Sl.slice hsx
    rw [List.length_map] at hsx hx
    have hl2 := len_le (i + 1)
    have hs := sumL i hlt
    have e1 : ls[i]! = ls[i] := by simp [hlt]
    rw [e1] at hs
    rw [hs, List.length_append] at hl2
    repeat' (first | (simp (disch := omega) only [push_cast, ↓reduceIte, zA, zG, zB, zH, zI, zC, zJ, zK, zL, zD, zE, zF, zM, zN, zO, zP, zQ, reduceCtorEq, not_true_eq_false, not_false_eq_true, hx]) | (first | refine vIfE_of ?_ ?_ | refine vIfD_of ?_ ?_ | refine vIfQ_of ?_ ?_ | refine vIfV_of ?_ ?_) <;> intro _ | refine And.intro (by omega) ?_ | refine drawn_q ?_ | fail)
    have e2 : (((ls.take (i + 1)).flatten.length : Nat) : Int) = ((ls.take i).flatten.length : Int) + (ls[i].length : Int) := by rw [hs, List.length_append]; omega
    refine ⟨rfl, i + 1, by simp (disch := omega) only [push_cast, ↓reduceIte, zA, zG, zB, zH, zI, zC, zJ, zK, zL, zD, zE, zF, zM, zN, zO, zP, zQ, reduceCtorEq, not_true_eq_false, not_false_eq_true, e2], ⟨by omega, rfl⟩, by dsimp only; omega⟩
  · have hil : i = ls.length := by omega
    subst hil
    rw [List.take_length]
    repeat' (first | (simp (disch := omega) only [push_cast, ↓reduceIte, zA, zG, zB, zH, zI, zC, zJ, zK, zL, zD, zE, zF, zM, zN, zO, zP, zQ, reduceCtorEq, not_true_eq_false, not_false_eq_true]) | (first | refine vIfE_of ?_ ?_ | refine vIfD_of ?_ ?_ | refine vIfQ_of ?_ ?_ | refine vIfV_of ?_ ?_) <;> intro _ | refine And.intro (by omega) ?_ | refine drawn_q ?_ | fail)
    refine (grow0_c ls.flatten.length w hb).mono ?_
    rintro v1 w1 ⟨ho1, l1⟩
    obtain ⟨o1, c1, rfl⟩ := ho1.slice
    repeat' (first | (simp (disch := omega) only [push_cast, ↓reduceIte, zA, zG, zB, zH, zI, zC, zJ, zK, zL, zD, zE, zF, zM, zN, zO, zP, zQ, reduceCtorEq, not_true_eq_false, not_false_eq_true]) | (first | refine vIfE_of ?_ ?_ | refine vIfD_of ?_ ?_ | refine vIfQ_of ?_ ?_ | refine vIfV_of ?_ ?_) <;> intro _ | refine And.intro (by omega) ?_ | refine drawn_q ?_ | fail)
    refine vc_loop W33_1 (fun s : Nat × Value => [(27, .int .i64 (s.1 : Int)), (6, s.2)]) (fun s w' => s.1 ≤ ls.length ∧ OwnB w' w.heap.size 5 s.2 (ls.take s.1).flatten ∧ Later w w') (fun s => ls.length - s.1) (0, .slice o1 0 c1) (by decide) ?_ ?_ ?_
    · simp (disch := omega) only [push_cast, ↓reduceIte, zA, zG, zB, zH, zI, zC, zJ, zK, zL, zD, zE, zF, zM, zN, zO, zP, zQ, reduceCtorEq, not_true_eq_false, not_false_eq_true]
      try rfl
    · exact ⟨Nat.zero_le _, ho1, l1⟩
    rintro ⟨i, vv⟩ u2 w2 ⟨hi, ho2, l2⟩
    dsimp only at hi ho2
    by_cases hlt : i < ls.length
    · obtain ⟨a, x, rfl, hx, hsx⟩ := (h.later l2).at hlt
      obtain ⟨xo, xc, rfl⟩ := Sl.slice hsx
      have hl2 := len_le (i + 1)
      have hs := sumL i hlt
      have e1 : ls[i]! = ls[i] := by simp [hlt]
      rw [e1] at hs
      rw [hs, List.length_append] at hl2
      repeat' (first | (simp (disch := omega) only [push_cast, ↓reduceIte, zA, zG, zB, zH, zI, zC, zJ, zK, zL, zD, zE, zF, zM, zN, zO, zP, zQ, reduceCtorEq, not_true_eq_false, not_false_eq_true, hx]) | (first | refine vIfE_of ?_ ?_ | refine vIfD_of ?_ ?_ | refine vIfQ_of ?_ ?_ | refine vIfV_of ?_ ?_) <;> intro _ | refine And.intro (by omega) ?_ | refine drawn_q ?_ | fail)
      refine vAppend_own Try.underlying22 ti5 rfl (by decide) ho2 (sl8_n hsx) (u8vs_one _) (by unfold maxLen; omega) (by omega) l2.size ?_
      intro v3 w3 h3 g3 _
      have l3 : Later w w3 := l2.appended ho2 (Nat.le_refl _) g3
      have h3 := own8_app h3
      rw [← hs] at h3
      repeat' (first | (simp (disch := omega) only [push_cast, ↓reduceIte, zA, zG, zB, zH, zI, zC, zJ, zK, zL, zD, zE, zF, zM, zN, zO, zP, zQ, reduceCtorEq, not_true_eq_false, not_false_eq_true]) | (first | refine vIfE_of ?_ ?_ | refine vIfD_of ?_ ?_ | refine vIfQ_of ?_ ?_ | refine vIfV_of ?_ ?_) <;> intro _ | refine And.intro (by omega) ?_ | refine drawn_q ?_ | fail)
      exact ⟨rfl, (i + 1, v3), by simp (disch := omega) only [push_cast, ↓reduceIte, zA, zG, zB, zH, zI, zC, zJ, zK, zL, zD, zE, zF, zM, zN, zO, zP, zQ, reduceCtorEq, not_true_eq_false, not_false_eq_true], ⟨by omega, h3, l3⟩, by dsimp only; omega⟩
    · have hil : i = ls.length := by omega
      subst hil
      rw [List.take_length] at ho2
      obtain ⟨o2, c2, rfl⟩ := ho2.slice
      repeat' (first | (simp (disch := omega) only [push_cast, ↓reduceIte, zA, zG, zB, zH, zI, zC, zJ, zK, zL, zD, zE, zF, zM, zN, zO, zP, zQ, reduceCtorEq, not_true_eq_false, not_false_eq_true]) | (first | refine vIfE_of ?_ ?_ | refine vIfD_of ?_ ?_ | refine vIfQ_of ?_ ?_ | refine vIfV_of ?_ ?_) <;> intro _ | refine And.intro (by omega) ?_ | refine drawn_q ?_ | fail)
      first | exact ⟨ho2, l2⟩ | exact l2
end Go.Proofs.Ytmfcnooleejgmaa
end
section
namespace Go.Vc
open Go.RowKit
variable {P : Program}
/-- A call whose arguments hang on the world, and its value too. -/
theorem nR_fnV {g : FuncId} {xs : Array Operand} {ts : Array TypeId} {ty : TypeId} {rs : List Nat} {Ns : NS} {σ : Env} {w : World} {Kv : Value → Prop} {Kn : (Value → World → Prop) → Prop} (hb : HasBody P g) (V' : Value → World → Prop) (hV' : Stb w V')
    (h : ∀ σ' w', Later w w' → psis Ns σ w' σ' rs → FnC P g (xs.map (ev σ')) w' fun u w'' => V' u w'' ∧ Later w' w'') (hk : Kn V') : nR P (.call ⟨.value (.func g), xs, ts⟩) ty rs Ns σ w Kv Kn :=
  .inr ⟨V', hV', fun σ' w' hl hp => by
    have e : exe P (.call ⟨.value (.func g), xs, ts⟩) ty σ' w' = (callFunc g (#[] ++ xs.map (ev σ') ++ #[])).run P w' := exe_call rfl rfl w'
    rw [e, hb]
    refine ⟨rfl, Calls.mono (hb.ret (by simpa using h σ' w' hl hp)) ?_⟩
    rintro e w'' ⟨u, rfl, hu, hl'⟩
    exact ⟨u, rfl, hl', hu⟩, hk⟩
/-- A struct put together, of what hangs on the world. -/
theorem nR_bldV {t : TypeId} {ps : Array (Nat × Operand)} {ty : TypeId} {rs : List Nat} {Ns : NS} {σ : Env} {w : World} {Kv : Value → Prop} {Kn : (Value → World → Prop) → Prop} (V' : Value → World → Prop) (hV' : Stb w V')
    (h : ∀ σ' w', Later w w' → psis Ns σ w' σ' rs → vBuild P t (ps.map fun (i, x) => (i, ev σ' x)) (fun v w'' => Later w' w'' ∧ V' v w'') w') (hk : Kn V') : nR P (.build t ps) ty rs Ns σ w Kv Kn :=
  .inr ⟨V', hV', fun σ' w' hl hp => nUp_val (h σ' w' hl hp), hk⟩
end Go.Vc
end
section
set_option linter.unusedSimpArgs false
namespace Go.Vlt
/-- A file's bytes, and how many are safe, as they are found. -/
def fB' (k : ByteArray) (es : List VE) : List UInt8 := ((vFind k es).map VE.b).getD []
def fS' (k : ByteArray) (es : List VE) : Nat := ((vFind k es).map VE.safe).getD 0
end Go.Vlt
namespace Go.Proofs.Ytmfcnooleejgmaa
open Go.Vc Go.Vlt
set_option maxRecDepth 100000
def AppR (v : Value) (w' : World) (bk r : Nat) (room fuse : Int) (es : List VE) (c : Nat) (k : ByteArray) (bl : List UInt8) : Prop :=
  (v = .int .i64 31 ∧ nmOk k = false ∧ Vt w' bk r room fuse es c) ∨
  (v = .int .i64 272 ∧ nmOk k = true ∧ brn fuse = 0 ∧ Vt w' bk r room (brn fuse) es c) ∨
  (v = .int .i64 32 ∧ nmOk k = true ∧ brn fuse ≠ 0 ∧ (room - tot es < bl.length ∨ (vFind k es = none ∧ 200 ≤ es.length)) ∧ Vt w' bk r room (brn fuse) es c) ∨
  (v = .int .i64 0 ∧ nmOk k = true ∧ brn fuse ≠ 0 ∧ bl.length ≤ room - tot es ∧ (vFind k es = none → es.length < 200) ∧ ∃ sv, Vt w' bk r room (brn fuse) (ePut k (fB' k es ++ bl) (fS' k es) sv c es) (eTick k c es))
/-- A list's row of two slices. -/
def Two (a b : List UInt8) (v : Value) (w : World) : Prop := (∃ k, v = .slice (some ⟨k, 0, none⟩) 2 2) ∧ LL w v [a, b]
theorem stb_two (w0 : World) (a b : List UInt8) : Stb w0 (Two a b) := fun _ _ _ _ hl h => ⟨h.1, h.2.later hl⟩
def FileV (B : Nat) (l : List UInt8) (s : Nat) (v : Value) (w : World) : Prop := ∃ u, v = .agg #[u, .int .i64 s] ∧ OwnB w B 5 u l
theorem stb_file (w0 : World) (B : Nat) (l : List UInt8) (s : Nat) : Stb w0 (FileV B l s) := by
  rintro v w w' _ hl ⟨u, h1, h2⟩
  exact ⟨u, h1, h2.later hl⟩
theorem ll_two {w : World} {a b : Value} {la lb : List UInt8} (ha : Sl w a (la.map u8v)) (hb : Sl w b (lb.map u8v)) (e : TypeId) : LL (w.alloc (.cells #[a, b] e)) (.slice (some ⟨w.heap.size, 0, none⟩) 2 2) [la, lb] :=
  ⟨[a, b], Sl.lit w [a, b] e (by unfold maxLen; simp), rfl, fun i x l hx hl => by
    match i, hx, hl with
    | 0, hx, hl => cases hx; cases hl; exact Sl.later ha (later_alloc _ _)
    | 1, hx, hl => cases hx; cases hl; exact Sl.later hb (later_alloc _ _)
    | n + 2, hx, _ => simp at hx⟩
set_option maxHeartbeats 1000000 in
theorem append_c (bk r : Nat) (room fuse : Int) (es : List VE) (c : Nat) (k : ByteArray) (bv : Value) (bl : List UInt8) (w : World) (h : Vt w bk r room fuse es c) (hr : 0 ≤ room ∧ room ≤ 16777216) (ht : tot es ≤ 1000000000) (hf : -1 ≤ fuse ∧ fuse ≤ 9223372036854775807) (hN : NamedAt k) (hb : Sl w bv (bl.map u8v)) (hbj : ∃ j, inB j bv ∧ j ≠ bk) (hbl : bl.length ≤ 100000000) (hne : es.length ≤ 1000000) :
    FnC Try.prog 10 #[.pointer (some ⟨bk, 0, none⟩), .string k, bv] w fun v w' => AppR v w' bk r room fuse es c k bl ∧ Chg w w' [bk, r] := by
  obtain ⟨bo, bc, rfl⟩ := Sl.slice hb
  rw [List.length_map] at hb hbj ⊢
  refine enter10 _ _ _ ?_
  unfold B10
  repeat' (first | (simp (disch := omega) only [push_cast, ↓reduceIte, zA, zG, zB, zH, zI, zC, zJ, zK, zL, zD, zE, zF, zM, zN, zO, zP, zQ, reduceCtorEq, not_true_eq_false, not_false_eq_true]) | (first | refine vIfE_of ?_ ?_ | refine vIfD_of ?_ ?_ | refine vIfQ_of ?_ ?_ | refine vIfV_of ?_ ?_) <;> intro _ | refine And.intro (by omega) ?_ | refine drawn_q ?_ | fail)
  refine (may_c bk r room fuse es c k false w h hN).mono ?_
  rintro _ w1 ⟨rfl, l1⟩
  have h1 := h.later l1
  have c1 : Chg w w1 [bk, r] := Chg.of_later l1
  cases m1 : nmOk k with
  | false =>
    rw [if_pos (.inl rfl)]
    repeat' (first | (simp (disch := omega) only [push_cast, ↓reduceIte, zA, zG, zB, zH, zI, zC, zJ, zK, zL, zD, zE, zF, zM, zN, zO, zP, zQ, reduceCtorEq, not_true_eq_false, not_false_eq_true]) | (first | refine vIfE_of ?_ ?_ | refine vIfD_of ?_ ?_ | refine vIfQ_of ?_ ?_ | refine vIfV_of ?_ ?_) <;> intro _ | refine And.intro (by omega) ?_ | refine drawn_q ?_ | fail)
    exact ⟨.inl ⟨rfl, m1, h1⟩, c1⟩
  | true =>
  rw [if_neg (by simp)]
  repeat' (first | (simp (disch := omega) only [push_cast, ↓reduceIte, zA, zG, zB, zH, zI, zC, zJ, zK, zL, zD, zE, zF, zM, zN, zO, zP, zQ, reduceCtorEq, not_true_eq_false, not_false_eq_true]) | (first | refine vIfE_of ?_ ?_ | refine vIfD_of ?_ ?_ | refine vIfQ_of ?_ ?_ | refine vIfV_of ?_ ?_) <;> intro _ | refine And.intro (by omega) ?_ | refine drawn_q ?_ | fail)
  have hb1 := Sl.later hb l1
  refine (burns_c bk r room fuse es c w1 h1 hf).mono ?_
  rintro _ w2 ⟨⟨f, hfe, rfl, h2⟩, c2⟩
  have hfe : f = brn fuse := hfe
  subst hfe
  obtain ⟨bj, bj1, bj2⟩ := hbj
  have hb2 := Sl.chg hb1 c2 (by simpa using bj2) bj1
  have c02 : Chg w w2 [bk, r] := c1.trans (Chg.more c2 (by simp))
  by_cases hz : brn fuse = 0
  · rw [if_pos hz]
    repeat' (first | (simp (disch := omega) only [push_cast, ↓reduceIte, zA, zG, zB, zH, zI, zC, zJ, zK, zL, zD, zE, zF, zM, zN, zO, zP, zQ, reduceCtorEq, not_true_eq_false, not_false_eq_true]) | (first | refine vIfE_of ?_ ?_ | refine vIfD_of ?_ ?_ | refine vIfQ_of ?_ ?_ | refine vIfV_of ?_ ?_) <;> intro _ | refine And.intro (by omega) ?_ | refine drawn_q ?_ | fail)
    exact ⟨.inr (.inl ⟨rfl, m1, hz, h2⟩), c02⟩
  rw [if_neg hz]
  have f2 : w2.cell? ⟨bk, 2, none⟩ = some (.map (some r)) := h2.blk.cell 2
  repeat' (first | (simp (disch := omega) only [push_cast, ↓reduceIte, zA, zG, zB, zH, zI, zC, zJ, zK, zL, zD, zE, zF, zM, zN, zO, zP, zQ, reduceCtorEq, not_true_eq_false, not_false_eq_true, f2, addr_add_eq, Nat.zero_add]) | (first | refine vIfE_of ?_ ?_ | refine vIfD_of ?_ ?_ | refine vIfQ_of ?_ ?_ | refine vIfV_of ?_ ?_) <;> intro _ | refine And.intro (by omega) ?_ | refine drawn_q ?_ | fail)
  refine vLook_of Try.underlying55 Try.underlying9 zfile h2.map k true ?_
  have htn := tot_nn es
  obtain ⟨ol, os, fl, sn, is, hgot, hsl, hsn, hol, hinB⟩ : ∃ ol os fl sn is, mGot (.agg #[.slice none 0 0, .int .i64 0]) (mIdx k (es.map VE.ent) 0) true = .tuple #[.agg #[.slice ol (List.length fl) os, .int .i64 ((sn : Nat) : Int)], .bool is] ∧ Sl w2 (.slice ol fl.length os) (fl.map u8v) ∧ (is = (vFind k es).isSome ∧ fl = fB' k es ∧ sn = fS' k es) ∧ (fl.length : Int) ≤ tot es ∧ sn ≤ fl.length := by
    unfold fB' fS'
    rcases mIdx_ent k es 0 with ⟨g1, g2⟩ | ⟨e, j, he, g1, g2⟩
    · refine ⟨none, 0, [], 0, false, ?_, Sl.nil _, ?_, ?_, Nat.le_refl _⟩
      · rw [g2]; rfl
      · rw [g1]; exact ⟨rfl, rfl, rfl⟩
      · exact htn
    · have hok := h2.ok e he
      obtain ⟨os, cs, hsv⟩ := Sl.slice hok.sl
      rw [List.length_map] at hsv
      refine ⟨os, cs, e.b, e.safe, true, ?_, ?_, ?_, ?_, hok.safe⟩
      · rw [g2]; unfold mGot VE.val; rw [hsv]; rfl
      · rw [← hsv]; exact hok.sl
      · rw [g1]; exact ⟨rfl, rfl, rfl⟩
      · obtain ⟨t1, _⟩ := tot_out h2.nodup he
        have := tot_nn (es.filter fun x => !(x.born == e.born))
        omega
  rw [hgot]
  obtain ⟨his, hfl, hsn'⟩ := hsn
  repeat' (first | (simp (disch := omega) only [push_cast, ↓reduceIte, zA, zG, zB, zH, zI, zC, zJ, zK, zL, zD, zE, zF, zM, zN, zO, zP, zQ, reduceCtorEq, not_true_eq_false, not_false_eq_true]) | (first | refine vIfE_of ?_ ?_ | refine vIfD_of ?_ ?_ | refine vIfQ_of ?_ ?_ | refine vIfV_of ?_ ?_) <;> intro _ | refine And.intro (by omega) ?_ | refine drawn_q ?_ | fail)
  refine vStore_new rfl rfl (by intro u hu; simp at hu; rcases hu with rfl | rfl <;> rfl) ?_
  have l3 := later_alloc w2 (.cells #[.slice ol fl.length os, .int .i64 (sn : Int)] 61)
  have B3 := Blk.new w2 #[.slice ol fl.length os, .int .i64 (sn : Int)] 61
  have h3 := h2.later l3
  have hsl3 := Sl.later hsl l3
  have hb3 := Sl.later hb2 l3
  generalize w2.alloc (.cells #[.slice ol fl.length os, .int .i64 (sn : Int)] 61) = w3 at *
  generalize hkb : w2.heap.size = kb at *
  repeat' (first | (simp (disch := omega) only [push_cast, ↓reduceIte, zA, zG, zB, zH, zI, zC, zJ, zK, zL, zD, zE, zF, zM, zN, zO, zP, zQ, reduceCtorEq, not_true_eq_false, not_false_eq_true]) | (first | refine vIfE_of ?_ ?_ | refine vIfD_of ?_ ?_ | refine vIfQ_of ?_ ?_ | refine vIfV_of ?_ ?_) <;> intro _ | refine And.intro (by omega) ?_ | refine drawn_q ?_ | fail)
  refine (free_c bk r room (brn fuse) es c w3 h3 hr (by omega)).mono ?_
  rintro _ w4 ⟨rfl, l4⟩
  have h4 := h3.later l4
  have f4 : w4.cell? ⟨bk, 2, none⟩ = some (.map (some r)) := h4.blk.cell 2
  have hlen : (es.map VE.ent).length = es.length := List.length_map _
  have hms : (((es.map VE.ent).map mE).toArray.size : Int) = (es.length : Int) := by simp
  by_cases hb1 : room - tot es < bl.length
  · have hd := decide_eq_true hb1
    repeat' (first | (simp (disch := omega) only [push_cast, ↓reduceIte, zA, zG, zB, zH, zI, zC, zJ, zK, zL, zD, zE, zF, zM, zN, zO, zP, zQ, reduceCtorEq, not_true_eq_false, not_false_eq_true, f4, hd, decide_true, addr_add_eq, Nat.zero_add]) | (first | refine vIfE_of ?_ ?_ | refine vIfD_of ?_ ?_ | refine vIfQ_of ?_ ?_ | refine vIfV_of ?_ ?_) <;> intro _ | refine And.intro (by omega) ?_ | refine drawn_q ?_ | fail)
    exact ⟨.inr (.inr (.inl ⟨rfl, m1, hz, .inl hb1, h4⟩)), c02.trans (Chg.of_later (l3.trans l4))⟩
  have hd := decide_eq_false hb1
  by_cases hfull : vFind k es = none ∧ 200 ≤ es.length
  · have hisf : is = false := by rw [his, hfull.1]; rfl
    have hd2 : decide ((200 : Int) ≤ (es.length : Int)) = true := decide_eq_true (by omega)
    subst hisf
    repeat' (first | (simp (disch := omega) only [push_cast, ↓reduceIte, zA, zG, zB, zH, zI, zC, zJ, zK, zL, zD, zE, zF, zM, zN, zO, zP, zQ, reduceCtorEq, not_true_eq_false, not_false_eq_true, f4, hd, decide_false, addr_add_eq, Nat.zero_add]) | (first | refine vIfE_of ?_ ?_ | refine vIfD_of ?_ ?_ | refine vIfQ_of ?_ ?_ | refine vIfV_of ?_ ?_) <;> intro _ | refine And.intro (by omega) ?_ | refine drawn_q ?_ | fail)
    refine ⟨_, _, h4.map, ?_⟩
    rw [hms]
    repeat' (first | (simp (disch := omega) only [push_cast, ↓reduceIte, zA, zG, zB, zH, zI, zC, zJ, zK, zL, zD, zE, zF, zM, zN, zO, zP, zQ, reduceCtorEq, not_true_eq_false, not_false_eq_true, hd2, decide_true]) | (first | refine vIfE_of ?_ ?_ | refine vIfD_of ?_ ?_ | refine vIfQ_of ?_ ?_ | refine vIfV_of ?_ ?_) <;> intro _ | refine And.intro (by omega) ?_ | refine drawn_q ?_ | fail)
    exact ⟨.inr (.inr (.inl ⟨rfl, m1, hz, .inr hfull, h4⟩)), c02.trans (Chg.of_later (l3.trans l4))⟩
  have tail : ∀ σ : Env, True := fun _ => trivial
  have B4 := B3.chg (Chg.of_later (ks := []) l4) (by simp)
  have hsl4 := Sl.later hsl3 l4
  have hb4 := Sl.later hb3 l4
  have fc0 : w4.cell? ⟨kb, 0, none⟩ = some (.slice ol fl.length os) := B4.cell 0
  have fc1 : w4.cell? ⟨kb, 1, none⟩ = some (.int .i64 (sn : Int)) := B4.cell 1
  have hroom : vFind k es = none → es.length < 200 := fun h0 => by
    have : ¬ (200 ≤ es.length) := fun h1 => hfull ⟨h0, h1⟩
    omega
  cases hisc : is
  case' true => repeat' (first | (simp (disch := omega) only [push_cast, ↓reduceIte, zA, zG, zB, zH, zI, zC, zJ, zK, zL, zD, zE, zF, zM, zN, zO, zP, zQ, reduceCtorEq, not_true_eq_false, not_false_eq_true, f4, hd, decide_false, addr_add_eq, Nat.zero_add]) | (first | refine vIfE_of ?_ ?_ | refine vIfD_of ?_ ?_ | refine vIfQ_of ?_ ?_ | refine vIfV_of ?_ ?_) <;> intro _ | refine And.intro (by omega) ?_ | fail)
  case' false =>
    have h0 : vFind k es = none := by
      cases hv : vFind k es with
      | none => rfl
      | some e => rw [hisc, hv] at his; cases his
    have hd2 : decide ((200 : Int) ≤ (es.length : Int)) = false := decide_eq_false (by have := hroom h0; omega)
    repeat' (first | (simp (disch := omega) only [push_cast, ↓reduceIte, zA, zG, zB, zH, zI, zC, zJ, zK, zL, zD, zE, zF, zM, zN, zO, zP, zQ, reduceCtorEq, not_true_eq_false, not_false_eq_true, f4, hd, decide_false, addr_add_eq, Nat.zero_add]) | (first | refine vIfE_of ?_ ?_ | refine vIfD_of ?_ ?_ | refine vIfQ_of ?_ ?_ | refine vIfV_of ?_ ?_) <;> intro _ | refine And.intro (by omega) ?_ | fail)
    refine ⟨_, _, h4.map, ?_⟩
    rw [hms]
    repeat' (first | (simp (disch := omega) only [push_cast, ↓reduceIte, zA, zG, zB, zH, zI, zC, zJ, zK, zL, zD, zE, zF, zM, zN, zO, zP, zQ, reduceCtorEq, not_true_eq_false, not_false_eq_true, hd2, decide_false]) | (first | refine vIfE_of ?_ ?_ | refine vIfD_of ?_ ?_ | refine vIfQ_of ?_ ?_ | refine vIfV_of ?_ ?_) <;> intro _ | refine And.intro (by omega) ?_ | fail)
  all_goals
    refine drawn_k 13 ?_
    repeat' (first | (simp (disch := omega) only [push_cast, ↓reduceIte, zA, zG, zB, zH, zI, zC, zJ, zK, zL, zD, zE, zF, zM, zN, zO, zP, zQ, reduceCtorEq, not_true_eq_false, not_false_eq_true, f4, fc0, fc1, addr_add_eq, Nat.zero_add]) | (first | refine vIfE_of ?_ ?_ | refine vIfD_of ?_ ?_ | refine vIfQ_of ?_ ?_ | refine vIfV_of ?_ ?_) <;> intro _ | refine And.intro (by omega) ?_ | fail)
    refine nB_of _ (Two fl bl) (stb_two _ _ _) (fun w' hl => ?_) ?_
    · repeat' (first | (simp (disch := omega) only [push_cast, ↓reduceIte, zA, zG, zB, zH, zI, zC, zJ, zK, zL, zD, zE, zF, zM, zN, zO, zP, zQ, reduceCtorEq, not_true_eq_false, not_false_eq_true]) | (first | refine vIfE_of ?_ ?_ | refine vIfD_of ?_ ?_ | refine vIfQ_of ?_ ?_ | refine vIfV_of ?_ ?_) <;> intro _ | refine And.intro (by omega) ?_ | fail)
      exact ⟨later_alloc _ _, ⟨_, rfl⟩, ll_two (Sl.later hsl4 hl) (Sl.later hb4 hl) _⟩
    repeat' (first | (simp (disch := omega) only [push_cast, ↓reduceIte, zA, zG, zB, zH, zI, zC, zJ, zK, zL, zD, zE, zF, zM, zN, zO, zP, zQ, reduceCtorEq, not_true_eq_false, not_false_eq_true, f4, fc0, fc1, addr_add_eq, Nat.zero_add]) | (first | refine vIfE_of ?_ ?_ | refine vIfD_of ?_ ?_ | refine vIfQ_of ?_ ?_ | refine vIfV_of ?_ ?_) <;> intro _ | refine And.intro (by omega) ?_ | fail)
    refine nR_fnV hb33 (fun v w' => OwnB w' w4.heap.size 5 v (fl ++ bl)) (fun _ _ _ _ hl h => h.later hl) (fun σ' w' hl hp => ?_) ?_
    · obtain ⟨hp56, _⟩ := hp
      have h56 : Two fl bl (σ' 56) w' := hp56
      have ea : Array.map (ev σ') #[Operand.tmp 56] = #[σ' 56] := by simp [ev]
      rw [ea]
      refine (concat_c _ [fl, bl] w' h56.2 (by simp only [List.flatten_cons, List.flatten_nil, List.append_nil, List.length_append]; omega)).mono ?_
      rintro v w'' ⟨hv, hl'⟩
      have hv : OwnB w'' w'.heap.size 5 v (fl ++ bl) := by simpa using hv
      exact ⟨hv.base hl.size, hl'⟩
    repeat' (first | (simp (disch := omega) only [push_cast, ↓reduceIte, zA, zG, zB, zH, zI, zC, zJ, zK, zL, zD, zE, zF, zM, zN, zO, zP, zQ, reduceCtorEq, not_true_eq_false, not_false_eq_true, f4, fc0, fc1, addr_add_eq, Nat.zero_add]) | (first | refine vIfE_of ?_ ?_ | refine vIfD_of ?_ ?_ | refine vIfQ_of ?_ ?_ | refine vIfV_of ?_ ?_) <;> intro _ | refine And.intro (by omega) ?_ | fail)
    refine nR_bldV (FileV w4.heap.size (fl ++ bl) sn) (stb_file _ _ _ _) (fun σ' w' hl hp => ?_) ?_
    · obtain ⟨hp57, hp59, _⟩ := hp
      have h57 : OwnB w' w4.heap.size 5 (σ' 57) (fl ++ bl) := hp57
      have h59 : σ' 59 = .int .i64 (sn : Int) := hp59
      obtain ⟨o3, c3, hv⟩ := h57.slice
      rw [hv] at h57
      repeat' (first | (simp (disch := omega) only [push_cast, ↓reduceIte, zA, zG, zB, zH, zI, zC, zJ, zK, zL, zD, zE, zF, zM, zN, zO, zP, zQ, reduceCtorEq, not_true_eq_false, not_false_eq_true, h59, hv]) | (first | refine vIfE_of ?_ ?_ | refine vIfD_of ?_ ?_ | refine vIfQ_of ?_ ?_ | refine vIfV_of ?_ ?_) <;> intro _ | refine And.intro (by omega) ?_ | fail)
      exact ⟨Later.refl _, _, rfl, h57⟩
    repeat' (first | (simp (disch := omega) only [push_cast, ↓reduceIte, zA, zG, zB, zH, zI, zC, zJ, zK, zL, zD, zE, zF, zM, zN, zO, zP, zQ, reduceCtorEq, not_true_eq_false, not_false_eq_true]) | (first | refine vIfE_of ?_ ?_ | refine vIfD_of ?_ ?_ | refine vIfQ_of ?_ ?_ | refine vIfV_of ?_ ?_) <;> intro _ | refine And.intro (by omega) ?_ | fail)
    rintro w5 l5 _ ⟨u, rfl, hu⟩ _ _ _ _
    have h5 := h4.later l5
    have hp := Vt.put h5 k (b := fl ++ bl) (s := sn) (sv := u) hu.sl (InT.of_own hu) (by rw [List.length_append]; omega)
    have c5 := chg_setB (w := w5) (r := r) (ks := [bk, r]) (by simp) (.map ((mPut k (.agg #[u, .int .i64 (sn : Nat)]) c (es.map VE.ent)).map mE).toArray (mTick k c (es.map VE.ent)))
    refine vUpd_of Try.underlying55 Try.underlying9 h5.map k _ ?_
    generalize setB w5 r (.map ((mPut k (.agg #[u, .int .i64 (sn : Nat)]) c (es.map VE.ent)).map mE).toArray (mTick k c (es.map VE.ent))) = w6 at *
    repeat' (first | (simp (disch := omega) only [push_cast, ↓reduceIte, zA, zG, zB, zH, zI, zC, zJ, zK, zL, zD, zE, zF, zM, zN, zO, zP, zQ, reduceCtorEq, not_true_eq_false, not_false_eq_true]) | (first | refine vIfE_of ?_ ?_ | refine vIfD_of ?_ ?_ | refine vIfQ_of ?_ ?_ | refine vIfV_of ?_ ?_) <;> intro _ | refine And.intro (by omega) ?_ | refine drawn_q ?_ | fail)
    exact ⟨.inr (.inr (.inr ⟨rfl, m1, hz, by omega, hroom, u, by rw [← hfl, ← hsn']; exact hp⟩)), c02.trans ((Chg.of_later (l3.trans (l4.trans l5))).trans c5)⟩
end Go.Proofs.Ytmfcnooleejgmaa
end
section
namespace Go.Proofs
open Go.Shelf
def Try.lays190_ren : Go.Shelf.Ren := ⟨fun | 190 => 48 | 125 => 60 | 258 => 59 | 128 => 72 | 129 => 73 | 302 => 63 | 303 => 64 | 304 => 65 | 305 => 66 | 306 => 67 | 307 => 68 | 308 => 69 | 309 => 70 | 310 => 71 | 333 => 79 | 329 => 80 | 330 => 81 | 334 => 82 | 335 => 83 | 336 => 84 | 344 => 86 | n => n, fun | 31 => 40 | 9 => 9 | 3 => 3 | 46 => 90 | 0 => 0 | 51 => 102 | 53 => 104 | 4 => 4 | 183 => 95 | 182 => 94 | 131 => 75 | 5 => 5 | 218 => 109 | 222 => 113 | 228 => 115 | 229 => 116 | n => n, fun | n => n⟩
theorem Try.lays190 : Go.Proofs.Lays.n190 Try.prog Try.lays190_ren := {
  mixed := by kernel_rfl
  f125 := Try.func60.trans (congrArg some (by kernel_rfl))
  f128 := Try.func72.trans (congrArg some (by kernel_rfl))
  f129 := Try.func73.trans (congrArg some (by kernel_rfl))
  f190 := Try.func48.trans (congrArg some (by kernel_rfl))
  f258 := Try.func59.trans (congrArg some (by kernel_rfl))
  f302 := Try.func63.trans (congrArg some (by kernel_rfl))
  f303 := Try.func64.trans (congrArg some (by kernel_rfl))
  f304 := Try.func65.trans (congrArg some (by kernel_rfl))
  f305 := Try.func66.trans (congrArg some (by kernel_rfl))
  f306 := Try.func67.trans (congrArg some (by kernel_rfl))
  f307 := Try.func68.trans (congrArg some (by kernel_rfl))
  f308 := Try.func69.trans (congrArg some (by kernel_rfl))
  f309 := Try.func70.trans (congrArg some (by kernel_rfl))
  f310 := Try.func71.trans (congrArg some (by kernel_rfl))
  f329 := Try.func80.trans (congrArg some (by kernel_rfl))
  f330 := Try.func81.trans (congrArg some (by kernel_rfl))
  f333 := Try.func79.trans (congrArg some (by kernel_rfl))
  f334 := Try.func82.trans (congrArg some (by kernel_rfl))
  f335 := Try.func83.trans (congrArg some (by kernel_rfl))
  f336 := Try.func84.trans (congrArg some (by kernel_rfl))
  f344 := Try.func86.trans (congrArg some (by kernel_rfl))
  t0 := Try.underlying0
  a0 := Try.isAgg0
  z0 := Try.sizeOf0
  v0 := Try.zeroValue0
  t3 := Try.underlying3
  a3 := Try.isAgg3
  z3 := Try.sizeOf3
  v3 := Try.zeroValue3
  t4 := Try.underlying4
  a4 := Try.isAgg4
  z4 := Try.sizeOf4
  v4 := Try.zeroValue4
  t5 := Try.underlying5
  a5 := Try.isAgg5
  z5 := Try.sizeOf5
  v5 := Try.zeroValue5
  t9 := Try.underlying9
  a9 := Try.isAgg9
  z9 := Try.sizeOf9
  v9 := Try.zeroValue9
  t31 := Try.underlying40
  a31 := Try.isAgg40
  z31 := Try.sizeOf40
  v31 := Try.zeroValue40
  t46 := Try.underlying90
  a46 := Try.isAgg90
  z46 := Try.sizeOf90
  v46 := Try.zeroValue90
  t51 := Try.underlying102
  a51 := Try.isAgg102
  z51 := Try.sizeOf102
  v51 := Try.zeroValue102
  t53 := Try.underlying104
  a53 := Try.isAgg104
  z53 := Try.sizeOf104
  v53 := Try.zeroValue104
  t131 := Try.underlying75
  a131 := Try.isAgg75
  z131 := Try.sizeOf75
  v131 := Try.zeroValue75
  t182 := Try.underlying94
  a182 := Try.isAgg94
  z182 := Try.sizeOf94
  v182 := Try.zeroValue94
  t183 := Try.underlying95
  a183 := Try.isAgg95
  z183 := Try.sizeOf95
  v183 := Try.zeroValue95
  t218 := Try.underlying109
  a218 := Try.isAgg109
  z218 := Try.sizeOf109
  v218 := Try.zeroValue109
  t222 := Try.underlying113
  a222 := Try.isAgg113
  z222 := Try.sizeOf113
  v222 := Try.zeroValue113
  t228 := Try.underlying115
  a228 := Try.isAgg115
  z228 := Try.sizeOf115
  v228 := Try.zeroValue115
  t229 := Try.underlying116
  a229 := Try.isAgg116
  z229 := Try.sizeOf116
  v229 := Try.zeroValue116 }
def Try.laysGw17_ren : Go.Shelf.Ren := ⟨fun | 17 => 55 | 15 => 61 | 20 => 74 | n => n, fun | 9 => 9 | 23 => 86 | 4 => 4 | 3 => 3 | 0 => 0 | 21 => 21 | n => n, fun | n => n⟩
theorem Try.laysGw17 : Go.Proofs.LaysGw.n17 Try.prog Try.laysGw17_ren := {
  mixed := by kernel_rfl
  f15 := Try.func61.trans (congrArg some (by kernel_rfl))
  f17 := Try.func55.trans (congrArg some (by kernel_rfl))
  f20 := Try.func74.trans (congrArg some (by kernel_rfl))
  t0 := Try.underlying0
  a0 := Try.isAgg0
  z0 := Try.sizeOf0
  v0 := Try.zeroValue0
  i0 := by kernel_rfl
  t3 := Try.underlying3
  a3 := Try.isAgg3
  z3 := Try.sizeOf3
  v3 := Try.zeroValue3
  i3 := by kernel_rfl
  t4 := Try.underlying4
  a4 := Try.isAgg4
  z4 := Try.sizeOf4
  v4 := Try.zeroValue4
  i4 := by kernel_rfl
  t9 := Try.underlying9
  a9 := Try.isAgg9
  z9 := Try.sizeOf9
  v9 := Try.zeroValue9
  i9 := by kernel_rfl
  t21 := Try.underlying21
  a21 := Try.isAgg21
  z21 := Try.sizeOf21
  v21 := Try.zeroValue21
  i21 := by kernel_rfl
  t23 := Try.underlying86
  a23 := Try.isAgg86
  z23 := Try.sizeOf86
  v23 := Try.zeroValue86
  i23 := by kernel_rfl }
def Try.lays151_ren : Go.Shelf.Ren := ⟨fun | 151 => 57 | 152 => 62 | 137 => 75 | 119 => 76 | 224 => 77 | 225 => 78 | 217 => 85 | 266 => 87 | n => n, fun | 9 => 9 | 21 => 21 | 4 => 4 | 3 => 3 | 5 => 5 | 0 => 0 | 46 => 90 | n => n, fun | n => n⟩
theorem Try.lays151 : Go.Proofs.Lays.n151 Try.prog Try.lays151_ren := {
  mixed := by kernel_rfl
  f119 := Try.func76.trans (congrArg some (by kernel_rfl))
  f137 := Try.func75.trans (congrArg some (by kernel_rfl))
  f151 := Try.func57.trans (congrArg some (by kernel_rfl))
  f152 := Try.func62.trans (congrArg some (by kernel_rfl))
  f217 := Try.func85.trans (congrArg some (by kernel_rfl))
  f224 := Try.func77.trans (congrArg some (by kernel_rfl))
  f225 := Try.func78.trans (congrArg some (by kernel_rfl))
  f266 := Try.func87.trans (congrArg some (by kernel_rfl))
  t0 := Try.underlying0
  a0 := Try.isAgg0
  z0 := Try.sizeOf0
  v0 := Try.zeroValue0
  t3 := Try.underlying3
  a3 := Try.isAgg3
  z3 := Try.sizeOf3
  v3 := Try.zeroValue3
  t4 := Try.underlying4
  a4 := Try.isAgg4
  z4 := Try.sizeOf4
  v4 := Try.zeroValue4
  t5 := Try.underlying5
  a5 := Try.isAgg5
  z5 := Try.sizeOf5
  v5 := Try.zeroValue5
  t9 := Try.underlying9
  a9 := Try.isAgg9
  z9 := Try.sizeOf9
  v9 := Try.zeroValue9
  t21 := Try.underlying21
  a21 := Try.isAgg21
  z21 := Try.sizeOf21
  v21 := Try.zeroValue21
  t46 := Try.underlying90
  a46 := Try.isAgg90
  z46 := Try.sizeOf90
  v46 := Try.zeroValue90 }
open Go.Sort Go.RowKit in
theorem Try.slices_Sort_string (blk off cap : Nat) (ss : List (List UInt8)) (w : World) (hH : Holds encStr w blk off ss.toArray) (hblk : blk < w.heap.size) (hsz : ss.length < 4611686018427387904) :
    Calls Try.prog 48 #[.slice (some ⟨blk, off, none⟩) ss.length cap] w fun e w' =>
      e = .returned (.tuple #[]) ∧ ∃ n os, w' = grow (putRow encStr (Sort.ahead w n) blk off (ss.mergeSort fun x y => decide (x ≤ y)).toArray) os := Any.slices_Sort_string Try.lays190 blk off cap ss w hH hblk hsz
open Go.RowKit Go.Lib in
theorem Try.strings_ContainsRune_ascii (s : ByteArray) (r : Int) (w : World) (h0 : 0 ≤ r) (h1 : r < 128) :
    Calls Try.prog 57 #[.string s, .int .i32 r] w fun e w' => e = .returned (.bool (decide (0 ≤ Lib.indexByte s.data.toList r.toNat.toUInt8))) ∧ w' = w := Any.strings_ContainsRune_ascii Try.lays151 s r w h0 h1
open Go.RowKit Go.Lib in
theorem Try.strings_ContainsFunc_grows (g : Nat) (lb : Array Value) (eg : ∀ args w, (callFunc g args).run Try.prog w = .ok (.enter g args) w) (p : Nat → Bool) (s : ByteArray) (w : World) (hp : PredGrows Try.prog g lb p w) :
    Calls Try.prog 55 #[.string s, .func (.func g) #[] lb] w fun e w' => e = .returned (.bool (decide (0 ≤ Lib.idxFunc p true s))) ∧ Below w.heap.size w w' := Any.strings_ContainsFunc_grows Try.laysGw17 g lb eg p s w hp
open Go.RowKit Go.Sort in
theorem Try.slices_Sort_string_none (p : Option Addr) (cap : Nat) (w : World) :
    Calls Try.prog 48 #[.slice p 0 cap] w fun e w' => e = .returned (.tuple #[]) ∧ w' = w := Any.slices_Sort_string_none Try.lays190 p cap w
end Go.Proofs
end
section
/- strings.ContainsAny of a quotation mark and a backslash, at any text: it tells something (what, for texts of 7 bits, the kit's contracts say). -/
namespace Go.Proofs
open Go.Shelf Go.RowKit Go.Lib BigFrame
variable {P : Program} {ρ : Ren}
set_option maxHeartbeats 4000000 in
set_option maxRecDepth 1000000 in
theorem Any.IndexRune_high_s (L : Lays.n152 P ρ) (s : ByteArray) (hs : s.size ≤ 1000000) (has : ∀ i (h : i < s.size), s[i].toNat < 128) (r : Int) (w : World) (h1 : 128 ≤ r) (hne : ¬ r = 65533) (hv : Utf8.valid r = true) :
    Calls P (ρ.f 152) #[.string s, .int .i32 r] w fun e w' => e = .returned (.int .i64 (-1)) ∧ ∃ n, w' = w.drewN n := by
  obtain ⟨g1, g2, g3⟩ := encode_facts r hv h1
  have hvr : Lib.validRune r = true := by
    have := validRune_eq r
    rw [hv] at this
    unfold Go.validRune at this
    unfold Lib.validRune
    exact this.symm
  have mixed := L.mixed
  have t3 := L.t3; have a3 := L.a3; have z3 := L.z3; have v3 := L.v3
  have t4 := L.t4; have a4 := L.a4; have z4 := L.z4; have v4 := L.v4
  have t5 := L.t5; have a5 := L.a5; have z5 := L.z5; have v5 := L.v5
  have t9 := L.t9; have a9 := L.a9; have z9 := L.z9; have v9 := L.v9
  have t21 := L.t21; have a21 := L.a21; have z21 := L.z21; have v21 := L.v21
  have e119 : ∀ args w, (callFunc (ρ.f 119) args).run P w = .ok (.enter (ρ.f 119) args) w := enters_of L.f119 (by kernel_rfl) rfl
  go_enter L.f152, Body.n152_ntmps ρ
  go_wp2_with (go_at_fn (ρ.f 119); refine (Any.utf8_ValidRune { L with } _ _).mono ?_; rintro e w' ⟨rfl, hw⟩; rw [hw, hvr])
  subst hw
  have hcv : ∀ w, (convert (ρ.t 21) (ρ.t 9) (.int .i32 r)).run P w = .ok (.string (Utf8.encode r)) w := fun w => run_convert_int_string w _ _ _ _ (by rw [t21]; rfl) t9
  generalize Utf8.encode r = rs at *
  clear hv hvr
  obtain ⟨n, hn⟩ : ∃ n, rs.size = n + 1 := ⟨rs.size - 1, by omega⟩
  by_cases h2 : n < s.size
  · have hlt : (n : Int) < (s.size : Int) := by omega
    have g4 : 128 ≤ (rs[n]'(by omega)).toNat := by
      have := g3 (by omega)
      simpa only [hn, Nat.add_sub_cancel] using this
    clear g3
    go_step3
    go_wp2
    go_rounds 1
    obtain ⟨x, hx⟩ : ∃ x : UInt8, ∀ h, s[n]'h = x := ⟨s[n]'h2, fun _ => rfl⟩
    obtain ⟨y, hy⟩ : ∃ y : UInt8, ∀ h, rs[n]'h = y := ⟨rs[n]'(by omega), fun _ => rfl⟩
    rw [hy] at g4
    have hx1 : x.toNat < 128 := by rw [← hx h2]; exact has n h2
    have hb1 : (0 : Int) ≤ (n : Int) ∧ (n : Int) < (s.size : Int) := by omega
    have hb2 : (0 : Int) ≤ (n : Int) ∧ (n : Int) < (rs.size : Int) := by omega
    have hb3 : (n : Int) < (rs.size : Int) := by omega
    go_step3
    refine wp_seq_k fun K1 hK1 => ?_
    refine wp_seq_k fun K2 hK2 => ?_
    go_big_quiet_o (fail)
    refine hK2 _ _ ?_
    clear hK2
    have exy : ((x.toNat : Int) != (y.toNat : Int)) = true := by
      rw [bne_iff_ne]
      omega
    rw [exy]
    go_wp2
    have e137 : ∀ args w, (callFunc (ρ.f 137) args).run P w = .ok (.enter (ρ.f 137) args) w := enters_of L.f137 (by kernel_rfl) rfl
    have hIB := fun (t : ByteArray) (w : World) => Any.strings_IndexByte (P := P) (ρ := ρ) { L with } t (y.toNat : Int) w
    obtain ⟨w1, hw1⟩ : ∃ w1, w'.drewN nq = w1 := ⟨_, rfl⟩
    rw [hw1]
    have hb4 : (0 : Int) ≤ (n : Int) + 1 ∧ (n : Int) + 1 ≤ (s.size : Int) := by omega
    go_big_quiet_o (first | (go_at_fn (ρ.f 137); refine Calls.quiet_of_same (hIB _ _)))
    have hneg : Lib.indexByte (s.extract (n + 1) s.size).data.toList (y.toNat : Int).toNat.toUInt8 = -1 := by
      have hyy : (y.toNat : Int).toNat.toUInt8 = y := by simp
      rw [hyy]
      have hall : ∀ b ∈ (s.extract (n + 1) s.size).data.toList, b ≠ y := fun b hb he => by
        have hm := mem_extract hb
        obtain ⟨i, hi, rfl⟩ := List.getElem_of_mem hm
        have := has i (by simpa using hi)
        have e1 : s[i]'(by simpa using hi) = s.data.toList[i] := rfl
        rw [e1, he] at this
        omega
      generalize (s.extract (n + 1) s.size).data.toList = l at hall
      induction l with
      | nil => rfl
      | cons b l ih =>
        have h1 : (b == y) = false := beq_eq_false_iff_ne.2 (hall b (by simp))
        have h2 := ih fun c hc => hall c (List.mem_cons_of_mem _ hc)
        simp [Lib.indexByte, h1, h2]
    rw [hneg]
    go_wp2
    rw [Exit.noGoto_ret]
    simp only [Exit.inBlock, Exit.then, Exit.noGoto_ret]
    go_ret
    rw [← hw1, World.drewN_drewN]
    exact ⟨rfl, _, rfl⟩
  · have hlt : ¬ ((n : Int) < (s.size : Int)) := by omega
    clear g3
    go_step3
    go_wp2
    go_rounds 1
    rw [Exit.noGoto_ret]
    go_ret
    exact ⟨rfl, 0, rfl⟩
set_option maxHeartbeats 4000000 in
set_option maxRecDepth 1000000 in
theorem Any.IndexRune_bad_s (L : Lays.n152 P ρ) (s : ByteArray) (r : Int) (w : World) (h1 : 128 ≤ r) (hne : ¬ r = 65533) (hv : Utf8.valid r = false) :
    Calls P (ρ.f 152) #[.string s, .int .i32 r] w fun e w' => e = .returned (.int .i64 (-1)) ∧ w' = w := by
  have hvr : Lib.validRune r = false := by
    have := validRune_eq r
    rw [hv] at this
    unfold Go.validRune at this
    unfold Lib.validRune
    exact this.symm
  have mixed := L.mixed
  have t3 := L.t3; have a3 := L.a3; have z3 := L.z3; have v3 := L.v3
  have t4 := L.t4; have a4 := L.a4; have z4 := L.z4; have v4 := L.v4
  have t5 := L.t5; have a5 := L.a5; have z5 := L.z5; have v5 := L.v5
  have t9 := L.t9; have a9 := L.a9; have z9 := L.z9; have v9 := L.v9
  have t21 := L.t21; have a21 := L.a21; have z21 := L.z21; have v21 := L.v21
  have e119 : ∀ args w, (callFunc (ρ.f 119) args).run P w = .ok (.enter (ρ.f 119) args) w := enters_of L.f119 (by kernel_rfl) rfl
  go_enter L.f152, Body.n152_ntmps ρ
  go_wp2_with (go_at_fn (ρ.f 119); refine (Any.utf8_ValidRune { L with } _ _).mono ?_; rintro e w' ⟨rfl, hw⟩; rw [hw, hvr])
  go_ret
  exact ⟨rfl, rfl⟩
theorem below_drewN_s (w : World) (n : Nat) : Below w.heap.size w (w.drewN n) := ⟨rfl, rfl, rfl, Nat.le_refl _, fun _ _ => rfl⟩
set_option maxHeartbeats 8000000 in
set_option maxRecDepth 1000000 in
theorem Any.IndexRune_err_s (L : Lays.n152 P ρ) (s : ByteArray) (has : ∀ i (h : i < s.size), s[i].toNat < 128) (hs : s.size ≤ 1000000) (w : World) :
    Calls P (ρ.f 152) #[.string s, .int .i32 65533] w fun e w' => e = .returned (.int .i64 (-1)) ∧ Below w.heap.size w w' := by
  have mixed := L.mixed
  have t3 := L.t3; have a3 := L.a3; have z3 := L.z3; have v3 := L.v3
  have t4 := L.t4; have a4 := L.a4; have z4 := L.z4; have v4 := L.v4
  have t5 := L.t5; have a5 := L.a5; have z5 := L.z5; have v5 := L.v5
  have t9 := L.t9; have a9 := L.a9; have z9 := L.z9; have v9 := L.v9
  have t21 := L.t21; have a21 := L.a21; have z21 := L.z21; have v21 := L.v21
  go_enter L.f152, Body.n152_ntmps ρ
  go_wp2
  go_loopw [5, 6] (fun _ _ wr => ∃ pos : Nat, wr.heap[w.heap.size]? = some (.stringIter s pos) ∧ Below w.heap.size w wr) (fun _ _ wr => s.size - wr.iterPos w.heap.size)
  case atStart => exact ⟨0, World.iter_heap w s 0, (Below.refl _ _).alloc (Nat.le_refl _) _⟩
  case round =>
    obtain ⟨pos, hit, hbw⟩ := hrel
    have hsz : w.heap.size < wr.heap.size := (Array.getElem?_eq_some_iff.1 hit).1
    by_cases hp : pos < s.size
    · have hnx : ∀ ty, (Instr.next (.pointer (some ⟨w.heap.size, 0, none⟩)) true ty).run P wr = _ := fun ty => Lib.run_next_any_at wr w.heap.size s pos ty hit hp
      have hdec := decode_ascii s pos hp (has pos hp)
      rw [hdec] at hnx
      have hit2 := Lib.iterAt_heap wr w.heap.size s pos (pos + 1) hit
      have hbw2 := Lib.below_iterAt hbw (k := w.heap.size) (by omega) s (pos + 1)
      have hdn : ¬ ((s[pos].toNat : Int) = 65533) := by have := has pos hp; omega
      have hdn2 : ((s[pos].toNat : Int) == 65533) = false := beq_eq_false_iff_ne.2 hdn
      go_wp2
      refine ⟨⟨_, hit2, hbw2⟩, ?_⟩
      simp only [World.iterPos, hit2, hit]
      omega
    · have hnx : ∀ ty, (Instr.next (.pointer (some ⟨w.heap.size, 0, none⟩)) true ty).run P wr = _ := fun ty => Lib.run_next_end_at wr w.heap.size s pos ty hit hp
      go_wp2
      go_ret
      exact ⟨rfl, hbw⟩
/-- A rune from 128 on is not in a text of seven bits. -/
theorem Any.IndexRune_out (L : Lays.n152 P ρ) (s : ByteArray) (hs : s.size ≤ 1000000) (has : ∀ i (h : i < s.size), s[i].toNat < 128) (r : Int) (w : World) (h1 : 128 ≤ r) :
    Calls P (ρ.f 152) #[.string s, .int .i32 r] w fun e w' => e = .returned (.int .i64 (-1)) ∧ Below w.heap.size w w' := by
  by_cases hne : r = 65533
  · subst hne
    exact Any.IndexRune_err_s L s has hs w
  cases hv : Utf8.valid r with
  | false => exact (Any.IndexRune_bad_s L s r w (by omega) hne hv).mono fun e w' ⟨h, hw⟩ => ⟨h, hw ▸ Below.refl _ _⟩
  | true => exact (Any.IndexRune_high_s L s hs has r w (by omega) hne hv).mono fun e w' ⟨h, n, hw⟩ => ⟨h, hw ▸ below_drewN_s w n⟩
theorem Any.ContainsRune_out (L : Lays.n151 P ρ) (s : ByteArray) (hs : s.size ≤ 1000000) (has : ∀ i (h : i < s.size), s[i].toNat < 128) (r : Int) (w : World) (h1 : 128 ≤ r) :
    Calls P (ρ.f 151) #[.string s, .int .i32 r] w fun e w' => e = .returned (.bool false) ∧ Below w.heap.size w w' := by
  have c := Any.IndexRune_out (P := P) (ρ := ρ) { L with } s hs has r w h1
  have t3 := L.t3; have a3 := L.a3; have z3 := L.z3; have v3 := L.v3
  have t4 := L.t4; have a4 := L.a4; have z4 := L.z4; have v4 := L.v4
  have t9 := L.t9; have a9 := L.a9; have z9 := L.z9; have v9 := L.v9
  have t21 := L.t21; have a21 := L.a21; have z21 := L.z21; have v21 := L.v21
  have e152 : ∀ args w, (callFunc (ρ.f 152) args).run P w = .ok (.enter (ρ.f 152) args) w := enters_of L.f152 (by kernel_rfl) rfl
  go_enter L.f151, Body.n151_ntmps ρ
  go_wp2_with (go_at_fn (ρ.f 152); refine c.mono ?_; rintro e w' ⟨rfl, hw⟩)
  go_ret
  exact ⟨rfl, hw⟩
end Go.Proofs
end
section
namespace Go.Vc
open Go.RowKit
def i64v (n : Int) : Value := .int .i64 n
/-- A slice of numbers that a call owns. -/
def OwnI (w : World) (B : Nat) (e : TypeId) (v : Value) (l : List Int) : Prop := w.ownsRow B e 1 v l.length (l.map i64v)
theorem OwnI.sl {w : World} {B : Nat} {e : TypeId} {v : Value} {l : List Int} (h : OwnI w B e v l) : Sl w v (l.map i64v) := Sl.of_own h
theorem OwnI.later {w w' : World} {B : Nat} {e : TypeId} {v : Value} {l : List Int} (h : OwnI w B e v l) (hl : Later w w') : OwnI w' B e v l := own_later h hl
theorem OwnI.base {w : World} {B B' : Nat} {e : TypeId} {v : Value} {l : List Int} (h : OwnI w B e v l) (hb : B' ≤ B) : OwnI w B' e v l := own_base h hb
theorem OwnI.nil (w : World) (B : Nat) (e : TypeId) : OwnI w B e (.slice none 0 0) [] := own_nil w B e 1
theorem OwnI.slice {w : World} {B : Nat} {e : TypeId} {v : Value} {l : List Int} (h : OwnI w B e v l) : ∃ o c, v = .slice o l.length c := by
  obtain ⟨o, c, hv, _⟩ := h.sl.openM
  exact ⟨o, c, hv⟩
theorem OwnI.alloc {w : World} {B : Nat} {e : TypeId} {v : Value} {l : List Int} (h : OwnI w B e v l) (o : Obj) : OwnI (w.alloc o) B e v l := own_alloc h o
/-- An empty row laid just now. -/
theorem OwnI.lit0 (w : World) (e : TypeId) {B : Nat} (hB : B ≤ w.heap.size) : OwnI (w.alloc (.cells #[] e)) B e (.slice (some ⟨w.heap.size, 0, none⟩) 0 0) [] := own_lit w [] e 1 0 rfl (by unfold maxLen; omega) hB
end Go.Vc
end
section
namespace Go.Vc
open Go.RowKit Go.Sort
/-- A contract in the plain sense, as a contract of mine. -/
theorem FnC.of_calls {P : Program} {f : FuncId} {args : Array Value} {w : World} {R : Value → World → Prop} {Q : Ending → World → Prop} (hb : HasBody P f) (h : Calls P f args w Q) (hR : ∀ e w', Q e w' → ∃ v, e = .returned v ∧ R v w') : FnC P f args w R :=
  hb.fn (Calls.mono h hR)
theorem heap_mapBlock {w : World} {k : Nat} {f : Array Value → Array Value} {cs : Array Value} {e : TypeId} (h : Blk w k cs e) : Blk (mapBlock w k f) k (f cs) e := by
  unfold Blk at *
  unfold mapBlock
  simp [Array.getElem?_modify, h, onCells]
theorem heap_mapBlock_ne (w : World) {k j : Nat} (f : Array Value → Array Value) (h : k ≠ j) : (mapBlock w k f).heap[j]? = w.heap[j]? := by
  unfold mapBlock
  simp [Array.getElem?_modify, h]
/-- A row that the call owns, put anew in place; blocks behind. -/
theorem own_put {α : Type} [Inhabited α] {enc : α → Value} {w : World} {base n c g q : Nat} {e : TypeId} {l : List α} {d : Array α} {os : Array Obj} (h : w.ownsRow base e 1 (.slice (some ⟨g, 0, none⟩) n c) n (l.map enc)) (hd : d.size = n) :
    (grow (putRow enc (Sort.ahead w q) g 0 d) os).ownsRow base e 1 (.slice (some ⟨g, 0, none⟩) n c) n (d.toList.map enc) ∧ Chg w (grow (putRow enc (Sort.ahead w q) g 0 d) os) [g] := by
  obtain ⟨h0, h⟩ := h
  rcases h with ⟨h, _⟩ | ⟨g', cap, cur, hv, hb, hh, h1, h2, h3, h4⟩
  · cases h
  · simp only [Value.slice.injEq, Option.some.injEq] at hv
    obtain ⟨e1, -, e2⟩ := hv
    subst e2
    have hg : g' = g := by have := congrArg Addr.block e1; simpa using this.symm
    subst hg
    have hB : Blk (Sort.ahead w q) g' cur e := hh
    have hB2 := heap_mapBlock (f := putCells enc 0 d) hB
    have hlt : g' < w.heap.size := Blk.lt (cs := cur) (e := e) hh
    have hsz : (putRow enc (Sort.ahead w q) g' 0 d).heap.size = w.heap.size := by rw [size_putRow]; rfl
    refine ⟨⟨by simp [hd], .inr ⟨g', c, putCells enc 0 d cur, rfl, hb, ?_, h1, h2, by simpa [putCells] using h3, ?_⟩⟩, ⟨rfl, rfl, rfl, ?_, ?_⟩⟩
    · rw [heap_grow_old _ _ (by rw [hsz]; exact hlt)]
      exact hB2
    · have hc : cur.size = c := by simpa using h3
      apply List.ext_getElem
      · simp [putCells, hd]; omega
      · intro i i1 i2
        have hi : i < d.size := by simpa using i2
        simp [putCells, hi, getElem!_pos]
    · show w.heap.size ≤ ((putRow enc (Sort.ahead w q) g' 0 d).heap ++ os).size
      rw [Array.size_append, hsz]; omega
    · intro k hk hn
      rw [heap_grow_old _ _ (by rw [hsz]; exact hk)]
      exact heap_mapBlock_ne _ _ (fun e => hn (by simp [e]))
theorem holds_own {α : Type} [Inhabited α] {enc : α → Value} {w : World} {base n c g : Nat} {e : TypeId} {l : List α} (h : w.ownsRow base e 1 (.slice (some ⟨g, 0, none⟩) n c) n (l.map enc)) : Holds enc w g 0 l.toArray ∧ g < w.heap.size ∧ base ≤ g := by
  obtain ⟨h0, h⟩ := h
  rcases h with ⟨h, _⟩ | ⟨g', cap, cur, hv, hb, hh, h1, h2, h3, h4⟩
  · cases h
  · simp only [Value.slice.injEq, Option.some.injEq] at hv
    obtain ⟨e1, -, e2⟩ := hv
    subst e2
    have hg : g' = g := by have := congrArg Addr.block e1; simpa using this.symm
    subst hg
    have hB : Blk w g' cur e := hh
    refine ⟨fun j hj => ⟨?_, hB.frozen _⟩, hB.lt, hb⟩
    have hj : j < l.length := by simpa using hj
    rw [hB.cell, Nat.zero_add]
    have : (cur.toList.take (n * 1))[j]? = (l.map enc)[j]? := by rw [h4]
    rw [List.getElem?_take_of_lt (by simp at h0; omega)] at this
    simp only [List.getElem?_map] at this
    rw [Array.getElem?_toList] at this
    rw [this, List.getElem?_eq_getElem hj]
    simp [getElem!_pos, hj]
/-- An owned row with an element begins its block. -/
theorem own_addr {w : World} {base n m c : Nat} {e : TypeId} {o : Option Addr} {xs : List Value} (h : w.ownsRow base e 1 (.slice o m c) n xs) (hn : 0 < n) : ∃ g, o = some ⟨g, 0, none⟩ ∧ m = n := by
  obtain ⟨h0, h⟩ := h
  rcases h with ⟨_, h⟩ | ⟨g', cap, cur, hv, hb, hh, h1, h2, h3, h4⟩
  · omega
  · simp only [Value.slice.injEq] at hv
    exact ⟨g', hv.1, hv.2.1⟩
/-! ### in order, each once -/
end Go.Vc
end
section
set_option linter.unusedSimpArgs false
namespace Go.Vc
/-- A contract of mine as a contract in the plain sense. -/
theorem calls_of_fn {P : Program} {f : FuncId} {args : Array Value} {w : World} {R : Value → World → Prop} {Q : Ending → World → Prop} (hb : HasBody P f) (h : FnC P f args w R) (hR : ∀ v w', R v w' → Q (.returned v) w') : Calls P f args w Q := by
  unfold FnC at h
  rw [hb args w] at h
  have h : Ret P f args w R := h
  refine Calls.mono h ?_
  rintro e w' ⟨v, rfl, hr⟩
  exact hR v w' hr
end Go.Vc
namespace Go.Proofs.Ytmfcnooleejgmaa
open Go.Vc Go.Vlt
set_option maxRecDepth 100000
abbrev letters : ByteArray := ⟨#[97, 98, 99, 100, 101, 102, 103, 104, 105, 106, 107, 108, 109, 110, 111, 112, 113, 114, 115, 116, 117, 118, 119, 120, 121, 122, 48, 49, 50, 51, 52, 53, 54, 55, 56, 57, 46]⟩
theorem hbCF : HasBody Try.prog 55 := hasBody_of Try.func55 (by kernel_rfl)
theorem hbCR : HasBody Try.prog 57 := hasBody_of Try.func57 (by kernel_rfl)
def outN (x : Nat) : Bool := !(decide (x < 128) && nmB (UInt8.ofNat x))
theorem letters_asc : ∀ i (h : i < letters.size), letters[i].toNat < 128 := by decide +kernel
theorem letters_is : ∀ x : Nat, x < 128 → decide (0 ≤ Go.Lib.indexByte letters.data.toList ((x : Int).toNat.toUInt8)) = nmB (UInt8.ofNat x) := by decide +kernel
theorem crune_c (x : Nat) (w : World) : FnC Try.prog 57 #[.string letters, .int .i32 (x : Int)] w fun r w' => r = .bool (!outN x) ∧ Later w w' := by
  unfold outN
  by_cases hx : x < 128
  · refine FnC.of_calls hbCR (Try.strings_ContainsRune_ascii letters (x : Int) w (by omega) (by omega)) ?_
    rintro e w' ⟨rfl, rfl⟩
    refine ⟨_, rfl, ?_, Later.refl _⟩
    rw [letters_is x hx, decide_eq_true hx, Bool.true_and, Bool.not_not]
  · refine FnC.of_calls hbCR (Any.ContainsRune_out Try.lays151 letters (by decide) letters_asc (x : Int) w (by omega)) ?_
    rintro e w' ⟨rfl, hl⟩
    exact ⟨_, rfl, by rw [decide_eq_false hx]; rfl, hl⟩
theorem named1_c (x : Nat) (w : World) : FnC Try.prog 56 #[.int .i32 (x : Int)] w fun r w' => r = .bool (outN x) ∧ Later w w' := by
  refine enter56 _ ?_
  unfold B56
  repeat' (first | (simp (disch := omega) only [push_cast, ↓reduceIte, zA, zG, zB, zH, zI, zC, zJ, zK, zL, zD, zE, zF, zM, zN, zO, zP, zQ, reduceCtorEq, not_true_eq_false, not_false_eq_true]) | (first | refine vIfE_of ?_ ?_ | refine vIfD_of ?_ ?_ | refine vIfQ_of ?_ ?_ | refine vIfV_of ?_ ?_) <;> intro _ | refine And.intro (by omega) ?_ | refine drawn_q ?_ | fail)
  refine (crune_c x w).mono ?_
  rintro _ w1 ⟨rfl, l1⟩
  repeat' (first | (simp (disch := omega) only [push_cast, ↓reduceIte, zA, zG, zB, zH, zI, zC, zJ, zK, zL, zD, zE, zF, zM, zN, zO, zP, zQ, reduceCtorEq, not_true_eq_false, not_false_eq_true]) | (first | refine vIfE_of ?_ ?_ | refine vIfD_of ?_ ?_ | refine vIfQ_of ?_ ?_ | refine vIfV_of ?_ ?_) <;> intro _ | refine And.intro (by omega) ?_ | refine drawn_q ?_ | fail)
  first | exact ⟨by rw [Bool.not_not], l1⟩ | (rw [Bool.not_not]; exact ⟨rfl, l1⟩)
theorem idx_outN {s : ByteArray} : (decide (0 ≤ Go.Lib.idxFunc outN true s) = false) ↔ ∀ i (h : i < s.size), nmB s[i] = true := by
  have key : ∀ (f pos : Nat), s.size - pos ≤ f → (¬ 0 ≤ Go.Lib.idxFuncFrom outN true s f pos ↔ ∀ i (h : i < s.size), pos ≤ i → nmB s[i] = true) := by
    intro f
    induction f with
    | zero =>
      intro pos hp
      unfold Go.Lib.idxFuncFrom
      exact ⟨fun _ i hi h => by omega, fun _ => by omega⟩
    | succ f ih =>
      intro pos hp
      unfold Go.Lib.idxFuncFrom
      by_cases hlt : pos < s.size
      · rw [if_pos hlt]
        by_cases hb : s[pos].toNat < 128
        · rw [decode_ascii s pos hlt hb]
          dsimp only
          have ho : outN s[pos].toNat = !nmB s[pos] := by
            unfold outN
            rw [decide_eq_true hb, Bool.true_and, UInt8.ofNat_toNat]
          rw [ho]
          cases hn : nmB s[pos] with
          | false =>
            simp only [Bool.not_false, if_true]
            refine ⟨fun h => absurd (by omega) h, fun h => ?_⟩
            have := h pos hlt (Nat.le_refl _)
            rw [hn] at this; cases this
          | true =>
            simp only [Bool.not_true, Bool.false_eq_true, if_false]
            rw [ih (pos + 1) (by omega)]
            refine ⟨fun h i hi hpi => ?_, fun h i hi hpi => h i hi (by omega)⟩
            by_cases he : i = pos
            · subst he
              exact hn
            · exact h i hi (by omega)
        · have hd := (decode_high s pos hlt (by omega)).1
          have ho : outN (Utf8.decode s pos).1 = true := by
            unfold outN
            rw [decide_eq_false (by omega)]; rfl
          rw [if_pos ho]
          refine ⟨fun h => absurd (by omega) h, fun h => ?_⟩
          have h1 := h pos hlt (Nat.le_refl _)
          unfold nmB at h1
          simp only [Bool.or_eq_true, Bool.and_eq_true, decide_eq_true_eq, beq_iff_eq] at h1
          rcases h1 with (⟨_, h1⟩ | ⟨_, h1⟩) | h1
          · have := UInt8.le_iff_toNat_le.1 h1
            simp at this; omega
          · have := UInt8.le_iff_toNat_le.1 h1
            simp at this; omega
          · rw [h1] at hb
            simp at hb
      · rw [if_neg hlt]
        exact ⟨fun _ i hi h => by omega, fun _ => by omega⟩
  unfold Go.Lib.idxFunc
  rw [decide_eq_false_iff_not, key s.size 0 (by omega)]
  exact ⟨fun h i hi => h i hi (Nat.zero_le _), fun h i hi _ => h i hi⟩
theorem named_at (s : ByteArray) (hs : s.size ≤ 1000000000) : NamedAt s := by
  intro w
  have hidx : ∀ w1, FnC Try.prog 55 #[.string s, .func (.func 56) #[] #[]] w1 fun r w' => r = .bool (decide (0 ≤ Go.Lib.idxFunc outN true s)) ∧ Later w1 w' := fun w1 => by
    refine FnC.of_calls hbCF (Try.strings_ContainsFunc_grows 56 #[] hb56 outN s w1 ?_) ?_
    · intro W x hx hW
      refine calls_of_fn hb56 (named1_c x W) ?_
      rintro v w' ⟨rfl, hl⟩
      exact ⟨rfl, hl⟩
    · rintro e w' ⟨rfl, hl⟩
      exact ⟨_, rfl, rfl, hl⟩
  have hall : s.data.toList.all nmB = true ↔ ∀ i (h : i < s.size), nmB s[i] = true := by
    rw [List.all_eq_true]
    constructor
    · intro h i hi
      have e : s[i] = s.data.toList[i]'(by simpa using hi) := rfl
      rw [e]
      exact h _ (List.getElem_mem _)
    · intro h b hb
      obtain ⟨i, hi, rfl⟩ := List.getElem_of_mem hb
      exact h i (by simpa using hi)
  refine enter45 _ ?_
  unfold B45
  by_cases h0 : s.size = 0
  · have hs0 : s = ⟨#[]⟩ := by
      apply ByteArray.ext
      exact Array.eq_empty_of_size_eq_zero h0
    have hn : nmOk s = false := by unfold nmOk; rw [h0]; simp
    subst hs0
    repeat' (first | (simp (disch := omega) only [push_cast, ↓reduceIte, zA, zG, zB, zH, zI, zC, zJ, zK, zL, zD, zE, zF, zM, zN, zO, zP, zQ, reduceCtorEq, not_true_eq_false, not_false_eq_true]) | (first | refine vIfE_of ?_ ?_ | refine vIfD_of ?_ ?_ | refine vIfQ_of ?_ ?_ | refine vIfV_of ?_ ?_) <;> intro _ | refine And.intro (by omega) ?_ | refine drawn_q ?_ | fail)
    first | exact ⟨by rw [hn], Later.refl _⟩ | (rw [hn]; exact ⟨rfl, Later.refl _⟩)
  have hs0 : ¬ s = ⟨#[]⟩ := fun h => h0 (by rw [h]; rfl)
  have hd0 := decide_eq_false hs0
  by_cases h12 : 12 < s.size
  · have hn : nmOk s = false := by unfold nmOk; rw [decide_eq_false (by omega)]; simp
    repeat' (first | (simp (disch := omega) only [push_cast, ↓reduceIte, zA, zG, zB, zH, zI, zC, zJ, zK, zL, zD, zE, zF, zM, zN, zO, zP, zQ, reduceCtorEq, not_true_eq_false, not_false_eq_true, hd0, decide_false]) | (first | refine vIfE_of ?_ ?_ | refine vIfD_of ?_ ?_ | refine vIfQ_of ?_ ?_ | refine vIfV_of ?_ ?_) <;> intro _ | refine And.intro (by omega) ?_ | refine drawn_q ?_ | fail)
    first | exact ⟨by rw [hn], Later.refl _⟩ | (rw [hn]; exact ⟨rfl, Later.refl _⟩)
  have hn : nmOk s = !decide (0 ≤ Go.Lib.idxFunc outN true s) := by
    unfold nmOk
    rw [decide_eq_true (by omega : 1 ≤ s.size ∧ s.size ≤ 12), Bool.and_true]
    rw [Bool.eq_iff_iff, hall, Bool.not_eq_true', idx_outN]
  repeat' (first | (simp (disch := omega) only [push_cast, ↓reduceIte, zA, zG, zB, zH, zI, zC, zJ, zK, zL, zD, zE, zF, zM, zN, zO, zP, zQ, reduceCtorEq, not_true_eq_false, not_false_eq_true, hd0, decide_false]) | (first | refine vIfE_of ?_ ?_ | refine vIfD_of ?_ ?_ | refine vIfQ_of ?_ ?_ | refine vIfV_of ?_ ?_) <;> intro _ | refine And.intro (by omega) ?_ | refine drawn_q ?_ | fail)
  refine (hidx w).mono ?_
  rintro _ w1 ⟨rfl, l1⟩
  rw [hn]
  repeat' (first | (simp (disch := omega) only [push_cast, ↓reduceIte, zA, zG, zB, zH, zI, zC, zJ, zK, zL, zD, zE, zF, zM, zN, zO, zP, zQ, reduceCtorEq, not_true_eq_false, not_false_eq_true]) | (first | refine vIfE_of ?_ ?_ | refine vIfD_of ?_ ?_ | refine vIfQ_of ?_ ?_ | refine vIfV_of ?_ ?_) <;> intro _ | refine And.intro (by omega) ?_ | refine drawn_q ?_ | fail)
  first | exact ⟨rfl, l1⟩ | exact l1
end Go.Proofs.Ytmfcnooleejgmaa
end
section
set_option linter.unusedSimpArgs false
namespace Go.Vlt
open Go Go.Vc
/-- What a vault's files are: by a name, the bytes, and how many are safe. -/
def aF (es : List VE) (k : ByteArray) : Option (List UInt8 × Nat) := (vFind k es).map fun e => (e.b, e.safe)
theorem find_mem : ∀ {es : List VE}, (es.Pairwise fun x y => x.name ≠ y.name) → ∀ {e : VE}, e ∈ es → vFind e.name es = some e
  | x :: l, hp, e, he => by
    obtain ⟨h1, h2⟩ := List.pairwise_cons.1 hp
    unfold vFind
    rcases List.mem_cons.1 he with rfl | he
    · rw [if_pos rfl]
    · rw [if_neg (fun h => h1 e he h.symm)]
      exact find_mem h2 he
theorem find_some : ∀ {es : List VE} {k : ByteArray} {e : VE}, vFind k es = some e → e ∈ es ∧ e.name = k
  | x :: l, k, e, h => by
    unfold vFind at h
    split at h
    · rename_i hk
      cases h
      exact ⟨by simp, hk.symm⟩
    · obtain ⟨h1, h2⟩ := find_some h
      exact ⟨List.mem_cons_of_mem _ h1, h2⟩
/-- How many bytes a crash leaves. -/
def crN (keep : Int) (e : List UInt8 × Nat) : Nat := e.2 + min (max keep 0).toNat (e.1.length - e.2)
def cr (keep : Int) (e : List UInt8 × Nat) : List UInt8 × Nat := (e.1.take (crN keep e), crN keep e)
theorem crN_le (keep : Int) (e : VE) (h : e.safe ≤ e.b.length) : crN keep (e.b, e.safe) ≤ e.b.length := by unfold crN; dsimp only; omega
theorem crN_int (keep : Int) (e : VE) (h : e.safe ≤ e.b.length) : ((crN keep (e.b, e.safe) : Nat) : Int) = (e.safe : Int) + min (max keep 0) ((e.b.length : Int) - e.safe) := by unfold crN; dsimp only; omega
/-- Behind the entries that were seen. -/
def crSeen (keep : Int) (seen : Array Nat) (es : List VE) (k : ByteArray) : Option (List UInt8 × Nat) := ((vFind k es).filter fun e => seen.contains e.born).map fun e => cr keep (e.b, e.safe)
theorem crSeen_nil (keep : Int) (es : List VE) (k : ByteArray) : crSeen keep #[] es k = none := by
  unfold crSeen
  cases vFind k es <;> simp [Option.filter]
theorem crSeen_push {keep : Int} {seen : Array Nat} {es : List VE} (hp : es.Pairwise fun x y => x.name ≠ y.name) (hn : (es.map VE.born).Nodup) {e : VE} (he : e ∈ es) (k : ByteArray) : crSeen keep (seen.push e.born) es k = if k = e.name then some (cr keep (e.b, e.safe)) else crSeen keep seen es k := by
  unfold crSeen
  by_cases hk : k = e.name
  · rw [if_pos hk, hk, find_mem hp he]
    simp [Option.filter]
  · rw [if_neg hk]
    cases hf : vFind k es with
    | none => rfl
    | some x =>
      obtain ⟨hx, hxk⟩ := find_some hf
      have hne : x.born ≠ e.born := fun hb => by
        have : x = e := by
          obtain ⟨i, hi, hie⟩ := List.getElem_of_mem hx
          obtain ⟨j, hj, hje⟩ := List.getElem_of_mem he
          have h1 : (es.map VE.born)[i]'(by simpa using hi) = (es.map VE.born)[j]'(by simpa using hj) := by simp [hie, hje, hb]
          have h2 := (List.getElem_inj hn).1 h1
          subst h2
          exact hie.symm.trans hje
        exact hk (by rw [← this, hxk])
      simp [Option.filter, Array.contains_push, hne]
theorem crSeen_all {keep : Int} {seen : Array Nat} {es : List VE} (h : ∀ e ∈ es, seen.contains e.born = true) (k : ByteArray) : crSeen keep seen es k = (aF es k).map (cr keep) := by
  unfold crSeen aF
  cases hf : vFind k es with
  | none => rfl
  | some x =>
    have := h x (find_some hf).1
    rw [Option.filter, this]; rfl
end Go.Vlt
namespace Go.Proofs.Ytmfcnooleejgmaa
open Go.Vc Go.Vlt
set_option maxRecDepth 100000
theorem aF_put (k k' : ByteArray) (b : List UInt8) (s : Nat) (sv : Value) (c : Nat) (es : List VE) : aF (ePut k b s sv c es) k' = if k' = k then some (b, s) else aF es k' := find_put k k' b s sv c es
theorem crash_c (bk r : Nat) (room fuse keep : Int) (es : List VE) (c : Nat) (w : World) (h : Vt w bk r room fuse es c) (hk : -9223372036854775808 ≤ keep ∧ keep ≤ 9223372036854775807) (hbl : ∀ e ∈ es, e.b.length ≤ 1000000000) :
    FnC Try.prog 13 #[.pointer (some ⟨bk, 0, none⟩), .int .i64 keep] w fun v w' => (∃ b2 r2 es2 c2, v = .pointer (some ⟨b2, 0, none⟩) ∧ w.heap.size ≤ b2 ∧ w.heap.size ≤ r2 ∧ Vt w' b2 r2 room (-1) es2 c2 ∧ ∀ k, aF es2 k = (aF es k).map (cr keep)) ∧ Later w w' := by
  refine enter13 _ _ ?_
  unfold B13
  have f0 : w.cell? ⟨bk, 0, none⟩ = some (.int .i64 room) := h.blk.cell 0
  have eca : (Value.agg #[.int .i64 room, .int .i64 (-1), .map (some w.heap.size)]).cells = #[.int .i64 room, .int .i64 (-1), .map (some w.heap.size)] := rfl
  repeat' (first | (simp (disch := omega) only [push_cast, ↓reduceIte, zA, zG, zB, zH, zI, zC, zJ, zK, zL, zD, zE, zF, zM, zN, zO, zP, zQ, reduceCtorEq, not_true_eq_false, not_false_eq_true, f0, eca, addr_add_eq, Nat.zero_add]) | (first | refine vIfE_of ?_ ?_ | refine vIfD_of ?_ ?_ | refine vIfQ_of ?_ ?_ | refine vIfV_of ?_ ?_) <;> intro _ | refine And.intro (by omega) ?_ | fail)
  clear eca
  have l1 := later_alloc w (.map #[] 0)
  have hm : (w.alloc (.map #[] 0)).heap[w.heap.size]? = some (.map #[] 0) := heap_new w _
  have hw1 : w.heap.size < (w.alloc (.map #[] 0)).heap.size := (Array.getElem?_eq_some_iff.1 hm).1
  generalize w.alloc (.map #[] 0) = w1 at *
  have l2 := later_alloc w1 (.cells #[.int .i64 room, .int .i64 (-1), .map (some w.heap.size)] 57)
  have hV : Vt (w1.alloc (.cells #[.int .i64 room, .int .i64 (-1), .map (some w.heap.size)] 57)) w1.heap.size w.heap.size room (-1) [] 0 :=
    ⟨by decide, Blk.new _ _ _, (heap_alloc hw1 _).trans hm, List.Pairwise.nil, by simp, List.nodup_nil, by simp⟩
  generalize hb2 : w1.heap.size = b2 at *
  generalize hr2 : w.heap.size = r2 at *
  generalize w1.alloc (.cells #[.int .i64 room, .int .i64 (-1), .map (some r2)] 57) = w2 at *
  have l02 := l1.trans l2
  have h2 := h.later l02
  have f2 : w2.cell? ⟨bk, 2, none⟩ = some (.map (some r)) := h2.blk.cell 2
  repeat' (first | (simp (disch := omega) only [push_cast, ↓reduceIte, zA, zG, zB, zH, zI, zC, zJ, zK, zL, zD, zE, zF, zM, zN, zO, zP, zQ, reduceCtorEq, not_true_eq_false, not_false_eq_true, f2, addr_add_eq, Nat.zero_add]) | (first | refine vIfE_of ?_ ?_ | refine vIfD_of ?_ ?_ | refine vIfQ_of ?_ ?_ | refine vIfV_of ?_ ?_) <;> intro _ | refine And.intro (by omega) ?_ | refine drawn_q ?_ | fail)
  refine vRng_of Try.underlying55 h2.map ?_
  have l3 := later_alloc w2 (.mapIter (some r) c #[] c)
  have hi : (w2.alloc (.mapIter (some r) c #[] c)).heap[w2.heap.size]? = some (.mapIter (some r) c #[] c) := heap_new w2 _
  have hV3 := hV.later l3
  have l03 := l02.trans l3
  have hitg : w.heap.size ≤ w2.heap.size := l02.size
  generalize w2.alloc (.mapIter (some r) c #[] c) = w3 at *
  generalize hit : w2.heap.size = it at *
  repeat' (first | (simp (disch := omega) only [push_cast, ↓reduceIte, zA, zG, zB, zH, zI, zC, zJ, zK, zL, zD, zE, zF, zM, zN, zO, zP, zQ, reduceCtorEq, not_true_eq_false, not_false_eq_true]) | (first | refine vIfE_of ?_ ?_ | refine vIfD_of ?_ ?_ | refine vIfQ_of ?_ ?_ | refine vIfV_of ?_ ?_) <;> intro _ | refine And.intro (by omega) ?_ | refine drawn_q ?_ | fail)
  refine vc_loop W13_0 (fun _ : Nat => [])
    (fun n w' => ∃ (seen : Array Nat) (es2 : List VE) (c2 : Nat), w'.heap[it]? = some (.mapIter (some r) c seen c) ∧ Later w w' ∧ n = (lft seen es).length ∧ Vt w' b2 r2 room (-1) es2 c2 ∧ ∀ k, aF es2 k = crSeen keep seen es k) (fun n => n) (lft #[] es).length (by decide) ?_ ?_ ?_
  · simp (disch := omega) only [push_cast, ↓reduceIte, zA, zG, zB, zH, zI, zC, zJ, zK, zL, zD, zE, zF, zM, zN, zO, zP, zQ, reduceCtorEq, not_true_eq_false, not_false_eq_true]
  · exact ⟨#[], [], 0, hi, l03, rfl, hV3, fun k => (crSeen_nil keep es k).symm⟩
  rintro n uu w4 ⟨seen, es2, c2, hs, l4, hn, hV4, hA⟩
  have h4 := h.later l4
  repeat' (first | (simp (disch := omega) only [push_cast, ↓reduceIte, zA, zG, zB, zH, zI, zC, zJ, zK, zL, zD, zE, zF, zM, zN, zO, zP, zQ, reduceCtorEq, not_true_eq_false, not_false_eq_true]) | (first | refine vIfE_of ?_ ?_ | refine vIfD_of ?_ ?_ | refine vIfQ_of ?_ ?_ | refine vIfV_of ?_ ?_) <;> intro _ | refine And.intro (by omega) ?_ | refine drawn_q ?_ | fail)
  refine vNxt_of hs h4.map (fun e he => by obtain ⟨x, hx, rfl⟩ := List.mem_map.1 he; exact h.born x hx) (Nat.le_refl _) (fun hall => ?_) (fun ee hee hns w5' hw5' => ?_)
  · repeat' (first | (simp (disch := omega) only [push_cast, ↓reduceIte, zA, zG, zB, zH, zI, zC, zJ, zK, zL, zD, zE, zF, zM, zN, zO, zP, zQ, reduceCtorEq, not_true_eq_false, not_false_eq_true]) | (first | refine vIfE_of ?_ ?_ | refine vIfD_of ?_ ?_ | refine vIfQ_of ?_ ?_ | refine vIfV_of ?_ ?_) <;> intro _ | refine And.intro (by omega) ?_ | refine drawn_q ?_ | fail)
    have hall' : ∀ e ∈ es, seen.contains e.born = true := fun e he => hall e.ent (List.mem_map_of_mem he)
    have hA' : ∀ k, aF es2 k = (aF es k).map (cr keep) := fun k => (hA k).trans (crSeen_all hall' k)
    exact ⟨⟨b2, r2, es2, c2, rfl, by omega, by omega, hV4, hA'⟩, l4⟩
  · obtain ⟨e, he, rfl⟩ := List.mem_map.1 hee
    have hns : seen.contains e.born = false := hns
    have hel : e ∈ lft seen es := List.mem_filter.2 ⟨he, by rw [hns]; rfl⟩
    obtain ⟨_, t2⟩ := tot_out (l := lft seen es) ((List.Sublist.map _ List.filter_sublist).nodup h.nodup) hel
    rw [← lft_push] at t2
    have hs' : w5'.heap[it]? = some (.mapIter (some r) c seen c) := by rcases hw5' with rfl | rfl <;> exact hs
    have l5' : Later w w5' := by rcases hw5' with rfl | rfl; exact l4; exact l4.drew
    have l45' : Later w4 w5' := by rcases hw5' with rfl | rfl; exact Later.refl _; exact (Later.refl _).drew
    have hV5' := hV4.later l45'
    have c5 := chg_setB (w := w5') (r := it) (ks := [it]) (by simp) (.mapIter (some r) c (seen.push e.ent.2.2) c)
    have hs5 : (setB w5' it (.mapIter (some r) c (seen.push e.ent.2.2) c)).heap[it]? = some (.mapIter (some r) c (seen.push e.ent.2.2) c) := setB_at hs'
    have l5 : Later w (setB w5' it (.mapIter (some r) c (seen.push e.ent.2.2) c)) := Chg.later l5' c5 (by intro j hj; rw [List.mem_singleton.1 hj]; omega)
    have hnb : b2 ∉ [it] := by
      simp only [List.mem_singleton]
      rintro rfl
      have := hV5'.blk
      unfold Blk at this
      rw [hs'] at this; cases this
    have hnr : r2 ∉ [it] := by
      simp only [List.mem_singleton]
      rintro rfl
      have := hV5'.map
      unfold MapB at this
      rw [hs'] at this; cases this
    have hV5 := hV5'.chg c5 hnb hnr (fun j hj cs hb => by
      rw [List.mem_singleton.1 hj] at hb
      unfold Blk at hb
      rw [hs'] at hb; cases hb)
    generalize setB w5' it (.mapIter (some r) c (seen.push e.ent.2.2) c) = w5 at *
    have hs5 : w5.heap[it]? = some (.mapIter (some r) c (seen.push e.born) c) := hs5
    clear hs' l5' l45' c5 hV5' hnb hnr
    have h5 := h.later l5
    have hok := h5.ok e he
    have hsafe := hok.safe
    have hlen := hbl e he
    obtain ⟨os, cs, hsv⟩ := Sl.slice hok.sl
    rw [List.length_map] at hsv
    repeat' (first | (simp (disch := omega) only [push_cast, ↓reduceIte, zA, zG, zB, zH, zI, zC, zJ, zK, zL, zD, zE, zF, zM, zN, zO, zP, zQ, reduceCtorEq, not_true_eq_false, not_false_eq_true]) | (first | refine vIfE_of ?_ ?_ | refine vIfD_of ?_ ?_ | refine vIfQ_of ?_ ?_ | refine vIfV_of ?_ ?_) <;> intro _ | refine And.intro (by omega) ?_ | refine drawn_q ?_ | fail)
    refine vEnt_of (e := e.ent) hs5 h5.map (List.mem_map_of_mem he) (by rw [List.map_map]; exact h.nodup) ?_
    unfold VE.ent
    repeat' (first | (simp (disch := omega) only [push_cast, ↓reduceIte, zA, zG, zB, zH, zI, zC, zJ, zK, zL, zD, zE, zF, zM, zN, zO, zP, zQ, reduceCtorEq, not_true_eq_false, not_false_eq_true]) | (first | refine vIfE_of ?_ ?_ | refine vIfD_of ?_ ?_ | refine vIfQ_of ?_ ?_ | refine vIfV_of ?_ ?_) <;> intro _ | refine And.intro (by omega) ?_ | refine drawn_q ?_ | fail)
    refine vStore_new rfl rfl (by intro u hu; rw [hsv] at hu; simp at hu; rcases hu with rfl | rfl <;> rfl) ?_
    have l6 := later_alloc w5 (.cells #[e.sv, .int .i64 e.safe] 61)
    have B6 := Blk.new w5 #[e.sv, .int .i64 e.safe] 61
    have hV6 := hV5.later l6
    have hs6 : (w5.alloc (.cells #[e.sv, .int .i64 e.safe] 61)).heap[it]? = some (.mapIter (some r) c (seen.push e.born) c) := (heap_alloc (Array.getElem?_eq_some_iff.1 hs5).1 _).trans hs5
    generalize w5.alloc (.cells #[e.sv, .int .i64 e.safe] 61) = w6 at *
    generalize hkb : w5.heap.size = kb at *
    have g0 : w6.cell? ⟨kb, 0, none⟩ = some e.sv := B6.cell 0
    have g1 : w6.cell? ⟨kb, 1, none⟩ = some (.int .i64 (e.safe : Int)) := B6.cell 1
    rw [hsv] at g0
    have hcr := (crN_int keep e hsafe).symm
    have hcl := crN_le keep e hsafe
    have hcre : cr keep (e.b, e.safe) = (e.b.take (crN keep (e.b, e.safe)), crN keep (e.b, e.safe)) := rfl
    have g2 : w6.cell? ⟨b2, 2, none⟩ = some (.map (some r2)) := hV6.blk.cell 2
    generalize crN keep (e.b, e.safe) = N at *
    have hsl6 : Sl w6 (.slice os e.b.length cs) (e.b.map u8v) := by rw [← hsv]; exact Sl.later hok.sl l6
    have hcs : e.b.length ≤ cs := (Sl.len hsl6).2.1
    repeat' (first | (simp (disch := omega) only [push_cast, ↓reduceIte, zA, zG, zB, zH, zI, zC, zJ, zK, zL, zD, zE, zF, zM, zN, zO, zP, zQ, reduceCtorEq, not_true_eq_false, not_false_eq_true, g0, g1, hcr, addr_add_eq, Nat.zero_add]) | (first | refine vIfE_of ?_ ?_ | refine vIfD_of ?_ ?_ | refine vIfQ_of ?_ ?_ | refine vIfV_of ?_ ?_) <;> intro _ | refine And.intro (by omega) ?_ | fail)
    refine drawn_k 12 ?_
    repeat' (first | (simp (disch := omega) only [push_cast, ↓reduceIte, zA, zG, zB, zH, zI, zC, zJ, zK, zL, zD, zE, zF, zM, zN, zO, zP, zQ, reduceCtorEq, not_true_eq_false, not_false_eq_true, g0, g1, g2, addr_add_eq, Nat.zero_add]) | (first | refine vIfE_of ?_ ?_ | refine vIfD_of ?_ ?_ | refine vIfQ_of ?_ ?_ | refine vIfV_of ?_ ?_) <;> intro _ | refine And.intro (by omega) ?_ | fail)
    have hslN : ∀ w', Later w6 w' → Sl w' (.slice os N cs) ((e.b.take N).map u8v) := fun w' hl => by rw [List.map_take]; exact (Sl.later hsl6 hl).pre hcl
    have hN : (e.b.take N).length = N := by rw [List.length_take]; omega
    refine NFn.of hb34 (fun v w' => OwnB w' w6.heap.size 5 v (e.b.take N)) (fun _ _ _ _ hl h => h.later hl) (fun w' hl => (bclone_c _ (e.b.take N) w' (hslN w' hl) (by rw [hN]; omega)).mono fun v w'' hv => ⟨hv.1.base hl.size, hv.2⟩) ?_
    repeat' (first | (simp (disch := omega) only [push_cast, ↓reduceIte, zA, zG, zB, zH, zI, zC, zJ, zK, zL, zD, zE, zF, zM, zN, zO, zP, zQ, reduceCtorEq, not_true_eq_false, not_false_eq_true, g0, g1, g2, addr_add_eq, Nat.zero_add]) | (first | refine vIfE_of ?_ ?_ | refine vIfD_of ?_ ?_ | refine vIfQ_of ?_ ?_ | refine vIfV_of ?_ ?_) <;> intro _ | refine And.intro (by omega) ?_ | fail)
    refine nR_bldV (FileV w6.heap.size (e.b.take N) N) (stb_file _ _ _ _) (fun σ' w' hl hp => ?_) ?_
    · obtain ⟨hp49, hp50, _⟩ := hp
      have h49 : OwnB w' w6.heap.size 5 (σ' 49) (e.b.take N) := hp49
      have h50 : σ' 50 = .int .i64 (N : Int) := hp50
      obtain ⟨o3, c3, hv⟩ := h49.slice
      rw [hv] at h49
      repeat' (first | (simp (disch := omega) only [push_cast, ↓reduceIte, zA, zG, zB, zH, zI, zC, zJ, zK, zL, zD, zE, zF, zM, zN, zO, zP, zQ, reduceCtorEq, not_true_eq_false, not_false_eq_true, h50, hv]) | (first | refine vIfE_of ?_ ?_ | refine vIfD_of ?_ ?_ | refine vIfQ_of ?_ ?_ | refine vIfV_of ?_ ?_) <;> intro _ | refine And.intro (by omega) ?_ | fail)
      exact ⟨Later.refl _, _, rfl, h49⟩
    repeat' (first | (simp (disch := omega) only [push_cast, ↓reduceIte, zA, zG, zB, zH, zI, zC, zJ, zK, zL, zD, zE, zF, zM, zN, zO, zP, zQ, reduceCtorEq, not_true_eq_false, not_false_eq_true]) | (first | refine vIfE_of ?_ ?_ | refine vIfD_of ?_ ?_ | refine vIfQ_of ?_ ?_ | refine vIfV_of ?_ ?_) <;> intro _ | refine And.intro (by omega) ?_ | fail)
    rintro w7 l7 _ ⟨u, rfl, hu⟩ _ _
    have hV7 := hV6.later l7
    have hs7 := (l7.block it (Array.getElem?_eq_some_iff.1 hs6).1).trans hs6
    have hp := Vt.put hV7 e.name (b := e.b.take N) (s := N) (sv := u) hu.sl (InT.of_own hu) (by rw [hN]; exact Nat.le_refl _)
    have c7 := chg_setB (w := w7) (r := r2) (ks := [r2]) (by simp) (.map ((mPut e.name (.agg #[u, .int .i64 (N : Nat)]) c2 (es2.map VE.ent)).map mE).toArray (mTick e.name c2 (es2.map VE.ent)))
    have hri : it ≠ r2 := by
      rintro rfl
      have := hV7.map
      unfold MapB at this
      rw [hs7] at this; cases this
    have hs8 := (c7.block it (Array.getElem?_eq_some_iff.1 hs7).1 (by simpa using hri)).trans hs7
    have l8 := Chg.later (l5.trans (l6.trans l7)) c7 (by intro j hj; rw [List.mem_singleton.1 hj]; exact Nat.le_of_eq hr2)
    refine vUpd_of Try.underlying55 Try.underlying9 hV7.map e.name _ ?_
    generalize setB w7 r2 (.map ((mPut e.name (.agg #[u, .int .i64 (N : Nat)]) c2 (es2.map VE.ent)).map mE).toArray (mTick e.name c2 (es2.map VE.ent))) = w8 at *
    repeat' (first | (simp (disch := omega) only [push_cast, ↓reduceIte, zA, zG, zB, zH, zI, zC, zJ, zK, zL, zD, zE, zF, zM, zN, zO, zP, zQ, reduceCtorEq, not_true_eq_false, not_false_eq_true]) | (first | refine vIfE_of ?_ ?_ | refine vIfD_of ?_ ?_ | refine vIfQ_of ?_ ?_ | refine vIfV_of ?_ ?_) <;> intro _ | refine And.intro (by omega) ?_ | refine drawn_q ?_ | fail)
    refine ⟨rfl, (lft (seen.push e.born) es).length, by simp (disch := omega) only [push_cast, ↓reduceIte, zA, zG, zB, zH, zI, zC, zJ, zK, zL, zD, zE, zF, zM, zN, zO, zP, zQ, reduceCtorEq, not_true_eq_false, not_false_eq_true], ⟨_, _, _, hs8, l8, rfl, hp, fun k => ?_⟩, by dsimp only; omega⟩
    rw [aF_put, crSeen_push h.apart h.nodup he, hcre, hA k]
end Go.Proofs.Ytmfcnooleejgmaa
end
section
namespace Go.Stab
/-- An order that has ties. -/
structure Swo {α : Type} (lt : α → α → Bool) : Prop where
  asym : ∀ a b, lt a b = true → lt b a = false
  ntr : ∀ a b c, lt b a = false → lt c b = false → lt c a = false
variable {α : Type} {lt : α → α → Bool}
def Srt (lt : α → α → Bool) (l : List α) : Prop := l.Pairwise fun a b => lt b a = false
def eqv (lt : α → α → Bool) (a b : α) : Bool := !lt a b && !lt b a
/-- The same, each class in its order. -/
def Stb (lt : α → α → Bool) (l l' : List α) : Prop := l'.length = l.length ∧ ∀ x, l'.filter (eqv lt x) = l.filter (eqv lt x)
theorem Stb.refl (l : List α) : Stb lt l l := ⟨rfl, fun _ => rfl⟩
theorem Stb.trans {a b c : List α} (h : Stb lt a b) (g : Stb lt b c) : Stb lt a c := ⟨by rw [g.1, h.1], fun x => by rw [g.2, h.2]⟩
theorem Stb.append {a b a' b' : List α} (h : Stb lt a a') (g : Stb lt b b') : Stb lt (a ++ b) (a' ++ b') := ⟨by simp [h.1, g.1], fun x => by rw [List.filter_append, List.filter_append, h.2, g.2]⟩
/-- What is strictly below may go ahead. -/
theorem Stb.swap (hs : Swo lt) {u v : List α} (h : ∀ a ∈ u, ∀ b ∈ v, lt b a = true) : Stb lt (u ++ v) (v ++ u) := by
  refine ⟨by simp; omega, fun x => ?_⟩
  rw [List.filter_append, List.filter_append]
  by_cases hu : u.filter (eqv lt x) = []
  · simp [hu]
  · have hv : v.filter (eqv lt x) = [] := by
      obtain ⟨a, ha⟩ := List.exists_mem_of_ne_nil _ hu
      obtain ⟨ha, hxa⟩ := List.mem_filter.1 ha
      rw [List.filter_eq_nil_iff]
      intro b hb hxb
      have hba := h a ha b hb
      simp only [eqv, Bool.and_eq_true, Bool.not_eq_true'] at hxa hxb
      have := hs.ntr a x b hxa.1 hxb.2
      rw [hba] at this
      cases this
    simp [hv]
theorem Srt.append {a b : List α} : Srt lt (a ++ b) ↔ Srt lt a ∧ Srt lt b ∧ ∀ x ∈ a, ∀ y ∈ b, lt y x = false := List.pairwise_append
/-- Where the merge begins its search, and where it ends. -/
def s0 (a m b : Nat) : Nat := if (a + b) / 2 < m then (a + b) / 2 + m - b else a
def r0 (a m b : Nat) : Nat := if (a + b) / 2 < m then (a + b) / 2 else m
/-- Block by block sorted. -/
def Bs (lt : α → α → Bool) (n : Nat) (l : List α) : Prop := ∀ k, Srt lt ((l.drop (k * n)).take n)
theorem srt_nil : Srt lt ([] : List α) := List.Pairwise.nil
theorem Bs.whole {n : Nat} {l : List α} (h : Bs lt n l) (hl : l.length ≤ n) : Srt lt l := by
  have := h 0
  simpa [List.take_of_length_le hl] using this
theorem Bs.two {n : Nat} {l : List α} (h : Bs lt n l) : Srt lt (l.take n) ∧ Srt lt ((l.drop n).take n) ∧ Bs lt n (l.drop (n + n)) := by
  refine ⟨by simpa using h 0, by simpa using h 1, fun k => ?_⟩
  have := h (k + 2)
  rw [List.drop_drop]
  have e : (n + n) + k * n = (k + 2) * n := by rw [Nat.add_mul]; omega
  rwa [e]
theorem Bs.nil {n : Nat} : Bs lt n ([] : List α) := fun k => by simp [srt_nil]
end Go.Stab
end
section
namespace Go.Key
open Go.Stab
theorem bl_tri : ∀ (a b : List UInt8), (Op.bytesLess a b = true ∧ Op.bytesLess b a = false ∧ a ≠ b) ∨ (a = b ∧ Op.bytesLess a b = false) ∨ (Op.bytesLess a b = false ∧ Op.bytesLess b a = true ∧ a ≠ b)
  | [], [] => .inr (.inl ⟨rfl, rfl⟩)
  | [], _ :: _ => .inl ⟨rfl, rfl, by simp⟩
  | _ :: _, [] => .inr (.inr ⟨rfl, rfl, by simp⟩)
  | x :: a, y :: b => by
    rcases UInt8.lt_or_lt_of_ne (a := x) (b := y) |> fun h => (Decidable.em (x = y)).imp id h with e | e | e
    · subst e
      have hx : ¬ x < x := UInt8.lt_irrefl x
      rcases bl_tri a b with ⟨h1, h2, h3⟩ | ⟨h1, h2⟩ | ⟨h1, h2, h3⟩
      · exact .inl ⟨by simp [Op.bytesLess, h1], by simp [Op.bytesLess, h2, hx], by simpa using h3⟩
      · exact .inr (.inl ⟨by rw [h1], by simp [Op.bytesLess, h2, hx]⟩)
      · exact .inr (.inr ⟨by simp [Op.bytesLess, h1, hx], by simp [Op.bytesLess, h2], by simpa using h3⟩)
    · have n : ¬ y < x := fun h => UInt8.lt_irrefl _ (UInt8.lt_trans h e)
      have ne : x ≠ y := fun h => by subst h; exact UInt8.lt_irrefl _ e
      exact .inl ⟨by simp [Op.bytesLess, e], by simp [Op.bytesLess, n, Ne.symm ne], by simp [ne]⟩
    · have n : ¬ x < y := fun h => UInt8.lt_irrefl _ (UInt8.lt_trans h e)
      have ne : x ≠ y := fun h => by subst h; exact UInt8.lt_irrefl _ e
      exact .inr (.inr ⟨by simp [Op.bytesLess, n, ne], by simp [Op.bytesLess, e], by simp [ne]⟩)
theorem bl_trans : ∀ (a b c : List UInt8), Op.bytesLess a b = true → Op.bytesLess b c = true → Op.bytesLess a c = true
  | _, [], _, h, _ => by simp [Op.bytesLess] at h
  | _, _ :: _, [], _, h => by simp [Op.bytesLess] at h
  | [], _ :: _, _ :: _, _, _ => rfl
  | x :: a, y :: b, z :: c, h, g => by
    simp only [Op.bytesLess, Bool.or_eq_true, decide_eq_true_eq, Bool.and_eq_true, beq_iff_eq] at h g ⊢
    rcases h with h | ⟨rfl, h⟩ <;> rcases g with g | ⟨rfl, g⟩
    · exact .inl (UInt8.lt_trans h g)
    · exact .inl h
    · exact .inl g
    · exact .inr ⟨rfl, bl_trans a b c h g⟩
/-- Texts. -/
def blt (a b : ByteArray) : Bool := Op.bytesLess a.data.toList b.data.toList
theorem ba_ext {a b : ByteArray} (h : a.data.toList = b.data.toList) : a = b := by
  cases a; cases b
  congr
  exact Array.ext' h
theorem blt_tri (a b : ByteArray) : (blt a b = true ∧ blt b a = false ∧ a ≠ b) ∨ (a = b ∧ blt a b = false) ∨ (blt a b = false ∧ blt b a = true ∧ a ≠ b) := by
  rcases bl_tri a.data.toList b.data.toList with ⟨h1, h2, h3⟩ | ⟨h1, h2⟩ | ⟨h1, h2, h3⟩
  · exact .inl ⟨h1, h2, fun e => h3 (by rw [e])⟩
  · exact .inr (.inl ⟨ba_ext h1, h2⟩)
  · exact .inr (.inr ⟨h1, h2, fun e => h3 (by rw [e])⟩)
end Go.Key
end
section
namespace Go.Vlt
open Go Go.Vc Go.Key
structure Fl where
  name : ByteArray
  b : List UInt8
  safe : Nat
def lk (k : ByteArray) : List Fl → Option (List UInt8 × Nat)
  | [] => none
  | x :: l => if k = x.name then some (x.b, x.safe) else lk k l
def Srd (L : List Fl) : Prop := L.Pairwise fun x y => blt x.name y.name = true
def lPut (f : Fl) : List Fl → List Fl
  | [] => [f]
  | x :: l => if blt x.name f.name = true then x :: lPut f l else if x.name = f.name then f :: l else f :: x :: l
def lDel (k : ByteArray) : List Fl → List Fl
  | [] => []
  | x :: l => if x.name = k then l else x :: lDel k l
def tl : List Fl → Int
  | [] => 0
  | x :: l => x.b.length + tl l
def oB (k : ByteArray) (L : List Fl) : List UInt8 := ((lk k L).map Prod.fst).getD []
def oS (k : ByteArray) (L : List Fl) : Nat := ((lk k L).map Prod.snd).getD 0
theorem blt_ne {a b : ByteArray} (h : blt a b = true) : a ≠ b := by
  rintro rfl
  rcases blt_tri a a with h' | h' | h'
  · exact h'.2.2 rfl
  · rw [h] at h'; cases h'.2
  · exact h'.2.2 rfl
theorem blt_trans {a b c : ByteArray} (h : blt a b = true) (g : blt b c = true) : blt a c = true := bl_trans _ _ _ h g
theorem tl_nn : ∀ L : List Fl, 0 ≤ tl L
  | [] => Int.le_refl _
  | x :: l => by have := tl_nn l; unfold tl; omega
theorem lk_out {k : ByteArray} : ∀ {L : List Fl}, (∀ x ∈ L, x.name ≠ k) → lk k L = none
  | [], _ => rfl
  | x :: l, h => by
    unfold lk
    rw [if_neg fun h' => h x (by simp) h'.symm]
    exact lk_out fun y hy => h y (List.mem_cons_of_mem _ hy)
theorem lk_in {k : ByteArray} : ∀ {L : List Fl} {p : List UInt8 × Nat}, lk k L = some p → ∃ x ∈ L, x.name = k ∧ (x.b, x.safe) = p
  | x :: l, p, h => by
    unfold lk at h
    split at h
    · rename_i hk
      exact ⟨x, by simp, hk.symm, by simpa using h⟩
    · obtain ⟨y, hy, h'⟩ := lk_in h
      exact ⟨y, List.mem_cons_of_mem _ hy, h'⟩
theorem lk_mem : ∀ {L : List Fl}, Srd L → ∀ {x : Fl}, x ∈ L → lk x.name L = some (x.b, x.safe)
  | y :: l, hs, x, hx => by
    obtain ⟨h1, h2⟩ := List.pairwise_cons.1 hs
    unfold lk
    rcases List.mem_cons.1 hx with rfl | hx
    · rw [if_pos rfl]
    · rw [if_neg fun h => blt_ne (h1 x hx) h.symm]
      exact lk_mem h2 hx
theorem lk_put (f : Fl) (k : ByteArray) : ∀ L : List Fl, lk k (lPut f L) = if k = f.name then some (f.b, f.safe) else lk k L
  | [] => rfl
  | x :: l => by
    unfold lPut
    by_cases h1 : blt x.name f.name = true
    · rw [if_pos h1]
      unfold lk
      by_cases h2 : k = x.name
      · rw [if_pos h2, if_pos h2, if_neg fun h3 => blt_ne h1 (h2.symm.trans h3)]
      · rw [if_neg h2, if_neg h2]
        exact lk_put f k l
    · rw [if_neg h1]
      by_cases h2 : x.name = f.name
      · rw [if_pos h2]
        unfold lk
        by_cases h3 : k = f.name
        · rw [if_pos h3, if_pos h3]
        · rw [if_neg h3, if_neg h3, if_neg fun h4 => h3 (h4.trans h2)]
      · rw [if_neg h2]
        rfl
theorem lk_del (k k' : ByteArray) : ∀ {L : List Fl}, Srd L → lk k' (lDel k L) = if k' = k then none else lk k' L
  | [], _ => by unfold lDel lk; split <;> rfl
  | x :: l, hs => by
    obtain ⟨h1, h2⟩ := List.pairwise_cons.1 hs
    unfold lDel
    by_cases h : x.name = k
    · rw [if_pos h]
      by_cases h3 : k' = k
      · rw [if_pos h3, h3, ← h]
        exact lk_out fun y hy => (blt_ne (h1 y hy)).symm
      · rw [if_neg h3]
        conv => rhs; unfold lk
        rw [if_neg fun h4 => h3 (h4.trans h)]
    · rw [if_neg h]
      unfold lk
      by_cases h4 : k' = x.name
      · rw [if_pos h4, if_pos h4, if_neg fun h5 => h (h4.symm.trans h5)]
      · rw [if_neg h4, if_neg h4]
        exact lk_del k k' h2
theorem put_mem' {f : Fl} : ∀ {L : List Fl} {x : Fl}, x ∈ lPut f L → x = f ∨ x ∈ L
  | [], x, h => .inl (List.mem_singleton.1 h)
  | y :: l, x, h => by
    unfold lPut at h
    split at h
    · rcases List.mem_cons.1 h with rfl | h
      · exact .inr (by simp)
      · exact (put_mem' h).imp id (List.mem_cons_of_mem _)
    · split at h
      · rcases List.mem_cons.1 h with rfl | h
        · exact .inl rfl
        · exact .inr (List.mem_cons_of_mem _ h)
      · rcases List.mem_cons.1 h with rfl | h
        · exact .inl rfl
        · exact .inr h
theorem srd_put {f : Fl} : ∀ {L : List Fl}, Srd L → Srd (lPut f L)
  | [], _ => List.pairwise_singleton _ _
  | y :: l, hs => by
    obtain ⟨h1, h2⟩ := List.pairwise_cons.1 hs
    unfold lPut
    split
    · rename_i hb
      refine List.pairwise_cons.2 ⟨fun x hx => ?_, srd_put h2⟩
      rcases put_mem' hx with rfl | hx
      · exact hb
      · exact h1 x hx
    · rename_i hb
      split
      · rename_i he
        exact List.pairwise_cons.2 ⟨fun x hx => by rw [← he]; exact h1 x hx, h2⟩
      · rename_i he
        have hf : blt f.name y.name = true := by
          rcases blt_tri y.name f.name with h' | h' | h'
          · exact absurd h'.1 hb
          · exact absurd h'.1 he
          · exact h'.2.1
        refine List.pairwise_cons.2 ⟨fun x hx => ?_, hs⟩
        rcases List.mem_cons.1 hx with rfl | hx
        · exact hf
        · exact blt_trans hf (h1 x hx)
theorem del_sub' (k : ByteArray) : ∀ L : List Fl, (lDel k L).Sublist L
  | [] => List.Sublist.refl _
  | x :: l => by
    unfold lDel
    split
    · exact List.sublist_cons_self _ _
    · exact (del_sub' k l).cons_cons _
theorem srd_del {k : ByteArray} {L : List Fl} (h : Srd L) : Srd (lDel k L) := List.Pairwise.sublist (del_sub' k L) h
theorem tl_put {f : Fl} : ∀ {L : List Fl}, Srd L → tl (lPut f L) = tl L - (oB f.name L).length + f.b.length ∧ (lPut f L).length = if lk f.name L = none then L.length + 1 else L.length
  | [], _ => ⟨by unfold lPut tl oB; simp [tl, lk], by simp [lPut, lk]⟩
  | y :: l, hs => by
    obtain ⟨h1, h2⟩ := List.pairwise_cons.1 hs
    unfold lPut
    split
    · rename_i hb
      obtain ⟨i1, i2⟩ := tl_put (f := f) h2
      have hne : ¬ f.name = y.name := fun h => blt_ne hb h.symm
      have e1 : lk f.name (y :: l) = lk f.name l := by
        show (if f.name = y.name then some (y.b, y.safe) else lk f.name l) = _
        rw [if_neg hne]
      have e2 : oB f.name (y :: l) = oB f.name l := by unfold oB; rw [e1]
      rw [e1, e2]
      refine ⟨?_, ?_⟩
      · show (y.b.length : Int) + tl (lPut f l) = y.b.length + tl l - _ + _
        omega
      · rw [List.length_cons, i2, List.length_cons]; split <;> rfl
    · rename_i hb
      split
      · rename_i he
        have e1 : lk f.name (y :: l) = some (y.b, y.safe) := by unfold lk; rw [if_pos he.symm]
        have e2 : oB f.name (y :: l) = y.b := by unfold oB; rw [e1]; rfl
        rw [e1, e2]
        refine ⟨?_, by simp⟩
        show (f.b.length : Int) + tl l = y.b.length + tl l - _ + _
        omega
      · rename_i he
        have hf : blt f.name y.name = true := by
          rcases blt_tri y.name f.name with h' | h' | h'
          · exact absurd h'.1 hb
          · exact absurd h'.1 he
          · exact h'.2.1
        have e1 : lk f.name (y :: l) = none := lk_out fun x hx => by
          rcases List.mem_cons.1 hx with rfl | hx
          · exact he
          · exact (blt_ne (blt_trans hf (h1 x hx))).symm
        have e2 : oB f.name (y :: l) = [] := by unfold oB; rw [e1]; rfl
        rw [e1, e2]
        refine ⟨?_, by simp⟩
        show (f.b.length : Int) + tl (y :: l) = _
        simp only [List.length_nil]
        omega
theorem tl_del {k : ByteArray} : ∀ {L : List Fl}, tl (lDel k L) = tl L - (oB k L).length
  | [] => by unfold lDel tl oB; simp [lk]
  | y :: l => by
    unfold lDel
    split
    · rename_i he
      have e2 : oB k (y :: l) = y.b := by unfold oB lk; rw [if_pos he.symm]; rfl
      rw [e2]
      show tl l = y.b.length + tl l - _
      omega
    · rename_i he
      have e2 : oB k (y :: l) = oB k l := by unfold oB; conv => lhs; unfold lk; rw [if_neg (fun h => he h.symm)]
      rw [e2]
      have := tl_del (k := k) (L := l)
      show (y.b.length : Int) + tl (lDel k l) = y.b.length + tl l - _
      omega
/-- The files in memory are these. -/
structure Rl (es : List VE) (L : List Fl) : Prop where
  srd : Srd L
  same : ∀ k, aF es k = lk k L
def VE.fl (e : VE) : Fl := ⟨e.name, e.b, e.safe⟩
theorem Rl.perm {es : List VE} {L : List Fl} (h : Rl es L) (hp : es.Pairwise fun x y => x.name ≠ y.name) : (es.map VE.fl).Perm L := by
  have n1 : (es.map VE.fl).Nodup := by
    refine List.pairwise_map.2 (hp.imp ?_)
    intro x y hxy hf
    exact hxy (congrArg Fl.name hf)
  have n2 : L.Nodup := h.srd.imp fun hb hf => blt_ne hb (congrArg Fl.name hf)
  refine (List.perm_ext_iff_of_nodup n1 n2).2 fun x => ⟨fun hx => ?_, fun hx => ?_⟩
  · obtain ⟨e, he, rfl⟩ := List.mem_map.1 hx
    have h1 : aF es e.name = some (e.b, e.safe) := by unfold aF; rw [find_mem hp he]; rfl
    rw [h.same] at h1
    obtain ⟨y, hy, hn, hb⟩ := lk_in h1
    simp only [Prod.mk.injEq] at hb
    have : y = e.fl := by
      cases y
      simp only at hn hb
      obtain ⟨rfl, rfl⟩ := hb
      subst hn
      rfl
    rw [← this]; exact hy
  · have h1 := lk_mem h.srd hx
    rw [← h.same] at h1
    unfold aF at h1
    obtain ⟨e, he, hb⟩ := Option.map_eq_some_iff.1 h1
    obtain ⟨h2, h3⟩ := find_some he
    simp only [Prod.mk.injEq] at hb
    have : e.fl = x := by
      cases x
      simp only at h3 hb
      obtain ⟨rfl, rfl⟩ := hb
      subst h3
      rfl
    rw [← this]
    exact List.mem_map_of_mem h2
theorem tl_perm {a b : List Fl} (h : a.Perm b) : tl a = tl b := by
  induction h with
  | nil => rfl
  | cons x _ ih => unfold tl; rw [ih]
  | swap x y l => unfold tl; show (_ : Int) + (_ + tl l) = _ + (_ + tl l); omega
  | trans _ _ ih1 ih2 => exact ih1.trans ih2
theorem tot_fl : ∀ es : List VE, tot es = tl (es.map VE.fl)
  | [] => rfl
  | e :: l => by
    show (e.b.length : Int) + tot l = e.b.length + tl (l.map VE.fl)
    rw [tot_fl l]
theorem Rl.nums {es : List VE} {L : List Fl} (h : Rl es L) (hp : es.Pairwise fun x y => x.name ≠ y.name) : es.length = L.length ∧ tot es = tl L := by
  have p := h.perm hp
  exact ⟨by rw [← p.length_eq, List.length_map], by rw [tot_fl, tl_perm p]⟩
theorem lk_find {es : List VE} {L : List Fl} (h : Rl es L) (k : ByteArray) : (vFind k es = none ↔ lk k L = none) ∧ fB' k es = oB k L ∧ fS' k es = oS k L := by
  have := h.same k
  unfold aF at this
  unfold oB oS fB' fS'
  rw [← this]
  cases vFind k es <;> simp
end Go.Vlt
end
