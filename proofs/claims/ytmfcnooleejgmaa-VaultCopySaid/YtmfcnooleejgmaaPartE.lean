/- A vault in memory; a new one; what takes one off its fuse. -/
import Derived.Laws.MakeOwn
import Derived.Lib.SlBytesConst
import Derived.Laws.StructEq
import Derived.Maps.AppendAt
import Derived.Lib.AppendZerosOnto
import Derived.Shelf.Sort.Plain
import Derived.Shelf.Strings.Runes
import Derived.Shelf.Strings.FuncGrows
import Derived.Shelf.Slices.In.SortNone
import Derived.Test.YtmfcnooleejgmaaProg
import Derived.Shelf.Strings.IndexAnyAll
import Derived.Shelf.Small.Utf8
import Derived.WalkMore
import Derived.Handy
import Derived.Lib.BufferKept
import Derived.Deep.DeepBigQuietO
import Derived.Shelf.Strings.Search1
import Derived.Laws.Runes
import Derived.Laws.RangeAny
import Derived.Test.YtmfcnooleejgmaaPartD
set_option linter.all false
open Nat renaming reduceEqDiff → zA, reducePow → zB, reduceMul → zC, reduceAdd → zD, reduceSub → zE, reduceLeDiff → zF
open Int renaming reduceToNat → zG, reducePow → zH, reduceNeg → zI, reduceMul → zJ, reduceAdd → zK, reduceSub → zL, reduceLT → zM, reduceLE → zN, reduceEq → zO, reduceMod → zP, reduceDiv → zQ
section
set_option linter.unusedSimpArgs false
namespace Go.Vlt
open Go Go.Vc
/-- A file, and where its bytes lie. -/
structure VE where
  name : ByteArray
  b : List UInt8
  safe : Nat
  sv : Value
  born : Nat
def VE.ent (e : VE) : Ent := (e.name, .agg #[e.sv, .int .i64 e.safe], e.born)
/-- A slice that is empty, or lies in a block of elements of the type E. -/
def InT (E : TypeId) (w : World) : Value → Prop
  | .slice (some a) n _ => n = 0 ∨ ∃ cs, Blk w a.block cs E
  | _ => True
theorem InT.of_own {E : TypeId} {w : World} {B s n : Nat} {v : Value} {xs : List Value} (h : w.ownsRow B E s v n xs) : InT E w v := by
  obtain ⟨_, h⟩ := h
  rcases h with ⟨rfl, _⟩ | ⟨g, cap, cur, rfl, hb, hh, _⟩
  · trivial
  · exact .inr ⟨cur, hh⟩
theorem fresh_nat : ∀ ks : List Nat, ∃ n, ∀ k ∈ ks, k < n
  | [] => ⟨0, by simp⟩
  | a :: ks => by
    obtain ⟨n, hn⟩ := fresh_nat ks
    refine ⟨n + a + 1, fun k hk => ?_⟩
    rcases List.mem_cons.1 hk with rfl | hk
    · omega
    · have := hn k hk; omega
theorem InT.at_ {E : TypeId} {w : World} {v : Value} {ks : List Nat} (h : InT E w v) (hk : ∀ k ∈ ks, ∀ cs, ¬ Blk w k cs E) : ∃ j, inB j v ∧ j ∉ ks := by
  obtain ⟨n, hn⟩ := fresh_nat ks
  have hnn : n ∉ ks := fun hm => by have := hn n hm; omega
  unfold InT at h
  split at h
  · rename_i a m c
    rcases h with rfl | ⟨cs, hb⟩
    · exact ⟨n, .inl rfl, hnn⟩
    · exact ⟨a.block, .inr rfl, fun hm => hk _ hm cs hb⟩
  · rename_i hno
    refine ⟨n, ?_, hnn⟩
    unfold inB
    split
    · rename_i a m c
      exact absurd rfl (hno a m c)
    · trivial
theorem InT.chg {E : TypeId} {w w' : World} {v : Value} {ks : List Nat} (h : InT E w v) (g : Chg w w' ks) (hk : ∀ k ∈ ks, ∀ cs, ¬ Blk w k cs E) : InT E w' v := by
  unfold InT at h ⊢
  split
  · rename_i a m c
    simp only at h
    rcases h with rfl | ⟨cs, hb⟩
    · exact .inl rfl
    · exact .inr ⟨cs, hb.chg g fun hm => hk _ hm cs hb⟩
  · trivial
theorem InT.later {E : TypeId} {w w' : World} {v : Value} (h : InT E w v) (hl : Later w w') : InT E w' v := h.chg (Chg.of_later (ks := []) hl) (by simp)
structure VE.Ok (E : TypeId) (w : World) (e : VE) : Prop where
  sl : Sl w e.sv (e.b.map u8v)
  u8 : InT E w e.sv
  safe : e.safe ≤ e.b.length
theorem VE.Ok.chg {E : TypeId} {w w' : World} {e : VE} {ks : List Nat} (h : e.Ok E w) (g : Chg w w' ks) (hk : ∀ k ∈ ks, ∀ cs, ¬ Blk w k cs E) : e.Ok E w' := by
  obtain ⟨j, j1, j2⟩ := h.u8.at_ hk
  exact ⟨Sl.chg h.sl g j2 j1, h.u8.chg g hk, h.safe⟩
/-- A vault: its box, its map, its files. -/
structure VIs (T E : TypeId) (w : World) (bk r : Nat) (room fuse : Int) (es : List VE) (c : Nat) : Prop where
  te : T ≠ E
  blk : Blk w bk #[.int .i64 room, .int .i64 fuse, .map (some r)] T
  map : MapB w r (es.map VE.ent) c
  apart : es.Pairwise fun x y => x.name ≠ y.name
  born : ∀ e ∈ es, e.born < c
  nodup : (es.map VE.born).Nodup
  ok : ∀ e ∈ es, e.Ok E w
theorem VIs.ne {T E : TypeId} {w : World} {bk r : Nat} {room fuse : Int} {es : List VE} {c : Nat} (h : VIs T E w bk r room fuse es c) : bk ≠ r := by
  rintro rfl
  have h1 := h.blk
  have h2 := h.map
  unfold Blk at h1
  unfold MapB at h2
  rw [h1] at h2
  cases h2
theorem VIs.box {T E : TypeId} {w : World} {bk r : Nat} {room fuse : Int} {es : List VE} {c : Nat} (h : VIs T E w bk r room fuse es c) : ∀ cs, ¬ Blk w bk cs E := fun cs hb => by
  have h1 := h.blk
  unfold Blk at h1 hb
  rw [h1] at hb
  simp only [Option.some.injEq, Obj.cells.injEq] at hb
  exact h.te hb.2.1
theorem VIs.mapb {T E : TypeId} {w : World} {bk r : Nat} {room fuse : Int} {es : List VE} {c : Nat} (h : VIs T E w bk r room fuse es c) : ∀ t cs, ¬ Blk w r cs t := fun t cs hb => by
  have h1 := h.map
  unfold MapB at h1
  unfold Blk at hb
  rw [h1] at hb
  cases hb
theorem chg_setB {w : World} {r : Nat} {ks : List Nat} (hk : r ∈ ks) (o : Obj) : Chg w (setB w r o) ks := by
  obtain ⟨a, b, c, d, e⟩ := chg_setB' (w := w) (r := r) o
  exact ⟨a, b, c, Nat.le_of_eq d.symm, fun k _ hn => e k fun h => hn (h ▸ hk)⟩
theorem VIs.chg {T E : TypeId} {w w' : World} {bk r : Nat} {room fuse : Int} {es : List VE} {c : Nat} {ks : List Nat} (h : VIs T E w bk r room fuse es c) (g : Chg w w' ks) (hb : bk ∉ ks) (hr : r ∉ ks) (hk : ∀ k ∈ ks, ∀ cs, ¬ Blk w k cs E) : VIs T E w' bk r room fuse es c :=
  ⟨h.te, h.blk.chg g hb, (g.block r (Array.getElem?_eq_some_iff.1 h.map).1 hr).trans h.map, h.apart, h.born, h.nodup, fun e he => (h.ok e he).chg g hk⟩
theorem VIs.later {T E : TypeId} {w w' : World} {bk r : Nat} {room fuse : Int} {es : List VE} {c : Nat} (h : VIs T E w bk r room fuse es c) (hl : Later w w') : VIs T E w' bk r room fuse es c :=
  h.chg (Chg.of_later (ks := []) hl) (by simp) (by simp) (by simp)
/-- A vault's box turned at its fuse. -/
theorem VIs.fuse {T E : TypeId} {w : World} {bk r : Nat} {room fuse : Int} {es : List VE} {c : Nat} (h : VIs T E w bk r room fuse es c) (n : Int) : VIs T E (w.setCell ⟨bk, 1, none⟩ (.int .i64 n)) bk r room n es c := by
  have c2 := chg_setCell (i := 1) w (ks := [bk]) (k := bk) (by simp) (.int .i64 n)
  exact ⟨h.te, h.blk.set 1 (.int .i64 n), (c2.block r (Array.getElem?_eq_some_iff.1 h.map).1 (by simpa using h.ne.symm)).trans h.map, h.apart, h.born, h.nodup, fun e he => (h.ok e he).chg c2 fun k hk => by rw [List.mem_singleton.1 hk]; exact h.box⟩
end Go.Vlt
namespace Go.Proofs.Ytmfcnooleejgmaa
open Go.Vc Go.Vlt
set_option maxRecDepth 100000
abbrev Vt (w : World) (bk r : Nat) (room fuse : Int) (es : List VE) (c : Nat) : Prop := VIs 57 5 w bk r room fuse es c
theorem new_c (room : Int) (w : World) (h : -9223372036854775808 ≤ room ∧ room ≤ 9223372036854775807) : FnC Try.prog 9 #[.int .i64 room] w fun v w' => ((v = .tuple #[.pointer none, .int .i64 1] ∧ ¬ (0 ≤ room ∧ room ≤ 16777216)) ∨ (0 ≤ room ∧ room ≤ 16777216 ∧ ∃ bk r, w.heap.size ≤ bk ∧ w.heap.size ≤ r ∧ v = .tuple #[.pointer (some ⟨bk, 0, none⟩), .int .i64 0] ∧ Vt w' bk r room (-1) [] 0)) ∧ Later w w' := by
  refine enter9 _ ?_
  unfold B9
  by_cases h1 : room < 0
  · have hd := decide_eq_true h1
    repeat' (first | (simp (disch := omega) only [push_cast, ↓reduceIte, zA, zG, zB, zH, zI, zC, zJ, zK, zL, zD, zE, zF, zM, zN, zO, zP, zQ, reduceCtorEq, not_true_eq_false, not_false_eq_true, hd]) | (first | refine vIfE_of ?_ ?_ | refine vIfD_of ?_ ?_ | refine vIfQ_of ?_ ?_ | refine vIfV_of ?_ ?_) <;> intro _ | refine And.intro (by omega) ?_ | refine drawn_q ?_ | fail)
    first | exact Later.refl _ | exact ⟨.inl ⟨rfl, by omega⟩, Later.refl _⟩
  by_cases h2 : 16777216 < room
  · have hd := decide_eq_false h1
    have hd2 := decide_eq_true h2
    repeat' (first | (simp (disch := omega) only [push_cast, ↓reduceIte, zA, zG, zB, zH, zI, zC, zJ, zK, zL, zD, zE, zF, zM, zN, zO, zP, zQ, reduceCtorEq, not_true_eq_false, not_false_eq_true, hd, hd2]) | (first | refine vIfE_of ?_ ?_ | refine vIfD_of ?_ ?_ | refine vIfQ_of ?_ ?_ | refine vIfV_of ?_ ?_) <;> intro _ | refine And.intro (by omega) ?_ | refine drawn_q ?_ | fail)
    first | exact Later.refl _ | exact ⟨.inl ⟨rfl, by omega⟩, Later.refl _⟩
  have hd := decide_eq_false h1
  have hd2 := decide_eq_false h2
  repeat' (first | (simp (disch := omega) only [push_cast, ↓reduceIte, zA, zG, zB, zH, zI, zC, zJ, zK, zL, zD, zE, zF, zM, zN, zO, zP, zQ, reduceCtorEq, not_true_eq_false, not_false_eq_true, hd, hd2]) | (first | refine vIfE_of ?_ ?_ | refine vIfD_of ?_ ?_ | refine vIfQ_of ?_ ?_ | refine vIfV_of ?_ ?_) <;> intro _ | refine And.intro (by omega) ?_ | refine drawn_q ?_ | fail)
  have l1 := later_alloc w (.map #[] 0)
  have hm : (w.alloc (.map #[] 0)).heap[w.heap.size]? = some (.map #[] 0) := heap_new w _
  have hw1 : w.heap.size < (w.alloc (.map #[] 0)).heap.size := (Array.getElem?_eq_some_iff.1 hm).1
  generalize w.alloc (.map #[] 0) = w1 at *
  have l2 := later_alloc w1 (.cells #[.int .i64 room, .int .i64 (-1), .map (some w.heap.size)] 57)
  have hV : Vt (w1.alloc (.cells #[.int .i64 room, .int .i64 (-1), .map (some w.heap.size)] 57)) w1.heap.size w.heap.size room (-1) [] 0 :=
    ⟨by decide, Blk.new _ _ _, (heap_alloc hw1 _).trans hm, List.Pairwise.nil, by simp, List.nodup_nil, by simp⟩
  exact ⟨.inr ⟨by omega, by omega, _, _, l1.size, Nat.le_refl _, rfl, hV⟩, l1.trans l2⟩
theorem burns_c (bk r : Nat) (room fuse : Int) (es : List VE) (c : Nat) (w : World) (h : Vt w bk r room fuse es c) (hf : -1 ≤ fuse ∧ fuse ≤ 9223372036854775807) : FnC Try.prog 32 #[.pointer (some ⟨bk, 0, none⟩)] w fun v w' => (∃ f, f = (if 0 < fuse then fuse - 1 else fuse) ∧ v = .int .i64 (if f = 0 then 272 else 0) ∧ Vt w' bk r room f es c) ∧ Chg w w' [bk] := by
  refine enter32 _ ?_
  unfold B32
  have f1 : w.cell? ⟨bk, 1, none⟩ = some (.int .i64 fuse) := h.blk.cell 1
  have hfz := h.blk.frozen 1
  by_cases h0 : 0 < fuse
  · have hd := decide_eq_true h0
    have hce : ∃ y, w.cell? ⟨bk, 1, none⟩ = some y := ⟨_, f1⟩
    have B2 := h.blk.set 1 (.int .i64 (fuse - 1))
    have c2 := chg_setCell (i := 1) w (ks := [bk]) (k := bk) (by simp) (.int .i64 (fuse - 1))
    have hV : Vt (w.setCell ⟨bk, 1, none⟩ (.int .i64 (fuse - 1))) bk r room (fuse - 1) es c := h.fuse _
    have f2 : (w.setCell ⟨bk, 1, none⟩ (.int .i64 (fuse - 1))).cell? ⟨bk, 1, none⟩ = some (.int .i64 (fuse - 1)) := B2.cell 1
    repeat' (first | (simp (disch := omega) only [push_cast, ↓reduceIte, zA, zG, zB, zH, zI, zC, zJ, zK, zL, zD, zE, zF, zM, zN, zO, zP, zQ, reduceCtorEq, not_true_eq_false, not_false_eq_true, f1, hd, addr_add_eq, Nat.zero_add]) | (first | refine vIfE_of ?_ ?_ | refine vIfD_of ?_ ?_ | refine vIfQ_of ?_ ?_ | refine vIfV_of ?_ ?_) <;> intro _ | refine And.intro (by omega) ?_ | refine drawn_q ?_ | fail)
    refine ⟨⟨_, rfl⟩, hfz, ?_⟩
    generalize w.setCell ⟨bk, 1, none⟩ (.int .i64 (fuse - 1)) = w2 at *
    by_cases h1 : fuse - 1 = 0
    · have hd1 := decide_eq_true h1
      repeat' (first | (simp (disch := omega) only [push_cast, ↓reduceIte, zA, zG, zB, zH, zI, zC, zJ, zK, zL, zD, zE, zF, zM, zN, zO, zP, zQ, reduceCtorEq, not_true_eq_false, not_false_eq_true, f2, hd1, addr_add_eq, Nat.zero_add]) | (first | refine vIfE_of ?_ ?_ | refine vIfD_of ?_ ?_ | refine vIfQ_of ?_ ?_ | refine vIfV_of ?_ ?_) <;> intro _ | refine And.intro (by omega) ?_ | refine drawn_q ?_ | fail)
      first | exact ⟨⟨_, by rw [if_pos h0], by rw [if_pos h1], hV⟩, c2⟩ | skip
    · have hd1 := decide_eq_false h1
      repeat' (first | (simp (disch := omega) only [push_cast, ↓reduceIte, zA, zG, zB, zH, zI, zC, zJ, zK, zL, zD, zE, zF, zM, zN, zO, zP, zQ, reduceCtorEq, not_true_eq_false, not_false_eq_true, f2, hd1, addr_add_eq, Nat.zero_add]) | (first | refine vIfE_of ?_ ?_ | refine vIfD_of ?_ ?_ | refine vIfQ_of ?_ ?_ | refine vIfV_of ?_ ?_) <;> intro _ | refine And.intro (by omega) ?_ | refine drawn_q ?_ | fail)
      first | exact ⟨⟨_, by rw [if_pos h0], by rw [if_neg h1], hV⟩, c2⟩ | skip
  · have hd := decide_eq_false h0
    by_cases h1 : fuse = 0
    · have hd1 := decide_eq_true h1
      repeat' (first | (simp (disch := omega) only [push_cast, ↓reduceIte, zA, zG, zB, zH, zI, zC, zJ, zK, zL, zD, zE, zF, zM, zN, zO, zP, zQ, reduceCtorEq, not_true_eq_false, not_false_eq_true, f1, hd, hd1, addr_add_eq, Nat.zero_add]) | (first | refine vIfE_of ?_ ?_ | refine vIfD_of ?_ ?_ | refine vIfQ_of ?_ ?_ | refine vIfV_of ?_ ?_) <;> intro _ | refine And.intro (by omega) ?_ | refine drawn_q ?_ | fail)
      exact ⟨⟨fuse, by rw [if_neg h0], by rw [if_pos h1], h⟩, Chg.refl _ _⟩
    · have hd1 := decide_eq_false h1
      repeat' (first | (simp (disch := omega) only [push_cast, ↓reduceIte, zA, zG, zB, zH, zI, zC, zJ, zK, zL, zD, zE, zF, zM, zN, zO, zP, zQ, reduceCtorEq, not_true_eq_false, not_false_eq_true, f1, hd, hd1, addr_add_eq, Nat.zero_add]) | (first | refine vIfE_of ?_ ?_ | refine vIfD_of ?_ ?_ | refine vIfQ_of ?_ ?_ | refine vIfV_of ?_ ?_) <;> intro _ | refine And.intro (by omega) ?_ | refine drawn_q ?_ | fail)
      exact ⟨⟨fuse, by rw [if_neg h0], by rw [if_neg h1], h⟩, Chg.refl _ _⟩
end Go.Proofs.Ytmfcnooleejgmaa
end
section
namespace Go.Vc
open Go.RowKit
section
variable {P : Program} {w : World} {K : Value → World → Prop} {t e : TypeId} {z : Value} {b : Nat}
theorem madeCells_one (z : Value) (n : Nat) : madeCells #[z] n = (List.replicate n z).toArray := by
  apply Array.ext
  · simp [madeCells]
  · intro i h1 h2
    have e0 : i % 1 = 0 := Nat.mod_one i
    simp [madeCells, e0]
/-- make([]T, n) of one cell each: the block behind the heap. -/
theorem vMakeSlice_ok (ht : P.underlying t = some (.slice e)) (hi : (P.info? e).map (fun i => (i.zero, i.size, i.bytes)) = some (some z, 1, b)) (hz : z.cells = #[z]) {n : Nat} (hb : b * n ≤ 281474976710656) (h63 : n ≤ maxLen)
    (hK : K (.slice (some ⟨w.heap.size, 0, none⟩) n n) (w.alloc (.cells (List.replicate n z).toArray e))) : vMakeSlice P t (.int .i64 n) (.int .i64 n) K w := by
  obtain ⟨i, hi1, hz1, hsi, hbi⟩ := info_parts hi
  unfold maxLen at h63
  have hb' : (i.bytes : Int) * (n : Int) ≤ 281474976710656 := by
    have h : ((i.bytes * n : Nat) : Int) ≤ 281474976710656 := by rw [hbi]; omega
    rwa [Int.natCast_mul] at h
  have hr := run_make (P := P) w t e i z ht hi1 hz1 .i64 .i64 (n : Int) (n : Int) (by omega) (by omega) hb' (by omega)
  rw [hsi, hz, Nat.mul_one, madeCells_one] at hr
  simp only [Int.toNat_natCast] at hr
  unfold vMakeSlice
  rw [run_val_pure hr]; exact hK
end
/-- A slice that begins a block of the same number of cells. -/
theorem Sl.of_blk {w : World} {k n : Nat} {xs : List Value} {e : TypeId} (h : Blk w k xs.toArray e) (hn : n = xs.length) (hm : n ≤ maxLen) : Sl w (.slice (some ⟨k, 0, none⟩) n n) xs := by
  subst hn
  refine SlN.mk (by simp) (Nat.le_refl _) hm (fun h => by cases h) ?_
  intro a ha i x hx
  simp only [Option.some.injEq] at ha
  subst ha
  rw [addr_add_eq, Nat.zero_add, h.cell]
  simpa using hx
/-- The block of what a call owns. -/
theorem own_blk' {w : World} {base n : Nat} {e : TypeId} {a : Addr} {c m : Nat} {xs : List Value} (h : w.ownsRow base e 1 (.slice (some a) m c) n xs) : ∃ k cs, a = ⟨k, 0, none⟩ ∧ base ≤ k ∧ Blk w k cs e ∧ m = n ∧ n ≤ c ∧ c ≤ maxLen ∧ cs.size = c ∧ cs.toList.take n = xs := by
  obtain ⟨h0, h⟩ := h
  rcases h with ⟨h, _⟩ | ⟨g, cap, cur, hv, hb, hh, h1, h2, h3, h4⟩
  · cases h
  · simp only [Value.slice.injEq, Option.some.injEq] at hv
    obtain ⟨rfl, rfl, rfl⟩ := hv
    exact ⟨g, cur, rfl, hb, hh, rfl, h1, h2, by simpa using h3, by simpa using h4⟩
/-- One cell of what a call owns, written. -/
theorem own_set {w : World} {base n : Nat} {e : TypeId} {k c m i : Nat} {xs : List Value} (h : w.ownsRow base e 1 (.slice (some ⟨k, 0, none⟩) m c) n xs) (hi : i < n) (v : Value) : (w.setCell ⟨k, i, none⟩ v).ownsRow base e 1 (.slice (some ⟨k, 0, none⟩) m c) n (xs.set i v) ∧ (∃ y, w.cell? ⟨k, i, none⟩ = some y) ∧ w.frozen? ⟨k, i, none⟩ = false := by
  obtain ⟨h0, h⟩ := h
  rcases h with ⟨h, _⟩ | ⟨g, cap, cur, hv, hb, hh, h1, h2, h3, h4⟩
  · cases h
  · simp only [Value.slice.injEq, Option.some.injEq] at hv
    obtain ⟨e1, rfl, rfl⟩ := hv
    have hg : g = k := by have := congrArg Addr.block e1; simpa using this.symm
    subst hg
    have hB : Blk w g cur e := hh
    have hsz : cur.size = c := by simpa using h3
    refine ⟨⟨by simpa using h0, .inr ⟨g, c, cur.setIfInBounds i v, rfl, hb, hB.set i v, h1, h2, by simpa using h3, ?_⟩⟩, ?_, hB.frozen i⟩
    · rw [← h4]; simp [List.take_set]
    · rw [hB.cell]; exact ⟨cur[i], Array.getElem?_eq_getElem (by omega)⟩
/-! ### a block that is new, of one cell: looked at, written -/
section
variable {w : World} {e : TypeId}
@[push_cast] theorem cell_new1 (z : Value) : (w.alloc (.cells #[z] e)).cell? ⟨w.heap.size, 0, none⟩ = some z := (Blk.new w #[z] e).cell 0
@[push_cast] theorem frozen_new (cs : Array Value) (i : Nat) : (w.alloc (.cells cs e)).frozen? ⟨w.heap.size, i, none⟩ = false := (Blk.new w cs e).frozen i
@[push_cast] theorem set_new1 (z v : Value) : (w.alloc (.cells #[z] e)).setCell ⟨w.heap.size, 0, none⟩ v = w.alloc (.cells #[v] e) := by
  show World.setCell { w with heap := w.heap.push _ } _ _ = { w with heap := w.heap.push _ }
  simp only [World.setCell]
  congr 1
  apply Array.ext_getElem?
  intro i
  simp only [Array.getElem?_modify, Array.getElem?_push]
  by_cases h : i = w.heap.size
  · subst h; simp
  · rw [if_neg h, if_neg (fun e => h e.symm), if_neg h]
@[push_cast] theorem ex_some (z : Value) : (∃ y, some z = some y) = True := by simp
@[push_cast] theorem tr_and (p : Prop) : (True ∧ p) = p := by simp
end
/-- A number of 64 bits. -/
def u64v (c : UInt64) : Value := .int .u64 c.toNat
/-- A slice that a call owns, as numbers. -/
def OwnW (w : World) (B : Nat) (e : TypeId) (v : Value) (l : List UInt64) : Prop := w.ownsRow B e 1 v l.length (l.map u64v)
theorem OwnW.sl {w : World} {B : Nat} {e : TypeId} {v : Value} {l : List UInt64} (h : OwnW w B e v l) : Sl w v (l.map u64v) := Sl.of_own h
theorem OwnW.later {w w' : World} {B : Nat} {e : TypeId} {v : Value} {l : List UInt64} (h : OwnW w B e v l) (hl : Later w w') : OwnW w' B e v l := own_later h hl
theorem OwnW.base {w : World} {B B' : Nat} {e : TypeId} {v : Value} {l : List UInt64} (h : OwnW w B e v l) (hb : B' ≤ B) : OwnW w B' e v l := own_base h hb
theorem OwnW.slice {w : World} {B : Nat} {e : TypeId} {v : Value} {l : List UInt64} (h : OwnW w B e v l) : ∃ o c, v = .slice o l.length c := by
  obtain ⟨o, c, hv, _⟩ := h.sl.open
  exact ⟨o, c, by simpa using hv⟩
theorem Sl.openM {α : Type} {f : α → Value} {w : World} {v : Value} {l : List α} (h : Sl w v (l.map f)) : ∃ o c, v = .slice o l.length c ∧ l.length ≤ c ∧ c ≤ 9223372036854775807 ∧ Sl w (.slice o l.length c) (l.map f) ∧ (o = none → l = [] ∧ c = 0) := by
  have h' := h
  obtain ⟨o, c, rfl, h1, h2, h3, _⟩ := h.open
  simp only [List.length_map] at h1 h'
  refine ⟨o, c, by simp, h1, by simpa [maxLen] using h2, h', fun ho => ⟨by simpa using (h3 ho).1, (h3 ho).2⟩⟩
theorem take_snoc {α : Type} (l : List α) (i : Nat) (h : i < l.length) : l.take (i + 1) = l.take i ++ [l[i]] := by
  rw [List.take_add_one, List.getElem?_eq_getElem h]; rfl
theorem Sl.at8 {w : World} {a : Addr} {l : List UInt8} {n c : Nat} (h : Sl w (.slice (some a) n c) (l.map u8v)) {i : Nat} (hi : i < l.length) : w.cell? (a.add i) = some (.int .u8 l[i].toNat) := h.at (by simp [u8v, hi])
theorem Sl.some {α : Type} {f : α → Value} {w : World} {o : Option Addr} {l : List α} {n c : Nat} (h : Sl w (.slice o n c) (l.map f)) {i : Nat} (hi : i < l.length) : ∃ a, o = Option.some a := by
  cases o with
  | none => have := (h.len.2.2.2 rfl).1; simp at this; subst this; simp at hi
  | some a => exact ⟨a, rfl⟩
theorem Blk.cellsAt {w : World} {k : Nat} {l : List Value} {e : TypeId} (h : Blk w k l.toArray e) : cellsAt w ⟨k, 0, none⟩ l.length = some l := by
  refine cellsAt_of _ _ l rfl fun i x hx => ?_
  rw [addr_add_eq, Nat.zero_add, h.cell]; simpa using hx
/-- A literal's row in a region that draws its order: a new block, whichever. -/
def RowV (w0 : World) (e : TypeId) (cs : Array Value) (n : Nat) (x : Value) (w : World) : Prop := ∃ b, x = .slice (some ⟨b, 0, none⟩) n n ∧ w0.heap.size ≤ b ∧ Blk w b cs e
theorem RowV.new {w0 w : World} (h : Later w0 w) (e : TypeId) (cs : Array Value) (n : Nat) : Later w (w.alloc (.cells cs e)) ∧ RowV w0 e cs n (.slice (some ⟨w.heap.size, 0, none⟩) n n) (w.alloc (.cells cs e)) :=
  ⟨later_alloc _ _, w.heap.size, rfl, h.size, Blk.new _ _ _⟩
theorem RowV.sl {w0 w : World} {e : TypeId} {l : List Value} {n : Nat} {x : Value} (h : RowV w0 e l.toArray n x w) (hn : n = l.length) (hm : n ≤ maxLen) : Sl w x l := by
  obtain ⟨b, rfl, _, hb⟩ := h
  exact Sl.of_blk hb hn hm
end Go.Vc
end
section
namespace Go.Vc
open Go.RowKit
/-- Two rows of different types lie in different blocks: what grows one leaves the other. -/
theorem own_grown_ty {w w' : World} {base base' s s' n n' : Nat} {e e' : TypeId} {v v' : Value} {xs xs' : List Value} (h : w.ownsRow base e s v n xs) (hc : w.ownsRow base' e' s' v' n' xs') (hne : e ≠ e') (g : w.grownBy w' v'.ownBlock) : w'.ownsRow base e s v n xs := by
  obtain ⟨h0, h⟩ := h
  refine ⟨h0, ?_⟩
  rcases h with h | ⟨b, cap, cur, hv, hb, hh, h3⟩
  · exact .inl h
  · refine .inr ⟨b, cap, cur, hv, hb, ?_, h3⟩
    rw [g.block b (Blk.lt hh) ?_]
    · exact hh
    · obtain ⟨_, hc⟩ := hc
      rcases hc with ⟨rfl, _⟩ | ⟨b', cap', cur', rfl, _, hh', _⟩
      · simp [Value.ownBlock]
      · simp only [Value.ownBlock]
        intro he
        simp only [Option.some.injEq] at he
        subst he
        rw [hh] at hh'
        simp only [Option.some.injEq, Obj.cells.injEq] at hh'
        exact hne hh'.2.1
/-- Lists of bytes, read. -/
def LL (w : World) (v : Value) (ls : List (List UInt8)) : Prop := ∃ vs, Sl w v vs ∧ vs.length = ls.length ∧ ∀ (i : Nat) (x : Value) (l : List UInt8), vs[i]? = some x → ls[i]? = some l → Sl w x (l.map u8v)
theorem LL.later {w w' : World} {v : Value} {ls : List (List UInt8)} (h : LL w v ls) (hl : Later w w') : LL w' v ls := by
  obtain ⟨vs, h1, h2, h3⟩ := h
  exact ⟨vs, h1.later hl, h2, fun i x l hx hl' => (h3 i x l hx hl').later hl⟩
theorem LL.slice {w : World} {v : Value} {ls : List (List UInt8)} (h : LL w v ls) : ∃ o c, v = .slice o ls.length c ∧ ls.length ≤ c ∧ c ≤ 9223372036854775807 := by
  obtain ⟨vs, h1, h2, h3⟩ := h
  obtain ⟨o, c, hv, h4, h5, _⟩ := h1.open
  exact ⟨o, c, by rw [← h2]; exact hv, by omega, by unfold maxLen at h5; omega⟩
/-- One of them. -/
theorem LL.at {w : World} {o : Option Addr} {n c : Nat} {ls : List (List UInt8)} (h : LL w (.slice o n c) ls) {i : Nat} (hi : i < ls.length) : ∃ a x, o = some a ∧ w.cell? (a.add i) = some x ∧ Sl w x (ls[i].map u8v) := by
  obtain ⟨vs, h1, h2, h3⟩ := h
  have hv : vs[i]? = some (vs[i]'(by omega)) := List.getElem?_eq_getElem (by omega)
  cases o with
  | none => have := (h1.len.2.2.2 rfl).1; subst this; simp at h2; omega
  | some a => exact ⟨a, vs[i]'(by omega), rfl, h1.at hv, h3 i _ _ hv (List.getElem?_eq_getElem hi)⟩
theorem LL.pre {w : World} {o : Option Addr} {n c : Nat} {ls : List (List UInt8)} (h : LL w (.slice o n c) ls) {k : Nat} (hk : k ≤ n) : LL w (.slice o k c) (ls.take k) := by
  obtain ⟨vs, h1, h2, h3⟩ := h
  have hn := h1.len.1
  refine ⟨vs.take k, h1.pre hk, by simp; omega, fun i x l hx hl => ?_⟩
  rw [List.getElem?_take] at hx hl
  split at hx
  · rename_i hi; rw [if_pos hi] at hl; exact h3 i x l hx hl
  · cases hx
theorem LL.nil (w : World) : LL w (.slice none 0 0) [] := ⟨[], Sl.nil w, rfl, fun i x l hx _ => by simp at hx⟩
/-- Lists of bytes whose row the call owns; each of them is as Q says. -/
def LLo (Q : World → Value → List UInt8 → Prop) (w : World) (B : Nat) (e : TypeId) (v : Value) (ls : List (List UInt8)) : Prop :=
  ∃ vs, w.ownsRow B e 1 v ls.length vs ∧ ∀ (i : Nat) (x : Value) (l : List UInt8), vs[i]? = some x → ls[i]? = some l → Q w x l
theorem LLo.len {Q : World → Value → List UInt8 → Prop} {w : World} {B : Nat} {e : TypeId} {v : Value} {ls : List (List UInt8)} (h : LLo Q w B e v ls) : ∃ o c, v = .slice o ls.length c := by
  obtain ⟨vs, h1, _⟩ := h
  have hn := own_n h1
  obtain ⟨o, c, hv, _⟩ := (Sl.of_own h1).open
  exact ⟨o, c, by rw [hn]; exact hv⟩
theorem LLo.nil (Q : World → Value → List UInt8 → Prop) (w : World) (B : Nat) (e : TypeId) : LLo Q w B e (.slice none 0 0) [] := ⟨[], own_nil _ _ _ _, fun i x l hx _ => by simp at hx⟩
theorem LLo.mono {Q Q' : World → Value → List UInt8 → Prop} {w w' : World} {B : Nat} {e : TypeId} {v : Value} {ls : List (List UInt8)} (h : LLo Q w B e v ls) (hl : Later w w') (hQ : ∀ x l, Q w x l → Q' w' x l) : LLo Q' w' B e v ls := by
  obtain ⟨vs, h1, h2⟩ := h
  exact ⟨vs, own_later h1 hl, fun i x l hx hl => hQ _ _ (h2 i x l hx hl)⟩
/-- A constant's bytes: a literal's row, marked. -/
theorem vConv_const {P : Program} {w : World} {K : Value → World → Prop} {t e : TypeId} {C : Array Value} {n c : Nat} (ht : P.underlying t = some (.slice e)) (he : P.underlying e = some (.int .u8))
    (hk : K (.slice (some ⟨w.heap.size, 0, none⟩) n c) (w.alloc (.cells C e (C.size, C.size + 1)))) : vConvD P t t (some (.slice e)) (some (.slice e)) (.slice (some ⟨w.heap.size, 0, none⟩) n c) K (w.alloc (.cells C e)) := by
  show vcUp P K ((val (convert t t (.slice (some ⟨w.heap.size, 0, none⟩) n c))).run P (w.alloc (.cells C e)))
  rw [run_val_pure (Lib.run_convert_bytes_const w t e C n c ht he)]; exact hk
theorem Sl.litM (w : World) (l : List Value) (e : TypeId) (f : Nat × Nat) (hn : l.length ≤ maxLen) : Sl (w.alloc (.cells l.toArray e f)) (.slice (Option.some ⟨w.heap.size, 0, none⟩) l.length l.length) l := by
  refine SlN.mk (by simp) (Nat.le_refl _) hn (fun h => by cases h) ?_
  intro a ha i x hx
  simp only [Option.some.injEq] at ha
  subst ha
  rw [addr_add_eq, Nat.zero_add]
  have : (w.alloc (.cells l.toArray e f)).heap[w.heap.size]? = Option.some (.cells l.toArray e f) := heap_new w _
  simp only [World.cell?, this]
  simpa using hx
end Go.Vc
end
section
namespace Go.Vc
open Go.RowKit
theorem flatten_get {s : Nat} : ∀ (rows : List (List Value)), (∀ r ∈ rows, r.length = s) → ∀ (k j : Nat) (r : List Value) (x : Value), rows[k]? = some r → r[j]? = some x → rows.flatten[k * s + j]? = some x
  | [], _, k, j, r, x, h, _ => by simp at h
  | q :: rows, hl, 0, j, r, x, h, hx => by
    simp only [List.getElem?_cons_zero, Option.some.injEq] at h
    subst h
    have : j < q.length := (List.getElem?_eq_some_iff.1 hx).1
    rw [List.flatten_cons, Nat.zero_mul, Nat.zero_add, List.getElem?_append_left this]; exact hx
  | q :: rows, hl, k + 1, j, r, x, h, hx => by
    have hq := hl q (by simp)
    have ih := flatten_get rows (fun r' h' => hl r' (by simp [h'])) k j r x (by simpa using h) hx
    rw [List.flatten_cons, Nat.add_mul, List.getElem?_append_right (by omega)]
    rw [← ih]; congr 1; omega
theorem SlN.row {w : World} {s n n' c : Nat} {a : Addr} {rows : List (List Value)} (h : SlN w s (.slice (some a) n c) n' rows.flatten) (hl : ∀ r ∈ rows, r.length = s) {k : Nat} {r : List Value} (hr : rows[k]? = some r) : cellsAt w (a.add (k * s)) s = some r := by
  refine cellsAt_of s _ r (hl r (List.mem_of_getElem? hr)) fun j x hx => ?_
  rw [addr_add_add]
  exact h.at (flatten_get rows hl k j r x hr hx)
/-- One cell of a row. -/
theorem SlN.rowCell {w : World} {s n n' c : Nat} {a : Addr} {rows : List (List Value)} (h : SlN w s (.slice (some a) n c) n' rows.flatten) (hl : ∀ r ∈ rows, r.length = s) {k j : Nat} {r : List Value} {x : Value} (hr : rows[k]? = some r) (hx : r[j]? = some x) : w.cell? ((a.add (k * s)).add j) = some x := by
  rw [addr_add_add]
  exact h.at (flatten_get rows hl k j r x hr hx)
theorem storeAll_new (w : World) (e : TypeId) : ∀ (xs : List Value) (done rest : List Value), rest.length = xs.length →
    storeAll (w.alloc (.cells (done ++ rest).toArray e)) ⟨w.heap.size, done.length, none⟩ xs = w.alloc (.cells (done ++ xs).toArray e)
  | [], done, rest, h => by
    have : rest = [] := List.eq_nil_of_length_eq_zero (by simpa using h)
    subst this; rfl
  | x :: xs, done, [], h => by simp at h
  | x :: xs, done, r :: rest, h => by
    have ih := storeAll_new w e xs (done ++ [x]) rest (by simpa using h)
    simp only [storeAll]
    have e1 : (w.alloc (.cells (done ++ r :: rest).toArray e)).setCell ⟨w.heap.size, done.length, none⟩ x = w.alloc (.cells (done ++ [x] ++ rest).toArray e) := by
      have hm : ∀ (o o' : Obj) (f : Obj → Obj), f o = o' → (w.heap.push o).modify w.heap.size f = w.heap.push o' := by
        intro o o' f hf
        apply Array.ext_getElem?
        intro i
        rw [Array.getElem?_modify, Array.getElem?_push, Array.getElem?_push]
        by_cases hi : i = w.heap.size
        · subst hi; simp [hf]
        · rw [if_neg (by omega), if_neg hi, if_neg hi]
      show ({ w with heap := (w.heap.push (.cells (done ++ r :: rest).toArray e)).modify w.heap.size _ } : World) = { w with heap := w.heap.push (.cells (done ++ [x] ++ rest).toArray e) }
      rw [hm _ (.cells (done ++ [x] ++ rest).toArray e) _ (by simp)]
    rw [e1, addr_add_eq]
    have e2 : (done ++ [x]).length = done.length + 1 := by simp
    rw [← e2, ih]
    simp
theorem canAll_new (w : World) (e : TypeId) (cs : Array Value) : ∀ (xs : List Value) (i : Nat), i + xs.length ≤ cs.size → canAll (w.alloc (.cells cs e)) ⟨w.heap.size, i, none⟩ xs
  | [], _, _ => trivial
  | x :: xs, i, h => by
    simp only [List.length_cons] at h
    refine ⟨?_, (Blk.new w cs e).frozen i, ?_⟩
    · rw [(Blk.new w cs e).cell i]
      exact ⟨_, Array.getElem?_eq_getElem (by omega)⟩
    · rw [addr_add_eq]; exact canAll_new w e cs xs (i + 1) (by omega)
/-- A struct laid anew, and filled. -/
theorem vStore_new {P : Program} {w : World} {K : Value → World → Prop} {t e : TypeId} {z cs : Array Value} {s : Nat} (hs : cs.size = s) (hz : z.size = s) (h1 : ∀ u ∈ cs.toList, u.oneCell' = true) (hk : K undef (w.alloc (.cells cs e))) :
    vStoreD P t (some s) (.pointer (some ⟨w.heap.size, 0, none⟩)) (.agg cs) K (w.alloc (.cells z e)) := by
  refine ⟨hs, h1, canAll_new w e z cs.toList 0 (by simp; omega), ?_⟩
  have := storeAll_new w e cs.toList [] z.toList (by simp; omega)
  simp only [List.nil_append, List.length_nil] at this
  show K undef (storeAll (w.alloc (.cells z e)) ⟨w.heap.size, 0, none⟩ cs.toList)
  have e1 : z.toList.toArray = z := by simp
  have e2 : cs.toList.toArray = cs := by simp
  rw [e1, e2] at this
  rw [this]; exact hk
section
variable {P : Program} {w : World} {Ns : NS} {rs : List Nat} {σ : Env} {ty : TypeId} {Kv : Value → Prop} {Kn : (Value → World → Prop) → Prop}
end
end Go.Vc
end
section
namespace Go.Vc
open Go.RowKit
theorem chg_putObj (w : World) {L : Nat} {ks : List Nat} (h : L ∈ ks) (o : Obj) : Chg w (w.putObj L o) ks :=
  ⟨rfl, rfl, rfl, by simp [World.putObj], fun k _ hn => World.putObj_heap_other fun e => hn (e ▸ h)⟩
theorem later_two (w : World) (o o' : Obj) : Later w ((w.alloc o).alloc o') := (later_alloc w o).alloc o'
theorem heap_later {w w' : World} {k : Nat} {o : Obj} (h : w.heap[k]? = some o) (hl : Later w w') : w'.heap[k]? = some o := by
  rw [hl.block k (Array.getElem?_eq_some_iff.1 h).1]; exact h
theorem heap_chg {w w' : World} {k : Nat} {o : Obj} {ks : List Nat} (h : w.heap[k]? = some o) (g : Chg w w' ks) (hk : k ∉ ks) : w'.heap[k]? = some o := by
  rw [g.block k (Array.getElem?_eq_some_iff.1 h).1 hk]; exact h
/-- A pair's cells. -/
def pairC (p : Int × Int) : List Value := [.int .i64 p.1, .int .i64 p.2]
/-- Pairs, read. -/
def PairS (w : World) (v : Value) (l : List (Int × Int)) : Prop := SlN w 2 v l.length (l.map pairC).flatten
def OwnP (w : World) (B : Nat) (e : TypeId) (v : Value) (l : List (Int × Int)) : Prop := w.ownsRow B e 2 v l.length (l.map pairC).flatten
theorem pairs_len (l : List (Int × Int)) : ∀ r ∈ l.map pairC, r.length = 2 := by
  intro r hr
  obtain ⟨p, _, rfl⟩ := List.mem_map.1 hr
  rfl
theorem PairS.later {w w' : World} {v : Value} {l : List (Int × Int)} (h : PairS w v l) (hl : Later w w') : PairS w' v l := SlN.later h hl
theorem OwnP.s {w : World} {B : Nat} {e : TypeId} {v : Value} {l : List (Int × Int)} (h : OwnP w B e v l) : PairS w v l := SlN.of_own h
theorem OwnP.later {w w' : World} {B : Nat} {e : TypeId} {v : Value} {l : List (Int × Int)} (h : OwnP w B e v l) (hl : Later w w') : OwnP w' B e v l := own_later h hl
theorem OwnP.base {w : World} {B B' : Nat} {e : TypeId} {v : Value} {l : List (Int × Int)} (h : OwnP w B e v l) (hb : B' ≤ B) : OwnP w B' e v l := own_base h hb
theorem OwnP.nil (w : World) (B : Nat) (e : TypeId) : OwnP w B e (.slice none 0 0) [] := own_nil w B e 2
theorem PairS.slice {w : World} {v : Value} {l : List (Int × Int)} (h : PairS w v l) : ∃ o c, v = .slice o l.length c ∧ l.length ≤ c ∧ c ≤ 9223372036854775807 := by
  obtain ⟨o, c, hv, h1, h2, _⟩ := SlN.open h
  exact ⟨o, c, hv, h1, by simpa [maxLen] using h2⟩
theorem PairS.at {w : World} {o : Option Addr} {n c : Nat} {l : List (Int × Int)} (h : PairS w (.slice o n c) l) {i : Nat} (hi : i < l.length) : ∃ a, o = some a ∧ cellsAt w (a.add (i * 2)) 2 = some (pairC l[i]) ∧
    w.cell? (a.add (i * 2)) = some (.int .i64 l[i].1) ∧ w.cell? ((a.add (i * 2)).add 1) = some (.int .i64 l[i].2) := by
  cases o with
  | none => have h1 := SlN.len h; have := h1.2.2.2.2 rfl; have := h1.1; omega
  | some a =>
    have hr : (l.map pairC)[i]? = some (pairC l[i]) := by simp [hi]
    refine ⟨a, rfl, SlN.row h (pairs_len l) hr, ?_, SlN.rowCell h (pairs_len l) hr rfl⟩
    have := SlN.rowCell h (pairs_len l) hr (j := 0) rfl
    simpa [addr_add_zero] using this
end Go.Vc
end
section
namespace Go.Vc
open Go.RowKit
/-- Two rows of a call's own lie in two blocks. -/
def Apt (v x : Value) : Prop := ∀ k, v.ownBlock = some k → x.ownBlock ≠ some k
theorem Apt.symm {v x : Value} (h : Apt v x) : Apt x v := fun k hk hk' => h k hk' hk
theorem Apt.nil (x : Value) : Apt (.slice none 0 0) x := fun k hk => by simp [Value.ownBlock] at hk
/-- A row of a call's own and what it becomes: another row that lay apart still does. -/
theorem Apt.next {w : World} {base s n : Nat} {e : TypeId} {v v' x : Value} {xs : List Value} (hap : Apt v x) (hx : w.ownsRow base e s x n xs) (h : v'.ownBlock = v.ownBlock ∨ v'.ownBlock = some w.heap.size) : Apt v' x := by
  intro k hk hk'
  rcases h with h | h
  · exact hap k (h ▸ hk) hk'
  · have := World.ownsRow.lt hx k hk'
    rw [h] at hk
    simp only [Option.some.injEq] at hk
    omega
end Go.Vc
end
section
namespace Go.Vc
open Go.RowKit
/-- A row of one type stays where a block of another is written. -/
theorem own_chg_ty {w w' : World} {base s n k : Nat} {e e' : TypeId} {cs : Array Value} {v : Value} {xs : List Value} (h : w.ownsRow base e s v n xs) (hb : Blk w k cs e') (hne : e ≠ e') (g : Chg w w' [k]) : w'.ownsRow base e s v n xs := by
  obtain ⟨h0, h⟩ := h
  refine ⟨h0, ?_⟩
  rcases h with h | ⟨b, cap, cur, hv, hbb, hh, h3⟩
  · exact .inl h
  · refine .inr ⟨b, cap, cur, hv, hbb, ?_, h3⟩
    rw [g.block b (Blk.lt hh) ?_]
    · exact hh
    · intro hm
      simp only [List.mem_singleton] at hm
      subst hm
      unfold Blk at hb
      rw [hh] at hb
      simp only [Option.some.injEq, Obj.cells.injEq] at hb
      exact hne hb.2.1
theorem own_obj {w w' : World} {base s n k : Nat} {e : TypeId} {o : Obj} {v : Value} {xs : List Value} (h : w.ownsRow base e s v n xs) (hb : w.heap[k]? = some o) (ho : o.isCells = false) (g : Chg w w' [k]) : w'.ownsRow base e s v n xs := by
  obtain ⟨h0, h⟩ := h
  refine ⟨h0, ?_⟩
  rcases h with h | ⟨b, cap, cur, hv, hbb, hh, h3⟩
  · exact .inl h
  · refine .inr ⟨b, cap, cur, hv, hbb, ?_, h3⟩
    rw [g.block b (Blk.lt hh) ?_]
    · exact hh
    · intro hm
      simp only [List.mem_singleton] at hm
      subst hm
      rw [hh] at hb
      simp only [Option.some.injEq] at hb
      subst hb
      simp [Obj.isCells] at ho
theorem own_ne {w : World} {base s n k : Nat} {e : TypeId} {o : Obj} {v : Value} {xs : List Value} (h : w.ownsRow base e s v n xs) (hk : w.heap[k]? = some o) (ho : ∀ cs, o ≠ .cells cs e (0, 0)) : v.ownBlock ≠ some k := by
  obtain ⟨h0, h⟩ := h
  rcases h with ⟨rfl, _⟩ | ⟨b, cap, cur, rfl, _, hh, _⟩
  · simp [Value.ownBlock]
  · simp only [Value.ownBlock]
    intro he
    simp only [Option.some.injEq] at he
    subst he
    rw [hh] at hk
    simp only [Option.some.injEq] at hk
    exact ho cur hk.symm
theorem not_cells {o : Obj} (h : o.isCells = false) (e : TypeId) : ∀ cs, o ≠ .cells cs e (0, 0) := by
  intro cs e'
  subst e'
  simp [Obj.isCells] at h
theorem grown_obj {w w' : World} {base s n k : Nat} {e : TypeId} {o : Obj} {v : Value} {xs : List Value} (h : w.ownsRow base e s v n xs) (g : w.grownBy w' v.ownBlock) (hk : w.heap[k]? = some o) (ho : ∀ cs, o ≠ .cells cs e (0, 0)) : w'.heap[k]? = some o := by
  rw [g.block k (Array.getElem?_eq_some_iff.1 hk).1 (fun e => own_ne h hk ho e.symm)]; exact hk
end Go.Vc
end
section
set_option linter.unusedSimpArgs false
namespace Go.Vlt
open Go Go.Vc
def vFind (k : ByteArray) : List VE → Option VE
  | [] => none
  | e :: l => if k = e.name then some e else vFind k l
def VE.val (e : VE) : Value := .agg #[e.sv, .int .i64 e.safe]
theorem mIdx_ent (k : ByteArray) : ∀ (es : List VE) (i : Nat), (vFind k es = none ∧ mIdx k (es.map VE.ent) i = none) ∨ ∃ e j, e ∈ es ∧ vFind k es = some e ∧ mIdx k (es.map VE.ent) i = some (j, e.val)
  | [], _ => .inl ⟨rfl, rfl⟩
  | e :: l, i => by
    simp only [List.map_cons, mIdx, vFind]
    have he : e.ent.fst = e.name := rfl
    rw [he]
    by_cases h : k = e.name
    · right
      refine ⟨e, i, by simp, by rw [if_pos h], ?_⟩
      rw [if_pos (bytes_beq.2 h)]
      rfl
    · rw [if_neg h, if_neg (fun h' => h (bytes_beq.1 h'))]
      rcases mIdx_ent k l (i + 1) with h' | ⟨e', j, h1, h2, h3⟩
      · exact .inl h'
      · exact .inr ⟨e', j, List.mem_cons_of_mem _ h1, h2, h3⟩
end Go.Vlt
namespace Go.Proofs.Ytmfcnooleejgmaa
open Go.Vc Go.Vlt
set_option maxRecDepth 100000
theorem zfile (w : World) : (zeroValue 61).run Try.prog w = .ok (.agg #[.slice none 0 0, .int .i64 0]) w := Try.zeroValue61 w
theorem own8_of {w : World} {B : Nat} {e : TypeId} {v : Value} {l : List UInt8} {n : Nat} (h : w.ownsRow B e 1 v n (l.map u8v)) : OwnB w B e v l := by
  have := own_n h
  unfold OwnB
  rw [this] at h
  simpa using h
theorem sl8_n {w : World} {v : Value} {l : List UInt8} (h : Sl w v (l.map u8v)) : SlN w 1 v l.length (l.map u8v) := by simpa [Sl] using h
theorem own8_app {w : World} {B : Nat} {e : TypeId} {v : Value} {a b : List UInt8} {n : Nat} (h : w.ownsRow B e 1 v n (a.map u8v ++ b.map u8v)) : OwnB w B e v (a ++ b) := own8_of (n := n) (by rw [List.map_append]; exact h)
theorem bclone_c (v : Value) (l : List UInt8) (w : World) (h : Sl w v (l.map u8v)) (hb : l.length ≤ 1000000000) : FnC Try.prog 34 #[v] w fun r w' => OwnB w' w.heap.size 5 r l ∧ Later w w' := by
  obtain ⟨o, c, rfl⟩ := Sl.slice h
  rw [List.length_map] at h ⊢
  refine enter34 _ ?_
  unfold B34
  cases o with
  | none =>
    have h0 := (Sl.len h).2.2.2 rfl
    have hl : l = [] := List.map_eq_nil_iff.1 h0.1
    subst hl
    obtain rfl := h0.2
    repeat' (first | (simp (disch := omega) only [push_cast, ↓reduceIte, zA, zG, zB, zH, zI, zC, zJ, zK, zL, zD, zE, zF, zM, zN, zO, zP, zQ, reduceCtorEq, not_true_eq_false, not_false_eq_true]) | (first | refine vIfE_of ?_ ?_ | refine vIfD_of ?_ ?_ | refine vIfQ_of ?_ ?_ | refine vIfV_of ?_ ?_) <;> intro _ | refine And.intro (by omega) ?_ | refine drawn_q ?_ | fail)
    exact ⟨own_nil _ _ _ _, Later.refl _⟩
  | some a =>
    repeat' (first | (simp (disch := omega) only [push_cast, ↓reduceIte, zA, zG, zB, zH, zI, zC, zJ, zK, zL, zD, zE, zF, zM, zN, zO, zP, zQ, reduceCtorEq, not_true_eq_false, not_false_eq_true]) | (first | refine vIfE_of ?_ ?_ | refine vIfD_of ?_ ?_ | refine vIfQ_of ?_ ?_ | refine vIfV_of ?_ ?_) <;> intro _ | refine And.intro (by omega) ?_ | refine drawn_q ?_ | fail)
    have l1 := later_alloc w (.cells #[] 5)
    have own0 : OwnB (w.alloc (.cells #[] 5)) w.heap.size 5 (.slice (some ⟨w.heap.size, 0, none⟩) 0 0) [] := own_lit w [] 5 1 0 rfl (Nat.zero_le _) (Nat.le_refl _)
    refine vAppend_own Try.underlying22 ti5 rfl (by decide) own0 (sl8_n (Sl.later h l1)) (u8vs_one _) (by unfold maxLen; simp only [List.length_nil]; omega) (by simp only [List.length_nil]; omega) l1.size ?_
    intro v2 w2 h2 g2 _
    have l2 : Later w w2 := l1.appended own0 (Nat.le_refl _) g2
    have h2 := own8_app h2
    repeat' (first | (simp (disch := omega) only [push_cast, ↓reduceIte, zA, zG, zB, zH, zI, zC, zJ, zK, zL, zD, zE, zF, zM, zN, zO, zP, zQ, reduceCtorEq, not_true_eq_false, not_false_eq_true]) | (first | refine vIfE_of ?_ ?_ | refine vIfD_of ?_ ?_ | refine vIfQ_of ?_ ?_ | refine vIfV_of ?_ ?_) <;> intro _ | refine And.intro (by omega) ?_ | refine drawn_q ?_ | fail)
    exact ⟨h2, l2⟩
theorem read_c (bk r : Nat) (room fuse : Int) (es : List VE) (c : Nat) (k : ByteArray) (w : World) (h : Vt w bk r room fuse es c) (hb : ∀ e ∈ es, e.b.length ≤ 1000000000) : FnC Try.prog 14 #[.pointer (some ⟨bk, 0, none⟩), .string k] w fun v w' => (∃ x, v = .tuple #[x, .bool (vFind k es).isSome] ∧ OwnB w' w.heap.size 5 x (((vFind k es).map VE.b).getD [])) ∧ Later w w' := by
  refine enter14 _ _ ?_
  unfold B14
  have f2 : w.cell? ⟨bk, 2, none⟩ = some (.map (some r)) := h.blk.cell 2
  repeat' (first | (simp (disch := omega) only [push_cast, ↓reduceIte, zA, zG, zB, zH, zI, zC, zJ, zK, zL, zD, zE, zF, zM, zN, zO, zP, zQ, reduceCtorEq, not_true_eq_false, not_false_eq_true, f2, addr_add_eq, Nat.zero_add]) | (first | refine vIfE_of ?_ ?_ | refine vIfD_of ?_ ?_ | refine vIfQ_of ?_ ?_ | refine vIfV_of ?_ ?_) <;> intro _ | refine And.intro (by omega) ?_ | refine drawn_q ?_ | fail)
  refine vLook_of Try.underlying55 Try.underlying9 zfile h.map k true ?_
  rcases mIdx_ent k es 0 with ⟨h1, h2⟩ | ⟨e, j, he, h1, h2⟩
  · rw [h1, h2]
    unfold mGot
    repeat' (first | (simp (disch := omega) only [push_cast, ↓reduceIte, zA, zG, zB, zH, zI, zC, zJ, zK, zL, zD, zE, zF, zM, zN, zO, zP, zQ, reduceCtorEq, not_true_eq_false, not_false_eq_true]) | (first | refine vIfE_of ?_ ?_ | refine vIfD_of ?_ ?_ | refine vIfQ_of ?_ ?_ | refine vIfV_of ?_ ?_) <;> intro _ | refine And.intro (by omega) ?_ | refine drawn_q ?_ | fail)
    refine vStore_new rfl rfl (by intro u hu; simp at hu; rcases hu with rfl | rfl <;> rfl) ?_
    have l1 := later_alloc w (.cells #[.slice none 0 0, .int .i64 0] 61)
    have f3 : (w.alloc (.cells #[.slice none 0 0, .int .i64 0] 61)).cell? ⟨w.heap.size, 0, none⟩ = some (.slice none 0 0) := (Blk.new w _ _).cell 0
    generalize w.alloc (.cells #[.slice none 0 0, .int .i64 0] 61) = w1 at *
    repeat' (first | (simp (disch := omega) only [push_cast, ↓reduceIte, zA, zG, zB, zH, zI, zC, zJ, zK, zL, zD, zE, zF, zM, zN, zO, zP, zQ, reduceCtorEq, not_true_eq_false, not_false_eq_true, f3, addr_add_eq, Nat.zero_add]) | (first | refine vIfE_of ?_ ?_ | refine vIfD_of ?_ ?_ | refine vIfQ_of ?_ ?_ | refine vIfV_of ?_ ?_) <;> intro _ | refine And.intro (by omega) ?_ | refine drawn_q ?_ | fail)
    refine (bclone_c _ [] w1 (Sl.nil _) (by simp)).mono ?_
    rintro x w2 ⟨hx, l2⟩
    repeat' (first | (simp (disch := omega) only [push_cast, ↓reduceIte, zA, zG, zB, zH, zI, zC, zJ, zK, zL, zD, zE, zF, zM, zN, zO, zP, zQ, reduceCtorEq, not_true_eq_false, not_false_eq_true]) | (first | refine vIfE_of ?_ ?_ | refine vIfD_of ?_ ?_ | refine vIfQ_of ?_ ?_ | refine vIfV_of ?_ ?_) <;> intro _ | refine And.intro (by omega) ?_ | refine drawn_q ?_ | fail)
    exact ⟨⟨x, rfl, own_base hx l1.size⟩, l1.trans l2⟩
  · rw [h1, h2]
    unfold mGot VE.val
    have hok := h.ok e he
    obtain ⟨os, cs, hsv⟩ := Sl.slice hok.sl
    repeat' (first | (simp (disch := omega) only [push_cast, ↓reduceIte, zA, zG, zB, zH, zI, zC, zJ, zK, zL, zD, zE, zF, zM, zN, zO, zP, zQ, reduceCtorEq, not_true_eq_false, not_false_eq_true]) | (first | refine vIfE_of ?_ ?_ | refine vIfD_of ?_ ?_ | refine vIfQ_of ?_ ?_ | refine vIfV_of ?_ ?_) <;> intro _ | refine And.intro (by omega) ?_ | refine drawn_q ?_ | fail)
    refine vStore_new rfl rfl (by intro u hu; rw [hsv] at hu; simp at hu; rcases hu with rfl | rfl <;> rfl) ?_
    have l1 := later_alloc w (.cells #[e.sv, .int .i64 e.safe] 61)
    have f3 : (w.alloc (.cells #[e.sv, .int .i64 e.safe] 61)).cell? ⟨w.heap.size, 0, none⟩ = some e.sv := (Blk.new w _ _).cell 0
    generalize w.alloc (.cells #[e.sv, .int .i64 e.safe] 61) = w1 at *
    rw [hsv] at f3
    repeat' (first | (simp (disch := omega) only [push_cast, ↓reduceIte, zA, zG, zB, zH, zI, zC, zJ, zK, zL, zD, zE, zF, zM, zN, zO, zP, zQ, reduceCtorEq, not_true_eq_false, not_false_eq_true, f3, addr_add_eq, Nat.zero_add]) | (first | refine vIfE_of ?_ ?_ | refine vIfD_of ?_ ?_ | refine vIfQ_of ?_ ?_ | refine vIfV_of ?_ ?_) <;> intro _ | refine And.intro (by omega) ?_ | refine drawn_q ?_ | fail)
    refine (bclone_c _ e.b w1 (by rw [← hsv]; exact Sl.later hok.sl l1) (hb e he)).mono ?_
    rintro x w2 ⟨hx, l2⟩
    repeat' (first | (simp (disch := omega) only [push_cast, ↓reduceIte, zA, zG, zB, zH, zI, zC, zJ, zK, zL, zD, zE, zF, zM, zN, zO, zP, zQ, reduceCtorEq, not_true_eq_false, not_false_eq_true]) | (first | refine vIfE_of ?_ ?_ | refine vIfD_of ?_ ?_ | refine vIfQ_of ?_ ?_ | refine vIfV_of ?_ ?_) <;> intro _ | refine And.intro (by omega) ?_ | refine drawn_q ?_ | fail)
    exact ⟨⟨x, rfl, own_base hx l1.size⟩, l1.trans l2⟩
theorem arm_c (bk r : Nat) (room fuse n : Int) (es : List VE) (c : Nat) (w : World) (h : Vt w bk r room fuse es c) : FnC Try.prog 27 #[.pointer (some ⟨bk, 0, none⟩), .int .i64 n] w fun v w' => (v = .int .i64 (if n < 0 then 1 else 0) ∧ Vt w' bk r room (if n < 0 then fuse else n) es c) ∧ Chg w w' [bk] := by
  refine enter27 _ _ ?_
  unfold B27
  by_cases h0 : n < 0
  · have hd := decide_eq_true h0
    repeat' (first | (simp (disch := omega) only [push_cast, ↓reduceIte, zA, zG, zB, zH, zI, zC, zJ, zK, zL, zD, zE, zF, zM, zN, zO, zP, zQ, reduceCtorEq, not_true_eq_false, not_false_eq_true, hd]) | (first | refine vIfE_of ?_ ?_ | refine vIfD_of ?_ ?_ | refine vIfQ_of ?_ ?_ | refine vIfV_of ?_ ?_) <;> intro _ | refine And.intro (by omega) ?_ | refine drawn_q ?_ | fail)
    first | exact ⟨⟨by rw [if_pos h0], by rw [if_pos h0]; exact h⟩, Chg.refl _ _⟩ | (rw [if_pos h0, if_pos h0]; exact ⟨⟨rfl, h⟩, Chg.refl _ _⟩) | trace_state
  · have hd := decide_eq_false h0
    have hce : ∃ y, w.cell? ⟨bk, 1, none⟩ = some y := ⟨_, h.blk.cell 1⟩
    have hfz := h.blk.frozen 1
    repeat' (first | (simp (disch := omega) only [push_cast, ↓reduceIte, zA, zG, zB, zH, zI, zC, zJ, zK, zL, zD, zE, zF, zM, zN, zO, zP, zQ, reduceCtorEq, not_true_eq_false, not_false_eq_true, hd, hce, hfz, addr_add_eq, Nat.zero_add]) | (first | refine vIfE_of ?_ ?_ | refine vIfD_of ?_ ?_ | refine vIfQ_of ?_ ?_ | refine vIfV_of ?_ ?_) <;> intro _ | refine And.intro (by omega) ?_ | refine drawn_q ?_ | fail)
    have c2 := chg_setCell (i := 1) w (ks := [bk]) (k := bk) (by simp) (.int .i64 n)
    first | exact ⟨⟨by rw [if_neg h0], by rw [if_neg h0]; exact h.fuse n⟩, c2⟩ | (rw [if_neg h0, if_neg h0]; exact ⟨⟨rfl, h.fuse n⟩, c2⟩) | exact ⟨h.fuse n, c2⟩ | trace_state
theorem broken_c (bk r : Nat) (room fuse : Int) (es : List VE) (c : Nat) (w : World) (h : Vt w bk r room fuse es c) : FnC Try.prog 28 #[.pointer (some ⟨bk, 0, none⟩)] w fun v w' => v = .bool (decide (fuse = 0)) ∧ w' = w := by
  refine enter28 _ ?_
  unfold B28
  have f1 : w.cell? ⟨bk, 1, none⟩ = some (.int .i64 fuse) := h.blk.cell 1
  repeat' (first | (simp (disch := omega) only [push_cast, ↓reduceIte, zA, zG, zB, zH, zI, zC, zJ, zK, zL, zD, zE, zF, zM, zN, zO, zP, zQ, reduceCtorEq, not_true_eq_false, not_false_eq_true, f1, addr_add_eq, Nat.zero_add]) | (first | refine vIfE_of ?_ ?_ | refine vIfD_of ?_ ?_ | refine vIfQ_of ?_ ?_ | refine vIfV_of ?_ ?_) <;> intro _ | refine And.intro (by omega) ?_ | refine drawn_q ?_ | fail)
  first | exact ⟨rfl, rfl⟩ | trace_state
end Go.Proofs.Ytmfcnooleejgmaa
end
section
set_option linter.unusedSimpArgs false
namespace Go.Vlt
open Go Go.Vc
def tot : List VE → Int
  | [] => 0
  | e :: l => e.b.length + tot l
theorem tot_nn : ∀ l : List VE, 0 ≤ tot l
  | [] => Int.le_refl _
  | e :: l => by have := tot_nn l; unfold tot; omega
def lft (seen : Array Nat) (es : List VE) : List VE := es.filter fun e => !seen.contains e.born
theorem lft_push (seen : Array Nat) (b : Nat) (es : List VE) : lft (seen.push b) es = (lft seen es).filter fun e => !(e.born == b) := by
  unfold lft
  rw [List.filter_filter]
  apply List.filter_congr
  intro x _
  rw [Array.contains_push, Bool.not_or]
  rw [Bool.and_comm]
theorem tot_le (p : VE → Bool) : ∀ l : List VE, tot (l.filter p) ≤ tot l
  | [] => Int.le_refl _
  | e :: l => by
    have ih := tot_le p l
    rw [List.filter_cons]
    split
    · unfold tot; omega
    · show tot (l.filter p) ≤ e.b.length + tot l; omega
theorem filter_out : ∀ (l : List VE) (b : Nat), (∀ x ∈ l, x.born ≠ b) → (l.filter fun x => !(x.born == b)) = l := fun l b h => by
  rw [List.filter_eq_self]
  intro x hx
  have := h x hx
  simpa using this
theorem tot_out : ∀ {l : List VE}, (l.map VE.born).Nodup → ∀ {e : VE}, e ∈ l → tot l = e.b.length + tot (l.filter fun x => !(x.born == e.born)) ∧ l.length = (l.filter fun x => !(x.born == e.born)).length + 1
  | x :: l, hn, e, he => by
    rw [List.map_cons, List.nodup_cons] at hn
    obtain ⟨h1, h2⟩ := hn
    rw [List.filter_cons]
    rcases List.mem_cons.1 he with rfl | he
    · have hx : (l.filter fun y => !(y.born == e.born)) = l := filter_out l _ fun y hy hb => h1 (hb ▸ List.mem_map_of_mem hy)
      have hb : (!(e.born == e.born)) = false := by simp
      rw [hb, if_neg (by simp), hx]
      exact ⟨rfl, rfl⟩
    · have hne : x.born ≠ e.born := fun hb => h1 (hb ▸ List.mem_map_of_mem he)
      have hb : (!(x.born == e.born)) = true := by simpa using hne
      rw [hb, if_pos rfl]
      obtain ⟨i1, i2⟩ := tot_out h2 he
      refine ⟨?_, by rw [List.length_cons, List.length_cons, i2]⟩
      show (x.b.length : Int) + tot l = e.b.length + (x.b.length + tot (l.filter fun y => !(y.born == e.born)))
      omega
end Go.Vlt
namespace Go.Proofs.Ytmfcnooleejgmaa
open Go.Vc Go.Vlt
set_option maxRecDepth 100000
theorem free_c (bk r : Nat) (room fuse : Int) (es : List VE) (c : Nat) (w : World) (h : Vt w bk r room fuse es c) (hr : 0 ≤ room ∧ room ≤ 16777216) (ht : tot es ≤ 1000000000000) : FnC Try.prog 17 #[.pointer (some ⟨bk, 0, none⟩)] w fun v w' => v = .int .i64 (room - tot es) ∧ Later w w' := by
  refine enter17 _ ?_
  unfold B17
  have f0 : w.cell? ⟨bk, 0, none⟩ = some (.int .i64 room) := h.blk.cell 0
  have f2 : w.cell? ⟨bk, 2, none⟩ = some (.map (some r)) := h.blk.cell 2
  repeat' (first | (simp (disch := omega) only [push_cast, ↓reduceIte, zA, zG, zB, zH, zI, zC, zJ, zK, zL, zD, zE, zF, zM, zN, zO, zP, zQ, reduceCtorEq, not_true_eq_false, not_false_eq_true, f0, f2, addr_add_eq, Nat.zero_add]) | (first | refine vIfE_of ?_ ?_ | refine vIfD_of ?_ ?_ | refine vIfQ_of ?_ ?_ | refine vIfV_of ?_ ?_) <;> intro _ | refine And.intro (by omega) ?_ | refine drawn_q ?_ | fail)
  refine vRng_of Try.underlying55 h.map ?_
  have l1 := later_alloc w (.mapIter (some r) c #[] c)
  have hi : (w.alloc (.mapIter (some r) c #[] c)).heap[w.heap.size]? = some (.mapIter (some r) c #[] c) := heap_new w _
  have h1 := h.later l1
  generalize w.alloc (.mapIter (some r) c #[] c) = w1 at *
  generalize hit : w.heap.size = it at *
  repeat' (first | (simp (disch := omega) only [push_cast, ↓reduceIte, zA, zG, zB, zH, zI, zC, zJ, zK, zL, zD, zE, zF, zM, zN, zO, zP, zQ, reduceCtorEq, not_true_eq_false, not_false_eq_true]) | (first | refine vIfE_of ?_ ?_ | refine vIfD_of ?_ ?_ | refine vIfQ_of ?_ ?_ | refine vIfV_of ?_ ?_) <;> intro _ | refine And.intro (by omega) ?_ | refine drawn_q ?_ | fail)
  refine vc_loop W17_0 (fun n : Int × Nat => [(3, .int .i64 n.1)])
    (fun n w' => ∃ seen : Array Nat, w'.heap[it]? = some (.mapIter (some r) c seen c) ∧ Later w w' ∧ n.2 = (lft seen es).length ∧ n.1 = room - (tot es - tot (lft seen es))) (fun n => n.2) (room, (lft #[] es).length) (by decide) ?_ ?_ ?_
  · simp (disch := omega) only [push_cast, ↓reduceIte, zA, zG, zB, zH, zI, zC, zJ, zK, zL, zD, zE, zF, zM, zN, zO, zP, zQ, reduceCtorEq, not_true_eq_false, not_false_eq_true]
  · exact ⟨#[], hi, l1, rfl, by have : lft #[] es = es := by unfold lft; simp
                                rw [this]; omega⟩
  rintro ⟨n, m⟩ uu w2 ⟨seen, hs, l2, hm, hn⟩
  dsimp only at hm hn
  have h2 := h.later l2
  have hb0 := tot_nn (lft seen es)
  have hb1 := tot_le (fun e => !seen.contains e.born) es
  have hb1' : tot (lft seen es) ≤ tot es := hb1
  repeat' (first | (simp (disch := omega) only [push_cast, ↓reduceIte, zA, zG, zB, zH, zI, zC, zJ, zK, zL, zD, zE, zF, zM, zN, zO, zP, zQ, reduceCtorEq, not_true_eq_false, not_false_eq_true]) | (first | refine vIfE_of ?_ ?_ | refine vIfD_of ?_ ?_ | refine vIfQ_of ?_ ?_ | refine vIfV_of ?_ ?_) <;> intro _ | refine And.intro (by omega) ?_ | refine drawn_q ?_ | fail)
  refine vNxt_of hs h2.map (fun e he => by obtain ⟨x, hx, rfl⟩ := List.mem_map.1 he; exact h.born x hx) (Nat.le_refl _) (fun hall => ?_) (fun ee hee hns w3' hw3' => ?_)
  · have hl : lft seen es = [] := by
      unfold lft
      rw [List.filter_eq_nil_iff]
      intro x hx
      have hc : seen.contains x.born = true := hall x.ent (List.mem_map_of_mem hx)
      rw [hc]
      simp
    rw [hl] at hn
    have hn' : n = room - tot es := by rw [hn]; unfold tot; omega
    subst hn'
    repeat' (first | (simp (disch := omega) only [push_cast, ↓reduceIte, zA, zG, zB, zH, zI, zC, zJ, zK, zL, zD, zE, zF, zM, zN, zO, zP, zQ, reduceCtorEq, not_true_eq_false, not_false_eq_true]) | (first | refine vIfE_of ?_ ?_ | refine vIfD_of ?_ ?_ | refine vIfQ_of ?_ ?_ | refine vIfV_of ?_ ?_) <;> intro _ | refine And.intro (by omega) ?_ | refine drawn_q ?_ | fail)
    exact l2
  · obtain ⟨e, he, rfl⟩ := List.mem_map.1 hee
    have hns : seen.contains e.born = false := hns
    have hel : e ∈ lft seen es := List.mem_filter.2 ⟨he, by rw [hns]; rfl⟩
    obtain ⟨t1, t2⟩ := tot_out (l := lft seen es) ((List.Sublist.map _ List.filter_sublist).nodup h.nodup) hel
    rw [← lft_push] at t1 t2
    have hs' : w3'.heap[it]? = some (.mapIter (some r) c seen c) := by rcases hw3' with rfl | rfl <;> exact hs
    have l2' : Later w w3' := by rcases hw3' with rfl | rfl; exact l2; exact l2.drew
    have c3 := chg_setB (w := w3') (r := it) (ks := [it]) (by simp) (.mapIter (some r) c (seen.push e.ent.2.2) c)
    have hs3 : (setB w3' it (.mapIter (some r) c (seen.push e.ent.2.2) c)).heap[it]? = some (.mapIter (some r) c (seen.push e.ent.2.2) c) := setB_at hs'
    have l3 : Later w (setB w3' it (.mapIter (some r) c (seen.push e.ent.2.2) c)) := Chg.later l2' c3 (by intro j hj; rw [List.mem_singleton.1 hj]; omega)
    generalize setB w3' it (.mapIter (some r) c (seen.push e.ent.2.2) c) = w3 at *
    have hs3 : w3.heap[it]? = some (.mapIter (some r) c (seen.push e.born) c) := hs3
    clear hs' l2' c3
    have h3 := h.later l3
    have hok := h3.ok e he
    obtain ⟨os, cs, hsv⟩ := Sl.slice hok.sl
    rw [List.length_map] at hsv
    repeat' (first | (simp (disch := omega) only [push_cast, ↓reduceIte, zA, zG, zB, zH, zI, zC, zJ, zK, zL, zD, zE, zF, zM, zN, zO, zP, zQ, reduceCtorEq, not_true_eq_false, not_false_eq_true]) | (first | refine vIfE_of ?_ ?_ | refine vIfD_of ?_ ?_ | refine vIfQ_of ?_ ?_ | refine vIfV_of ?_ ?_) <;> intro _ | refine And.intro (by omega) ?_ | refine drawn_q ?_ | fail)
    refine vEnt_of (e := e.ent) hs3 h3.map (List.mem_map_of_mem he) (by rw [List.map_map]; exact h.nodup) ?_
    unfold VE.ent
    repeat' (first | (simp (disch := omega) only [push_cast, ↓reduceIte, zA, zG, zB, zH, zI, zC, zJ, zK, zL, zD, zE, zF, zM, zN, zO, zP, zQ, reduceCtorEq, not_true_eq_false, not_false_eq_true]) | (first | refine vIfE_of ?_ ?_ | refine vIfD_of ?_ ?_ | refine vIfQ_of ?_ ?_ | refine vIfV_of ?_ ?_) <;> intro _ | refine And.intro (by omega) ?_ | refine drawn_q ?_ | fail)
    refine vStore_new rfl rfl (by intro u hu; rw [hsv] at hu; simp at hu; rcases hu with rfl | rfl <;> rfl) ?_
    have l4 := later_alloc w3 (.cells #[e.sv, .int .i64 e.safe] 61)
    have f3 : (w3.alloc (.cells #[e.sv, .int .i64 e.safe] 61)).cell? ⟨w3.heap.size, 0, none⟩ = some e.sv := (Blk.new w3 _ _).cell 0
    have hs4 : (w3.alloc (.cells #[e.sv, .int .i64 e.safe] 61)).heap[it]? = some (.mapIter (some r) c (seen.push e.born) c) := (heap_alloc (Array.getElem?_eq_some_iff.1 hs3).1 _).trans hs3
    generalize w3.alloc (.cells #[e.sv, .int .i64 e.safe] 61) = w4 at *
    rw [hsv] at f3
    have hb2 := tot_nn (lft (seen.push e.born) es)
    repeat' (first | (simp (disch := omega) only [push_cast, ↓reduceIte, zA, zG, zB, zH, zI, zC, zJ, zK, zL, zD, zE, zF, zM, zN, zO, zP, zQ, reduceCtorEq, not_true_eq_false, not_false_eq_true, f3, addr_add_eq, Nat.zero_add]) | (first | refine vIfE_of ?_ ?_ | refine vIfD_of ?_ ?_ | refine vIfQ_of ?_ ?_ | refine vIfV_of ?_ ?_) <;> intro _ | refine And.intro (by omega) ?_ | refine drawn_q ?_ | fail)
    exact ⟨rfl, (n - e.b.length, (lft (seen.push e.born) es).length), by simp (disch := omega) only [push_cast, ↓reduceIte, zA, zG, zB, zH, zI, zC, zJ, zK, zL, zD, zE, zF, zM, zN, zO, zP, zQ, reduceCtorEq, not_true_eq_false, not_false_eq_true], ⟨_, hs4, l3.trans l4, rfl, by dsimp only; omega⟩, by dsimp only; omega⟩
end Go.Proofs.Ytmfcnooleejgmaa
end
section
set_option linter.unusedSimpArgs false
namespace Go.Proofs.Ytmfcnooleejgmaa
open Go.Vc Go.Vlt
set_option maxRecDepth 100000
/-- Whether a name may be. -/
def nmB (c : UInt8) : Bool := (97 ≤ c && c ≤ 122) || (48 ≤ c && c ≤ 57) || c == 46
def nmOk (s : ByteArray) : Bool := s.data.toList.all nmB && decide (1 ≤ s.size ∧ s.size ≤ 12)
def NamedAt (s : ByteArray) : Prop := ∀ w, FnC Try.prog 45 #[.string s] w fun v w' => v = .bool (nmOk s) ∧ Later w w'
theorem may_c (bk r : Nat) (room fuse : Int) (es : List VE) (c : Nat) (k : ByteArray) (must : Bool) (w : World) (h : Vt w bk r room fuse es c) (hN : NamedAt k) : FnC Try.prog 31 #[.pointer (some ⟨bk, 0, none⟩), .string k, .bool must] w fun v w' => v = .int .i64 (if nmOk k = false ∨ (must = true ∧ vFind k es = none) then 31 else 0) ∧ Later w w' := by
  refine enter31 _ _ _ ?_
  unfold B31
  have f2 : w.cell? ⟨bk, 2, none⟩ = some (.map (some r)) := h.blk.cell 2
  repeat' (first | (simp (disch := omega) only [push_cast, ↓reduceIte, zA, zG, zB, zH, zI, zC, zJ, zK, zL, zD, zE, zF, zM, zN, zO, zP, zQ, reduceCtorEq, not_true_eq_false, not_false_eq_true, f2, addr_add_eq, Nat.zero_add]) | (first | refine vIfE_of ?_ ?_ | refine vIfD_of ?_ ?_ | refine vIfQ_of ?_ ?_ | refine vIfV_of ?_ ?_) <;> intro _ | refine And.intro (by omega) ?_ | refine drawn_q ?_ | fail)
  refine vLook_of Try.underlying55 Try.underlying9 zfile h.map k true ?_
  rcases mIdx_ent k es 0 with ⟨h1, h2⟩ | ⟨e, j, he, h1, h2⟩
  · rw [h2]
    unfold mGot
    repeat' (first | (simp (disch := omega) only [push_cast, ↓reduceIte, zA, zG, zB, zH, zI, zC, zJ, zK, zL, zD, zE, zF, zM, zN, zO, zP, zQ, reduceCtorEq, not_true_eq_false, not_false_eq_true]) | (first | refine vIfE_of ?_ ?_ | refine vIfD_of ?_ ?_ | refine vIfQ_of ?_ ?_ | refine vIfV_of ?_ ?_) <;> intro _ | refine And.intro (by omega) ?_ | refine drawn_q ?_ | fail)
    refine vStore_new rfl rfl (by intro u hu; simp at hu; rcases hu with rfl | rfl <;> rfl) ?_
    have l1 := later_alloc w (.cells #[.slice none 0 0, .int .i64 0] 61)
    generalize w.alloc (.cells #[.slice none 0 0, .int .i64 0] 61) = w1 at *
    repeat' (first | (simp (disch := omega) only [push_cast, ↓reduceIte, zA, zG, zB, zH, zI, zC, zJ, zK, zL, zD, zE, zF, zM, zN, zO, zP, zQ, reduceCtorEq, not_true_eq_false, not_false_eq_true]) | (first | refine vIfE_of ?_ ?_ | refine vIfD_of ?_ ?_ | refine vIfQ_of ?_ ?_ | refine vIfV_of ?_ ?_) <;> intro _ | refine And.intro (by omega) ?_ | refine drawn_q ?_ | fail)
    refine (hN w1).mono ?_
    rintro _ w2 ⟨rfl, l2⟩
    cases hk : nmOk k <;> cases must <;> repeat' (first | (simp (disch := omega) only [push_cast, ↓reduceIte, zA, zG, zB, zH, zI, zC, zJ, zK, zL, zD, zE, zF, zM, zN, zO, zP, zQ, reduceCtorEq, not_true_eq_false, not_false_eq_true]) | (first | refine vIfE_of ?_ ?_ | refine vIfD_of ?_ ?_ | refine vIfQ_of ?_ ?_ | refine vIfV_of ?_ ?_) <;> intro _ | refine And.intro (by omega) ?_ | refine drawn_q ?_ | fail)
    all_goals first | exact l1.trans l2 | exact ⟨by simp [hk, h1], l1.trans l2⟩ | trace_state
  · rw [h2]
    unfold mGot VE.val
    have hok := h.ok e he
    obtain ⟨os, cs, hsv⟩ := Sl.slice hok.sl
    repeat' (first | (simp (disch := omega) only [push_cast, ↓reduceIte, zA, zG, zB, zH, zI, zC, zJ, zK, zL, zD, zE, zF, zM, zN, zO, zP, zQ, reduceCtorEq, not_true_eq_false, not_false_eq_true]) | (first | refine vIfE_of ?_ ?_ | refine vIfD_of ?_ ?_ | refine vIfQ_of ?_ ?_ | refine vIfV_of ?_ ?_) <;> intro _ | refine And.intro (by omega) ?_ | refine drawn_q ?_ | fail)
    refine vStore_new rfl rfl (by intro u hu; rw [hsv] at hu; simp at hu; rcases hu with rfl | rfl <;> rfl) ?_
    have l1 := later_alloc w (.cells #[e.sv, .int .i64 e.safe] 61)
    generalize w.alloc (.cells #[e.sv, .int .i64 e.safe] 61) = w1 at *
    repeat' (first | (simp (disch := omega) only [push_cast, ↓reduceIte, zA, zG, zB, zH, zI, zC, zJ, zK, zL, zD, zE, zF, zM, zN, zO, zP, zQ, reduceCtorEq, not_true_eq_false, not_false_eq_true]) | (first | refine vIfE_of ?_ ?_ | refine vIfD_of ?_ ?_ | refine vIfQ_of ?_ ?_ | refine vIfV_of ?_ ?_) <;> intro _ | refine And.intro (by omega) ?_ | refine drawn_q ?_ | fail)
    refine (hN w1).mono ?_
    rintro _ w2 ⟨rfl, l2⟩
    cases hk : nmOk k <;> cases must <;> repeat' (first | (simp (disch := omega) only [push_cast, ↓reduceIte, zA, zG, zB, zH, zI, zC, zJ, zK, zL, zD, zE, zF, zM, zN, zO, zP, zQ, reduceCtorEq, not_true_eq_false, not_false_eq_true]) | (first | refine vIfE_of ?_ ?_ | refine vIfD_of ?_ ?_ | refine vIfQ_of ?_ ?_ | refine vIfV_of ?_ ?_) <;> intro _ | refine And.intro (by omega) ?_ | refine drawn_q ?_ | fail)
    all_goals first | exact l1.trans l2 | exact ⟨by simp [hk, h1], l1.trans l2⟩ | trace_state
end Go.Proofs.Ytmfcnooleejgmaa
end
section
namespace Go.Vlt
open Go Go.Vc
theorem mIdx_shift (k : ByteArray) : ∀ (l : List Ent) (i : Nat), mIdx k l (i + 1) = (mIdx k l i).map fun p => (p.1 + 1, p.2)
  | [], _ => rfl
  | e :: l, i => by
    unfold mIdx
    split
    · rfl
    · exact mIdx_shift k l (i + 1)
theorem mPut_cons (k : ByteArray) (v : Value) (c : Nat) (e : Ent) (l : List Ent) : mPut k v c (e :: l) = if (k == e.1) = true then (k, v, e.2.2) :: l else e :: mPut k v c l := by
  unfold mPut
  show (match (if (k == e.1) = true then some (0, e.2.1) else mIdx k l (0 + 1)) with | some (i, _) => (e :: l).modify i fun e => (k, v, e.2.2) | none => (e :: l) ++ [(k, v, c)]) = _
  by_cases h : (k == e.1) = true
  · rw [if_pos h, if_pos h]
    rfl
  · rw [if_neg h, if_neg h, mIdx_shift]
    cases mIdx k l 0 with
    | none => rfl
    | some p => rfl
theorem mTick_cons (k : ByteArray) (c : Nat) (e : Ent) (l : List Ent) : mTick k c (e :: l) = if (k == e.1) = true then c else mTick k c l := by
  unfold mTick
  show (match (if (k == e.1) = true then some (0, e.2.1) else mIdx k l (0 + 1)) with | some _ => c | none => c + 1) = _
  by_cases h : (k == e.1) = true
  · rw [if_pos h, if_pos h]
  · rw [if_neg h, if_neg h, mIdx_shift]
    cases mIdx k l 0 <;> rfl
/-- A file put in. -/
def ePut (k : ByteArray) (b : List UInt8) (s : Nat) (sv : Value) (c : Nat) : List VE → List VE
  | [] => [⟨k, b, s, sv, c⟩]
  | e :: l => if k = e.name then ⟨k, b, s, sv, e.born⟩ :: l else e :: ePut k b s sv c l
def eTick (k : ByteArray) (c : Nat) (es : List VE) : Nat := if vFind k es = none then c + 1 else c
theorem mPut_ent (k : ByteArray) (b : List UInt8) (s : Nat) (sv : Value) (c : Nat) : ∀ es : List VE, mPut k (.agg #[sv, .int .i64 s]) c (es.map VE.ent) = (ePut k b s sv c es).map VE.ent
  | [] => rfl
  | e :: l => by
    rw [List.map_cons, mPut_cons]
    unfold ePut
    have he : e.ent.1 = e.name := rfl
    rw [he]
    by_cases h : k = e.name
    · rw [if_pos (bytes_beq.2 h), if_pos h]
      rfl
    · rw [if_neg (fun h' => h (bytes_beq.1 h')), if_neg h, mPut_ent k b s sv c l]
      rfl
theorem find_put (k k' : ByteArray) (b : List UInt8) (s : Nat) (sv : Value) (c : Nat) : ∀ es : List VE, (vFind k' (ePut k b s sv c es)).map (fun e => (e.b, e.safe)) = if k' = k then some (b, s) else (vFind k' es).map fun e => (e.b, e.safe)
  | [] => by
    unfold ePut vFind
    split <;> rfl
  | e :: l => by
    unfold ePut
    by_cases h : k = e.name
    · rw [if_pos h]
      unfold vFind
      by_cases h2 : k' = k
      · rw [if_pos h2, if_pos h2]; rfl
      · rw [if_neg h2, if_neg h2, if_neg (fun h3 => h2 (h3.trans h.symm))]
    · rw [if_neg h]
      unfold vFind
      by_cases h2 : k' = e.name
      · rw [if_pos h2, if_pos h2, if_neg (fun h3 => h (h3.symm.trans h2))]
      · rw [if_neg h2, if_neg h2]
        exact find_put k k' b s sv c l
theorem put_mem {k : ByteArray} {b : List UInt8} {s : Nat} {sv : Value} {c : Nat} : ∀ {es : List VE} {x : VE}, x ∈ ePut k b s sv c es → x ∈ es ∨ (x.name = k ∧ x.b = b ∧ x.safe = s ∧ x.sv = sv)
  | [], x, h => by rw [List.mem_singleton.1 h]; exact .inr ⟨rfl, rfl, rfl, rfl⟩
  | e :: l, x, h => by
    unfold ePut at h
    split at h
    · rcases List.mem_cons.1 h with rfl | h
      · exact .inr ⟨rfl, rfl, rfl, rfl⟩
      · exact .inl (List.mem_cons_of_mem _ h)
    · rcases List.mem_cons.1 h with rfl | h
      · exact .inl (by simp)
      · rcases put_mem h with h | h
        · exact .inl (List.mem_cons_of_mem _ h)
        · exact .inr h
end Go.Vlt
end
section
namespace Go.Vlt
open Go Go.Vc
theorem put_none {k : ByteArray} (b : List UInt8) (s : Nat) (sv : Value) (c : Nat) : ∀ {es : List VE}, vFind k es = none → ePut k b s sv c es = es ++ [⟨k, b, s, sv, c⟩] ∧ ∀ e ∈ es, e.name ≠ k
  | [], _ => ⟨rfl, by simp⟩
  | e :: l, h => by
    unfold vFind at h
    by_cases hk : k = e.name
    · rw [if_pos hk] at h; cases h
    · rw [if_neg hk] at h
      obtain ⟨h1, h2⟩ := put_none b s sv c h
      unfold ePut
      rw [if_neg hk, h1]
      refine ⟨rfl, fun x hx => ?_⟩
      rcases List.mem_cons.1 hx with rfl | hx
      · exact fun h3 => hk h3.symm
      · exact h2 x hx
theorem put_some {k : ByteArray} (b : List UInt8) (s : Nat) (sv : Value) (c : Nat) : ∀ {es : List VE}, vFind k es ≠ none → (ePut k b s sv c es).map (fun e => (e.name, e.born)) = es.map fun e => (e.name, e.born)
  | [], h => absurd rfl h
  | e :: l, h => by
    unfold vFind at h
    unfold ePut
    by_cases hk : k = e.name
    · rw [if_pos hk, hk]; rfl
    · rw [if_neg hk] at h ⊢
      rw [List.map_cons, List.map_cons, put_some b s sv c h]
theorem mTick_ent (k : ByteArray) (c : Nat) : ∀ es : List VE, mTick k c (es.map VE.ent) = eTick k c es
  | [] => rfl
  | e :: l => by
    rw [List.map_cons, mTick_cons]
    unfold eTick vFind
    have he : e.ent.1 = e.name := rfl
    rw [he]
    by_cases h : k = e.name
    · rw [if_pos (bytes_beq.2 h), if_pos h]; rfl
    · rw [if_neg (fun h' => h (bytes_beq.1 h')), if_neg h, mTick_ent k c l]; rfl
theorem put_keys {k : ByteArray} (b : List UInt8) (s : Nat) (sv : Value) (c : Nat) {es : List VE} (h1 : es.Pairwise fun x y => x.name ≠ y.name) (h2 : ∀ e ∈ es, e.born < c) (h3 : (es.map VE.born).Nodup) :
    ((ePut k b s sv c es).Pairwise fun x y => x.name ≠ y.name) ∧ (∀ e ∈ ePut k b s sv c es, e.born < eTick k c es) ∧ ((ePut k b s sv c es).map VE.born).Nodup := by
  unfold eTick
  by_cases hf : vFind k es = none
  · obtain ⟨g1, g2⟩ := put_none b s sv c hf
    rw [if_pos hf, g1]
    refine ⟨List.pairwise_append.2 ⟨h1, List.pairwise_singleton _ _, fun x hx y hy => ?_⟩, fun e he => ?_, ?_⟩
    · rw [List.mem_singleton.1 hy]; exact g2 x hx
    · rcases List.mem_append.1 he with he | he
      · have := h2 e he; omega
      · rw [List.mem_singleton.1 he]; exact Nat.lt_succ_self c
    · rw [List.map_append, List.nodup_append]
      refine ⟨h3, by simp, fun a ha d hd => ?_⟩
      obtain ⟨x, hx, rfl⟩ := List.mem_map.1 ha
      have hdc : d = c := by simpa using hd
      have := h2 x hx
      omega
  · have g := put_some b s sv c hf
    rw [if_neg hf]
    have e1 : (ePut k b s sv c es).map VE.born = es.map VE.born := by
      have := congrArg (List.map Prod.snd) g
      rw [List.map_map, List.map_map] at this
      exact this
    have e2 : (ePut k b s sv c es).map VE.name = es.map VE.name := by
      have := congrArg (List.map Prod.fst) g
      rw [List.map_map, List.map_map] at this
      exact this
    refine ⟨?_, fun e he => ?_, by rw [e1]; exact h3⟩
    · have h4 : (es.map VE.name).Pairwise (fun x y => x ≠ y) := List.pairwise_map.2 h1
      rw [← e2] at h4
      exact List.pairwise_map.1 h4
    · have : e.born ∈ (ePut k b s sv c es).map VE.born := List.mem_map_of_mem he
      rw [e1] at this
      obtain ⟨x, hx, hxe⟩ := List.mem_map.1 this
      rw [← hxe]; exact h2 x hx
end Go.Vlt
namespace Go.Proofs.Ytmfcnooleejgmaa
open Go.Vc Go.Vlt
theorem Vt.put {w : World} {bk r : Nat} {room fuse : Int} {es : List VE} {c : Nat} (h : Vt w bk r room fuse es c) (k : ByteArray) {b : List UInt8} {s : Nat} {sv : Value} (hsl : Sl w sv (b.map u8v)) (hat : InT 5 w sv) (hs : s ≤ b.length) :
    Vt (setB w r (.map ((mPut k (.agg #[sv, .int .i64 s]) c (es.map VE.ent)).map mE).toArray (mTick k c (es.map VE.ent)))) bk r room fuse (ePut k b s sv c es) (eTick k c es) := by
  have c2 := chg_setB (w := w) (r := r) (ks := [r]) (by simp) (.map ((mPut k (.agg #[sv, .int .i64 s]) c (es.map VE.ent)).map mE).toArray (mTick k c (es.map VE.ent)))
  have hm := setB_at (o := .map ((mPut k (.agg #[sv, .int .i64 s]) c (es.map VE.ent)).map mE).toArray (mTick k c (es.map VE.ent))) h.map
  obtain ⟨k1, k2, k3⟩ := put_keys (k := k) b s sv c h.apart h.born h.nodup
  have hno : ∀ j ∈ [r], ∀ cs, ¬ Blk w j cs 5 := fun j hj => by rw [List.mem_singleton.1 hj]; exact h.mapb _
  refine ⟨h.te, h.blk.chg c2 (by simpa using h.ne), ?_, k1, k2, k3, fun e he => ?_⟩
  · unfold MapB
    rw [hm, mPut_ent, mTick_ent]
  · rcases put_mem he with he | ⟨_, e2, e3, e4⟩
    · exact (h.ok e he).chg c2 hno
    · have hx : (VE.mk k b s sv 0).Ok 5 w := ⟨hsl, hat, hs⟩
      have hx := hx.chg c2 hno
      exact ⟨by rw [e2, e4]; exact hx.sl, by rw [e4]; exact hx.u8, by rw [e2, e3]; exact hs⟩
end Go.Proofs.Ytmfcnooleejgmaa
end
section
set_option linter.unusedSimpArgs false
namespace Go.Proofs.Ytmfcnooleejgmaa
open Go.Vc Go.Vlt
set_option maxRecDepth 100000
theorem nP_bld {P : Program} {t : TypeId} {ps : Array (Nat × Operand)} {ty : TypeId} {σ : Env} {w : World} {Kv : Value → Prop} {Kn : (Value → World → Prop) → Prop} (v : Value) (h : ∀ w', vBuild P t (ps.map fun (i, x) => (i, ev σ x)) (fun u w'' => u = v ∧ w'' = w') w') (hk : Kv v) : nPlain P (.build t ps) ty σ w Kv Kn := by
  show qX P (.build t ps) ty σ w Kv
  refine ⟨v, fun w' _ => ?_, hk⟩
  have h1 := h w'
  unfold vBuild at h1
  show qUp P w' v ((val (Instr.build t (ps.map fun (i, x) => (i, ev σ x)))).run P w')
  have e : ∀ s : Sem Value, (val s).run P w' = (s.run P w').andThen fun v w' => .ok (.value v) w' := fun s => by simp [val]
  rw [e] at h1 ⊢
  cases hs : (Instr.build t (ps.map fun (i, x) => (i, ev σ x))).run P w' with
  | ok u w'' => rw [hs] at h1; exact ⟨h1.2, h1.1⟩
  | _ => rw [hs] at h1; exact h1.elim
def brn (fuse : Int) : Int := if 0 < fuse then fuse - 1 else fuse
theorem Chg.more {w w' : World} {ks ks' : List Nat} (h : Chg w w' ks) (hk : ∀ k ∈ ks, k ∈ ks') : Chg w w' ks' := ⟨h.os, h.tape, h.output, h.size, fun k hkl hn => h.block k hkl fun hm => hn (hk k hm)⟩
def SyncR (v : Value) (w' : World) (bk r : Nat) (room fuse : Int) (es : List VE) (c : Nat) (k : ByteArray) : Prop :=
  (v = .int .i64 31 ∧ (nmOk k = false ∨ vFind k es = none) ∧ Vt w' bk r room fuse es c) ∨
  (v = .int .i64 272 ∧ nmOk k = true ∧ vFind k es ≠ none ∧ brn fuse = 0 ∧ Vt w' bk r room (brn fuse) es c) ∨
  (v = .int .i64 0 ∧ nmOk k = true ∧ brn fuse ≠ 0 ∧ ∃ e, vFind k es = some e ∧ Vt w' bk r room (brn fuse) (ePut k e.b e.b.length e.sv c es) (eTick k c es))
theorem sync_c (bk r : Nat) (room fuse : Int) (es : List VE) (c : Nat) (k : ByteArray) (w : World) (h : Vt w bk r room fuse es c) (hf : -1 ≤ fuse ∧ fuse ≤ 9223372036854775807) (hN : NamedAt k) (hbl : ∀ e ∈ es, e.b.length ≤ 1000000000) : FnC Try.prog 11 #[.pointer (some ⟨bk, 0, none⟩), .string k] w fun v w' => SyncR v w' bk r room fuse es c k ∧ Chg w w' [bk, r] := by
  refine enter11 _ _ ?_
  unfold B11
  repeat' (first | (simp (disch := omega) only [push_cast, ↓reduceIte, zA, zG, zB, zH, zI, zC, zJ, zK, zL, zD, zE, zF, zM, zN, zO, zP, zQ, reduceCtorEq, not_true_eq_false, not_false_eq_true]) | (first | refine vIfE_of ?_ ?_ | refine vIfD_of ?_ ?_ | refine vIfQ_of ?_ ?_ | refine vIfV_of ?_ ?_) <;> intro _ | refine And.intro (by omega) ?_ | refine drawn_q ?_ | fail)
  refine (may_c bk r room fuse es c k true w h hN).mono ?_
  rintro _ w1 ⟨rfl, l1⟩
  have h1 := h.later l1
  have c1 : Chg w w1 [bk, r] := Chg.of_later l1
  by_cases hm : nmOk k = false ∨ (true = true ∧ vFind k es = none)
  · rw [if_pos hm]
    repeat' (first | (simp (disch := omega) only [push_cast, ↓reduceIte, zA, zG, zB, zH, zI, zC, zJ, zK, zL, zD, zE, zF, zM, zN, zO, zP, zQ, reduceCtorEq, not_true_eq_false, not_false_eq_true]) | (first | refine vIfE_of ?_ ?_ | refine vIfD_of ?_ ?_ | refine vIfQ_of ?_ ?_ | refine vIfV_of ?_ ?_) <;> intro _ | refine And.intro (by omega) ?_ | refine drawn_q ?_ | fail)
    exact ⟨.inl ⟨rfl, by simpa using hm, h1⟩, c1⟩
  rw [if_neg hm]
  obtain ⟨m1, m2⟩ : nmOk k = true ∧ vFind k es ≠ none := by
    refine ⟨?_, fun h' => hm (.inr ⟨rfl, h'⟩)⟩
    cases hk : nmOk k with
    | true => rfl
    | false => exact absurd (.inl hk) hm
  repeat' (first | (simp (disch := omega) only [push_cast, ↓reduceIte, zA, zG, zB, zH, zI, zC, zJ, zK, zL, zD, zE, zF, zM, zN, zO, zP, zQ, reduceCtorEq, not_true_eq_false, not_false_eq_true]) | (first | refine vIfE_of ?_ ?_ | refine vIfD_of ?_ ?_ | refine vIfQ_of ?_ ?_ | refine vIfV_of ?_ ?_) <;> intro _ | refine And.intro (by omega) ?_ | refine drawn_q ?_ | fail)
  refine (burns_c bk r room fuse es c w1 h1 hf).mono ?_
  rintro _ w2 ⟨⟨f, hfe, rfl, h2⟩, c2⟩
  have hfe : f = brn fuse := hfe
  subst hfe
  have c02 : Chg w w2 [bk, r] := c1.trans (Chg.more c2 (by simp))
  by_cases hz : brn fuse = 0
  · rw [if_pos hz]
    repeat' (first | (simp (disch := omega) only [push_cast, ↓reduceIte, zA, zG, zB, zH, zI, zC, zJ, zK, zL, zD, zE, zF, zM, zN, zO, zP, zQ, reduceCtorEq, not_true_eq_false, not_false_eq_true]) | (first | refine vIfE_of ?_ ?_ | refine vIfD_of ?_ ?_ | refine vIfQ_of ?_ ?_ | refine vIfV_of ?_ ?_) <;> intro _ | refine And.intro (by omega) ?_ | refine drawn_q ?_ | fail)
    exact ⟨.inr (.inl ⟨rfl, m1, m2, hz, h2⟩), c02⟩
  rw [if_neg hz]
  have f2 : w2.cell? ⟨bk, 2, none⟩ = some (.map (some r)) := h2.blk.cell 2
  repeat' (first | (simp (disch := omega) only [push_cast, ↓reduceIte, zA, zG, zB, zH, zI, zC, zJ, zK, zL, zD, zE, zF, zM, zN, zO, zP, zQ, reduceCtorEq, not_true_eq_false, not_false_eq_true, f2, addr_add_eq, Nat.zero_add]) | (first | refine vIfE_of ?_ ?_ | refine vIfD_of ?_ ?_ | refine vIfQ_of ?_ ?_ | refine vIfV_of ?_ ?_) <;> intro _ | refine And.intro (by omega) ?_ | refine drawn_q ?_ | fail)
  refine vLook_of Try.underlying55 Try.underlying9 zfile h2.map k false ?_
  rcases mIdx_ent k es 0 with ⟨g1, g2⟩ | ⟨e, j, he, g1, g2⟩
  · exact absurd g1 m2
  rw [g2]
  unfold mGot VE.val
  have hok := h2.ok e he
  obtain ⟨os, cs, hsv⟩ := Sl.slice hok.sl
  rw [List.length_map] at hsv
  repeat' (first | (simp (disch := omega) only [push_cast, ↓reduceIte, zA, zG, zB, zH, zI, zC, zJ, zK, zL, zD, zE, zF, zM, zN, zO, zP, zQ, reduceCtorEq, not_true_eq_false, not_false_eq_true]) | (first | refine vIfE_of ?_ ?_ | refine vIfD_of ?_ ?_ | refine vIfQ_of ?_ ?_ | refine vIfV_of ?_ ?_) <;> intro _ | refine And.intro (by omega) ?_ | refine drawn_q ?_ | fail)
  refine vStore_new rfl rfl (by intro u hu; rw [hsv] at hu; simp at hu; rcases hu with rfl | rfl <;> rfl) ?_
  have l3 := later_alloc w2 (.cells #[e.sv, .int .i64 e.safe] 61)
  have f3 : (w2.alloc (.cells #[e.sv, .int .i64 e.safe] 61)).cell? ⟨w2.heap.size, 0, none⟩ = some e.sv := (Blk.new w2 _ _).cell 0
  have h3 := h2.later l3
  generalize w2.alloc (.cells #[e.sv, .int .i64 e.safe] 61) = w3 at *
  rw [hsv] at f3
  have f4 : w3.cell? ⟨bk, 2, none⟩ = some (.map (some r)) := h3.blk.cell 2
  repeat' (first | (simp (disch := omega) only [push_cast, ↓reduceIte, zA, zG, zB, zH, zI, zC, zJ, zK, zL, zD, zE, zF, zM, zN, zO, zP, zQ, reduceCtorEq, not_true_eq_false, not_false_eq_true, f3, f4, addr_add_eq, Nat.zero_add]) | (first | refine vIfE_of ?_ ?_ | refine vIfD_of ?_ ?_ | refine vIfQ_of ?_ ?_ | refine vIfV_of ?_ ?_) <;> intro _ | refine And.intro (by omega) ?_ | fail)
  refine drawn_k 11 ?_
  repeat' (first | (simp (disch := omega) only [push_cast, ↓reduceIte, zA, zG, zB, zH, zI, zC, zJ, zK, zL, zD, zE, zF, zM, zN, zO, zP, zQ, reduceCtorEq, not_true_eq_false, not_false_eq_true, f3, f4, addr_add_eq, Nat.zero_add]) | (first | refine vIfE_of ?_ ?_ | refine vIfD_of ?_ ?_ | refine vIfQ_of ?_ ?_ | refine vIfV_of ?_ ?_) <;> intro _ | refine And.intro (by omega) ?_ | fail)
  refine nP_bld (.agg #[.slice os e.b.length cs, .int .i64 (e.b.length : Int)]) (fun w' => ?_) ?_
  · repeat' (first | (simp (disch := omega) only [push_cast, ↓reduceIte, zA, zG, zB, zH, zI, zC, zJ, zK, zL, zD, zE, zF, zM, zN, zO, zP, zQ, reduceCtorEq, not_true_eq_false, not_false_eq_true]) | (first | refine vIfE_of ?_ ?_ | refine vIfD_of ?_ ?_ | refine vIfQ_of ?_ ?_ | refine vIfV_of ?_ ?_) <;> intro _ | refine And.intro (by omega) ?_ | fail)
  repeat' (first | (simp (disch := omega) only [push_cast, ↓reduceIte, zA, zG, zB, zH, zI, zC, zJ, zK, zL, zD, zE, zF, zM, zN, zO, zP, zQ, reduceCtorEq, not_true_eq_false, not_false_eq_true]) | (first | refine vIfE_of ?_ ?_ | refine vIfD_of ?_ ?_ | refine vIfQ_of ?_ ?_ | refine vIfV_of ?_ ?_) <;> intro _ | refine And.intro (by omega) ?_ | fail)
  intro w4 l4
  have h4 := h3.later l4
  rw [← hsv]
  have hp := Vt.put h4 k (b := e.b) (s := e.b.length) (sv := e.sv) (h4.ok e he).sl (h4.ok e he).u8 (Nat.le_refl _)
  have c4 := chg_setB (w := w4) (r := r) (ks := [bk, r]) (by simp) (.map ((mPut k (.agg #[e.sv, .int .i64 (e.b.length : Nat)]) c (es.map VE.ent)).map mE).toArray (mTick k c (es.map VE.ent)))
  refine vUpd_of Try.underlying55 Try.underlying9 h4.map k _ ?_
  generalize setB w4 r (.map ((mPut k (.agg #[e.sv, .int .i64 (e.b.length : Nat)]) c (es.map VE.ent)).map mE).toArray (mTick k c (es.map VE.ent))) = w5 at *
  repeat' (first | (simp (disch := omega) only [push_cast, ↓reduceIte, zA, zG, zB, zH, zI, zC, zJ, zK, zL, zD, zE, zF, zM, zN, zO, zP, zQ, reduceCtorEq, not_true_eq_false, not_false_eq_true]) | (first | refine vIfE_of ?_ ?_ | refine vIfD_of ?_ ?_ | refine vIfQ_of ?_ ?_ | refine vIfV_of ?_ ?_) <;> intro _ | refine And.intro (by omega) ?_ | refine drawn_q ?_ | fail)
  exact ⟨.inr (.inr ⟨rfl, m1, hz, e, g1, hp⟩), c02.trans ((Chg.of_later (l3.trans l4)).trans c4)⟩
end Go.Proofs.Ytmfcnooleejgmaa
end
section
namespace Go.Vlt
open Go Go.Vc
theorem mDel_cons (k : ByteArray) (e : Ent) (l : List Ent) : mDel k (e :: l) = if (k == e.1) = true then l else e :: mDel k l := by
  unfold mDel
  show (match (if (k == e.1) = true then some (0, e.2.1) else mIdx k l (0 + 1)) with | some (i, _) => (e :: l).eraseIdx i | none => e :: l) = _
  by_cases h : (k == e.1) = true
  · rw [if_pos h, if_pos h]
    rfl
  · rw [if_neg h, if_neg h, mIdx_shift]
    cases mIdx k l 0 with
    | none => rfl
    | some p => rfl
def eDel (k : ByteArray) : List VE → List VE
  | [] => []
  | e :: l => if k = e.name then l else e :: eDel k l
theorem mDel_ent (k : ByteArray) : ∀ es : List VE, mDel k (es.map VE.ent) = (eDel k es).map VE.ent
  | [] => rfl
  | e :: l => by
    rw [List.map_cons, mDel_cons]
    unfold eDel
    have he : e.ent.1 = e.name := rfl
    rw [he]
    by_cases h : k = e.name
    · rw [if_pos (bytes_beq.2 h), if_pos h]
    · rw [if_neg (fun h' => h (bytes_beq.1 h')), if_neg h, mDel_ent k l]
      rfl
theorem del_sub (k : ByteArray) : ∀ es : List VE, (eDel k es).Sublist es
  | [] => List.Sublist.refl _
  | e :: l => by
    unfold eDel
    split
    · exact List.sublist_cons_self _ _
    · exact (del_sub k l).cons_cons _
theorem find_none {k : ByteArray} : ∀ {es : List VE}, (∀ e ∈ es, e.name ≠ k) → vFind k es = none
  | [], _ => rfl
  | e :: l, h => by
    unfold vFind
    rw [if_neg (fun h' => h e (by simp) h'.symm)]
    exact find_none fun x hx => h x (List.mem_cons_of_mem _ hx)
theorem find_del (k k' : ByteArray) : ∀ {es : List VE}, (es.Pairwise fun x y => x.name ≠ y.name) → vFind k' (eDel k es) = if k' = k then none else vFind k' es
  | [], _ => by unfold eDel vFind; split <;> rfl
  | e :: l, hp => by
    obtain ⟨h1, h2⟩ := List.pairwise_cons.1 hp
    unfold eDel
    by_cases h : k = e.name
    · rw [if_pos h]
      by_cases h3 : k' = k
      · rw [if_pos h3]
        exact find_none fun x hx hxe => h1 x hx (by rw [hxe, h3, h])
      · rw [if_neg h3]
        conv => rhs; unfold vFind
        rw [if_neg (fun h4 => h3 (h4.trans h.symm))]
    · rw [if_neg h]
      unfold vFind
      by_cases h4 : k' = e.name
      · rw [if_pos h4, if_pos h4, if_neg (fun h5 => h (h5.symm.trans h4))]
      · rw [if_neg h4, if_neg h4]
        exact find_del k k' h2
end Go.Vlt
namespace Go.Proofs.Ytmfcnooleejgmaa
open Go.Vc Go.Vlt
theorem Vt.del {w : World} {bk r : Nat} {room fuse : Int} {es : List VE} {c : Nat} (h : Vt w bk r room fuse es c) (k : ByteArray) :
    Vt (setB w r (.map ((mDel k (es.map VE.ent)).map mE).toArray c)) bk r room fuse (eDel k es) c := by
  have c2 := chg_setB (w := w) (r := r) (ks := [r]) (by simp) (.map ((mDel k (es.map VE.ent)).map mE).toArray c)
  have hm := setB_at (o := .map ((mDel k (es.map VE.ent)).map mE).toArray c) h.map
  have hs := del_sub k es
  have hno : ∀ j ∈ [r], ∀ cs, ¬ Blk w j cs 5 := fun j hj => by rw [List.mem_singleton.1 hj]; exact h.mapb _
  refine ⟨h.te, h.blk.chg c2 (by simpa using h.ne), ?_, h.apart.sublist hs, fun e he => h.born e (hs.subset he), (hs.map _).nodup h.nodup, fun e he => (h.ok e (hs.subset he)).chg c2 hno⟩
  unfold MapB
  rw [hm, mDel_ent]
end Go.Proofs.Ytmfcnooleejgmaa
end
section
set_option linter.unusedSimpArgs false
namespace Go.Proofs.Ytmfcnooleejgmaa
open Go.Vc Go.Vlt
set_option maxRecDepth 100000
def DelR (v : Value) (w' : World) (bk r : Nat) (room fuse : Int) (es : List VE) (c : Nat) (k : ByteArray) : Prop :=
  (v = .int .i64 31 ∧ (nmOk k = false ∨ vFind k es = none) ∧ Vt w' bk r room fuse es c) ∨
  (v = .int .i64 272 ∧ nmOk k = true ∧ vFind k es ≠ none ∧ brn fuse = 0 ∧ Vt w' bk r room (brn fuse) es c) ∨
  (v = .int .i64 0 ∧ nmOk k = true ∧ vFind k es ≠ none ∧ brn fuse ≠ 0 ∧ Vt w' bk r room (brn fuse) (eDel k es) c)
theorem delete_c (bk r : Nat) (room fuse : Int) (es : List VE) (c : Nat) (k : ByteArray) (w : World) (h : Vt w bk r room fuse es c) (hf : -1 ≤ fuse ∧ fuse ≤ 9223372036854775807) (hN : NamedAt k) : FnC Try.prog 30 #[.pointer (some ⟨bk, 0, none⟩), .string k] w fun v w' => DelR v w' bk r room fuse es c k ∧ Chg w w' [bk, r] := by
  refine enter30 _ _ ?_
  unfold B30
  repeat' (first | (simp (disch := omega) only [push_cast, ↓reduceIte, zA, zG, zB, zH, zI, zC, zJ, zK, zL, zD, zE, zF, zM, zN, zO, zP, zQ, reduceCtorEq, not_true_eq_false, not_false_eq_true]) | (first | refine vIfE_of ?_ ?_ | refine vIfD_of ?_ ?_ | refine vIfQ_of ?_ ?_ | refine vIfV_of ?_ ?_) <;> intro _ | refine And.intro (by omega) ?_ | refine drawn_q ?_ | fail)
  refine (may_c bk r room fuse es c k true w h hN).mono ?_
  rintro _ w1 ⟨rfl, l1⟩
  have h1 := h.later l1
  have c1 : Chg w w1 [bk, r] := Chg.of_later l1
  by_cases hm : nmOk k = false ∨ (true = true ∧ vFind k es = none)
  · rw [if_pos hm]
    repeat' (first | (simp (disch := omega) only [push_cast, ↓reduceIte, zA, zG, zB, zH, zI, zC, zJ, zK, zL, zD, zE, zF, zM, zN, zO, zP, zQ, reduceCtorEq, not_true_eq_false, not_false_eq_true]) | (first | refine vIfE_of ?_ ?_ | refine vIfD_of ?_ ?_ | refine vIfQ_of ?_ ?_ | refine vIfV_of ?_ ?_) <;> intro _ | refine And.intro (by omega) ?_ | refine drawn_q ?_ | fail)
    exact ⟨.inl ⟨rfl, by simpa using hm, h1⟩, c1⟩
  rw [if_neg hm]
  obtain ⟨m1, m2⟩ : nmOk k = true ∧ vFind k es ≠ none := by
    refine ⟨?_, fun h' => hm (.inr ⟨rfl, h'⟩)⟩
    cases hk : nmOk k with
    | true => rfl
    | false => exact absurd (.inl hk) hm
  repeat' (first | (simp (disch := omega) only [push_cast, ↓reduceIte, zA, zG, zB, zH, zI, zC, zJ, zK, zL, zD, zE, zF, zM, zN, zO, zP, zQ, reduceCtorEq, not_true_eq_false, not_false_eq_true]) | (first | refine vIfE_of ?_ ?_ | refine vIfD_of ?_ ?_ | refine vIfQ_of ?_ ?_ | refine vIfV_of ?_ ?_) <;> intro _ | refine And.intro (by omega) ?_ | refine drawn_q ?_ | fail)
  refine (burns_c bk r room fuse es c w1 h1 hf).mono ?_
  rintro _ w2 ⟨⟨f, hfe, rfl, h2⟩, c2⟩
  have hfe : f = brn fuse := hfe
  subst hfe
  have c02 : Chg w w2 [bk, r] := c1.trans (Chg.more c2 (by simp))
  by_cases hz : brn fuse = 0
  · rw [if_pos hz]
    repeat' (first | (simp (disch := omega) only [push_cast, ↓reduceIte, zA, zG, zB, zH, zI, zC, zJ, zK, zL, zD, zE, zF, zM, zN, zO, zP, zQ, reduceCtorEq, not_true_eq_false, not_false_eq_true]) | (first | refine vIfE_of ?_ ?_ | refine vIfD_of ?_ ?_ | refine vIfQ_of ?_ ?_ | refine vIfV_of ?_ ?_) <;> intro _ | refine And.intro (by omega) ?_ | refine drawn_q ?_ | fail)
    exact ⟨.inr (.inl ⟨rfl, m1, m2, hz, h2⟩), c02⟩
  rw [if_neg hz]
  have f2 : w2.cell? ⟨bk, 2, none⟩ = some (.map (some r)) := h2.blk.cell 2
  repeat' (first | (simp (disch := omega) only [push_cast, ↓reduceIte, zA, zG, zB, zH, zI, zC, zJ, zK, zL, zD, zE, zF, zM, zN, zO, zP, zQ, reduceCtorEq, not_true_eq_false, not_false_eq_true, f2, addr_add_eq, Nat.zero_add]) | (first | refine vIfE_of ?_ ?_ | refine vIfD_of ?_ ?_ | refine vIfQ_of ?_ ?_ | refine vIfV_of ?_ ?_) <;> intro _ | refine And.intro (by omega) ?_ | refine drawn_q ?_ | fail)
  have hp := Vt.del h2 k
  have c4 := chg_setB (w := w2) (r := r) (ks := [bk, r]) (by simp) (.map ((mDel k (es.map VE.ent)).map mE).toArray c)
  refine vDel_of rfl Try.underlying55 Try.underlying9 h2.map k ?_
  generalize setB w2 r (.map ((mDel k (es.map VE.ent)).map mE).toArray c) = w5 at *
  repeat' (first | (simp (disch := omega) only [push_cast, ↓reduceIte, zA, zG, zB, zH, zI, zC, zJ, zK, zL, zD, zE, zF, zM, zN, zO, zP, zQ, reduceCtorEq, not_true_eq_false, not_false_eq_true]) | (first | refine vIfE_of ?_ ?_ | refine vIfD_of ?_ ?_ | refine vIfQ_of ?_ ?_ | refine vIfV_of ?_ ?_) <;> intro _ | refine And.intro (by omega) ?_ | refine drawn_q ?_ | fail)
  exact ⟨.inr (.inr ⟨rfl, m1, m2, hz, hp⟩), c02.trans c4⟩
end Go.Proofs.Ytmfcnooleejgmaa
end
section
set_option linter.unusedSimpArgs false
namespace Go.Proofs.Ytmfcnooleejgmaa
open Go.Vc Go.Vlt
set_option maxRecDepth 100000
def RenR (v : Value) (w' : World) (bk r : Nat) (room fuse : Int) (es : List VE) (c : Nat) (k k2 : ByteArray) : Prop :=
  (v = .int .i64 31 ∧ (nmOk k = false ∨ vFind k es = none ∨ nmOk k2 = false) ∧ Vt w' bk r room fuse es c) ∨
  (v = .int .i64 272 ∧ nmOk k = true ∧ vFind k es ≠ none ∧ nmOk k2 = true ∧ brn fuse = 0 ∧ Vt w' bk r room (brn fuse) es c) ∨
  (v = .int .i64 0 ∧ nmOk k = true ∧ nmOk k2 = true ∧ brn fuse ≠ 0 ∧ ∃ e, vFind k es = some e ∧ Vt w' bk r room (brn fuse) (ePut k2 e.b e.safe e.sv c (eDel k es)) (eTick k2 c (eDel k es)))
theorem rename_c (bk r : Nat) (room fuse : Int) (es : List VE) (c : Nat) (k k2 : ByteArray) (w : World) (h : Vt w bk r room fuse es c) (hf : -1 ≤ fuse ∧ fuse ≤ 9223372036854775807) (hN : NamedAt k) (hN2 : NamedAt k2) : FnC Try.prog 12 #[.pointer (some ⟨bk, 0, none⟩), .string k, .string k2] w fun v w' => RenR v w' bk r room fuse es c k k2 ∧ Chg w w' [bk, r] := by
  refine enter12 _ _ _ ?_
  unfold B12
  repeat' (first | (simp (disch := omega) only [push_cast, ↓reduceIte, zA, zG, zB, zH, zI, zC, zJ, zK, zL, zD, zE, zF, zM, zN, zO, zP, zQ, reduceCtorEq, not_true_eq_false, not_false_eq_true]) | (first | refine vIfE_of ?_ ?_ | refine vIfD_of ?_ ?_ | refine vIfQ_of ?_ ?_ | refine vIfV_of ?_ ?_) <;> intro _ | refine And.intro (by omega) ?_ | refine drawn_q ?_ | fail)
  refine (may_c bk r room fuse es c k true w h hN).mono ?_
  rintro _ w1 ⟨rfl, l1⟩
  have h1 := h.later l1
  have c1 : Chg w w1 [bk, r] := Chg.of_later l1
  by_cases hm : nmOk k = false ∨ (true = true ∧ vFind k es = none)
  · rw [if_pos hm]
    repeat' (first | (simp (disch := omega) only [push_cast, ↓reduceIte, zA, zG, zB, zH, zI, zC, zJ, zK, zL, zD, zE, zF, zM, zN, zO, zP, zQ, reduceCtorEq, not_true_eq_false, not_false_eq_true]) | (first | refine vIfE_of ?_ ?_ | refine vIfD_of ?_ ?_ | refine vIfQ_of ?_ ?_ | refine vIfV_of ?_ ?_) <;> intro _ | refine And.intro (by omega) ?_ | refine drawn_q ?_ | fail)
    have hm' : nmOk k = false ∨ vFind k es = none := by simpa using hm
    exact ⟨.inl ⟨rfl, hm'.elim .inl (fun h => .inr (.inl h)), h1⟩, c1⟩
  rw [if_neg hm]
  obtain ⟨m1, m2⟩ : nmOk k = true ∧ vFind k es ≠ none := by
    refine ⟨?_, fun h' => hm (.inr ⟨rfl, h'⟩)⟩
    cases hk : nmOk k with
    | true => rfl
    | false => exact absurd (.inl hk) hm
  repeat' (first | (simp (disch := omega) only [push_cast, ↓reduceIte, zA, zG, zB, zH, zI, zC, zJ, zK, zL, zD, zE, zF, zM, zN, zO, zP, zQ, reduceCtorEq, not_true_eq_false, not_false_eq_true]) | (first | refine vIfE_of ?_ ?_ | refine vIfD_of ?_ ?_ | refine vIfQ_of ?_ ?_ | refine vIfV_of ?_ ?_) <;> intro _ | refine And.intro (by omega) ?_ | refine drawn_q ?_ | fail)
  refine (may_c bk r room fuse es c k2 false w1 h1 hN2).mono ?_
  rintro _ w1' ⟨rfl, l1'⟩
  have h1' := h1.later l1'
  have c1' : Chg w w1' [bk, r] := Chg.of_later (l1.trans l1')
  cases hk2 : nmOk k2 with
  | false =>
    rw [if_pos (.inl rfl)]
    repeat' (first | (simp (disch := omega) only [push_cast, ↓reduceIte, zA, zG, zB, zH, zI, zC, zJ, zK, zL, zD, zE, zF, zM, zN, zO, zP, zQ, reduceCtorEq, not_true_eq_false, not_false_eq_true]) | (first | refine vIfE_of ?_ ?_ | refine vIfD_of ?_ ?_ | refine vIfQ_of ?_ ?_ | refine vIfV_of ?_ ?_) <;> intro _ | refine And.intro (by omega) ?_ | refine drawn_q ?_ | fail)
    exact ⟨.inl ⟨rfl, .inr (.inr hk2), h1'⟩, c1'⟩
  | true =>
  rw [if_neg (by simp)]
  repeat' (first | (simp (disch := omega) only [push_cast, ↓reduceIte, zA, zG, zB, zH, zI, zC, zJ, zK, zL, zD, zE, zF, zM, zN, zO, zP, zQ, reduceCtorEq, not_true_eq_false, not_false_eq_true]) | (first | refine vIfE_of ?_ ?_ | refine vIfD_of ?_ ?_ | refine vIfQ_of ?_ ?_ | refine vIfV_of ?_ ?_) <;> intro _ | refine And.intro (by omega) ?_ | refine drawn_q ?_ | fail)
  refine (burns_c bk r room fuse es c w1' h1' hf).mono ?_
  rintro _ w2 ⟨⟨f, hfe, rfl, h2⟩, c2⟩
  have hfe : f = brn fuse := hfe
  subst hfe
  have c02 : Chg w w2 [bk, r] := c1'.trans (Chg.more c2 (by simp))
  by_cases hz : brn fuse = 0
  · rw [if_pos hz]
    repeat' (first | (simp (disch := omega) only [push_cast, ↓reduceIte, zA, zG, zB, zH, zI, zC, zJ, zK, zL, zD, zE, zF, zM, zN, zO, zP, zQ, reduceCtorEq, not_true_eq_false, not_false_eq_true]) | (first | refine vIfE_of ?_ ?_ | refine vIfD_of ?_ ?_ | refine vIfQ_of ?_ ?_ | refine vIfV_of ?_ ?_) <;> intro _ | refine And.intro (by omega) ?_ | refine drawn_q ?_ | fail)
    exact ⟨.inr (.inl ⟨rfl, m1, m2, hk2, hz, h2⟩), c02⟩
  rw [if_neg hz]
  have f2 : w2.cell? ⟨bk, 2, none⟩ = some (.map (some r)) := h2.blk.cell 2
  repeat' (first | (simp (disch := omega) only [push_cast, ↓reduceIte, zA, zG, zB, zH, zI, zC, zJ, zK, zL, zD, zE, zF, zM, zN, zO, zP, zQ, reduceCtorEq, not_true_eq_false, not_false_eq_true, f2, addr_add_eq, Nat.zero_add]) | (first | refine vIfE_of ?_ ?_ | refine vIfD_of ?_ ?_ | refine vIfQ_of ?_ ?_ | refine vIfV_of ?_ ?_) <;> intro _ | refine And.intro (by omega) ?_ | refine drawn_q ?_ | fail)
  refine vLook_of Try.underlying55 Try.underlying9 zfile h2.map k false ?_
  rcases mIdx_ent k es 0 with ⟨g1, g2⟩ | ⟨e, j, he, g1, g2⟩
  · exact absurd g1 m2
  rw [g2]
  unfold mGot VE.val
  have hok := h2.ok e he
  obtain ⟨os, cs, hsv⟩ := Sl.slice hok.sl
  rw [List.length_map] at hsv
  repeat' (first | (simp (disch := omega) only [push_cast, ↓reduceIte, zA, zG, zB, zH, zI, zC, zJ, zK, zL, zD, zE, zF, zM, zN, zO, zP, zQ, reduceCtorEq, not_true_eq_false, not_false_eq_true]) | (first | refine vIfE_of ?_ ?_ | refine vIfD_of ?_ ?_ | refine vIfQ_of ?_ ?_ | refine vIfV_of ?_ ?_) <;> intro _ | refine And.intro (by omega) ?_ | refine drawn_q ?_ | fail)
  refine vStore_new rfl rfl (by intro u hu; rw [hsv] at hu; simp at hu; rcases hu with rfl | rfl <;> rfl) ?_
  have l3 := later_alloc w2 (.cells #[e.sv, .int .i64 e.safe] 61)
  have B3 := Blk.new w2 #[e.sv, .int .i64 e.safe] 61
  have h3 := h2.later l3
  generalize w2.alloc (.cells #[e.sv, .int .i64 e.safe] 61) = w3 at *
  generalize hkb : w2.heap.size = kb at *
  have f4 : w3.cell? ⟨bk, 2, none⟩ = some (.map (some r)) := h3.blk.cell 2
  repeat' (first | (simp (disch := omega) only [push_cast, ↓reduceIte, zA, zG, zB, zH, zI, zC, zJ, zK, zL, zD, zE, zF, zM, zN, zO, zP, zQ, reduceCtorEq, not_true_eq_false, not_false_eq_true, f4, addr_add_eq, Nat.zero_add]) | (first | refine vIfE_of ?_ ?_ | refine vIfD_of ?_ ?_ | refine vIfQ_of ?_ ?_ | refine vIfV_of ?_ ?_) <;> intro _ | refine And.intro (by omega) ?_ | refine drawn_q ?_ | fail)
  have hb1 := h2.blk.lt
  have hb2 := (Array.getElem?_eq_some_iff.1 h2.map).1
  have hp := Vt.del h3 k
  have c4 := chg_setB (w := w3) (r := r) (ks := [r]) (by simp) (.map ((mDel k (es.map VE.ent)).map mE).toArray c)
  have hok3 := h3.ok e he
  have hno : ∀ j ∈ [r], ∀ cs, ¬ Blk w3 j cs 5 := fun j hj => by rw [List.mem_singleton.1 hj]; exact h3.mapb _
  have hok4 := hok3.chg c4 hno
  have B4 := B3.chg c4 (by simp; omega)
  refine vDel_of rfl Try.underlying55 Try.underlying9 h3.map k ?_
  generalize setB w3 r (.map ((mDel k (es.map VE.ent)).map mE).toArray c) = w4 at *
  have f5 : w4.cell? ⟨bk, 2, none⟩ = some (.map (some r)) := hp.blk.cell 2
  have f6 : Go.Vc.cellsAt w4 ⟨kb, 0, none⟩ 2 = some [e.sv, .int .i64 e.safe] := Blk.cellsAt (l := [e.sv, .int .i64 e.safe]) B4
  repeat' (first | (simp (disch := omega) only [push_cast, ↓reduceIte, zA, zG, zB, zH, zI, zC, zJ, zK, zL, zD, zE, zF, zM, zN, zO, zP, zQ, reduceCtorEq, not_true_eq_false, not_false_eq_true]) | (first | refine vIfE_of ?_ ?_ | refine vIfD_of ?_ ?_ | refine vIfQ_of ?_ ?_ | refine vIfV_of ?_ ?_) <;> intro _ | refine And.intro (by omega) ?_ | fail)
  refine drawn_k 6 ?_
  repeat' (first | (simp (disch := omega) only [push_cast, ↓reduceIte, zA, zG, zB, zH, zI, zC, zJ, zK, zL, zD, zE, zF, zM, zN, zO, zP, zQ, reduceCtorEq, not_true_eq_false, not_false_eq_true, f5, f6, addr_add_eq, Nat.zero_add]) | (first | refine vIfE_of ?_ ?_ | refine vIfD_of ?_ ?_ | refine vIfQ_of ?_ ?_ | refine vIfV_of ?_ ?_) <;> intro _ | refine And.intro (by omega) ?_ | fail)
  intro w5 l5
  have hp5 := hp.later l5
  have hp6 := Vt.put hp5 k2 (b := e.b) (s := e.safe) (sv := e.sv) (Sl.later hok4.sl l5) (hok4.u8.later l5) hok3.safe
  have c6 := chg_setB (w := w5) (r := r) (ks := [bk, r]) (by simp) (.map ((mPut k2 (.agg #[e.sv, .int .i64 e.safe]) c ((eDel k es).map VE.ent)).map mE).toArray (mTick k2 c ((eDel k es).map VE.ent)))
  refine vUpd_of Try.underlying55 Try.underlying9 hp5.map k2 _ ?_
  generalize setB w5 r (.map ((mPut k2 (.agg #[e.sv, .int .i64 e.safe]) c ((eDel k es).map VE.ent)).map mE).toArray (mTick k2 c ((eDel k es).map VE.ent))) = w6 at *
  repeat' (first | (simp (disch := omega) only [push_cast, ↓reduceIte, zA, zG, zB, zH, zI, zC, zJ, zK, zL, zD, zE, zF, zM, zN, zO, zP, zQ, reduceCtorEq, not_true_eq_false, not_false_eq_true]) | (first | refine vIfE_of ?_ ?_ | refine vIfD_of ?_ ?_ | refine vIfQ_of ?_ ?_ | refine vIfV_of ?_ ?_) <;> intro _ | refine And.intro (by omega) ?_ | refine drawn_q ?_ | fail)
  exact ⟨.inr (.inr ⟨rfl, m1, hk2, hz, e, g1, hp6⟩), c02.trans ((Chg.of_later l3).trans ((Chg.more c4 (by simp)).trans ((Chg.of_later l5).trans c6)))⟩
end Go.Proofs.Ytmfcnooleejgmaa
end
section
set_option linter.unusedSimpArgs false
namespace Go.Vc
open Go.RowKit
/-- 'append(nil, make([]T, k)...)': a new block of k elements, or more. -/
theorem vAppend_zeros0 {P : Program} {w : World} {K : Value → World → Prop} {t tn e ty : TypeId} {z : Value} {b : Nat} {kn : IntKind} (ht : P.underlying t = some (.slice e)) (htn : P.underlying tn = some (.int kn)) (hi : (P.info? e).map (fun i => (i.zero, i.size, i.bytes)) = some (some z, 1, b)) (hzs : z.cells.size = 1)
    {k : Nat} (h0 : 0 < k) (h63 : k ≤ maxLen) (hb : k * b ≤ 140737488355328)
    (hK : ∀ (c : Nat) (cs : Array Value), k ≤ c → c ≤ maxLen → cs.size = c → K (.slice (some ⟨w.heap.size, 0, none⟩) k c) (w.drew.alloc (.cells cs e))) : vAppend P #[t, tn] ty #[.slice none 0 0, .int .i64 (k : Int)] K w := by
  obtain ⟨i, hi1, hz, hsi, rfl⟩ := info_parts hi
  unfold vAppend
  have hr := Lib.run_append_grow_zeros (P := P) w t tn ty e i z .i64 kn ht htn hi1 hz none 0 0 [] (by simpa using run_firstCells_none w.drew i.size 0 0 0) k h0 (by omega) (by omega) (by unfold maxLen at h63; omega) (by omega) (growslice_fits (by omega) (by simpa using hb))
  rw [run_val_pure hr]
  simp only [Nat.zero_add]
  have hge := grownCap_ge w k 0 e
  have hle := grownCap_le_maxLen w k 0 e h63
  refine hK _ _ hge hle ?_
  simp [size_zeroCells, hzs]
  omega
end Go.Vc
namespace Go.Proofs.Ytmfcnooleejgmaa
open Go.Vc Go.Vlt
set_option maxRecDepth 100000
theorem grow0_c (n : Nat) (w : World) (hn : n ≤ 1000000000) : FnC Try.prog 46 #[.slice none 0 0, .int .i64 (n : Int)] w fun v w' => OwnB w' w.heap.size 5 v [] ∧ Later w w' := by
  refine enter46 _ _ ?_
  unfold B46
  by_cases h0 : n = 0
  · subst h0
    repeat' (first | (simp (disch := omega) only [push_cast, ↓reduceIte, zA, zG, zB, zH, zI, zC, zJ, zK, zL, zD, zE, zF, zM, zN, zO, zP, zQ, reduceCtorEq, not_true_eq_false, not_false_eq_true]) | (first | refine vIfE_of ?_ ?_ | refine vIfD_of ?_ ?_ | refine vIfQ_of ?_ ?_ | refine vIfV_of ?_ ?_) <;> intro _ | refine And.intro (by omega) ?_ | refine drawn_q ?_ | fail)
    exact ⟨own_nil _ _ _ _, Later.refl _⟩
  · have h1 : 0 < n := by omega
    repeat' (first | (simp (disch := omega) only [push_cast, ↓reduceIte, zA, zG, zB, zH, zI, zC, zJ, zK, zL, zD, zE, zF, zM, zN, zO, zP, zQ, reduceCtorEq, not_true_eq_false, not_false_eq_true]) | (first | refine vIfE_of ?_ ?_ | refine vIfD_of ?_ ?_ | refine vIfQ_of ?_ ?_ | refine vIfV_of ?_ ?_) <;> intro _ | refine And.intro (by omega) ?_ | refine drawn_q ?_ | fail)
    refine vAppend_zeros0 Try.underlying22 Try.underlying3 ti5 rfl h1 (by unfold maxLen; omega) (by omega) ?_
    intro c cs h2 h3 h4
    have hown : OwnB (w.drew.alloc (.cells cs 5)) w.heap.size 5 (.slice (some ⟨w.heap.size, 0, none⟩) 0 c) [] :=
      ⟨rfl, .inr ⟨w.heap.size, c, cs, rfl, Nat.le_refl _, heap_new_drew w _, Nat.zero_le _, h3, by omega, by simp⟩⟩
    have l1 : Later w (w.drew.alloc (.cells cs 5)) := ⟨rfl, rfl, rfl, by simp, fun k hk => heap_old_drew w _ k hk⟩
    generalize w.drew.alloc (.cells cs 5) = w1 at *
    repeat' (first | (simp (disch := omega) only [push_cast, ↓reduceIte, zA, zG, zB, zH, zI, zC, zJ, zK, zL, zD, zE, zF, zM, zN, zO, zP, zQ, reduceCtorEq, not_true_eq_false, not_false_eq_true]) | (first | refine vIfE_of ?_ ?_ | refine vIfD_of ?_ ?_ | refine vIfQ_of ?_ ?_ | refine vIfV_of ?_ ?_) <;> intro _ | refine And.intro (by omega) ?_ | refine drawn_q ?_ | fail)
    first | exact ⟨hown, l1⟩ | exact l1
theorem concat_c (xv : Value) (ls : List (List UInt8)) (w : World) (h : LL w xv ls) (hb : ls.flatten.length ≤ 1000000000) : FnC Try.prog 33 #[xv] w fun v w' => OwnB w' w.heap.size 5 v ls.flatten ∧ Later w w' := by
  obtain ⟨o, c, rfl, hc1, hc2⟩ := h.slice
  have sumL : ∀ i, i < ls.length → (ls.take (i + 1)).flatten = (ls.take i).flatten ++ ls[i]! := fun i hi => by
    rw [List.take_add_one, List.getElem?_eq_getElem hi, List.flatten_append]
    simp [hi]
  have len_le : ∀ i, (ls.take i).flatten.length ≤ ls.flatten.length := fun i => by
    conv => rhs; rw [← List.take_append_drop i ls, List.flatten_append, List.length_append]
    omega
  refine enter33 _ ?_
  unfold B33
  repeat' (first | (simp (disch := omega) only [push_cast, ↓reduceIte, zA, zG, zB, zH, zI, zC, zJ, zK, zL, zD, zE, zF, zM, zN, zO, zP, zQ, reduceCtorEq, not_true_eq_false, not_false_eq_true]) | (first | refine vIfE_of ?_ ?_ | refine vIfD_of ?_ ?_ | refine vIfQ_of ?_ ?_ | refine vIfV_of ?_ ?_) <;> intro _ | refine And.intro (by omega) ?_ | refine drawn_q ?_ | fail)
  refine vc_loop W33_0 (fun i : Nat => [(11, .int .i64 (i : Int)), (3, .int .i64 (((ls.take i).flatten.length : Nat) : Int))]) (fun i w' => i ≤ ls.length ∧ w' = w) (fun i => ls.length - i) 0 (by decide) ?_ ?_ ?_
  · have : (([] : List (List UInt8)).flatten.length : Int) = 0 := rfl
    simp (disch := omega) only [push_cast, ↓reduceIte, zA, zG, zB, zH, zI, zC, zJ, zK, zL, zD, zE, zF, zM, zN, zO, zP, zQ, reduceCtorEq, not_true_eq_false, not_false_eq_true, List.take_zero]
    rfl
  · exact ⟨Nat.zero_le _, rfl⟩
  rintro i uu w1 ⟨hi, hw⟩
  obtain rfl := hw.symm
  have hl1 := len_le i
  by_cases hlt : i < ls.length
  · obtain ⟨a, x, rfl, hx, hsx⟩ := h.at hlt
    obtain ⟨xo, xc, rfl⟩ := Sl.slice hsx
    rw [List.length_map] at hsx hx
    have hl2 := len_le (i + 1)
    have hs := sumL i hlt
    have e1 : ls[i]! = ls[i] := by simp [hlt]
    rw [e1] at hs
    rw [hs, List.length_append] at hl2
    repeat' (first | (simp (disch := omega) only [push_cast, ↓reduceIte, zA, zG, zB, zH, zI, zC, zJ, zK, zL, zD, zE, zF, zM, zN, zO, zP, zQ, reduceCtorEq, not_true_eq_false, not_false_eq_true, hx]) | (first | refine vIfE_of ?_ ?_ | refine vIfD_of ?_ ?_ | refine vIfQ_of ?_ ?_ | refine vIfV_of ?_ ?_) <;> intro _ | refine And.intro (by omega) ?_ | refine drawn_q ?_ | fail)
    have e2 : (((ls.take (i + 1)).flatten.length : Nat) : Int) = ((ls.take i).flatten.length : Int) + (ls[i].length : Int) := by rw [hs, List.length_append]; omega
    refine ⟨rfl, i + 1, by simp (disch := omega) only [push_cast, ↓reduceIte, zA, zG, zB, zH, zI, zC, zJ, zK, zL, zD, zE, zF, zM, zN, zO, zP, zQ, reduceCtorEq, not_true_eq_false, not_false_eq_true, e2], ⟨by omega, rfl⟩, by dsimp only; omega⟩
  · have hil : i = ls.length := by omega
    subst hil
    rw [List.take_length]
    repeat' (first | (simp (disch := omega) only [push_cast, ↓reduceIte, zA, zG, zB, zH, zI, zC, zJ, zK, zL, zD, zE, zF, zM, zN, zO, zP, zQ, reduceCtorEq, not_true_eq_false, not_false_eq_true]) | (first | refine vIfE_of ?_ ?_ | refine vIfD_of ?_ ?_ | refine vIfQ_of ?_ ?_ | refine vIfV_of ?_ ?_) <;> intro _ | refine And.intro (by omega) ?_ | refine drawn_q ?_ | fail)
    refine (grow0_c ls.flatten.length w hb).mono ?_
    rintro v1 w1 ⟨ho1, l1⟩
    obtain ⟨o1, c1, rfl⟩ := ho1.slice
    repeat' (first | (simp (disch := omega) only [push_cast, ↓reduceIte, zA, zG, zB, zH, zI, zC, zJ, zK, zL, zD, zE, zF, zM, zN, zO, zP, zQ, reduceCtorEq, not_true_eq_false, not_false_eq_true]) | (first | refine vIfE_of ?_ ?_ | refine vIfD_of ?_ ?_ | refine vIfQ_of ?_ ?_ | refine vIfV_of ?_ ?_) <;> intro _ | refine And.intro (by omega) ?_ | refine drawn_q ?_ | fail)
    refine vc_loop W33_1 (fun s : Nat × Value => [(27, .int .i64 (s.1 : Int)), (6, s.2)]) (fun s w' => s.1 ≤ ls.length ∧ OwnB w' w.heap.size 5 s.2 (ls.take s.1).flatten ∧ Later w w') (fun s => ls.length - s.1) (0, .slice o1 0 c1) (by decide) ?_ ?_ ?_
    · simp (disch := omega) only [push_cast, ↓reduceIte, zA, zG, zB, zH, zI, zC, zJ, zK, zL, zD, zE, zF, zM, zN, zO, zP, zQ, reduceCtorEq, not_true_eq_false, not_false_eq_true]
      try rfl
    · exact ⟨Nat.zero_le _, ho1, l1⟩
    rintro ⟨i, vv⟩ u2 w2 ⟨hi, ho2, l2⟩
    dsimp only at hi ho2
    by_cases hlt : i < ls.length
    · obtain ⟨a, x, rfl, hx, hsx⟩ := (h.later l2).at hlt
      obtain ⟨xo, xc, rfl⟩ := Sl.slice hsx
      have hl2 := len_le (i + 1)
      have hs := sumL i hlt
      have e1 : ls[i]! = ls[i] := by simp [hlt]
      rw [e1] at hs
      rw [hs, List.length_append] at hl2
      repeat' (first | (simp (disch := omega) only [push_cast, ↓reduceIte, zA, zG, zB, zH, zI, zC, zJ, zK, zL, zD, zE, zF, zM, zN, zO, zP, zQ, reduceCtorEq, not_true_eq_false, not_false_eq_true, hx]) | (first | refine vIfE_of ?_ ?_ | refine vIfD_of ?_ ?_ | refine vIfQ_of ?_ ?_ | refine vIfV_of ?_ ?_) <;> intro _ | refine And.intro (by omega) ?_ | refine drawn_q ?_ | fail)
      refine vAppend_own Try.underlying22 ti5 rfl (by decide) ho2 (sl8_n hsx) (u8vs_one _) (by unfold maxLen; omega) (by omega) l2.size ?_
      intro v3 w3 h3 g3 _
      have l3 : Later w w3 := l2.appended ho2 (Nat.le_refl _) g3
      have h3 := own8_app h3
      rw [← hs] at h3
      repeat' (first | (simp (disch := omega) only [push_cast, ↓reduceIte, zA, zG, zB, zH, zI, zC, zJ, zK, zL, zD, zE, zF, zM, zN, zO, zP, zQ, reduceCtorEq, not_true_eq_false, not_false_eq_true]) | (first | refine vIfE_of ?_ ?_ | refine vIfD_of ?_ ?_ | refine vIfQ_of ?_ ?_ | refine vIfV_of ?_ ?_) <;> intro _ | refine And.intro (by omega) ?_ | refine drawn_q ?_ | fail)
      exact ⟨rfl, (i + 1, v3), by simp (disch := omega) only [push_cast, ↓reduceIte, zA, zG, zB, zH, zI, zC, zJ, zK, zL, zD, zE, zF, zM, zN, zO, zP, zQ, reduceCtorEq, not_true_eq_false, not_false_eq_true], ⟨by omega, h3, l3⟩, by dsimp only; omega⟩
    · have hil : i = ls.length := by omega
      subst hil
      rw [List.take_length] at ho2
      obtain ⟨o2, c2, rfl⟩ := ho2.slice
      repeat' (first | (simp (disch := omega) only [push_cast, ↓reduceIte, zA, zG, zB, zH, zI, zC, zJ, zK, zL, zD, zE, zF, zM, zN, zO, zP, zQ, reduceCtorEq, not_true_eq_false, not_false_eq_true]) | (first | refine vIfE_of ?_ ?_ | refine vIfD_of ?_ ?_ | refine vIfQ_of ?_ ?_ | refine vIfV_of ?_ ?_) <;> intro _ | refine And.intro (by omega) ?_ | refine drawn_q ?_ | fail)
      first | exact ⟨ho2, l2⟩ | exact l2
end Go.Proofs.Ytmfcnooleejgmaa
end
section
namespace Go.Vc
open Go.RowKit
variable {P : Program}
/-- A call whose arguments hang on the world, and its value too. -/
theorem nR_fnV {g : FuncId} {xs : Array Operand} {ts : Array TypeId} {ty : TypeId} {rs : List Nat} {Ns : NS} {σ : Env} {w : World} {Kv : Value → Prop} {Kn : (Value → World → Prop) → Prop} (hb : HasBody P g) (V' : Value → World → Prop) (hV' : Stb w V')
    (h : ∀ σ' w', Later w w' → psis Ns σ w' σ' rs → FnC P g (xs.map (ev σ')) w' fun u w'' => V' u w'' ∧ Later w' w'') (hk : Kn V') : nR P (.call ⟨.value (.func g), xs, ts⟩) ty rs Ns σ w Kv Kn :=
  .inr ⟨V', hV', fun σ' w' hl hp => by
    have e : exe P (.call ⟨.value (.func g), xs, ts⟩) ty σ' w' = (callFunc g (#[] ++ xs.map (ev σ') ++ #[])).run P w' := exe_call rfl rfl w'
    rw [e, hb]
    refine ⟨rfl, Calls.mono (hb.ret (by simpa using h σ' w' hl hp)) ?_⟩
    rintro e w'' ⟨u, rfl, hu, hl'⟩
    exact ⟨u, rfl, hl', hu⟩, hk⟩
/-- A struct put together, of what hangs on the world. -/
theorem nR_bldV {t : TypeId} {ps : Array (Nat × Operand)} {ty : TypeId} {rs : List Nat} {Ns : NS} {σ : Env} {w : World} {Kv : Value → Prop} {Kn : (Value → World → Prop) → Prop} (V' : Value → World → Prop) (hV' : Stb w V')
    (h : ∀ σ' w', Later w w' → psis Ns σ w' σ' rs → vBuild P t (ps.map fun (i, x) => (i, ev σ' x)) (fun v w'' => Later w' w'' ∧ V' v w'') w') (hk : Kn V') : nR P (.build t ps) ty rs Ns σ w Kv Kn :=
  .inr ⟨V', hV', fun σ' w' hl hp => nUp_val (h σ' w' hl hp), hk⟩
end Go.Vc
end
section
set_option linter.unusedSimpArgs false
namespace Go.Vlt
/-- A file's bytes, and how many are safe, as they are found. -/
def fB' (k : ByteArray) (es : List VE) : List UInt8 := ((vFind k es).map VE.b).getD []
def fS' (k : ByteArray) (es : List VE) : Nat := ((vFind k es).map VE.safe).getD 0
end Go.Vlt
namespace Go.Proofs.Ytmfcnooleejgmaa
open Go.Vc Go.Vlt
set_option maxRecDepth 100000
def AppR (v : Value) (w' : World) (bk r : Nat) (room fuse : Int) (es : List VE) (c : Nat) (k : ByteArray) (bl : List UInt8) : Prop :=
  (v = .int .i64 31 ∧ nmOk k = false ∧ Vt w' bk r room fuse es c) ∨
  (v = .int .i64 272 ∧ nmOk k = true ∧ brn fuse = 0 ∧ Vt w' bk r room (brn fuse) es c) ∨
  (v = .int .i64 32 ∧ nmOk k = true ∧ brn fuse ≠ 0 ∧ (room - tot es < bl.length ∨ (vFind k es = none ∧ 200 ≤ es.length)) ∧ Vt w' bk r room (brn fuse) es c) ∨
  (v = .int .i64 0 ∧ nmOk k = true ∧ brn fuse ≠ 0 ∧ bl.length ≤ room - tot es ∧ (vFind k es = none → es.length < 200) ∧ ∃ sv, Vt w' bk r room (brn fuse) (ePut k (fB' k es ++ bl) (fS' k es) sv c es) (eTick k c es))
/-- A list's row of two slices. -/
def Two (a b : List UInt8) (v : Value) (w : World) : Prop := (∃ k, v = .slice (some ⟨k, 0, none⟩) 2 2) ∧ LL w v [a, b]
theorem stb_two (w0 : World) (a b : List UInt8) : Stb w0 (Two a b) := fun _ _ _ _ hl h => ⟨h.1, h.2.later hl⟩
def FileV (B : Nat) (l : List UInt8) (s : Nat) (v : Value) (w : World) : Prop := ∃ u, v = .agg #[u, .int .i64 s] ∧ OwnB w B 5 u l
theorem stb_file (w0 : World) (B : Nat) (l : List UInt8) (s : Nat) : Stb w0 (FileV B l s) := by
  rintro v w w' _ hl ⟨u, h1, h2⟩
  exact ⟨u, h1, h2.later hl⟩
theorem ll_two {w : World} {a b : Value} {la lb : List UInt8} (ha : Sl w a (la.map u8v)) (hb : Sl w b (lb.map u8v)) (e : TypeId) : LL (w.alloc (.cells #[a, b] e)) (.slice (some ⟨w.heap.size, 0, none⟩) 2 2) [la, lb] :=
  ⟨[a, b], Sl.lit w [a, b] e (by unfold maxLen; simp), rfl, fun i x l hx hl => by
    match i, hx, hl with
    | 0, hx, hl => cases hx; cases hl; exact Sl.later ha (later_alloc _ _)
    | 1, hx, hl => cases hx; cases hl; exact Sl.later hb (later_alloc _ _)
    | n + 2, hx, _ => simp at hx⟩
set_option maxHeartbeats 1000000 in
theorem append_c (bk r : Nat) (room fuse : Int) (es : List VE) (c : Nat) (k : ByteArray) (bv : Value) (bl : List UInt8) (w : World) (h : Vt w bk r room fuse es c) (hr : 0 ≤ room ∧ room ≤ 16777216) (ht : tot es ≤ 1000000000) (hf : -1 ≤ fuse ∧ fuse ≤ 9223372036854775807) (hN : NamedAt k) (hb : Sl w bv (bl.map u8v)) (hbj : ∃ j, inB j bv ∧ j ≠ bk) (hbl : bl.length ≤ 100000000) (hne : es.length ≤ 1000000) :
    FnC Try.prog 10 #[.pointer (some ⟨bk, 0, none⟩), .string k, bv] w fun v w' => AppR v w' bk r room fuse es c k bl ∧ Chg w w' [bk, r] := by
  obtain ⟨bo, bc, rfl⟩ := Sl.slice hb
  rw [List.length_map] at hb hbj ⊢
  refine enter10 _ _ _ ?_
  unfold B10
  repeat' (first | (simp (disch := omega) only [push_cast, ↓reduceIte, zA, zG, zB, zH, zI, zC, zJ, zK, zL, zD, zE, zF, zM, zN, zO, zP, zQ, reduceCtorEq, not_true_eq_false, not_false_eq_true]) | (first | refine vIfE_of ?_ ?_ | refine vIfD_of ?_ ?_ | refine vIfQ_of ?_ ?_ | refine vIfV_of ?_ ?_) <;> intro _ | refine And.intro (by omega) ?_ | refine drawn_q ?_ | fail)
  refine (may_c bk r room fuse es c k false w h hN).mono ?_
  rintro _ w1 ⟨rfl, l1⟩
  have h1 := h.later l1
  have c1 : Chg w w1 [bk, r] := Chg.of_later l1
  cases m1 : nmOk k with
  | false =>
    rw [if_pos (.inl rfl)]
    repeat' (first | (simp (disch := omega) only [push_cast, ↓reduceIte, zA, zG, zB, zH, zI, zC, zJ, zK, zL, zD, zE, zF, zM, zN, zO, zP, zQ, reduceCtorEq, not_true_eq_false, not_false_eq_true]) | (first | refine vIfE_of ?_ ?_ | refine vIfD_of ?_ ?_ | refine vIfQ_of ?_ ?_ | refine vIfV_of ?_ ?_) <;> intro _ | refine And.intro (by omega) ?_ | refine drawn_q ?_ | fail)
    exact ⟨.inl ⟨rfl, m1, h1⟩, c1⟩
  | true =>
  rw [if_neg (by simp)]
  repeat' (first | (simp (disch := omega) only [push_cast, ↓reduceIte, zA, zG, zB, zH, zI, zC, zJ, zK, zL, zD, zE, zF, zM, zN, zO, zP, zQ, reduceCtorEq, not_true_eq_false, not_false_eq_true]) | (first | refine vIfE_of ?_ ?_ | refine vIfD_of ?_ ?_ | refine vIfQ_of ?_ ?_ | refine vIfV_of ?_ ?_) <;> intro _ | refine And.intro (by omega) ?_ | refine drawn_q ?_ | fail)
  have hb1 := Sl.later hb l1
  refine (burns_c bk r room fuse es c w1 h1 hf).mono ?_
  rintro _ w2 ⟨⟨f, hfe, rfl, h2⟩, c2⟩
  have hfe : f = brn fuse := hfe
  subst hfe
  obtain ⟨bj, bj1, bj2⟩ := hbj
  have hb2 := Sl.chg hb1 c2 (by simpa using bj2) bj1
  have c02 : Chg w w2 [bk, r] := c1.trans (Chg.more c2 (by simp))
  by_cases hz : brn fuse = 0
  · rw [if_pos hz]
    repeat' (first | (simp (disch := omega) only [push_cast, ↓reduceIte, zA, zG, zB, zH, zI, zC, zJ, zK, zL, zD, zE, zF, zM, zN, zO, zP, zQ, reduceCtorEq, not_true_eq_false, not_false_eq_true]) | (first | refine vIfE_of ?_ ?_ | refine vIfD_of ?_ ?_ | refine vIfQ_of ?_ ?_ | refine vIfV_of ?_ ?_) <;> intro _ | refine And.intro (by omega) ?_ | refine drawn_q ?_ | fail)
    exact ⟨.inr (.inl ⟨rfl, m1, hz, h2⟩), c02⟩
  rw [if_neg hz]
  have f2 : w2.cell? ⟨bk, 2, none⟩ = some (.map (some r)) := h2.blk.cell 2
  repeat' (first | (simp (disch := omega) only [push_cast, ↓reduceIte, zA, zG, zB, zH, zI, zC, zJ, zK, zL, zD, zE, zF, zM, zN, zO, zP, zQ, reduceCtorEq, not_true_eq_false, not_false_eq_true, f2, addr_add_eq, Nat.zero_add]) | (first | refine vIfE_of ?_ ?_ | refine vIfD_of ?_ ?_ | refine vIfQ_of ?_ ?_ | refine vIfV_of ?_ ?_) <;> intro _ | refine And.intro (by omega) ?_ | refine drawn_q ?_ | fail)
  refine vLook_of Try.underlying55 Try.underlying9 zfile h2.map k true ?_
  have htn := tot_nn es
  obtain ⟨ol, os, fl, sn, is, hgot, hsl, hsn, hol, hinB⟩ : ∃ ol os fl sn is, mGot (.agg #[.slice none 0 0, .int .i64 0]) (mIdx k (es.map VE.ent) 0) true = .tuple #[.agg #[.slice ol (List.length fl) os, .int .i64 ((sn : Nat) : Int)], .bool is] ∧ Sl w2 (.slice ol fl.length os) (fl.map u8v) ∧ (is = (vFind k es).isSome ∧ fl = fB' k es ∧ sn = fS' k es) ∧ (fl.length : Int) ≤ tot es ∧ sn ≤ fl.length := by
    unfold fB' fS'
    rcases mIdx_ent k es 0 with ⟨g1, g2⟩ | ⟨e, j, he, g1, g2⟩
    · refine ⟨none, 0, [], 0, false, ?_, Sl.nil _, ?_, ?_, Nat.le_refl _⟩
      · rw [g2]; rfl
      · rw [g1]; exact ⟨rfl, rfl, rfl⟩
      · exact htn
    · have hok := h2.ok e he
      obtain ⟨os, cs, hsv⟩ := Sl.slice hok.sl
      rw [List.length_map] at hsv
      refine ⟨os, cs, e.b, e.safe, true, ?_, ?_, ?_, ?_, hok.safe⟩
      · rw [g2]; unfold mGot VE.val; rw [hsv]; rfl
      · rw [← hsv]; exact hok.sl
      · rw [g1]; exact ⟨rfl, rfl, rfl⟩
      · obtain ⟨t1, _⟩ := tot_out h2.nodup he
        have := tot_nn (es.filter fun x => !(x.born == e.born))
        omega
  rw [hgot]
  obtain ⟨his, hfl, hsn'⟩ := hsn
  repeat' (first | (simp (disch := omega) only [push_cast, ↓reduceIte, zA, zG, zB, zH, zI, zC, zJ, zK, zL, zD, zE, zF, zM, zN, zO, zP, zQ, reduceCtorEq, not_true_eq_false, not_false_eq_true]) | (first | refine vIfE_of ?_ ?_ | refine vIfD_of ?_ ?_ | refine vIfQ_of ?_ ?_ | refine vIfV_of ?_ ?_) <;> intro _ | refine And.intro (by omega) ?_ | refine drawn_q ?_ | fail)
  refine vStore_new rfl rfl (by intro u hu; simp at hu; rcases hu with rfl | rfl <;> rfl) ?_
  have l3 := later_alloc w2 (.cells #[.slice ol fl.length os, .int .i64 (sn : Int)] 61)
  have B3 := Blk.new w2 #[.slice ol fl.length os, .int .i64 (sn : Int)] 61
  have h3 := h2.later l3
  have hsl3 := Sl.later hsl l3
  have hb3 := Sl.later hb2 l3
  generalize w2.alloc (.cells #[.slice ol fl.length os, .int .i64 (sn : Int)] 61) = w3 at *
  generalize hkb : w2.heap.size = kb at *
  repeat' (first | (simp (disch := omega) only [push_cast, ↓reduceIte, zA, zG, zB, zH, zI, zC, zJ, zK, zL, zD, zE, zF, zM, zN, zO, zP, zQ, reduceCtorEq, not_true_eq_false, not_false_eq_true]) | (first | refine vIfE_of ?_ ?_ | refine vIfD_of ?_ ?_ | refine vIfQ_of ?_ ?_ | refine vIfV_of ?_ ?_) <;> intro _ | refine And.intro (by omega) ?_ | refine drawn_q ?_ | fail)
  refine (free_c bk r room (brn fuse) es c w3 h3 hr (by omega)).mono ?_
  rintro _ w4 ⟨rfl, l4⟩
  have h4 := h3.later l4
  have f4 : w4.cell? ⟨bk, 2, none⟩ = some (.map (some r)) := h4.blk.cell 2
  have hlen : (es.map VE.ent).length = es.length := List.length_map _
  have hms : (((es.map VE.ent).map mE).toArray.size : Int) = (es.length : Int) := by simp
  by_cases hb1 : room - tot es < bl.length
  · have hd := decide_eq_true hb1
    repeat' (first | (simp (disch := omega) only [push_cast, ↓reduceIte, zA, zG, zB, zH, zI, zC, zJ, zK, zL, zD, zE, zF, zM, zN, zO, zP, zQ, reduceCtorEq, not_true_eq_false, not_false_eq_true, f4, hd, decide_true, addr_add_eq, Nat.zero_add]) | (first | refine vIfE_of ?_ ?_ | refine vIfD_of ?_ ?_ | refine vIfQ_of ?_ ?_ | refine vIfV_of ?_ ?_) <;> intro _ | refine And.intro (by omega) ?_ | refine drawn_q ?_ | fail)
    exact ⟨.inr (.inr (.inl ⟨rfl, m1, hz, .inl hb1, h4⟩)), c02.trans (Chg.of_later (l3.trans l4))⟩
  have hd := decide_eq_false hb1
  by_cases hfull : vFind k es = none ∧ 200 ≤ es.length
  · have hisf : is = false := by rw [his, hfull.1]; rfl
    have hd2 : decide ((200 : Int) ≤ (es.length : Int)) = true := decide_eq_true (by omega)
    subst hisf
    repeat' (first | (simp (disch := omega) only [push_cast, ↓reduceIte, zA, zG, zB, zH, zI, zC, zJ, zK, zL, zD, zE, zF, zM, zN, zO, zP, zQ, reduceCtorEq, not_true_eq_false, not_false_eq_true, f4, hd, decide_false, addr_add_eq, Nat.zero_add]) | (first | refine vIfE_of ?_ ?_ | refine vIfD_of ?_ ?_ | refine vIfQ_of ?_ ?_ | refine vIfV_of ?_ ?_) <;> intro _ | refine And.intro (by omega) ?_ | refine drawn_q ?_ | fail)
    refine ⟨_, _, h4.map, ?_⟩
    rw [hms]
    repeat' (first | (simp (disch := omega) only [push_cast, ↓reduceIte, zA, zG, zB, zH, zI, zC, zJ, zK, zL, zD, zE, zF, zM, zN, zO, zP, zQ, reduceCtorEq, not_true_eq_false, not_false_eq_true, hd2, decide_true]) | (first | refine vIfE_of ?_ ?_ | refine vIfD_of ?_ ?_ | refine vIfQ_of ?_ ?_ | refine vIfV_of ?_ ?_) <;> intro _ | refine And.intro (by omega) ?_ | refine drawn_q ?_ | fail)
    exact ⟨.inr (.inr (.inl ⟨rfl, m1, hz, .inr hfull, h4⟩)), c02.trans (Chg.of_later (l3.trans l4))⟩
  have tail : ∀ σ : Env, True := fun _ => trivial
  have B4 := B3.chg (Chg.of_later (ks := []) l4) (by simp)
  have hsl4 := Sl.later hsl3 l4
  have hb4 := Sl.later hb3 l4
  have fc0 : w4.cell? ⟨kb, 0, none⟩ = some (.slice ol fl.length os) := B4.cell 0
  have fc1 : w4.cell? ⟨kb, 1, none⟩ = some (.int .i64 (sn : Int)) := B4.cell 1
  have hroom : vFind k es = none → es.length < 200 := fun h0 => by
    have : ¬ (200 ≤ es.length) := fun h1 => hfull ⟨h0, h1⟩
    omega
  cases hisc : is
  case' true => repeat' (first | (simp (disch := omega) only [push_cast, ↓reduceIte, zA, zG, zB, zH, zI, zC, zJ, zK, zL, zD, zE, zF, zM, zN, zO, zP, zQ, reduceCtorEq, not_true_eq_false, not_false_eq_true, f4, hd, decide_false, addr_add_eq, Nat.zero_add]) | (first | refine vIfE_of ?_ ?_ | refine vIfD_of ?_ ?_ | refine vIfQ_of ?_ ?_ | refine vIfV_of ?_ ?_) <;> intro _ | refine And.intro (by omega) ?_ | fail)
  case' false =>
    have h0 : vFind k es = none := by
      cases hv : vFind k es with
      | none => rfl
      | some e => rw [hisc, hv] at his; cases his
    have hd2 : decide ((200 : Int) ≤ (es.length : Int)) = false := decide_eq_false (by have := hroom h0; omega)
    repeat' (first | (simp (disch := omega) only [push_cast, ↓reduceIte, zA, zG, zB, zH, zI, zC, zJ, zK, zL, zD, zE, zF, zM, zN, zO, zP, zQ, reduceCtorEq, not_true_eq_false, not_false_eq_true, f4, hd, decide_false, addr_add_eq, Nat.zero_add]) | (first | refine vIfE_of ?_ ?_ | refine vIfD_of ?_ ?_ | refine vIfQ_of ?_ ?_ | refine vIfV_of ?_ ?_) <;> intro _ | refine And.intro (by omega) ?_ | fail)
    refine ⟨_, _, h4.map, ?_⟩
    rw [hms]
    repeat' (first | (simp (disch := omega) only [push_cast, ↓reduceIte, zA, zG, zB, zH, zI, zC, zJ, zK, zL, zD, zE, zF, zM, zN, zO, zP, zQ, reduceCtorEq, not_true_eq_false, not_false_eq_true, hd2, decide_false]) | (first | refine vIfE_of ?_ ?_ | refine vIfD_of ?_ ?_ | refine vIfQ_of ?_ ?_ | refine vIfV_of ?_ ?_) <;> intro _ | refine And.intro (by omega) ?_ | fail)
  all_goals
    refine drawn_k 13 ?_
    repeat' (first | (simp (disch := omega) only [push_cast, ↓reduceIte, zA, zG, zB, zH, zI, zC, zJ, zK, zL, zD, zE, zF, zM, zN, zO, zP, zQ, reduceCtorEq, not_true_eq_false, not_false_eq_true, f4, fc0, fc1, addr_add_eq, Nat.zero_add]) | (first | refine vIfE_of ?_ ?_ | refine vIfD_of ?_ ?_ | refine vIfQ_of ?_ ?_ | refine vIfV_of ?_ ?_) <;> intro _ | refine And.intro (by omega) ?_ | fail)
    refine nB_of _ (Two fl bl) (stb_two _ _ _) (fun w' hl => ?_) ?_
    · repeat' (first | (simp (disch := omega) only [push_cast, ↓reduceIte, zA, zG, zB, zH, zI, zC, zJ, zK, zL, zD, zE, zF, zM, zN, zO, zP, zQ, reduceCtorEq, not_true_eq_false, not_false_eq_true]) | (first | refine vIfE_of ?_ ?_ | refine vIfD_of ?_ ?_ | refine vIfQ_of ?_ ?_ | refine vIfV_of ?_ ?_) <;> intro _ | refine And.intro (by omega) ?_ | fail)
      exact ⟨later_alloc _ _, ⟨_, rfl⟩, ll_two (Sl.later hsl4 hl) (Sl.later hb4 hl) _⟩
    repeat' (first | (simp (disch := omega) only [push_cast, ↓reduceIte, zA, zG, zB, zH, zI, zC, zJ, zK, zL, zD, zE, zF, zM, zN, zO, zP, zQ, reduceCtorEq, not_true_eq_false, not_false_eq_true, f4, fc0, fc1, addr_add_eq, Nat.zero_add]) | (first | refine vIfE_of ?_ ?_ | refine vIfD_of ?_ ?_ | refine vIfQ_of ?_ ?_ | refine vIfV_of ?_ ?_) <;> intro _ | refine And.intro (by omega) ?_ | fail)
    refine nR_fnV hb33 (fun v w' => OwnB w' w4.heap.size 5 v (fl ++ bl)) (fun _ _ _ _ hl h => h.later hl) (fun σ' w' hl hp => ?_) ?_
    · obtain ⟨hp56, _⟩ := hp
      have h56 : Two fl bl (σ' 56) w' := hp56
      have ea : Array.map (ev σ') #[Operand.tmp 56] = #[σ' 56] := by simp [ev]
      rw [ea]
      refine (concat_c _ [fl, bl] w' h56.2 (by simp only [List.flatten_cons, List.flatten_nil, List.append_nil, List.length_append]; omega)).mono ?_
      rintro v w'' ⟨hv, hl'⟩
      have hv : OwnB w'' w'.heap.size 5 v (fl ++ bl) := by simpa using hv
      exact ⟨hv.base hl.size, hl'⟩
    repeat' (first | (simp (disch := omega) only [push_cast, ↓reduceIte, zA, zG, zB, zH, zI, zC, zJ, zK, zL, zD, zE, zF, zM, zN, zO, zP, zQ, reduceCtorEq, not_true_eq_false, not_false_eq_true, f4, fc0, fc1, addr_add_eq, Nat.zero_add]) | (first | refine vIfE_of ?_ ?_ | refine vIfD_of ?_ ?_ | refine vIfQ_of ?_ ?_ | refine vIfV_of ?_ ?_) <;> intro _ | refine And.intro (by omega) ?_ | fail)
    refine nR_bldV (FileV w4.heap.size (fl ++ bl) sn) (stb_file _ _ _ _) (fun σ' w' hl hp => ?_) ?_
    · obtain ⟨hp57, hp59, _⟩ := hp
      have h57 : OwnB w' w4.heap.size 5 (σ' 57) (fl ++ bl) := hp57
      have h59 : σ' 59 = .int .i64 (sn : Int) := hp59
      obtain ⟨o3, c3, hv⟩ := h57.slice
      rw [hv] at h57
      repeat' (first | (simp (disch := omega) only [push_cast, ↓reduceIte, zA, zG, zB, zH, zI, zC, zJ, zK, zL, zD, zE, zF, zM, zN, zO, zP, zQ, reduceCtorEq, not_true_eq_false, not_false_eq_true, h59, hv]) | (first | refine vIfE_of ?_ ?_ | refine vIfD_of ?_ ?_ | refine vIfQ_of ?_ ?_ | refine vIfV_of ?_ ?_) <;> intro _ | refine And.intro (by omega) ?_ | fail)
      exact ⟨Later.refl _, _, rfl, h57⟩
    repeat' (first | (simp (disch := omega) only [push_cast, ↓reduceIte, zA, zG, zB, zH, zI, zC, zJ, zK, zL, zD, zE, zF, zM, zN, zO, zP, zQ, reduceCtorEq, not_true_eq_false, not_false_eq_true]) | (first | refine vIfE_of ?_ ?_ | refine vIfD_of ?_ ?_ | refine vIfQ_of ?_ ?_ | refine vIfV_of ?_ ?_) <;> intro _ | refine And.intro (by omega) ?_ | fail)
    rintro w5 l5 _ ⟨u, rfl, hu⟩ _ _ _ _
    have h5 := h4.later l5
    have hp := Vt.put h5 k (b := fl ++ bl) (s := sn) (sv := u) hu.sl (InT.of_own hu) (by rw [List.length_append]; omega)
    have c5 := chg_setB (w := w5) (r := r) (ks := [bk, r]) (by simp) (.map ((mPut k (.agg #[u, .int .i64 (sn : Nat)]) c (es.map VE.ent)).map mE).toArray (mTick k c (es.map VE.ent)))
    refine vUpd_of Try.underlying55 Try.underlying9 h5.map k _ ?_
    generalize setB w5 r (.map ((mPut k (.agg #[u, .int .i64 (sn : Nat)]) c (es.map VE.ent)).map mE).toArray (mTick k c (es.map VE.ent))) = w6 at *
    repeat' (first | (simp (disch := omega) only [push_cast, ↓reduceIte, zA, zG, zB, zH, zI, zC, zJ, zK, zL, zD, zE, zF, zM, zN, zO, zP, zQ, reduceCtorEq, not_true_eq_false, not_false_eq_true]) | (first | refine vIfE_of ?_ ?_ | refine vIfD_of ?_ ?_ | refine vIfQ_of ?_ ?_ | refine vIfV_of ?_ ?_) <;> intro _ | refine And.intro (by omega) ?_ | refine drawn_q ?_ | fail)
    exact ⟨.inr (.inr (.inr ⟨rfl, m1, hz, by omega, hroom, u, by rw [← hfl, ← hsn']; exact hp⟩)), c02.trans ((Chg.of_later (l3.trans (l4.trans l5))).trans c5)⟩
end Go.Proofs.Ytmfcnooleejgmaa
end
section
namespace Go.Proofs
open Go.Shelf
def Try.lays190_ren : Go.Shelf.Ren := ⟨fun | 190 => 48 | 125 => 60 | 258 => 59 | 128 => 72 | 129 => 73 | 302 => 63 | 303 => 64 | 304 => 65 | 305 => 66 | 306 => 67 | 307 => 68 | 308 => 69 | 309 => 70 | 310 => 71 | 333 => 79 | 329 => 80 | 330 => 81 | 334 => 82 | 335 => 83 | 336 => 84 | 344 => 86 | n => n, fun | 31 => 40 | 9 => 9 | 3 => 3 | 46 => 90 | 0 => 0 | 51 => 102 | 53 => 104 | 4 => 4 | 183 => 95 | 182 => 94 | 131 => 75 | 5 => 5 | 218 => 109 | 222 => 113 | 228 => 115 | 229 => 116 | n => n, fun | n => n⟩
theorem Try.lays190 : Go.Proofs.Lays.n190 Try.prog Try.lays190_ren := {
  mixed := by kernel_rfl
  f125 := Try.func60.trans (congrArg some (by kernel_rfl))
  f128 := Try.func72.trans (congrArg some (by kernel_rfl))
  f129 := Try.func73.trans (congrArg some (by kernel_rfl))
  f190 := Try.func48.trans (congrArg some (by kernel_rfl))
  f258 := Try.func59.trans (congrArg some (by kernel_rfl))
  f302 := Try.func63.trans (congrArg some (by kernel_rfl))
  f303 := Try.func64.trans (congrArg some (by kernel_rfl))
  f304 := Try.func65.trans (congrArg some (by kernel_rfl))
  f305 := Try.func66.trans (congrArg some (by kernel_rfl))
  f306 := Try.func67.trans (congrArg some (by kernel_rfl))
  f307 := Try.func68.trans (congrArg some (by kernel_rfl))
  f308 := Try.func69.trans (congrArg some (by kernel_rfl))
  f309 := Try.func70.trans (congrArg some (by kernel_rfl))
  f310 := Try.func71.trans (congrArg some (by kernel_rfl))
  f329 := Try.func80.trans (congrArg some (by kernel_rfl))
  f330 := Try.func81.trans (congrArg some (by kernel_rfl))
  f333 := Try.func79.trans (congrArg some (by kernel_rfl))
  f334 := Try.func82.trans (congrArg some (by kernel_rfl))
  f335 := Try.func83.trans (congrArg some (by kernel_rfl))
  f336 := Try.func84.trans (congrArg some (by kernel_rfl))
  f344 := Try.func86.trans (congrArg some (by kernel_rfl))
  t0 := Try.underlying0
  a0 := Try.isAgg0
  z0 := Try.sizeOf0
  v0 := Try.zeroValue0
  t3 := Try.underlying3
  a3 := Try.isAgg3
  z3 := Try.sizeOf3
  v3 := Try.zeroValue3
  t4 := Try.underlying4
  a4 := Try.isAgg4
  z4 := Try.sizeOf4
  v4 := Try.zeroValue4
  t5 := Try.underlying5
  a5 := Try.isAgg5
  z5 := Try.sizeOf5
  v5 := Try.zeroValue5
  t9 := Try.underlying9
  a9 := Try.isAgg9
  z9 := Try.sizeOf9
  v9 := Try.zeroValue9
  t31 := Try.underlying40
  a31 := Try.isAgg40
  z31 := Try.sizeOf40
  v31 := Try.zeroValue40
  t46 := Try.underlying90
  a46 := Try.isAgg90
  z46 := Try.sizeOf90
  v46 := Try.zeroValue90
  t51 := Try.underlying102
  a51 := Try.isAgg102
  z51 := Try.sizeOf102
  v51 := Try.zeroValue102
  t53 := Try.underlying104
  a53 := Try.isAgg104
  z53 := Try.sizeOf104
  v53 := Try.zeroValue104
  t131 := Try.underlying75
  a131 := Try.isAgg75
  z131 := Try.sizeOf75
  v131 := Try.zeroValue75
  t182 := Try.underlying94
  a182 := Try.isAgg94
  z182 := Try.sizeOf94
  v182 := Try.zeroValue94
  t183 := Try.underlying95
  a183 := Try.isAgg95
  z183 := Try.sizeOf95
  v183 := Try.zeroValue95
  t218 := Try.underlying109
  a218 := Try.isAgg109
  z218 := Try.sizeOf109
  v218 := Try.zeroValue109
  t222 := Try.underlying113
  a222 := Try.isAgg113
  z222 := Try.sizeOf113
  v222 := Try.zeroValue113
  t228 := Try.underlying115
  a228 := Try.isAgg115
  z228 := Try.sizeOf115
  v228 := Try.zeroValue115
  t229 := Try.underlying116
  a229 := Try.isAgg116
  z229 := Try.sizeOf116
  v229 := Try.zeroValue116 }
def Try.laysGw17_ren : Go.Shelf.Ren := ⟨fun | 17 => 55 | 15 => 61 | 20 => 74 | n => n, fun | 9 => 9 | 23 => 86 | 4 => 4 | 3 => 3 | 0 => 0 | 21 => 21 | n => n, fun | n => n⟩
theorem Try.laysGw17 : Go.Proofs.LaysGw.n17 Try.prog Try.laysGw17_ren := {
  mixed := by kernel_rfl
  f15 := Try.func61.trans (congrArg some (by kernel_rfl))
  f17 := Try.func55.trans (congrArg some (by kernel_rfl))
  f20 := Try.func74.trans (congrArg some (by kernel_rfl))
  t0 := Try.underlying0
  a0 := Try.isAgg0
  z0 := Try.sizeOf0
  v0 := Try.zeroValue0
  i0 := by kernel_rfl
  t3 := Try.underlying3
  a3 := Try.isAgg3
  z3 := Try.sizeOf3
  v3 := Try.zeroValue3
  i3 := by kernel_rfl
  t4 := Try.underlying4
  a4 := Try.isAgg4
  z4 := Try.sizeOf4
  v4 := Try.zeroValue4
  i4 := by kernel_rfl
  t9 := Try.underlying9
  a9 := Try.isAgg9
  z9 := Try.sizeOf9
  v9 := Try.zeroValue9
  i9 := by kernel_rfl
  t21 := Try.underlying21
  a21 := Try.isAgg21
  z21 := Try.sizeOf21
  v21 := Try.zeroValue21
  i21 := by kernel_rfl
  t23 := Try.underlying86
  a23 := Try.isAgg86
  z23 := Try.sizeOf86
  v23 := Try.zeroValue86
  i23 := by kernel_rfl }
def Try.lays151_ren : Go.Shelf.Ren := ⟨fun | 151 => 57 | 152 => 62 | 137 => 75 | 119 => 76 | 224 => 77 | 225 => 78 | 217 => 85 | 266 => 87 | n => n, fun | 9 => 9 | 21 => 21 | 4 => 4 | 3 => 3 | 5 => 5 | 0 => 0 | 46 => 90 | n => n, fun | n => n⟩
theorem Try.lays151 : Go.Proofs.Lays.n151 Try.prog Try.lays151_ren := {
  mixed := by kernel_rfl
  f119 := Try.func76.trans (congrArg some (by kernel_rfl))
  f137 := Try.func75.trans (congrArg some (by kernel_rfl))
  f151 := Try.func57.trans (congrArg some (by kernel_rfl))
  f152 := Try.func62.trans (congrArg some (by kernel_rfl))
  f217 := Try.func85.trans (congrArg some (by kernel_rfl))
  f224 := Try.func77.trans (congrArg some (by kernel_rfl))
  f225 := Try.func78.trans (congrArg some (by kernel_rfl))
  f266 := Try.func87.trans (congrArg some (by kernel_rfl))
  t0 := Try.underlying0
  a0 := Try.isAgg0
  z0 := Try.sizeOf0
  v0 := Try.zeroValue0
  t3 := Try.underlying3
  a3 := Try.isAgg3
  z3 := Try.sizeOf3
  v3 := Try.zeroValue3
  t4 := Try.underlying4
  a4 := Try.isAgg4
  z4 := Try.sizeOf4
  v4 := Try.zeroValue4
  t5 := Try.underlying5
  a5 := Try.isAgg5
  z5 := Try.sizeOf5
  v5 := Try.zeroValue5
  t9 := Try.underlying9
  a9 := Try.isAgg9
  z9 := Try.sizeOf9
  v9 := Try.zeroValue9
  t21 := Try.underlying21
  a21 := Try.isAgg21
  z21 := Try.sizeOf21
  v21 := Try.zeroValue21
  t46 := Try.underlying90
  a46 := Try.isAgg90
  z46 := Try.sizeOf90
  v46 := Try.zeroValue90 }
open Go.Sort Go.RowKit in
theorem Try.slices_Sort_string (blk off cap : Nat) (ss : List (List UInt8)) (w : World) (hH : Holds encStr w blk off ss.toArray) (hblk : blk < w.heap.size) (hsz : ss.length < 4611686018427387904) :
    Calls Try.prog 48 #[.slice (some ⟨blk, off, none⟩) ss.length cap] w fun e w' =>
      e = .returned (.tuple #[]) ∧ ∃ n os, w' = grow (putRow encStr (Sort.ahead w n) blk off (ss.mergeSort fun x y => decide (x ≤ y)).toArray) os := Any.slices_Sort_string Try.lays190 blk off cap ss w hH hblk hsz
open Go.RowKit Go.Lib in
theorem Try.strings_ContainsRune_ascii (s : ByteArray) (r : Int) (w : World) (h0 : 0 ≤ r) (h1 : r < 128) :
    Calls Try.prog 57 #[.string s, .int .i32 r] w fun e w' => e = .returned (.bool (decide (0 ≤ Lib.indexByte s.data.toList r.toNat.toUInt8))) ∧ w' = w := Any.strings_ContainsRune_ascii Try.lays151 s r w h0 h1
open Go.RowKit Go.Lib in
theorem Try.strings_ContainsFunc_grows (g : Nat) (lb : Array Value) (eg : ∀ args w, (callFunc g args).run Try.prog w = .ok (.enter g args) w) (p : Nat → Bool) (s : ByteArray) (w : World) (hp : PredGrows Try.prog g lb p w) :
    Calls Try.prog 55 #[.string s, .func (.func g) #[] lb] w fun e w' => e = .returned (.bool (decide (0 ≤ Lib.idxFunc p true s))) ∧ Below w.heap.size w w' := Any.strings_ContainsFunc_grows Try.laysGw17 g lb eg p s w hp
open Go.RowKit Go.Sort in
theorem Try.slices_Sort_string_none (p : Option Addr) (cap : Nat) (w : World) :
    Calls Try.prog 48 #[.slice p 0 cap] w fun e w' => e = .returned (.tuple #[]) ∧ w' = w := Any.slices_Sort_string_none Try.lays190 p cap w
end Go.Proofs
end
section
/- strings.ContainsAny of a quotation mark and a backslash, at any text: it tells something (what, for texts of 7 bits, the kit's contracts say). -/
namespace Go.Proofs
open Go.Shelf Go.RowKit Go.Lib BigFrame
variable {P : Program} {ρ : Ren}
set_option maxHeartbeats 4000000 in
set_option maxRecDepth 1000000 in
theorem Any.IndexRune_high_s (L : Lays.n152 P ρ) (s : ByteArray) (hs : s.size ≤ 1000000) (has : ∀ i (h : i < s.size), s[i].toNat < 128) (r : Int) (w : World) (h1 : 128 ≤ r) (hne : ¬ r = 65533) (hv : Utf8.valid r = true) :
    Calls P (ρ.f 152) #[.string s, .int .i32 r] w fun e w' => e = .returned (.int .i64 (-1)) ∧ ∃ n, w' = w.drewN n := by
  obtain ⟨g1, g2, g3⟩ := encode_facts r hv h1
  have hvr : Lib.validRune r = true := by
    have := validRune_eq r
    rw [hv] at this
    unfold Go.validRune at this
    unfold Lib.validRune
    exact this.symm
  have mixed := L.mixed
  have t3 := L.t3; have a3 := L.a3; have z3 := L.z3; have v3 := L.v3
  have t4 := L.t4; have a4 := L.a4; have z4 := L.z4; have v4 := L.v4
  have t5 := L.t5; have a5 := L.a5; have z5 := L.z5; have v5 := L.v5
  have t9 := L.t9; have a9 := L.a9; have z9 := L.z9; have v9 := L.v9
  have t21 := L.t21; have a21 := L.a21; have z21 := L.z21; have v21 := L.v21
  have e119 : ∀ args w, (callFunc (ρ.f 119) args).run P w = .ok (.enter (ρ.f 119) args) w := enters_of L.f119 (by kernel_rfl) rfl
  go_enter L.f152, Body.n152_ntmps ρ
  go_wp2_with (go_at_fn (ρ.f 119); refine (Any.utf8_ValidRune { L with } _ _).mono ?_; rintro e w' ⟨rfl, hw⟩; rw [hw, hvr])
  subst hw
  have hcv : ∀ w, (convert (ρ.t 21) (ρ.t 9) (.int .i32 r)).run P w = .ok (.string (Utf8.encode r)) w := fun w => run_convert_int_string w _ _ _ _ (by rw [t21]; rfl) t9
  generalize Utf8.encode r = rs at *
  clear hv hvr
  obtain ⟨n, hn⟩ : ∃ n, rs.size = n + 1 := ⟨rs.size - 1, by omega⟩
  by_cases h2 : n < s.size
  · have hlt : (n : Int) < (s.size : Int) := by omega
    have g4 : 128 ≤ (rs[n]'(by omega)).toNat := by
      have := g3 (by omega)
      simpa only [hn, Nat.add_sub_cancel] using this
    clear g3
    go_step3
    go_wp2
    go_rounds 1
    obtain ⟨x, hx⟩ : ∃ x : UInt8, ∀ h, s[n]'h = x := ⟨s[n]'h2, fun _ => rfl⟩
    obtain ⟨y, hy⟩ : ∃ y : UInt8, ∀ h, rs[n]'h = y := ⟨rs[n]'(by omega), fun _ => rfl⟩
    rw [hy] at g4
    have hx1 : x.toNat < 128 := by rw [← hx h2]; exact has n h2
    have hb1 : (0 : Int) ≤ (n : Int) ∧ (n : Int) < (s.size : Int) := by omega
    have hb2 : (0 : Int) ≤ (n : Int) ∧ (n : Int) < (rs.size : Int) := by omega
    have hb3 : (n : Int) < (rs.size : Int) := by omega
    go_step3
    refine wp_seq_k fun K1 hK1 => ?_
    refine wp_seq_k fun K2 hK2 => ?_
    go_big_quiet_o (fail)
    refine hK2 _ _ ?_
    clear hK2
    have exy : ((x.toNat : Int) != (y.toNat : Int)) = true := by
      rw [bne_iff_ne]
      omega
    rw [exy]
    go_wp2
    have e137 : ∀ args w, (callFunc (ρ.f 137) args).run P w = .ok (.enter (ρ.f 137) args) w := enters_of L.f137 (by kernel_rfl) rfl
    have hIB := fun (t : ByteArray) (w : World) => Any.strings_IndexByte (P := P) (ρ := ρ) { L with } t (y.toNat : Int) w
    obtain ⟨w1, hw1⟩ : ∃ w1, w'.drewN nq = w1 := ⟨_, rfl⟩
    rw [hw1]
    have hb4 : (0 : Int) ≤ (n : Int) + 1 ∧ (n : Int) + 1 ≤ (s.size : Int) := by omega
    go_big_quiet_o (first | (go_at_fn (ρ.f 137); refine Calls.quiet_of_same (hIB _ _)))
    have hneg : Lib.indexByte (s.extract (n + 1) s.size).data.toList (y.toNat : Int).toNat.toUInt8 = -1 := by
      have hyy : (y.toNat : Int).toNat.toUInt8 = y := by simp
      rw [hyy]
      have hall : ∀ b ∈ (s.extract (n + 1) s.size).data.toList, b ≠ y := fun b hb he => by
        have hm := mem_extract hb
        obtain ⟨i, hi, rfl⟩ := List.getElem_of_mem hm
        have := has i (by simpa using hi)
        have e1 : s[i]'(by simpa using hi) = s.data.toList[i] := rfl
        rw [e1, he] at this
        omega
      generalize (s.extract (n + 1) s.size).data.toList = l at hall
      induction l with
      | nil => rfl
      | cons b l ih =>
        have h1 : (b == y) = false := beq_eq_false_iff_ne.2 (hall b (by simp))
        have h2 := ih fun c hc => hall c (List.mem_cons_of_mem _ hc)
        simp [Lib.indexByte, h1, h2]
    rw [hneg]
    go_wp2
    rw [Exit.noGoto_ret]
    simp only [Exit.inBlock, Exit.then, Exit.noGoto_ret]
    go_ret
    rw [← hw1, World.drewN_drewN]
    exact ⟨rfl, _, rfl⟩
  · have hlt : ¬ ((n : Int) < (s.size : Int)) := by omega
    clear g3
    go_step3
    go_wp2
    go_rounds 1
    rw [Exit.noGoto_ret]
    go_ret
    exact ⟨rfl, 0, rfl⟩
set_option maxHeartbeats 4000000 in
set_option maxRecDepth 1000000 in
theorem Any.IndexRune_bad_s (L : Lays.n152 P ρ) (s : ByteArray) (r : Int) (w : World) (h1 : 128 ≤ r) (hne : ¬ r = 65533) (hv : Utf8.valid r = false) :
    Calls P (ρ.f 152) #[.string s, .int .i32 r] w fun e w' => e = .returned (.int .i64 (-1)) ∧ w' = w := by
  have hvr : Lib.validRune r = false := by
    have := validRune_eq r
    rw [hv] at this
    unfold Go.validRune at this
    unfold Lib.validRune
    exact this.symm
  have mixed := L.mixed
  have t3 := L.t3; have a3 := L.a3; have z3 := L.z3; have v3 := L.v3
  have t4 := L.t4; have a4 := L.a4; have z4 := L.z4; have v4 := L.v4
  have t5 := L.t5; have a5 := L.a5; have z5 := L.z5; have v5 := L.v5
  have t9 := L.t9; have a9 := L.a9; have z9 := L.z9; have v9 := L.v9
  have t21 := L.t21; have a21 := L.a21; have z21 := L.z21; have v21 := L.v21
  have e119 : ∀ args w, (callFunc (ρ.f 119) args).run P w = .ok (.enter (ρ.f 119) args) w := enters_of L.f119 (by kernel_rfl) rfl
  go_enter L.f152, Body.n152_ntmps ρ
  go_wp2_with (go_at_fn (ρ.f 119); refine (Any.utf8_ValidRune { L with } _ _).mono ?_; rintro e w' ⟨rfl, hw⟩; rw [hw, hvr])
  go_ret
  exact ⟨rfl, rfl⟩
theorem below_drewN_s (w : World) (n : Nat) : Below w.heap.size w (w.drewN n) := ⟨rfl, rfl, rfl, Nat.le_refl _, fun _ _ => rfl⟩
set_option maxHeartbeats 8000000 in
set_option maxRecDepth 1000000 in
theorem Any.IndexRune_err_s (L : Lays.n152 P ρ) (s : ByteArray) (has : ∀ i (h : i < s.size), s[i].toNat < 128) (hs : s.size ≤ 1000000) (w : World) :
    Calls P (ρ.f 152) #[.string s, .int .i32 65533] w fun e w' => e = .returned (.int .i64 (-1)) ∧ Below w.heap.size w w' := by
  have mixed := L.mixed
  have t3 := L.t3; have a3 := L.a3; have z3 := L.z3; have v3 := L.v3
  have t4 := L.t4; have a4 := L.a4; have z4 := L.z4; have v4 := L.v4
  have t5 := L.t5; have a5 := L.a5; have z5 := L.z5; have v5 := L.v5
  have t9 := L.t9; have a9 := L.a9; have z9 := L.z9; have v9 := L.v9
  have t21 := L.t21; have a21 := L.a21; have z21 := L.z21; have v21 := L.v21
  go_enter L.f152, Body.n152_ntmps ρ
  go_wp2
  go_loopw [5, 6] (fun _ _ wr => ∃ pos : Nat, wr.heap[w.heap.size]? = some (.stringIter s pos) ∧ Below w.heap.size w wr) (fun _ _ wr => s.size - wr.iterPos w.heap.size)
  case atStart => exact ⟨0, World.iter_heap w s 0, (Below.refl _ _).alloc (Nat.le_refl _) _⟩
  case round =>
    obtain ⟨pos, hit, hbw⟩ := hrel
    have hsz : w.heap.size < wr.heap.size := (Array.getElem?_eq_some_iff.1 hit).1
    by_cases hp : pos < s.size
    · have hnx : ∀ ty, (Instr.next (.pointer (some ⟨w.heap.size, 0, none⟩)) true ty).run P wr = _ := fun ty => Lib.run_next_any_at wr w.heap.size s pos ty hit hp
      have hdec := decode_ascii s pos hp (has pos hp)
      rw [hdec] at hnx
      have hit2 := Lib.iterAt_heap wr w.heap.size s pos (pos + 1) hit
      have hbw2 := Lib.below_iterAt hbw (k := w.heap.size) (by omega) s (pos + 1)
      have hdn : ¬ ((s[pos].toNat : Int) = 65533) := by have := has pos hp; omega
      have hdn2 : ((s[pos].toNat : Int) == 65533) = false := beq_eq_false_iff_ne.2 hdn
      go_wp2
      refine ⟨⟨_, hit2, hbw2⟩, ?_⟩
      simp only [World.iterPos, hit2, hit]
      omega
    · have hnx : ∀ ty, (Instr.next (.pointer (some ⟨w.heap.size, 0, none⟩)) true ty).run P wr = _ := fun ty => Lib.run_next_end_at wr w.heap.size s pos ty hit hp
      go_wp2
      go_ret
      exact ⟨rfl, hbw⟩
/-- A rune from 128 on is not in a text of seven bits. -/
theorem Any.IndexRune_out (L : Lays.n152 P ρ) (s : ByteArray) (hs : s.size ≤ 1000000) (has : ∀ i (h : i < s.size), s[i].toNat < 128) (r : Int) (w : World) (h1 : 128 ≤ r) :
    Calls P (ρ.f 152) #[.string s, .int .i32 r] w fun e w' => e = .returned (.int .i64 (-1)) ∧ Below w.heap.size w w' := by
  by_cases hne : r = 65533
  · subst hne
    exact Any.IndexRune_err_s L s has hs w
  cases hv : Utf8.valid r with
  | false => exact (Any.IndexRune_bad_s L s r w (by omega) hne hv).mono fun e w' ⟨h, hw⟩ => ⟨h, hw ▸ Below.refl _ _⟩
  | true => exact (Any.IndexRune_high_s L s hs has r w (by omega) hne hv).mono fun e w' ⟨h, n, hw⟩ => ⟨h, hw ▸ below_drewN_s w n⟩
theorem Any.ContainsRune_out (L : Lays.n151 P ρ) (s : ByteArray) (hs : s.size ≤ 1000000) (has : ∀ i (h : i < s.size), s[i].toNat < 128) (r : Int) (w : World) (h1 : 128 ≤ r) :
    Calls P (ρ.f 151) #[.string s, .int .i32 r] w fun e w' => e = .returned (.bool false) ∧ Below w.heap.size w w' := by
  have c := Any.IndexRune_out (P := P) (ρ := ρ) { L with } s hs has r w h1
  have t3 := L.t3; have a3 := L.a3; have z3 := L.z3; have v3 := L.v3
  have t4 := L.t4; have a4 := L.a4; have z4 := L.z4; have v4 := L.v4
  have t9 := L.t9; have a9 := L.a9; have z9 := L.z9; have v9 := L.v9
  have t21 := L.t21; have a21 := L.a21; have z21 := L.z21; have v21 := L.v21
  have e152 : ∀ args w, (callFunc (ρ.f 152) args).run P w = .ok (.enter (ρ.f 152) args) w := enters_of L.f152 (by kernel_rfl) rfl
  go_enter L.f151, Body.n151_ntmps ρ
  go_wp2_with (go_at_fn (ρ.f 152); refine c.mono ?_; rintro e w' ⟨rfl, hw⟩)
  go_ret
  exact ⟨rfl, hw⟩
end Go.Proofs
end
section
namespace Go.Vc
open Go.RowKit
def i64v (n : Int) : Value := .int .i64 n
/-- A slice of numbers that a call owns. -/
def OwnI (w : World) (B : Nat) (e : TypeId) (v : Value) (l : List Int) : Prop := w.ownsRow B e 1 v l.length (l.map i64v)
theorem OwnI.sl {w : World} {B : Nat} {e : TypeId} {v : Value} {l : List Int} (h : OwnI w B e v l) : Sl w v (l.map i64v) := Sl.of_own h
theorem OwnI.later {w w' : World} {B : Nat} {e : TypeId} {v : Value} {l : List Int} (h : OwnI w B e v l) (hl : Later w w') : OwnI w' B e v l := own_later h hl
theorem OwnI.base {w : World} {B B' : Nat} {e : TypeId} {v : Value} {l : List Int} (h : OwnI w B e v l) (hb : B' ≤ B) : OwnI w B' e v l := own_base h hb
theorem OwnI.nil (w : World) (B : Nat) (e : TypeId) : OwnI w B e (.slice none 0 0) [] := own_nil w B e 1
theorem OwnI.slice {w : World} {B : Nat} {e : TypeId} {v : Value} {l : List Int} (h : OwnI w B e v l) : ∃ o c, v = .slice o l.length c := by
  obtain ⟨o, c, hv, _⟩ := h.sl.openM
  exact ⟨o, c, hv⟩
theorem OwnI.alloc {w : World} {B : Nat} {e : TypeId} {v : Value} {l : List Int} (h : OwnI w B e v l) (o : Obj) : OwnI (w.alloc o) B e v l := own_alloc h o
end Go.Vc
end
