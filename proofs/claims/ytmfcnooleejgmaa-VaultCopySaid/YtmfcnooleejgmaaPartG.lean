/- Records of any number of cells in slices: read, owned, one more, one written anew. -/
import Derived.ChangeSame
import Derived.Test.YtmfcnooleejgmaaPartF
set_option linter.all false
open Nat renaming reduceEqDiff → zA, reducePow → zB, reduceMul → zC, reduceAdd → zD, reduceSub → zE, reduceLeDiff → zF
open Int renaming reduceToNat → zG, reducePow → zH, reduceNeg → zI, reduceMul → zJ, reduceAdd → zK, reduceSub → zL, reduceLT → zM, reduceLE → zN, reduceEq → zO, reduceMod → zP, reduceDiv → zQ
section
namespace Go.Vc
open Go.RowKit
section
variable {α : Type} {enc : α → List Value} {k : Nat}
/-- Records, read. -/
def RecS (enc : α → List Value) (k : Nat) (w : World) (v : Value) (l : List α) : Prop := SlN w k v l.length (l.map enc).flatten
/-- Records of one's own. -/
def OwnR (enc : α → List Value) (k : Nat) (w : World) (B : Nat) (e : TypeId) (v : Value) (l : List α) : Prop := w.ownsRow B e k v l.length (l.map enc).flatten
theorem rec_len (hk : ∀ x, (enc x).length = k) (l : List α) : ∀ r ∈ l.map enc, r.length = k := by
  intro r hr
  obtain ⟨p, _, rfl⟩ := List.mem_map.1 hr
  exact hk p
theorem rec_flat (hk : ∀ x, (enc x).length = k) (l : List α) : (l.map enc).flatten.length = l.length * k := by
  induction l with
  | nil => simp
  | cons p l ih => simp only [List.map_cons, List.flatten_cons, List.length_append, ih, List.length_cons, hk, Nat.add_mul]; omega
theorem RecS.later {w w' : World} {v : Value} {l : List α} (h : RecS enc k w v l) (hl : Later w w') : RecS enc k w' v l := SlN.later h hl
theorem OwnR.s {w : World} {B : Nat} {e : TypeId} {v : Value} {l : List α} (h : OwnR enc k w B e v l) : RecS enc k w v l := SlN.of_own h
theorem OwnR.later {w w' : World} {B : Nat} {e : TypeId} {v : Value} {l : List α} (h : OwnR enc k w B e v l) (hl : Later w w') : OwnR enc k w' B e v l := own_later h hl
theorem OwnR.base {w : World} {B B' : Nat} {e : TypeId} {v : Value} {l : List α} (h : OwnR enc k w B e v l) (hb : B' ≤ B) : OwnR enc k w B' e v l := own_base h hb
theorem OwnR.nil (w : World) (B : Nat) (e : TypeId) : OwnR enc k w B e (.slice none 0 0) [] := own_nil w B e k
theorem OwnR.alloc {w : World} {B : Nat} {e : TypeId} {v : Value} {l : List α} (h : OwnR enc k w B e v l) (o : Obj) : OwnR enc k (w.alloc o) B e v l := own_alloc h o
theorem RecS.slice {w : World} {v : Value} {l : List α} (h : RecS enc k w v l) : ∃ o c, v = .slice o l.length c ∧ l.length ≤ c ∧ c ≤ 9223372036854775807 := by
  obtain ⟨o, c, hv, h1, h2, _⟩ := SlN.open h
  exact ⟨o, c, hv, h1, by simpa [maxLen] using h2⟩
theorem RecS.nil (w : World) : RecS enc k w (.slice none 0 0) [] := SlN.of_own (own_nil w 0 0 k)
theorem RecS.at (hk : ∀ x, (enc x).length = k) {w : World} {o : Option Addr} {n c : Nat} {l : List α} (h : RecS enc k w (.slice o n c) l) {i : Nat} (hi : i < l.length) : ∃ a, o = some a ∧ cellsAt w (a.add (i * k)) k = some (enc l[i]) := by
  cases o with
  | none => have h1 := SlN.len h; have := h1.2.2.2.2 rfl; have := h1.1; omega
  | some a =>
    have hr : (l.map enc)[i]? = some (enc l[i]) := by simp [hi]
    exact ⟨a, rfl, SlN.row h (rec_len hk l) hr⟩
theorem RecS.get (hk : ∀ x, (enc x).length = k) {w : World} {a : Addr} {n c : Nat} {l : List α} (h : RecS enc k w (.slice (some a) n c) l) {i : Nat} (hi : i < l.length) : cellsAt w (a.add (i * k)) k = some (enc l[i]) := by
  obtain ⟨a', ha, hc⟩ := RecS.at hk h hi
  cases ha
  exact hc
theorem RecS.cell (hk : ∀ x, (enc x).length = k) {w : World} {a : Addr} {n c : Nat} {l : List α} (h : RecS enc k w (.slice (some a) n c) l) {i j : Nat} (hi : i < l.length) {x : Value} (hx : (enc l[i])[j]? = some x) : w.cell? ((a.add (i * k)).add j) = some x :=
  SlN.rowCell h (rec_len hk l) (by simp [hi]) hx
/-- Cells of what a call owns, written one after the other. -/
def wrs (xs : List Value) (p : Nat) : List Value → List Value
  | [] => xs
  | v :: vs => wrs (xs.set p v) (p + 1) vs
theorem writes_app (A old B new : List Value) (h : old.length = new.length) : wrs (A ++ old ++ B) A.length new = A ++ new ++ B := by
  induction new generalizing A old with
  | nil => obtain rfl := List.length_eq_zero_iff.1 h; rfl
  | cons v vs ih =>
    cases old with
    | nil => cases h
    | cons o os =>
      have e : (A ++ o :: os ++ B).set A.length v = (A ++ [v]) ++ os ++ B := by simp
      have hl : A.length + 1 = (A ++ [v]).length := by simp
      rw [wrs, e, hl, ih (A ++ [v]) os (by simpa using h)]
      simp
theorem own_writes {w : World} {base n s : Nat} {e : TypeId} {a : Addr} {c m : Nat} {xs : List Value} (h : w.ownsRow base e s (.slice (some a) m c) n xs) : ∃ g, a = ⟨g, 0, none⟩ ∧ base ≤ g ∧ g < w.heap.size ∧ (∃ cs, Blk w g cs e) ∧ ∀ (vs : List Value) (p : Nat), p + vs.length ≤ n * s → canAll w ⟨g, p, none⟩ vs := by
  obtain ⟨h0, h⟩ := h
  rcases h with ⟨h, _⟩ | ⟨g, cap, cur, hv, hb, hh, h1, h2, h3, h4⟩
  · cases h
  · simp only [Value.slice.injEq, Option.some.injEq] at hv
    obtain ⟨rfl, rfl, rfl⟩ := hv
    have hB : Blk w g cur e := hh
    have hsz : cur.size = c * s := by simpa using h3
    have hms : m * s ≤ c * s := Nat.mul_le_mul_right _ h1
    refine ⟨g, rfl, hb, hB.lt, ⟨cur, hB⟩, fun vs => ?_⟩
    induction vs with
    | nil => intro p _; trivial
    | cons v vs ih =>
      intro p hp
      simp only [List.length_cons] at hp
      refine ⟨⟨cur[p], by rw [hB.cell]; exact Array.getElem?_eq_getElem (by omega)⟩, hB.frozen p, ?_⟩
      rw [addr_add_eq]
      exact ih (p + 1) (by omega)
theorem own_storeAll {base n s : Nat} {e : TypeId} {g c m : Nat} : ∀ (vs : List Value) (w : World) (p : Nat) (xs : List Value), w.ownsRow base e s (.slice (some ⟨g, 0, none⟩) m c) n xs → p + vs.length ≤ n * s →
    (storeAll w ⟨g, p, none⟩ vs).ownsRow base e s (.slice (some ⟨g, 0, none⟩) m c) n (wrs xs p vs) ∧ Chg w (storeAll w ⟨g, p, none⟩ vs) [g] := by
  intro vs
  induction vs with
  | nil => intro w p xs h _; exact ⟨h, Chg.refl _ _⟩
  | cons v vs ih =>
    intro w p xs h hp
    simp only [List.length_cons] at hp
    obtain ⟨k', e', _, _, h3, _, _, _⟩ := own_setN (i := p) h (by omega) v
    have eg : k' = g := by have := congrArg Addr.block e'; simpa using this.symm
    subst eg
    have := ih (w.setCell ⟨k', p, none⟩ v) (p + 1) (xs.set p v) h3 (by omega)
    unfold storeAll
    rw [addr_add_eq]
    exact ⟨this.1, (chg_setCell w (by simp) v).trans this.2⟩
theorem set_split (l : List α) {i : Nat} (hi : i < l.length) (y : α) : l = l.take i ++ l[i] :: l.drop (i + 1) ∧ l.set i y = l.take i ++ y :: l.drop (i + 1) := by
  refine ⟨?_, ?_⟩
  · rw [List.getElem_cons_drop, List.take_append_drop]
  · rw [List.set_eq_take_append_cons_drop, if_pos hi]
theorem writes_rec (hk : ∀ x, (enc x).length = k) (l : List α) {i : Nat} (hi : i < l.length) (y : α) : wrs (l.map enc).flatten (i * k) (enc y) = ((l.set i y).map enc).flatten := by
  obtain ⟨e1, e2⟩ := set_split l hi y
  have hA : ((l.take i).map enc).flatten.length = i * k := by rw [rec_flat hk, List.length_take]; congr 1; omega
  have e3 : (l.map enc).flatten = ((l.take i).map enc).flatten ++ enc l[i] ++ ((l.drop (i + 1)).map enc).flatten := by
    have : (l.map enc).flatten = ((l.take i ++ l[i] :: l.drop (i + 1)).map enc).flatten := congrArg (fun l => (l.map enc).flatten) e1
    rw [this, List.map_append, List.flatten_append, List.map_cons, List.flatten_cons, List.append_assoc]
  rw [e3, ← hA, writes_app _ _ _ _ (by rw [hk, hk]), e2]
  simp
/-- One record written anew. -/
theorem OwnR.set (hk : ∀ x, (enc x).length = k) {w : World} {B : Nat} {e : TypeId} {a : Addr} {n c : Nat} {l : List α} (h : OwnR enc k w B e (.slice (some a) n c) l) {i : Nat} (hi : i < l.length) (y : α) :
    ∃ g, a = ⟨g, 0, none⟩ ∧ B ≤ g ∧ (∃ cs, Blk w g cs e) ∧ canAll w (a.add (i * k)) (enc y) ∧ OwnR enc k (storeAll w (a.add (i * k)) (enc y)) B e (.slice (some a) n c) (l.set i y) ∧ Chg w (storeAll w (a.add (i * k)) (enc y)) [g] := by
  obtain ⟨g, rfl, h1, h2, hb, h3⟩ := own_writes h
  have hle : i * k + k ≤ l.length * k := by
    have : (i + 1) * k ≤ l.length * k := Nat.mul_le_mul_right _ hi
    rw [Nat.add_mul] at this; omega
  obtain ⟨o1, o2⟩ := own_storeAll (enc y) w (i * k) _ h (by rw [hk]; exact hle)
  refine ⟨g, rfl, h1, hb, ?_, ?_, ?_⟩
  · rw [addr_add_eq, Nat.zero_add]
    exact h3 (enc y) (i * k) (by rw [hk]; exact hle)
  · rw [addr_add_eq, Nat.zero_add]
    unfold OwnR
    rw [writes_rec hk l hi y] at o1
    simpa using o1
  · rw [addr_add_eq, Nat.zero_add]
    exact o2
end
end Go.Vc
end
section
namespace Go.Vc
open Go.RowKit Go.ChangeShapes
section
variable {H : Type} {enc : TypeId × Value → H} {P : Program} {w : World} {sp : Nat → Bool} {hd : Bool}
/-- Whatever of a type came in reads as R says. -/
structure Opens (enc : TypeId × Value → H) (P : Program) (w : World) (sp : Nat → Bool) (hd : Bool) (e : TypeId) (s : Nat) (R : List Value → Prop) : Prop where
  size : P.cellsOf e = s
  reads : ∀ m cs y, DataW.trod enc P w 0 sp hd m e cs = some y → R cs
theorem Opens.mono {e : TypeId} {s : Nat} {R R' : List Value → Prop} (h : Opens enc P w sp hd e s R) (hr : ∀ cs, R cs → R' cs) : Opens enc P w sp hd e s R' := ⟨h.size, fun m cs y hy => hr _ (h.reads m cs y hy)⟩
theorem opens_i64 {e : TypeId} (he : P.underlying e = some (.int .i64)) (hc : P.cellsOf e = 1) : Opens enc P w sp hd e 1 (fun cs => ∃ n : Int, cs = [.int .i64 n] ∧ -9223372036854775808 ≤ n ∧ n ≤ 9223372036854775807) :=
  ⟨hc, fun m cs y hy => by
    obtain ⟨n, rfl, _, hw⟩ := DataW.trod_int he hy
    exact ⟨n, rfl, i64_of_wf hw⟩⟩
theorem opens_string {e : TypeId} (he : P.underlying e = some .string) (hc : P.cellsOf e = 1) : Opens enc P w sp hd e 1 (fun cs => ∃ s : ByteArray, cs = [.string s] ∧ s.size ≤ 9223372036854775807) :=
  ⟨hc, fun m cs y hy => by
    obtain ⟨n, rfl, _, hs⟩ := DataW.trod_string he hy
    exact ⟨n, rfl, hs⟩⟩
theorem rows_list {α : Type} {en : α → List Value} {Q : α → Prop} : ∀ (rows : List (List Value)), (∀ r ∈ rows, ∃ x, r = en x ∧ Q x) → ∃ l : List α, rows = l.map en ∧ ∀ x ∈ l, Q x
  | [], _ => ⟨[], rfl, by simp⟩
  | r :: rows, h => by
    obtain ⟨l, hl, hq⟩ := rows_list rows fun r' h' => h r' (by simp [h'])
    obtain ⟨x, hx, hqx⟩ := h r (by simp)
    refine ⟨x :: l, by simp [hl, hx], fun y hy => ?_⟩
    rcases List.mem_cons.1 hy with rfl | hy
    · exact hqx
    · exact hq y hy
theorem opens_slice {α : Type} {en : α → List Value} {Q : α → Prop} {t e : TypeId} {s : Nat} (ht : P.underlying t = some (.slice e)) (hc : P.cellsOf t = 1) (he : Opens enc P w sp hd e s (fun cs => ∃ x, cs = en x ∧ Q x)) :
    Opens enc P w sp hd t 1 (fun cs => ∃ v l, cs = [v] ∧ RecS en s w v l ∧ ∀ x ∈ l, Q x) :=
  ⟨hc, fun m cs y hy => by
    have hx : ∃ x : Value, cs = [x] ∧ x.cells.toList = [x] := by
      rcases DataW.trod_slice ht hy with ⟨h0, _⟩ | ⟨a, len, cap, elems, rest, n, _, hv, _⟩
      · exact ⟨_, h0, rfl⟩
      · exact ⟨_, hv, rfl⟩
    obtain ⟨x, rfl, hx⟩ := hx
    obtain ⟨rows, hs, hr⟩ := open_rows (d := y.1) (ps := y.2) (Q := fun cs => ∃ x, cs = en x ∧ Q x) ht he.size (fun m cs y hy => he.reads m cs y hy) hx ⟨m, by rw [hx]; exact hy⟩
    obtain ⟨l, rfl, hq⟩ := rows_list rows fun r h => (hr r h).2
    rw [List.length_map] at hs
    exact ⟨x, l, rfl, hs, hq⟩⟩
/-- A struct's fields, each by itself. -/
theorem opens_struct {t : TypeId} {fs : Array Field} {S : Nat} (ht : P.underlying t = some (.struct fs)) (hc : P.cellsOf t = S) :
    Opens enc P w sp hd t S (fun cs => cs.length = S ∧ ∀ (i : Nat) (f : Field) (s : Nat) (R : List Value → Prop), fs[i]? = some f → Opens enc P w sp hd f.type s R → R ((cs.drop f.offset).take s)) :=
  ⟨hc, fun m cs y hy => by
    obtain ⟨xs, n, _, _, hl, hxl, hf⟩ := DataW.trod_struct ht hy
    rw [hc] at hl
    refine ⟨hl, fun i f s R hi ho => ?_⟩
    have h1 := hf i f hi
    rw [ho.size] at h1
    have hlt : i < xs.length := by
      rw [hxl]
      exact (Array.getElem?_eq_some_iff.1 hi).1
    rw [List.getElem?_eq_getElem hlt] at h1
    exact ho.reads _ _ _ h1⟩
/-- A struct, or an array, that came in as a value. -/
theorem open_agg {t : TypeId} {v : Value} {d : DataW H} {ps : List MemPlace} {r : Reach} {b0 s : Nat} {R : List Value → Prop} (hu : (∃ fs, P.underlying t = some (.struct fs)) ∨ ∃ n e, P.underlying t = some (.array n e)) (ho : Opens enc P w sp hd t s R)
    (hval : Value.okWide P w r b0 t v) (h : DataW.Trod enc P w 0 sp hd t v d ps) : ∃ cs : List Value, v = .agg cs.toArray ∧ R cs := by
  obtain ⟨fuel, h⟩ := h
  have hv : ∃ cs, v = .agg cs := by
    rcases hu with ⟨fs, ht⟩ | ⟨n, e, ht⟩
    · simp only [Value.okWide, ht] at hval
      exact ⟨_, hval.choose_spec.1⟩
    · simp only [Value.okWide, ht] at hval
      exact ⟨_, hval.choose_spec.1⟩
  obtain ⟨cs, rfl⟩ := hv
  exact ⟨cs.toList, by simp, ho.reads _ _ _ h⟩
/-- A slice that came in as a value. -/
theorem open_sl {t e : TypeId} {v : Value} {d : DataW H} {ps : List MemPlace} {r : Reach} {b0 s : Nat} {R : List Value → Prop} (ht : P.underlying t = some (.slice e)) (ho : Opens enc P w sp hd t s R)
    (hval : Value.okWide P w r b0 t v) (h : DataW.Trod enc P w 0 sp hd t v d ps) : R [v] := by
  obtain ⟨fuel, h⟩ := h
  rw [slice_cells ht hval] at h
  exact ho.reads _ _ _ h
end
end Go.Vc
end
section
set_option linter.unusedSimpArgs false
namespace Go.Proofs.Ytmfcnooleejgmaa
open Go.Vc Go.Key Go.RowKit Go.ChangeShapes Go.Vlt
set_option maxRecDepth 100000
abbrev I64 (n : Int) : Prop := -9223372036854775808 ≤ n ∧ n ≤ 9223372036854775807
/-- An act, and where its bytes lie. -/
structure ActD where
  kind : Int
  n : Int
  a : ByteArray
  z : ByteArray
  bv : Value
  b : List UInt8
def acC (x : ActD) : List Value := [.int .i64 x.kind, .int .i64 x.n, .string x.a, .string x.z, x.bv]
structure ActD.Ok (w : World) (x : ActD) : Prop where
  sl : Sl w x.bv (x.b.map u8v)
  kind : I64 x.kind
  n : I64 x.n
  a : x.a.size ≤ 9223372036854775807
  z : x.z.size ≤ 9223372036854775807
theorem ActD.Ok.later {w w' : World} {x : ActD} (h : x.Ok w) (hl : Later w w') : x.Ok w' := ⟨h.sl.later hl, h.kind, h.n, h.a, h.z⟩
section
variable {H : Type} {enc : TypeId × Value → H} {w : World} {sp : Nat → Bool} {hd : Bool}
theorem o_int : Opens enc Try.prog w sp hd 3 1 (fun cs => ∃ n : Int, cs = [.int .i64 n] ∧ I64 n) := opens_i64 Try.underlying3 (by kernel_rfl)
theorem o_str : Opens enc Try.prog w sp hd 9 1 (fun cs => ∃ s : ByteArray, cs = [.string s] ∧ s.size ≤ 9223372036854775807) := opens_string Try.underlying9 (by kernel_rfl)
theorem o_bytes : Opens enc Try.prog w sp hd 22 1 (fun cs => ∃ (v : Value) (l : List UInt8), cs = [v] ∧ Sl w v (l.map u8v)) :=
  ⟨by kernel_rfl, fun m cs y hy => by
    have hx : ∃ x : Value, cs = [x] ∧ x.cells.toList = [x] := by
      rcases DataW.trod_slice Try.underlying22 hy with ⟨h0, _⟩ | ⟨a, len, cap, elems, rest, n, _, hv, _⟩
      · exact ⟨_, h0, rfl⟩
      · exact ⟨_, hv, rfl⟩
    obtain ⟨x, rfl, hx⟩ := hx
    obtain ⟨l, hl⟩ := u8s_of Try.underlying22 Try.underlying5 (by kernel_rfl) hx (d := y.1) (ps := y.2) ⟨m, by rw [hx]; exact hy⟩
    exact ⟨x, l, rfl, hl⟩⟩
theorem o_act : Opens enc Try.prog w sp hd 37 5 (fun cs => ∃ x : ActD, cs = acC x ∧ x.Ok w) :=
  (opens_struct Try.underlying37 (by kernel_rfl)).mono fun cs ⟨hl, hf⟩ => by
    match cs, hl with
    | [c0, c1, c2, c3, c4], _ =>
      obtain ⟨k, hk, wk⟩ := hf 0 _ 1 _ rfl o_int
      obtain ⟨n, hn, wn⟩ := hf 1 _ 1 _ rfl o_int
      obtain ⟨a, ha, wa⟩ := hf 2 _ 1 _ rfl o_str
      obtain ⟨z, hz, wz⟩ := hf 3 _ 1 _ rfl o_str
      obtain ⟨v, b, hb, wb⟩ := hf 4 _ 1 _ rfl o_bytes
      obtain rfl : c0 = _ := (List.cons.inj hk).1
      obtain rfl : c1 = _ := (List.cons.inj hn).1
      obtain rfl : c2 = _ := (List.cons.inj ha).1
      obtain rfl : c3 = _ := (List.cons.inj hz).1
      obtain rfl : c4 = _ := (List.cons.inj hb).1
      exact ⟨⟨k, n, a, z, c4, b⟩, rfl, wb, wk, wn, wa, wz⟩
variable {v : Value} {d : DataW H} {ps : List MemPlace} {r : Reach} {b0 : Nat}
theorem open_act (hval : Value.okWide Try.prog w r b0 37 v) (h : DataW.Trod enc Try.prog w 0 sp hd 37 v d ps) : ∃ x : ActD, v = .agg (acC x).toArray ∧ x.Ok w := by
  obtain ⟨cs, rfl, x, rfl, hx⟩ := open_agg (.inl ⟨_, Try.underlying37⟩) o_act hval h
  exact ⟨x, rfl, hx⟩
theorem open_acts (hval : Value.okWide Try.prog w r b0 35 v) (h : DataW.Trod enc Try.prog w 0 sp hd 35 v d ps) : ∃ l : List ActD, RecS acC 5 w v l ∧ ∀ x ∈ l, x.Ok w := by
  obtain ⟨u, l, hu, h1, h2⟩ := open_sl Try.underlying35 (opens_slice (en := acC) (Q := fun x => x.Ok w) Try.underlying35 (by kernel_rfl) o_act) hval h
  obtain rfl : v = u := (List.cons.inj hu).1
  exact ⟨l, h1, h2⟩
end
/-- Is an act one that is gone through? -/
def fitB (x : ActD) : Bool := decide (x.a.size ≤ 200) && decide (x.z.size ≤ 200) && decide (x.b.length ≤ 200)
theorem fits_c (x : ActD) (w : World) (h : x.Ok w) : FnC Try.prog 16 #[.agg (acC x).toArray] w fun v w' => v = .bool (fitB x) ∧ Later w w' := by
  obtain ⟨kind, n, a, z, bv, b⟩ := x
  have hsl : Sl w bv (b.map u8v) := h.sl
  obtain ⟨bo, bc, hbv⟩ := hsl.slice
  rw [List.length_map] at hbv
  clear h hsl
  subst hbv
  unfold acC fitB
  dsimp only
  refine enter16 _ ?_
  unfold B16
  have eca : (Value.agg #[.int .i64 kind, .int .i64 n, .string a, .string z, .slice bo b.length bc]).cells = #[.int .i64 kind, .int .i64 n, .string a, .string z, .slice bo b.length bc] := rfl
  repeat' (first | (simp (disch := omega) only [push_cast, ↓reduceIte, zA, zG, zB, zH, zI, zC, zJ, zK, zL, zD, zE, zF, zM, zN, zO, zP, zQ, reduceCtorEq, not_true_eq_false, not_false_eq_true, eca]) | (first | refine vIfE_of ?_ ?_ | refine vIfD_of ?_ ?_ | refine vIfQ_of ?_ ?_ | refine vIfV_of ?_ ?_) <;> intro _ | refine And.intro (by omega) ?_ | fail)
  have l1 := later_alloc w (.cells #[.int .i64 kind, .int .i64 n, .string a, .string z, .slice bo b.length bc] 37)
  have B1 := Blk.new w #[.int .i64 kind, .int .i64 n, .string a, .string z, .slice bo b.length bc] 37
  have f2 := B1.cell 2
  have f3 := B1.cell 3
  have f4 := B1.cell 4
  have g2 : (w.alloc (.cells #[.int .i64 kind, .int .i64 n, .string a, .string z, .slice bo b.length bc] 37)).cell? ⟨w.heap.size, 2, none⟩ = some (.string a) := f2
  have g3 : (w.alloc (.cells #[.int .i64 kind, .int .i64 n, .string a, .string z, .slice bo b.length bc] 37)).cell? ⟨w.heap.size, 3, none⟩ = some (.string z) := f3
  have g4 : (w.alloc (.cells #[.int .i64 kind, .int .i64 n, .string a, .string z, .slice bo b.length bc] 37)).cell? ⟨w.heap.size, 4, none⟩ = some (.slice bo b.length bc) := f4
  clear f2 f3 f4 eca
  generalize w.alloc (.cells #[.int .i64 kind, .int .i64 n, .string a, .string z, .slice bo b.length bc] 37) = w1 at *
  by_cases h1 : a.size ≤ 200
  case neg =>
    have d1 : decide ((a.size : Int) ≤ 200) = false := decide_eq_false (by omega)
    rw [decide_eq_false h1]
    repeat' (first | (simp (disch := omega) only [push_cast, ↓reduceIte, zA, zG, zB, zH, zI, zC, zJ, zK, zL, zD, zE, zF, zM, zN, zO, zP, zQ, reduceCtorEq, not_true_eq_false, not_false_eq_true, g2, g3, g4, d1, addr_add_eq, Nat.zero_add]) | (first | refine vIfE_of ?_ ?_ | refine vIfD_of ?_ ?_ | refine vIfQ_of ?_ ?_ | refine vIfV_of ?_ ?_) <;> intro _ | refine And.intro (by omega) ?_ | refine drawn_q ?_ | fail)
    first | exact ⟨rfl, l1⟩ | exact l1
  have d1 : decide ((a.size : Int) ≤ 200) = true := decide_eq_true (by omega)
  rw [decide_eq_true h1]
  by_cases h2 : z.size ≤ 200
  case neg =>
    have d2 : decide ((z.size : Int) ≤ 200) = false := decide_eq_false (by omega)
    rw [decide_eq_false h2]
    repeat' (first | (simp (disch := omega) only [push_cast, ↓reduceIte, zA, zG, zB, zH, zI, zC, zJ, zK, zL, zD, zE, zF, zM, zN, zO, zP, zQ, reduceCtorEq, not_true_eq_false, not_false_eq_true, g2, g3, g4, d1, d2, addr_add_eq, Nat.zero_add]) | (first | refine vIfE_of ?_ ?_ | refine vIfD_of ?_ ?_ | refine vIfQ_of ?_ ?_ | refine vIfV_of ?_ ?_) <;> intro _ | refine And.intro (by omega) ?_ | refine drawn_q ?_ | fail)
    first | exact ⟨rfl, l1⟩ | exact l1
  have d2 : decide ((z.size : Int) ≤ 200) = true := decide_eq_true (by omega)
  rw [decide_eq_true h2]
  have d3 : decide ((b.length : Int) ≤ 200) = decide (b.length ≤ 200) := decide_eq_decide.2 (by omega)
  repeat' (first | (simp (disch := omega) only [push_cast, ↓reduceIte, zA, zG, zB, zH, zI, zC, zJ, zK, zL, zD, zE, zF, zM, zN, zO, zP, zQ, reduceCtorEq, not_true_eq_false, not_false_eq_true, g2, g3, g4, d1, d2, d3, addr_add_eq, Nat.zero_add]) | (first | refine vIfE_of ?_ ?_ | refine vIfD_of ?_ ?_ | refine vIfQ_of ?_ ?_ | refine vIfV_of ?_ ?_) <;> intro _ | refine And.intro (by omega) ?_ | refine drawn_q ?_ | fail)
  first | exact ⟨rfl, l1⟩ | exact l1
end Go.Proofs.Ytmfcnooleejgmaa
end
section
namespace Go.Proofs.Ytmfcnooleejgmaa
open Go.Vc
set_option maxRecDepth 100000
variable (Q : Post) (ds : List Deferred) (σ : Env) (w : World)
/-! 4 columbary/columbarylaw03.VaultRoom (params #[3, 35], results #[(.tmp 4)], 127 slots) -/
def W4_0 : List Nat := [4, 7, 8, 9, 10, 11, 12, 13, 14, 15, 16, 37, 38, 39, 40, 41, 42, 43, 44, 45, 46, 47, 48, 49, 50, 51, 52, 53, 54, 55, 56, 57, 58, 59, 60, 61, 62, 63, 64, 65, 66, 67, 68, 69, 70, 71, 72, 73, 74, 75, 76, 77, 78, 79, 80, 81, 82, 83, 84, 85, 86, 87, 88, 89, 90, 91, 92, 93, 94, 95, 96, 97, 98, 99, 100, 101, 102, 103, 104, 105, 106, 107, 108, 109, 110, 111, 112, 113, 114, 115, 116, 117, 118, 119, 120, 121, 122, 123, 124, 125]
@[push_cast] theorem W4_0_def : W4_0 = [4, 7, 8, 9, 10, 11, 12, 13, 14, 15, 16, 37, 38, 39, 40, 41, 42, 43, 44, 45, 46, 47, 48, 49, 50, 51, 52, 53, 54, 55, 56, 57, 58, 59, 60, 61, 62, 63, 64, 65, 66, 67, 68, 69, 70, 71, 72, 73, 74, 75, 76, 77, 78, 79, 80, 81, 82, 83, 84, 85, 86, 87, 88, 89, 90, 91, 92, 93, 94, 95, 96, 97, 98, 99, 100, 101, 102, 103, 104, 105, 106, 107, 108, 109, 110, 111, 112, 113, 114, 115, 116, 117, 118, 119, 120, 121, 122, 123, 124, 125] := mk_eq rfl
def W4_1 : List Nat := [12, 14, 15, 16, 67, 68, 69, 70, 71, 72, 73, 74, 75, 76, 77, 78, 79, 80, 81, 82, 83, 84, 85]
@[push_cast] theorem W4_1_def : W4_1 = [12, 14, 15, 16, 67, 68, 69, 70, 71, 72, 73, 74, 75, 76, 77, 78, 79, 80, 81, 82, 83, 84, 85] := mk_eq rfl
def r4_0 : List VOp :=
  [⟨some 4, .assign (.const (.bool false)), 4, none⟩]
def r4_1 : List VOp :=
  [mv 18 0 3,
   ⟨some 19, .call ⟨.value (.func 9), #[.tmp 18], #[3]⟩, 25, none⟩,
   mv 17 19 25,
   ext 20 17 0 23,
   ext 21 17 1 24,
   asg 5 20 23,
   asg 6 21 24]
def r4_2 : List VOp :=
  [mv 22 6 24,
   ⟨some 23, .binOp .neq 24 (.tmp 22) (.const (.int .i64 0)) 24, 4, none⟩,
   mv 24 23 4,
   ⟨some 25, .move (.tmp 5), 23, some (24, false)⟩,
   ⟨some 26, .binOp .eql 23 (.tmp 25) (.const (.pointer none)) 23, 4, some (24, false)⟩,
   ⟨some 27, .pick (.tmp 24) (.const (.bool true)) (.tmp 26), 4, none⟩]
def r4_3 : List VOp :=
  [⟨some 28, .call ⟨.value (.func 15), #[], #[]⟩, 4, none⟩,
   mv 29 28 4,
   ⟨some 30, .move (.tmp 0), 3, some (29, true)⟩,
   ⟨some 31, .binOp .lss 3 (.tmp 30) (.const (.int .i64 0)) 3, 4, some (29, true)⟩,
   ⟨some 32, .move (.tmp 31), 4, some (29, true)⟩,
   ⟨some 33, .move (.tmp 0), 3, some (32, false)⟩,
   ⟨some 34, .binOp .gtr 3 (.tmp 33) (.const (.int .i64 16777216)) 3, 4, some (32, false)⟩,
   ⟨some 35, .pick (.tmp 32) (.const (.bool true)) (.tmp 34), 4, some (29, true)⟩,
   ⟨some 36, .pick (.tmp 29) (.tmp 35) (.const (.bool false)), 4, none⟩,
   asg 4 36 4]
def r4_4 : List VOp :=
  [⟨some 7, .assign (.const (.int .i64 0)), 3, none⟩]
def r4_5 : List VOp :=
  [mv 37 7 3,
   mv 38 1 35,
   ⟨some 39, .call ⟨.builtin .len, #[.tmp 38], #[35]⟩, 3, none⟩,
   ⟨some 40, .binOp .lss 3 (.tmp 37) (.tmp 39) 3, 4, none⟩,
   mv 41 40 4,
   ⟨some 42, .move (.tmp 7), 3, some (41, true)⟩,
   ⟨some 43, .binOp .lss 3 (.tmp 42) (.const (.int .i64 80)) 3, 4, some (41, true)⟩,
   ⟨some 44, .pick (.tmp 41) (.tmp 43) (.const (.bool false)), 4, none⟩]
def r4_7 : List VOp :=
  [mv 47 1 35,
   mv 48 7 3,
   iad 49 35 47 48,
   lda 50 37 49,
   ⟨some 8, .alloc 37, 0, none⟩,
   ⟨none, .store 37 (.tmp 8) (.tmp 50), 0, none⟩]
def r4_8 : List VOp :=
  [lda 51 37 8,
   ⟨some 52, .call ⟨.value (.func 16), #[.tmp 51], #[37]⟩, 4, none⟩,
   asg 9 52 4]
def r4_9 : List VOp :=
  [mv 53 9 4,
   ⟨some 54, .unOp .not 4 (.tmp 53), 4, none⟩,
   mv 55 54 4,
   ⟨some 56, .fieldAddr 37 (.tmp 8) 0, 0, some (55, false)⟩,
   ⟨some 57, .load 3 (.tmp 56), 3, some (55, false)⟩,
   ⟨some 58, .binOp .gtr 3 (.tmp 57) (.const (.int .i64 4)) 3, 4, some (55, false)⟩,
   ⟨some 59, .pick (.tmp 55) (.const (.bool true)) (.tmp 58), 4, none⟩]
def r4_10 : List VOp :=
  [mv 60 5 23,
   ⟨some 61, .call ⟨.value (.func 17), #[.tmp 60], #[23]⟩, 3, none⟩,
   asg 10 61 3]
def r4_11 : List VOp :=
  [lda 62 37 8,
   mv 63 5 23,
   ⟨some 64, .call ⟨.value (.func 18), #[.tmp 62, .tmp 63], #[37, 23]⟩, 24, none⟩,
   asg 11 64 24]
def r4_12 : List VOp :=
  [⟨some 12, .assign (.const (.int .i64 0)), 3, none⟩]
def r4_13 : List VOp :=
  [mv 65 5 23,
   ⟨some 66, .call ⟨.value (.func 19), #[.tmp 65], #[23]⟩, 40, none⟩,
   asg 13 66 40]
def r4_14 : List VOp :=
  [⟨some 14, .assign (.const (.int .i64 0)), 3, none⟩]
def r4_15 : List VOp :=
  [mv 67 14 3,
   mv 68 13 40,
   ⟨some 69, .call ⟨.builtin .len, #[.tmp 68], #[40]⟩, 3, none⟩,
   ⟨some 70, .binOp .lss 3 (.tmp 67) (.tmp 69) 3, 4, none⟩]
def r4_17 : List VOp :=
  [mv 74 5 23,
   mv 75 13 40,
   mv 76 14 3,
   iad 77 40 75 76,
   lda 78 9 77,
   ⟨some 79, .call ⟨.value (.func 14), #[.tmp 74, .tmp 78], #[23, 9]⟩, 31, none⟩,
   mv 73 79 31,
   ext 80 73 0 22,
   ext 81 73 1 4,
   asg 15 80 22,
   asg 16 81 4]
def r4_18 : List VOp :=
  [mv 82 12 3,
   mv 83 15 22,
   ⟨some 84, .call ⟨.builtin .len, #[.tmp 83], #[22]⟩, 3, none⟩,
   ⟨some 85, .binOp .add 3 (.tmp 82) (.tmp 84) 3, 3, none⟩,
   asg 12 85 3]
def r4_16 : List VOp :=
  [mv 71 14 3,
   ⟨some 72, .binOp .add 3 (.tmp 71) (.const (.int .i64 1)) 3, 3, none⟩,
   asg 14 72 3]
def r4_19 : List VOp :=
  [mv 86 12 3,
   mv 87 0 3,
   ⟨some 88, .binOp .gtr 3 (.tmp 86) (.tmp 87) 3, 4, none⟩,
   mv 89 88 4,
   ⟨some 90, .move (.tmp 5), 23, some (89, false)⟩,
   ⟨some 91, .call ⟨.value (.func 17), #[.tmp 90], #[23]⟩, 3, some (89, false)⟩,
   ⟨some 92, .move (.tmp 0), 3, some (89, false)⟩,
   ⟨some 93, .move (.tmp 12), 3, some (89, false)⟩,
   ⟨some 94, .binOp .sub 3 (.tmp 92) (.tmp 93) 3, 3, some (89, false)⟩,
   ⟨some 95, .binOp .neq 3 (.tmp 91) (.tmp 94) 3, 4, some (89, false)⟩,
   ⟨some 96, .pick (.tmp 89) (.const (.bool true)) (.tmp 95), 4, none⟩,
   mv 97 96 4,
   ⟨some 98, .move (.tmp 11), 24, some (97, false)⟩,
   ⟨some 99, .binOp .neq 24 (.tmp 98) (.const (.int .i64 0)) 24, 4, some (97, false)⟩,
   ⟨some 100, .move (.tmp 99), 4, some (97, false)⟩,
   ⟨some 101, .move (.tmp 5), 23, some (100, true)⟩,
   ⟨some 102, .call ⟨.value (.func 17), #[.tmp 101], #[23]⟩, 3, some (100, true)⟩,
   ⟨some 103, .move (.tmp 10), 3, some (100, true)⟩,
   ⟨some 104, .binOp .neq 3 (.tmp 102) (.tmp 103) 3, 4, some (100, true)⟩,
   ⟨some 105, .pick (.tmp 100) (.tmp 104) (.const (.bool false)), 4, some (97, false)⟩,
   ⟨some 106, .pick (.tmp 97) (.const (.bool true)) (.tmp 105), 4, none⟩,
   mv 107 106 4,
   ⟨some 108, .fieldAddr 37 (.tmp 8) 0, 0, some (107, false)⟩,
   ⟨some 109, .load 3 (.tmp 108), 3, some (107, false)⟩,
   ⟨some 110, .binOp .eql 3 (.tmp 109) (.const (.int .i64 1)) 3, 4, some (107, false)⟩,
   ⟨some 111, .move (.tmp 110), 4, some (107, false)⟩,
   ⟨some 112, .move (.tmp 11), 24, some (111, true)⟩,
   ⟨some 113, .binOp .eql 24 (.tmp 112) (.const (.int .i64 0)) 24, 4, some (111, true)⟩,
   ⟨some 114, .pick (.tmp 111) (.tmp 113) (.const (.bool false)), 4, some (107, false)⟩,
   ⟨some 115, .move (.tmp 114), 4, some (107, false)⟩,
   ⟨some 116, .move (.tmp 5), 23, some (115, true)⟩,
   ⟨some 117, .call ⟨.value (.func 17), #[.tmp 116], #[23]⟩, 3, some (115, true)⟩,
   ⟨some 118, .move (.tmp 10), 3, some (115, true)⟩,
   ⟨some 119, .fieldAddr 37 (.tmp 8) 4, 0, some (115, true)⟩,
   ⟨some 120, .load 22 (.tmp 119), 22, some (115, true)⟩,
   ⟨some 121, .call ⟨.builtin .len, #[.tmp 120], #[22]⟩, 3, some (115, true)⟩,
   ⟨some 122, .binOp .sub 3 (.tmp 118) (.tmp 121) 3, 3, some (115, true)⟩,
   ⟨some 123, .binOp .neq 3 (.tmp 117) (.tmp 122) 3, 4, some (115, true)⟩,
   ⟨some 124, .pick (.tmp 115) (.tmp 123) (.const (.bool false)), 4, some (107, false)⟩,
   ⟨some 125, .pick (.tmp 107) (.const (.bool true)) (.tmp 124), 4, none⟩]
def r4_20 : List VOp :=
  [⟨some 4, .assign (.const (.bool false)), 4, none⟩]
def r4_6 : List VOp :=
  [mv 45 7 3,
   ⟨some 46, .binOp .add 3 (.tmp 45) (.const (.int .i64 1)) 3, 3, none⟩,
   asg 7 46 3]
def r4_21 : List VOp :=
  [⟨some 126, .call ⟨.value (.func 15), #[], #[]⟩, 4, none⟩,
   asg 4 126 4]
def B4 : VC :=
  (.seq (.region r4_0) (.seq (.region r4_1) (.seq (.seq (.region r4_2) (.cond (.tmp 27) (.seq (.region r4_3) .ret) .skip)) (.seq (.seq (.region r4_4) (.block 0 (.loop (.seq (.seq (.region r4_5) (.cond (.tmp 44) .skip (.exit 0))) (.seq (.block 1 (.seq (.region r4_7) (.seq (.region r4_8) (.seq (.seq (.region r4_9) (.cond (.tmp 59) (.exit 1) .skip)) (.seq (.region r4_10) (.seq (.region r4_11) (.seq (.region r4_12) (.seq (.region r4_13) (.seq (.seq (.region r4_14) (.block 2 (.loop (.seq (.seq (.region r4_15) (.cond (.tmp 70) .skip (.exit 2))) (.seq (.block 3 (.seq (.region r4_17) (.region r4_18))) (.region r4_16)))))) (.seq (.draw r4_19 4) (.cond (.tmp 125) (.seq (.region r4_20) .ret) .skip))))))))))) (.region r4_6)))))) (.seq (.region r4_21) .ret)))))
theorem code4 : ∃ c, Try.f4.body = some c ∧ abs Try.f4.ntmps c = B4 := ⟨_, rfl, by kernel_rfl⟩
theorem hb4 : HasBody Try.prog 4 := hasBody_of Try.func4 (by kernel_rfl)
theorem res4 : Try.f4.results = #[(.tmp 4)] := rfl
theorem enter4 {w : World} {R : Value → World → Prop} (x0 x1 : Value) (h : vc Try.prog B4 (retK Try.prog #[(.tmp 4)] R) [] (initEnv [x0, x1] 0) w) : FnC Try.prog 4 #[x0, x1] w R := by
  obtain ⟨c, h1, h2⟩ := code4
  exact hb4.fn (ret_of_vc mixed Try.func4 h1 (Nat.le_of_ble_eq_true rfl) B4 h2 h)
@[push_cast] theorem vr4_0 : VR r4_0 [⟨some 4, .assign (.const (.bool false)), 4, none⟩] := vR rfl
@[push_cast] theorem vr4_1 : VR r4_1 [⟨some 18, .move (.tmp 0), 3, none⟩, ⟨some 19, .call ⟨.value (.func 9), #[.tmp 18], #[3]⟩, 25, none⟩, ⟨some 17, .move (.tmp 19), 25, none⟩, ⟨some 20, .extract (.tmp 17) 0, 23, none⟩, ⟨some 21, .extract (.tmp 17) 1, 24, none⟩, ⟨some 5, .assign (.tmp 20), 23, none⟩, ⟨some 6, .assign (.tmp 21), 24, none⟩] := vR rfl
@[push_cast] theorem vr4_2 : VR r4_2 [⟨some 22, .move (.tmp 6), 24, none⟩, ⟨some 23, .binOp .neq 24 (.tmp 22) (.const (.int .i64 0)) 24, 4, none⟩, ⟨some 24, .move (.tmp 23), 4, none⟩, ⟨some 25, .move (.tmp 5), 23, some (24, false)⟩, ⟨some 26, .binOp .eql 23 (.tmp 25) (.const (.pointer none)) 23, 4, some (24, false)⟩, ⟨some 27, .pick (.tmp 24) (.const (.bool true)) (.tmp 26), 4, none⟩] := vR rfl
@[push_cast] theorem vr4_3 : VR r4_3 [⟨some 28, .call ⟨.value (.func 15), #[], #[]⟩, 4, none⟩, ⟨some 29, .move (.tmp 28), 4, none⟩, ⟨some 30, .move (.tmp 0), 3, some (29, true)⟩, ⟨some 31, .binOp .lss 3 (.tmp 30) (.const (.int .i64 0)) 3, 4, some (29, true)⟩, ⟨some 32, .move (.tmp 31), 4, some (29, true)⟩, ⟨some 33, .move (.tmp 0), 3, some (32, false)⟩, ⟨some 34, .binOp .gtr 3 (.tmp 33) (.const (.int .i64 16777216)) 3, 4, some (32, false)⟩, ⟨some 35, .pick (.tmp 32) (.const (.bool true)) (.tmp 34), 4, some (29, true)⟩, ⟨some 36, .pick (.tmp 29) (.tmp 35) (.const (.bool false)), 4, none⟩, ⟨some 4, .assign (.tmp 36), 4, none⟩] := vR rfl
@[push_cast] theorem vr4_4 : VR r4_4 [⟨some 7, .assign (.const (.int .i64 0)), 3, none⟩] := vR rfl
@[push_cast] theorem vr4_5 : VR r4_5 [⟨some 37, .move (.tmp 7), 3, none⟩, ⟨some 38, .move (.tmp 1), 35, none⟩, ⟨some 39, .call ⟨.builtin .len, #[.tmp 38], #[35]⟩, 3, none⟩, ⟨some 40, .binOp .lss 3 (.tmp 37) (.tmp 39) 3, 4, none⟩, ⟨some 41, .move (.tmp 40), 4, none⟩, ⟨some 42, .move (.tmp 7), 3, some (41, true)⟩, ⟨some 43, .binOp .lss 3 (.tmp 42) (.const (.int .i64 80)) 3, 4, some (41, true)⟩, ⟨some 44, .pick (.tmp 41) (.tmp 43) (.const (.bool false)), 4, none⟩] := vR rfl
@[push_cast] theorem vr4_7 : VR r4_7 [⟨some 47, .move (.tmp 1), 35, none⟩, ⟨some 48, .move (.tmp 7), 3, none⟩, ⟨some 49, .indexAddr 35 (.tmp 47) (.tmp 48), 0, none⟩, ⟨some 50, .load 37 (.tmp 49), 37, none⟩, ⟨some 8, .alloc 37, 0, none⟩, ⟨none, .store 37 (.tmp 8) (.tmp 50), 0, none⟩] := vR rfl
@[push_cast] theorem vr4_8 : VR r4_8 [⟨some 51, .load 37 (.tmp 8), 37, none⟩, ⟨some 52, .call ⟨.value (.func 16), #[.tmp 51], #[37]⟩, 4, none⟩, ⟨some 9, .assign (.tmp 52), 4, none⟩] := vR rfl
@[push_cast] theorem vr4_9 : VR r4_9 [⟨some 53, .move (.tmp 9), 4, none⟩, ⟨some 54, .unOp .not 4 (.tmp 53), 4, none⟩, ⟨some 55, .move (.tmp 54), 4, none⟩, ⟨some 56, .fieldAddr 37 (.tmp 8) 0, 0, some (55, false)⟩, ⟨some 57, .load 3 (.tmp 56), 3, some (55, false)⟩, ⟨some 58, .binOp .gtr 3 (.tmp 57) (.const (.int .i64 4)) 3, 4, some (55, false)⟩, ⟨some 59, .pick (.tmp 55) (.const (.bool true)) (.tmp 58), 4, none⟩] := vR rfl
@[push_cast] theorem vr4_10 : VR r4_10 [⟨some 60, .move (.tmp 5), 23, none⟩, ⟨some 61, .call ⟨.value (.func 17), #[.tmp 60], #[23]⟩, 3, none⟩, ⟨some 10, .assign (.tmp 61), 3, none⟩] := vR rfl
@[push_cast] theorem vr4_11 : VR r4_11 [⟨some 62, .load 37 (.tmp 8), 37, none⟩, ⟨some 63, .move (.tmp 5), 23, none⟩, ⟨some 64, .call ⟨.value (.func 18), #[.tmp 62, .tmp 63], #[37, 23]⟩, 24, none⟩, ⟨some 11, .assign (.tmp 64), 24, none⟩] := vR rfl
@[push_cast] theorem vr4_12 : VR r4_12 [⟨some 12, .assign (.const (.int .i64 0)), 3, none⟩] := vR rfl
@[push_cast] theorem vr4_13 : VR r4_13 [⟨some 65, .move (.tmp 5), 23, none⟩, ⟨some 66, .call ⟨.value (.func 19), #[.tmp 65], #[23]⟩, 40, none⟩, ⟨some 13, .assign (.tmp 66), 40, none⟩] := vR rfl
@[push_cast] theorem vr4_14 : VR r4_14 [⟨some 14, .assign (.const (.int .i64 0)), 3, none⟩] := vR rfl
@[push_cast] theorem vr4_15 : VR r4_15 [⟨some 67, .move (.tmp 14), 3, none⟩, ⟨some 68, .move (.tmp 13), 40, none⟩, ⟨some 69, .call ⟨.builtin .len, #[.tmp 68], #[40]⟩, 3, none⟩, ⟨some 70, .binOp .lss 3 (.tmp 67) (.tmp 69) 3, 4, none⟩] := vR rfl
@[push_cast] theorem vr4_17 : VR r4_17 [⟨some 74, .move (.tmp 5), 23, none⟩, ⟨some 75, .move (.tmp 13), 40, none⟩, ⟨some 76, .move (.tmp 14), 3, none⟩, ⟨some 77, .indexAddr 40 (.tmp 75) (.tmp 76), 0, none⟩, ⟨some 78, .load 9 (.tmp 77), 9, none⟩, ⟨some 79, .call ⟨.value (.func 14), #[.tmp 74, .tmp 78], #[23, 9]⟩, 31, none⟩, ⟨some 73, .move (.tmp 79), 31, none⟩, ⟨some 80, .extract (.tmp 73) 0, 22, none⟩, ⟨some 81, .extract (.tmp 73) 1, 4, none⟩, ⟨some 15, .assign (.tmp 80), 22, none⟩, ⟨some 16, .assign (.tmp 81), 4, none⟩] := vR rfl
@[push_cast] theorem vr4_18 : VR r4_18 [⟨some 82, .move (.tmp 12), 3, none⟩, ⟨some 83, .move (.tmp 15), 22, none⟩, ⟨some 84, .call ⟨.builtin .len, #[.tmp 83], #[22]⟩, 3, none⟩, ⟨some 85, .binOp .add 3 (.tmp 82) (.tmp 84) 3, 3, none⟩, ⟨some 12, .assign (.tmp 85), 3, none⟩] := vR rfl
@[push_cast] theorem vr4_16 : VR r4_16 [⟨some 71, .move (.tmp 14), 3, none⟩, ⟨some 72, .binOp .add 3 (.tmp 71) (.const (.int .i64 1)) 3, 3, none⟩, ⟨some 14, .assign (.tmp 72), 3, none⟩] := vR rfl
@[push_cast] theorem vr4_19 : vc Try.prog (.draw r4_19 4) Q ds σ w = drawn Try.prog [(⟨some 86, .move (.tmp 12), 3, none⟩, [12]), (⟨some 87, .move (.tmp 0), 3, none⟩, [0]), (⟨some 88, .binOp .gtr 3 (.tmp 86) (.tmp 87) 3, 4, none⟩, [86, 87]), (⟨some 89, .move (.tmp 88), 4, none⟩, [88]), (⟨some 90, .move (.tmp 5), 23, some (89, false)⟩, [5, 89]), (⟨some 91, .call ⟨.value (.func 17), #[.tmp 90], #[23]⟩, 3, some (89, false)⟩, [90, 89]), (⟨some 92, .move (.tmp 0), 3, some (89, false)⟩, [0, 89]), (⟨some 93, .move (.tmp 12), 3, some (89, false)⟩, [12, 89]), (⟨some 94, .binOp .sub 3 (.tmp 92) (.tmp 93) 3, 3, some (89, false)⟩, [92, 93, 89]), (⟨some 95, .binOp .neq 3 (.tmp 91) (.tmp 94) 3, 4, some (89, false)⟩, [91, 94, 89]), (⟨some 96, .pick (.tmp 89) (.const (.bool true)) (.tmp 95), 4, none⟩, [89, 95]), (⟨some 97, .move (.tmp 96), 4, none⟩, [96]), (⟨some 98, .move (.tmp 11), 24, some (97, false)⟩, [11, 97]), (⟨some 99, .binOp .neq 24 (.tmp 98) (.const (.int .i64 0)) 24, 4, some (97, false)⟩, [98, 97]), (⟨some 100, .move (.tmp 99), 4, some (97, false)⟩, [99, 97]), (⟨some 101, .move (.tmp 5), 23, some (100, true)⟩, [5, 100]), (⟨some 102, .call ⟨.value (.func 17), #[.tmp 101], #[23]⟩, 3, some (100, true)⟩, [101, 100]), (⟨some 103, .move (.tmp 10), 3, some (100, true)⟩, [10, 100]), (⟨some 104, .binOp .neq 3 (.tmp 102) (.tmp 103) 3, 4, some (100, true)⟩, [102, 103, 100]), (⟨some 105, .pick (.tmp 100) (.tmp 104) (.const (.bool false)), 4, some (97, false)⟩, [100, 104, 97]), (⟨some 106, .pick (.tmp 97) (.const (.bool true)) (.tmp 105), 4, none⟩, [97, 105]), (⟨some 107, .move (.tmp 106), 4, none⟩, [106]), (⟨some 108, .fieldAddr 37 (.tmp 8) 0, 0, some (107, false)⟩, [8, 107]), (⟨some 109, .load 3 (.tmp 108), 3, some (107, false)⟩, [108, 107]), (⟨some 110, .binOp .eql 3 (.tmp 109) (.const (.int .i64 1)) 3, 4, some (107, false)⟩, [109, 107]), (⟨some 111, .move (.tmp 110), 4, some (107, false)⟩, [110, 107]), (⟨some 112, .move (.tmp 11), 24, some (111, true)⟩, [11, 111]), (⟨some 113, .binOp .eql 24 (.tmp 112) (.const (.int .i64 0)) 24, 4, some (111, true)⟩, [112, 111]), (⟨some 114, .pick (.tmp 111) (.tmp 113) (.const (.bool false)), 4, some (107, false)⟩, [111, 113, 107]), (⟨some 115, .move (.tmp 114), 4, some (107, false)⟩, [114, 107]), (⟨some 116, .move (.tmp 5), 23, some (115, true)⟩, [5, 115]), (⟨some 117, .call ⟨.value (.func 17), #[.tmp 116], #[23]⟩, 3, some (115, true)⟩, [116, 115]), (⟨some 118, .move (.tmp 10), 3, some (115, true)⟩, [10, 115]), (⟨some 119, .fieldAddr 37 (.tmp 8) 4, 0, some (115, true)⟩, [8, 115]), (⟨some 120, .load 22 (.tmp 119), 22, some (115, true)⟩, [119, 115]), (⟨some 121, .call ⟨.builtin .len, #[.tmp 120], #[22]⟩, 3, some (115, true)⟩, [120, 115]), (⟨some 122, .binOp .sub 3 (.tmp 118) (.tmp 121) 3, 3, some (115, true)⟩, [118, 121, 115]), (⟨some 123, .binOp .neq 3 (.tmp 117) (.tmp 122) 3, 4, some (115, true)⟩, [117, 122, 115]), (⟨some 124, .pick (.tmp 115) (.tmp 123) (.const (.bool false)), 4, some (107, false)⟩, [115, 123, 107]), (⟨some 125, .pick (.tmp 107) (.const (.bool true)) (.tmp 124), 4, none⟩, [107, 124])] 4 (Q .normal ds) σ w := mk_eq rfl
@[push_cast] theorem vr4_20 : VR r4_20 [⟨some 4, .assign (.const (.bool false)), 4, none⟩] := vR rfl
@[push_cast] theorem vr4_6 : VR r4_6 [⟨some 45, .move (.tmp 7), 3, none⟩, ⟨some 46, .binOp .add 3 (.tmp 45) (.const (.int .i64 1)) 3, 3, none⟩, ⟨some 7, .assign (.tmp 46), 3, none⟩] := vR rfl
@[push_cast] theorem vr4_21 : VR r4_21 [⟨some 126, .call ⟨.value (.func 15), #[], #[]⟩, 4, none⟩, ⟨some 4, .assign (.tmp 126), 4, none⟩] := vR rfl
/-! 6 columbary/columbarylaw03.VaultBurnt (params #[3, 35], results #[(.tmp 4)], 157 slots) -/
def W6_0 : List Nat := [4, 9, 10, 11, 12, 13, 14, 62, 63, 64, 65, 66, 67, 68, 69, 70, 71, 72, 73, 74, 75, 76, 77, 78, 79, 80, 81, 82, 83, 84, 85, 86, 87, 88, 89, 90, 91, 92, 93, 94, 95, 96, 97, 98, 99, 100, 101, 102, 103, 104, 105, 106, 107, 108, 109, 110, 111, 112, 113, 114, 115, 116, 117, 118, 119]
@[push_cast] theorem W6_0_def : W6_0 = [4, 9, 10, 11, 12, 13, 14, 62, 63, 64, 65, 66, 67, 68, 69, 70, 71, 72, 73, 74, 75, 76, 77, 78, 79, 80, 81, 82, 83, 84, 85, 86, 87, 88, 89, 90, 91, 92, 93, 94, 95, 96, 97, 98, 99, 100, 101, 102, 103, 104, 105, 106, 107, 108, 109, 110, 111, 112, 113, 114, 115, 116, 117, 118, 119] := mk_eq rfl
def W6_1 : List Nat := [4, 16, 17, 18, 19, 20, 127, 128, 129, 130, 131, 132, 133, 134, 135, 136, 137, 138, 139, 140, 141, 142, 143, 144, 145, 146, 147, 148, 149, 150, 151, 152, 153, 154, 155]
@[push_cast] theorem W6_1_def : W6_1 = [4, 16, 17, 18, 19, 20, 127, 128, 129, 130, 131, 132, 133, 134, 135, 136, 137, 138, 139, 140, 141, 142, 143, 144, 145, 146, 147, 148, 149, 150, 151, 152, 153, 154, 155] := mk_eq rfl
def r6_0 : List VOp :=
  [⟨some 4, .assign (.const (.bool false)), 4, none⟩]
def r6_1 : List VOp :=
  [⟨some 22, .call ⟨.value (.func 9), #[(.const (.int .i64 5000))], #[3]⟩, 25, none⟩,
   mv 21 22 25,
   ext 23 21 0 23,
   ext 24 21 1 24,
   asg 5 23 23,
   asg 6 24 24]
def r6_2 : List VOp :=
  [⟨some 26, .call ⟨.value (.func 9), #[(.const (.int .i64 5000))], #[3]⟩, 25, none⟩,
   mv 25 26 25,
   ext 27 25 0 23,
   ext 28 25 1 24,
   asg 7 27 23,
   asg 8 28 24]
def r6_3 : List VOp :=
  [mv 29 6 24,
   ⟨some 30, .binOp .neq 24 (.tmp 29) (.const (.int .i64 0)) 24, 4, none⟩,
   mv 31 30 4,
   ⟨some 32, .move (.tmp 8), 24, some (31, false)⟩,
   ⟨some 33, .binOp .neq 24 (.tmp 32) (.const (.int .i64 0)) 24, 4, some (31, false)⟩,
   ⟨some 34, .pick (.tmp 31) (.const (.bool true)) (.tmp 33), 4, none⟩,
   mv 35 34 4,
   ⟨some 36, .move (.tmp 5), 23, some (35, false)⟩,
   ⟨some 37, .binOp .eql 23 (.tmp 36) (.const (.pointer none)) 23, 4, some (35, false)⟩,
   ⟨some 38, .pick (.tmp 35) (.const (.bool true)) (.tmp 37), 4, none⟩,
   mv 39 38 4,
   ⟨some 40, .move (.tmp 7), 23, some (39, false)⟩,
   ⟨some 41, .binOp .eql 23 (.tmp 40) (.const (.pointer none)) 23, 4, some (39, false)⟩,
   ⟨some 42, .pick (.tmp 39) (.const (.bool true)) (.tmp 41), 4, none⟩]
def r6_4 : List VOp :=
  [⟨some 4, .assign (.const (.bool false)), 4, none⟩]
def r6_5 : List VOp :=
  [mv 43 0 3,
   ⟨some 44, .binOp .lss 3 (.tmp 43) (.const (.int .i64 1)) 3, 4, none⟩,
   mv 45 44 4,
   ⟨some 46, .move (.tmp 0), 3, some (45, false)⟩,
   ⟨some 47, .binOp .gtr 3 (.tmp 46) (.const (.int .i64 80)) 3, 4, some (45, false)⟩,
   ⟨some 48, .pick (.tmp 45) (.const (.bool true)) (.tmp 47), 4, none⟩]
def r6_6 : List VOp :=
  [⟨some 49, .call ⟨.value (.func 15), #[], #[]⟩, 4, none⟩,
   mv 50 49 4,
   ⟨some 51, .move (.tmp 5), 23, some (50, true)⟩,
   ⟨some 52, .move (.tmp 0), 3, some (50, true)⟩,
   ⟨some 53, .call ⟨.value (.func 27), #[.tmp 51, .tmp 52], #[23, 3]⟩, 24, some (50, true)⟩,
   ⟨some 54, .binOp .eql 24 (.tmp 53) (.const (.int .i64 0)) 24, 4, some (50, true)⟩,
   ⟨some 55, .move (.tmp 0), 3, some (50, true)⟩,
   ⟨some 56, .binOp .geq 3 (.tmp 55) (.const (.int .i64 0)) 3, 4, some (50, true)⟩,
   ⟨some 57, .binOp .eql 4 (.tmp 54) (.tmp 56) 4, 4, some (50, true)⟩,
   ⟨some 58, .pick (.tmp 50) (.tmp 57) (.const (.bool false)), 4, none⟩,
   asg 4 58 4]
def r6_7 : List VOp :=
  [mv 59 5 23,
   mv 60 0 3,
   ⟨some 61, .call ⟨.value (.func 27), #[.tmp 59, .tmp 60], #[23, 3]⟩, 24, none⟩]
def r6_8 : List VOp :=
  [⟨some 9, .assign (.const (.int .i64 0)), 3, none⟩]
def r6_9 : List VOp :=
  [⟨some 10, .assign (.const (.int .i64 0)), 3, none⟩]
def r6_10 : List VOp :=
  [mv 62 10 3,
   mv 63 1 35,
   ⟨some 64, .call ⟨.builtin .len, #[.tmp 63], #[35]⟩, 3, none⟩,
   ⟨some 65, .binOp .lss 3 (.tmp 62) (.tmp 64) 3, 4, none⟩,
   mv 66 65 4,
   ⟨some 67, .move (.tmp 10), 3, some (66, true)⟩,
   ⟨some 68, .binOp .lss 3 (.tmp 67) (.const (.int .i64 80)) 3, 4, some (66, true)⟩,
   ⟨some 69, .pick (.tmp 66) (.tmp 68) (.const (.bool false)), 4, none⟩]
def r6_12 : List VOp :=
  [mv 72 1 35,
   mv 73 10 3,
   iad 74 35 72 73,
   lda 75 37 74,
   ⟨some 11, .alloc 37, 0, none⟩,
   ⟨none, .store 37 (.tmp 11) (.tmp 75), 0, none⟩]
def r6_13 : List VOp :=
  [lda 76 37 11,
   ⟨some 77, .call ⟨.value (.func 16), #[.tmp 76], #[37]⟩, 4, none⟩,
   asg 12 77 4]
def r6_14 : List VOp :=
  [mv 78 12 4,
   ⟨some 79, .unOp .not 4 (.tmp 78), 4, none⟩,
   mv 80 79 4,
   ⟨some 81, .fieldAddr 37 (.tmp 11) 0, 0, some (80, false)⟩,
   ⟨some 82, .load 3 (.tmp 81), 3, some (80, false)⟩,
   ⟨some 83, .binOp .lss 3 (.tmp 82) (.const (.int .i64 1)) 3, 4, some (80, false)⟩,
   ⟨some 84, .pick (.tmp 80) (.const (.bool true)) (.tmp 83), 4, none⟩,
   mv 85 84 4,
   ⟨some 86, .fieldAddr 37 (.tmp 11) 0, 0, some (85, false)⟩,
   ⟨some 87, .load 3 (.tmp 86), 3, some (85, false)⟩,
   ⟨some 88, .binOp .gtr 3 (.tmp 87) (.const (.int .i64 4)) 3, 4, some (85, false)⟩,
   ⟨some 89, .pick (.tmp 85) (.const (.bool true)) (.tmp 88), 4, none⟩]
def r6_15 : List VOp :=
  [mv 90 7 23,
   ⟨some 91, .call ⟨.value (.func 23), #[.tmp 90], #[23]⟩, 23, none⟩,
   asg 13 91 23]
def r6_16 : List VOp :=
  [lda 92 37 11,
   mv 93 13 23,
   ⟨some 94, .call ⟨.value (.func 18), #[.tmp 92, .tmp 93], #[37, 23]⟩, 24, none⟩,
   ⟨some 95, .binOp .eql 24 (.tmp 94) (.const (.int .i64 31)) 24, 4, none⟩]
def r6_17 : List VOp :=
  [mv 96 9 3,
   ⟨some 97, .binOp .add 3 (.tmp 96) (.const (.int .i64 1)) 3, 3, none⟩,
   asg 9 97 3]
def r6_18 : List VOp :=
  [lda 98 37 11,
   mv 99 5 23,
   ⟨some 100, .call ⟨.value (.func 18), #[.tmp 98, .tmp 99], #[37, 23]⟩, 24, none⟩,
   asg 14 100 24]
def r6_19 : List VOp :=
  [mv 101 9 3,
   mv 102 0 3,
   ⟨some 103, .binOp .geq 3 (.tmp 101) (.tmp 102) 3, 4, none⟩]
def r6_20 : List VOp :=
  [mv 104 14 24,
   ⟨some 105, .binOp .neq 24 (.tmp 104) (.const (.int .i64 272)) 24, 4, none⟩,
   mv 106 105 4,
   ⟨some 107, .move (.tmp 5), 23, some (106, false)⟩,
   ⟨some 108, .call ⟨.value (.func 28), #[.tmp 107], #[23]⟩, 4, some (106, false)⟩,
   ⟨some 109, .unOp .not 4 (.tmp 108), 4, some (106, false)⟩,
   ⟨some 110, .pick (.tmp 106) (.const (.bool true)) (.tmp 109), 4, none⟩]
def r6_21 : List VOp :=
  [⟨some 4, .assign (.const (.bool false)), 4, none⟩]
def r6_22 : List VOp :=
  [mv 111 14 24,
   lda 112 37 11,
   mv 113 7 23,
   ⟨some 114, .call ⟨.value (.func 18), #[.tmp 112, .tmp 113], #[37, 23]⟩, 24, none⟩,
   ⟨some 115, .binOp .neq 24 (.tmp 111) (.tmp 114) 24, 4, none⟩,
   mv 116 115 4,
   ⟨some 117, .move (.tmp 5), 23, some (116, false)⟩,
   ⟨some 118, .call ⟨.value (.func 28), #[.tmp 117], #[23]⟩, 4, some (116, false)⟩,
   ⟨some 119, .pick (.tmp 116) (.const (.bool true)) (.tmp 118), 4, none⟩]
def r6_23 : List VOp :=
  [⟨some 4, .assign (.const (.bool false)), 4, none⟩]
def r6_11 : List VOp :=
  [mv 70 10 3,
   ⟨some 71, .binOp .add 3 (.tmp 70) (.const (.int .i64 1)) 3, 3, none⟩,
   asg 10 71 3]
def r6_24 : List VOp :=
  [mv 120 5 23,
   ⟨some 121, .call ⟨.value (.func 19), #[.tmp 120], #[23]⟩, 40, none⟩,
   asg 15 121 40]
def r6_25 : List VOp :=
  [mv 122 15 40,
   mv 123 7 23,
   ⟨some 124, .call ⟨.value (.func 19), #[.tmp 123], #[23]⟩, 40, none⟩,
   ⟨some 125, .call ⟨.value (.func 29), #[.tmp 122, .tmp 124], #[40, 40]⟩, 4, none⟩,
   ⟨some 126, .unOp .not 4 (.tmp 125), 4, none⟩]
def r6_26 : List VOp :=
  [⟨some 4, .assign (.const (.bool false)), 4, none⟩]
def r6_27 : List VOp :=
  [⟨some 16, .assign (.const (.int .i64 0)), 3, none⟩]
def r6_28 : List VOp :=
  [mv 127 16 3,
   mv 128 15 40,
   ⟨some 129, .call ⟨.builtin .len, #[.tmp 128], #[40]⟩, 3, none⟩,
   ⟨some 130, .binOp .lss 3 (.tmp 127) (.tmp 129) 3, 4, none⟩]
def r6_30 : List VOp :=
  [mv 134 5 23,
   mv 135 15 40,
   mv 136 16 3,
   iad 137 40 135 136,
   lda 138 9 137,
   ⟨some 139, .call ⟨.value (.func 14), #[.tmp 134, .tmp 138], #[23, 9]⟩, 31, none⟩,
   mv 133 139 31,
   ext 140 133 0 22,
   ext 141 133 1 4,
   asg 17 140 22,
   asg 18 141 4]
def r6_31 : List VOp :=
  [mv 143 7 23,
   mv 144 15 40,
   mv 145 16 3,
   iad 146 40 144 145,
   lda 147 9 146,
   ⟨some 148, .call ⟨.value (.func 14), #[.tmp 143, .tmp 147], #[23, 9]⟩, 31, none⟩,
   mv 142 148 31,
   ext 149 142 0 22,
   ext 150 142 1 4,
   asg 19 149 22,
   asg 20 150 4]
def r6_32 : List VOp :=
  [mv 151 17 22,
   ⟨some 152, .convert 22 9 (.tmp 151), 9, none⟩,
   mv 153 19 22,
   ⟨some 154, .convert 22 9 (.tmp 153), 9, none⟩,
   ⟨some 155, .binOp .neq 9 (.tmp 152) (.tmp 154) 9, 4, none⟩]
def r6_33 : List VOp :=
  [⟨some 4, .assign (.const (.bool false)), 4, none⟩]
def r6_29 : List VOp :=
  [mv 131 16 3,
   ⟨some 132, .binOp .add 3 (.tmp 131) (.const (.int .i64 1)) 3, 3, none⟩,
   asg 16 132 3]
def r6_34 : List VOp :=
  [⟨some 156, .call ⟨.value (.func 15), #[], #[]⟩, 4, none⟩,
   asg 4 156 4]
def B6 : VC :=
  (.seq (.region r6_0) (.seq (.region r6_1) (.seq (.region r6_2) (.seq (.seq (.region r6_3) (.cond (.tmp 42) (.seq (.region r6_4) .ret) .skip)) (.seq (.seq (.region r6_5) (.cond (.tmp 48) (.seq (.region r6_6) .ret) .skip)) (.seq (.region r6_7) (.seq (.region r6_8) (.seq (.seq (.region r6_9) (.block 0 (.loop (.seq (.seq (.region r6_10) (.cond (.tmp 69) .skip (.exit 0))) (.seq (.block 1 (.seq (.region r6_12) (.seq (.region r6_13) (.seq (.seq (.region r6_14) (.cond (.tmp 89) (.exit 1) .skip)) (.seq (.region r6_15) (.seq (.seq (.region r6_16) (.cond (.tmp 95) (.exit 1) .skip)) (.seq (.region r6_17) (.seq (.region r6_18) (.seq (.seq (.region r6_19) (.cond (.tmp 103) (.seq (.seq (.region r6_20) (.cond (.tmp 110) (.seq (.region r6_21) .ret) .skip)) (.exit 1)) .skip)) (.seq (.region r6_22) (.cond (.tmp 119) (.seq (.region r6_23) .ret) .skip))))))))))) (.region r6_11)))))) (.seq (.region r6_24) (.seq (.seq (.region r6_25) (.cond (.tmp 126) (.seq (.region r6_26) .ret) .skip)) (.seq (.seq (.region r6_27) (.block 2 (.loop (.seq (.seq (.region r6_28) (.cond (.tmp 130) .skip (.exit 2))) (.seq (.block 3 (.seq (.region r6_30) (.seq (.region r6_31) (.seq (.region r6_32) (.cond (.tmp 155) (.seq (.region r6_33) .ret) .skip))))) (.region r6_29)))))) (.seq (.region r6_34) .ret))))))))))))
theorem code6 : ∃ c, Try.f6.body = some c ∧ abs Try.f6.ntmps c = B6 := ⟨_, rfl, by kernel_rfl⟩
theorem hb6 : HasBody Try.prog 6 := hasBody_of Try.func6 (by kernel_rfl)
theorem res6 : Try.f6.results = #[(.tmp 4)] := rfl
theorem enter6 {w : World} {R : Value → World → Prop} (x0 x1 : Value) (h : vc Try.prog B6 (retK Try.prog #[(.tmp 4)] R) [] (initEnv [x0, x1] 0) w) : FnC Try.prog 6 #[x0, x1] w R := by
  obtain ⟨c, h1, h2⟩ := code6
  exact hb6.fn (ret_of_vc mixed Try.func6 h1 (Nat.le_of_ble_eq_true rfl) B6 h2 h)
@[push_cast] theorem vr6_0 : VR r6_0 [⟨some 4, .assign (.const (.bool false)), 4, none⟩] := vR rfl
@[push_cast] theorem vr6_1 : VR r6_1 [⟨some 22, .call ⟨.value (.func 9), #[(.const (.int .i64 5000))], #[3]⟩, 25, none⟩, ⟨some 21, .move (.tmp 22), 25, none⟩, ⟨some 23, .extract (.tmp 21) 0, 23, none⟩, ⟨some 24, .extract (.tmp 21) 1, 24, none⟩, ⟨some 5, .assign (.tmp 23), 23, none⟩, ⟨some 6, .assign (.tmp 24), 24, none⟩] := vR rfl
@[push_cast] theorem vr6_2 : VR r6_2 [⟨some 26, .call ⟨.value (.func 9), #[(.const (.int .i64 5000))], #[3]⟩, 25, none⟩, ⟨some 25, .move (.tmp 26), 25, none⟩, ⟨some 27, .extract (.tmp 25) 0, 23, none⟩, ⟨some 28, .extract (.tmp 25) 1, 24, none⟩, ⟨some 7, .assign (.tmp 27), 23, none⟩, ⟨some 8, .assign (.tmp 28), 24, none⟩] := vR rfl
@[push_cast] theorem vr6_3 : VR r6_3 [⟨some 29, .move (.tmp 6), 24, none⟩, ⟨some 30, .binOp .neq 24 (.tmp 29) (.const (.int .i64 0)) 24, 4, none⟩, ⟨some 31, .move (.tmp 30), 4, none⟩, ⟨some 32, .move (.tmp 8), 24, some (31, false)⟩, ⟨some 33, .binOp .neq 24 (.tmp 32) (.const (.int .i64 0)) 24, 4, some (31, false)⟩, ⟨some 34, .pick (.tmp 31) (.const (.bool true)) (.tmp 33), 4, none⟩, ⟨some 35, .move (.tmp 34), 4, none⟩, ⟨some 36, .move (.tmp 5), 23, some (35, false)⟩, ⟨some 37, .binOp .eql 23 (.tmp 36) (.const (.pointer none)) 23, 4, some (35, false)⟩, ⟨some 38, .pick (.tmp 35) (.const (.bool true)) (.tmp 37), 4, none⟩, ⟨some 39, .move (.tmp 38), 4, none⟩, ⟨some 40, .move (.tmp 7), 23, some (39, false)⟩, ⟨some 41, .binOp .eql 23 (.tmp 40) (.const (.pointer none)) 23, 4, some (39, false)⟩, ⟨some 42, .pick (.tmp 39) (.const (.bool true)) (.tmp 41), 4, none⟩] := vR rfl
@[push_cast] theorem vr6_4 : VR r6_4 [⟨some 4, .assign (.const (.bool false)), 4, none⟩] := vR rfl
@[push_cast] theorem vr6_5 : VR r6_5 [⟨some 43, .move (.tmp 0), 3, none⟩, ⟨some 44, .binOp .lss 3 (.tmp 43) (.const (.int .i64 1)) 3, 4, none⟩, ⟨some 45, .move (.tmp 44), 4, none⟩, ⟨some 46, .move (.tmp 0), 3, some (45, false)⟩, ⟨some 47, .binOp .gtr 3 (.tmp 46) (.const (.int .i64 80)) 3, 4, some (45, false)⟩, ⟨some 48, .pick (.tmp 45) (.const (.bool true)) (.tmp 47), 4, none⟩] := vR rfl
@[push_cast] theorem vr6_6 : VR r6_6 [⟨some 49, .call ⟨.value (.func 15), #[], #[]⟩, 4, none⟩, ⟨some 50, .move (.tmp 49), 4, none⟩, ⟨some 51, .move (.tmp 5), 23, some (50, true)⟩, ⟨some 52, .move (.tmp 0), 3, some (50, true)⟩, ⟨some 53, .call ⟨.value (.func 27), #[.tmp 51, .tmp 52], #[23, 3]⟩, 24, some (50, true)⟩, ⟨some 54, .binOp .eql 24 (.tmp 53) (.const (.int .i64 0)) 24, 4, some (50, true)⟩, ⟨some 55, .move (.tmp 0), 3, some (50, true)⟩, ⟨some 56, .binOp .geq 3 (.tmp 55) (.const (.int .i64 0)) 3, 4, some (50, true)⟩, ⟨some 57, .binOp .eql 4 (.tmp 54) (.tmp 56) 4, 4, some (50, true)⟩, ⟨some 58, .pick (.tmp 50) (.tmp 57) (.const (.bool false)), 4, none⟩, ⟨some 4, .assign (.tmp 58), 4, none⟩] := vR rfl
@[push_cast] theorem vr6_7 : VR r6_7 [⟨some 59, .move (.tmp 5), 23, none⟩, ⟨some 60, .move (.tmp 0), 3, none⟩, ⟨some 61, .call ⟨.value (.func 27), #[.tmp 59, .tmp 60], #[23, 3]⟩, 24, none⟩] := vR rfl
@[push_cast] theorem vr6_8 : VR r6_8 [⟨some 9, .assign (.const (.int .i64 0)), 3, none⟩] := vR rfl
@[push_cast] theorem vr6_9 : VR r6_9 [⟨some 10, .assign (.const (.int .i64 0)), 3, none⟩] := vR rfl
@[push_cast] theorem vr6_10 : VR r6_10 [⟨some 62, .move (.tmp 10), 3, none⟩, ⟨some 63, .move (.tmp 1), 35, none⟩, ⟨some 64, .call ⟨.builtin .len, #[.tmp 63], #[35]⟩, 3, none⟩, ⟨some 65, .binOp .lss 3 (.tmp 62) (.tmp 64) 3, 4, none⟩, ⟨some 66, .move (.tmp 65), 4, none⟩, ⟨some 67, .move (.tmp 10), 3, some (66, true)⟩, ⟨some 68, .binOp .lss 3 (.tmp 67) (.const (.int .i64 80)) 3, 4, some (66, true)⟩, ⟨some 69, .pick (.tmp 66) (.tmp 68) (.const (.bool false)), 4, none⟩] := vR rfl
@[push_cast] theorem vr6_12 : VR r6_12 [⟨some 72, .move (.tmp 1), 35, none⟩, ⟨some 73, .move (.tmp 10), 3, none⟩, ⟨some 74, .indexAddr 35 (.tmp 72) (.tmp 73), 0, none⟩, ⟨some 75, .load 37 (.tmp 74), 37, none⟩, ⟨some 11, .alloc 37, 0, none⟩, ⟨none, .store 37 (.tmp 11) (.tmp 75), 0, none⟩] := vR rfl
@[push_cast] theorem vr6_13 : VR r6_13 [⟨some 76, .load 37 (.tmp 11), 37, none⟩, ⟨some 77, .call ⟨.value (.func 16), #[.tmp 76], #[37]⟩, 4, none⟩, ⟨some 12, .assign (.tmp 77), 4, none⟩] := vR rfl
@[push_cast] theorem vr6_14 : VR r6_14 [⟨some 78, .move (.tmp 12), 4, none⟩, ⟨some 79, .unOp .not 4 (.tmp 78), 4, none⟩, ⟨some 80, .move (.tmp 79), 4, none⟩, ⟨some 81, .fieldAddr 37 (.tmp 11) 0, 0, some (80, false)⟩, ⟨some 82, .load 3 (.tmp 81), 3, some (80, false)⟩, ⟨some 83, .binOp .lss 3 (.tmp 82) (.const (.int .i64 1)) 3, 4, some (80, false)⟩, ⟨some 84, .pick (.tmp 80) (.const (.bool true)) (.tmp 83), 4, none⟩, ⟨some 85, .move (.tmp 84), 4, none⟩, ⟨some 86, .fieldAddr 37 (.tmp 11) 0, 0, some (85, false)⟩, ⟨some 87, .load 3 (.tmp 86), 3, some (85, false)⟩, ⟨some 88, .binOp .gtr 3 (.tmp 87) (.const (.int .i64 4)) 3, 4, some (85, false)⟩, ⟨some 89, .pick (.tmp 85) (.const (.bool true)) (.tmp 88), 4, none⟩] := vR rfl
@[push_cast] theorem vr6_15 : VR r6_15 [⟨some 90, .move (.tmp 7), 23, none⟩, ⟨some 91, .call ⟨.value (.func 23), #[.tmp 90], #[23]⟩, 23, none⟩, ⟨some 13, .assign (.tmp 91), 23, none⟩] := vR rfl
@[push_cast] theorem vr6_16 : VR r6_16 [⟨some 92, .load 37 (.tmp 11), 37, none⟩, ⟨some 93, .move (.tmp 13), 23, none⟩, ⟨some 94, .call ⟨.value (.func 18), #[.tmp 92, .tmp 93], #[37, 23]⟩, 24, none⟩, ⟨some 95, .binOp .eql 24 (.tmp 94) (.const (.int .i64 31)) 24, 4, none⟩] := vR rfl
@[push_cast] theorem vr6_17 : VR r6_17 [⟨some 96, .move (.tmp 9), 3, none⟩, ⟨some 97, .binOp .add 3 (.tmp 96) (.const (.int .i64 1)) 3, 3, none⟩, ⟨some 9, .assign (.tmp 97), 3, none⟩] := vR rfl
@[push_cast] theorem vr6_18 : VR r6_18 [⟨some 98, .load 37 (.tmp 11), 37, none⟩, ⟨some 99, .move (.tmp 5), 23, none⟩, ⟨some 100, .call ⟨.value (.func 18), #[.tmp 98, .tmp 99], #[37, 23]⟩, 24, none⟩, ⟨some 14, .assign (.tmp 100), 24, none⟩] := vR rfl
@[push_cast] theorem vr6_19 : VR r6_19 [⟨some 101, .move (.tmp 9), 3, none⟩, ⟨some 102, .move (.tmp 0), 3, none⟩, ⟨some 103, .binOp .geq 3 (.tmp 101) (.tmp 102) 3, 4, none⟩] := vR rfl
@[push_cast] theorem vr6_20 : VR r6_20 [⟨some 104, .move (.tmp 14), 24, none⟩, ⟨some 105, .binOp .neq 24 (.tmp 104) (.const (.int .i64 272)) 24, 4, none⟩, ⟨some 106, .move (.tmp 105), 4, none⟩, ⟨some 107, .move (.tmp 5), 23, some (106, false)⟩, ⟨some 108, .call ⟨.value (.func 28), #[.tmp 107], #[23]⟩, 4, some (106, false)⟩, ⟨some 109, .unOp .not 4 (.tmp 108), 4, some (106, false)⟩, ⟨some 110, .pick (.tmp 106) (.const (.bool true)) (.tmp 109), 4, none⟩] := vR rfl
@[push_cast] theorem vr6_21 : VR r6_21 [⟨some 4, .assign (.const (.bool false)), 4, none⟩] := vR rfl
@[push_cast] theorem vr6_22 : VR r6_22 [⟨some 111, .move (.tmp 14), 24, none⟩, ⟨some 112, .load 37 (.tmp 11), 37, none⟩, ⟨some 113, .move (.tmp 7), 23, none⟩, ⟨some 114, .call ⟨.value (.func 18), #[.tmp 112, .tmp 113], #[37, 23]⟩, 24, none⟩, ⟨some 115, .binOp .neq 24 (.tmp 111) (.tmp 114) 24, 4, none⟩, ⟨some 116, .move (.tmp 115), 4, none⟩, ⟨some 117, .move (.tmp 5), 23, some (116, false)⟩, ⟨some 118, .call ⟨.value (.func 28), #[.tmp 117], #[23]⟩, 4, some (116, false)⟩, ⟨some 119, .pick (.tmp 116) (.const (.bool true)) (.tmp 118), 4, none⟩] := vR rfl
@[push_cast] theorem vr6_23 : VR r6_23 [⟨some 4, .assign (.const (.bool false)), 4, none⟩] := vR rfl
@[push_cast] theorem vr6_11 : VR r6_11 [⟨some 70, .move (.tmp 10), 3, none⟩, ⟨some 71, .binOp .add 3 (.tmp 70) (.const (.int .i64 1)) 3, 3, none⟩, ⟨some 10, .assign (.tmp 71), 3, none⟩] := vR rfl
@[push_cast] theorem vr6_24 : VR r6_24 [⟨some 120, .move (.tmp 5), 23, none⟩, ⟨some 121, .call ⟨.value (.func 19), #[.tmp 120], #[23]⟩, 40, none⟩, ⟨some 15, .assign (.tmp 121), 40, none⟩] := vR rfl
@[push_cast] theorem vr6_25 : VR r6_25 [⟨some 122, .move (.tmp 15), 40, none⟩, ⟨some 123, .move (.tmp 7), 23, none⟩, ⟨some 124, .call ⟨.value (.func 19), #[.tmp 123], #[23]⟩, 40, none⟩, ⟨some 125, .call ⟨.value (.func 29), #[.tmp 122, .tmp 124], #[40, 40]⟩, 4, none⟩, ⟨some 126, .unOp .not 4 (.tmp 125), 4, none⟩] := vR rfl
@[push_cast] theorem vr6_26 : VR r6_26 [⟨some 4, .assign (.const (.bool false)), 4, none⟩] := vR rfl
@[push_cast] theorem vr6_27 : VR r6_27 [⟨some 16, .assign (.const (.int .i64 0)), 3, none⟩] := vR rfl
@[push_cast] theorem vr6_28 : VR r6_28 [⟨some 127, .move (.tmp 16), 3, none⟩, ⟨some 128, .move (.tmp 15), 40, none⟩, ⟨some 129, .call ⟨.builtin .len, #[.tmp 128], #[40]⟩, 3, none⟩, ⟨some 130, .binOp .lss 3 (.tmp 127) (.tmp 129) 3, 4, none⟩] := vR rfl
@[push_cast] theorem vr6_30 : VR r6_30 [⟨some 134, .move (.tmp 5), 23, none⟩, ⟨some 135, .move (.tmp 15), 40, none⟩, ⟨some 136, .move (.tmp 16), 3, none⟩, ⟨some 137, .indexAddr 40 (.tmp 135) (.tmp 136), 0, none⟩, ⟨some 138, .load 9 (.tmp 137), 9, none⟩, ⟨some 139, .call ⟨.value (.func 14), #[.tmp 134, .tmp 138], #[23, 9]⟩, 31, none⟩, ⟨some 133, .move (.tmp 139), 31, none⟩, ⟨some 140, .extract (.tmp 133) 0, 22, none⟩, ⟨some 141, .extract (.tmp 133) 1, 4, none⟩, ⟨some 17, .assign (.tmp 140), 22, none⟩, ⟨some 18, .assign (.tmp 141), 4, none⟩] := vR rfl
@[push_cast] theorem vr6_31 : VR r6_31 [⟨some 143, .move (.tmp 7), 23, none⟩, ⟨some 144, .move (.tmp 15), 40, none⟩, ⟨some 145, .move (.tmp 16), 3, none⟩, ⟨some 146, .indexAddr 40 (.tmp 144) (.tmp 145), 0, none⟩, ⟨some 147, .load 9 (.tmp 146), 9, none⟩, ⟨some 148, .call ⟨.value (.func 14), #[.tmp 143, .tmp 147], #[23, 9]⟩, 31, none⟩, ⟨some 142, .move (.tmp 148), 31, none⟩, ⟨some 149, .extract (.tmp 142) 0, 22, none⟩, ⟨some 150, .extract (.tmp 142) 1, 4, none⟩, ⟨some 19, .assign (.tmp 149), 22, none⟩, ⟨some 20, .assign (.tmp 150), 4, none⟩] := vR rfl
@[push_cast] theorem vr6_32 : VR r6_32 [⟨some 151, .move (.tmp 17), 22, none⟩, ⟨some 152, .convert 22 9 (.tmp 151), 9, none⟩, ⟨some 153, .move (.tmp 19), 22, none⟩, ⟨some 154, .convert 22 9 (.tmp 153), 9, none⟩, ⟨some 155, .binOp .neq 9 (.tmp 152) (.tmp 154) 9, 4, none⟩] := vR rfl
@[push_cast] theorem vr6_33 : VR r6_33 [⟨some 4, .assign (.const (.bool false)), 4, none⟩] := vR rfl
@[push_cast] theorem vr6_29 : VR r6_29 [⟨some 131, .move (.tmp 16), 3, none⟩, ⟨some 132, .binOp .add 3 (.tmp 131) (.const (.int .i64 1)) 3, 3, none⟩, ⟨some 16, .assign (.tmp 132), 3, none⟩] := vR rfl
@[push_cast] theorem vr6_34 : VR r6_34 [⟨some 156, .call ⟨.value (.func 15), #[], #[]⟩, 4, none⟩, ⟨some 4, .assign (.tmp 156), 4, none⟩] := vR rfl
/-! 8 columbary/columbarylaw03.VaultCopy (params #[35, 37], results #[(.tmp 4)], 160 slots) -/
def W8_0 : List Nat := [7, 8, 32, 33, 34, 35, 36, 37, 38, 39, 40, 41, 42, 43, 44, 45, 46, 47, 48, 49, 50, 51, 52, 53, 54, 55, 56, 57, 58, 59, 60, 61]
@[push_cast] theorem W8_0_def : W8_0 = [7, 8, 32, 33, 34, 35, 36, 37, 38, 39, 40, 41, 42, 43, 44, 45, 46, 47, 48, 49, 50, 51, 52, 53, 54, 55, 56, 57, 58, 59, 60, 61] := mk_eq rfl
def W8_1 : List Nat := [11, 12, 13, 14, 15, 66, 67, 68, 69, 70, 71, 72, 73, 74, 75, 76, 77, 78, 79, 80, 81, 82, 83, 84, 85, 86, 87, 88, 89, 90, 91, 92, 93, 94, 95, 96, 97, 98, 99]
@[push_cast] theorem W8_1_def : W8_1 = [11, 12, 13, 14, 15, 66, 67, 68, 69, 70, 71, 72, 73, 74, 75, 76, 77, 78, 79, 80, 81, 82, 83, 84, 85, 86, 87, 88, 89, 90, 91, 92, 93, 94, 95, 96, 97, 98, 99] := mk_eq rfl
def W8_2 : List Nat := [15, 86, 87, 88, 89, 90, 91, 92, 93, 94, 95, 96, 97, 98, 99]
@[push_cast] theorem W8_2_def : W8_2 = [15, 86, 87, 88, 89, 90, 91, 92, 93, 94, 95, 96, 97, 98, 99] := mk_eq rfl
def W8_3 : List Nat := [4, 19, 20, 21, 125, 126, 127, 128, 129, 130, 131, 132, 133, 134, 135, 136, 137, 138, 139, 140, 141, 142, 143, 144, 145, 146]
@[push_cast] theorem W8_3_def : W8_3 = [4, 19, 20, 21, 125, 126, 127, 128, 129, 130, 131, 132, 133, 134, 135, 136, 137, 138, 139, 140, 141, 142, 143, 144, 145, 146] := mk_eq rfl
def r8_0 : List VOp :=
  [⟨some 3, .box 37 (.tmp 1), 0, none⟩,
   ⟨some 4, .assign (.const (.bool false)), 4, none⟩]
def r8_1 : List VOp :=
  [⟨some 23, .call ⟨.value (.func 9), #[(.const (.int .i64 5000))], #[3]⟩, 25, none⟩,
   mv 22 23 25,
   ext 24 22 0 23,
   ext 25 22 1 24,
   asg 5 24 23,
   asg 6 25 24]
def r8_2 : List VOp :=
  [mv 26 6 24,
   ⟨some 27, .binOp .neq 24 (.tmp 26) (.const (.int .i64 0)) 24, 4, none⟩,
   mv 28 27 4,
   ⟨some 29, .move (.tmp 5), 23, some (28, false)⟩,
   ⟨some 30, .binOp .eql 23 (.tmp 29) (.const (.pointer none)) 23, 4, some (28, false)⟩,
   ⟨some 31, .pick (.tmp 28) (.const (.bool true)) (.tmp 30), 4, none⟩]
def r8_3 : List VOp :=
  [⟨some 4, .assign (.const (.bool false)), 4, none⟩]
def r8_4 : List VOp :=
  [⟨some 7, .assign (.const (.int .i64 0)), 3, none⟩]
def r8_5 : List VOp :=
  [mv 32 7 3,
   mv 33 0 35,
   ⟨some 34, .call ⟨.builtin .len, #[.tmp 33], #[35]⟩, 3, none⟩,
   ⟨some 35, .binOp .lss 3 (.tmp 32) (.tmp 34) 3, 4, none⟩,
   mv 36 35 4,
   ⟨some 37, .move (.tmp 7), 3, some (36, true)⟩,
   ⟨some 38, .binOp .lss 3 (.tmp 37) (.const (.int .i64 80)) 3, 4, some (36, true)⟩,
   ⟨some 39, .pick (.tmp 36) (.tmp 38) (.const (.bool false)), 4, none⟩]
def r8_7 : List VOp :=
  [mv 42 0 35,
   mv 43 7 3,
   iad 44 35 42 43,
   lda 45 37 44,
   ⟨some 46, .call ⟨.value (.func 16), #[.tmp 45], #[37]⟩, 4, none⟩,
   asg 8 46 4]
def r8_8 : List VOp :=
  [mv 47 8 4,
   mv 48 47 4,
   ⟨some 49, .move (.tmp 0), 35, some (48, true)⟩,
   ⟨some 50, .move (.tmp 7), 3, some (48, true)⟩,
   ⟨some 51, .indexAddr 35 (.tmp 49) (.tmp 50), 0, some (48, true)⟩,
   ⟨some 52, .fieldAddr 37 (.tmp 51) 0, 0, some (48, true)⟩,
   ⟨some 53, .load 3 (.tmp 52), 3, some (48, true)⟩,
   ⟨some 54, .binOp .leq 3 (.tmp 53) (.const (.int .i64 4)) 3, 4, some (48, true)⟩,
   ⟨some 55, .pick (.tmp 48) (.tmp 54) (.const (.bool false)), 4, none⟩]
def r8_9 : List VOp :=
  [mv 56 0 35,
   mv 57 7 3,
   iad 58 35 56 57,
   lda 59 37 58,
   mv 60 5 23,
   ⟨some 61, .call ⟨.value (.func 18), #[.tmp 59, .tmp 60], #[37, 23]⟩, 24, none⟩]
def r8_6 : List VOp :=
  [mv 40 7 3,
   ⟨some 41, .binOp .add 3 (.tmp 40) (.const (.int .i64 1)) 3, 3, none⟩,
   asg 7 41 3]
def r8_10 : List VOp :=
  [mv 62 5 23,
   ⟨some 63, .call ⟨.value (.func 19), #[.tmp 62], #[23]⟩, 40, none⟩,
   asg 9 63 40]
def r8_11 : List VOp :=
  [mv 64 5 23,
   ⟨some 65, .call ⟨.value (.func 17), #[.tmp 64], #[23]⟩, 3, none⟩,
   asg 10 65 3]
def r8_12 : List VOp :=
  [⟨some 11, .assign (.const (.slice none 0 0)), 40, none⟩]
def r8_13 : List VOp :=
  [⟨some 12, .assign (.const (.int .i64 0)), 3, none⟩]
def r8_14 : List VOp :=
  [mv 66 12 3,
   mv 67 9 40,
   ⟨some 68, .call ⟨.builtin .len, #[.tmp 67], #[40]⟩, 3, none⟩,
   ⟨some 69, .binOp .lss 3 (.tmp 66) (.tmp 68) 3, 4, none⟩]
def r8_16 : List VOp :=
  [mv 73 5 23,
   mv 74 9 40,
   mv 75 12 3,
   iad 76 40 74 75,
   lda 77 9 76,
   ⟨some 78, .call ⟨.value (.func 14), #[.tmp 73, .tmp 77], #[23, 9]⟩, 31, none⟩,
   mv 72 78 31,
   ext 79 72 0 22,
   ext 80 72 1 4,
   asg 13 79 22,
   asg 14 80 4]
def r8_17 : List VOp :=
  [mv 81 11 40,
   mv 82 13 22,
   ⟨some 83, .convert 22 9 (.tmp 82), 9, none⟩,
   ⟨some 84, .buildSlice 40 1 #[(0, (.tmp 83))], 40, none⟩,
   ⟨some 85, .call ⟨.builtin .append, #[.tmp 81, .tmp 84], #[40, 40]⟩, 40, none⟩,
   asg 11 85 40]
def r8_18 : List VOp :=
  [⟨some 15, .assign (.const (.int .i64 0)), 3, none⟩]
def r8_19 : List VOp :=
  [mv 86 15 3,
   mv 87 13 22,
   ⟨some 88, .call ⟨.builtin .len, #[.tmp 87], #[22]⟩, 3, none⟩,
   ⟨some 89, .binOp .lss 3 (.tmp 86) (.tmp 88) 3, 4, none⟩]
def r8_21 : List VOp :=
  [mv 92 13 22,
   mv 93 15 3,
   mv 94 13 22,
   mv 95 15 3,
   iad 96 22 94 95,
   lda 97 5 96,
   ⟨some 98, .binOp .add 5 (.tmp 97) (.const (.int .u8 1)) 5, 5, none⟩,
   iad 99 22 92 93,
   ⟨none, .store 5 (.tmp 99) (.tmp 98), 0, none⟩]
def r8_20 : List VOp :=
  [mv 90 15 3,
   ⟨some 91, .binOp .add 3 (.tmp 90) (.const (.int .i64 1)) 3, 3, none⟩,
   asg 15 91 3]
def r8_15 : List VOp :=
  [mv 70 12 3,
   ⟨some 71, .binOp .add 3 (.tmp 70) (.const (.int .i64 1)) 3, 3, none⟩,
   asg 12 71 3]
def r8_22 : List VOp :=
  [mv 100 5 23,
   ⟨some 101, .call ⟨.value (.func 23), #[.tmp 100], #[23]⟩, 23, none⟩,
   asg 16 101 23]
def r8_23 : List VOp :=
  [mv 102 5 23,
   fad 103 37 3 1,
   lda 104 3 103,
   ⟨some 105, .call ⟨.value (.func 13), #[.tmp 102, .tmp 104], #[23, 3]⟩, 23, none⟩,
   asg 17 105 23]
def r8_24 : List VOp :=
  [lda 106 37 3,
   ⟨some 107, .call ⟨.value (.func 16), #[.tmp 106], #[37]⟩, 4, none⟩,
   asg 18 107 4]
def r8_25 : List VOp :=
  [mv 108 16 23,
   ⟨some 109, .binOp .eql 23 (.tmp 108) (.const (.pointer none)) 23, 4, none⟩,
   mv 110 109 4,
   ⟨some 111, .move (.tmp 17), 23, some (110, false)⟩,
   ⟨some 112, .binOp .eql 23 (.tmp 111) (.const (.pointer none)) 23, 4, some (110, false)⟩,
   ⟨some 113, .pick (.tmp 110) (.const (.bool true)) (.tmp 112), 4, none⟩]
def r8_26 : List VOp :=
  [⟨some 4, .assign (.const (.bool false)), 4, none⟩]
def r8_27 : List VOp :=
  [mv 114 18 4]
def r8_28 : List VOp :=
  [lda 115 37 3,
   mv 116 16 23,
   ⟨some 117, .call ⟨.value (.func 18), #[.tmp 115, .tmp 116], #[37, 23]⟩, 24, none⟩]
def r8_29 : List VOp :=
  [lda 118 37 3,
   mv 119 17 23,
   ⟨some 120, .call ⟨.value (.func 18), #[.tmp 118, .tmp 119], #[37, 23]⟩, 24, none⟩]
def r8_30 : List VOp :=
  [mv 121 16 23,
   ⟨some 122, .buildSlice 22 1 #[(0, (.const (.int .u8 120)))], 22, none⟩,
   ⟨some 123, .convert 22 22 (.tmp 122), 22, none⟩,
   ⟨some 124, .call { callee := (.value (.func 10)), args := #[(.tmp 121), (.const (.string { data := #[110, 101, 119] })), (.tmp 123)], argTypes := #[23, 9, 22] }, 24, none⟩]
def r8_31 : List VOp :=
  [⟨some 19, .assign (.const (.int .i64 0)), 3, none⟩]
def r8_32 : List VOp :=
  [mv 125 19 3,
   mv 126 9 40,
   ⟨some 127, .call ⟨.builtin .len, #[.tmp 126], #[40]⟩, 3, none⟩,
   ⟨some 128, .binOp .lss 3 (.tmp 125) (.tmp 127) 3, 4, none⟩]
def r8_34 : List VOp :=
  [mv 132 5 23,
   mv 133 9 40,
   mv 134 19 3,
   iad 135 40 133 134,
   lda 136 9 135,
   ⟨some 137, .call ⟨.value (.func 14), #[.tmp 132, .tmp 136], #[23, 9]⟩, 31, none⟩,
   mv 131 137 31,
   ext 138 131 0 22,
   ext 139 131 1 4,
   asg 20 138 22,
   asg 21 139 4]
def r8_35 : List VOp :=
  [mv 140 20 22,
   ⟨some 141, .convert 22 9 (.tmp 140), 9, none⟩,
   mv 142 11 40,
   mv 143 19 3,
   iad 144 40 142 143,
   lda 145 9 144,
   ⟨some 146, .binOp .neq 9 (.tmp 141) (.tmp 145) 9, 4, none⟩]
def r8_36 : List VOp :=
  [⟨some 4, .assign (.const (.bool false)), 4, none⟩]
def r8_33 : List VOp :=
  [mv 129 19 3,
   ⟨some 130, .binOp .add 3 (.tmp 129) (.const (.int .i64 1)) 3, 3, none⟩,
   asg 19 130 3]
def r8_37 : List VOp :=
  [⟨some 147, .call ⟨.value (.func 15), #[], #[]⟩, 4, none⟩,
   mv 148 147 4,
   ⟨some 149, .move (.tmp 5), 23, some (148, true)⟩,
   ⟨some 150, .call ⟨.value (.func 17), #[.tmp 149], #[23]⟩, 3, some (148, true)⟩,
   ⟨some 151, .move (.tmp 10), 3, some (148, true)⟩,
   ⟨some 152, .binOp .eql 3 (.tmp 150) (.tmp 151) 3, 4, some (148, true)⟩,
   ⟨some 153, .pick (.tmp 148) (.tmp 152) (.const (.bool false)), 4, none⟩,
   mv 154 153 4,
   ⟨some 155, .move (.tmp 5), 23, some (154, true)⟩,
   ⟨some 156, .call ⟨.value (.func 19), #[.tmp 155], #[23]⟩, 40, some (154, true)⟩,
   ⟨some 157, .move (.tmp 9), 40, some (154, true)⟩,
   ⟨some 158, .call ⟨.value (.func 29), #[.tmp 156, .tmp 157], #[40, 40]⟩, 4, some (154, true)⟩,
   ⟨some 159, .pick (.tmp 154) (.tmp 158) (.const (.bool false)), 4, none⟩,
   asg 4 159 4]
def B8 : VC :=
  (.seq (.region r8_0) (.seq (.region r8_1) (.seq (.seq (.region r8_2) (.cond (.tmp 31) (.seq (.region r8_3) .ret) .skip)) (.seq (.seq (.region r8_4) (.block 0 (.loop (.seq (.seq (.region r8_5) (.cond (.tmp 39) .skip (.exit 0))) (.seq (.block 1 (.seq (.region r8_7) (.seq (.region r8_8) (.cond (.tmp 55) (.region r8_9) .skip)))) (.region r8_6)))))) (.seq (.region r8_10) (.seq (.region r8_11) (.seq (.region r8_12) (.seq (.seq (.region r8_13) (.block 2 (.loop (.seq (.seq (.region r8_14) (.cond (.tmp 69) .skip (.exit 2))) (.seq (.block 3 (.seq (.region r8_16) (.seq (.region r8_17) (.seq (.region r8_18) (.block 4 (.loop (.seq (.seq (.region r8_19) (.cond (.tmp 89) .skip (.exit 4))) (.seq (.block 5 (.region r8_21)) (.region r8_20))))))))) (.region r8_15)))))) (.seq (.region r8_22) (.seq (.region r8_23) (.seq (.region r8_24) (.seq (.seq (.region r8_25) (.cond (.tmp 113) (.seq (.region r8_26) .ret) .skip)) (.seq (.seq (.region r8_27) (.cond (.tmp 114) (.seq (.region r8_28) (.region r8_29)) .skip)) (.seq (.region r8_30) (.seq (.seq (.region r8_31) (.block 6 (.loop (.seq (.seq (.region r8_32) (.cond (.tmp 128) .skip (.exit 6))) (.seq (.block 7 (.seq (.region r8_34) (.seq (.draw r8_35 2) (.cond (.tmp 146) (.seq (.region r8_36) .ret) .skip)))) (.region r8_33)))))) (.seq (.region r8_37) .ret))))))))))))))))
theorem code8 : ∃ c, Try.f8.body = some c ∧ abs Try.f8.ntmps c = B8 := ⟨_, rfl, by kernel_rfl⟩
theorem hb8 : HasBody Try.prog 8 := hasBody_of Try.func8 (by kernel_rfl)
theorem res8 : Try.f8.results = #[(.tmp 4)] := rfl
theorem enter8 {w : World} {R : Value → World → Prop} (x0 x1 : Value) (h : vc Try.prog B8 (retK Try.prog #[(.tmp 4)] R) [] (initEnv [x0, x1] 0) w) : FnC Try.prog 8 #[x0, x1] w R := by
  obtain ⟨c, h1, h2⟩ := code8
  exact hb8.fn (ret_of_vc mixed Try.func8 h1 (Nat.le_of_ble_eq_true rfl) B8 h2 h)
@[push_cast] theorem vr8_0 : VR r8_0 [⟨some 3, .box 37 (.tmp 1), 0, none⟩, ⟨some 4, .assign (.const (.bool false)), 4, none⟩] := vR rfl
@[push_cast] theorem vr8_1 : VR r8_1 [⟨some 23, .call ⟨.value (.func 9), #[(.const (.int .i64 5000))], #[3]⟩, 25, none⟩, ⟨some 22, .move (.tmp 23), 25, none⟩, ⟨some 24, .extract (.tmp 22) 0, 23, none⟩, ⟨some 25, .extract (.tmp 22) 1, 24, none⟩, ⟨some 5, .assign (.tmp 24), 23, none⟩, ⟨some 6, .assign (.tmp 25), 24, none⟩] := vR rfl
@[push_cast] theorem vr8_2 : VR r8_2 [⟨some 26, .move (.tmp 6), 24, none⟩, ⟨some 27, .binOp .neq 24 (.tmp 26) (.const (.int .i64 0)) 24, 4, none⟩, ⟨some 28, .move (.tmp 27), 4, none⟩, ⟨some 29, .move (.tmp 5), 23, some (28, false)⟩, ⟨some 30, .binOp .eql 23 (.tmp 29) (.const (.pointer none)) 23, 4, some (28, false)⟩, ⟨some 31, .pick (.tmp 28) (.const (.bool true)) (.tmp 30), 4, none⟩] := vR rfl
@[push_cast] theorem vr8_3 : VR r8_3 [⟨some 4, .assign (.const (.bool false)), 4, none⟩] := vR rfl
@[push_cast] theorem vr8_4 : VR r8_4 [⟨some 7, .assign (.const (.int .i64 0)), 3, none⟩] := vR rfl
@[push_cast] theorem vr8_5 : VR r8_5 [⟨some 32, .move (.tmp 7), 3, none⟩, ⟨some 33, .move (.tmp 0), 35, none⟩, ⟨some 34, .call ⟨.builtin .len, #[.tmp 33], #[35]⟩, 3, none⟩, ⟨some 35, .binOp .lss 3 (.tmp 32) (.tmp 34) 3, 4, none⟩, ⟨some 36, .move (.tmp 35), 4, none⟩, ⟨some 37, .move (.tmp 7), 3, some (36, true)⟩, ⟨some 38, .binOp .lss 3 (.tmp 37) (.const (.int .i64 80)) 3, 4, some (36, true)⟩, ⟨some 39, .pick (.tmp 36) (.tmp 38) (.const (.bool false)), 4, none⟩] := vR rfl
@[push_cast] theorem vr8_7 : VR r8_7 [⟨some 42, .move (.tmp 0), 35, none⟩, ⟨some 43, .move (.tmp 7), 3, none⟩, ⟨some 44, .indexAddr 35 (.tmp 42) (.tmp 43), 0, none⟩, ⟨some 45, .load 37 (.tmp 44), 37, none⟩, ⟨some 46, .call ⟨.value (.func 16), #[.tmp 45], #[37]⟩, 4, none⟩, ⟨some 8, .assign (.tmp 46), 4, none⟩] := vR rfl
@[push_cast] theorem vr8_8 : VR r8_8 [⟨some 47, .move (.tmp 8), 4, none⟩, ⟨some 48, .move (.tmp 47), 4, none⟩, ⟨some 49, .move (.tmp 0), 35, some (48, true)⟩, ⟨some 50, .move (.tmp 7), 3, some (48, true)⟩, ⟨some 51, .indexAddr 35 (.tmp 49) (.tmp 50), 0, some (48, true)⟩, ⟨some 52, .fieldAddr 37 (.tmp 51) 0, 0, some (48, true)⟩, ⟨some 53, .load 3 (.tmp 52), 3, some (48, true)⟩, ⟨some 54, .binOp .leq 3 (.tmp 53) (.const (.int .i64 4)) 3, 4, some (48, true)⟩, ⟨some 55, .pick (.tmp 48) (.tmp 54) (.const (.bool false)), 4, none⟩] := vR rfl
@[push_cast] theorem vr8_9 : VR r8_9 [⟨some 56, .move (.tmp 0), 35, none⟩, ⟨some 57, .move (.tmp 7), 3, none⟩, ⟨some 58, .indexAddr 35 (.tmp 56) (.tmp 57), 0, none⟩, ⟨some 59, .load 37 (.tmp 58), 37, none⟩, ⟨some 60, .move (.tmp 5), 23, none⟩, ⟨some 61, .call ⟨.value (.func 18), #[.tmp 59, .tmp 60], #[37, 23]⟩, 24, none⟩] := vR rfl
@[push_cast] theorem vr8_6 : VR r8_6 [⟨some 40, .move (.tmp 7), 3, none⟩, ⟨some 41, .binOp .add 3 (.tmp 40) (.const (.int .i64 1)) 3, 3, none⟩, ⟨some 7, .assign (.tmp 41), 3, none⟩] := vR rfl
@[push_cast] theorem vr8_10 : VR r8_10 [⟨some 62, .move (.tmp 5), 23, none⟩, ⟨some 63, .call ⟨.value (.func 19), #[.tmp 62], #[23]⟩, 40, none⟩, ⟨some 9, .assign (.tmp 63), 40, none⟩] := vR rfl
@[push_cast] theorem vr8_11 : VR r8_11 [⟨some 64, .move (.tmp 5), 23, none⟩, ⟨some 65, .call ⟨.value (.func 17), #[.tmp 64], #[23]⟩, 3, none⟩, ⟨some 10, .assign (.tmp 65), 3, none⟩] := vR rfl
@[push_cast] theorem vr8_12 : VR r8_12 [⟨some 11, .assign (.const (.slice none 0 0)), 40, none⟩] := vR rfl
@[push_cast] theorem vr8_13 : VR r8_13 [⟨some 12, .assign (.const (.int .i64 0)), 3, none⟩] := vR rfl
@[push_cast] theorem vr8_14 : VR r8_14 [⟨some 66, .move (.tmp 12), 3, none⟩, ⟨some 67, .move (.tmp 9), 40, none⟩, ⟨some 68, .call ⟨.builtin .len, #[.tmp 67], #[40]⟩, 3, none⟩, ⟨some 69, .binOp .lss 3 (.tmp 66) (.tmp 68) 3, 4, none⟩] := vR rfl
@[push_cast] theorem vr8_16 : VR r8_16 [⟨some 73, .move (.tmp 5), 23, none⟩, ⟨some 74, .move (.tmp 9), 40, none⟩, ⟨some 75, .move (.tmp 12), 3, none⟩, ⟨some 76, .indexAddr 40 (.tmp 74) (.tmp 75), 0, none⟩, ⟨some 77, .load 9 (.tmp 76), 9, none⟩, ⟨some 78, .call ⟨.value (.func 14), #[.tmp 73, .tmp 77], #[23, 9]⟩, 31, none⟩, ⟨some 72, .move (.tmp 78), 31, none⟩, ⟨some 79, .extract (.tmp 72) 0, 22, none⟩, ⟨some 80, .extract (.tmp 72) 1, 4, none⟩, ⟨some 13, .assign (.tmp 79), 22, none⟩, ⟨some 14, .assign (.tmp 80), 4, none⟩] := vR rfl
@[push_cast] theorem vr8_17 : VR r8_17 [⟨some 81, .move (.tmp 11), 40, none⟩, ⟨some 82, .move (.tmp 13), 22, none⟩, ⟨some 83, .convert 22 9 (.tmp 82), 9, none⟩, ⟨some 84, .buildSlice 40 1 #[(0, (.tmp 83))], 40, none⟩, ⟨some 85, .call ⟨.builtin .append, #[.tmp 81, .tmp 84], #[40, 40]⟩, 40, none⟩, ⟨some 11, .assign (.tmp 85), 40, none⟩] := vR rfl
@[push_cast] theorem vr8_18 : VR r8_18 [⟨some 15, .assign (.const (.int .i64 0)), 3, none⟩] := vR rfl
@[push_cast] theorem vr8_19 : VR r8_19 [⟨some 86, .move (.tmp 15), 3, none⟩, ⟨some 87, .move (.tmp 13), 22, none⟩, ⟨some 88, .call ⟨.builtin .len, #[.tmp 87], #[22]⟩, 3, none⟩, ⟨some 89, .binOp .lss 3 (.tmp 86) (.tmp 88) 3, 4, none⟩] := vR rfl
@[push_cast] theorem vr8_21 : VR r8_21 [⟨some 92, .move (.tmp 13), 22, none⟩, ⟨some 93, .move (.tmp 15), 3, none⟩, ⟨some 94, .move (.tmp 13), 22, none⟩, ⟨some 95, .move (.tmp 15), 3, none⟩, ⟨some 96, .indexAddr 22 (.tmp 94) (.tmp 95), 0, none⟩, ⟨some 97, .load 5 (.tmp 96), 5, none⟩, ⟨some 98, .binOp .add 5 (.tmp 97) (.const (.int .u8 1)) 5, 5, none⟩, ⟨some 99, .indexAddr 22 (.tmp 92) (.tmp 93), 0, none⟩, ⟨none, .store 5 (.tmp 99) (.tmp 98), 0, none⟩] := vR rfl
@[push_cast] theorem vr8_20 : VR r8_20 [⟨some 90, .move (.tmp 15), 3, none⟩, ⟨some 91, .binOp .add 3 (.tmp 90) (.const (.int .i64 1)) 3, 3, none⟩, ⟨some 15, .assign (.tmp 91), 3, none⟩] := vR rfl
@[push_cast] theorem vr8_15 : VR r8_15 [⟨some 70, .move (.tmp 12), 3, none⟩, ⟨some 71, .binOp .add 3 (.tmp 70) (.const (.int .i64 1)) 3, 3, none⟩, ⟨some 12, .assign (.tmp 71), 3, none⟩] := vR rfl
@[push_cast] theorem vr8_22 : VR r8_22 [⟨some 100, .move (.tmp 5), 23, none⟩, ⟨some 101, .call ⟨.value (.func 23), #[.tmp 100], #[23]⟩, 23, none⟩, ⟨some 16, .assign (.tmp 101), 23, none⟩] := vR rfl
@[push_cast] theorem vr8_23 : VR r8_23 [⟨some 102, .move (.tmp 5), 23, none⟩, ⟨some 103, .fieldAddr 37 (.tmp 3) 1, 0, none⟩, ⟨some 104, .load 3 (.tmp 103), 3, none⟩, ⟨some 105, .call ⟨.value (.func 13), #[.tmp 102, .tmp 104], #[23, 3]⟩, 23, none⟩, ⟨some 17, .assign (.tmp 105), 23, none⟩] := vR rfl
@[push_cast] theorem vr8_24 : VR r8_24 [⟨some 106, .load 37 (.tmp 3), 37, none⟩, ⟨some 107, .call ⟨.value (.func 16), #[.tmp 106], #[37]⟩, 4, none⟩, ⟨some 18, .assign (.tmp 107), 4, none⟩] := vR rfl
@[push_cast] theorem vr8_25 : VR r8_25 [⟨some 108, .move (.tmp 16), 23, none⟩, ⟨some 109, .binOp .eql 23 (.tmp 108) (.const (.pointer none)) 23, 4, none⟩, ⟨some 110, .move (.tmp 109), 4, none⟩, ⟨some 111, .move (.tmp 17), 23, some (110, false)⟩, ⟨some 112, .binOp .eql 23 (.tmp 111) (.const (.pointer none)) 23, 4, some (110, false)⟩, ⟨some 113, .pick (.tmp 110) (.const (.bool true)) (.tmp 112), 4, none⟩] := vR rfl
@[push_cast] theorem vr8_26 : VR r8_26 [⟨some 4, .assign (.const (.bool false)), 4, none⟩] := vR rfl
@[push_cast] theorem vr8_27 : VR r8_27 [⟨some 114, .move (.tmp 18), 4, none⟩] := vR rfl
@[push_cast] theorem vr8_28 : VR r8_28 [⟨some 115, .load 37 (.tmp 3), 37, none⟩, ⟨some 116, .move (.tmp 16), 23, none⟩, ⟨some 117, .call ⟨.value (.func 18), #[.tmp 115, .tmp 116], #[37, 23]⟩, 24, none⟩] := vR rfl
@[push_cast] theorem vr8_29 : VR r8_29 [⟨some 118, .load 37 (.tmp 3), 37, none⟩, ⟨some 119, .move (.tmp 17), 23, none⟩, ⟨some 120, .call ⟨.value (.func 18), #[.tmp 118, .tmp 119], #[37, 23]⟩, 24, none⟩] := vR rfl
@[push_cast] theorem vr8_30 : VR r8_30 [⟨some 121, .move (.tmp 16), 23, none⟩, ⟨some 122, .buildSlice 22 1 #[(0, (.const (.int .u8 120)))], 22, none⟩, ⟨some 123, .convert 22 22 (.tmp 122), 22, none⟩, ⟨some 124, .call { callee := (.value (.func 10)), args := #[(.tmp 121), (.const (.string { data := #[110, 101, 119] })), (.tmp 123)], argTypes := #[23, 9, 22] }, 24, none⟩] := vR rfl
@[push_cast] theorem vr8_31 : VR r8_31 [⟨some 19, .assign (.const (.int .i64 0)), 3, none⟩] := vR rfl
@[push_cast] theorem vr8_32 : VR r8_32 [⟨some 125, .move (.tmp 19), 3, none⟩, ⟨some 126, .move (.tmp 9), 40, none⟩, ⟨some 127, .call ⟨.builtin .len, #[.tmp 126], #[40]⟩, 3, none⟩, ⟨some 128, .binOp .lss 3 (.tmp 125) (.tmp 127) 3, 4, none⟩] := vR rfl
@[push_cast] theorem vr8_34 : VR r8_34 [⟨some 132, .move (.tmp 5), 23, none⟩, ⟨some 133, .move (.tmp 9), 40, none⟩, ⟨some 134, .move (.tmp 19), 3, none⟩, ⟨some 135, .indexAddr 40 (.tmp 133) (.tmp 134), 0, none⟩, ⟨some 136, .load 9 (.tmp 135), 9, none⟩, ⟨some 137, .call ⟨.value (.func 14), #[.tmp 132, .tmp 136], #[23, 9]⟩, 31, none⟩, ⟨some 131, .move (.tmp 137), 31, none⟩, ⟨some 138, .extract (.tmp 131) 0, 22, none⟩, ⟨some 139, .extract (.tmp 131) 1, 4, none⟩, ⟨some 20, .assign (.tmp 138), 22, none⟩, ⟨some 21, .assign (.tmp 139), 4, none⟩] := vR rfl
@[push_cast] theorem vr8_35 : vc Try.prog (.draw r8_35 2) Q ds σ w = drawn Try.prog [(⟨some 140, .move (.tmp 20), 22, none⟩, [20]), (⟨some 141, .convert 22 9 (.tmp 140), 9, none⟩, [140]), (⟨some 142, .move (.tmp 11), 40, none⟩, [11]), (⟨some 143, .move (.tmp 19), 3, none⟩, [19]), (⟨some 144, .indexAddr 40 (.tmp 142) (.tmp 143), 0, none⟩, [142, 143]), (⟨some 145, .load 9 (.tmp 144), 9, none⟩, [144]), (⟨some 146, .binOp .neq 9 (.tmp 141) (.tmp 145) 9, 4, none⟩, [141, 145])] 2 (Q .normal ds) σ w := mk_eq rfl
@[push_cast] theorem vr8_36 : VR r8_36 [⟨some 4, .assign (.const (.bool false)), 4, none⟩] := vR rfl
@[push_cast] theorem vr8_33 : VR r8_33 [⟨some 129, .move (.tmp 19), 3, none⟩, ⟨some 130, .binOp .add 3 (.tmp 129) (.const (.int .i64 1)) 3, 3, none⟩, ⟨some 19, .assign (.tmp 130), 3, none⟩] := vR rfl
@[push_cast] theorem vr8_37 : VR r8_37 [⟨some 147, .call ⟨.value (.func 15), #[], #[]⟩, 4, none⟩, ⟨some 148, .move (.tmp 147), 4, none⟩, ⟨some 149, .move (.tmp 5), 23, some (148, true)⟩, ⟨some 150, .call ⟨.value (.func 17), #[.tmp 149], #[23]⟩, 3, some (148, true)⟩, ⟨some 151, .move (.tmp 10), 3, some (148, true)⟩, ⟨some 152, .binOp .eql 3 (.tmp 150) (.tmp 151) 3, 4, some (148, true)⟩, ⟨some 153, .pick (.tmp 148) (.tmp 152) (.const (.bool false)), 4, none⟩, ⟨some 154, .move (.tmp 153), 4, none⟩, ⟨some 155, .move (.tmp 5), 23, some (154, true)⟩, ⟨some 156, .call ⟨.value (.func 19), #[.tmp 155], #[23]⟩, 40, some (154, true)⟩, ⟨some 157, .move (.tmp 9), 40, some (154, true)⟩, ⟨some 158, .call ⟨.value (.func 29), #[.tmp 156, .tmp 157], #[40, 40]⟩, 4, some (154, true)⟩, ⟨some 159, .pick (.tmp 154) (.tmp 158) (.const (.bool false)), 4, none⟩, ⟨some 4, .assign (.tmp 159), 4, none⟩] := vR rfl
/-! 18 (columbary/columbarylaw03.Act).do (params #[37, 23], results #[(.tmp 4)], 41 slots) -/
def r18_0 : List VOp :=
  [⟨some 2, .box 37 (.tmp 0), 0, none⟩,
   ⟨some 4, .assign (.const (.int .i64 0)), 24, none⟩]
def r18_1 : List VOp :=
  [fad 5 37 2 0,
   lda 6 3 5]
def r18_2 : List VOp :=
  [⟨some 8, .binOp .eql 3 (.tmp 6) (.const (.int .i64 1)) 3, 4, none⟩,
   asg 7 8 4]
def r18_3 : List VOp :=
  [mv 9 1 23,
   fad 10 37 2 2,
   lda 11 9 10,
   fad 12 37 2 4,
   lda 13 22 12,
   ⟨some 14, .call ⟨.value (.func 10), #[.tmp 9, .tmp 11, .tmp 13], #[23, 9, 22]⟩, 24, none⟩,
   asg 4 14 24]
def r18_4 : List VOp :=
  [⟨some 16, .binOp .eql 3 (.tmp 6) (.const (.int .i64 2)) 3, 4, none⟩,
   asg 15 16 4]
def r18_5 : List VOp :=
  [mv 17 1 23,
   fad 18 37 2 2,
   lda 19 9 18,
   ⟨some 20, .call ⟨.value (.func 11), #[.tmp 17, .tmp 19], #[23, 9]⟩, 24, none⟩,
   asg 4 20 24]
def r18_6 : List VOp :=
  [⟨some 22, .binOp .eql 3 (.tmp 6) (.const (.int .i64 3)) 3, 4, none⟩,
   asg 21 22 4]
def r18_7 : List VOp :=
  [mv 23 1 23,
   fad 24 37 2 2,
   lda 25 9 24,
   fad 26 37 2 3,
   lda 27 9 26,
   ⟨some 28, .call ⟨.value (.func 12), #[.tmp 23, .tmp 25, .tmp 27], #[23, 9, 9]⟩, 24, none⟩,
   asg 4 28 24]
def r18_8 : List VOp :=
  [⟨some 30, .binOp .eql 3 (.tmp 6) (.const (.int .i64 4)) 3, 4, none⟩,
   asg 29 30 4]
def r18_9 : List VOp :=
  [mv 31 1 23,
   fad 32 37 2 2,
   lda 33 9 32,
   ⟨some 34, .call ⟨.value (.func 30), #[.tmp 31, .tmp 33], #[23, 9]⟩, 24, none⟩,
   asg 4 34 24]
def r18_10 : List VOp :=
  [⟨some 36, .binOp .eql 3 (.tmp 6) (.const (.int .i64 5)) 3, 4, none⟩,
   asg 35 36 4]
def r18_11 : List VOp :=
  [mv 37 1 23,
   fad 38 37 2 1,
   lda 39 3 38,
   ⟨some 40, .call ⟨.value (.func 27), #[.tmp 37, .tmp 39], #[23, 3]⟩, 24, none⟩,
   asg 4 40 24]
def r18_12 : List VOp :=
  [⟨some 4, .assign (.const (.int .i64 0)), 24, none⟩]
def B18 : VC :=
  (.seq (.region r18_0) (.seq (.seq (.region r18_1) (.block 0 (.seq (.region r18_2) (.cond (.tmp 7) (.seq (.region r18_3) .ret) (.seq (.region r18_4) (.cond (.tmp 15) (.seq (.region r18_5) .ret) (.seq (.region r18_6) (.cond (.tmp 21) (.seq (.region r18_7) .ret) (.seq (.region r18_8) (.cond (.tmp 29) (.seq (.region r18_9) .ret) (.seq (.region r18_10) (.cond (.tmp 35) (.seq (.region r18_11) .ret) .skip)))))))))))) (.seq (.region r18_12) .ret)))
theorem code18 : ∃ c, Try.f18.body = some c ∧ abs Try.f18.ntmps c = B18 := ⟨_, rfl, by kernel_rfl⟩
theorem hb18 : HasBody Try.prog 18 := hasBody_of Try.func18 (by kernel_rfl)
theorem res18 : Try.f18.results = #[(.tmp 4)] := rfl
theorem enter18 {w : World} {R : Value → World → Prop} (x0 x1 : Value) (h : vc Try.prog B18 (retK Try.prog #[(.tmp 4)] R) [] (initEnv [x0, x1] 0) w) : FnC Try.prog 18 #[x0, x1] w R := by
  obtain ⟨c, h1, h2⟩ := code18
  exact hb18.fn (ret_of_vc mixed Try.func18 h1 (Nat.le_of_ble_eq_true rfl) B18 h2 h)
@[push_cast] theorem vr18_0 : VR r18_0 [⟨some 2, .box 37 (.tmp 0), 0, none⟩, ⟨some 4, .assign (.const (.int .i64 0)), 24, none⟩] := vR rfl
@[push_cast] theorem vr18_1 : VR r18_1 [⟨some 5, .fieldAddr 37 (.tmp 2) 0, 0, none⟩, ⟨some 6, .load 3 (.tmp 5), 3, none⟩] := vR rfl
@[push_cast] theorem vr18_2 : VR r18_2 [⟨some 8, .binOp .eql 3 (.tmp 6) (.const (.int .i64 1)) 3, 4, none⟩, ⟨some 7, .assign (.tmp 8), 4, none⟩] := vR rfl
@[push_cast] theorem vr18_3 : VR r18_3 [⟨some 9, .move (.tmp 1), 23, none⟩, ⟨some 10, .fieldAddr 37 (.tmp 2) 2, 0, none⟩, ⟨some 11, .load 9 (.tmp 10), 9, none⟩, ⟨some 12, .fieldAddr 37 (.tmp 2) 4, 0, none⟩, ⟨some 13, .load 22 (.tmp 12), 22, none⟩, ⟨some 14, .call ⟨.value (.func 10), #[.tmp 9, .tmp 11, .tmp 13], #[23, 9, 22]⟩, 24, none⟩, ⟨some 4, .assign (.tmp 14), 24, none⟩] := vR rfl
@[push_cast] theorem vr18_4 : VR r18_4 [⟨some 16, .binOp .eql 3 (.tmp 6) (.const (.int .i64 2)) 3, 4, none⟩, ⟨some 15, .assign (.tmp 16), 4, none⟩] := vR rfl
@[push_cast] theorem vr18_5 : VR r18_5 [⟨some 17, .move (.tmp 1), 23, none⟩, ⟨some 18, .fieldAddr 37 (.tmp 2) 2, 0, none⟩, ⟨some 19, .load 9 (.tmp 18), 9, none⟩, ⟨some 20, .call ⟨.value (.func 11), #[.tmp 17, .tmp 19], #[23, 9]⟩, 24, none⟩, ⟨some 4, .assign (.tmp 20), 24, none⟩] := vR rfl
@[push_cast] theorem vr18_6 : VR r18_6 [⟨some 22, .binOp .eql 3 (.tmp 6) (.const (.int .i64 3)) 3, 4, none⟩, ⟨some 21, .assign (.tmp 22), 4, none⟩] := vR rfl
@[push_cast] theorem vr18_7 : VR r18_7 [⟨some 23, .move (.tmp 1), 23, none⟩, ⟨some 24, .fieldAddr 37 (.tmp 2) 2, 0, none⟩, ⟨some 25, .load 9 (.tmp 24), 9, none⟩, ⟨some 26, .fieldAddr 37 (.tmp 2) 3, 0, none⟩, ⟨some 27, .load 9 (.tmp 26), 9, none⟩, ⟨some 28, .call ⟨.value (.func 12), #[.tmp 23, .tmp 25, .tmp 27], #[23, 9, 9]⟩, 24, none⟩, ⟨some 4, .assign (.tmp 28), 24, none⟩] := vR rfl
@[push_cast] theorem vr18_8 : VR r18_8 [⟨some 30, .binOp .eql 3 (.tmp 6) (.const (.int .i64 4)) 3, 4, none⟩, ⟨some 29, .assign (.tmp 30), 4, none⟩] := vR rfl
@[push_cast] theorem vr18_9 : VR r18_9 [⟨some 31, .move (.tmp 1), 23, none⟩, ⟨some 32, .fieldAddr 37 (.tmp 2) 2, 0, none⟩, ⟨some 33, .load 9 (.tmp 32), 9, none⟩, ⟨some 34, .call ⟨.value (.func 30), #[.tmp 31, .tmp 33], #[23, 9]⟩, 24, none⟩, ⟨some 4, .assign (.tmp 34), 24, none⟩] := vR rfl
@[push_cast] theorem vr18_10 : VR r18_10 [⟨some 36, .binOp .eql 3 (.tmp 6) (.const (.int .i64 5)) 3, 4, none⟩, ⟨some 35, .assign (.tmp 36), 4, none⟩] := vR rfl
@[push_cast] theorem vr18_11 : VR r18_11 [⟨some 37, .move (.tmp 1), 23, none⟩, ⟨some 38, .fieldAddr 37 (.tmp 2) 1, 0, none⟩, ⟨some 39, .load 3 (.tmp 38), 3, none⟩, ⟨some 40, .call ⟨.value (.func 27), #[.tmp 37, .tmp 39], #[23, 3]⟩, 24, none⟩, ⟨some 4, .assign (.tmp 40), 24, none⟩] := vR rfl
@[push_cast] theorem vr18_12 : VR r18_12 [⟨some 4, .assign (.const (.int .i64 0)), 24, none⟩] := vR rfl
/-! 29 columbary/columbaryref03.Texts (params #[40, 40], results #[(.tmp 4)], 26 slots) -/
def W29_0 : List Nat := [4, 5, 11, 12, 13, 14, 15, 16, 17, 18, 19, 20, 21, 22, 23, 24, 25]
@[push_cast] theorem W29_0_def : W29_0 = [4, 5, 11, 12, 13, 14, 15, 16, 17, 18, 19, 20, 21, 22, 23, 24, 25] := mk_eq rfl
def r29_0 : List VOp :=
  [⟨some 4, .assign (.const (.bool false)), 4, none⟩]
def r29_1 : List VOp :=
  [mv 6 0 40,
   ⟨some 7, .call ⟨.builtin .len, #[.tmp 6], #[40]⟩, 3, none⟩,
   mv 8 1 40,
   ⟨some 9, .call ⟨.builtin .len, #[.tmp 8], #[40]⟩, 3, none⟩,
   ⟨some 10, .binOp .neq 3 (.tmp 7) (.tmp 9) 3, 4, none⟩]
def r29_2 : List VOp :=
  [⟨some 4, .assign (.const (.bool false)), 4, none⟩]
def r29_3 : List VOp :=
  [⟨some 5, .assign (.const (.int .i64 0)), 3, none⟩]
def r29_4 : List VOp :=
  [mv 11 5 3,
   mv 12 0 40,
   ⟨some 13, .call ⟨.builtin .len, #[.tmp 12], #[40]⟩, 3, none⟩,
   ⟨some 14, .binOp .lss 3 (.tmp 11) (.tmp 13) 3, 4, none⟩]
def r29_6 : List VOp :=
  [mv 17 0 40,
   mv 18 5 3,
   iad 19 40 17 18,
   lda 20 9 19,
   mv 21 1 40,
   mv 22 5 3,
   iad 23 40 21 22,
   lda 24 9 23,
   ⟨some 25, .binOp .neq 9 (.tmp 20) (.tmp 24) 9, 4, none⟩]
def r29_7 : List VOp :=
  [⟨some 4, .assign (.const (.bool false)), 4, none⟩]
def r29_5 : List VOp :=
  [mv 15 5 3,
   ⟨some 16, .binOp .add 3 (.tmp 15) (.const (.int .i64 1)) 3, 3, none⟩,
   asg 5 16 3]
def r29_8 : List VOp :=
  [⟨some 4, .assign (.const (.bool true)), 4, none⟩]
def B29 : VC :=
  (.seq (.region r29_0) (.seq (.seq (.region r29_1) (.cond (.tmp 10) (.seq (.region r29_2) .ret) .skip)) (.seq (.seq (.region r29_3) (.block 0 (.loop (.seq (.seq (.region r29_4) (.cond (.tmp 14) .skip (.exit 0))) (.seq (.block 1 (.seq (.draw r29_6 2) (.cond (.tmp 25) (.seq (.region r29_7) .ret) .skip))) (.region r29_5)))))) (.seq (.region r29_8) .ret))))
theorem code29 : ∃ c, Try.f29.body = some c ∧ abs Try.f29.ntmps c = B29 := ⟨_, rfl, by kernel_rfl⟩
theorem hb29 : HasBody Try.prog 29 := hasBody_of Try.func29 (by kernel_rfl)
theorem res29 : Try.f29.results = #[(.tmp 4)] := rfl
theorem enter29 {w : World} {R : Value → World → Prop} (x0 x1 : Value) (h : vc Try.prog B29 (retK Try.prog #[(.tmp 4)] R) [] (initEnv [x0, x1] 0) w) : FnC Try.prog 29 #[x0, x1] w R := by
  obtain ⟨c, h1, h2⟩ := code29
  exact hb29.fn (ret_of_vc mixed Try.func29 h1 (Nat.le_of_ble_eq_true rfl) B29 h2 h)
@[push_cast] theorem vr29_0 : VR r29_0 [⟨some 4, .assign (.const (.bool false)), 4, none⟩] := vR rfl
@[push_cast] theorem vr29_1 : VR r29_1 [⟨some 6, .move (.tmp 0), 40, none⟩, ⟨some 7, .call ⟨.builtin .len, #[.tmp 6], #[40]⟩, 3, none⟩, ⟨some 8, .move (.tmp 1), 40, none⟩, ⟨some 9, .call ⟨.builtin .len, #[.tmp 8], #[40]⟩, 3, none⟩, ⟨some 10, .binOp .neq 3 (.tmp 7) (.tmp 9) 3, 4, none⟩] := vR rfl
@[push_cast] theorem vr29_2 : VR r29_2 [⟨some 4, .assign (.const (.bool false)), 4, none⟩] := vR rfl
@[push_cast] theorem vr29_3 : VR r29_3 [⟨some 5, .assign (.const (.int .i64 0)), 3, none⟩] := vR rfl
@[push_cast] theorem vr29_4 : VR r29_4 [⟨some 11, .move (.tmp 5), 3, none⟩, ⟨some 12, .move (.tmp 0), 40, none⟩, ⟨some 13, .call ⟨.builtin .len, #[.tmp 12], #[40]⟩, 3, none⟩, ⟨some 14, .binOp .lss 3 (.tmp 11) (.tmp 13) 3, 4, none⟩] := vR rfl
@[push_cast] theorem vr29_6 : vc Try.prog (.draw r29_6 2) Q ds σ w = drawn Try.prog [(⟨some 17, .move (.tmp 0), 40, none⟩, [0]), (⟨some 18, .move (.tmp 5), 3, none⟩, [5]), (⟨some 19, .indexAddr 40 (.tmp 17) (.tmp 18), 0, none⟩, [17, 18]), (⟨some 20, .load 9 (.tmp 19), 9, none⟩, [19]), (⟨some 21, .move (.tmp 1), 40, none⟩, [1]), (⟨some 22, .move (.tmp 5), 3, none⟩, [5]), (⟨some 23, .indexAddr 40 (.tmp 21) (.tmp 22), 0, none⟩, [21, 22]), (⟨some 24, .load 9 (.tmp 23), 9, none⟩, [23]), (⟨some 25, .binOp .neq 9 (.tmp 20) (.tmp 24) 9, 4, none⟩, [20, 24])] 2 (Q .normal ds) σ w := mk_eq rfl
@[push_cast] theorem vr29_7 : VR r29_7 [⟨some 4, .assign (.const (.bool false)), 4, none⟩] := vR rfl
@[push_cast] theorem vr29_5 : VR r29_5 [⟨some 15, .move (.tmp 5), 3, none⟩, ⟨some 16, .binOp .add 3 (.tmp 15) (.const (.int .i64 1)) 3, 3, none⟩, ⟨some 5, .assign (.tmp 16), 3, none⟩] := vR rfl
@[push_cast] theorem vr29_8 : VR r29_8 [⟨some 4, .assign (.const (.bool true)), 4, none⟩] := vR rfl
@[push_cast] theorem bsl22_1_CodesW {K : Value → World → Prop} {w : World} (x0 : Int) : vBuildSlice Try.prog 22 1 #[(0, (.int .u8 x0))] K w = K (.slice (some ⟨w.heap.size, 0, none⟩) 1 1) (w.alloc (.cells #[(.int .u8 x0)] 5)) :=
  vBuildSlice_ok Try.underlying22 ti5 (by kernel_rfl) (by decide)
@[push_cast] theorem bsl40_1_CodesW {K : Value → World → Prop} {w : World} (x0 : ByteArray) : vBuildSlice Try.prog 40 1 #[(0, (.string x0))] K w = K (.slice (some ⟨w.heap.size, 0, none⟩) 1 1) (w.alloc (.cells #[(.string x0)] 9)) :=
  vBuildSlice_ok Try.underlying40 ti9 (by kernel_rfl) (by decide)
end Go.Proofs.Ytmfcnooleejgmaa
end
section
set_option linter.unusedSimpArgs false
namespace Go.Proofs.Ytmfcnooleejgmaa
open Go.Vc Go.Vlt Go.Key
set_option maxRecDepth 100000
def aDo (x : ActD) (s : Vst) : Int × Vst :=
  if x.kind = 1 then aApp x.a x.b s else if x.kind = 2 then aSync x.a s else if x.kind = 3 then aRen x.a x.z s else if x.kind = 4 then aDel x.a s else if x.kind = 5 then aArm x.n s else (0, s)
theorem aDo_good {s : Vst} (g : Good s) (x : ActD) (hn : x.n ≤ 9223372036854775807) : Good (aDo x s).2 := by
  unfold aDo
  split
  · exact aApp_good g _ _
  split
  · exact aSync_good g _
  split
  · exact aRen_good g _ _
  split
  · exact aDel_good g _
  split
  · exact aArm_good g _ hn
  · exact g
theorem fit_is {x : ActD} (h : fitB x = true) : x.a.size ≤ 200 ∧ x.z.size ≤ 200 ∧ x.b.length ≤ 200 := by
  unfold fitB at h
  simp only [Bool.and_eq_true, decide_eq_true_eq] at h
  exact ⟨h.1.1, h.1.2, h.2⟩
theorem inB_of {w w1 : World} {v : Value} {xs : List Value} (h : Sl w v xs) {bk : Nat} (hb : w.heap.size ≤ bk) : ∃ j, inB j v ∧ j ≠ bk := by
  rcases inB_lt h with h1 | ⟨k, hk, h1⟩
  · exact ⟨bk + 1, h1 _, by omega⟩
  · exact ⟨k, h1, by omega⟩
/-- An act's box. -/
theorem actBox (w : World) (x : ActD) : Later w (w.alloc (.cells (acC x).toArray 37)) ∧ (w.alloc (.cells (acC x).toArray 37)).heap.size = w.heap.size + 1 ∧ Blk (w.alloc (.cells (acC x).toArray 37)) w.heap.size (acC x).toArray 37 := ⟨later_alloc _ _, World.size_alloc _ _, Blk.new _ _ _⟩
theorem actAt {w : World} {k : Nat} {x : ActD} (h : Blk w k (acC x).toArray 37) : w.cell? ⟨k, 0, none⟩ = some (.int .i64 x.kind) ∧ w.cell? ⟨k, 1, none⟩ = some (.int .i64 x.n) ∧ w.cell? ⟨k, 2, none⟩ = some (.string x.a) ∧ w.cell? ⟨k, 3, none⟩ = some (.string x.z) ∧ w.cell? ⟨k, 4, none⟩ = some x.bv ∧ cellsAt w ⟨k, 0, none⟩ 5 = some (acC x) :=
  ⟨h.cell 0, h.cell 1, h.cell 2, h.cell 3, h.cell 4, Blk.cellsAt (l := acC x) h⟩
theorem do_c (x : ActD) (bk r : Nat) (s : Vst) (w : World) (h : VS w bk r s) (g : Good s) (hx : x.Ok w) (hf : fitB x = true) (hj : ∃ j, inB j x.bv ∧ j ≠ bk) :
    FnC Try.prog 18 #[.agg (acC x).toArray, .pointer (some ⟨bk, 0, none⟩)] w fun v w' => v = .int .i64 (aDo x s).1 ∧ VS w' bk r (aDo x s).2 ∧ Chg w w' [bk, r] := by
  obtain ⟨f1, f2, f3⟩ := fit_is hf
  obtain ⟨l1, s1, B1⟩ := actBox w x
  unfold aDo
  refine enter18 _ _ ?_
  unfold B18
  have eca : (Value.agg (acC x).toArray).cells = (acC x).toArray := rfl
  repeat' (first | (simp (disch := omega) only [push_cast, ↓reduceIte, zA, zG, zB, zH, zI, zC, zJ, zK, zL, zD, zE, zF, zM, zN, zO, zP, zQ, reduceCtorEq, not_true_eq_false, not_false_eq_true, eca]) | (first | refine vIfE_of ?_ ?_ | refine vIfD_of ?_ ?_ | refine vIfQ_of ?_ ?_ | refine vIfV_of ?_ ?_) <;> intro _ | refine And.intro (by omega) ?_ | fail)
  generalize w.alloc (.cells (acC x).toArray 37) = w1 at *
  obtain ⟨g0, g1, g2, g3, g4, _⟩ := actAt B1
  have c1 : Chg w w1 [bk, r] := Chg.of_later l1
  have h1 := h.later l1
  by_cases k1 : x.kind = 1
  · have e1 : decide (x.kind = 1) = true := decide_eq_true k1
    rw [if_pos k1]
    repeat' (first | (simp (disch := omega) only [push_cast, ↓reduceIte, zA, zG, zB, zH, zI, zC, zJ, zK, zL, zD, zE, zF, zM, zN, zO, zP, zQ, reduceCtorEq, not_true_eq_false, not_false_eq_true, g0, g1, g2, g3, g4, e1, decide_false, decide_true, addr_add_eq, Nat.zero_add]) | (first | refine vIfE_of ?_ ?_ | refine vIfD_of ?_ ?_ | refine vIfQ_of ?_ ?_ | refine vIfV_of ?_ ?_) <;> intro _ | refine And.intro (by omega) ?_ | refine drawn_q ?_ | fail)
    refine (append_s bk r s x.a _ x.b w1 h1 g (by omega) (hx.sl.later l1) hj (by omega)).mono ?_
    rintro _ w2 ⟨rfl, h2, c2⟩
    repeat' (first | (simp (disch := omega) only [push_cast, ↓reduceIte, zA, zG, zB, zH, zI, zC, zJ, zK, zL, zD, zE, zF, zM, zN, zO, zP, zQ, reduceCtorEq, not_true_eq_false, not_false_eq_true]) | (first | refine vIfE_of ?_ ?_ | refine vIfD_of ?_ ?_ | refine vIfQ_of ?_ ?_ | refine vIfV_of ?_ ?_) <;> intro _ | refine And.intro (by omega) ?_ | refine drawn_q ?_ | fail)
    first | exact ⟨rfl, h2, c1.trans c2⟩ | exact ⟨h2, c1.trans c2⟩ | exact c1.trans c2
  have e1 : decide (x.kind = 1) = false := decide_eq_false k1
  by_cases k2 : x.kind = 2
  · have e2 : decide (x.kind = 2) = true := decide_eq_true k2
    rw [if_neg k1, if_pos k2]
    repeat' (first | (simp (disch := omega) only [push_cast, ↓reduceIte, zA, zG, zB, zH, zI, zC, zJ, zK, zL, zD, zE, zF, zM, zN, zO, zP, zQ, reduceCtorEq, not_true_eq_false, not_false_eq_true, g0, g1, g2, g3, g4, e1, e2, decide_false, decide_true, addr_add_eq, Nat.zero_add]) | (first | refine vIfE_of ?_ ?_ | refine vIfD_of ?_ ?_ | refine vIfQ_of ?_ ?_ | refine vIfV_of ?_ ?_) <;> intro _ | refine And.intro (by omega) ?_ | refine drawn_q ?_ | fail)
    refine (sync_s bk r s x.a w1 h1 g (by omega)).mono ?_
    rintro _ w2 ⟨rfl, h2, c2⟩
    repeat' (first | (simp (disch := omega) only [push_cast, ↓reduceIte, zA, zG, zB, zH, zI, zC, zJ, zK, zL, zD, zE, zF, zM, zN, zO, zP, zQ, reduceCtorEq, not_true_eq_false, not_false_eq_true]) | (first | refine vIfE_of ?_ ?_ | refine vIfD_of ?_ ?_ | refine vIfQ_of ?_ ?_ | refine vIfV_of ?_ ?_) <;> intro _ | refine And.intro (by omega) ?_ | refine drawn_q ?_ | fail)
    first | exact ⟨rfl, h2, c1.trans c2⟩ | exact ⟨h2, c1.trans c2⟩ | exact c1.trans c2
  have e2 : decide (x.kind = 2) = false := decide_eq_false k2
  by_cases k3 : x.kind = 3
  · have e3 : decide (x.kind = 3) = true := decide_eq_true k3
    rw [if_neg k1, if_neg k2, if_pos k3]
    repeat' (first | (simp (disch := omega) only [push_cast, ↓reduceIte, zA, zG, zB, zH, zI, zC, zJ, zK, zL, zD, zE, zF, zM, zN, zO, zP, zQ, reduceCtorEq, not_true_eq_false, not_false_eq_true, g0, g1, g2, g3, g4, e1, e2, e3, decide_false, decide_true, addr_add_eq, Nat.zero_add]) | (first | refine vIfE_of ?_ ?_ | refine vIfD_of ?_ ?_ | refine vIfQ_of ?_ ?_ | refine vIfV_of ?_ ?_) <;> intro _ | refine And.intro (by omega) ?_ | refine drawn_q ?_ | fail)
    refine (rename_s bk r s x.a x.z w1 h1 g (by omega) (by omega)).mono ?_
    rintro _ w2 ⟨rfl, h2, c2⟩
    repeat' (first | (simp (disch := omega) only [push_cast, ↓reduceIte, zA, zG, zB, zH, zI, zC, zJ, zK, zL, zD, zE, zF, zM, zN, zO, zP, zQ, reduceCtorEq, not_true_eq_false, not_false_eq_true]) | (first | refine vIfE_of ?_ ?_ | refine vIfD_of ?_ ?_ | refine vIfQ_of ?_ ?_ | refine vIfV_of ?_ ?_) <;> intro _ | refine And.intro (by omega) ?_ | refine drawn_q ?_ | fail)
    first | exact ⟨rfl, h2, c1.trans c2⟩ | exact ⟨h2, c1.trans c2⟩ | exact c1.trans c2
  have e3 : decide (x.kind = 3) = false := decide_eq_false k3
  by_cases k4 : x.kind = 4
  · have e4 : decide (x.kind = 4) = true := decide_eq_true k4
    rw [if_neg k1, if_neg k2, if_neg k3, if_pos k4]
    repeat' (first | (simp (disch := omega) only [push_cast, ↓reduceIte, zA, zG, zB, zH, zI, zC, zJ, zK, zL, zD, zE, zF, zM, zN, zO, zP, zQ, reduceCtorEq, not_true_eq_false, not_false_eq_true, g0, g1, g2, g3, g4, e1, e2, e3, e4, decide_false, decide_true, addr_add_eq, Nat.zero_add]) | (first | refine vIfE_of ?_ ?_ | refine vIfD_of ?_ ?_ | refine vIfQ_of ?_ ?_ | refine vIfV_of ?_ ?_) <;> intro _ | refine And.intro (by omega) ?_ | refine drawn_q ?_ | fail)
    refine (delete_s bk r s x.a w1 h1 g (by omega)).mono ?_
    rintro _ w2 ⟨rfl, h2, c2⟩
    repeat' (first | (simp (disch := omega) only [push_cast, ↓reduceIte, zA, zG, zB, zH, zI, zC, zJ, zK, zL, zD, zE, zF, zM, zN, zO, zP, zQ, reduceCtorEq, not_true_eq_false, not_false_eq_true]) | (first | refine vIfE_of ?_ ?_ | refine vIfD_of ?_ ?_ | refine vIfQ_of ?_ ?_ | refine vIfV_of ?_ ?_) <;> intro _ | refine And.intro (by omega) ?_ | refine drawn_q ?_ | fail)
    first | exact ⟨rfl, h2, c1.trans c2⟩ | exact ⟨h2, c1.trans c2⟩ | exact c1.trans c2
  have e4 : decide (x.kind = 4) = false := decide_eq_false k4
  by_cases k5 : x.kind = 5
  · have e5 : decide (x.kind = 5) = true := decide_eq_true k5
    rw [if_neg k1, if_neg k2, if_neg k3, if_neg k4, if_pos k5]
    repeat' (first | (simp (disch := omega) only [push_cast, ↓reduceIte, zA, zG, zB, zH, zI, zC, zJ, zK, zL, zD, zE, zF, zM, zN, zO, zP, zQ, reduceCtorEq, not_true_eq_false, not_false_eq_true, g0, g1, g2, g3, g4, e1, e2, e3, e4, e5, decide_false, decide_true, addr_add_eq, Nat.zero_add]) | (first | refine vIfE_of ?_ ?_ | refine vIfD_of ?_ ?_ | refine vIfQ_of ?_ ?_ | refine vIfV_of ?_ ?_) <;> intro _ | refine And.intro (by omega) ?_ | refine drawn_q ?_ | fail)
    refine (arm_s bk r s x.n w1 h1).mono ?_
    rintro _ w2 ⟨rfl, h2, c2⟩
    repeat' (first | (simp (disch := omega) only [push_cast, ↓reduceIte, zA, zG, zB, zH, zI, zC, zJ, zK, zL, zD, zE, zF, zM, zN, zO, zP, zQ, reduceCtorEq, not_true_eq_false, not_false_eq_true]) | (first | refine vIfE_of ?_ ?_ | refine vIfD_of ?_ ?_ | refine vIfQ_of ?_ ?_ | refine vIfV_of ?_ ?_) <;> intro _ | refine And.intro (by omega) ?_ | refine drawn_q ?_ | fail)
    first | exact ⟨rfl, h2, c1.trans c2⟩ | exact ⟨h2, c1.trans c2⟩ | exact c1.trans c2
  have e5 : decide (x.kind = 5) = false := decide_eq_false k5
  rw [if_neg k1, if_neg k2, if_neg k3, if_neg k4, if_neg k5]
  repeat' (first | (simp (disch := omega) only [push_cast, ↓reduceIte, zA, zG, zB, zH, zI, zC, zJ, zK, zL, zD, zE, zF, zM, zN, zO, zP, zQ, reduceCtorEq, not_true_eq_false, not_false_eq_true, g0, g1, g2, g3, g4, e1, e2, e3, e4, e5, decide_false, decide_true, addr_add_eq, Nat.zero_add]) | (first | refine vIfE_of ?_ ?_ | refine vIfD_of ?_ ?_ | refine vIfQ_of ?_ ?_ | refine vIfV_of ?_ ?_) <;> intro _ | refine And.intro (by omega) ?_ | refine drawn_q ?_ | fail)
  first | exact ⟨rfl, h1, c1⟩ | exact ⟨h1, c1⟩ | exact c1
end Go.Proofs.Ytmfcnooleejgmaa
end
section
namespace Go.Proofs.Ytmfcnooleejgmaa
open Go.Vc Go.Vlt Go.Key
set_option maxRecDepth 100000
theorem acC_len (x : ActD) : (acC x).length = 5 := rfl
theorem aDo_facts {s : Vst} (x : ActD) (g : Good s) (hk : x.kind ≤ 4) : (aDo x s).2.room = s.room ∧ ((aDo x s).1 ≠ 0 → (aDo x s).2.L = s.L) ∧ (x.kind = 1 → (aDo x s).1 = 0 → tl (aDo x s).2.L = tl s.L + x.b.length) := by
  unfold aDo
  split
  · rename_i h1
    unfold aApp
    split
    · exact ⟨rfl, fun _ => rfl, fun _ h => by cases h⟩
    split
    · exact ⟨rfl, fun _ => rfl, fun _ h => by cases h⟩
    split
    · exact ⟨rfl, fun _ => rfl, fun _ h => by cases h⟩
    · refine ⟨rfl, fun h => absurd rfl h, fun _ _ => ?_⟩
      have := (tl_put (f := ⟨x.a, oB x.a s.L ++ x.b, oS x.a s.L⟩) g.srd).1
      dsimp only at this ⊢
      rw [this, List.length_append]
      omega
  split
  · rename_i h1 h2
    unfold aSync
    split
    · exact ⟨rfl, fun _ => rfl, fun h => absurd h h1⟩
    split
    · exact ⟨rfl, fun _ => rfl, fun h => absurd h h1⟩
    · exact ⟨rfl, fun h => absurd rfl h, fun h => absurd h h1⟩
  split
  · rename_i h1 h2 h3
    unfold aRen
    split
    · exact ⟨rfl, fun _ => rfl, fun h => absurd h h1⟩
    split
    · exact ⟨rfl, fun _ => rfl, fun h => absurd h h1⟩
    · exact ⟨rfl, fun h => absurd rfl h, fun h => absurd h h1⟩
  split
  · rename_i h1 h2 h3 h4
    unfold aDel
    split
    · exact ⟨rfl, fun _ => rfl, fun h => absurd h h1⟩
    split
    · exact ⟨rfl, fun _ => rfl, fun h => absurd h h1⟩
    · exact ⟨rfl, fun h => absurd rfl h, fun h => absurd h h1⟩
  split
  · omega
  · rename_i h1 h2 h3 h4 h5
    exact ⟨rfl, fun _ => rfl, fun h => absurd h h1⟩
/-- An act put into a new box. -/
theorem vStore_act {K : Value → World → Prop} (x : ActD) (w : World) (hx : x.Ok w) (hK : K undef (w.alloc (.cells (acC x).toArray 37))) :
    vStore Try.prog 37 (.pointer (some ⟨w.heap.size, 0, none⟩)) (.agg (acC x).toArray) K (w.alloc (.cells #[.int .i64 0, .int .i64 0, .string ⟨#[]⟩, .string ⟨#[]⟩, .slice none 0 0] 37)) := by
  obtain ⟨o, c, hv⟩ := hx.sl.slice
  refine vStore_new rfl rfl (by
    intro u hu
    unfold acC at hu
    rw [hv] at hu
    simp at hu
    rcases hu with rfl | rfl | rfl | rfl | rfl <;> rfl) ?_
  exact hK
theorem oB_at {L : List Fl} (h : Srd L) {i : Nat} (hi : i < L.length) : oB (L[i]).name L = (L[i]).b := by
  unfold oB
  rw [lk_mem h (List.getElem_mem hi)]; rfl
theorem tl_take {L : List Fl} : ∀ {i : Nat} (hi : i < L.length), tl (L.take (i + 1)) = tl (L.take i) + (L[i]).b.length := by
  induction L with
  | nil => intro i hi; simp at hi
  | cons x l ih =>
    intro i hi
    cases i with
    | zero => simp [tl]
    | succ i =>
      have := ih (i := i) (by simpa using hi)
      simp only [List.take_succ_cons, List.getElem_cons_succ]
      show (x.b.length : Int) + tl (l.take (i + 1)) = x.b.length + tl (l.take i) + _
      omega
theorem tl_take_le {L : List Fl} (i : Nat) : tl (L.take i) ≤ tl L := by
  induction L generalizing i with
  | nil => simp
  | cons x l ih =>
    cases i with
    | zero => have := tl_nn (x :: l); simpa [tl] using this
    | succ i =>
      have := ih i
      show (x.b.length : Int) + tl (l.take i) ≤ x.b.length + tl l
      omega
end Go.Proofs.Ytmfcnooleejgmaa
end
section
set_option linter.unusedSimpArgs false
namespace Go.Proofs.Ytmfcnooleejgmaa
open Go.Vc Go.Vlt Go.Key
set_option maxRecDepth 100000
abbrev StS (w : World) (v : Value) (l : List ByteArray) : Prop := Sl w v (l.map Value.string)
theorem StS.atS {w : World} {a : Addr} {l : List ByteArray} {n c : Nat} (h : StS w (.slice (some a) n c) l) {i : Nat} (hi : i < l.length) : w.cell? (a.add i) = some (.string l[i]) := Sl.at h (by simp [hi])
theorem OwnN.st {w : World} {B : Nat} {v : Value} {l : List ByteArray} (h : OwnN w B v l) : StS w v l := Sl.of_own (n := l.length) h
theorem texts_c (u v : Value) (a b : List ByteArray) (w : World) (hu : StS w u a) (hv : StS w v b) : FnC Try.prog 29 #[u, v] w fun r w' => r = .bool (decide (a = b)) ∧ Later w w' := by
  obtain ⟨oa, ca, rfl, g1, g2, hu, g3⟩ := hu.openM
  obtain ⟨ob, cb, rfl, k1, k2, hv, k3⟩ := hv.openM
  refine enter29 _ _ ?_
  unfold B29
  by_cases hlen : a.length = b.length
  · repeat' (first | (simp (disch := omega) only [push_cast, ↓reduceIte, zA, zG, zB, zH, zI, zC, zJ, zK, zL, zD, zE, zF, zM, zN, zO, zP, zQ, reduceCtorEq, not_true_eq_false, not_false_eq_true]) | (first | refine vIfE_of ?_ ?_ | refine vIfD_of ?_ ?_ | refine vIfQ_of ?_ ?_ | refine vIfV_of ?_ ?_) <;> intro _ | refine And.intro (by omega) ?_ | refine drawn_q ?_ | fail)
    refine vc_loop W29_0 (fun i : Nat => [(4, .bool false), (5, .int .i64 (i : Int))])
      (fun i w' => i ≤ a.length ∧ Later w w' ∧ a.take i = b.take i) (fun i => a.length - i) 0 (by decide) ?_ ?_ ?_
    · simp (disch := omega) only [push_cast, ↓reduceIte, zA, zG, zB, zH, zI, zC, zJ, zK, zL, zD, zE, zF, zM, zN, zO, zP, zQ, reduceCtorEq, not_true_eq_false, not_false_eq_true]
    · exact ⟨by omega, Later.refl _, by simp⟩
    rintro i uu w0 ⟨hi, hl, he⟩
    by_cases ha : i < a.length
    · have hb : i < b.length := by omega
      obtain ⟨aa, rfl⟩ := hu.some ha
      obtain ⟨bb, rfl⟩ := hv.some hb
      have c1 := StS.atS (hu.later hl) ha
      have c2 := StS.atS (hv.later hl) hb
      by_cases hab : a[i] = b[i]
      · repeat' (first | (simp (disch := omega) only [push_cast, ↓reduceIte, zA, zG, zB, zH, zI, zC, zJ, zK, zL, zD, zE, zF, zM, zN, zO, zP, zQ, reduceCtorEq, not_true_eq_false, not_false_eq_true, c1, c2, hab, decide_true, Bool.not_true]) | (first | refine vIfE_of ?_ ?_ | refine vIfD_of ?_ ?_ | refine vIfQ_of ?_ ?_ | refine vIfV_of ?_ ?_) <;> intro _ | refine And.intro (by omega) ?_ | refine drawn_q ?_ | fail)
        intro w1 hl1
        repeat' (first | (simp (disch := omega) only [push_cast, ↓reduceIte, zA, zG, zB, zH, zI, zC, zJ, zK, zL, zD, zE, zF, zM, zN, zO, zP, zQ, reduceCtorEq, not_true_eq_false, not_false_eq_true]) | (first | refine vIfE_of ?_ ?_ | refine vIfD_of ?_ ?_ | refine vIfQ_of ?_ ?_ | refine vIfV_of ?_ ?_) <;> intro _ | refine And.intro (by omega) ?_ | refine drawn_q ?_ | fail)
        refine ⟨rfl, i + 1, by simp (disch := omega) only [push_cast, ↓reduceIte, zA, zG, zB, zH, zI, zC, zJ, zK, zL, zD, zE, zF, zM, zN, zO, zP, zQ, reduceCtorEq, not_true_eq_false, not_false_eq_true], ⟨by omega, hl.trans hl1, ?_⟩, by simp; omega⟩
        rw [take_snoc a i ha, take_snoc b i hb, he, hab]
      · have hne : a ≠ b := fun e => by subst e; exact hab rfl
        repeat' (first | (simp (disch := omega) only [push_cast, ↓reduceIte, zA, zG, zB, zH, zI, zC, zJ, zK, zL, zD, zE, zF, zM, zN, zO, zP, zQ, reduceCtorEq, not_true_eq_false, not_false_eq_true, c1, c2, hab, decide_false, Bool.not_false]) | (first | refine vIfE_of ?_ ?_ | refine vIfD_of ?_ ?_ | refine vIfQ_of ?_ ?_ | refine vIfV_of ?_ ?_) <;> intro _ | refine And.intro (by omega) ?_ | refine drawn_q ?_ | fail)
        intro w1 hl1
        repeat' (first | (simp (disch := omega) only [push_cast, ↓reduceIte, zA, zG, zB, zH, zI, zC, zJ, zK, zL, zD, zE, zF, zM, zN, zO, zP, zQ, reduceCtorEq, not_true_eq_false, not_false_eq_true]) | (first | refine vIfE_of ?_ ?_ | refine vIfD_of ?_ ?_ | refine vIfQ_of ?_ ?_ | refine vIfV_of ?_ ?_) <;> intro _ | refine And.intro (by omega) ?_ | refine drawn_q ?_ | fail)
        simp [hne, hl.trans hl1]
    · have e : i = a.length := by omega
      subst e
      rw [List.take_length, hlen, List.take_length] at he
      repeat' (first | (simp (disch := omega) only [push_cast, ↓reduceIte, zA, zG, zB, zH, zI, zC, zJ, zK, zL, zD, zE, zF, zM, zN, zO, zP, zQ, reduceCtorEq, not_true_eq_false, not_false_eq_true]) | (first | refine vIfE_of ?_ ?_ | refine vIfD_of ?_ ?_ | refine vIfQ_of ?_ ?_ | refine vIfV_of ?_ ?_) <;> intro _ | refine And.intro (by omega) ?_ | refine drawn_q ?_ | fail)
      simp [he, hl]
  · have hne : a ≠ b := fun e => by subst e; exact hlen rfl
    repeat' (first | (simp (disch := omega) only [push_cast, ↓reduceIte, zA, zG, zB, zH, zI, zC, zJ, zK, zL, zD, zE, zF, zM, zN, zO, zP, zQ, reduceCtorEq, not_true_eq_false, not_false_eq_true]) | (first | refine vIfE_of ?_ ?_ | refine vIfD_of ?_ ?_ | refine vIfQ_of ?_ ?_ | refine vIfV_of ?_ ?_) <;> intro _ | refine And.intro (by omega) ?_ | refine drawn_q ?_ | fail)
    simp [hne, Later.refl]
/-- An act on a vault whose fuse burns, beside the same without one. -/
theorem aDo_burn (x : ActD) (hk : 1 ≤ x.kind ∧ x.kind ≤ 4) (L : List Fl) (f : Int) (h31 : (aDo x ⟨5000, -1, L⟩).1 ≠ 31) :
    (brn f = 0 → aDo x ⟨5000, f, L⟩ = (272, ⟨5000, 0, L⟩)) ∧ (brn f ≠ 0 → aDo x ⟨5000, f, L⟩ = ((aDo x ⟨5000, -1, L⟩).1, ⟨5000, brn f, (aDo x ⟨5000, -1, L⟩).2.L⟩)) ∧ (aDo x ⟨5000, -1, L⟩).2 = ⟨5000, -1, (aDo x ⟨5000, -1, L⟩).2.L⟩ ∧ (aDo x ⟨5000, -1, L⟩).1 ≠ 272 := by
  have hb : brn (-1) = -1 := by decide
  have hm : ¬ ((-1 : Int) = 0) := by decide
  unfold aDo at h31 ⊢
  by_cases k1 : x.kind = 1
  · simp only [if_pos k1] at h31 ⊢
    unfold aApp at h31 ⊢
    simp only [hb, Vst.burn] at h31 ⊢
    by_cases hn : nmOk x.a = false
    · rw [if_pos hn] at h31; exact absurd rfl h31
    · simp only [if_neg hn] at h31 ⊢
      refine ⟨fun h => by rw [if_pos h, h], fun h => ?_, ?_, ?_⟩
      · simp only [if_neg h, if_neg hm]
        split <;> rfl
      · simp only [if_neg hm]
        split <;> rfl
      · simp only [if_neg hm]
        split
        · show (32 : Int) ≠ 272; decide
        · show (0 : Int) ≠ 272; decide
  by_cases k2 : x.kind = 2
  · simp only [if_neg k1, if_pos k2] at h31 ⊢
    unfold aSync at h31 ⊢
    simp only [hb, Vst.burn] at h31 ⊢
    by_cases hn : nmOk x.a = false ∨ lk x.a L = none
    · rw [if_pos hn] at h31; exact absurd rfl h31
    · simp only [if_neg hn] at h31 ⊢
      refine ⟨fun h => by rw [if_pos h, h], fun h => ?_, ?_, ?_⟩
      · rw [if_neg h, if_neg hm]
      · rw [if_neg hm]
      · rw [if_neg hm]; show (0 : Int) ≠ 272; decide
  by_cases k3 : x.kind = 3
  · simp only [if_neg k1, if_neg k2, if_pos k3] at h31 ⊢
    unfold aRen at h31 ⊢
    simp only [hb, Vst.burn] at h31 ⊢
    by_cases hn : nmOk x.a = false ∨ lk x.a L = none ∨ nmOk x.z = false
    · rw [if_pos hn] at h31; exact absurd rfl h31
    · simp only [if_neg hn] at h31 ⊢
      refine ⟨fun h => by rw [if_pos h, h], fun h => ?_, ?_, ?_⟩
      · rw [if_neg h, if_neg hm]
      · rw [if_neg hm]
      · rw [if_neg hm]; show (0 : Int) ≠ 272; decide
  · have k4 : x.kind = 4 := by omega
    simp only [if_neg k1, if_neg k2, if_neg k3, if_pos k4] at h31 ⊢
    unfold aDel at h31 ⊢
    simp only [hb, Vst.burn] at h31 ⊢
    by_cases hn : nmOk x.a = false ∨ lk x.a L = none
    · rw [if_pos hn] at h31; exact absurd rfl h31
    · simp only [if_neg hn] at h31 ⊢
      refine ⟨fun h => by rw [if_pos h, h], fun h => ?_, ?_, ?_⟩
      · rw [if_neg h, if_neg hm]
      · rw [if_neg hm]
      · rw [if_neg hm]; show (0 : Int) ≠ 272; decide
end Go.Proofs.Ytmfcnooleejgmaa
end
