/- More of the plain law of sets: what comes of lists. -/
import Derived.Test.YtfeocfcclmndoaaRunP
namespace Go.Run
theorem elts_in {s : S} (h : Rt (-1) s) : ∀ x ∈ elts s, 0 ≤ x ∧ x < 65536 := fun x hx => by
  have := has_gt h ((mem_elts _ _).1 hx); omega
theorem filter_is {a : S} (ha : Rt (-1) a) (p : Int → Bool) : Rt (-1) (setOf ((elts a).filter p)) ∧ ∀ x, has (setOf ((elts a).filter p)) x = (has a x && p x) := by
  obtain ⟨h1, h2, _⟩ := setOf_spec (asc_filter (asc_elts ha) p) fun x hx => elts_in ha x (List.mem_filter.1 hx).1
  exact ⟨h1, fun x => bool_eq (by rw [h2, List.mem_filter, mem_elts]; simp)⟩
def opA (x y : Bool) : Bool := x && y
def opO (x y : Bool) : Bool := x || y
def opM (x y : Bool) : Bool := x && !y
theorem and_is {a b : S} (ha : Rt (-1) a) : Is opA a b (setOf ((elts a).filter (has b))) := filter_is ha _
theorem minus_is {a b : S} (ha : Rt (-1) a) : Is opM a b (setOf ((elts a).filter fun x => !has b x)) := filter_is ha _
theorem filter_take {l : List Int} {i : Nat} (h : i < l.length) (p : Int → Bool) : (l.take (i + 1)).filter p = (l.take i).filter p ++ (if p l[i] = true then [l[i]] else []) := by
  rw [List.take_add_one, List.getElem?_eq_getElem h, Option.toList_some, List.filter_append]
  congr 1
  by_cases hp : p l[i] = true
  · rw [if_pos hp, List.filter_cons_of_pos hp]; rfl
  · rw [if_neg hp, List.filter_cons_of_neg hp]; rfl
/-- Two rising lists, the first i of the one and the first k of the other put together. -/
structure Mrg (X Y out : List Int) (i k : Nat) : Prop where
  hi : i ≤ X.length
  hk : k ≤ Y.length
  asc : Asc out
  mem : ∀ x, x ∈ out ↔ x ∈ X.take i ∨ x ∈ Y.take k
  lx : ∀ y ∈ out, ∀ (h : i < X.length), y < X[i]
  ly : ∀ y ∈ out, ∀ (h : k < Y.length), y < Y[k]
  len : out.length ≤ i + k
theorem Mrg.start (X Y : List Int) : Mrg X Y [] 0 0 := ⟨by omega, by omega, asc_nil, by simp, by simp, by simp, by simp⟩
theorem asc_get {l : List Int} (h : Asc l) {i j : Nat} (hij : i < j) (hj : j < l.length) : l[i]'(by omega) < l[j] := List.pairwise_iff_getElem.1 h i j _ _ hij
theorem mem_take {l : List Int} {i : Nat} (h : i < l.length) (x : Int) : x ∈ l.take (i + 1) ↔ x ∈ l.take i ∨ x = l[i] := by
  rw [List.take_add_one, List.getElem?_eq_getElem h, Option.toList_some, List.mem_append, List.mem_singleton]
/-- The one's next comes, and the other's too if they are one. -/
theorem Mrg.left {X Y out : List Int} {i k : Nat} (h : Mrg X Y out i k) (hX : Asc X) (hY : Asc Y) (hx : i < X.length) (hle : ∀ hy : k < Y.length, X[i] ≤ Y[k]) :
    Mrg X Y (out ++ [X[i]]) (i + 1) (if hy : k < Y.length then (if X[i] = Y[k] then k + 1 else k) else k) := by
  have up : ∀ y ∈ out ++ [X[i]], ∀ (g : i + 1 < X.length), y < X[i + 1] := by
    intro y hy g
    have h1 := asc_get hX (show i < i + 1 by omega) g
    rcases List.mem_append.1 hy with hy | hy
    · have := h.lx y hy hx; omega
    · simp only [List.mem_singleton] at hy; omega
  have ha : Asc (out ++ [X[i]]) := (asc_snoc _ _).2 ⟨h.asc, fun y hy => h.lx y hy hx⟩
  by_cases hy : k < Y.length
  · rw [dif_pos hy]
    by_cases e : X[i] = Y[k]
    · rw [if_pos e]
      refine ⟨hx, hy, ha, fun x => ?_, up, ?_, by simp; have := h.len; omega⟩
      · rw [List.mem_append, h.mem, List.mem_singleton, mem_take hx, mem_take hy, ← e]
        constructor
        · rintro ((h1 | h1) | h1)
          · exact .inl (.inl h1)
          · exact .inr (.inl h1)
          · exact .inl (.inr h1)
        · rintro ((h1 | h1) | (h1 | h1))
          · exact .inl (.inl h1)
          · exact .inr h1
          · exact .inl (.inr h1)
          · exact .inr h1
      · intro y hy2 g
        have h1 := asc_get hY (show k < k + 1 by omega) g
        rcases List.mem_append.1 hy2 with hy2 | hy2
        · have := h.ly y hy2 hy; omega
        · simp only [List.mem_singleton] at hy2; omega
    · rw [if_neg e]
      refine ⟨hx, h.hk, ha, fun x => ?_, up, ?_, by simp; have := h.len; omega⟩
      · rw [List.mem_append, h.mem, List.mem_singleton, mem_take hx]
        constructor
        · rintro ((h1 | h1) | h1)
          · exact .inl (.inl h1)
          · exact .inr h1
          · exact .inl (.inr h1)
        · rintro ((h1 | h1) | h1)
          · exact .inl (.inl h1)
          · exact .inr h1
          · exact .inl (.inr h1)
      · intro y hy2 g
        have := hle hy
        rcases List.mem_append.1 hy2 with hy2 | hy2
        · exact h.ly y hy2 hy
        · simp only [List.mem_singleton] at hy2; omega
  · rw [dif_neg hy]
    refine ⟨hx, h.hk, ha, fun x => ?_, up, fun y _ g => absurd g hy, by simp; have := h.len; omega⟩
    rw [List.mem_append, h.mem, List.mem_singleton, mem_take hx]
    constructor
    · rintro ((h1 | h1) | h1)
      · exact .inl (.inl h1)
      · exact .inr h1
      · exact .inl (.inr h1)
    · rintro ((h1 | h1) | h1)
      · exact .inl (.inl h1)
      · exact .inr h1
      · exact .inl (.inr h1)
theorem Mrg.right {X Y out : List Int} {i k : Nat} (h : Mrg X Y out i k) (hX : Asc X) (hY : Asc Y) (hy : k < Y.length) (hlt : ∀ hx : i < X.length, Y[k] < X[i]) : Mrg X Y (out ++ [Y[k]]) i (k + 1) := by
  refine ⟨h.hi, hy, (asc_snoc _ _).2 ⟨h.asc, fun y hy2 => h.ly y hy2 hy⟩, fun x => ?_, ?_, ?_, by simp; have := h.len; omega⟩
  · rw [List.mem_append, h.mem, List.mem_singleton, mem_take hy]
    constructor
    · rintro ((h1 | h1) | h1)
      · exact .inl h1
      · exact .inr (.inl h1)
      · exact .inr (.inr h1)
    · rintro (h1 | (h1 | h1))
      · exact .inl (.inl h1)
      · exact .inl (.inr h1)
      · exact .inr h1
  · intro y hy2 g
    have := hlt g
    rcases List.mem_append.1 hy2 with hy2 | hy2
    · exact h.lx y hy2 g
    · simp only [List.mem_singleton] at hy2; omega
  · intro y hy2 g
    have h1 := asc_get hY (show k < k + 1 by omega) g
    rcases List.mem_append.1 hy2 with hy2 | hy2
    · have := h.ly y hy2 hy; omega
    · simp only [List.mem_singleton] at hy2; omega
theorem Mrg.is {a b : S} {out : List Int} (ha : Rt (-1) a) (hb : Rt (-1) b) (h : Mrg (elts a) (elts b) out (elts a).length (elts b).length) : Is opO a b (setOf out) := by
  have hm : ∀ x, x ∈ out ↔ has a x = true ∨ has b x = true := fun x => by
    rw [h.mem, List.take_length, List.take_length, mem_elts, mem_elts]
  obtain ⟨h1, h2, _⟩ := setOf_spec h.asc fun x hx => by
    rcases (hm x).1 hx with g | g
    · have := has_gt ha g; omega
    · have := has_gt hb g; omega
  exact ⟨h1, fun x => bool_eq (by rw [h2, hm]; simp [opO])⟩
theorem Mrg.in_ {a b : S} {out : List Int} {i k : Nat} (ha : Rt (-1) a) (hb : Rt (-1) b) (h : Mrg (elts a) (elts b) out i k) : ∀ x ∈ out, 0 ≤ x ∧ x < 65536 := by
  intro x hx
  rcases (h.mem x).1 hx with g | g
  · exact elts_in ha x (List.mem_of_mem_take g)
  · exact elts_in hb x (List.mem_of_mem_take g)
theorem rt_short {last : Int} {s : S} (h : Rt last s) (hl : -1 ≤ last) : s.length ≤ 32768 := right_len (rt_mono h hl)
theorem wf_len {last : Int} {A : S} {i : Bool} (h : Wf last A i) (hl : 0 ≤ last) : A.length ≤ 32769 := by
  cases A with
  | nil => simp
  | cons r A =>
    unfold Wf at h
    cases i with
    | true =>
      simp only [if_true] at h
      have := rt_short h.2.2 (by omega)
      simp only [List.length_cons]; omega
    | false =>
      simp only [Bool.false_eq_true, if_false] at h
      have := rt_short h (by omega)
      omega
/-- A number put into its place. -/
theorem asc_insert {m : List Int} {k : Nat} {x : Int} (h : Asc m) (h1 : ∀ j (hj : j < m.length), j < k → m[j] < x) (h2 : ∀ j (hj : j < m.length), k ≤ j → x < m[j]) : Asc (m.take k ++ [x] ++ m.drop k) := by
  have hs : Asc (m.take k ++ m.drop k) := by rw [List.take_append_drop]; exact h
  unfold Asc at *
  rw [List.pairwise_append] at hs
  rw [List.append_assoc, List.pairwise_append]
  have a1 : ∀ y ∈ m.take k, y < x := by
    intro y hy
    obtain ⟨j, hj, rfl⟩ := List.getElem_of_mem hy
    rw [List.length_take] at hj
    rw [List.getElem_take]
    exact h1 j (by omega) (by omega)
  have a2 : ∀ y ∈ m.drop k, x < y := by
    intro y hy
    obtain ⟨j, hj, rfl⟩ := List.getElem_of_mem hy
    rw [List.length_drop] at hj
    rw [List.getElem_drop]
    exact h2 (k + j) (by omega) (by omega)
  refine ⟨hs.1, List.pairwise_cons.2 ⟨a2, hs.2.1⟩, fun a ha b hb => ?_⟩
  rcases List.mem_cons.1 hb with rfl | hb
  · exact a1 a ha
  · exact hs.2.2 a ha b hb
theorem mem_insert (m : List Int) (k : Nat) (x y : Int) : y ∈ m.take k ++ [x] ++ m.drop k ↔ y ∈ m ∨ y = x := by
  have e : y ∈ m ↔ y ∈ m.take k ∨ y ∈ m.drop k := by
    rw [← List.mem_append, List.take_append_drop]
  rw [List.mem_append, List.mem_append, List.mem_singleton, e]
  constructor
  · rintro ((h | h) | h)
    · exact .inl (.inl h)
    · exact .inr h
    · exact .inl (.inr h)
  · rintro ((h | h) | h)
    · exact .inl (.inl h)
    · exact .inr h
    · exact .inl (.inr h)
theorem insert_len (m : List Int) {k : Nat} (hk : k ≤ m.length) (x : Int) : (m.take k ++ [x] ++ m.drop k).length = m.length + 1 := by simp; omega
/-- How far the least edge is known. -/
def atK (A : S) (i : Bool) (B : S) (j : Bool) : Nat → Int
  | 0 => 65537
  | 1 => min 65537 (edge A i)
  | _ => atOf A i B j
end Go.Run
