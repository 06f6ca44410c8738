/- More of delta's plain law: small steps; all moved; turned about. -/
import Derived.Test.YtdfdohajjgjbdaaDelP
namespace Go.Del
open Go.Vc Go.Zig Go.Nib Go.Proofs.Ytdfdohajjgjbdaa
theorem zu_two {u : Nat} (h : u < 16384) : (zu u).length ≤ 2 := by
  unfold zu
  have := hi_len 1 (u / 128) (by omega)
  simp; omega
theorem zi_two {n : Int} (h : 0 ≤ n ∧ n ≤ 8000) : (zi n).length ≤ 2 := by
  unfold zi
  refine zu_two ?_
  unfold foldI
  split <;> omega
theorem wid_rs {l : List Int} {lo hi : Int} {k : Nat} (h : ∀ i, i < l.length - 1 → lo ≤ stp1 l i ∧ stp1 l i ≤ hi) (hk : hi - lo < ((2 ^ k : Nat) : Int)) : wid (rs l) ≤ k := by
  refine (wid_le k (rs l)).2 ?_
  intro x hx
  unfold rs rsN at hx
  obtain ⟨i, hi', rfl⟩ := List.mem_map.1 hx
  have hi' := List.mem_range.1 hi'
  have h1 := rs1_nat l i hi'
  obtain ⟨j, hj, e⟩ := mnN_mem (Del.stp l) ((Del.stp l).length - 1)
  rw [stp_len] at hj
  rw [stp_at l j (by omega)] at e
  have e2 : mn (Del.stp l) = stp1 l j := e
  have h2 := h j (by omega)
  have h3 := h i hi'
  omega
theorem enc_le {l : List Int} {k : Nat} (h : Ok l) (hl : l.length ≤ 300) (hk : wid (rs l) ≤ k) : (enc l).length ≤ 24 + (l.length * k + 7) / 8 := by
  have h64 := wid_64 (rs l)
  have z1 := zi_two (n := (l.length : Int)) (by omega)
  have z2 := zi_two (n := ((wid (rs l) : Nat) : Int)) (by omega)
  have z3 := (zi_len (at_i64 h 0)).1
  have z4 := (zi_len (show I64 (mn (Del.stp l)) from base_in l)).1
  have z5 := pack_len (rs l) (wid (rs l))
  have z6 : (rs l).length * wid (rs l) ≤ l.length * k := Nat.mul_le_mul (by rw [rs_len]; omega) hk
  unfold enc encT
  split
  · simp; omega
  · simp only [List.length_append]; omega
/-- One by one, by a step. -/
def atN (f s : Int) : Nat → Int
  | 0 => f
  | i + 1 => wr (atN f s i + s)
def linN (f s : Int) (n : Nat) : List Int := (List.range n).map (atN f s)
theorem linN_succ (f s : Int) (n : Nat) : linN f s (n + 1) = linN f s n ++ [atN f s n] := by simp [linN, List.range_succ]
theorem linN_len (f s : Int) (n : Nat) : (linN f s n).length = n := by simp [linN]
theorem atN_in {f : Int} (s : Int) (h : -9223372036854775808 ≤ f ∧ f ≤ 9223372036854775807) (i : Nat) : -9223372036854775808 ≤ atN f s i ∧ atN f s i ≤ 9223372036854775807 := by
  cases i with
  | zero => exact h
  | succ i => exact wr_in _
theorem linN_at (f s : Int) (n i : Nat) (h : i < n) : at_ (linN f s n) i = atN f s i := by
  unfold at_ linN
  rw [List.getD_eq_getElem?_getD, List.getElem?_eq_getElem (by simpa using h)]
  simp
theorem linN_ok {f : Int} (s : Int) (h : -9223372036854775808 ≤ f ∧ f ≤ 9223372036854775807) (n : Nat) : Ok (linN f s n) := by
  intro x hx
  obtain ⟨j, _, rfl⟩ := List.mem_map.1 hx
  exact atN_in s h j
theorem linN_stp {f s : Int} (h : -9223372036854775808 ≤ f ∧ f ≤ 9223372036854775807) (hs : -9223372036854775808 ≤ s ∧ s ≤ 9223372036854775807) (n i : Nat) (hi : i < n - 1) : stp1 (linN f s n) i = s := by
  unfold stp1
  rw [linN_at f s n i (by omega), linN_at f s n (i + 1) (by omega)]
  have := atN_in s h i
  show wr (wr (atN f s i + s) - atN f s i) = s
  generalize atN f s i = a at *
  unfold wr
  omega
theorem linN_wid {f s : Int} (h : -9223372036854775808 ≤ f ∧ f ≤ 9223372036854775807) (hs : -9223372036854775808 ≤ s ∧ s ≤ 9223372036854775807) (n : Nat) : wid (rs (linN f s n)) ≤ 0 := by
  refine wid_rs (lo := s) (hi := s) (fun i hi => ?_) (by simp)
  rw [linN_len] at hi
  rw [linN_stp h hs n i hi]; omega
/-- All moved. -/
def mv (y : Int) (l : List Int) : List Int := l.map fun x => wr (x + y)
theorem mv_len (y : Int) (l : List Int) : (mv y l).length = l.length := by simp [mv]
theorem mv_at (y : Int) (l : List Int) (i : Nat) (h : i < l.length) : at_ (mv y l) i = wr (at_ l i + y) := by
  unfold at_ mv
  rw [List.getD_eq_getElem?_getD, List.getD_eq_getElem?_getD, List.getElem?_map, List.getElem?_eq_getElem h]
  rfl
theorem mv_ok (y : Int) (l : List Int) : Ok (mv y l) := by
  intro x hx
  obtain ⟨j, _, rfl⟩ := List.mem_map.1 hx
  exact wr_in _
theorem mv_stp1 (y : Int) (l : List Int) (i : Nat) (h : i < l.length - 1) : stp1 (mv y l) i = stp1 l i := by
  unfold stp1
  rw [mv_at y l i (by omega), mv_at y l (i + 1) (by omega)]
  unfold wr
  omega
theorem mv_stp (y : Int) (l : List Int) : Del.stp (mv y l) = Del.stp l := by
  unfold Del.stp stN
  rw [mv_len]
  refine List.map_congr_left fun i hi => ?_
  exact mv_stp1 y l i (List.mem_range.1 hi)
theorem mv_rs (y : Int) (l : List Int) : rs (mv y l) = rs l := by
  unfold rs rsN
  rw [mv_stp, mv_len]
  refine List.map_congr_left fun i hi => ?_
  unfold rs1
  rw [mv_stp1 y l i (List.mem_range.1 hi)]
theorem mv_enc (y : Int) {l : List Int} (h : Ok l) (h0 : 0 < l.length) : -9 ≤ ((enc l).length : Int) - (enc (mv y l)).length ∧ ((enc l).length : Int) - (enc (mv y l)).length ≤ 9 := by
  have z1 := zi_len (at_i64 h 0)
  have z2 := zi_len (at_i64 (mv_ok y l) 0)
  have n1 : l ≠ [] := List.length_pos_iff.1 h0
  have n2 : mv y l ≠ [] := List.length_pos_iff.1 (by rw [mv_len]; exact h0)
  unfold enc encT
  rw [if_neg n1, if_neg n2, mv_len, mv_stp, mv_rs]
  simp only [List.length_append]
  omega
theorem rev_at (l : List Int) (i : Nat) (h : i < l.length) : at_ l.reverse i = at_ l (l.length - 1 - i) := by
  unfold at_
  rw [List.getD_eq_getElem?_getD, List.getD_eq_getElem?_getD, List.getElem?_reverse h]
/-- Steps of at most 31. -/
def b31 (x : UInt64) : Int := ((x.toNat &&& 31 : Nat) : Int)
theorem b31_in (x : UInt64) : 0 ≤ b31 x ∧ b31 x ≤ 31 := by
  have : x.toNat &&& 31 ≤ 31 := Nat.and_le_right
  unfold b31; omega
def upN (u : Int) (r : List UInt64) : Nat → Int
  | 0 => u
  | i + 1 => upN u r i + b31 (r.getD i 0)
def upL (u : Int) (r : List UInt64) (n : Nat) : List Int := (List.range n).map (upN u r)
theorem upL_succ (u : Int) (r : List UInt64) (n : Nat) : upL u r (n + 1) = upL u r n ++ [upN u r n] := by simp [upL, List.range_succ]
theorem upL_len (u : Int) (r : List UInt64) (n : Nat) : (upL u r n).length = n := by simp [upL]
theorem upN_in (u : Int) (r : List UInt64) (i : Nat) : u ≤ upN u r i ∧ upN u r i ≤ u + 31 * (i : Int) := by
  induction i with
  | zero => simp [upN]
  | succ i ih =>
    have := b31_in (r.getD i 0)
    unfold upN; omega
theorem upL_at (u : Int) (r : List UInt64) (n i : Nat) (h : i < n) : at_ (upL u r n) i = upN u r i := by
  unfold at_ upL
  rw [List.getD_eq_getElem?_getD, List.getElem?_eq_getElem (by simpa using h)]
  simp
theorem upL_ok {u : Int} (r : List UInt64) {n : Nat} (h : -4611686018427387904 ≤ u ∧ u ≤ 4611686018427387904) (hn : n ≤ 300) : Ok (upL u r n) := by
  intro x hx
  obtain ⟨j, hj, rfl⟩ := List.mem_map.1 hx
  have := List.mem_range.1 hj
  have := upN_in u r j
  omega
theorem upL_wid {u : Int} (r : List UInt64) {n : Nat} (h : -4611686018427387904 ≤ u ∧ u ≤ 4611686018427387904) (hn : n ≤ 300) : wid (rs (upL u r n)) ≤ 5 := by
  refine wid_rs (lo := 0) (hi := 31) (fun i hi => ?_) (by decide)
  rw [upL_len] at hi
  unfold stp1
  rw [upL_at u r n i (by omega), upL_at u r n (i + 1) (by omega)]
  have e : upN u r (i + 1) = upN u r i + b31 (r.getD i 0) := rfl
  have h1 := b31_in (r.getD i 0)
  rw [e, wr_id (by omega)]; omega
end Go.Del
