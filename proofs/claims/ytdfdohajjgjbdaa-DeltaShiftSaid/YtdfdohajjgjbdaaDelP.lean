/- The plain law of delta: steps, their base, the bytes, there and back. -/
import Derived.Test.YtdfdohajjgjbdaaZig5
import Derived.Test.YtdfdohajjgjbdaaZigP3
import Derived.Test.YtdfdohajjgjbdaaNib5
namespace Go.Del
open Go.Vc Go.Zig Go.Nib Go.Proofs.Ytdfdohajjgjbdaa
/-- Round and round. -/
def wr (x : Int) : Int := (x + 9223372036854775808) % 18446744073709551616 - 9223372036854775808
theorem wr_in (x : Int) : -9223372036854775808 ≤ wr x ∧ wr x ≤ 9223372036854775807 := by unfold wr; omega
theorem wr_id {x : Int} (h : -9223372036854775808 ≤ x ∧ x ≤ 9223372036854775807) : wr x = x := by unfold wr; omega
theorem wrap_wr (x : Int) : IntKind.i64.wrap x = wr x := by
  unfold IntKind.wrap wr
  simp [IntKind.bits, IntKind.signed]
  omega
theorem wrap_un (x : Int) : IntKind.u64.wrap x = x % 18446744073709551616 := by
  unfold IntKind.wrap
  simp [IntKind.bits, IntKind.signed]
def at_ (l : List Int) (i : Nat) : Int := l.getD i 0
def stp1 (l : List Int) (i : Nat) : Int := wr (at_ l (i + 1) - at_ l i)
/-- The first i steps. -/
def stN (l : List Int) (i : Nat) : List Int := (List.range i).map (stp1 l)
def stp (l : List Int) : List Int := stN l (l.length - 1)
theorem stN_succ (l : List Int) (i : Nat) : stN l (i + 1) = stN l i ++ [stp1 l i] := by simp [stN, List.range_succ]
theorem stN_len (l : List Int) (i : Nat) : (stN l i).length = i := by simp [stN]
theorem stp_len (l : List Int) : (stp l).length = l.length - 1 := stN_len _ _
theorem stN_in (l : List Int) (i : Nat) : ∀ x ∈ stN l i, -9223372036854775808 ≤ x ∧ x ≤ 9223372036854775807 := by
  intro x hx
  obtain ⟨j, _, rfl⟩ := List.mem_map.1 hx
  exact wr_in _
/-- The least of a list's first, and of the i behind it. -/
def mnN (s : List Int) : Nat → Int
  | 0 => at_ s 0
  | i + 1 => min (mnN s i) (at_ s (i + 1))
def mn (s : List Int) : Int := mnN s (s.length - 1)
theorem mnN_le (s : List Int) : ∀ (i j : Nat), j ≤ i → mnN s i ≤ at_ s j := by
  intro i
  induction i with
  | zero => intro j h; obtain rfl : j = 0 := by omega
            exact Int.le_refl _
  | succ i ih =>
    intro j h
    by_cases e : j = i + 1
    · subst e; unfold mnN; omega
    · have := ih j (by omega); unfold mnN; omega
theorem mnN_mem (s : List Int) : ∀ i : Nat, ∃ j, j ≤ i ∧ mnN s i = at_ s j := by
  intro i
  induction i with
  | zero => exact ⟨0, by omega, rfl⟩
  | succ i ih =>
    obtain ⟨j, h1, h2⟩ := ih
    by_cases h : mnN s i ≤ at_ s (i + 1)
    · exact ⟨j, by omega, by unfold mnN; omega⟩
    · exact ⟨i + 1, by omega, by unfold mnN; omega⟩
theorem at_in {s : List Int} (h : ∀ x ∈ s, -9223372036854775808 ≤ x ∧ x ≤ 9223372036854775807) (i : Nat) : -9223372036854775808 ≤ at_ s i ∧ at_ s i ≤ 9223372036854775807 := by
  unfold at_
  rw [List.getD_eq_getElem?_getD]
  by_cases hi : i < s.length
  · rw [List.getElem?_eq_getElem hi]; exact h _ (List.getElem_mem hi)
  · rw [List.getElem?_eq_none (by omega)]; simp
theorem mn_in {s : List Int} (h : ∀ x ∈ s, -9223372036854775808 ≤ x ∧ x ≤ 9223372036854775807) : -9223372036854775808 ≤ mn s ∧ mn s ≤ 9223372036854775807 := by
  obtain ⟨j, _, e⟩ := mnN_mem s (s.length - 1)
  unfold mn; rw [e]; exact at_in h j
/-- A step less the base. -/
def rs1 (l : List Int) (b : Int) (i : Nat) : UInt64 := UInt64.ofNat (stp1 l i - b).toNat
def rsN (l : List Int) (b : Int) (i : Nat) : List UInt64 := (List.range i).map (rs1 l b)
def rs (l : List Int) : List UInt64 := rsN l (mn (stp l)) (l.length - 1)
theorem rsN_succ (l : List Int) (b : Int) (i : Nat) : rsN l b (i + 1) = rsN l b i ++ [rs1 l b i] := by simp [rsN, List.range_succ]
theorem rsN_len (l : List Int) (b : Int) (i : Nat) : (rsN l b i).length = i := by simp [rsN]
theorem rs_len (l : List Int) : (rs l).length = l.length - 1 := rsN_len _ _ _
theorem stp_at (l : List Int) (i : Nat) (h : i < l.length - 1) : at_ (stp l) i = stp1 l i := by
  unfold at_ stp stN
  rw [List.getD_eq_getElem?_getD, List.getElem?_eq_getElem (by simpa using h)]
  simp
theorem base_le (l : List Int) (i : Nat) (h : i < l.length - 1) : mn (stp l) ≤ stp1 l i := by
  rw [← stp_at l i h]
  exact mnN_le _ _ _ (by rw [stp_len]; omega)
theorem base_in (l : List Int) : -9223372036854775808 ≤ mn (stp l) ∧ mn (stp l) ≤ 9223372036854775807 := mn_in (stN_in _ _)
theorem rs1_nat (l : List Int) (i : Nat) (h : i < l.length - 1) : ((rs1 l (mn (stp l)) i).toNat : Int) = stp1 l i - mn (stp l) := by
  have h1 := base_le l i h
  have h2 := base_in l
  have h3 := wr_in (at_ l (i + 1) - at_ l i)
  have h4 : stp1 l i = wr (at_ l (i + 1) - at_ l i) := rfl
  unfold rs1
  rw [UInt64.toNat_ofNat', Nat.mod_eq_of_lt (by omega)]
  omega
/-- A list, of its first, its base and the rest. -/
def unN (f b : Int) (r : List UInt64) : List Int := r.foldl (fun l x => l ++ [wr (wr (at_ l (l.length - 1) + b) + wr (x.toNat : Int))]) [f]
theorem unN_snoc (f b : Int) (r : List UInt64) (x : UInt64) : unN f b (r ++ [x]) = unN f b r ++ [wr (wr (at_ (unN f b r) ((unN f b r).length - 1) + b) + wr (x.toNat : Int))] := by simp [unN]
theorem unN_len (f b : Int) : ∀ r : List UInt64, (unN f b r).length = r.length + 1 := by
  refine foldl_snoc_induct ?_ ?_
  · rfl
  · intro l x ih; rw [unN_snoc, List.length_append, List.length_append, ih]; rfl
theorem unN_in {f : Int} (b : Int) (hf : -9223372036854775808 ≤ f ∧ f ≤ 9223372036854775807) : ∀ r : List UInt64, ∀ x ∈ unN f b r, -9223372036854775808 ≤ x ∧ x ≤ 9223372036854775807 := by
  refine foldl_snoc_induct ?_ ?_
  · intro x hx; simp [unN] at hx; subst hx; exact hf
  · intro l y ih x hx
    rw [unN_snoc, List.mem_append] at hx
    rcases hx with hx | hx
    · exact ih x hx
    · simp only [List.mem_singleton] at hx; subst hx; exact wr_in _
def Ok (l : List Int) : Prop := ∀ x ∈ l, -9223372036854775808 ≤ x ∧ x ≤ 9223372036854775807
theorem take_at (l : List Int) (i : Nat) (h : i < l.length) : l.take (i + 1) = l.take i ++ [at_ l i] := by
  rw [List.take_add_one, List.getElem?_eq_getElem h]
  unfold at_; rw [List.getD_eq_getElem?_getD, List.getElem?_eq_getElem h]; rfl
theorem un_rsN {l : List Int} (h : Ok l) (hl : 0 < l.length) : ∀ i, i ≤ l.length - 1 → unN (at_ l 0) (mn (stp l)) (rsN l (mn (stp l)) i) = l.take (i + 1) := by
  intro i
  induction i with
  | zero =>
    intro _
    rw [take_at l 0 hl]
    simp [rsN, unN]
  | succ i ih =>
    intro hi
    have ih := ih (by omega)
    rw [rsN_succ, unN_snoc, ih, take_at l (i + 1) (by omega)]
    congr 1
    have e : at_ (l.take (i + 1)) ((l.take (i + 1)).length - 1) = at_ l i := by
      rw [List.length_take, Nat.min_eq_left (by omega)]
      unfold at_
      rw [List.getD_eq_getElem?_getD, List.getD_eq_getElem?_getD, Nat.add_sub_cancel, List.getElem?_take_of_lt (by omega)]
    rw [e, rs1_nat l i (by omega)]
    have h1 := at_in h i
    have h2 := at_in h (i + 1)
    have h3 : stp1 l i = wr (at_ l (i + 1) - at_ l i) := rfl
    rw [h3]
    generalize at_ l i = a at *
    generalize at_ l (i + 1) = c at *
    generalize mn (stp l) = m at *
    congr 1
    unfold wr
    omega
theorem un_rs {l : List Int} (h : Ok l) (hl : 0 < l.length) : unN (at_ l 0) (mn (stp l)) (rs l) = l := by
  unfold rs
  rw [un_rsN h hl _ (Nat.le_refl _)]
  exact List.take_of_length_le (by omega)
/-- A list's bytes. -/
def encT (l : List Int) : List UInt8 := zi (at_ l 0) ++ (zi (mn (stp l)) ++ (zi (wid (rs l)) ++ pack (rs l) (wid (rs l))))
def enc (l : List Int) : List UInt8 := zi l.length ++ if l = [] then [] else encT l
theorem rI_zi {n least most : Int} (hn : I64 n) (h : least ≤ n ∧ n ≤ most) (r : List UInt8) : rI (zi n ++ r) least most = (n, 0, r) := by
  have hu := foldI_u64 hn
  unfold U64 at hu
  have e : Zig.num (zi n ++ r) = some ((foldI n).toNat, (zi n).length) := by
    have := num_zu (u := (foldI n).toNat) (by omega) r
    exact this
  unfold rI
  rw [e]
  have e2 : unfoldI (((foldI n).toNat : Nat) : Int) = n := by rw [Int.toNat_of_nonneg hu.1]; exact unfold_fold n
  simp only [e2]
  rw [if_neg (by omega), List.drop_left]
/-- What reading brings, is what was put. -/
theorem zi_rI {l : List UInt8} {least most v : Int} {r : List UInt8} (h : rI l least most = (v, 0, r)) : l = zi v ++ r ∧ least ≤ v ∧ v ≤ most ∧ I64 v := by
  unfold rI at h
  cases hn : Zig.num l with
  | none => rw [hn] at h; simp at h
  | some p =>
    obtain ⟨u, n⟩ := p
    rw [hn] at h
    have hc := num_canon hn
    have hs := num_some hn
    have hU : U64 (u : Int) := by unfold U64; omega
    simp only at h
    split at h
    · simp at h
    · simp only [Prod.mk.injEq, true_and] at h
      obtain ⟨rfl, rfl⟩ := h
      refine ⟨?_, by omega, by omega, unfoldI_i64 hU⟩
      unfold zi
      rw [fold_unfold (by omega), Int.toNat_natCast, hc, List.take_append_drop]
/-- These numbers have just these bytes. -/
def Dec (b : List UInt8) (l : List Int) : Prop := Ok l ∧ l.length ≤ 65536 ∧ enc l = b
theorem at_i64 {l : List Int} (h : Ok l) (i : Nat) : I64 (at_ l i) := at_in h i
theorem dec_n {b : List UInt8} {l : List Int} (h : Dec b l) : rI b 0 65536 = ((l.length : Int), 0, if l = [] then [] else encT l) := by
  obtain ⟨h1, h2, rfl⟩ := h
  exact rI_zi (by unfold I64; omega) (by omega) _
theorem dec_f {l : List Int} (h : Ok l) : rI (encT l) (-9223372036854775808) 9223372036854775807 = (at_ l 0, 0, zi (mn (stp l)) ++ (zi (wid (rs l)) ++ pack (rs l) (wid (rs l)))) :=
  rI_zi (at_i64 h 0) (at_in h 0) _
theorem dec_b (l : List Int) : rI (zi (mn (stp l)) ++ (zi (wid (rs l)) ++ pack (rs l) (wid (rs l)))) (-9223372036854775808) 9223372036854775807 = (mn (stp l), 0, zi (wid (rs l)) ++ pack (rs l) (wid (rs l))) :=
  rI_zi (base_in l) (base_in l) _
theorem dec_w (l : List Int) : rI (zi (wid (rs l)) ++ pack (rs l) (wid (rs l))) 0 64 = ((wid (rs l) : Int), 0, pack (rs l) (wid (rs l))) := by
  have := wid_64 (rs l)
  exact rI_zi (by unfold I64; omega) (by omega) _
theorem dec_p {l : List Int} (hl : l.length ≤ 65536) (h0 : 0 < l.length) : unE (pack (rs l) (wid (rs l))) ((l.length : Int) - 1) (wid (rs l) : Int) = 0 ∧ nums (pack (rs l) (wid (rs l))) ((l.length : Int) - 1).toNat ((wid (rs l) : Nat) : Int).toNat = rs l := by
  have h64 := wid_64 (rs l)
  have hn := rs_len l
  have e1 : ((l.length : Int) - 1).toNat = (rs l).length := by omega
  have e2 := nums_pack (rs l) (wid (rs l)) (Nat.le_refl _)
  have e3 := pack_len (rs l) (wid (rs l))
  rw [e1, Int.toNat_natCast]
  refine ⟨?_, e2⟩
  unfold unE
  rw [e1, Int.toNat_natCast, if_neg (by omega), if_neg (by rw [e3]; simp), e2, if_neg (by simp)]
theorem enc_inj {b : List UInt8} {l m : List Int} (h : Dec b l) (h' : Dec b m) : l = m := by
  have e1 := dec_n h
  have e2 := dec_n h'
  rw [e1] at e2
  simp only [Prod.mk.injEq, true_and, Int.ofNat_inj] at e2
  obtain ⟨e3, e4⟩ := e2
  by_cases hl : l = []
  · subst hl
    exact (List.length_eq_zero_iff.1 e3.symm).symm
  · have hm : m ≠ [] := fun e => by subst e; exact hl (List.length_eq_zero_iff.1 e3)
    rw [if_neg hl, if_neg hm] at e4
    have hl0 := List.length_pos_iff.2 hl
    have hm0 := List.length_pos_iff.2 hm
    have f1 := dec_f h.1
    have f2 := dec_f h'.1
    rw [e4, f2] at f1
    simp only [Prod.mk.injEq, true_and] at f1
    obtain ⟨g1, g2⟩ := f1
    have b1 := dec_b l
    have b2 := dec_b m
    rw [← g2, b2] at b1
    simp only [Prod.mk.injEq, true_and] at b1
    obtain ⟨g3, g4⟩ := b1
    have w1 := dec_w l
    have w2 := dec_w m
    rw [← g4, w2] at w1
    simp only [Prod.mk.injEq, true_and] at w1
    obtain ⟨g5, g6⟩ := w1
    have p1 := (dec_p h.2.1 hl0).2
    have p2 := (dec_p h'.2.1 hm0).2
    rw [← g6, ← g5, e3, p2] at p1
    have u1 := un_rs h.1 hl0
    have u2 := un_rs h'.1 hm0
    rw [← p1, ← g3, ← g1, u2] at u1
    exact u1.symm
/-- What either Decode answers. -/
def DecE (b : List UInt8) (l : List Int) (e : Int) : Prop := (Dec b l ∧ e = 0) ∨ ((∀ m, ¬ Dec b m) ∧ l = [] ∧ e = 81)
theorem decE_one {b : List UInt8} {l m : List Int} {e f : Int} (h : DecE b l e) (h' : DecE b m f) : l = m ∧ e = f := by
  rcases h with ⟨h1, rfl⟩ | ⟨h1, rfl, rfl⟩ <;> rcases h' with ⟨h2, rfl⟩ | ⟨h2, rfl, rfl⟩
  · exact ⟨enc_inj h1 h2, rfl⟩
  · exact absurd h1 (h2 _)
  · exact absurd h2 (h1 _)
  · exact ⟨rfl, rfl⟩
/-- Where a read fails, no numbers have these bytes. -/
theorem no_n {b : List UInt8} (h : (rI b 0 65536).2.1 ≠ 0) (m : List Int) : ¬ Dec b m := fun hd => by rw [dec_n hd] at h; exact h rfl
theorem no_0 {b r : List UInt8} (h : rI b 0 65536 = (0, 0, r)) (hr : r ≠ []) (m : List Int) : ¬ Dec b m := fun hd => by
  have := dec_n hd
  rw [h] at this
  simp only [Prod.mk.injEq, true_and] at this
  have hm : m = [] := List.length_eq_zero_iff.1 (by omega)
  rw [if_pos hm] at this
  exact hr this.2
theorem yes_0 {b : List UInt8} (h : rI b 0 65536 = (0, 0, [])) : Dec b [] := by
  obtain ⟨e, _⟩ := zi_rI h
  refine ⟨fun x hx => by simp at hx, by simp, ?_⟩
  rw [e]; rfl
/-- What numbers with these bytes were read as, if there are any. -/
theorem dec_run {b r0 : List UInt8} {n : Int} {l : List Int} (hd : Dec b l) (h : rI b 0 65536 = (n, 0, r0)) (hn : 0 < n) : ∃ r1 r2 r3, n = l.length ∧ rI r0 (-9223372036854775808) 9223372036854775807 = (at_ l 0, 0, r1) ∧ rI r1 (-9223372036854775808) 9223372036854775807 = (mn (stp l), 0, r2) ∧ rI r2 0 64 = ((wid (rs l) : Int), 0, r3) ∧
    unE r3 (n - 1) (wid (rs l) : Int) = 0 ∧ unN (at_ l 0) (mn (stp l)) (nums r3 (n - 1).toNat ((wid (rs l) : Nat) : Int).toNat) = l := by
  have e := dec_n hd
  rw [h] at e
  simp only [Prod.mk.injEq, true_and] at e
  obtain ⟨rfl, e⟩ := e
  have hl : l ≠ [] := fun e => by subst e; simp at hn
  rw [if_neg hl] at e
  subst e
  have hp := dec_p hd.2.1 (by omega)
  exact ⟨_, _, _, rfl, dec_f hd.1, dec_b l, dec_w l, hp.1, by rw [hp.2]; exact un_rs hd.1 (by omega)⟩
end Go.Del
