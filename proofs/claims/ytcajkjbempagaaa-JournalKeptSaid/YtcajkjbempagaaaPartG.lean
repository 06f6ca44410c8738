/- The plain law of a number's bytes: no program in sight. -/
import Derived.Laws.MakeOwn
import Derived.Lib.SlBytesConst
import Derived.Laws.StructEq
import Derived.Maps.AppendAt
import Derived.Test.YtcajkjbempagaaaProg
import Derived.Test.YtcajkjbempagaaaPartF
set_option linter.all false
section
namespace Go.Zig
def hi (u : Nat) : List UInt8 := if u = 0 then [] else hi (u / 128) ++ [UInt8.ofNat (128 + u % 128)]
termination_by u
decreasing_by omega
def zu (u : Nat) : List UInt8 := hi (u / 128) ++ [UInt8.ofNat (u % 128)]
theorem hi_zero : hi 0 = [] := by rw [hi]; simp
theorem hi_pos {u : Nat} (h : 0 < u) : hi u = hi (u / 128) ++ [UInt8.ofNat (128 + u % 128)] := by rw [hi, if_neg (by omega)]
theorem hi_len (n : Nat) : ∀ u, u < 128 ^ n → (hi u).length ≤ n := by
  induction n with
  | zero => intro u h; have : u = 0 := by omega
            subst this; simp [hi_zero]
  | succ n ih =>
    intro u h
    by_cases h0 : u = 0
    · subst h0; simp [hi_zero]
    · rw [hi_pos (by omega), List.length_append, List.length_singleton]
      have := ih (u / 128) (by rw [Nat.pow_succ] at h; omega)
      omega
theorem zu_len {u : Nat} (h : u < 18446744073709551616) : (zu u).length ≤ 10 ∧ 1 ≤ (zu u).length := by
  have := hi_len 9 (u / 128) (by omega)
  simp only [zu, List.length_append, List.length_singleton]; omega
def dg (u i : Nat) : List UInt8 := if i < 10 then hi (u / 128 ^ (10 - i)) else zu u
theorem dg_zero {u : Nat} (h : u < 18446744073709551616) : dg u 0 = [] := by
  unfold dg; rw [if_pos (by omega), Nat.div_eq_of_lt (by omega), hi_zero]
theorem dg_ten (u : Nat) : dg u 10 = zu u := rfl
theorem dg_step {u i : Nat} (h : i < 9) : dg u (i + 1) = if u / 128 ^ (9 - i) = 0 then dg u i else dg u i ++ [UInt8.ofNat (128 + u / 128 ^ (9 - i) % 128)] := by
  unfold dg
  rw [if_pos (show i + 1 < 10 by omega), if_pos (show i < 10 by omega), show 10 - (i + 1) = 9 - i from by omega]
  have e : u / 128 ^ (10 - i) = u / 128 ^ (9 - i) / 128 := by
    rw [Nat.div_div_eq_div_mul, ← Nat.pow_succ]; congr 2; omega
  rw [e]
  by_cases h0 : u / 128 ^ (9 - i) = 0
  · rw [if_pos h0, h0, hi_zero]
  · rw [if_neg h0, hi_pos (Nat.pos_of_ne_zero h0)]
theorem dg_len {u : Nat} (h : u < 18446744073709551616) (i : Nat) : (dg u i).length ≤ 10 := by
  unfold dg; split
  · have := hi_len 10 (u / 128 ^ (10 - i)) (Nat.lt_of_le_of_lt (Nat.div_le_self _ _) (by omega)); exact this
  · exact (zu_len h).1
def numGo : Nat → Nat → List UInt8 → Option (Nat × Nat)
  | _, _, [] => none
  | i, u, c :: cs => if i = 10 then none else if (i = 0 ∧ c.toNat = 128) ∨ 144115188075855872 ≤ u then none else
    if c.toNat < 128 then some (u * 128 + c.toNat, i + 1) else numGo (i + 1) (u * 128 + c.toNat % 128) cs
def num (l : List UInt8) : Option (Nat × Nat) := numGo 0 0 l
theorem numGo_ten (u : Nat) (l : List UInt8) : numGo 10 u l = none := by cases l <;> simp [numGo]
theorem numGo_lt (l : List UInt8) : ∀ i u v n, numGo i u l = some (v, n) → i ≤ 10 → u < 18446744073709551616 → v < 18446744073709551616 ∧ i < n ∧ n ≤ i + l.length ∧ n ≤ 10 := by
  induction l with
  | nil => intro i u v n h; simp [numGo] at h
  | cons c l ih =>
    intro i u v n h hi hu
    unfold numGo at h
    split at h
    · cases h
    split at h
    · cases h
    rename_i h10 hbad
    split at h
    · rename_i hc
      simp only [Option.some.injEq, Prod.mk.injEq] at h
      obtain ⟨rfl, rfl⟩ := h
      simp; omega
    · have := ih _ _ _ _ h (by omega) (by omega)
      simp; omega
theorem num_some {l : List UInt8} {v n : Nat} (h : num l = some (v, n)) : v < 18446744073709551616 ∧ 0 < n ∧ n ≤ l.length ∧ n ≤ 10 := by
  have := numGo_lt l 0 0 v n h (by omega) (by omega)
  omega
end Go.Zig
end
section
set_option linter.unusedSimpArgs false
namespace Go.Proofs.Ytcajkjbempagaaa
open Go.Vc Go.Zig
set_option maxRecDepth 100000
def zi (n : Int) : List UInt8 := zu (foldI n).toNat
def rdInt (bs ds : List UInt8) (b1 : Value) (B : Nat) (v : Value) (w : World) : Prop :=
  (ds = [] ∧ v = b1) ∨ (¬ ds = [] ∧ w.ownsRow B 5 1 v (bs.length + ds.length) ((bs ++ ds).map u8v))
theorem rdInt_app {bs ds : List UInt8} {o : Option Addr} {v : Value} {w1 w2 : World} {K : Value → World → Prop} (g : UInt8) (hv : rdInt bs ds (.slice o bs.length bs.length) w1.heap.size v w2) (hbs : Sl w2 (.slice o bs.length bs.length) (bs.map u8v))
    (hl : Later w1 w2) (hlen : bs.length ≤ 140737488355000) (hd : ds.length ≤ 10) (hK : ∀ v' w', rdInt bs (ds ++ [g]) (.slice o bs.length bs.length) w1.heap.size v' w' → Later w1 w' → K v' w') :
    vAppend Try.prog #[25, 25] 25 #[v, .slice (some ⟨w2.heap.size, 0, none⟩) 1 1] K (w2.alloc (.cells #[u8v g] 5)) := by
  rcases hv with ⟨rfl, rfl⟩ | ⟨hne, hown⟩
  · refine vAppend_full Try.underlying25 ti5 rfl (base := w1.heap.size) (m := 1) (news := [u8v g]) (SlN.later (n := bs.length) (by simpa [Sl] using hbs) (later_alloc _ _)) (Sl.one w2 _ _) (by omega) (by unfold maxLen; omega) (by omega) (by have := hl.size; simp; omega) ?_
    intro v' w' ho hl'
    refine hK v' w' (.inr ⟨by simp, by simpa using ho⟩) (hl.trans ((later_alloc _ _).trans hl'))
  · refine vAppend_one Try.underlying25 ti5 rfl hown rfl (by unfold maxLen; omega) (by omega) hl.size ?_
    intro v' w' ho hl'
    refine hK v' w' (.inr ⟨by simp, ?_⟩) (hl' w1 hl (Nat.le_refl _))
    have e : bs.length + ds.length + 1 = bs.length + (ds ++ [g]).length := by simp; omega
    rw [← e]
    simpa using ho
theorem shr7 (u i : Nat) (hi : i < 10) (hu : u < 18446744073709551616) : (u : Int).fdiv (2 ^ (7 * (9 - (i : Int))).toNat) = ((u / 128 ^ (9 - i) : Nat) : Int) := by
  rw [Int.fdiv_eq_ediv_of_nonneg _ (Int.le_of_lt (Int.pow_pos (by decide)))]
  have e : (7 * (9 - (i : Int))).toNat = 7 * (9 - i) := by omega
  have e2 : (2 : Int) ^ (7 * (9 - i)) = ((128 ^ (9 - i) : Nat) : Int) := by
    have : 2 ^ (7 * (9 - i)) = 128 ^ (9 - i) := by rw [Nat.pow_mul]
    rw [← this, Int.natCast_pow]; rfl
  rw [e, e2]; rfl
theorem byte_of (m : Nat) : bitI .andNot .u8 (IntKind.u8.wrap (m : Int)) 128 = ((m % 128 : Nat) : Int) := by
  have e : IntKind.u8.wrap (m : Int) = ((m % 256 : Nat) : Int) := by rw [IntKind.wrap_u8]; omega
  rw [e]
  have h := b8_andNot (⟨m % 256, by omega⟩ : Fin 256)
  rw [show (((⟨m % 256, by omega⟩ : Fin 256)).val : Int) = ((m % 256 : Nat) : Int) from rfl] at h
  rw [h]
  have : m % 256 % 128 = m % 128 := by omega
  rw [this]
theorem zInt_c (b : Value) (bs : List UInt8) (n : Int) (w : World) (h : I64 n) (hb : Sl w b (bs.map u8v)) (hl : bs.length ≤ 140737488355000) :
    FnC Try.prog 35 #[b, .int .i64 n] w fun v w' => w'.ownsRow w.heap.size 5 1 v (bs.length + (zi n).length) ((bs ++ zi n).map u8v) ∧ Later w w' := by
  obtain ⟨o, c, rfl, h1, h2, h3, h4⟩ := hb.open
  have hf := foldI_u64 h
  unfold U64 at hf
  unfold maxLen at h2
  simp only [List.length_map] at *
  refine enter35 _ _ ?_
  unfold B35
  simp (disch := omega) only [push_cast, seval]
  refine ⟨by omega, ?_⟩
  refine (zFold_c n w h).mono ?_
  rintro _ w1 ⟨rfl, rfl⟩
  simp (disch := omega) only [push_cast, seval]
  obtain ⟨u, hu⟩ := Int.eq_ofNat_of_zero_le hf.1
  have hzi : zi n = zu u := by unfold zi; rw [hu, Int.toNat_natCast]
  rw [hzi, hu]
  have hub : u < 18446744073709551616 := by omega
  clear hzi
  refine vc_loop W35_0 (fun s : Nat × Value => [(17, .int .i64 (s.1 : Int)), (0, s.2)])
    (fun s w' => s.1 ≤ 10 ∧ Later w1 w' ∧ rdInt bs (dg u s.1) (.slice o bs.length bs.length) w1.heap.size s.2 w') (fun s => 10 - s.1) (0, .slice o bs.length bs.length) (by decide) ?_ ?_ ?_
  · simp (disch := omega) only [push_cast, seval]
  · exact ⟨by omega, Later.refl _, .inl ⟨dg_zero hub, rfl⟩⟩
  rintro ⟨i, v⟩ uu w2 ⟨hi10, hl2, hv⟩
  have hbs : Sl w2 (.slice o bs.length bs.length) (bs.map u8v) := hb.full.later hl2
  have hdl := dg_len hub i
  dsimp only at hi10 hl2 hv
  simp (disch := omega) only [push_cast, seval]
  first | refine iD (fun hlt => ?_) (fun hge => ?_) | refine iE (fun hlt => ?_) (fun hge => ?_) | refine iQ (fun hlt => ?_) (fun hge => ?_) | refine iV (fun hlt => ?_) (fun hge => ?_)
  · have hlt : i < 10 := by omega
    simp (disch := omega) only [push_cast, seval]
    rw [shr7 u i hlt hub]
    rw [byte_of]
    generalize hq : u / 128 ^ (9 - i) % 128 = q
    have hq128 : q < 128 := by omega
    refine ⟨by omega, ?_⟩
    first | refine iD (fun hz => ?_) (fun hz => ?_) | refine iE (fun hz => ?_) (fun hz => ?_) | refine iQ (fun hz => ?_) (fun hz => ?_) | refine iV (fun hz => ?_) (fun hz => ?_)
    · have hi9 : i = 9 := by omega
      subst hi9
      have e : (q : Int) = ((UInt8.ofNat (u % 128)).toNat : Int) := by simp at hq ⊢; omega
      rw [e]
      simp (disch := omega) only [push_cast, seval]
      refine rdInt_app (UInt8.ofNat (u % 128)) hv hbs hl2 hl hdl ?_
      intro v' w' hv' hl'
      simp (disch := omega) only [push_cast, seval]
      refine ⟨rfl, (10, v'), ?_, ⟨by simp, hl', ?_⟩, by simp⟩
      · simp (disch := omega) only [push_cast, seval]
      · exact hv'
    · simp (disch := omega) only [push_cast, seval]
      refine ⟨by omega, ?_⟩
      rw [shr7 u i hlt hub]
      first | refine iD (fun hpos => ?_) (fun hpos => ?_) | refine iE (fun hpos => ?_) (fun hpos => ?_) | refine iQ (fun hpos => ?_) (fun hpos => ?_) | refine iV (fun hpos => ?_) (fun hpos => ?_)
      · simp (disch := omega) only [push_cast, seval]
        have hpos : 0 < u / 128 ^ (9 - i) := Int.natCast_pos.1 hpos
        rw [or_byte _ hq128]
        have e : ((q + 128 : Nat) : Int) = ((UInt8.ofNat (128 + u / 128 ^ (9 - i) % 128)).toNat : Int) := by rw [hq]; simp; omega
        rw [e]
        refine rdInt_app (UInt8.ofNat (128 + u / 128 ^ (9 - i) % 128)) hv hbs hl2 hl hdl ?_
        intro v' w' hv' hl'
        simp (disch := omega) only [push_cast, seval]
        refine ⟨rfl, (i + 1, v'), ?_, ⟨by simp; omega, hl', ?_⟩, by simp; omega⟩
        · simp (disch := omega) only [push_cast, seval]
        · simp only
          rw [dg_step (by omega), if_neg (Nat.ne_of_gt hpos)]; exact hv'
      · simp (disch := omega) only [push_cast, seval]
        refine ⟨rfl, (i + 1, v), ?_, ⟨by simp; omega, hl2, ?_⟩, by simp; omega⟩
        · simp (disch := omega) only [push_cast, seval]
        · simp only
          rw [dg_step (by omega), if_pos (Nat.eq_zero_of_not_pos fun h => hpos (Int.natCast_pos.2 h))]; exact hv
  · simp (disch := omega) only [push_cast, seval]
    have hi : i = 10 := by omega
    subst hi
    rw [dg_ten] at hv
    rcases hv with ⟨h0, _⟩ | ⟨_, hv⟩
    · have := (zu_len hub).2
      rw [h0] at this; simp at this
    · exact ⟨hv, hl2⟩
end Go.Proofs.Ytcajkjbempagaaa
end
section
set_option linter.unusedSimpArgs false
namespace Go.Proofs.Ytcajkjbempagaaa
open Go.Vc Go.Zig
set_option maxRecDepth 100000
def nextV (l : List UInt8) : Int × Int := match num l with
  | none => (0, 0)
  | some (u, n) => (unfoldI u, n)
theorem tup2 {k j : IntKind} {a b c d : Int} (h : a = b) (h' : c = d) : Value.tuple #[.int k a, .int j c] = Value.tuple #[.int k b, .int j d] := by rw [h, h']
theorem zNext_c (b : Value) (l : List UInt8) (w : World) (hb : Sl w b (l.map u8v)) :
    FnC Try.prog 73 #[b] w fun v w' => v = .tuple #[.int .i64 (nextV l).1, .int .i64 (nextV l).2] ∧ w' = w := by
  obtain ⟨o, c, rfl, h1, h2, h3, h4⟩ := hb.open
  unfold maxLen at h2
  simp only [List.length_map] at *
  refine enter73 _ ?_
  unfold B73
  simp (disch := omega) only [push_cast, seval]
  refine ⟨by omega, ?_⟩
  refine vc_loop W73_0 (fun s : Nat × Nat => [(13, .int .i64 (s.1 : Int)), (4, .int .u64 (s.2 : Int))])
    (fun s w' => w' = w ∧ s.1 ≤ min l.length 10 ∧ s.2 < 18446744073709551616 ∧ numGo s.1 s.2 (l.drop s.1) = num l) (fun s => 10 - s.1) (0, 0) (by decide) ?_ ?_ ?_
  · simp (disch := omega) only [push_cast, seval]
  · exact ⟨rfl, by omega, by omega, rfl⟩
  rintro ⟨i, u⟩ uu w2 ⟨hw, hi, hu, hn⟩
  subst hw
  dsimp only at hi hu hn
  simp (disch := omega) only [push_cast, seval]
  first | refine iD (fun hlt => ?_) (fun hge => ?_) | refine iE (fun hlt => ?_) (fun hge => ?_) | refine iQ (fun hlt => ?_) (fun hge => ?_) | refine iV (fun hlt => ?_) (fun hge => ?_)
  · have hil : i < l.length := by omega
    cases o with
    | none => have := (h3 rfl).1; simp at this; subst this; simp at hil
    | some a =>
      have hc : w2.cell? (a.add i) = some (.int .u8 (l[i].toNat : Int)) := h4 a rfl i _ (by simp [u8v, hil])
      rw [List.drop_eq_getElem_cons hil] at hn
      unfold numGo at hn
      rw [if_neg (by omega)] at hn
      generalize hcv : l[i] = cc at *
      have hcc := cc.toNat_lt
      have hl := low7 cc
      have ht := top8 cc
      have ho := cat7 u cc
      repeat' (first | (simp (disch := omega) only [push_cast, seval, hc, hl, ht, ho]) | refine iX ?_ ?_ <;> intros | refine aI (by omega) ?_ | refine dq ?_)
      · unfold nextV; rw [← hn, if_pos (by omega)]
      · refine (zUnfold_c _ w2 (by unfold U64; omega)).mono ?_
        rintro _ _ ⟨rfl, rfl⟩
        repeat' (first | (simp (disch := omega) only [push_cast, seval]) | refine iX ?_ ?_ <;> intros | refine aI (by omega) ?_ | refine dq ?_)
        unfold nextV; rw [← hn, if_neg (by omega), if_pos (by omega)]
        exact tup2 (by dsimp only; congr 1; omega) (by dsimp only; omega)
      · refine ⟨rfl, (i + 1, u * 128 + cc.toNat % 128), by simp (disch := omega) only [push_cast, seval], ⟨rfl, by simp; omega, by simp; omega, ?_⟩, by simp; omega⟩
        rw [if_neg (by omega), if_neg (by omega)] at hn; exact hn
      · unfold nextV; rw [← hn, if_pos (by omega)]
      · unfold nextV; rw [← hn, if_pos (by omega)]
      · refine (zUnfold_c _ w2 (by unfold U64; omega)).mono ?_
        rintro _ _ ⟨rfl, rfl⟩
        repeat' (first | (simp (disch := omega) only [push_cast, seval]) | refine iX ?_ ?_ <;> intros | refine aI (by omega) ?_ | refine dq ?_)
        unfold nextV; rw [← hn, if_neg (by omega), if_pos (by omega)]
        exact tup2 (by dsimp only; congr 1; omega) (by dsimp only; omega)
      · refine ⟨rfl, (i + 1, u * 128 + cc.toNat % 128), by simp (disch := omega) only [push_cast, seval], ⟨rfl, by simp; omega, by simp; omega, ?_⟩, by simp; omega⟩
        rw [if_neg (by omega), if_neg (by omega)] at hn; exact hn
  · repeat' (first | (simp (disch := omega) only [push_cast, seval]) | refine iX ?_ ?_ <;> intros | refine aI (by omega) ?_ | refine dq ?_)
    have h0 : num l = none := by
      rw [← hn]
      by_cases hi10 : i = 10
      · subst hi10; exact numGo_ten _ _
      · rw [List.drop_of_length_le (by omega)]; rfl
    unfold nextV; rw [h0]
end Go.Proofs.Ytcajkjbempagaaa
end
section
namespace Go.Vc
open Go.RowKit
def Blk (w : World) (k : Nat) (cs : Array Value) (e : TypeId) : Prop := w.heap[k]? = some (.cells cs e (0, 0))
theorem Blk.lt {w : World} {k : Nat} {cs : Array Value} {e : TypeId} (h : Blk w k cs e) : k < w.heap.size := by
  unfold Blk at h
  by_cases hk : k < w.heap.size
  · exact hk
  · rw [Array.getElem?_eq_none (by omega)] at h; cases h
theorem Blk.cell {w : World} {k : Nat} {cs : Array Value} {e : TypeId} (h : Blk w k cs e) (i : Nat) : w.cell? ⟨k, i, none⟩ = cs[i]? := by
  unfold Blk at h
  simp [World.cell?, h]
theorem Blk.frozen {w : World} {k : Nat} {cs : Array Value} {e : TypeId} (h : Blk w k cs e) (i : Nat) : w.frozen? ⟨k, i, none⟩ = false := by
  unfold Blk at h
  simp [World.frozen?, h]
theorem Blk.set {w : World} {k : Nat} {cs : Array Value} {e : TypeId} (h : Blk w k cs e) (i : Nat) (v : Value) : Blk (w.setCell ⟨k, i, none⟩ v) k (cs.setIfInBounds i v) e := by
  unfold Blk at h ⊢
  simp [World.setCell, Array.getElem?_modify, h]
theorem Blk.new (w : World) (cs : Array Value) (e : TypeId) : Blk (w.alloc (.cells cs e)) w.heap.size cs e := heap_new w _
theorem heap_alloc {w : World} {k : Nat} (h : k < w.heap.size) (o : Obj) : (w.alloc o).heap[k]? = w.heap[k]? := by
  show (w.heap.push o)[k]? = _
  rw [Array.getElem?_push, if_neg (by omega)]
theorem Blk.alloc {w : World} {k : Nat} {cs : Array Value} {e : TypeId} (h : Blk w k cs e) (o : Obj) : Blk (w.alloc o) k cs e := by
  have := heap_alloc h.lt o
  unfold Blk at h ⊢
  rw [this, h]
structure Chg (w w' : World) (ks : List Nat) : Prop where
  os : w'.os = w.os
  tape : w'.tape = w.tape
  output : w'.output = w.output
  size : w.heap.size ≤ w'.heap.size
  block : ∀ k, k < w.heap.size → k ∉ ks → w'.heap[k]? = w.heap[k]?
theorem Chg.refl (w : World) (ks : List Nat) : Chg w w ks := ⟨rfl, rfl, rfl, Nat.le_refl _, fun _ _ _ => rfl⟩
theorem Chg.trans {a b c : World} {ks : List Nat} (h : Chg a b ks) (g : Chg b c ks) : Chg a c ks :=
  ⟨g.os.trans h.os, g.tape.trans h.tape, g.output.trans h.output, Nat.le_trans h.size g.size, fun k hk hn => (g.block k (Nat.lt_of_lt_of_le hk h.size) hn).trans (h.block k hk hn)⟩
theorem Chg.mono {a b : World} {ks js : List Nat} (h : Chg a b ks) (hs : ∀ k ∈ ks, k ∈ js) : Chg a b js :=
  ⟨h.os, h.tape, h.output, h.size, fun k hk hn => h.block k hk fun hm => hn (hs k hm)⟩
theorem Chg.of_later {a b : World} {ks : List Nat} (h : Later a b) : Chg a b ks := ⟨h.os, h.tape, h.output, h.size, fun k hk _ => h.block k hk⟩
theorem Chg.later {a b c : World} {ks : List Nat} (h : Later a b) (g : Chg b c ks) (hk : ∀ k ∈ ks, a.heap.size ≤ k) : Later a c :=
  ⟨g.os.trans h.os, g.tape.trans h.tape, g.output.trans h.output, Nat.le_trans h.size g.size, fun k hka => (g.block k (Nat.lt_of_lt_of_le hka h.size) fun hm => by have := hk k hm; omega).trans (h.block k hka)⟩
theorem chg_setCell (w : World) {k i : Nat} {ks : List Nat} (hk : k ∈ ks) (v : Value) : Chg w (w.setCell ⟨k, i, none⟩ v) ks :=
  ⟨rfl, rfl, rfl, by simp [World.setCell], fun j _ hn => by
    have : k ≠ j := fun e => hn (e ▸ hk)
    simp [World.setCell, Array.getElem?_modify, this]⟩
theorem Chg.set {a b : World} {ks : List Nat} (h : Chg a b ks) {k i : Nat} (hk : k ∈ ks) (v : Value) : Chg a (b.setCell ⟨k, i, none⟩ v) ks := h.trans (chg_setCell b hk v)
theorem Blk.chg {w w' : World} {ks : List Nat} {k : Nat} {cs : Array Value} {e : TypeId} (h : Blk w k cs e) (g : Chg w w' ks) (hk : k ∉ ks) : Blk w' k cs e := by
  have := g.block k h.lt hk
  unfold Blk at h ⊢
  rw [this, h]
def inB (k : Nat) : Value → Prop
  | .slice (some a) n _ => n = 0 ∨ a.block = k
  | _ => True
theorem SlN.chg {w w' : World} {s n : Nat} {v : Value} {xs : List Value} {ks : List Nat} {k : Nat} (h : SlN w s v n xs) (g : Chg w w' ks) (hk : k ∉ ks) (hv : inB k v) : SlN w' s v n xs := by
  obtain ⟨o, c, rfl, h1, h2, h3, h4, h5⟩ := h.open
  refine SlN.mk h3 h1 h2 h4 fun a ha i x hx => ?_
  have hc := h5 a ha i x hx
  have hlt := lt_of_cell hc
  rw [addr_add_block] at hlt
  subst ha
  have hb : a.block = k := by
    rcases hv with h0 | h
    · subst h0
      simp only [Nat.zero_mul] at h3
      rw [List.eq_nil_of_length_eq_zero h3] at hx; cases hx
    · exact h
  have e := g.block a.block hlt (hb ▸ hk)
  rw [← addr_add_block a i] at e
  unfold World.cell? at hc ⊢
  rw [e]; exact hc
theorem Sl.chg {w w' : World} {v : Value} {xs : List Value} {ks : List Nat} {k : Nat} (h : Sl w v xs) (g : Chg w w' ks) (hk : k ∉ ks) (hv : inB k v) : Sl w' v xs := SlN.chg h g hk hv
theorem inB_lt {w : World} {v : Value} {xs : List Value} (h : Sl w v xs) : (∀ j, inB j v) ∨ ∃ k, k < w.heap.size ∧ inB k v := by
  obtain ⟨o, c, rfl, h1, h2, h3, h4⟩ := h.open
  cases o with
  | none => exact .inl fun j => trivial
  | some a =>
    cases xs with
    | nil => exact .inl fun j => .inl rfl
    | cons x xs =>
      have := lt_of_cell (h4 a rfl 0 x rfl)
      rw [addr_add_block] at this
      exact .inr ⟨a.block, this, .inr rfl⟩
theorem own_in {w : World} {base s n : Nat} {e : TypeId} {v : Value} {xs : List Value} (h : w.ownsRow base e s v n xs) : ∃ k, (k < w.heap.size ∨ k = base) ∧ base ≤ k ∧ inB k v := by
  obtain ⟨_, h⟩ := h
  rcases h with ⟨rfl, _⟩ | ⟨g, cap, cur, rfl, hb, hh, _⟩
  · exact ⟨base, .inr rfl, Nat.le_refl _, trivial⟩
  · exact ⟨g, .inl (Blk.lt hh), hb, .inr rfl⟩
theorem inB_part {k : Nat} {o : Option Addr} {n c : Nat} (h : inB k (.slice o n c)) (l m : Int) (s a b : Nat) (ha : a ≤ n) : inB k (.slice (slAddr o l m s) a b) := by
  unfold slAddr
  split
  · cases o with
    | none => trivial
    | some ad => exact h.imp (fun h => by omega) id
  · cases o with
    | none => trivial
    | some ad => simp only [Option.map_some, inB, addr_add_block]; exact h.imp (fun h => by omega) id
theorem own_lit (w : World) (l : List Value) (e : TypeId) (s n : Nat) (h : l.length = n * s) (hn : n ≤ maxLen) {base : Nat} (hb : base ≤ w.heap.size) : (w.alloc (.cells l.toArray e)).ownsRow base e s (.slice (some ⟨w.heap.size, 0, none⟩) n n) n l := by
  refine ⟨h, .inr ⟨w.heap.size, n, l.toArray, rfl, hb, heap_new w _, Nat.le_refl _, hn, by simpa using h, ?_⟩⟩
  rw [← h]; simp
theorem own_chg {w w' : World} {base s n : Nat} {e : TypeId} {v : Value} {xs : List Value} {ks : List Nat} (h : w.ownsRow base e s v n xs) (g : Chg w w' ks) (hk : ∀ k ∈ ks, k < base) : w'.ownsRow base e s v n xs := by
  obtain ⟨h0, h⟩ := h
  refine ⟨h0, ?_⟩
  rcases h with h | ⟨b, cap, cur, hv, hb, hh, h3⟩
  · exact .inl h
  · refine .inr ⟨b, cap, cur, hv, hb, ?_, h3⟩
    rw [g.block b (Blk.lt hh) fun hm => by have := hk b hm; omega]; exact hh
theorem Sl.pre {w : World} {o : Option Addr} {n c : Nat} {xs : List Value} (h : Sl w (.slice o n c) xs) {k : Nat} (hk : k ≤ n) : Sl w (.slice o k c) (xs.take k) := by
  obtain ⟨hn, hc, hm, _⟩ := h.len
  have hs := h.part (l := 0) (k := (k : Int)) (m := (c : Int)) (by omega) (by omega) (by omega) (by omega) (by omega)
  simp only [Int.sub_zero, Int.toNat_zero, List.drop_zero, Int.toNat_natCast] at hs
  unfold slAddr at hs
  split at hs
  · exact hs
  · cases o with
    | none => exact hs
    | some a => simpa [addr_add_zero] using hs
theorem Chg.of_grown {w w' : World} {row : Option Nat} (g : w.grownBy w' row) : Chg w w' row.toList :=
  ⟨g.os, g.tape, g.output, g.size, fun k hk hn => g.block k hk fun h => hn (by simp [h])⟩
end Go.Vc
end
section
set_option linter.unusedSimpArgs false
namespace Go.Proofs.Ytcajkjbempagaaa
open Go.Vc Go.Zig
set_option maxRecDepth 100000
theorem clone_c (b : Value) (bs : List UInt8) (w : World) (hb : Sl w b (bs.map u8v)) (hl : bs.length ≤ 140737488355000) :
    FnC Try.prog 46 #[b] w fun v w' => OwnB w' w.heap.size 5 v bs ∧ Later w w' := by
  obtain ⟨o, c, rfl, h1, h2, h3, h4⟩ := hb.open
  unfold maxLen at h2
  refine enter46 _ ?_
  unfold B46
  simp (disch := omega) only [push_cast, seval]
  first | refine iD (fun hn => ?_) (fun hn => ?_) | refine iE (fun hn => ?_) (fun hn => ?_) | refine iQ (fun hn => ?_) (fun hn => ?_) | refine iV (fun hn => ?_) (fun hn => ?_)
  · have : bs = [] := by
      cases o with
      | none => simpa using (h3 rfl).1
      | some a => simp at hn
    subst this
    simp (disch := omega) only [push_cast, seval]
    exact ⟨own_nil _ _ _ _, Later.refl _⟩
  · simp (disch := omega) only [push_cast, seval]
    refine vAppend_own Try.underlying25 ti5 rfl (by decide) (base := w.heap.size) (own_lit w [] _ 1 0 rfl (Nat.zero_le _) (Nat.le_refl _)) (SlN.later (n := bs.length) (by simpa [Sl] using hb) (later_alloc _ _)) (u8vs_one _) (by unfold maxLen; omega) (by omega) (by simp) ?_
    intro v' w' ho hg _
    simp (disch := omega) only [push_cast, seval]
    refine ⟨by simpa [OwnB] using ho, (later_alloc _ _).appended (own_lit w [] _ 1 0 rfl (Nat.zero_le _) (Nat.le_refl _)) (Nat.le_refl _) hg⟩
theorem zi_len {n : Int} (h : I64 n) : (zi n).length ≤ 10 ∧ 1 ≤ (zi n).length := by
  have := foldI_u64 h
  unfold U64 at this
  exact zu_len (by omega)
theorem zText_c (b : Value) (bs : List UInt8) (s : ByteArray) (w : World) (hb : Sl w b (bs.map u8v)) (hl : bs.length + s.size ≤ 140737488355000) :
    FnC Try.prog 36 #[b, .string s] w fun v w' => OwnB w' w.heap.size 5 v (bs ++ zi s.size ++ s.data.toList) ∧ Later w w' := by
  have hi : I64 (s.size : Int) := by unfold I64; omega
  have hz := zi_len hi
  refine enter36 _ _ ?_
  unfold B36
  simp (disch := omega) only [push_cast, seval]
  refine (zInt_c b bs _ w hi hb (by omega)).mono ?_
  rintro v w1 ⟨ho, hl1⟩
  simp (disch := omega) only [push_cast, seval]
  refine vAppend_str Try.underlying25 Try.underlying9 ti5 ho (by omega) hl1.size ?_
  intro v' w' ho' hl'
  simp (disch := omega) only [push_cast, seval]
  refine ⟨?_, hl' w hl1 (Nat.le_refl _)⟩
  unfold OwnB
  have e : (bs ++ zi s.size ++ s.data.toList).length = bs.length + (zi s.size).length + s.size := by simp; omega
  rw [e]
  simpa using ho'
end Go.Proofs.Ytcajkjbempagaaa
end
section
set_option linter.unusedSimpArgs false
namespace Go.Proofs.Ytcajkjbempagaaa
open Go.Vc Go.Zig
set_option maxRecDepth 100000
def Rd (w : World) (k d : Nat) (l : List UInt8) : Prop := ∃ o n c, Blk w k #[.slice o n c] 111 ∧ Sl w (.slice o n c) (l.map u8v) ∧ inB d (.slice o n c) ∧ d ≠ k ∧ k < w.heap.size
def pt (k : Nat) : Value := .pointer (some ⟨k, 0, none⟩)
def rI (l : List UInt8) (least most : Int) : Int × Int × List UInt8 := match num l with
  | none => (0, 11, l)
  | some (u, n) => if unfoldI u < least ∨ most < unfoldI u then (0, 11, l) else (unfoldI u, 0, l.drop n)
def rT (l : List UInt8) (most : Int) : ByteArray × Int × List UInt8 := match num l with
  | none => (strOf [], 11, l)
  | some (u, n) => if unfoldI u < 0 ∨ most < unfoldI u ∨ (l.length : Int) - n < unfoldI u then (strOf [], 11, l) else (strOf ((l.drop n).take (unfoldI u).toNat), 0, l.drop (n + (unfoldI u).toNat))
def rB (l : List UInt8) (n : Int) : List UInt8 × Int × List UInt8 := if n < 0 ∨ (l.length : Int) < n then ([], 11, l) else (l.take n.toNat, 0, l.drop n.toNat)
theorem Rd.chg {w w' : World} {k d : Nat} {l : List UInt8} {ks : List Nat} (h : Rd w k d l) (g : Chg w w' ks) (hk : k ∉ ks) (hd : d ∉ ks) : Rd w' k d l := by
  obtain ⟨o, n, c, h1, h2, h3, h4, h5⟩ := h
  exact ⟨o, n, c, h1.chg g hk, h2.chg g hd h3, h3, h4, Nat.lt_of_lt_of_le h5 g.size⟩
theorem Rd.drop {w : World} {k d : Nat} {l : List UInt8} {o : Option Addr} {n c : Nat} (h1 : Blk w k #[.slice o n c] 111) (h2 : Sl w (.slice o n c) (l.map u8v)) (h3 : inB d (.slice o n c)) (h4 : d ≠ k) (h5 : k < w.heap.size) {j : Int} (h0 : 0 ≤ j) (hj : j ≤ l.length) :
    Rd (w.setCell ⟨k, 0, none⟩ (.slice (slAddr o j c 1) (n - j).toNat (c - j).toNat)) k d (l.drop j.toNat) := by
  obtain ⟨hn, hc, hm, _⟩ := h2.len
  simp only [List.length_map] at hn
  refine ⟨_, _, _, by simpa using h1.set 0 (.slice (slAddr o j c 1) (n - j).toNat (c - j).toNat), ?_, inB_part h3 _ _ _ _ _ (by omega), h4, by simpa [World.setCell] using h5⟩
  have h := h2.part (l := j) (k := n) (m := c) h0 (by omega) (by omega) (by omega) (by omega)
  refine Sl.chg (k := d) (ks := [k]) ?_ (chg_setCell w (by simp) _) (by simpa using h4) (inB_part h3 _ _ _ _ _ (by omega))
  have e : (((l.map u8v).take ((n : Int).toNat)).drop j.toNat) = (l.drop j.toNat).map u8v := by
    rw [Int.toNat_natCast, List.take_of_length_le (by simp; omega), List.map_drop]
  rw [e] at h
  exact h
theorem map_part (l : List UInt8) {j k : Int} (h0 : 0 ≤ j) (hk : j ≤ k) : ((l.map u8v).take k.toNat).drop j.toNat = ((l.drop j.toNat).take (k - j).toNat).map u8v := by
  rw [List.drop_take, List.map_take, List.map_drop]
  congr 1; omega
theorem num_next {l : List UInt8} : (num l = none ∧ nextV l = (0, 0)) ∨ ∃ u n, num l = some (u, n) ∧ nextV l = (unfoldI u, (n : Int)) ∧ U64 u ∧ 0 < n ∧ n ≤ l.length := by
  unfold nextV
  cases h : num l with
  | none => exact .inl ⟨rfl, rfl⟩
  | some p =>
    obtain ⟨u, n⟩ := p
    have := num_some h
    exact .inr ⟨u, n, rfl, rfl, by unfold U64; omega, by omega, by omega⟩
theorem zRInt_c (k d : Nat) (l : List UInt8) (least most : Int) (w : World) (h : Rd w k d l) :
    FnC Try.prog 51 #[pt k, .int .i64 least, .int .i64 most] w fun v w' => v = .tuple #[.int .i64 (rI l least most).1, .int .i64 (rI l least most).2.1] ∧ Rd w' k d (rI l least most).2.2 ∧ Chg w w' [k] := by
  obtain ⟨o, n, c, h1, h2, h3, h4, h5⟩ := h
  have hc : w.cell? ⟨k, 0, none⟩ = some (.slice o n c) := h1.cell 0
  have hf := h1.frozen 0
  obtain ⟨hn, hnc, hm, _⟩ := h2.len
  unfold maxLen at hm
  simp only [List.length_map] at hn
  have hR : Rd w k d l := ⟨o, n, c, h1, h2, h3, h4, h5⟩
  refine enter51 _ _ _ ?_
  unfold B51 pt
  simp (disch := omega) only [push_cast, seval, hc]
  refine (zNext_c _ l w h2).mono ?_
  rintro _ _ ⟨rfl, rfl⟩
  unfold rI
  rcases num_next (l := l) with ⟨e1, e2⟩ | ⟨u, m, e1, e2, e3, e4, e5⟩
  · simp only [e1, e2]
    repeat' (first | (simp (disch := omega) only [push_cast, seval, hc]) | refine iX ?_ ?_ <;> intros | refine aI (by omega) ?_ | refine dq ?_)
    exact Chg.refl _ _
  · simp only [e1, e2]
    have hu := unfoldI_i64 e3
    unfold I64 at hu
    repeat' (first | (simp (disch := omega) only [push_cast, seval, hc]) | refine iX ?_ ?_ <;> intros | refine aI (by omega) ?_ | refine dq ?_)
    · rw [if_pos (by omega)]; exact ⟨rfl, hR, Chg.refl _ _⟩
    · rw [if_neg (by omega)]; exact ⟨⟨_, rfl⟩, hf, rfl, Rd.drop h1 h2 h3 h4 h5 (by omega) (by omega), chg_setCell _ (by simp) _⟩
    · rw [if_pos (by omega)]; exact ⟨rfl, hR, Chg.refl _ _⟩
theorem zRText_c (k d : Nat) (l : List UInt8) (most : Int) (w : World) (h : Rd w k d l) :
    FnC Try.prog 66 #[pt k, .int .i64 most] w fun v w' => v = .tuple #[.string (rT l most).1, .int .i64 (rT l most).2.1] ∧ Rd w' k d (rT l most).2.2 ∧ Chg w w' [k] := by
  obtain ⟨o, n, c, h1, h2, h3, h4, h5⟩ := h
  have hc : w.cell? ⟨k, 0, none⟩ = some (.slice o n c) := h1.cell 0
  have hf := h1.frozen 0
  obtain ⟨hn, hnc, hm, _⟩ := h2.len
  unfold maxLen at hm
  simp only [List.length_map] at hn
  have hR : Rd w k d l := ⟨o, n, c, h1, h2, h3, h4, h5⟩
  refine enter66 _ _ ?_
  unfold B66 pt
  simp (disch := omega) only [push_cast, seval, hc]
  refine (zNext_c _ l w h2).mono ?_
  rintro _ _ ⟨rfl, rfl⟩
  unfold rT
  rcases num_next (l := l) with ⟨e1, e2⟩ | ⟨u, m, e1, e2, e3, e4, e5⟩
  · simp only [e1, e2]
    repeat' (first | (simp (disch := omega) only [push_cast, seval, hc]) | refine iX ?_ ?_ <;> intros | refine aI (by omega) ?_ | refine dq ?_)
    exact ⟨rfl, hR, Chg.refl _ _⟩
  · simp only [e1, e2]
    have hu := unfoldI_i64 e3
    unfold I64 at hu
    repeat' (first | (simp (disch := omega) only [push_cast, seval, hc]) | refine iX ?_ ?_ <;> intros | refine aI (by omega) ?_ | refine dq ?_)
    · rw [if_pos (by omega)]; exact ⟨rfl, hR, Chg.refl _ _⟩
    · rw [if_neg (by omega)]
      have hs := h2.part (l := (m : Int)) (k := (m : Int) + unfoldI u) (m := c) (by omega) (by omega) (by omega) (by omega) (by omega)
      rw [map_part l (by omega) (by omega)] at hs
      refine vConv_bytes Try.underlying25 Try.underlying9 Try.underlying5 hs ?_
      repeat' (first | (simp (disch := omega) only [push_cast, seval, hc]) | refine iX ?_ ?_ <;> intros | refine aI (by omega) ?_ | refine dq ?_)
      refine ⟨⟨_, rfl⟩, hf, ?_, ?_, chg_setCell _ (by simp) _⟩
      · have e : (m : Int) + unfoldI u - m = unfoldI u := by omega
        simp [e]
      · have hd := Rd.drop h1 h2 h3 h4 h5 (j := (m : Int) + unfoldI u) (by omega) (by omega)
        have e : ((m : Int) + unfoldI u).toNat = m + (unfoldI u).toNat := by omega
        rw [e] at hd
        exact hd
    · rw [if_pos (by omega)]; exact ⟨rfl, hR, Chg.refl _ _⟩
    · rw [if_pos (by omega)]; exact ⟨rfl, hR, Chg.refl _ _⟩
theorem zRLeft_c (k d : Nat) (l : List UInt8) (w : World) (h : Rd w k d l) :
    FnC Try.prog 40 #[pt k] w fun v w' => v = .int .i64 l.length ∧ w' = w := by
  obtain ⟨o, n, c, h1, h2, h3, h4, h5⟩ := h
  have hc : w.cell? ⟨k, 0, none⟩ = some (.slice o n c) := h1.cell 0
  obtain ⟨hn, hnc, hm, _⟩ := h2.len
  simp only [List.length_map] at hn
  refine enter40 _ ?_
  unfold B40 pt
  repeat' (first | (simp (disch := omega) only [push_cast, seval, hc]) | refine iX ?_ ?_ <;> intros | refine aI (by omega) ?_ | refine dq ?_)
  rw [hn]
theorem zRBytes_c (k d : Nat) (l : List UInt8) (j : Int) (w : World) (h : Rd w k d l) (hl : l.length ≤ 140737488355000) :
    FnC Try.prog 52 #[pt k, .int .i64 j] w fun v w' => ∃ b, v = .tuple #[b, .int .i64 (rB l j).2.1] ∧ OwnB w' w.heap.size 5 b (rB l j).1 ∧ Rd w' k d (rB l j).2.2 ∧ Chg w w' [k] := by
  obtain ⟨o, n, c, h1, h2, h3, h4, h5⟩ := h
  have hc : w.cell? ⟨k, 0, none⟩ = some (.slice o n c) := h1.cell 0
  have hf := h1.frozen 0
  obtain ⟨hn, hnc, hm, _⟩ := h2.len
  unfold maxLen at hm
  simp only [List.length_map] at hn
  have hR : Rd w k d l := ⟨o, n, c, h1, h2, h3, h4, h5⟩
  refine enter52 _ _ ?_
  unfold B52 pt
  repeat' (first | (simp (disch := omega) only [push_cast, seval, hc]) | refine iX ?_ ?_ <;> intros | refine aI (by omega) ?_ | refine dq ?_)
  · unfold rB; rw [if_pos (by omega)]; exact ⟨_, rfl, own_nil _ _ _ _, hR, Chg.refl _ _⟩
  · have hs := h2.part (l := 0) (k := j) (m := c) (by omega) (by omega) (by omega) (by omega) (by omega)
    rw [map_part l (by omega) (by omega)] at hs
    have hs' : Sl w (.slice o j.toNat c) ((l.take j.toNat).map u8v) := by
      simp only [Int.sub_zero, Int.toNat_zero, List.drop_zero, Int.toNat_natCast] at hs
      unfold slAddr at hs
      split at hs
      · exact hs
      · cases o with
        | none => exact hs
        | some a => simpa [addr_add_zero] using hs
    refine (clone_c _ _ w hs' (by simp; omega)).mono ?_
    rintro b w1 ⟨hb, hl1⟩
    have g1 : Chg w w1 [] := Chg.of_later hl1
    have h1' := h1.chg g1 (by simp)
    have h2' := h2.later hl1
    have hc' : w1.cell? ⟨k, 0, none⟩ = some (.slice o n c) := h1'.cell 0
    repeat' (first | (simp (disch := omega) only [push_cast, seval, hc']) | refine iX ?_ ?_ <;> intros | refine aI (by omega) ?_ | refine dq ?_)
    refine ⟨⟨_, rfl⟩, h1'.frozen 0, b, ?_, ?_, ?_, (Chg.of_later hl1).set (by simp) _⟩
    · unfold rB; rw [if_neg (by omega)]
    · unfold rB; rw [if_neg (by omega)]
      exact own_chg hb (chg_setCell w1 (ks := [k]) (by simp) _) (by simpa using h5)
    · unfold rB; rw [if_neg (by omega)]
      exact Rd.drop h1' h2' h3 h4 h1'.lt (by omega) (by omega)
  · unfold rB; rw [if_pos (by omega)]; exact ⟨_, rfl, own_nil _ _ _ _, hR, Chg.refl _ _⟩
theorem zOpen_c (b : Value) (l : List UInt8) (w : World) (hb : Sl w b (l.map u8v)) (hl : l.length ≤ 140737488355000) :
    FnC Try.prog 37 #[b] w fun v w' => ∃ k d, v = pt k ∧ Rd w' k d l ∧ w.heap.size ≤ k ∧ w.heap.size ≤ d ∧ Later w w' := by
  refine enter37 _ ?_
  unfold B37
  repeat' (first | (simp (disch := omega) only [push_cast, seval]) | refine iX ?_ ?_ <;> intros | refine aI (by omega) ?_ | refine dq ?_)
  refine (clone_c _ _ w hb hl).mono ?_
  rintro v w1 ⟨ho, hl1⟩
  obtain ⟨o, c, rfl⟩ := ho.slice
  obtain ⟨d, hd, hd1, hd2⟩ := own_in ho
  repeat' (first | (simp (disch := omega) only [push_cast, seval]) | refine iX ?_ ?_ <;> intros | refine aI (by omega) ?_ | refine dq ?_)
  have g : Later w1 (w1.alloc (.cells (Value.agg #[Value.slice o l.length c]).cells 111)) := later_alloc _ _
  by_cases hlt : d < w1.heap.size
  · exact ⟨w1.heap.size, d, rfl, ⟨o, _, c, Blk.new _ _ _, ho.sl.later g, hd2, by omega, by simp⟩, hl1.size, hd1, hl1.alloc _⟩
  · cases o with
    | none => exact ⟨w1.heap.size, w1.heap.size + 1, rfl, ⟨none, _, c, Blk.new _ _ _, ho.sl.later g, trivial, by omega, by simp⟩, hl1.size, by have := hl1.size; omega, hl1.alloc _⟩
    | some a =>
      by_cases hn0 : l.length = 0
      · exact ⟨w1.heap.size, w1.heap.size + 1, rfl, ⟨some a, _, c, Blk.new _ _ _, ho.sl.later g, .inl hn0, by omega, by simp⟩, hl1.size, by have := hl1.size; omega, hl1.alloc _⟩
      exfalso
      obtain ⟨_, ho⟩ := ho
      rcases ho with ⟨h, _⟩ | ⟨g, cap, cur, h, hb, hh, _⟩
      · cases h
      · simp only [Value.slice.injEq, Option.some.injEq] at h
        obtain ⟨rfl, _⟩ := h
        have := Blk.lt hh
        simp only [inB] at hd2
        omega
end Go.Proofs.Ytcajkjbempagaaa
end
section
set_option linter.unusedSimpArgs false
namespace Go.Proofs.Ytcajkjbempagaaa
open Go.Vc Go.Zig
set_option maxRecDepth 100000
theorem rInt_c (n : Int) (w : World) (h : I64 n) :
    FnC Try.prog 61 #[.int .i64 n] w fun v w' => OwnB w' w.heap.size 5 v (zi n) ∧ Later w w' := by
  have hf := foldI_u64 h
  unfold U64 at hf
  refine enter61 _ ?_
  unfold B61
  simp (disch := omega) only [push_cast, seval]
  refine (rFold_c n w h).mono ?_
  rintro _ w1 ⟨rfl, rfl⟩
  obtain ⟨u, hu⟩ := Int.eq_ofNat_of_zero_le hf.1
  have hzi : zi n = zu u := by unfold zi; rw [hu, Int.toNat_natCast]
  rw [hzi, hu]
  have hub : u < 18446744073709551616 := by omega
  have hlen := zu_len hub
  clear hzi hu hf h
  repeat' (first | (simp (disch := omega) only [push_cast, seval]) | refine iX ?_ ?_ <;> intros | refine aI (by omega) ?_ | refine dq ?_)
  have e0 : (.int .u8 ((u : Int) % 128) : Value) = u8v (UInt8.ofNat (u % 128)) := by unfold u8v; congr 1; simp; omega
  rw [e0]
  refine vc_loop W61_0 (fun s : Nat × Value => [(3, .int .u64 (s.1 : Int)), (4, s.2)])
    (fun s w' => Later w1 w' ∧ ∃ out, OwnB w' w1.heap.size 5 s.2 out ∧ hi (s.1 / 128) ++ out = zu u ∧ s.1 < 18446744073709551616) (fun s => s.1) (u, .slice (some ⟨w1.heap.size, 0, none⟩) 1 1) (by decide) ?_ ?_ ?_
  · simp (disch := omega) only [push_cast, seval]
  · exact ⟨later_alloc _ _, [UInt8.ofNat (u % 128)], own_lit w1 [u8v _] _ 1 1 rfl (by unfold maxLen; omega) (Nat.le_refl _), rfl, hub⟩
  rintro ⟨m, v⟩ uu w2 ⟨hl2, out, ho, hout, hm⟩
  dsimp only at ho hout hm
  have hol : out.length ≤ 10 := by have := congrArg List.length hout; simp at this; omega
  obtain ⟨o, c, rfl⟩ := ho.slice
  simp (disch := omega) only [push_cast, seval]
  first | refine iD (fun h1 => ?_) (fun h1 => ?_) | refine iE (fun h1 => ?_) (fun h1 => ?_) | refine iQ (fun h1 => ?_) (fun h1 => ?_) | refine iV (fun h1 => ?_) (fun h1 => ?_)
  · repeat' (first | (simp (disch := omega) only [push_cast, seval]) | refine iX ?_ ?_ <;> intros | refine aI (by omega) ?_ | refine dq ?_)
    have e1 : (.int .u8 (128 + (m : Int) / 128 % 128) : Value) = u8v (UInt8.ofNat (128 + m / 128 % 128)) := by unfold u8v; congr 1; simp; omega
    rw [e1]
    refine vAppend_own Try.underlying25 ti5 rfl (by decide) (base := w1.heap.size) (own_lit w2 [u8v (UInt8.ofNat (128 + m / 128 % 128))] _ 1 1 rfl (by unfold maxLen; omega) hl2.size) (SlN.later (n := out.length) (by simpa [Sl] using ho.sl) (later_alloc _ _)) (u8vs_one _) (by unfold maxLen; omega) (by omega) (by simp; have := hl2.size; omega) ?_
    intro v' w' ho' hg _
    simp (disch := omega) only [push_cast, seval]
    refine ⟨rfl, (m / 128, v'), by simp (disch := omega) only [push_cast, seval], ⟨?_, UInt8.ofNat (128 + m / 128 % 128) :: out, ?_, ?_, ?_⟩, ?_⟩
    · exact (hl2.alloc _).appended (own_lit w2 [_] _ 1 1 rfl (by unfold maxLen; omega) hl2.size) (Nat.le_refl _) hg
    · unfold OwnB; simpa [Nat.add_comm] using ho'
    · rw [← hout, hi_pos (u := m / 128) (by omega)]; simp
    · simp; omega
    · simp; omega
  · simp (disch := omega) only [push_cast, seval]
    have : m / 128 = 0 := by omega
    rw [this, hi_zero, List.nil_append] at hout
    subst hout
    exact ⟨ho, hl2⟩
theorem rText_c (s : ByteArray) (w : World) (hl : s.size ≤ 140737488355000) :
    FnC Try.prog 77 #[.string s] w fun v w' => OwnB w' w.heap.size 5 v (zi s.size ++ s.data.toList) ∧ Later w w' := by
  have hi : I64 (s.size : Int) := by unfold I64; omega
  have hz := zi_len hi
  refine enter77 _ ?_
  unfold B77
  simp (disch := omega) only [push_cast, seval]
  refine (rInt_c _ w hi).mono ?_
  rintro v w1 ⟨ho, hl1⟩
  simp (disch := omega) only [push_cast, seval]
  refine vAppend_str Try.underlying25 Try.underlying9 ti5 ho (by omega) hl1.size ?_
  intro v' w' ho' hl'
  simp (disch := omega) only [push_cast, seval]
  refine ⟨?_, hl' w hl1 (Nat.le_refl _)⟩
  unfold OwnB
  have e : (zi s.size ++ s.data.toList).length = (zi s.size).length + s.size := by simp
  rw [e]
  simpa using ho'
end Go.Proofs.Ytcajkjbempagaaa
end
section
set_option linter.unusedSimpArgs false
namespace Go.Proofs.Ytcajkjbempagaaa
open Go.Vc Go.Zig
set_option maxRecDepth 100000
def Rm (w : World) (k d : Nat) (l : List UInt8) (i : Nat) (bad : Bool) : Prop :=
  ∃ o n c, Blk w k #[.slice o n c, .int .i64 i, .bool bad] 105 ∧ Sl w (.slice o n c) (l.map u8v) ∧ inB d (.slice o n c) ∧ d ≠ k ∧ k < w.heap.size
theorem Rm.chg {w w' : World} {k d : Nat} {l : List UInt8} {i : Nat} {bad : Bool} {ks : List Nat} (h : Rm w k d l i bad) (g : Chg w w' ks) (hk : k ∉ ks) (hd : d ∉ ks) : Rm w' k d l i bad := by
  obtain ⟨o, n, c, h1, h2, h3, h4, h5⟩ := h
  exact ⟨o, n, c, h1.chg g hk, h2.chg g hd h3, h3, h4, Nat.lt_of_lt_of_le h5 g.size⟩
def numV (l : List UInt8) : Int × Int := match num l with
  | none => (0, 0)
  | some (u, n) => (u, n)
theorem zrNumber_c (k d : Nat) (l : List UInt8) (i : Nat) (bad : Bool) (w : World) (h : Rm w k d l i bad) (hi : i ≤ l.length) (hl : l.length ≤ 140737488355000) :
    FnC Try.prog 87 #[pt k] w fun v w' => v = .tuple #[.int .u64 (numV (l.drop i)).1, .int .i64 (numV (l.drop i)).2] ∧ Later w w' := by
  obtain ⟨o, n, c, h1, h2, h3, h4, h5⟩ := h
  obtain ⟨hn, hnc, hm, hnil⟩ := h2.len
  unfold maxLen at hm
  simp only [List.length_map] at hn
  refine enter87 _ ?_
  unfold B87 pt
  simp (disch := omega) only [push_cast, seval]
  refine vc_loop W87_0 (fun s : Nat × Nat => [(5, .int .i64 (s.1 : Int)), (4, .int .u64 (s.2 : Int))])
    (fun s w' => Later w w' ∧ s.1 ≤ min (l.length - i) 10 ∧ s.2 < 18446744073709551616 ∧ numGo s.1 s.2 (l.drop (i + s.1)) = num (l.drop i)) (fun s => 10 - s.1) (0, 0) (by decide) ?_ ?_ ?_
  · simp (disch := omega) only [push_cast, seval]
  · exact ⟨Later.refl _, by omega, by omega, by simp [num]⟩
  rintro ⟨j, u⟩ uu w2 ⟨hl2, hj, hu, hn2⟩
  dsimp only at hj hu hn2
  have b1 := h1.chg (Chg.of_later (ks := []) hl2) (by simp)
  have hc0 : w2.cell? ⟨k, 0, none⟩ = some (.slice o n c) := b1.cell 0
  have hc1 : w2.cell? ⟨k, 1, none⟩ = some (.int .i64 i) := b1.cell 1
  have hend : (10 ≤ j ∨ l.length ≤ i + j) → numV (l.drop i) = (0, 0) := by
    intro h
    have h0 : num (l.drop i) = none := by
      rw [← hn2]
      by_cases hi10 : j = 10
      · subst hi10; exact numGo_ten _ _
      · rw [List.drop_of_length_le (by omega)]; rfl
    unfold numV; rw [h0]
  repeat' (first | (simp (disch := omega) only [push_cast, seval, hc0, hc1, addr_add_eq, Nat.zero_add]) | refine iX ?_ ?_ <;> intros | refine aI (by omega) ?_ | refine dq ?_)
  · intro w3 hl3
    have hl23 := hl2.trans hl3
    repeat' (first | (simp (disch := omega) only [push_cast, seval]) | refine iX ?_ ?_ <;> intros | refine aI (by omega) ?_ | refine dq ?_)
    · have hil : i + j < l.length := by omega
      cases o with
      | none => have := (hnil rfl).1; simp at this; subst this; simp at hil
      | some a =>
        have b2 := h1.chg (Chg.of_later (ks := []) hl23) (by simp)
        have hd0 : w3.cell? ⟨k, 0, none⟩ = some (.slice (some a) n c) := b2.cell 0
        have hd1 : w3.cell? ⟨k, 1, none⟩ = some (.int .i64 i) := b2.cell 1
        have hc : w3.cell? (a.add ((i : Int) + (j : Int)).toNat) = some (.int .u8 (l[i + j].toNat : Int)) := by
          have et : ((i : Int) + (j : Int)).toNat = i + j := by omega
          rw [et]; exact (h2.later hl23).at (by simp [u8v, hil])
        rw [List.drop_eq_getElem_cons hil] at hn2
        unfold numGo at hn2
        rw [if_neg (by omega)] at hn2
        generalize hcv : l[i + j] = cc at *
        have hcc := cc.toNat_lt
        repeat' (first | (simp (disch := omega) only [push_cast, seval, hd0, hd1, addr_add_eq, Nat.zero_add, hc]) | refine iX ?_ ?_ <;> intros | refine aI (by omega) ?_ | refine dq ?_)
        intro w4 hl4
        have hl24 := hl23.trans hl4
        repeat' (first | (simp (disch := omega) only [push_cast, seval]) | refine iX ?_ ?_ <;> intros | refine aI (by omega) ?_ | refine dq ?_)
        all_goals first
          | (unfold numV; rw [← hn2, if_pos (by omega)]; exact ⟨rfl, hl24⟩)
          | (unfold numV; rw [← hn2, if_neg (by omega), if_pos (by omega)]; exact ⟨tup2 (by dsimp only; omega) (by dsimp only; omega), hl24⟩)
          | (refine ⟨rfl, (j + 1, 128 * u + cc.toNat % 128), by simp (disch := omega) only [push_cast, seval], ⟨hl24, by simp; omega, by simp; omega, ?_⟩, by simp; omega⟩
             rw [if_neg (by omega), if_neg (by omega), Nat.mul_comm u 128] at hn2; exact hn2)
    · rw [hend (by omega)]; exact ⟨rfl, hl23⟩
  · intro w3 hl3
    have hl23 := hl2.trans hl3
    repeat' (first | (simp (disch := omega) only [push_cast, seval]) | refine iX ?_ ?_ <;> intros | refine aI (by omega) ?_ | refine dq ?_)
    rw [hend (by omega)]; exact ⟨rfl, hl23⟩
theorem num_numV {l : List UInt8} : (num l = none ∧ numV l = (0, 0)) ∨ ∃ (u n : Nat), num l = some (u, n) ∧ numV l = ((u : Int), (n : Int)) ∧ U64 u ∧ 0 < n ∧ n ≤ l.length := by
  unfold numV
  cases h : num l with
  | none => exact .inl ⟨rfl, rfl⟩
  | some p =>
    obtain ⟨u, n⟩ := p
    have := num_some h
    exact .inr ⟨u, n, rfl, rfl, by unfold U64; omega, by omega, by omega⟩
theorem Rm.mk' {w : World} {k d : Nat} {l : List UInt8} {o : Option Addr} {n c : Nat} {i : Nat} {bad : Bool} (h1 : Blk w k #[.slice o n c, .int .i64 i, .bool bad] 105) (h2 : Sl w (.slice o n c) (l.map u8v)) (h3 : inB d (.slice o n c)) (h4 : d ≠ k) : Rm w k d l i bad := ⟨o, n, c, h1, h2, h3, h4, h1.lt⟩
theorem Rm.setI {w : World} {k d : Nat} {l : List UInt8} {i : Nat} {bad : Bool} (h : Rm w k d l i bad) (j : Nat) : Rm (w.setCell ⟨k, 1, none⟩ (.int .i64 j)) k d l j bad := by
  obtain ⟨o, n, c, h1, h2, h3, h4, h5⟩ := h
  exact Rm.mk' (by simpa using h1.set 1 (.int .i64 j)) (Sl.chg h2 (chg_setCell w (ks := [k]) (by simp) _) (by simpa using h4) h3) h3 h4
theorem Rm.setBad {w : World} {k d : Nat} {l : List UInt8} {i : Nat} {bad : Bool} (h : Rm w k d l i bad) (b : Bool) : Rm (w.setCell ⟨k, 2, none⟩ (.bool b)) k d l i b := by
  obtain ⟨o, n, c, h1, h2, h3, h4, h5⟩ := h
  exact Rm.mk' (by simpa using h1.set 2 (.bool b)) (Sl.chg h2 (chg_setCell w (ks := [k]) (by simp) _) (by simpa using h4) h3) h3 h4
theorem rRInt_c (k d : Nat) (l : List UInt8) (i : Nat) (bad : Bool) (least most : Int) (w : World) (h : Rm w k d l i bad) (hi : i ≤ l.length) (hl : l.length ≤ 140737488355000) :
    FnC Try.prog 75 #[pt k, .int .i64 least, .int .i64 most] w fun v w' => v = .tuple #[.int .i64 (rI (l.drop i) least most).1, .int .i64 (rI (l.drop i) least most).2.1] ∧
      ∃ j b, Rm w' k d l j b ∧ j ≤ l.length ∧ l.drop j = (rI (l.drop i) least most).2.2 ∧ Chg w w' [k] := by
  have h' := h
  obtain ⟨o, n, c, h1, h2, h3, h4, h5⟩ := h
  refine enter75 _ _ _ ?_
  unfold B75
  repeat' (first | (simp (disch := omega) only [push_cast, seval]) | refine iX ?_ ?_ <;> intros | refine aI (by omega) ?_ | refine dq ?_)
  refine (zrNumber_c k d l i bad w h' hi hl).mono ?_
  rintro _ w1 ⟨rfl, hl1⟩
  have g1 : Chg w w1 [k] := Chg.of_later hl1
  have hR1 := h'.chg (Chg.of_later (ks := []) hl1) (by simp) (by simp)
  have b1 := h1.chg (Chg.of_later (ks := []) hl1) (by simp)
  have hc1 : w1.cell? ⟨k, 1, none⟩ = some (.int .i64 i) := b1.cell 1
  have hc2 : w1.cell? ⟨k, 2, none⟩ = some (.bool bad) := b1.cell 2
  unfold pt
  repeat' (first | (simp (disch := omega) only [push_cast, seval]) | refine iX ?_ ?_ <;> intros | refine aI (by omega) ?_ | refine dq ?_)
  have hu : U64 (numV (l.drop i)).1 := by
    rcases num_numV (l := l.drop i) with ⟨e1, e2⟩ | ⟨u, m, e1, e2, e3, e4, e5⟩
    · rw [e2]; unfold U64; omega
    · rw [e2]; exact e3
  refine (rUnfold_c _ w1 hu).mono ?_
  rintro _ _ ⟨rfl, rfl⟩
  unfold rI
  rcases num_numV (l := l.drop i) with ⟨e1, e2⟩ | ⟨u, m, e1, e2, e3, e4, e5⟩
  · simp only [e1, e2]
    repeat' (first | (simp (disch := omega) only [push_cast, seval, hc1, hc2, addr_add_eq, Nat.zero_add]) | refine iX ?_ ?_ <;> intros | refine aI (by omega) ?_ | refine dq ?_)
    exact ⟨⟨_, rfl⟩, b1.frozen 2, i, true, hR1.setBad true, hi, rfl, g1.set (by simp) _⟩
  · simp only [e1, e2]
    have hu := unfoldI_i64 e3
    unfold I64 at hu
    simp only [List.length_drop] at e5
    have eim : (i : Int) + (m : Int) = ((i + m : Nat) : Int) := by omega
    repeat' (first | (simp (disch := omega) only [push_cast, seval, hc1, hc2, addr_add_eq, Nat.zero_add]) | refine iX ?_ ?_ <;> intros | refine aI (by omega) ?_ | refine dq ?_)
    · rw [if_pos (by omega)]; exact ⟨⟨_, rfl⟩, b1.frozen 2, rfl, i, true, hR1.setBad true, hi, rfl, g1.set (by simp) _⟩
    · rw [if_neg (by omega), eim]; exact ⟨⟨_, rfl⟩, b1.frozen 1, rfl, i + m, bad, hR1.setI (i + m), by omega, by simp, g1.set (by simp) _⟩
    · rw [if_pos (by omega)]; exact ⟨⟨_, rfl⟩, b1.frozen 2, rfl, i, true, hR1.setBad true, hi, rfl, g1.set (by simp) _⟩
theorem Rm.cells {w : World} {k d : Nat} {l : List UInt8} {i : Nat} {bad : Bool} (h : Rm w k d l i bad) : ∃ o c, w.cell? ⟨k, 0, none⟩ = some (.slice o l.length c) ∧ w.cell? ⟨k, 1, none⟩ = some (.int .i64 i) ∧ w.cell? ⟨k, 2, none⟩ = some (.bool bad) ∧ (∀ j, w.frozen? ⟨k, j, none⟩ = false) ∧
    Sl w (.slice o l.length c) (l.map u8v) ∧ inB d (.slice o l.length c) ∧ l.length ≤ c ∧ c ≤ 9223372036854775807 := by
  obtain ⟨o, n, c, h1, h2, h3, h4, h5⟩ := h
  obtain ⟨hn, hnc, hm, hnil⟩ := h2.len
  simp only [List.length_map] at hn
  subst hn
  exact ⟨o, c, h1.cell 0, h1.cell 1, h1.cell 2, h1.frozen, h2, h3, hnc, hm⟩
theorem rI_rT (l : List UInt8) (most : Int) : (rI l 0 most = (0, 11, l) ∧ rT l most = (strOf [], 11, l)) ∨
    ∃ (v : Int) (m : Nat), rI l 0 most = (v, 0, l.drop m) ∧ m ≤ l.length ∧ 0 ≤ v ∧ v ≤ 9223372036854775807 ∧ rT l most = if (l.length : Int) - m < v then (strOf [], 11, l) else (strOf ((l.drop m).take v.toNat), 0, l.drop (m + v.toNat)) := by
  unfold rI rT
  rcases num_next (l := l) with ⟨e1, e2⟩ | ⟨u, m, e1, e2, e3, e4, e5⟩
  · simp [e1]
  · have hu := unfoldI_i64 e3
    unfold I64 at hu
    simp only [e1]
    by_cases h : unfoldI u < 0 ∨ most < unfoldI u
    · left; rw [if_pos h, if_pos (by omega)]; exact ⟨rfl, rfl⟩
    · right
      refine ⟨unfoldI u, m, by rw [if_neg h], e5, by omega, by omega, ?_⟩
      by_cases h2 : (l.length : Int) - m < unfoldI u
      · rw [if_pos h2, if_pos (by omega)]
      · rw [if_neg h2, if_neg (by omega)]
end Go.Proofs.Ytcajkjbempagaaa
end
section
namespace Go.Zig
theorem hi_length_pos {q : Nat} (h : 0 < q) : 0 < (hi q).length := by rw [hi_pos h]; simp
theorem numGo_hi : ∀ (q : Nat) (rest : List UInt8), q < 144115188075855872 → numGo 0 0 (hi q ++ rest) = numGo (hi q).length q rest := by
  intro q
  induction q using Nat.strongRecOn with
  | ind q ih =>
    intro rest hq
    by_cases h0 : q = 0
    · subst h0; simp [hi_zero]
    · rw [hi_pos (by omega), List.append_assoc, ih (q / 128) (by omega) _ (by omega), List.length_append, List.length_singleton]
      have hl := hi_len 8 (q / 128) (by omega)
      have hz : (hi (q / 128)).length = 0 → q / 128 = 0 := fun h => by
        by_cases h2 : q / 128 = 0
        · exact h2
        · have := hi_length_pos (Nat.pos_of_ne_zero h2); omega
      have hc : (UInt8.ofNat (128 + q % 128)).toNat = 128 + q % 128 := by simp; omega
      rw [List.singleton_append]
      conv => lhs; unfold numGo
      rw [hc, if_neg (by omega), if_neg (by omega), if_neg (by omega)]
      congr 1; omega
theorem num_zu {u : Nat} (h : u < 18446744073709551616) (r : List UInt8) : num (zu u ++ r) = some (u, (zu u).length) := by
  unfold num zu
  rw [List.append_assoc, numGo_hi _ _ (by omega)]
  have hl := hi_len 9 (u / 128) (by omega)
  have hc : (UInt8.ofNat (u % 128)).toNat = u % 128 := by simp; omega
  rw [List.singleton_append]
  unfold numGo
  rw [hc, if_neg (by omega), if_neg (by omega), if_pos (by omega)]
  simp; omega
theorem zu_prefix {u v : Nat} (hu : u < 18446744073709551616) (hv : v < 18446744073709551616) (h : (zu u).take (min (zu u).length (zu v).length) = (zu v).take (min (zu u).length (zu v).length)) : u = v := by
  by_cases hl : (zu u).length ≤ (zu v).length
  · rw [Nat.min_eq_left hl, List.take_length] at h
    have e : zu v = zu u ++ (zu v).drop (zu u).length := by
      conv => lhs; rw [← List.take_append_drop (zu u).length (zu v), ← h]
    have h1 := num_zu hv []
    rw [List.append_nil, e, num_zu hu] at h1
    simp only [Option.some.injEq, Prod.mk.injEq] at h1
    exact h1.1
  · rw [Nat.min_eq_right (by omega), List.take_length] at h
    have e : zu u = zu v ++ (zu u).drop (zu v).length := by
      conv => lhs; rw [← List.take_append_drop (zu v).length (zu u), h]
    have h1 := num_zu hu []
    rw [List.append_nil, e, num_zu hv] at h1
    simp only [Option.some.injEq, Prod.mk.injEq] at h1
    exact h1.1.symm
end Go.Zig
end
section
namespace Go.Zig
theorem u8_ext {a b : UInt8} (h : a.toNat = b.toNat) : a = b := UInt8.toNat_inj.1 h
theorem numGo_canon : ∀ (l : List UInt8) (i acc u n : Nat), numGo i acc l = some (u, n) → i = (hi acc).length → zu u = hi acc ++ l.take (n - i) ∧ i < n
  | [], i, acc, u, n, h, _ => by simp [numGo] at h
  | c :: cs, i, acc, u, n, h, hi0 => by
    unfold numGo at h
    have hc256 := c.toNat_lt
    split at h
    · cases h
    split at h
    · cases h
    rename_i h10 hbad
    split at h
    · rename_i hc
      simp only [Option.some.injEq, Prod.mk.injEq] at h
      obtain ⟨rfl, rfl⟩ := h
      refine ⟨?_, by omega⟩
      unfold zu
      have e1 : (acc * 128 + c.toNat) / 128 = acc := by omega
      have e2 : UInt8.ofNat ((acc * 128 + c.toNat) % 128) = c := u8_ext (by simp; omega)
      have e3 : i + 1 - i = 1 := by omega
      rw [e1, e2, e3]; rfl
    · rename_i hc
      have hpos : 0 < acc * 128 + c.toNat % 128 := by
        by_cases h0 : acc = 0
        · subst h0
          rw [hi_zero] at hi0
          simp at hi0
          omega
        · omega
      have ehi : hi (acc * 128 + c.toNat % 128) = hi acc ++ [c] := by
        have e1 : (acc * 128 + c.toNat % 128) / 128 = acc := by omega
        have e2 : UInt8.ofNat (128 + (acc * 128 + c.toNat % 128) % 128) = c := u8_ext (by simp; omega)
        rw [hi_pos hpos, e1, e2]
      obtain ⟨h1, h2⟩ := numGo_canon cs (i + 1) _ u n h (by rw [ehi, hi0]; simp)
      refine ⟨?_, by omega⟩
      have e : n - i = (n - (i + 1)) + 1 := by omega
      rw [h1, ehi, e, List.take_succ_cons, List.append_assoc]; rfl
theorem num_canon {l : List UInt8} {u n : Nat} (h : num l = some (u, n)) : zu u = l.take n := by
  have := (numGo_canon l 0 0 u n h (by simp [hi_zero])).1
  simpa [hi_zero] using this
end Go.Zig
end
section
namespace Go.Nib
def bl (x : Nat) : Nat := if x = 0 then 0 else Nat.log2 x + 1
/-! ### bits -/
def toN : List Bool → Nat
  | [] => 0
  | b :: bs => b.toNat + 2 * toN bs
theorem testBit_toN (a : List Bool) : ∀ i, (toN a).testBit i = a.getD i false := by
  induction a with
  | nil => intro i; simp [toN]
  | cons x a ih =>
    intro i
    rw [toN]
    cases i with
    | zero => cases x <;> simp [Nat.testBit_zero] <;> omega
    | succ i =>
      rw [Nat.testBit_succ]
      have : (x.toNat + 2 * toN a) / 2 = toN a := by cases x <;> simp <;> omega
      rw [this, ih]; simp
def bitsOf (x w : Nat) : List Bool := (List.range w).map x.testBit
theorem bitsOf_len (x w : Nat) : (bitsOf x w).length = w := by simp [bitsOf]
theorem bitsOf_get (x w i : Nat) (h : i < w) : (bitsOf x w)[i]? = some (x.testBit i) := by simp [bitsOf, h]
theorem toN_bitsOf (x w : Nat) : toN (bitsOf x w) = x % 2 ^ w := by
  apply Nat.eq_of_testBit_eq
  intro i
  rw [testBit_toN, Nat.testBit_mod_two_pow, List.getD_eq_getElem?_getD]
  by_cases h : i < w
  · rw [bitsOf_get _ _ _ h]; simp [h]
  · rw [List.getElem?_eq_none (by rw [bitsOf_len]; omega)]; simp [h]
theorem flat_len {α : Type} {w : Nat} {f : α → List Bool} (hf : ∀ x, (f x).length = w) : ∀ l : List α, (l.flatMap f).length = l.length * w
  | [] => by simp
  | x :: l => by rw [List.flatMap_cons, List.length_append, flat_len hf l, hf, List.length_cons, Nat.add_mul]; omega
/-! ### numbers of bytes -/
def bitsB (b : List UInt8) : List Bool := b.flatMap fun c => bitsOf c.toNat 8
theorem bitsB_len (b : List UInt8) : (bitsB b).length = b.length * 8 := flat_len (fun _ => bitsOf_len _ _) b
def num (b : List UInt8) (at_ w : Nat) : Nat := toN (((bitsB b).drop at_).take w)
def nums (b : List UInt8) (n w : Nat) : List UInt64 := (List.range n).map fun i => UInt64.ofNat (num b (i * w) w)
end Go.Nib
end
section
namespace Go.Chk
def poly : Nat := 0x82F63B78
def ones : Nat := 4294967295
def st (x : Nat) : Nat := (x / 2) ^^^ (if x % 2 = 1 then poly else 0)
theorem st_bit (x i : Nat) : (st x).testBit i = (x.testBit (i + 1) ^^ (x.testBit 0 && poly.testBit i)) := by
  unfold st
  rw [Nat.testBit_xor, Nat.testBit_div_two, Nat.testBit_zero]
  congr 1
  by_cases h : x % 2 = 1 <;> simp [h]
theorem st_xor (a b : Nat) : st (a ^^^ b) = st a ^^^ st b := by
  apply Nat.eq_of_testBit_eq
  intro i
  rw [Nat.testBit_xor, st_bit, st_bit, st_bit, Nat.testBit_xor, Nat.testBit_xor]
  cases a.testBit (i + 1) <;> cases b.testBit (i + 1) <;> cases a.testBit 0 <;> cases b.testBit 0 <;> cases poly.testBit i <;> rfl
theorem st_even (x : Nat) : st (2 * x) = x := by
  unfold st
  rw [if_neg (by omega)]
  simp
theorem st_lt {x : Nat} (h : x < 4294967296) : st x < 4294967296 := by
  unfold st
  refine Nat.xor_lt_two_pow (n := 32) (by omega) ?_
  split
  · decide
  · omega
theorem st_inj {x y : Nat} (hx : x < 4294967296) (hy : y < 4294967296) (h : st x = st y) : x = y := by
  have h31 : ∀ z, z < 4294967296 → (st z).testBit 31 = z.testBit 0 := by
    intro z hz
    rw [st_bit]
    have h1 : z.testBit 32 = false := Nat.testBit_lt_two_pow hz
    have h2 : poly.testBit 31 = true := by decide
    rw [h1, h2]; simp
  have h0 : x.testBit 0 = y.testBit 0 := by rw [← h31 x hx, ← h31 y hy, h]
  apply Nat.eq_of_testBit_eq
  intro i
  cases i with
  | zero => exact h0
  | succ i =>
    have := congrArg (fun z => z.testBit i) h
    simp only [st_bit, h0] at this
    generalize (y.testBit 0 && poly.testBit i) = q at this
    revert this
    generalize x.testBit (i + 1) = p1
    generalize y.testBit (i + 1) = p2
    clear h h31 h0
    revert p1 p2 q
    decide
def stN : Nat → Nat → Nat
  | 0, x => x
  | n + 1, x => stN n (st x)
theorem stN_succ (n x : Nat) : stN (n + 1) x = st (stN n x) := by
  induction n generalizing x with
  | zero => rfl
  | succ n ih => rw [stN, ih, stN]
theorem stN_add (m n x : Nat) : stN (m + n) x = stN n (stN m x) := by
  induction m generalizing x with
  | zero => simp [stN]
  | succ m ih => rw [Nat.add_right_comm, stN, ih, stN]
theorem stN_xor (n a b : Nat) : stN n (a ^^^ b) = stN n a ^^^ stN n b := by
  induction n generalizing a b with
  | zero => rfl
  | succ n ih => rw [stN, stN, stN, st_xor, ih]
theorem stN_lt (n : Nat) {x : Nat} (h : x < 4294967296) : stN n x < 4294967296 := by
  induction n generalizing x with
  | zero => exact h
  | succ n ih => exact ih (st_lt h)
theorem stN_inj (n : Nat) {x y : Nat} (hx : x < 4294967296) (hy : y < 4294967296) (h : stN n x = stN n y) : x = y := by
  induction n generalizing x y with
  | zero => exact h
  | succ n ih => exact st_inj hx hy (ih (st_lt hx) (st_lt hy) h)
theorem stN_pow (n h : Nat) : stN n (2 ^ n * h) = h := by
  induction n with
  | zero => simp [stN]
  | succ n ih => rw [stN, Nat.pow_succ, Nat.mul_comm (2 ^ n) 2, Nat.mul_assoc, st_even, ih]
theorem stN_zero (n : Nat) : stN n 0 = 0 := by have := stN_pow n 0; simpa using this
theorem split_xor (n h l : Nat) (hl : l < 2 ^ n) : 2 ^ n * h + l = 2 ^ n * h ^^^ l := by
  apply Nat.eq_of_testBit_eq
  intro j
  rw [Nat.testBit_xor, Nat.testBit_two_pow_mul_add _ hl, Nat.testBit_two_pow_mul]
  by_cases hj : j < n
  · rw [if_pos hj]
    have : ¬ j ≥ n := by omega
    simp [this]
  · rw [if_neg hj]
    have h1 : l.testBit j = false := Nat.testBit_lt_two_pow (Nat.lt_of_lt_of_le hl (Nat.pow_le_pow_right (by omega) (by omega)))
    have h2 : j ≥ n := by omega
    simp [h1, h2]
theorem stN_four (s : Nat) : stN 4 s = s / 16 ^^^ stN 4 (s % 16) := by
  have h := split_xor 4 (s / 16) (s % 16) (by omega)
  have e : 2 ^ 4 * (s / 16) + s % 16 = s := by omega
  rw [e] at h
  conv => lhs; rw [h]
  rw [stN_xor, stN_pow]
def inBits : Nat → Nat → Nat → Nat
  | 0, s, _ => s
  | n + 1, s, c => inBits n ((s / 2) ^^^ (if s % 2 = c % 2 then 0 else poly)) (c / 2)
theorem in_step (s c : Nat) : st (s ^^^ c) = ((s / 2) ^^^ (if s % 2 = c % 2 then 0 else poly)) ^^^ c / 2 := by
  apply Nat.eq_of_testBit_eq
  intro i
  rw [st_bit, Nat.testBit_xor, Nat.testBit_xor, Nat.testBit_xor, Nat.testBit_xor, Nat.testBit_div_two, Nat.testBit_div_two, Nat.testBit_zero, Nat.testBit_zero]
  by_cases h : s % 2 = c % 2
  · rw [if_pos h, h]
    simp
  · rw [if_neg h]
    have : (decide (s % 2 = 1) ^^ decide (c % 2 = 1)) = true := by
      by_cases h1 : s % 2 = 1 <;> by_cases h2 : c % 2 = 1 <;> simp_all <;> omega
    rw [this]
    cases s.testBit (i + 1) <;> cases c.testBit (i + 1) <;> cases poly.testBit i <;> rfl
theorem inBits_st (n s c : Nat) : stN n (s ^^^ c) = inBits n s c ^^^ (c / 2 ^ n) := by
  induction n generalizing s c with
  | zero => simp [stN, inBits]
  | succ n ih => rw [stN, in_step, ih, inBits, Nat.div_div_eq_div_mul, Nat.pow_succ, Nat.mul_comm 2]
theorem inBits_byte (s c : Nat) (hc : c < 256) : inBits 8 s c = stN 8 (s ^^^ c) := by
  rw [inBits_st, Nat.div_eq_of_lt (by omega)]; simp
theorem inBits_succ (n s c : Nat) : inBits (n + 1) s c = (inBits n s c / 2) ^^^ (if inBits n s c % 2 = (c / 2 ^ n) % 2 then 0 else poly) := by
  induction n generalizing s c with
  | zero => simp [inBits]
  | succ n ih =>
    rw [inBits, ih, inBits, Nat.div_div_eq_div_mul, Nat.pow_succ, Nat.mul_comm 2]
theorem inBits_lt (n c : Nat) {s : Nat} (h : s < 4294967296) : inBits n s c < 4294967296 := by
  induction n generalizing s c with
  | zero => exact h
  | succ n ih =>
    rw [inBits]
    refine ih _ (Nat.xor_lt_two_pow (n := 32) (by omega) ?_)
    split
    · omega
    · decide
def byteS (s : Nat) (c : UInt8) : Nat := stN 8 (s ^^^ c.toNat)
def rem (s : Nat) (l : List UInt8) : Nat := l.foldl byteS s
theorem u8_lt (c : UInt8) : c.toNat < 256 := c.toNat_lt
theorem byteS_lt {s : Nat} (h : s < 4294967296) (c : UInt8) : byteS s c < 4294967296 := stN_lt 8 (Nat.xor_lt_two_pow (n := 32) h (by have := u8_lt c; omega))
theorem rem_lt (l : List UInt8) : ∀ {s : Nat}, s < 4294967296 → rem s l < 4294967296 := by
  induction l with
  | nil => intro s h; exact h
  | cons c l ih => intro s h; exact ih (byteS_lt h c)
theorem rem_append (s : Nat) (a b : List UInt8) : rem s (a ++ b) = rem (rem s a) b := by simp [rem]
def sum (l : List UInt8) : Nat := ones - rem ones l
theorem sum_lt (l : List UInt8) : sum l < 4294967296 := by unfold sum ones; omega
theorem sum_inj {a b : List UInt8} (h : sum a = sum b) : rem ones a = rem ones b := by
  have h1 := rem_lt a (s := ones) (by decide)
  have h2 := rem_lt b (s := ones) (by decide)
  unfold sum at h
  unfold ones at *
  omega
theorem compl_xor {x : Nat} (h : x < 4294967296) : ones - x = ones ^^^ x := by
  have h1 : (BitVec.ofNat 32 x ^^^ BitVec.allOnes 32).toNat = (~~~(BitVec.ofNat 32 x)).toNat := by rw [BitVec.xor_allOnes]
  simp only [BitVec.toNat_xor, BitVec.toNat_ofNat, BitVec.toNat_allOnes, BitVec.toNat_not] at h1
  rw [Nat.mod_eq_of_lt (show x < 2 ^ 32 by omega)] at h1
  have e : (2 ^ 32 - 1 : Nat) = ones := rfl
  rw [Nat.xor_comm, ← e]
  omega
def x3 : List UInt8 → List UInt8 → List UInt8 → List UInt8
  | a :: a', b :: bs, c :: cs => (a ^^^ b ^^^ c) :: x3 a' bs cs
  | _, _, _ => []
/-! ### all bits at once; a burst -/
theorem one_split (b : Bool) (t : Nat) : b.toNat + 2 * t = b.toNat ^^^ 2 * t := by
  have := split_xor 1 t b.toNat (by cases b <;> simp)
  rw [Nat.add_comm, Nat.xor_comm]; simpa using this
theorem stN_toN (bs : List Bool) (s : Nat) : bs.foldl (fun s b => st (s ^^^ b.toNat)) s = stN bs.length (s ^^^ Nib.toN bs) := by
  induction bs generalizing s with
  | nil => simp [stN, Nib.toN]
  | cons b bs ih =>
    rw [List.foldl_cons, ih, List.length_cons, stN, Nib.toN, one_split, ← Nat.xor_assoc, st_xor (s ^^^ b.toNat), st_even]
theorem byteS_bits (s : Nat) (c : UInt8) : byteS s c = (Nib.bitsOf c.toNat 8).foldl (fun s b => st (s ^^^ b.toNat)) s := by
  rw [stN_toN, Nib.bitsOf_len, Nib.toN_bitsOf, Nat.mod_eq_of_lt (by have := u8_lt c; omega)]; rfl
theorem rem_bits (l : List UInt8) (s : Nat) : rem s l = stN (l.length * 8) (s ^^^ Nib.toN (Nib.bitsB l)) := by
  rw [← Nib.bitsB_len, ← stN_toN]
  induction l generalizing s with
  | nil => rfl
  | cons c l ih =>
    show rem (byteS s c) l = _
    rw [ih, byteS_bits]
    simp [Nib.bitsB, List.foldl_append]
theorem burst {l l' : List UInt8} {k w : Nat} (hl : l'.length = l.length) (hk : k + 32 ≤ l.length * 8) (hw : w < 4294967296) (hw0 : w ≠ 0) (h : Nib.toN (Nib.bitsB l') = Nib.toN (Nib.bitsB l) ^^^ 2 ^ k * w) : sum l' ≠ sum l := by
  intro hs
  have h1 := sum_inj hs
  rw [rem_bits, rem_bits, hl, h, ← Nat.xor_assoc, stN_xor] at h1
  have h2 : stN (l.length * 8) (2 ^ k * w) = 0 := by
    have := congrArg (fun z => stN (l.length * 8) (ones ^^^ Nib.toN (Nib.bitsB l)) ^^^ z) h1
    simpa [← Nat.xor_assoc] using this
  have e : l.length * 8 = k + (l.length * 8 - k) := by omega
  rw [e, stN_add, stN_pow] at h2
  exact hw0 (stN_inj _ hw (by omega) (h2.trans (stN_zero _).symm))
/-! ### blocks -/
def four (s : Nat) : List UInt8 := [UInt8.ofNat (s / 16777216), UInt8.ofNat (s / 65536), UInt8.ofNat (s / 256), UInt8.ofNat s]
theorem four_len (s : Nat) : (four s).length = 4 := rfl
end Go.Chk
end
section
namespace Go.Proofs.Ytcajkjbempagaaa
open Go.Zig Go.Chk
def blkB (b : List UInt8) : List UInt8 := zi b.length ++ b ++ four (sum (zi b.length ++ b))
theorem blkB_len (b : List UInt8) : (blkB b).length = (zi b.length).length + b.length + 4 := by simp [blkB, four_len]; omega
def fst (b : List UInt8) : Option (List UInt8 × Nat) := match num b with
  | none => none
  | some (u, k) =>
    if unfoldI u < 0 ∨ 16777216 < unfoldI u then none
    else if b.length < k + (unfoldI u).toNat + 4 then none
    else if (b.drop (k + (unfoldI u).toNat)).take 4 = four (sum (b.take (k + (unfoldI u).toNat))) then some ((b.drop k).take (unfoldI u).toNat, k + (unfoldI u).toNat + 4) else none
theorem fst_some {b : List UInt8} {p : List UInt8 × Nat} (h : fst b = some p) : 5 ≤ p.2 ∧ p.2 ≤ b.length ∧ p.1.length + 5 ≤ b.length := by
  unfold fst at h
  split at h
  · cases h
  rename_i u k hn
  have := num_some hn
  split at h
  · cases h
  split at h
  · cases h
  split at h
  · simp only [Option.some.injEq] at h
    subst h
    refine ⟨by dsimp only; omega, by dsimp only; omega, ?_⟩
    simp; omega
  · cases h
theorem zi_num {n : Int} (h : I64 n) (r : List UInt8) : num (zi n ++ r) = some ((foldI n).toNat, (zi n).length) := by
  have := foldI_u64 h
  unfold U64 at this
  exact num_zu (by omega) r
theorem unfold_zi {n : Int} (h : I64 n) : unfoldI ((foldI n).toNat : Int) = n := by
  have := foldI_u64 h
  unfold U64 at this
  have e : (((foldI n).toNat : Nat) : Int) = foldI n := by omega
  rw [e, unfold_fold]
theorem fst_zi {n : Nat} (hn : n ≤ 16777216) (r : List UInt8) : fst (zi n ++ r) = if r.length < n + 4 then none else if (r.drop n).take 4 = four (sum (zi n ++ r.take n)) then some (r.take n, (zi n).length + n + 4) else none := by
  have h64 : I64 (n : Int) := by unfold I64; omega
  unfold fst
  rw [zi_num h64]
  simp only [unfold_zi h64]
  rw [if_neg (by omega)]
  simp only [Int.toNat_natCast]
  have e1 : (zi n ++ r).drop ((zi n).length + n) = r.drop n := by rw [← List.drop_drop, List.drop_left]
  have e2 : (zi n ++ r).take ((zi n).length + n) = zi n ++ r.take n := by rw [List.take_length_add_append]
  rw [e1, e2, List.drop_left, List.length_append]
  by_cases h : r.length < n + 4
  · rw [if_pos h, if_pos (by omega)]
  · rw [if_neg h, if_neg (by omega)]
theorem fst_blk {b : List UInt8} (hb : b.length ≤ 16777216) (r : List UInt8) : fst (blkB b ++ r) = some (b, (blkB b).length) := by
  have e : blkB b ++ r = zi b.length ++ (b ++ (four (sum (zi b.length ++ b)) ++ r)) := by simp [blkB]
  rw [e, fst_zi hb, if_neg (by simp [four_len]), List.drop_left, List.take_left, if_pos, blkB_len]
  exact List.take_left (l₁ := four (sum (zi b.length ++ b)))
theorem num_cut {u c : Nat} (hu : u < 18446744073709551616) (hc : c < (zu u).length) : num ((zu u).take c) = none := by
  cases h : num ((zu u).take c) with
  | none => rfl
  | some p =>
    obtain ⟨v, n⟩ := p
    exfalso
    have h1 := num_some h
    have h2 := num_canon h
    have hn : n ≤ c := by have := h1.2.2.1; simp at this; omega
    rw [List.take_take, Nat.min_eq_left hn] at h2
    have hl : (zu v).length = n := by rw [h2]; simp; omega
    have := zu_prefix (u := u) (v := v) hu h1.1 (by rw [Nat.min_eq_right (by omega), hl, ← h2, ← hl, List.take_length])
    subst this
    omega
theorem fst_cut {b : List UInt8} (hb : b.length ≤ 16777216) {c : Nat} (hc : c < (blkB b).length) : fst ((blkB b).take c) = none := by
  have h64 : I64 (b.length : Int) := by unfold I64; omega
  have e : blkB b = zi b.length ++ (b ++ four (sum (zi b.length ++ b))) := by simp [blkB]
  have hbl := blkB_len b
  by_cases h : c < (zi b.length).length
  · have hf := foldI_u64 h64
    unfold U64 at hf
    unfold fst
    rw [e, List.take_append_of_le_length (by omega)]
    have : num ((zi b.length).take c) = none := num_cut (by omega) h
    rw [this]
  · have e2 : (blkB b).take c = zi b.length ++ (b ++ four (sum (zi b.length ++ b))).take (c - (zi b.length).length) := by
      rw [e, List.take_append, List.take_of_length_le (by omega)]
    rw [e2, fst_zi hb, if_pos]
    simp [four_len]; omega
theorem fst_ref {b : List UInt8} {u k : Nat} (h : num b = some (u, k)) (h0 : 0 ≤ unfoldI u) (h1 : unfoldI u ≤ 16777216) (hl : k + (unfoldI u).toNat + 4 ≤ b.length) :
    (blkB ((b.drop k).take (unfoldI u).toNat)).length = k + (unfoldI u).toNat + 4 ∧
    fst b = if blkB ((b.drop k).take (unfoldI u).toNat) = b.take (k + (unfoldI u).toNat + 4) then some ((b.drop k).take (unfoldI u).toNat, k + (unfoldI u).toNat + 4) else none := by
  obtain ⟨n, hn⟩ := Int.eq_ofNat_of_zero_le h0
  rw [hn] at h1 hl ⊢
  simp only [Int.toNat_natCast] at hl ⊢
  have hk := num_some h
  have hc := num_canon h
  have hu : (foldI (n : Int)).toNat = u := by rw [← hn, fold_unfold (by omega)]; omega
  have hz : zi (n : Int) = b.take k := by unfold zi; rw [hu, hc]
  have hzl : (zi (n : Int)).length = k := by rw [hz]; simp; omega
  have hxl : ((b.drop k).take n).length = n := by simp; omega
  have hb : b = zi n ++ b.drop k := by rw [hz, List.take_append_drop]
  have hlen : (blkB ((b.drop k).take n)).length = k + n + 4 := by rw [blkB_len, hxl, hzl]
  refine ⟨hlen, ?_⟩
  conv => lhs; rw [hb]
  rw [fst_zi (by omega), if_neg (by simp; omega), hzl]
  have e1 : zi n ++ (b.drop k).take n = b.take (k + n) := by
    rw [hz, List.take_add]
  have hiff : (((b.drop k).drop n).take 4 = four (sum (zi n ++ (b.drop k).take n))) ↔ (blkB ((b.drop k).take n) = b.take (k + n + 4)) := by
    have e2 : blkB ((b.drop k).take n) = b.take (k + n) ++ four (sum (b.take (k + n))) := by unfold blkB; rw [hxl, e1]
    rw [e2, e1, List.take_add (i := k + n), List.drop_drop]
    constructor
    · intro h; rw [h]
    · intro h; exact (List.append_cancel_left h).symm
  by_cases hp : ((b.drop k).drop n).take 4 = four (sum (zi n ++ (b.drop k).take n))
  · rw [if_pos hp, if_pos (hiff.1 hp)]
  · rw [if_neg hp, if_neg (fun h => hp (hiff.2 h))]
def blks (b : List UInt8) : List (List UInt8) × Nat :=
  match h : fst b with
  | none => ([], 0)
  | some p => (p.1 :: (blks (b.drop p.2)).1, p.2 + (blks (b.drop p.2)).2)
termination_by b.length
decreasing_by all_goals (have := fst_some h; simp; omega)
theorem blks_none {b : List UInt8} (h : fst b = none) : blks b = ([], 0) := by
  rw [blks]; split
  · rfl
  · rename_i p hp; rw [h] at hp; cases hp
theorem blks_some {b : List UInt8} {p : List UInt8 × Nat} (h : fst b = some p) : blks b = (p.1 :: (blks (b.drop p.2)).1, p.2 + (blks (b.drop p.2)).2) := by
  rw [blks]; split
  · rename_i hp; rw [h] at hp; cases hp
  · rename_i q hq
    rw [h] at hq
    simp only [Option.some.injEq] at hq
    subst hq; rfl
theorem blks_nil : blks [] = ([], 0) := blks_none (by decide)
end Go.Proofs.Ytcajkjbempagaaa
end
section
namespace Go.Vc
open Go.RowKit
section
variable {P : Program} {w : World} {K : Value → World → Prop} {t e : TypeId} {z : Value} {b : Nat}
end
theorem Sl.of_blk {w : World} {k n : Nat} {xs : List Value} {e : TypeId} (h : Blk w k xs.toArray e) (hn : n = xs.length) (hm : n ≤ maxLen) : Sl w (.slice (some ⟨k, 0, none⟩) n n) xs := by
  subst hn
  refine SlN.mk (by simp) (Nat.le_refl _) hm (fun h => by cases h) ?_
  intro a ha i x hx
  simp only [Option.some.injEq] at ha
  subst ha
  rw [addr_add_eq, Nat.zero_add, h.cell]
  simpa using hx
theorem Blk.setL {w : World} {k i : Nat} {xs : List Value} {e : TypeId} (h : Blk w k xs.toArray e) (v : Value) : Blk (w.setCell ⟨k, i, none⟩ v) k (xs.set i v).toArray e := by
  have := h.set i v
  simpa using this
/-! ### a block that is new, of one cell: looked at, written -/
section
variable {w : World} {e : TypeId}
@[push_cast] theorem cell_new1 (z : Value) : (w.alloc (.cells #[z] e)).cell? ⟨w.heap.size, 0, none⟩ = some z := (Blk.new w #[z] e).cell 0
@[push_cast] theorem frozen_new (cs : Array Value) (i : Nat) : (w.alloc (.cells cs e)).frozen? ⟨w.heap.size, i, none⟩ = false := (Blk.new w cs e).frozen i
@[push_cast] theorem set_new1 (z v : Value) : (w.alloc (.cells #[z] e)).setCell ⟨w.heap.size, 0, none⟩ v = w.alloc (.cells #[v] e) := by
  show World.setCell { w with heap := w.heap.push _ } _ _ = { w with heap := w.heap.push _ }
  simp only [World.setCell]
  congr 1
  apply Array.ext_getElem?
  intro i
  simp only [Array.getElem?_modify, Array.getElem?_push]
  by_cases h : i = w.heap.size
  · subst h; simp
  · rw [if_neg h, if_neg (fun e => h e.symm), if_neg h]
@[push_cast] theorem ex_some (z : Value) : (∃ y, some z = some y) = True := by simp
@[push_cast] theorem tr_and (p : Prop) : (True ∧ p) = p := by simp
end
theorem Sl.openM {α : Type} {f : α → Value} {w : World} {v : Value} {l : List α} (h : Sl w v (l.map f)) : ∃ o c, v = .slice o l.length c ∧ l.length ≤ c ∧ c ≤ 9223372036854775807 ∧ Sl w (.slice o l.length c) (l.map f) ∧ (o = none → l = [] ∧ c = 0) := by
  have h' := h
  obtain ⟨o, c, rfl, h1, h2, h3, _⟩ := h.open
  simp only [List.length_map] at h1 h'
  refine ⟨o, c, by simp, h1, by simpa [maxLen] using h2, h', fun ho => ⟨by simpa using (h3 ho).1, (h3 ho).2⟩⟩
theorem take_snoc {α : Type} (l : List α) (i : Nat) (h : i < l.length) : l.take (i + 1) = l.take i ++ [l[i]] := by
  rw [List.take_add_one, List.getElem?_eq_getElem h]; rfl
theorem Sl.at8 {w : World} {a : Addr} {l : List UInt8} {n c : Nat} (h : Sl w (.slice (some a) n c) (l.map u8v)) {i : Nat} (hi : i < l.length) : w.cell? (a.add i) = some (.int .u8 l[i].toNat) := h.at (by simp [u8v, hi])
theorem Sl.some {α : Type} {f : α → Value} {w : World} {o : Option Addr} {l : List α} {n c : Nat} (h : Sl w (.slice o n c) (l.map f)) {i : Nat} (hi : i < l.length) : ∃ a, o = Option.some a := by
  cases o with
  | none => have := (h.len.2.2.2 rfl).1; simp at this; subst this; simp at hi
  | some a => exact ⟨a, rfl⟩
theorem list_splice {l : List Value} {i : Nat} {x : Value} {xs : List Value} (h : i < l.length) : (l.set i x).take (i + 1) ++ xs ++ (l.set i x).drop (i + 1 + xs.length) = l.take i ++ x :: xs ++ l.drop (i + (xs.length + 1)) := by
  have e1 : (l.set i x).take (i + 1) = l.take i ++ [x] := by
    rw [List.take_add_one, List.getElem?_set_self h, List.take_set_of_le (Nat.le_refl _)]; rfl
  have e2 : (l.set i x).drop (i + 1 + xs.length) = l.drop (i + (xs.length + 1)) := by
    rw [List.drop_set_of_lt (by omega)]; congr 1; omega
  rw [e1, e2]; simp
theorem storeAll_blk {k : Nat} {e : TypeId} : ∀ (xs : List Value) (i : Nat) (w : World) (l : List Value), Blk w k l.toArray e → i + xs.length ≤ l.length →
    canAll w ⟨k, i, none⟩ xs ∧ Blk (storeAll w ⟨k, i, none⟩ xs) k (l.take i ++ xs ++ l.drop (i + xs.length)).toArray e ∧ Chg w (storeAll w ⟨k, i, none⟩ xs) [k]
  | [], i, w, l, h, hl => by
    refine ⟨trivial, ?_, Chg.refl _ _⟩
    simpa [storeAll] using h
  | x :: xs, i, w, l, h, hl => by
    simp only [List.length_cons] at hl
    have h1 := h.setL (i := i) x
    have g1 := chg_setCell w (i := i) (ks := [k]) (k := k) (by simp) x
    obtain ⟨c2, b2, g2⟩ := storeAll_blk xs (i + 1) (w.setCell ⟨k, i, none⟩ x) (l.set i x) h1 (by simp; omega)
    have ea : (⟨k, i, none⟩ : Addr).add 1 = ⟨k, i + 1, none⟩ := addr_add_eq k i 1
    have hcan : ∀ (ys : List Value) (j : Nat) (w : World) (l : List Value), Blk w k l.toArray e → j + ys.length ≤ l.length → canAll w ⟨k, j, none⟩ ys := by
      intro ys
      induction ys with
      | nil => intro j w l _ _; trivial
      | cons y ys ih =>
        intro j w l h hl
        simp only [List.length_cons] at hl
        refine ⟨?_, h.frozen j, ?_⟩
        · rw [h.cell]; exact ⟨l[j]'(by omega), by simp⟩
        · rw [addr_add_eq]; exact ih (j + 1) w l h (by omega)
    refine ⟨hcan (x :: xs) i w l h (by simp; omega), ?_, ?_⟩
    · show Blk (storeAll (w.setCell ⟨k, i, none⟩ x) ((⟨k, i, none⟩ : Addr).add 1) xs) k _ e
      rw [ea]
      have := b2
      rw [list_splice (by omega)] at this
      exact this
    · show Chg w (storeAll (w.setCell ⟨k, i, none⟩ x) ((⟨k, i, none⟩ : Addr).add 1) xs) [k]
      rw [ea]; exact g1.trans g2
theorem vStore_blk {P : Program} {w : World} {K : Value → World → Prop} {t e : TypeId} {k s : Nat} {l xs : List Value} (h : Blk w k l.toArray e) (hl : l.length = s) (hx : xs.length = s) (h1 : ∀ u ∈ xs, u.oneCell' = true)
    (hK : ∀ w', Blk w' k xs.toArray e → Chg w w' [k] → K undef w') : vStoreD P t (some s) (.pointer (some ⟨k, 0, none⟩)) (.agg xs.toArray) K w := by
  obtain ⟨c, b, g⟩ := storeAll_blk xs 0 w l h (by omega)
  refine ⟨by simp [Value.cells, hx], by simpa [Value.cells] using h1, by simpa [Value.cells] using c, hK _ ?_ (by simpa [Value.cells] using g)⟩
  have e : (l.take 0 ++ xs ++ l.drop (0 + xs.length)) = xs := by simp [hx, hl]
  rw [e] at b
  simpa [Value.cells] using b
theorem Blk.cellsAt {w : World} {k : Nat} {l : List Value} {e : TypeId} (h : Blk w k l.toArray e) : cellsAt w ⟨k, 0, none⟩ l.length = some l := by
  refine cellsAt_of _ _ l rfl fun i x hx => ?_
  rw [addr_add_eq, Nat.zero_add, h.cell]; simpa using hx
theorem resK_agg {P : Program} {R : Value → World → Prop} {σ : Env} {w : World} {a : Nat} {t e : TypeId} {n s : Nat} {ad : Addr} {l : List Value} (ha : σ a = .pointer (some ad)) (ht : P.underlying t = some (.array n e)) (hs : szOf P t = some s) (hl : cellsAt w ad s = some l)
    (hR : R (.agg l.toArray) w) : resK P [.cell a t] [] σ R w := by
  unfold resK
  rw [ha]
  have hA : aggD P t (P.underlying t) = some s := by rw [ht]; exact hs
  obtain ⟨h1, h2⟩ := run_isAgg_yes hA w
  exact ⟨.agg l.toArray, by simp [loadVar, h1, run_sizeOf h2, run_loadCells' hl], hR⟩
end Go.Vc
end
section
namespace Go.Vc
open Go.RowKit
theorem own_grown_ty {w w' : World} {base base' s s' n n' : Nat} {e e' : TypeId} {v v' : Value} {xs xs' : List Value} (h : w.ownsRow base e s v n xs) (hc : w.ownsRow base' e' s' v' n' xs') (hne : e ≠ e') (g : w.grownBy w' v'.ownBlock) : w'.ownsRow base e s v n xs := by
  obtain ⟨h0, h⟩ := h
  refine ⟨h0, ?_⟩
  rcases h with h | ⟨b, cap, cur, hv, hb, hh, h3⟩
  · exact .inl h
  · refine .inr ⟨b, cap, cur, hv, hb, ?_, h3⟩
    rw [g.block b (Blk.lt hh) ?_]
    · exact hh
    · obtain ⟨_, hc⟩ := hc
      rcases hc with ⟨rfl, _⟩ | ⟨b', cap', cur', rfl, _, hh', _⟩
      · simp [Value.ownBlock]
      · simp only [Value.ownBlock]
        intro he
        simp only [Option.some.injEq] at he
        subst he
        rw [hh] at hh'
        simp only [Option.some.injEq, Obj.cells.injEq] at hh'
        exact hne hh'.2.1
def LL (w : World) (v : Value) (ls : List (List UInt8)) : Prop := ∃ vs, Sl w v vs ∧ vs.length = ls.length ∧ ∀ (i : Nat) (x : Value) (l : List UInt8), vs[i]? = some x → ls[i]? = some l → Sl w x (l.map u8v)
theorem LL.later {w w' : World} {v : Value} {ls : List (List UInt8)} (h : LL w v ls) (hl : Later w w') : LL w' v ls := by
  obtain ⟨vs, h1, h2, h3⟩ := h
  exact ⟨vs, h1.later hl, h2, fun i x l hx hl' => (h3 i x l hx hl').later hl⟩
theorem LL.slice {w : World} {v : Value} {ls : List (List UInt8)} (h : LL w v ls) : ∃ o c, v = .slice o ls.length c ∧ ls.length ≤ c ∧ c ≤ 9223372036854775807 := by
  obtain ⟨vs, h1, h2, h3⟩ := h
  obtain ⟨o, c, hv, h4, h5, _⟩ := h1.open
  exact ⟨o, c, by rw [← h2]; exact hv, by omega, by unfold maxLen at h5; omega⟩
theorem LL.at {w : World} {o : Option Addr} {n c : Nat} {ls : List (List UInt8)} (h : LL w (.slice o n c) ls) {i : Nat} (hi : i < ls.length) : ∃ a x, o = some a ∧ w.cell? (a.add i) = some x ∧ Sl w x (ls[i].map u8v) := by
  obtain ⟨vs, h1, h2, h3⟩ := h
  have hv : vs[i]? = some (vs[i]'(by omega)) := List.getElem?_eq_getElem (by omega)
  cases o with
  | none => have := (h1.len.2.2.2 rfl).1; subst this; simp at h2; omega
  | some a => exact ⟨a, vs[i]'(by omega), rfl, h1.at hv, h3 i _ _ hv (List.getElem?_eq_getElem hi)⟩
def LLo (Q : World → Value → List UInt8 → Prop) (w : World) (B : Nat) (e : TypeId) (v : Value) (ls : List (List UInt8)) : Prop :=
  ∃ vs, w.ownsRow B e 1 v ls.length vs ∧ ∀ (i : Nat) (x : Value) (l : List UInt8), vs[i]? = some x → ls[i]? = some l → Q w x l
theorem LLo.len {Q : World → Value → List UInt8 → Prop} {w : World} {B : Nat} {e : TypeId} {v : Value} {ls : List (List UInt8)} (h : LLo Q w B e v ls) : ∃ o c, v = .slice o ls.length c := by
  obtain ⟨vs, h1, _⟩ := h
  have hn := own_n h1
  obtain ⟨o, c, hv, _⟩ := (Sl.of_own h1).open
  exact ⟨o, c, by rw [hn]; exact hv⟩
theorem LLo.ll {Q : World → Value → List UInt8 → Prop} {w : World} {B : Nat} {e : TypeId} {v : Value} {ls : List (List UInt8)} (h : LLo Q w B e v ls) (hQ : ∀ x l, Q w x l → Sl w x (l.map u8v)) : LL w v ls := by
  obtain ⟨vs, h1, h2⟩ := h
  exact ⟨vs, Sl.of_own h1, (own_n h1).symm, fun i x l hx hl => hQ _ _ (h2 i x l hx hl)⟩
theorem LLo.nil (Q : World → Value → List UInt8 → Prop) (w : World) (B : Nat) (e : TypeId) : LLo Q w B e (.slice none 0 0) [] := ⟨[], own_nil _ _ _ _, fun i x l hx _ => by simp at hx⟩
theorem LLo.mono {Q Q' : World → Value → List UInt8 → Prop} {w w' : World} {B : Nat} {e : TypeId} {v : Value} {ls : List (List UInt8)} (h : LLo Q w B e v ls) (hl : Later w w') (hQ : ∀ x l, Q w x l → Q' w' x l) : LLo Q' w' B e v ls := by
  obtain ⟨vs, h1, h2⟩ := h
  exact ⟨vs, own_later h1 hl, fun i x l hx hl => hQ _ _ (h2 i x l hx hl)⟩
theorem LLo.snoc {P : Program} {Q : World → Value → List UInt8 → Prop} {w : World} {K : Value → World → Prop} {t e ty : TypeId} {z : Value} {b B : Nat} (ht : P.underlying t = some (.slice e)) (hi : (P.info? e).map (fun i => (i.zero, i.size, i.bytes)) = some (some z, 1, b)) (hzs : z.cells.size = 1)
    {v x : Value} {ls : List (List UInt8)} {l : List UInt8} (h : LLo Q w B e v ls) (hx : Q w x l) (h1 : x.oneCell' = true) (h63 : ls.length + 1 ≤ maxLen) (hb : (ls.length + 1) * b ≤ 140737488355328) (hbase : B ≤ w.heap.size)
    (hQ : ∀ w' vs, (w.alloc (.cells #[x] e)).ownsRow B e 1 v ls.length vs → (w.alloc (.cells #[x] e)).grownBy w' v.ownBlock → ∀ y m, Q w y m → Q w' y m)
    (hK : ∀ v' w', LLo Q w' B e v' (ls ++ [l]) → (∀ w0, Later w0 w → w0.heap.size ≤ B → Later w0 w') → K v' w') : vAppend P #[t, t] ty #[v, .slice (some ⟨w.heap.size, 0, none⟩) 1 1] K (w.alloc (.cells #[x] e)) := by
  obtain ⟨vs, ho, hq⟩ := h
  have hn := own_n ho
  refine vAppend_own ht hi hzs (by omega) (own_alloc ho _) (Sl.one w x e) (by simpa using h1) h63 hb (by simp; omega) ?_
  intro v' w' ho' hg _
  refine hK v' w' ⟨vs ++ [x], by simpa using ho', fun i y m hy hm => ?_⟩ fun w0 hl hb => (hl.alloc _).appended (own_alloc ho _) hb hg
  refine hQ w' vs (own_alloc ho _) hg y m ?_
  by_cases hi' : i < vs.length
  · rw [List.getElem?_append_left hi'] at hy
    rw [List.getElem?_append_left (by omega)] at hm
    exact hq i y m hy hm
  · rw [List.getElem?_append_right (by omega)] at hy
    rw [List.getElem?_append_right (by omega)] at hm
    have e1 : i - vs.length = 0 := by
      by_cases h0 : i - vs.length = 0
      · exact h0
      · rw [List.getElem?_eq_none (by simp; omega)] at hy; cases hy
    have e2 : i - ls.length = 0 := by omega
    rw [e1] at hy
    rw [e2] at hm
    simp only [List.getElem?_cons_zero, Option.some.injEq] at hy hm
    subst hy hm; exact hx
end Go.Vc
end
section
namespace Go.Vc
open Go.RowKit
theorem flatten_get {s : Nat} : ∀ (rows : List (List Value)), (∀ r ∈ rows, r.length = s) → ∀ (k j : Nat) (r : List Value) (x : Value), rows[k]? = some r → r[j]? = some x → rows.flatten[k * s + j]? = some x
  | [], _, k, j, r, x, h, _ => by simp at h
  | q :: rows, hl, 0, j, r, x, h, hx => by
    simp only [List.getElem?_cons_zero, Option.some.injEq] at h
    subst h
    have : j < q.length := (List.getElem?_eq_some_iff.1 hx).1
    rw [List.flatten_cons, Nat.zero_mul, Nat.zero_add, List.getElem?_append_left this]; exact hx
  | q :: rows, hl, k + 1, j, r, x, h, hx => by
    have hq := hl q (by simp)
    have ih := flatten_get rows (fun r' h' => hl r' (by simp [h'])) k j r x (by simpa using h) hx
    rw [List.flatten_cons, Nat.add_mul, List.getElem?_append_right (by omega)]
    rw [← ih]; congr 1; omega
theorem SlN.row {w : World} {s n n' c : Nat} {a : Addr} {rows : List (List Value)} (h : SlN w s (.slice (some a) n c) n' rows.flatten) (hl : ∀ r ∈ rows, r.length = s) {k : Nat} {r : List Value} (hr : rows[k]? = some r) : cellsAt w (a.add (k * s)) s = some r := by
  refine cellsAt_of s _ r (hl r (List.mem_of_getElem? hr)) fun j x hx => ?_
  rw [addr_add_add]
  exact h.at (flatten_get rows hl k j r x hr hx)
theorem SlN.rowCell {w : World} {s n n' c : Nat} {a : Addr} {rows : List (List Value)} (h : SlN w s (.slice (some a) n c) n' rows.flatten) (hl : ∀ r ∈ rows, r.length = s) {k j : Nat} {r : List Value} {x : Value} (hr : rows[k]? = some r) (hx : r[j]? = some x) : w.cell? ((a.add (k * s)).add j) = some x := by
  rw [addr_add_add]
  exact h.at (flatten_get rows hl k j r x hr hx)
theorem storeAll_new (w : World) (e : TypeId) : ∀ (xs : List Value) (done rest : List Value), rest.length = xs.length →
    storeAll (w.alloc (.cells (done ++ rest).toArray e)) ⟨w.heap.size, done.length, none⟩ xs = w.alloc (.cells (done ++ xs).toArray e)
  | [], done, rest, h => by
    have : rest = [] := List.eq_nil_of_length_eq_zero (by simpa using h)
    subst this; rfl
  | x :: xs, done, [], h => by simp at h
  | x :: xs, done, r :: rest, h => by
    have ih := storeAll_new w e xs (done ++ [x]) rest (by simpa using h)
    simp only [storeAll]
    have e1 : (w.alloc (.cells (done ++ r :: rest).toArray e)).setCell ⟨w.heap.size, done.length, none⟩ x = w.alloc (.cells (done ++ [x] ++ rest).toArray e) := by
      have hm : ∀ (o o' : Obj) (f : Obj → Obj), f o = o' → (w.heap.push o).modify w.heap.size f = w.heap.push o' := by
        intro o o' f hf
        apply Array.ext_getElem?
        intro i
        rw [Array.getElem?_modify, Array.getElem?_push, Array.getElem?_push]
        by_cases hi : i = w.heap.size
        · subst hi; simp [hf]
        · rw [if_neg (by omega), if_neg hi, if_neg hi]
      show ({ w with heap := (w.heap.push (.cells (done ++ r :: rest).toArray e)).modify w.heap.size _ } : World) = { w with heap := w.heap.push (.cells (done ++ [x] ++ rest).toArray e) }
      rw [hm _ (.cells (done ++ [x] ++ rest).toArray e) _ (by simp)]
    rw [e1, addr_add_eq]
    have e2 : (done ++ [x]).length = done.length + 1 := by simp
    rw [← e2, ih]
    simp
theorem canAll_new (w : World) (e : TypeId) (cs : Array Value) : ∀ (xs : List Value) (i : Nat), i + xs.length ≤ cs.size → canAll (w.alloc (.cells cs e)) ⟨w.heap.size, i, none⟩ xs
  | [], _, _ => trivial
  | x :: xs, i, h => by
    simp only [List.length_cons] at h
    refine ⟨?_, (Blk.new w cs e).frozen i, ?_⟩
    · rw [(Blk.new w cs e).cell i]
      exact ⟨_, Array.getElem?_eq_getElem (by omega)⟩
    · rw [addr_add_eq]; exact canAll_new w e cs xs (i + 1) (by omega)
theorem vStore_new {P : Program} {w : World} {K : Value → World → Prop} {t e : TypeId} {z cs : Array Value} {s : Nat} (hs : cs.size = s) (hz : z.size = s) (h1 : ∀ u ∈ cs.toList, u.oneCell' = true) (hk : K undef (w.alloc (.cells cs e))) :
    vStoreD P t (some s) (.pointer (some ⟨w.heap.size, 0, none⟩)) (.agg cs) K (w.alloc (.cells z e)) := by
  refine ⟨hs, h1, canAll_new w e z cs.toList 0 (by simp; omega), ?_⟩
  have := storeAll_new w e cs.toList [] z.toList (by simp; omega)
  simp only [List.nil_append, List.length_nil] at this
  show K undef (storeAll (w.alloc (.cells z e)) ⟨w.heap.size, 0, none⟩ cs.toList)
  have e1 : z.toList.toArray = z := by simp
  have e2 : cs.toList.toArray = cs := by simp
  rw [e1, e2] at this
  rw [this]; exact hk
section
variable {P : Program} {w : World} {Ns : NS} {rs : List Nat} {σ : Env} {ty : TypeId} {Kv : Value → Prop} {Kn : (Value → World → Prop) → Prop}
theorem nR_move {t : Nat} {V : Value → World → Prop} (ht : t ∈ rs) (hf : findN t Ns = some V) (hV : Stb w V) (hk : Kn V) : nR P (.move (.tmp t)) ty rs Ns σ w Kv Kn :=
  .inr ⟨V, hV, fun σ' _ _ hp => nUp_pure (v := σ' t) rfl (psis_V hp ht hf), hk⟩
end
end Go.Vc
end
section
namespace Go.Vc
open Go.RowKit
def pairC (p : Int × Int) : List Value := [.int .i64 p.1, .int .i64 p.2]
end Go.Vc
end
section
namespace Go.Vc
open Go.RowKit
def Apt (v x : Value) : Prop := ∀ k, v.ownBlock = some k → x.ownBlock ≠ some k
theorem Apt.symm {v x : Value} (h : Apt v x) : Apt x v := fun k hk hk' => h k hk' hk
theorem Apt.nil (x : Value) : Apt (.slice none 0 0) x := fun k hk => by simp [Value.ownBlock] at hk
theorem own_apt {w w' : World} {base s n : Nat} {e : TypeId} {v x : Value} {xs : List Value} (h : w.ownsRow base e s x n xs) (g : w.grownBy w' v.ownBlock) (hap : Apt v x) : w'.ownsRow base e s x n xs := by
  obtain ⟨h0, h⟩ := h
  refine ⟨h0, ?_⟩
  rcases h with h | ⟨b, cap, cur, hv, hb, hh, h3⟩
  · exact .inl h
  · refine .inr ⟨b, cap, cur, hv, hb, ?_, h3⟩
    rw [g.block b (Blk.lt hh) (fun e => hap b e.symm (by rw [hv]; rfl))]
    exact hh
theorem Apt.next {w : World} {base s n : Nat} {e : TypeId} {v v' x : Value} {xs : List Value} (hap : Apt v x) (hx : w.ownsRow base e s x n xs) (h : v'.ownBlock = v.ownBlock ∨ v'.ownBlock = some w.heap.size) : Apt v' x := by
  intro k hk hk'
  rcases h with h | h
  · exact hap k (h ▸ hk) hk'
  · have := World.ownsRow.lt hx k hk'
    rw [h] at hk
    simp only [Option.some.injEq] at hk
    omega
theorem vAppend_at {P : Program} {w : World} {K : Value → World → Prop} {t e ty : TypeId} {z : Value} {s b : Nat} (ht : P.underlying t = some (.slice e)) (hi : (P.info? e).map (fun i => (i.zero, i.size, i.bytes)) = some (some z, s, b)) (hzs : z.cells.size = s) (hsz : 0 < s)
    {base : Nat} {v x : Value} {n m : Nat} {xs news : List Value} (hown : w.ownsRow base e s v n xs) (hx : SlN w s x m news) (h1 : ∀ u ∈ news, u.oneCell' = true) (h63 : n + m ≤ maxLen) (hb : (n + m) * b ≤ 140737488355328) (hbase : base ≤ w.heap.size)
    (hK : ∀ v' w', w'.ownsRow base e s v' (n + m) (xs ++ news) → w.grownBy w' v.ownBlock → (v'.ownBlock = v.ownBlock ∨ v'.ownBlock = some w.heap.size) → K v' w') : vAppend P #[t, t] ty #[v, x] K w := by
  obtain ⟨i, hi1, hz, hsi, hbi⟩ := info_parts hi
  unfold vAppend
  obtain ⟨hl, hr⟩ := hx
  rcases hr with ⟨rfl, rfl⟩ | ⟨ad, c, rfl, hc1, hc2, hc3⟩
  · have hnews : news = [] := List.eq_nil_of_length_eq_zero (by simpa using hl)
    subst hnews
    have hsl := SlN.of_own hown
    obtain ⟨o, c, rfl, h1, h2, h3, h4, _⟩ := hsl.open
    rw [run_val_pure (run_append_nil_src ht hi o n c h1 (fun ho => (h4 ho).1))]
    exact hK _ _ (by simpa using hown) ⟨rfl, rfl, rfl, Nat.le_refl _, fun _ _ _ => rfl⟩ (.inl rfl)
  · obtain ⟨v', w', hr, h2, h3, h4, h5⟩ := run_append_own_at (P := P) w base t ty e i z s b ht hi1 hz hsi hbi hzs hsz v n xs hown ad m c news hl hc3 h1 h63 hb hbase
    rw [run_val_pure hr]
    exact hK _ _ h2 h3 h5
theorem grown_blk {w w' : World} {base s n k : Nat} {e : TypeId} {v : Value} {xs : List Value} {cs : Array Value} {e' : TypeId} (hv : w.ownsRow base e s v n xs) (g : w.grownBy w' v.ownBlock) (h : Blk w k cs e') (hk : k < base) : Blk w' k cs e' := by
  unfold Blk at *
  rw [g.block k (Blk.lt h) fun he => ?_]; exact h
  obtain ⟨_, hr⟩ := hv
  rcases hr with ⟨rfl, _⟩ | ⟨b, cap, cur, rfl, hb, _⟩
  · simp [Value.ownBlock] at he
  · simp only [Value.ownBlock, Option.some.injEq] at he; omega
end Go.Vc
end
section
namespace Go.Vc
open Go.RowKit
def i64v (n : Int) : Value := .int .i64 n
def OwnI (w : World) (B : Nat) (e : TypeId) (v : Value) (l : List Int) : Prop := w.ownsRow B e 1 v l.length (l.map i64v)
theorem Sl.atI {w : World} {a : Addr} {l : List Int} {n c : Nat} (h : Sl w (.slice (Option.some a) n c) (l.map i64v)) {i : Nat} (hi : i < l.length) : w.cell? (a.add i) = Option.some (.int .i64 l[i]) := h.at (by simp [i64v, hi])
theorem vAppend_is {P : Program} {w : World} {K : Value → World → Prop} {t e ty : TypeId} {z : Value} {b : Nat} (ht : P.underlying t = some (.slice e)) (hi : (P.info? e).map (fun i => (i.zero, i.size, i.bytes)) = some (some z, 1, b)) (hzs : z.cells.size = 1)
    {B : Nat} {v x : Value} {l r : List Int} (hown : OwnI w B e v l) (hx : Sl w x (r.map i64v)) (h63 : l.length + r.length ≤ 1000000000) (hb : b ≤ 1000) (hbase : B ≤ w.heap.size)
    (hK : ∀ v' w', OwnI w' B e v' (l ++ r) → w.grownBy w' v.ownBlock → (v'.ownBlock = v.ownBlock ∨ v'.ownBlock = some w.heap.size) → (∀ w0, Later w0 w → w0.heap.size ≤ B → Later w0 w') → K v' w') : vAppend P #[t, t] ty #[v, x] K w := by
  have hx' : SlN w 1 x r.length (r.map i64v) := by
    unfold Sl at hx
    rwa [List.length_map] at hx
  refine vAppend_at ht hi hzs (by omega) hown hx' (by intro u hu; obtain ⟨y, _, rfl⟩ := List.mem_map.1 hu; rfl) (by unfold maxLen; omega) ?_ hbase ?_
  · have : (l.length + r.length) * b ≤ 1000000000 * 1000 := Nat.mul_le_mul h63 hb
    omega
  · intro v' w' ho hg hs
    refine hK v' w' ?_ hg hs fun w0 hl hb => hl.appended hown hb hg
    unfold OwnI
    rw [List.length_append, List.map_append]; exact ho
end Go.Vc
end
section
namespace Go.Stab
variable {α : Type} {lt : α → α → Bool}
def eqv (lt : α → α → Bool) (a b : α) : Bool := !lt a b && !lt b a
def Stb (lt : α → α → Bool) (l l' : List α) : Prop := l'.length = l.length ∧ ∀ x, l'.filter (eqv lt x) = l.filter (eqv lt x)
def s0 (a m b : Nat) : Nat := if (a + b) / 2 < m then (a + b) / 2 + m - b else a
def r0 (a m b : Nat) : Nat := if (a + b) / 2 < m then (a + b) / 2 else m
end Go.Stab
end
section
namespace Go.Key
open Go.Stab
theorem bl_tri : ∀ (a b : List UInt8), (Op.bytesLess a b = true ∧ Op.bytesLess b a = false ∧ a ≠ b) ∨ (a = b ∧ Op.bytesLess a b = false) ∨ (Op.bytesLess a b = false ∧ Op.bytesLess b a = true ∧ a ≠ b)
  | [], [] => .inr (.inl ⟨rfl, rfl⟩)
  | [], _ :: _ => .inl ⟨rfl, rfl, by simp⟩
  | _ :: _, [] => .inr (.inr ⟨rfl, rfl, by simp⟩)
  | x :: a, y :: b => by
    rcases UInt8.lt_or_lt_of_ne (a := x) (b := y) |> fun h => (Decidable.em (x = y)).imp id h with e | e | e
    · subst e
      have hx : ¬ x < x := UInt8.lt_irrefl x
      rcases bl_tri a b with ⟨h1, h2, h3⟩ | ⟨h1, h2⟩ | ⟨h1, h2, h3⟩
      · exact .inl ⟨by simp [Op.bytesLess, h1], by simp [Op.bytesLess, h2, hx], by simpa using h3⟩
      · exact .inr (.inl ⟨by rw [h1], by simp [Op.bytesLess, h2, hx]⟩)
      · exact .inr (.inr ⟨by simp [Op.bytesLess, h1, hx], by simp [Op.bytesLess, h2], by simpa using h3⟩)
    · have n : ¬ y < x := fun h => UInt8.lt_irrefl _ (UInt8.lt_trans h e)
      have ne : x ≠ y := fun h => by subst h; exact UInt8.lt_irrefl _ e
      exact .inl ⟨by simp [Op.bytesLess, e], by simp [Op.bytesLess, n, Ne.symm ne], by simp [ne]⟩
    · have n : ¬ x < y := fun h => UInt8.lt_irrefl _ (UInt8.lt_trans h e)
      have ne : x ≠ y := fun h => by subst h; exact UInt8.lt_irrefl _ e
      exact .inr (.inr ⟨by simp [Op.bytesLess, n, ne], by simp [Op.bytesLess, e], by simp [ne]⟩)
theorem bl_trans : ∀ (a b c : List UInt8), Op.bytesLess a b = true → Op.bytesLess b c = true → Op.bytesLess a c = true
  | _, [], _, h, _ => by simp [Op.bytesLess] at h
  | _, _ :: _, [], _, h => by simp [Op.bytesLess] at h
  | [], _ :: _, _ :: _, _, _ => rfl
  | x :: a, y :: b, z :: c, h, g => by
    simp only [Op.bytesLess, Bool.or_eq_true, decide_eq_true_eq, Bool.and_eq_true, beq_iff_eq] at h g ⊢
    rcases h with h | ⟨rfl, h⟩ <;> rcases g with g | ⟨rfl, g⟩
    · exact .inl (UInt8.lt_trans h g)
    · exact .inl h
    · exact .inl g
    · exact .inr ⟨rfl, bl_trans a b c h g⟩
def blt (a b : ByteArray) : Bool := Op.bytesLess a.data.toList b.data.toList
theorem ba_ext {a b : ByteArray} (h : a.data.toList = b.data.toList) : a = b := by
  cases a; cases b
  congr
  exact Array.ext' h
theorem blt_tri (a b : ByteArray) : (blt a b = true ∧ blt b a = false ∧ a ≠ b) ∨ (a = b ∧ blt a b = false) ∨ (blt a b = false ∧ blt b a = true ∧ a ≠ b) := by
  rcases bl_tri a.data.toList b.data.toList with ⟨h1, h2, h3⟩ | ⟨h1, h2⟩ | ⟨h1, h2, h3⟩
  · exact .inl ⟨h1, h2, fun e => h3 (by rw [e])⟩
  · exact .inr (.inl ⟨ba_ext h1, h2⟩)
  · exact .inr (.inr ⟨h1, h2, fun e => h3 (by rw [e])⟩)
end Go.Key
end
section
namespace Go.Proofs.Ytcajkjbempagaaa
end Go.Proofs.Ytcajkjbempagaaa
end
section
set_option linter.unusedSimpArgs false
namespace Go.Proofs.Ytcajkjbempagaaa
open Go.Vc Go.Key
set_option maxRecDepth 100000
abbrev StS (w : World) (v : Value) (l : List ByteArray) : Prop := Sl w v (l.map Value.string)
theorem StS.atS {w : World} {a : Addr} {l : List ByteArray} {n c : Nat} (h : StS w (.slice (some a) n c) l) {i : Nat} (hi : i < l.length) : w.cell? (a.add i) = some (.string l[i]) := Sl.at h (by simp [hi])
@[push_cast] theorem vBinS_gtr {P : Program} {t : TypeId} {x y : Operand} {m n : ByteArray} {K : Value → World → Prop} {w : World} : vBin P .gtr t x y (.string m) (.string n) K w = K (.bool (!(Op.bytesLess m.data.toList n.data.toList || decide (m = n)))) w := mk_eq rfl
theorem texts_c (u v : Value) (a b : List ByteArray) (w : World) (hu : StS w u a) (hv : StS w v b) : FnC Try.prog 41 #[u, v] w fun r w' => r = .bool (decide (a = b)) ∧ Later w w' := by
  obtain ⟨oa, ca, rfl, g1, g2, hu, g3⟩ := hu.openM
  obtain ⟨ob, cb, rfl, k1, k2, hv, k3⟩ := hv.openM
  refine enter41 _ _ ?_
  unfold B41
  by_cases hlen : a.length = b.length
  · repeat' (first | (simp (disch := omega) only [push_cast, seval]) | refine iX ?_ ?_ <;> intros | refine aI (by omega) ?_ | refine dq ?_)
    refine vc_loop W41_0 (fun i : Nat => [(4, .bool false), (5, .int .i64 (i : Int))])
      (fun i w' => i ≤ a.length ∧ Later w w' ∧ a.take i = b.take i) (fun i => a.length - i) 0 (by decide) ?_ ?_ ?_
    · simp (disch := omega) only [push_cast, seval]
    · exact ⟨by omega, Later.refl _, by simp⟩
    rintro i uu w0 ⟨hi, hl, he⟩
    by_cases ha : i < a.length
    · have hb : i < b.length := by omega
      obtain ⟨aa, rfl⟩ := hu.some ha
      obtain ⟨bb, rfl⟩ := hv.some hb
      have c1 := StS.atS (hu.later hl) ha
      have c2 := StS.atS (hv.later hl) hb
      by_cases hab : a[i] = b[i]
      · repeat' (first | (simp (disch := omega) only [push_cast, seval, c1, c2, hab, decide_true, Bool.not_true]) | refine iX ?_ ?_ <;> intros | refine aI (by omega) ?_ | refine dq ?_)
        intro w1 hl1
        repeat' (first | (simp (disch := omega) only [push_cast, seval]) | refine iX ?_ ?_ <;> intros | refine aI (by omega) ?_ | refine dq ?_)
        refine ⟨rfl, i + 1, by simp (disch := omega) only [push_cast, seval], ⟨by omega, hl.trans hl1, ?_⟩, by simp; omega⟩
        rw [take_snoc a i ha, take_snoc b i hb, he, hab]
      · have hne : a ≠ b := fun e => by subst e; exact hab rfl
        repeat' (first | (simp (disch := omega) only [push_cast, seval, c1, c2, hab, decide_false, Bool.not_false]) | refine iX ?_ ?_ <;> intros | refine aI (by omega) ?_ | refine dq ?_)
        intro w1 hl1
        repeat' (first | (simp (disch := omega) only [push_cast, seval]) | refine iX ?_ ?_ <;> intros | refine aI (by omega) ?_ | refine dq ?_)
        simp [hne, hl.trans hl1]
    · have e : i = a.length := by omega
      subst e
      rw [List.take_length, hlen, List.take_length] at he
      repeat' (first | (simp (disch := omega) only [push_cast, seval]) | refine iX ?_ ?_ <;> intros | refine aI (by omega) ?_ | refine dq ?_)
      simp [he, hl]
  · have hne : a ≠ b := fun e => by subst e; exact hlen rfl
    repeat' (first | (simp (disch := omega) only [push_cast, seval]) | refine iX ?_ ?_ <;> intros | refine aI (by omega) ?_ | refine dq ?_)
    simp [hne, Later.refl]
end Go.Proofs.Ytcajkjbempagaaa
end
section
set_option linter.unusedSimpArgs false
namespace Go.Proofs.Ytcajkjbempagaaa
open Go.Vc Go.Key
set_option maxRecDepth 100000
def vlB (b : UInt8) : Bool := decide (32 ≤ b.toNat) && decide (b.toNat ≤ 126) && !decide (b.toNat = 34) && !decide (b.toNat = 92)
def VlOk (s : ByteArray) : Prop := (∀ i (h : i < s.size), vlB s[i] = true) ∧ s.size ≤ 24
instance (s : ByteArray) : Decidable (VlOk s) := inferInstanceAs (Decidable ((∀ i (h : i < s.size), vlB s[i] = true) ∧ s.size ≤ 24))
theorem dvalue_c (s : ByteArray) (w : World) (hs : s.size ≤ 9223372036854775807) : FnC Try.prog 68 #[.string s] w fun r w' => r = .bool (decide (VlOk s)) ∧ w' = w := by
  refine enter68 _ ?_
  unfold B68
  repeat' (first | (simp (disch := omega) only [push_cast, seval]) | refine iX ?_ ?_ <;> intros | refine aI (by omega) ?_ | refine dq ?_)
  refine vc_loop W68_0 (fun i : Nat => [(2, .bool false), (3, .int .i64 (i : Int))])
    (fun i w' => i ≤ s.size ∧ w' = w ∧ ∀ j (h : j < s.size), j < i → vlB s[j] = true) (fun i => s.size - i) 0 (by decide) ?_ ?_ ?_
  · simp (disch := omega) only [push_cast, seval]
  · exact ⟨by omega, rfl, fun j _ hj => absurd hj (Nat.not_lt_zero _)⟩
  rintro i uu w0 ⟨hi, h0, hA⟩
  obtain rfl := h0.symm
  by_cases hlt : i < s.size
  · have hg : s[i]? = some s[i] := getElem?_pos s i hlt
    by_cases hv : vlB s[i] = true
    · have hv' := hv
      simp only [vlB, Bool.and_eq_true, decide_eq_true_eq, Bool.not_eq_true', decide_eq_false_iff_not] at hv'
      repeat' (first | (simp (disch := omega) only [push_cast, seval, hg]) | refine iX ?_ ?_ <;> intros | refine aI (by omega) ?_ | refine dq ?_)
      refine ⟨rfl, i + 1, by simp (disch := omega) only [push_cast, seval], ⟨by omega, rfl, fun j hj hji => ?_⟩, by dsimp only; omega⟩
      by_cases h : j < i
      · exact hA j hj h
      · have : j = i := by omega
        subst this
        exact hv
    · have hno : decide (VlOk s) = false := decide_eq_false fun h => hv (h.1 i hlt)
      have hv' : ¬ (32 ≤ s[i].toNat ∧ s[i].toNat ≤ 126 ∧ ¬ s[i].toNat = 34 ∧ ¬ s[i].toNat = 92) := by
        intro hh
        apply hv
        simp only [vlB, Bool.and_eq_true, decide_eq_true_eq, Bool.not_eq_true', decide_eq_false_iff_not]
        exact ⟨⟨⟨hh.1, hh.2.1⟩, hh.2.2.1⟩, hh.2.2.2⟩
      repeat' (first | (simp (disch := omega) only [push_cast, seval, hg]) | refine iX ?_ ?_ <;> intros | refine aI (by omega) ?_ | refine dq ?_)
      all_goals first
        | exact ⟨by rw [hno], trivial⟩
        | exact ⟨by rw [hno], rfl⟩
        | (rw [hno])
        | (exfalso; omega)
  · by_cases h24 : s.size ≤ 24
    · have hyes : decide (VlOk s) = true := decide_eq_true ⟨fun j hj => hA j hj (by omega), h24⟩
      repeat' (first | (simp (disch := omega) only [push_cast, seval]) | refine iX ?_ ?_ <;> intros | refine aI (by omega) ?_ | refine dq ?_)
      rw [hyes]
      exact congrArg Value.bool (decide_eq_true (by omega))
    · have hno : decide (VlOk s) = false := decide_eq_false fun h => h24 h.2
      repeat' (first | (simp (disch := omega) only [push_cast, seval]) | refine iX ?_ ?_ <;> intros | refine aI (by omega) ?_ | refine dq ?_)
      rw [hno]
      exact congrArg Value.bool (decide_eq_false (by omega))
def wordsL : List ByteArray := [⟨#[99, 111, 117, 110, 116]⟩, ⟨#[115, 117, 109]⟩, ⟨#[109, 105, 110]⟩, ⟨#[109, 97, 120]⟩, ⟨#[102, 114, 111, 109]⟩, ⟨#[116, 111]⟩, ⟨#[98, 121]⟩, ⟨#[101, 118, 101, 114, 121]⟩, ⟨#[119, 104, 101, 114, 101]⟩, ⟨#[104, 97, 118, 105, 110, 103]⟩, ⟨#[111, 114, 100, 101, 114]⟩, ⟨#[108, 105, 109, 105, 116]⟩, ⟨#[97, 110, 100]⟩, ⟨#[111, 114]⟩, ⟨#[110, 111, 116]⟩, ⟨#[105, 115]⟩, ⟨#[110, 117, 108, 108]⟩, ⟨#[97, 115, 99]⟩, ⟨#[100, 101, 115, 99]⟩, ⟨#[115, 101, 108, 101, 99, 116]⟩]
theorem words_c (w : World) : FnC Try.prog 69 #[] w fun r w' => StS w' r wordsL ∧ Later w w' := by
  refine enter69 ?_
  unfold B69
  repeat' (first | (simp (disch := omega) only [push_cast, seval]) | refine iX ?_ ?_ <;> intros | refine aI (by omega) ?_ | refine dq ?_)
  exact ⟨Sl.of_blk (xs := wordsL.map Value.string) (Blk.new w _ _) rfl (by unfold maxLen; omega), later_alloc _ _⟩
def nmC (i : Nat) (b : UInt8) : Prop := (97 ≤ b.toNat ∧ b.toNat ≤ 122) ∨ (i ≠ 0 ∧ ((48 ≤ b.toNat ∧ b.toNat ≤ 57) ∨ b.toNat = 95))
instance (i : Nat) (b : UInt8) : Decidable (nmC i b) := inferInstanceAs (Decidable (_ ∨ _))
def NmOk (s : ByteArray) : Prop := (∀ x ∈ wordsL, x ≠ s) ∧ (∀ i (h : i < s.size), nmC i s[i]) ∧ 1 ≤ s.size ∧ s.size ≤ 12
instance (s : ByteArray) : Decidable (NmOk s) := inferInstanceAs (Decidable ((∀ x ∈ wordsL, x ≠ s) ∧ (∀ i (h : i < s.size), nmC i s[i]) ∧ 1 ≤ s.size ∧ s.size ≤ 12))
theorem dname_c (s : ByteArray) (w : World) (hs : s.size ≤ 9223372036854775807) : FnC Try.prog 48 #[.string s] w fun r w' => r = .bool (decide (NmOk s)) ∧ Later w w' := by
  refine enter48 _ ?_
  unfold B48
  repeat' (first | (simp (disch := omega) only [push_cast, seval]) | refine iX ?_ ?_ <;> intros | refine aI (by omega) ?_ | refine dq ?_)
  refine (words_c w).mono ?_
  rintro v w1 ⟨hW, l1⟩
  obtain ⟨o, c, rfl⟩ := Sl.slice hW
  have hl : (wordsL.map Value.string).length = 20 := rfl
  rw [hl]
  rw [hl] at hW
  repeat' (first | (simp (disch := omega) only [push_cast, seval]) | refine iX ?_ ?_ <;> intros | refine aI (by omega) ?_ | refine dq ?_)
  refine vc_loop W48_0 (fun i : Nat => [(2, .bool false), (4, .int .i64 (i : Int))])
    (fun i w' => i ≤ 20 ∧ Later w1 w' ∧ ∀ j (h : j < wordsL.length), j < i → wordsL[j] ≠ s) (fun i => 20 - i) 0 (by decide) ?_ ?_ ?_
  · simp (disch := omega) only [push_cast, seval]
  · exact ⟨by omega, Later.refl _, fun j _ hj => absurd hj (Nat.not_lt_zero _)⟩
  rintro i uu w2 ⟨hi, l2, hA⟩
  by_cases hlt : i < wordsL.length
  · have hlt' : i < 20 := hlt
    cases o with
    | none => have := Sl.len hW; simp [wordsL] at this
    | some a =>
    have hc := StS.atS (Sl.later hW l2) hlt
    by_cases hv : wordsL[i] = s
    · have hno : decide (NmOk s) = false := decide_eq_false fun h => h.1 _ (List.getElem_mem hlt) hv
      repeat' (first | (simp (disch := omega) only [push_cast, seval, hc, hv, decide_true]) | refine iX ?_ ?_ <;> intros | refine aI (by omega) ?_ | refine dq ?_)
      first | exact ⟨by rw [hno], (l1.trans l2)⟩ | exact (l1.trans l2)
    · repeat' (first | (simp (disch := omega) only [push_cast, seval, hc, hv, decide_false]) | refine iX ?_ ?_ <;> intros | refine aI (by omega) ?_ | refine dq ?_)
      refine ⟨rfl, i + 1, by simp (disch := omega) only [push_cast, seval], ⟨by omega, l2, fun j hj hji => ?_⟩, by dsimp only; omega⟩
      by_cases h : j < i
      · exact hA j hj h
      · have : j = i := by omega
        subst this
        exact hv
  have hi20 : i = 20 := by have : wordsL.length = 20 := rfl; omega
  subst hi20
  have hmem : ∀ x ∈ wordsL, x ≠ s := by
    intro x hm
    obtain ⟨j, hj, rfl⟩ := List.getElem_of_mem hm
    exact hA j hj hj
  have l12 := l1.trans l2
  repeat' (first | (simp (disch := omega) only [push_cast, seval]) | refine iX ?_ ?_ <;> intros | refine aI (by omega) ?_ | refine dq ?_)
  refine vc_loop W48_1 (fun i : Nat => [(2, .bool false), (5, .int .i64 (i : Int))])
    (fun i w' => i ≤ s.size ∧ w' = w2 ∧ ∀ j (h : j < s.size), j < i → nmC j s[j]) (fun i => s.size - i) 0 (by decide) ?_ ?_ ?_
  · simp (disch := omega) only [push_cast, seval]
  · exact ⟨by omega, rfl, fun j _ hj => absurd hj (Nat.not_lt_zero _)⟩
  rintro i uu2 w0 ⟨hi, h0, hB⟩
  obtain rfl := h0.symm
  by_cases hlt : i < s.size
  · have hg : s[i]? = some s[i] := getElem?_pos s i hlt
    have hno : ¬ nmC i s[i] → decide (NmOk s) = false := fun hv => decide_eq_false fun h => hv (h.2.1 i hlt)
    have hyes : nmC i s[i] → ∀ j (h : j < s.size), j < i + 1 → nmC j s[j] := by
      intro hv j hj hji
      by_cases h : j < i
      · exact hB j hj h
      · have : j = i := by omega
        subst this
        exact hv
    generalize hN : nmC i s[i] = N at hno hyes
    unfold nmC at hN
    generalize s[i] = ch at *
    repeat' (first | (simp (disch := omega) only [push_cast, seval, hg]) | refine iX ?_ ?_ <;> intros | refine aI (by omega) ?_ | refine dq ?_)
    all_goals first
      | (have hn : ¬ N := by rw [← hN]; omega
         first | exact ⟨by rw [hno hn], l12⟩ | (rw [hno hn]))
      | (have hn : N := by rw [← hN]; omega
         exact ⟨rfl, i + 1, by simp (disch := omega) only [push_cast, seval], ⟨by omega, rfl, hyes hn⟩, by dsimp only; omega⟩)
  · have hall : ∀ j (h : j < s.size), nmC j s[j] := fun j hj => hB j hj (by omega)
    have hd : decide (NmOk s) = (decide (1 ≤ s.size) && decide (s.size ≤ 12)) := by
      rw [← Bool.decide_and]
      exact decide_eq_decide.2 ⟨fun h => h.2.2, fun h => ⟨hmem, hall, h⟩⟩
    by_cases h1 : 1 ≤ s.size
    · by_cases h2 : s.size ≤ 12
      · rw [hd, decide_eq_true h1, decide_eq_true h2]
        repeat' (first | (simp (disch := omega) only [push_cast, seval]) | refine iX ?_ ?_ <;> intros | refine aI (by omega) ?_ | refine dq ?_)
        first | exact ⟨congrArg Value.bool (decide_eq_true (by omega)), l12⟩ | exact l12
      · rw [hd, decide_eq_true h1, decide_eq_false h2]
        repeat' (first | (simp (disch := omega) only [push_cast, seval]) | refine iX ?_ ?_ <;> intros | refine aI (by omega) ?_ | refine dq ?_)
        first | exact ⟨congrArg Value.bool (decide_eq_false (by omega)), l12⟩ | exact l12
    · rw [hd, decide_eq_false h1]
      repeat' (first | (simp (disch := omega) only [push_cast, seval]) | refine iX ?_ ?_ <;> intros | refine aI (by omega) ?_ | refine dq ?_)
      first | exact ⟨rfl, l12⟩ | exact l12
def F10 (l : List ByteArray) : Prop := l.length ≤ 20 ∧ ∀ s ∈ l, s.size ≤ 80
instance (l : List ByteArray) : Decidable (F10 l) := inferInstanceAs (Decidable (_ ∧ _))
theorem fits10_c (v : Value) (l : List ByteArray) (w : World) (h : StS w v l) (hs : ∀ s ∈ l, s.size ≤ 9223372036854775807) : FnC Try.prog 47 #[v] w fun r w' => r = .bool (decide (F10 l)) ∧ w' = w := by
  obtain ⟨o, c, rfl⟩ := Sl.slice h
  rw [List.length_map] at h ⊢
  refine enter47 _ ?_
  unfold B47
  have hbig := (Sl.len h).2.1
  have hbig2 := (Sl.len h).2.2.1
  unfold maxLen at hbig2
  repeat' (first | (simp (disch := omega) only [push_cast, seval]) | refine iX ?_ ?_ <;> intros | refine aI (by omega) ?_ | refine dq ?_)
  refine vc_loop W47_0 (fun i : Nat => [(2, .bool false), (3, .int .i64 (i : Int))])
    (fun i w' => i ≤ l.length ∧ i ≤ 20 ∧ w' = w ∧ ∀ j (h : j < l.length), j < i → l[j].size ≤ 80) (fun i => l.length - i) 0 (by decide) ?_ ?_ ?_
  · simp (disch := omega) only [push_cast, seval]
  · exact ⟨by omega, by omega, rfl, fun j _ hj => absurd hj (Nat.not_lt_zero _)⟩
  rintro i uu w0 ⟨hi, hi20, h0, hA⟩
  obtain rfl := h0.symm
  by_cases hlt : i < l.length
  · cases o with
    | none => have := (Sl.len h).2.2.2 rfl; simp at this; rw [this.1] at hlt; simp at hlt
    | some a =>
    have hc := StS.atS h hlt
    have hz := hs _ (List.getElem_mem hlt)
    by_cases h20 : i = 20
    · have hno : decide (F10 l) = false := decide_eq_false fun h => by have := h.1; omega
      subst h20
      repeat' (first | (simp (disch := omega) only [push_cast, seval, hc]) | refine iX ?_ ?_ <;> intros | refine aI (by omega) ?_ | refine dq ?_)
      first | exact ⟨by rw [hno], trivial⟩ | (rw [hno])
    · by_cases h80 : l[i].size ≤ 80
      · repeat' (first | (simp (disch := omega) only [push_cast, seval, hc]) | refine iX ?_ ?_ <;> intros | refine aI (by omega) ?_ | refine dq ?_)
        refine ⟨rfl, i + 1, by simp (disch := omega) only [push_cast, seval], ⟨by omega, by omega, rfl, fun j hj hji => ?_⟩, by dsimp only; omega⟩
        by_cases h : j < i
        · exact hA j hj h
        · have : j = i := by omega
          subst this
          exact h80
      · have hno : decide (F10 l) = false := decide_eq_false fun h => h80 (h.2 _ (List.getElem_mem _))
        repeat' (first | (simp (disch := omega) only [push_cast, seval, hc]) | refine iX ?_ ?_ <;> intros | refine aI (by omega) ?_ | refine dq ?_)
        first | exact ⟨by rw [hno], trivial⟩ | (rw [hno])
  · have hyes : decide (F10 l) = true := decide_eq_true ⟨by omega, fun s hs => by
      obtain ⟨j, hj, rfl⟩ := List.getElem_of_mem hs
      exact hA j hj (by omega)⟩
    repeat' (first | (simp (disch := omega) only [push_cast, seval]) | refine iX ?_ ?_ <;> intros | refine aI (by omega) ?_ | refine dq ?_)
    rw [hyes]
end Go.Proofs.Ytcajkjbempagaaa
end
section
namespace Go.Proofs.Ytcajkjbempagaaa
open Go.Vc Go.Zig Go.Chk
set_option maxRecDepth 100000
abbrev Fi (n : Int) : Prop := -4611686018427387904 ≤ n ∧ n ≤ 4611686018427387904
structure En where
  tick : Bool
  now : Int
  t : Int
  d : List ByteArray
  k : List Int
theorem En.ext' {a b : En} (h1 : a.tick = b.tick) (h2 : a.now = b.now) (h3 : a.t = b.t) (h4 : a.d = b.d) (h5 : a.k = b.k) : a = b := by
  cases a; cases b; simp_all
def txE (s : ByteArray) : List UInt8 := zi s.size ++ s.data.toList
def encE (e : En) : List UInt8 := if e.tick = true then zi 1 ++ zi e.now else zi 0 ++ zi e.t ++ e.d.flatMap txE ++ e.k.flatMap zi
def evOk (nd nm : Nat) (t : Int) (d : List ByteArray) (k : List Int) : Bool := decide (d.length = nd) && decide (k.length = nm) && decide (∀ s ∈ d, VlOk s) && decide (∀ n ∈ k, Fi n) && decide (0 ≤ t) && decide (t ≤ 1099511627776)
def rgE (nd nm : Nat) (e : En) : Bool := if e.tick = true then decide (0 ≤ e.now) && decide (e.now ≤ 1099511627776) && decide (e.t = 0) && decide (e.d.length + e.k.length = 0) else decide (e.now = 0) && evOk nd nm e.t e.d e.k
theorem evOk_iff {nd nm : Nat} {t : Int} {d : List ByteArray} {k : List Int} : evOk nd nm t d k = true ↔ d.length = nd ∧ k.length = nm ∧ (∀ s ∈ d, VlOk s) ∧ (∀ n ∈ k, Fi n) ∧ 0 ≤ t ∧ t ≤ 1099511627776 := by
  unfold evOk
  simp only [Bool.and_eq_true, decide_eq_true_eq]
  constructor
  · rintro ⟨⟨⟨⟨⟨h1, h2⟩, h3⟩, h4⟩, h5⟩, h6⟩; exact ⟨h1, h2, h3, h4, h5, h6⟩
  · rintro ⟨h1, h2, h3, h4, h5, h6⟩; exact ⟨⟨⟨⟨⟨h1, h2⟩, h3⟩, h4⟩, h5⟩, h6⟩
/-! ### reading -/
abbrev St := List UInt8 × Bool
def pI (s : St) (a b : Int) : Int × St := ((rI s.1 a b).1, (rI s.1 a b).2.2, s.2 && decide ((rI s.1 a b).2.1 = 0))
def pT (s : St) : ByteArray × St := ((rT s.1 24).1, (rT s.1 24).2.2, s.2 && decide ((rT s.1 24).2.1 = 0))
def pTs : Nat → St → List ByteArray × St
  | 0, s => ([], s)
  | n + 1, s => ((pTs n s).1 ++ [(pT (pTs n s).2).1], (pT (pTs n s).2).2)
def pIs : Nat → St → List Int × St
  | 0, s => ([], s)
  | n + 1, s => ((pIs n s).1 ++ [(pI (pIs n s).2 (-4611686018427387904) 4611686018427387904).1], (pI (pIs n s).2 (-4611686018427387904) 4611686018427387904).2)
def dec (nd nm : Nat) (l : List UInt8) : En × St :=
  let p := pI (l, true) 0 1
  let q := pI p.2 0 1099511627776
  if p.1 = 1 then (⟨true, q.1, 0, [], []⟩, q.2) else (⟨false, 0, q.1, (pTs nd q.2).1, (pIs nm (pTs nd q.2).2).1⟩, (pIs nm (pTs nd q.2).2).2)
theorem rI_ok {l : List UInt8} {a b : Int} (h : (rI l a b).2.1 = 0) : a ≤ (rI l a b).1 ∧ (rI l a b).1 ≤ b ∧ I64 (rI l a b).1 ∧ l = zi (rI l a b).1 ++ (rI l a b).2.2 := by
  unfold rI at h ⊢
  rcases num_next (l := l) with ⟨e1, e2⟩ | ⟨u, m, e1, e2, e3, e4, e5⟩
  · rw [e1] at h; simp at h
  · have hu := unfoldI_i64 e3
    simp only [e1] at h ⊢
    split at h
    · simp at h
    · rename_i hn
      rw [if_neg hn]
      dsimp only
      refine ⟨by omega, by omega, hu, ?_⟩
      have hc := num_canon e1
      have e : zi (unfoldI u) = zu u := by
        unfold zi
        rw [fold_unfold e3.1]; rfl
      rw [e, hc, List.take_append_drop]
theorem rT_ok {l : List UInt8} (h : (rT l 24).2.1 = 0) : (rT l 24).1.size ≤ 24 ∧ l = txE (rT l 24).1 ++ (rT l 24).2.2 := by
  unfold rT at h ⊢
  rcases num_next (l := l) with ⟨e1, e2⟩ | ⟨u, m, e1, e2, e3, e4, e5⟩
  · rw [e1] at h; simp at h
  · have hu := unfoldI_i64 e3
    simp only [e1] at h ⊢
    split at h
    · simp at h
    · rename_i hn
      rw [if_neg hn]
      dsimp only
      have hlen : ((l.drop m).take (unfoldI u).toNat).length = (unfoldI u).toNat := by rw [List.length_take, List.length_drop]; omega
      refine ⟨by rw [strOf_size, hlen]; omega, ?_⟩
      unfold txE
      rw [strOf_size, hlen]
      have e0 : (((unfoldI u).toNat : Nat) : Int) = unfoldI u := by omega
      have hc := num_canon e1
      have e : zi (unfoldI u) = zu u := by
        unfold zi
        rw [fold_unfold e3.1]; rfl
      have e6 : (strOf ((l.drop m).take (unfoldI u).toNat)).data.toList = (l.drop m).take (unfoldI u).toNat := by simp [strOf]
      rw [e0, e, hc, e6, ← List.drop_drop, List.append_assoc, List.take_append_drop, List.take_append_drop]
theorem rI_enc' {n a b : Int} (hn : I64 n) (ha : a ≤ n) (hb : n ≤ b) (r : List UInt8) : rI (zi n ++ r) a b = (n, 0, r) := by
  unfold rI
  rw [zi_num hn]
  simp only [unfold_zi hn]
  rw [if_neg (by omega), List.drop_left]
theorem rT_enc' (s : ByteArray) (hs : s.size ≤ 24) (r : List UInt8) : rT (txE s ++ r) 24 = (s, 0, r) := by
  have hn : I64 (s.size : Int) := by unfold I64; omega
  have hls : s.data.toList.length = s.size := rfl
  unfold rT txE
  rw [List.append_assoc, zi_num hn]
  simp only [unfold_zi hn, List.length_append, hls]
  rw [if_neg (by omega), Int.toNat_natCast, List.drop_left, ← List.drop_drop, List.drop_left, List.take_left' hls, List.drop_left' hls, strOf_data]
theorem pI_ok {s : St} {a b : Int} (h : (pI s a b).2.2 = true) : s.2 = true ∧ a ≤ (pI s a b).1 ∧ (pI s a b).1 ≤ b ∧ I64 (pI s a b).1 ∧ s.1 = zi (pI s a b).1 ++ (pI s a b).2.1 := by
  unfold pI at h ⊢
  simp only [Bool.and_eq_true, decide_eq_true_eq] at h
  exact ⟨h.1, rI_ok h.2⟩
theorem pT_ok {s : St} (h : (pT s).2.2 = true) : s.2 = true ∧ (pT s).1.size ≤ 24 ∧ s.1 = txE (pT s).1 ++ (pT s).2.1 := by
  unfold pT at h ⊢
  simp only [Bool.and_eq_true, decide_eq_true_eq] at h
  exact ⟨h.1, rT_ok h.2⟩
theorem pTs_len : ∀ (n : Nat) (s : St), (pTs n s).1.length = n
  | 0, _ => rfl
  | n + 1, s => by show (_ ++ [_]).length = _; rw [List.length_append, pTs_len n s]; rfl
theorem pIs_len : ∀ (n : Nat) (s : St), (pIs n s).1.length = n
  | 0, _ => rfl
  | n + 1, s => by show (_ ++ [_]).length = _; rw [List.length_append, pIs_len n s]; rfl
theorem pTs_ok : ∀ (n : Nat) {s : St}, (pTs n s).2.2 = true → s.2 = true ∧ s.1 = (pTs n s).1.flatMap txE ++ (pTs n s).2.1
  | 0, s, h => ⟨h, rfl⟩
  | n + 1, s, h => by
    obtain ⟨h1, _, h3⟩ := pT_ok (s := (pTs n s).2) h
    obtain ⟨g1, g2⟩ := pTs_ok n h1
    refine ⟨g1, ?_⟩
    show s.1 = (_ ++ [_]).flatMap txE ++ (pT (pTs n s).2).2.1
    rw [List.flatMap_append, List.append_assoc]
    have e : [(pT (pTs n s).2).1].flatMap txE ++ (pT (pTs n s).2).2.1 = (pTs n s).2.1 := by rw [h3]; simp
    rw [e]; exact g2
theorem pIs_ok : ∀ (n : Nat) {s : St}, (pIs n s).2.2 = true → s.2 = true ∧ s.1 = (pIs n s).1.flatMap zi ++ (pIs n s).2.1
  | 0, s, h => ⟨h, rfl⟩
  | n + 1, s, h => by
    obtain ⟨h1, _, _, _, h3⟩ := pI_ok (s := (pIs n s).2) h
    obtain ⟨g1, g2⟩ := pIs_ok n h1
    refine ⟨g1, ?_⟩
    show s.1 = (_ ++ [_]).flatMap zi ++ (pI (pIs n s).2 _ _).2.1
    rw [List.flatMap_append, List.append_assoc]
    have e : [(pI (pIs n s).2 (-4611686018427387904) 4611686018427387904).1].flatMap zi ++ (pI (pIs n s).2 (-4611686018427387904) 4611686018427387904).2.1 = (pIs n s).2.1 := by rw [h3]; simp
    rw [e]; exact g2
theorem dec_ok {nd nm : Nat} {l : List UInt8} (h : (dec nd nm l).2.2 = true) : l = encE (dec nd nm l).1 ++ (dec nd nm l).2.1 := by
  unfold dec at h ⊢
  dsimp only at h ⊢
  by_cases hk : (pI (l, true) 0 1).1 = 1
  · rw [if_pos hk] at h ⊢
    obtain ⟨q1, _, _, _, q2⟩ := pI_ok h
    obtain ⟨_, _, _, _, p2⟩ := pI_ok q1
    unfold encE
    dsimp only at p2 ⊢
    rw [if_pos rfl, List.append_assoc, ← q2]
    rw [hk] at p2; exact p2
  · rw [if_neg hk] at h ⊢
    obtain ⟨v1, v2⟩ := pIs_ok nm h
    obtain ⟨u1, u2⟩ := pTs_ok nd v1
    obtain ⟨q1, _, _, _, q2⟩ := pI_ok u1
    obtain ⟨_, p3, p4, _, p2⟩ := pI_ok q1
    have hk0 : (pI (l, true) 0 1).1 = 0 := by omega
    unfold encE
    dsimp only at p2 ⊢
    rw [if_neg (by simp), List.append_assoc, List.append_assoc, List.append_assoc, ← v2, ← u2, ← q2]
    rw [hk0] at p2; exact p2
theorem snoc_ind {α : Type} {P : List α → Prop} (h0 : P []) (h1 : ∀ l x, P l → P (l ++ [x])) (l : List α) : P l := by
  have h : ∀ r : List α, P r.reverse := fun r => by
    induction r with
    | nil => exact h0
    | cons x r ih => rw [List.reverse_cons]; exact h1 _ _ ih
  have := h l.reverse
  rwa [List.reverse_reverse] at this
theorem pTs_enc : ∀ (d : List ByteArray) (r : List UInt8), (∀ s ∈ d, s.size ≤ 24) → pTs d.length (d.flatMap txE ++ r, true) = (d, r, true) := by
  intro d
  induction d using snoc_ind with
  | h0 => intro r _; rfl
  | h1 d x ih =>
    intro r h
    rw [List.length_append]
    have e : ((d ++ [x]).flatMap txE ++ r) = d.flatMap txE ++ (txE x ++ r) := by rw [List.flatMap_append]; simp
    show ((pTs d.length _).1 ++ [(pT (pTs d.length _).2).1], (pT (pTs d.length _).2).2) = _
    rw [e, ih _ fun s hs => h s (List.mem_append_left _ hs)]
    unfold pT
    dsimp only
    rw [rT_enc' x (h x (by simp))]
    rfl
theorem pIs_enc : ∀ (k : List Int) (r : List UInt8), (∀ n ∈ k, Fi n) → pIs k.length (k.flatMap zi ++ r, true) = (k, r, true) := by
  intro d
  induction d using snoc_ind with
  | h0 => intro r _; rfl
  | h1 d x ih =>
    intro r h
    rw [List.length_append]
    have e : ((d ++ [x]).flatMap zi ++ r) = d.flatMap zi ++ (zi x ++ r) := by rw [List.flatMap_append]; simp
    show ((pIs d.length _).1 ++ [(pI (pIs d.length _).2 _ _).1], (pI (pIs d.length _).2 _ _).2) = _
    rw [e, ih _ fun s hs => h s (List.mem_append_left _ hs)]
    unfold pI
    dsimp only
    have hx := h x (by simp)
    rw [rI_enc' (by unfold I64; omega) hx.1 hx.2]
    rfl
theorem dec_enc {nd nm : Nat} {e : En} (h : rgE nd nm e = true) (r : List UInt8) : dec nd nm (encE e ++ r) = (e, r, true) := by
  unfold rgE at h
  unfold encE
  have hp : ∀ (n a b : Int) (r : List UInt8), I64 n → a ≤ n → n ≤ b → pI (zi n ++ r, true) a b = (n, r, true) := fun n a b r h1 h2 h3 => by
    unfold pI
    dsimp only
    rw [rI_enc' h1 h2 h3]; rfl
  cases ht : e.tick with
  | true =>
    rw [ht, if_pos rfl] at h
    simp only [Bool.and_eq_true, decide_eq_true_eq] at h
    obtain ⟨⟨⟨h1, h2⟩, h3⟩, h4⟩ := h
    rw [if_pos rfl, List.append_assoc]
    unfold dec
    rw [hp 1 0 1 _ (by unfold I64; omega) (by omega) (by omega)]
    dsimp only
    rw [hp e.now 0 1099511627776 _ (by unfold I64; omega) h1 h2, if_pos rfl]
    have e1 : e.d = [] := List.length_eq_zero_iff.1 (by omega)
    have e2 : e.k = [] := List.length_eq_zero_iff.1 (by omega)
    refine Prod.ext (En.ext' ht.symm rfl h3.symm e1.symm e2.symm) rfl
  | false =>
    rw [ht, if_neg (by simp)] at h
    simp only [Bool.and_eq_true, decide_eq_true_eq] at h
    obtain ⟨h0, h1⟩ := h
    obtain ⟨h1, h2, h3, h4, h5, h6⟩ := evOk_iff.1 h1
    rw [if_neg (by simp), List.append_assoc, List.append_assoc, List.append_assoc]
    unfold dec
    rw [hp 0 0 1 _ (by unfold I64; omega) (by omega) (by omega)]
    dsimp only
    rw [hp e.t 0 1099511627776 _ (by unfold I64; omega) h5 h6, if_neg (by omega)]
    dsimp only
    rw [← h1, ← h2, pTs_enc e.d _ fun s hs => (h3 s hs).2]
    dsimp only
    rw [pIs_enc e.k _ h4]
    refine Prod.ext (En.ext' ht.symm h0.symm rfl rfl rfl) rfl
def decR (nd nm : Nat) (l : List UInt8) : Option En := if (dec nd nm l).2.2 = true ∧ (dec nd nm l).2.1 = [] ∧ rgE nd nm (dec nd nm l).1 = true then some (dec nd nm l).1 else none
theorem decR_enc {nd nm : Nat} {e : En} (h : rgE nd nm e = true) : decR nd nm (encE e) = some e := by
  have := dec_enc h []
  rw [List.append_nil] at this
  unfold decR
  rw [this, if_pos ⟨rfl, rfl, h⟩]
theorem decR_some {nd nm : Nat} {l : List UInt8} {e : En} (h : decR nd nm l = some e) : rgE nd nm e = true ∧ encE e = l := by
  unfold decR at h
  split at h
  · rename_i hc
    obtain ⟨h1, h2, h3⟩ := hc
    simp only [Option.some.injEq] at h
    have := dec_ok h1
    rw [h2, List.append_nil, h] at this
    exact ⟨by rw [← h]; exact h3, this.symm⟩
  · cases h
theorem enc_inj {nd nm : Nat} {a b : En} (ha : rgE nd nm a = true) (hb : rgE nd nm b = true) (h : encE a = encE b) : a = b := by
  have h1 := decR_enc ha
  rw [h, decR_enc hb] at h1
  exact (Option.some.inj h1).symm
theorem decR_cut {nd nm : Nat} {e : En} (h : rgE nd nm e = true) {c : Nat} (hc : c < (encE e).length) : decR nd nm ((encE e).take c) = none := by
  cases hd : decR nd nm ((encE e).take c) with
  | none => rfl
  | some f =>
    exfalso
    obtain ⟨h1, h2⟩ := decR_some hd
    have h3 := dec_enc h1 ((encE e).drop c)
    have h4 := dec_enc h []
    rw [h2, List.take_append_drop] at h3
    rw [List.append_nil] at h4
    rw [h4] at h3
    have h5 := congrArg (fun p : En × St => p.2.1.length) h3
    simp only [List.length_nil, List.length_drop] at h5
    omega
theorem len_flat {α : Type} (f : α → List UInt8) (m : Nat) : ∀ l : List α, (∀ x ∈ l, (f x).length ≤ m) → (l.flatMap f).length ≤ m * l.length
  | [], _ => by simp
  | x :: l, h => by
    have h1 := len_flat f m l fun y hy => h y (List.mem_cons_of_mem _ hy)
    have h2 := h x (by simp)
    rw [List.flatMap_cons, List.length_append, List.length_cons, Nat.mul_add]
    omega
theorem enc_len {nd nm : Nat} {e : En} (h : rgE nd nm e = true) : 0 < (encE e).length ∧ (encE e).length ≤ 20 + 34 * nd + 10 * nm := by
  unfold rgE at h
  unfold encE
  cases ht : e.tick with
  | true =>
    rw [ht, if_pos rfl] at h
    simp only [Bool.and_eq_true, decide_eq_true_eq] at h
    have a1 := zi_len (n := 1) (by unfold I64; omega)
    have a2 := zi_len (n := e.now) (by unfold I64; omega)
    rw [if_pos rfl, List.length_append]
    omega
  | false =>
    rw [ht, if_neg (by simp)] at h
    simp only [Bool.and_eq_true, decide_eq_true_eq] at h
    obtain ⟨h0, h1⟩ := h
    obtain ⟨h1, h2, h3, h4, h5, h6⟩ := evOk_iff.1 h1
    have a1 := zi_len (n := 0) (by unfold I64; omega)
    have a2 := zi_len (n := e.t) (by unfold I64; omega)
    have a3 := len_flat txE 34 e.d fun x hx => by
      have g := (h3 x hx).2
      have := zi_len (n := (x.size : Int)) (by unfold I64; omega)
      have hls : x.data.toList.length = x.size := rfl
      unfold txE
      rw [List.length_append]
      omega
    have a4 := len_flat zi 10 e.k fun x hx => (zi_len (n := x) (by have := h4 x hx; unfold I64; omega)).1
    rw [if_neg (by simp), List.length_append, List.length_append, List.length_append]
    rw [h1] at a3
    rw [h2] at a4
    omega
/-! ### files -/
def rdE (nd nm : Nat) (b : List UInt8) : List En × Nat :=
  match _h : fst b with
  | none => ([], 0)
  | some p => match decR nd nm p.1 with
    | none => ([], 0)
    | some e => (e :: (rdE nd nm (b.drop p.2)).1, p.2 + (rdE nd nm (b.drop p.2)).2)
termination_by b.length
decreasing_by all_goals (have := fst_some _h; simp only [List.length_drop]; omega)
theorem rdE_none {nd nm : Nat} {b : List UInt8} (h : fst b = none) : rdE nd nm b = ([], 0) := by
  rw [rdE]; split
  · rfl
  · rename_i p hp; rw [h] at hp; cases hp
theorem rdE_bad {nd nm : Nat} {b : List UInt8} {p : List UInt8 × Nat} (h : fst b = some p) (hd : decR nd nm p.1 = none) : rdE nd nm b = ([], 0) := by
  rw [rdE]; split <;> simp_all
theorem rdE_some {nd nm : Nat} {b : List UInt8} {p : List UInt8 × Nat} {e : En} (h : fst b = some p) (hd : decR nd nm p.1 = some e) : rdE nd nm b = (e :: (rdE nd nm (b.drop p.2)).1, p.2 + (rdE nd nm (b.drop p.2)).2) := by
  rw [rdE]; split <;> simp_all
def fileE (es : List En) : List UInt8 := es.flatMap fun e => blkB (encE e)
theorem fileE_app (a b : List En) : fileE (a ++ b) = fileE a ++ fileE b := List.flatMap_append ..
theorem fileE_snoc (es : List En) (e : En) : fileE (es ++ [e]) = fileE es ++ blkB (encE e) := by rw [fileE_app]; simp [fileE]
theorem rdE_file {nd nm : Nat} (hn : 20 + 34 * nd + 10 * nm ≤ 16777216) : ∀ (es : List En) (r : List UInt8), (∀ e ∈ es, rgE nd nm e = true) → rdE nd nm (fileE es ++ r) = (es ++ (rdE nd nm r).1, (fileE es).length + (rdE nd nm r).2)
  | [], r, _ => by simp [fileE]
  | e :: es, r, h => by
    have he := h e (by simp)
    have hl := (enc_len he).2
    have h1 := rdE_file hn es r fun x hx => h x (List.mem_cons_of_mem _ hx)
    have e1 : fileE (e :: es) = blkB (encE e) ++ fileE es := rfl
    have hf := fst_blk (b := encE e) (by omega) (fileE es ++ r)
    rw [e1, List.append_assoc, rdE_some hf (decR_enc he)]
    dsimp only
    rw [List.drop_left, h1, List.length_append]
    refine Prod.ext rfl ?_
    dsimp only
    omega
theorem fst_blkB {b : List UInt8} {p : List UInt8 × Nat} (h : fst b = some p) : (blkB p.1).length = p.2 ∧ p.1.length ≤ 16777216 := by
  unfold fst at h
  split at h
  · cases h
  rename_i u k hn
  have h3 := num_some hn
  split at h
  · cases h
  split at h
  · cases h
  split at h
  · simp only [Option.some.injEq] at h
    subst h
    dsimp only
    have hl : ((b.drop k).take (unfoldI u).toNat).length = (unfoldI u).toNat := by rw [List.length_take, List.length_drop]; omega
    have hU : U64 (u : Int) := by unfold U64; omega
    have e0 : (((unfoldI u).toNat : Nat) : Int) = unfoldI u := by omega
    have hc := num_canon hn
    have e : zi (unfoldI u) = zu u := by
      unfold zi
      rw [fold_unfold hU.1]; rfl
    rw [blkB_len, hl, e0, e, hc, List.length_take]
    omega
  · cases h
end Go.Proofs.Ytcajkjbempagaaa
end
