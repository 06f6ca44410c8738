/- Filters: the dimensions' names and the values in them: the document's. -/
import Derived.Test.YtnofalhkapmcnaaGreatPartE
set_option linter.all false
section
set_option linter.unusedSimpArgs false
namespace Go.Proofs.YtnofalhkapmcnaaGreat
open Go.Vc Go.Key
set_option maxRecDepth 100000
theorem OwnS.st {w : World} {B : Nat} {v : Value} {l : List ByteArray} (h : OwnS w B v l) : StS w v l := by
  have := SlN.of_own h
  unfold StS Sl
  rw [List.length_map]
  exact this
def dimsTo (f : FT) (i : Nat) : List ByteArray := (if f.op = 1 ∨ f.op = 2 then [f.dim] else []) ++ (f.kids.take i).flatMap FT.dims
theorem dimsTo_len (f : FT) (i : Nat) : (dimsTo f i).length ≤ f.cnt := by
  have h1 : f.dims = dimsTo f i ++ (f.kids.drop i).flatMap FT.dims := by
    rw [FT.dims_is, dimsTo, List.append_assoc, ← List.flatMap_append, List.take_append_drop]
  have h2 := FT.dims_cnt f
  rw [h1, List.length_append] at h2
  omega
theorem dimsTo_succ (f : FT) {i : Nat} (hi : i < f.kids.length) : dimsTo f (i + 1) = dimsTo f i ++ (f.kids[i]).dims := by
  unfold dimsTo
  rw [List.take_succ_eq_append_getElem hi, List.flatMap_append]
  simp
theorem dims_c : ∀ (f : FT) (w : World), f.cnt ≤ 1000000 → f.Ok w → FnC Tryz.prog 53 #[.agg (ftC f).toArray] w fun v w' => OwnS w' w.heap.size v f.dims ∧ Later w w' := by
  intro f
  induction f using FT.ind with
  | h f ih =>
  intro w hcn hf
  obtain ⟨h1, h2, h3, h4, h5⟩ := FT.ok_iff.1 hf
  obtain ⟨o, c, hkv, hc1, hc2⟩ := RecS.slice h4
  refine enter53 _ ?_
  unfold B53
  have eca : (Value.agg (ftC f).toArray).cells = (ftC f).toArray := rfl
  obtain ⟨l1, s1, B1⟩ := ftBox w f
  repeat' (first | (simp (disch := omega) only [push_cast, seval, eca]) | refine iX ?_ ?_ <;> intros | refine aI (by omega) ?_ | refine dq ?_)
  generalize w.alloc (.cells (ftC f).toArray 29) = w1 at *
  generalize hkf : w.heap.size = kf at *
  obtain ⟨a0, a1, a2, a3⟩ := ftAt B1
  have hcl := FT.cntL_len f.kids
  have hci := FT.cnt_is f
  by_cases k1 : f.op = 1
  · have e1 : decide (f.op = 1) = true := decide_eq_true k1
    have hd0 : dimsTo f 0 = [f.dim] := by
      unfold dimsTo
      rw [if_pos (Or.inl k1)]; rfl
    repeat' (first | (simp (disch := omega) only [push_cast, seval, a0, a1, e1, addr_add_eq, Nat.zero_add]) | refine iX ?_ ?_ <;> intros | refine aI (by omega) ?_ | refine dq ?_)
    refine vAppend_one Tryz.underlying22 ti9 rfl (own_nil w1 w1.heap.size 9 1) rfl (by unfold maxLen; omega) (by omega) (Nat.le_refl _) ?_
    intro V0 w2 hO hlat
    have l2 : Later w1 w2 := hlat w1 (Later.refl _) (Nat.le_refl _)
    have hO : OwnS w2 w1.heap.size V0 (dimsTo f 0) := by rw [hd0]; exact hO
    repeat' (first | (simp (disch := omega) only [push_cast, seval]) | refine iX ?_ ?_ <;> intros | refine aI (by omega) ?_ | refine dq ?_)
    refine vc_loop W53_0 (fun p : Nat × Value => [(3, p.2), (4, .int .i64 (p.1 : Int))]) (fun p w' => p.1 ≤ f.kids.length ∧ Later w1 w' ∧ OwnS w' w1.heap.size p.2 (dimsTo f p.1)) (fun p => f.kids.length - p.1) (0, V0) (by decide) ?_ ?_ ?_
    · simp (disch := omega) only [push_cast, seval]
    · exact ⟨Nat.zero_le _, l2, hO⟩
    rintro ⟨i, x⟩ uu w3 ⟨hi, l3, ho⟩
    dsimp only at hi ho ⊢
    obtain ⟨b0, b1, b2, b3⟩ := ftAt (ftLater B1 l3)
    rw [hkv] at b3
    by_cases hik : i < f.kids.length
    · have hd2 : decide ((i : Int) < (f.kids.length : Int)) = true := decide_eq_true (by omega)
      rw [hkv] at h4
      obtain ⟨a, rfl, fa⟩ := RecS.at ftC_len (h4.later (l1.trans l3)) hik
      have hk := h5 _ (List.getElem_mem hik)
      have hkc := FT.cntL_mem (List.getElem_mem hik)
      have hn1 := dimsTo_len f (i + 1)
      rw [dimsTo_succ f hik, List.length_append] at hn1
      repeat' (first | (simp (disch := omega) only [push_cast, seval, b3, hd2, fa, addr_add_eq, Nat.zero_add]) | refine iX ?_ ?_ <;> intros | refine aI (by omega) ?_ | refine dq ?_)
      refine (ih _ (List.getElem_mem hik) w3 (by omega) (hk.later (l1.trans l3))).mono ?_
      rintro x2 w4 ⟨ho2, l4⟩
      repeat' (first | (simp (disch := omega) only [push_cast, seval]) | refine iX ?_ ?_ <;> intros | refine aI (by omega) ?_ | refine dq ?_)
      refine vAppend_ss (own_later ho l4) (OwnS.st ho2) (by omega) (l3.trans l4).size ?_
      intro v' w' ho' hg _
      have l5 : Later w1 w' := (l3.trans l4).appended (own_later ho l4) (Nat.le_refl _) hg
      rw [← dimsTo_succ f hik] at ho'
      repeat' (first | (simp (disch := omega) only [push_cast, seval]) | refine iX ?_ ?_ <;> intros | refine aI (by omega) ?_ | refine dq ?_)
      exact ⟨rfl, (i + 1, v'), by simp (disch := omega) only [push_cast, seval], ⟨by dsimp only; omega, l5, ho'⟩, by dsimp only; omega⟩
    · have hd2 : decide ((i : Int) < (f.kids.length : Int)) = false := decide_eq_false (by omega)
      have hdm : dimsTo f i = f.dims := by rw [FT.dims_is, dimsTo, List.take_of_length_le (by omega)]
      rw [hdm] at ho
      repeat' (first | (simp (disch := omega) only [push_cast, seval, b3, hd2, addr_add_eq, Nat.zero_add]) | refine iX ?_ ?_ <;> intros | refine aI (by omega) ?_ | refine dq ?_)
      first | exact ⟨(own_base ho (by omega)), (l1.trans l3)⟩ | exact (l1.trans l3)
  have e1 : decide (f.op = 1) = false := decide_eq_false k1
  by_cases k2 : f.op = 2
  · have e2 : decide (f.op = 2) = true := decide_eq_true k2
    have hd0 : dimsTo f 0 = [f.dim] := by
      unfold dimsTo
      rw [if_pos (Or.inr k2)]; rfl
    repeat' (first | (simp (disch := omega) only [push_cast, seval, a0, a1, e1, e2, addr_add_eq, Nat.zero_add]) | refine iX ?_ ?_ <;> intros | refine aI (by omega) ?_ | refine dq ?_)
    refine vAppend_one Tryz.underlying22 ti9 rfl (own_nil w1 w1.heap.size 9 1) rfl (by unfold maxLen; omega) (by omega) (Nat.le_refl _) ?_
    intro V0 w2 hO hlat
    have l2 : Later w1 w2 := hlat w1 (Later.refl _) (Nat.le_refl _)
    have hO : OwnS w2 w1.heap.size V0 (dimsTo f 0) := by rw [hd0]; exact hO
    repeat' (first | (simp (disch := omega) only [push_cast, seval]) | refine iX ?_ ?_ <;> intros | refine aI (by omega) ?_ | refine dq ?_)
    refine vc_loop W53_0 (fun p : Nat × Value => [(3, p.2), (4, .int .i64 (p.1 : Int))]) (fun p w' => p.1 ≤ f.kids.length ∧ Later w1 w' ∧ OwnS w' w1.heap.size p.2 (dimsTo f p.1)) (fun p => f.kids.length - p.1) (0, V0) (by decide) ?_ ?_ ?_
    · simp (disch := omega) only [push_cast, seval]
    · exact ⟨Nat.zero_le _, l2, hO⟩
    rintro ⟨i, x⟩ uu w3 ⟨hi, l3, ho⟩
    dsimp only at hi ho ⊢
    obtain ⟨b0, b1, b2, b3⟩ := ftAt (ftLater B1 l3)
    rw [hkv] at b3
    by_cases hik : i < f.kids.length
    · have hd2 : decide ((i : Int) < (f.kids.length : Int)) = true := decide_eq_true (by omega)
      rw [hkv] at h4
      obtain ⟨a, rfl, fa⟩ := RecS.at ftC_len (h4.later (l1.trans l3)) hik
      have hk := h5 _ (List.getElem_mem hik)
      have hkc := FT.cntL_mem (List.getElem_mem hik)
      have hn1 := dimsTo_len f (i + 1)
      rw [dimsTo_succ f hik, List.length_append] at hn1
      repeat' (first | (simp (disch := omega) only [push_cast, seval, b3, hd2, fa, addr_add_eq, Nat.zero_add]) | refine iX ?_ ?_ <;> intros | refine aI (by omega) ?_ | refine dq ?_)
      refine (ih _ (List.getElem_mem hik) w3 (by omega) (hk.later (l1.trans l3))).mono ?_
      rintro x2 w4 ⟨ho2, l4⟩
      repeat' (first | (simp (disch := omega) only [push_cast, seval]) | refine iX ?_ ?_ <;> intros | refine aI (by omega) ?_ | refine dq ?_)
      refine vAppend_ss (own_later ho l4) (OwnS.st ho2) (by omega) (l3.trans l4).size ?_
      intro v' w' ho' hg _
      have l5 : Later w1 w' := (l3.trans l4).appended (own_later ho l4) (Nat.le_refl _) hg
      rw [← dimsTo_succ f hik] at ho'
      repeat' (first | (simp (disch := omega) only [push_cast, seval]) | refine iX ?_ ?_ <;> intros | refine aI (by omega) ?_ | refine dq ?_)
      exact ⟨rfl, (i + 1, v'), by simp (disch := omega) only [push_cast, seval], ⟨by dsimp only; omega, l5, ho'⟩, by dsimp only; omega⟩
    · have hd2 : decide ((i : Int) < (f.kids.length : Int)) = false := decide_eq_false (by omega)
      have hdm : dimsTo f i = f.dims := by rw [FT.dims_is, dimsTo, List.take_of_length_le (by omega)]
      rw [hdm] at ho
      repeat' (first | (simp (disch := omega) only [push_cast, seval, b3, hd2, addr_add_eq, Nat.zero_add]) | refine iX ?_ ?_ <;> intros | refine aI (by omega) ?_ | refine dq ?_)
      first | exact ⟨(own_base ho (by omega)), (l1.trans l3)⟩ | exact (l1.trans l3)
  have e2 : decide (f.op = 2) = false := decide_eq_false k2
  have hd0 : dimsTo f 0 = [] := by
    unfold dimsTo
    rw [if_neg (by omega)]; rfl
  repeat' (first | (simp (disch := omega) only [push_cast, seval, a0, a1, e1, e2, addr_add_eq, Nat.zero_add]) | refine iX ?_ ?_ <;> intros | refine aI (by omega) ?_ | refine dq ?_)
  refine vc_loop W53_0 (fun p : Nat × Value => [(3, p.2), (4, .int .i64 (p.1 : Int))]) (fun p w' => p.1 ≤ f.kids.length ∧ Later w1 w' ∧ OwnS w' w1.heap.size p.2 (dimsTo f p.1)) (fun p => f.kids.length - p.1) (0, Value.slice none 0 0) (by decide) ?_ ?_ ?_
  · simp (disch := omega) only [push_cast, seval]
  · exact ⟨Nat.zero_le _, (Later.refl _), (by rw [hd0]; exact own_nil w1 w1.heap.size 9 1)⟩
  rintro ⟨i, x⟩ uu w3 ⟨hi, l3, ho⟩
  dsimp only at hi ho ⊢
  obtain ⟨b0, b1, b2, b3⟩ := ftAt (ftLater B1 l3)
  rw [hkv] at b3
  by_cases hik : i < f.kids.length
  · have hd2 : decide ((i : Int) < (f.kids.length : Int)) = true := decide_eq_true (by omega)
    rw [hkv] at h4
    obtain ⟨a, rfl, fa⟩ := RecS.at ftC_len (h4.later (l1.trans l3)) hik
    have hk := h5 _ (List.getElem_mem hik)
    have hkc := FT.cntL_mem (List.getElem_mem hik)
    have hn1 := dimsTo_len f (i + 1)
    rw [dimsTo_succ f hik, List.length_append] at hn1
    repeat' (first | (simp (disch := omega) only [push_cast, seval, b3, hd2, fa, addr_add_eq, Nat.zero_add]) | refine iX ?_ ?_ <;> intros | refine aI (by omega) ?_ | refine dq ?_)
    refine (ih _ (List.getElem_mem hik) w3 (by omega) (hk.later (l1.trans l3))).mono ?_
    rintro x2 w4 ⟨ho2, l4⟩
    repeat' (first | (simp (disch := omega) only [push_cast, seval]) | refine iX ?_ ?_ <;> intros | refine aI (by omega) ?_ | refine dq ?_)
    refine vAppend_ss (own_later ho l4) (OwnS.st ho2) (by omega) (l3.trans l4).size ?_
    intro v' w' ho' hg _
    have l5 : Later w1 w' := (l3.trans l4).appended (own_later ho l4) (Nat.le_refl _) hg
    rw [← dimsTo_succ f hik] at ho'
    repeat' (first | (simp (disch := omega) only [push_cast, seval]) | refine iX ?_ ?_ <;> intros | refine aI (by omega) ?_ | refine dq ?_)
    exact ⟨rfl, (i + 1, v'), by simp (disch := omega) only [push_cast, seval], ⟨by dsimp only; omega, l5, ho'⟩, by dsimp only; omega⟩
  · have hd2 : decide ((i : Int) < (f.kids.length : Int)) = false := decide_eq_false (by omega)
    have hdm : dimsTo f i = f.dims := by rw [FT.dims_is, dimsTo, List.take_of_length_le (by omega)]
    rw [hdm] at ho
    repeat' (first | (simp (disch := omega) only [push_cast, seval, b3, hd2, addr_add_eq, Nat.zero_add]) | refine iX ?_ ?_ <;> intros | refine aI (by omega) ?_ | refine dq ?_)
    first | exact ⟨(own_base ho (by omega)), (l1.trans l3)⟩ | exact (l1.trans l3)
end Go.Proofs.YtnofalhkapmcnaaGreat
end
section
namespace Go.Vc
open Go Go.Key
abbrev I64 (n : Int) : Prop := -9223372036854775808 ≤ n ∧ n ≤ 9223372036854775807
abbrev Bz : Nat := 140737488351232
structure TD where
  f : Int
  m : ByteArray
def tdC (t : TD) : List Value := [.int .i64 t.f, .string t.m]
structure TD.Ok (t : TD) : Prop where
  f : I64 t.f
  m : t.m.size ≤ Bz
structure HD where
  t : TD
  sign : Int
  value : Int
def hdC (h : HD) : List Value := [.int .i64 h.t.f, .string h.t.m, .int .i64 h.sign, .int .i64 h.value]
structure HD.Ok (h : HD) : Prop where
  t : h.t.Ok
  sign : I64 h.sign
  value : I64 h.value
structure QD where
  tv : Value
  tl : List TD
  fr : Int
  to : Int
  ev : Int
  bv : Value
  bl : List ByteArray
  wh : FT
  hv : Value
  hl : List HD
  od : Int
  lm : Int
def qdC (q : QD) : List Value := [q.tv, .int .i64 q.fr, .int .i64 q.to, .int .i64 q.ev, q.bv, .int .i64 q.wh.op, .string q.wh.dim, .string q.wh.value, q.wh.kv, q.hv, .int .i64 q.od, .int .i64 q.lm]
structure QD.Ok (w : World) (q : QD) : Prop where
  tv : RecS tdC 2 w q.tv q.tl
  tl : ∀ t ∈ q.tl, t.Ok
  fr : I64 q.fr
  to : I64 q.to
  ev : I64 q.ev
  bv : Sl w q.bv (q.bl.map Value.string)
  bl : ∀ s ∈ q.bl, s.size ≤ Bz
  wh : q.wh.Ok w
  hv : RecS hdC 4 w q.hv q.hl
  hl : ∀ h ∈ q.hl, h.Ok
  od : I64 q.od
  lm : I64 q.lm
theorem QD.Ok.later {w w' : World} {q : QD} (h : q.Ok w) (hl : Later w w') : q.Ok w' := ⟨h.tv.later hl, h.tl, h.fr, h.to, h.ev, Sl.later h.bv hl, h.bl, h.wh.later hl, h.hv.later hl, h.hl, h.od, h.lm⟩
end Go.Vc
namespace Go.Proofs.YtnofalhkapmcnaaGreat
open Go.Vc Go.RowKit Go.ChangeShapes Go.Key
set_option maxRecDepth 100000
section
variable {H : Type} {enc : TypeId × Value → H} {w : World} {sp : Nat → Bool} {hd : Bool} {M : Nat}
theorem z_int : OZ M enc Tryz.prog w sp hd 3 (fun cs => ∃ n : Int, cs = [.int .i64 n] ∧ I64 n) := oz_i64 Tryz.underlying3
theorem z_str : OZ M enc Tryz.prog w sp hd 9 (fun cs => ∃ s : ByteArray, cs = [.string s] ∧ s.size ≤ Bz) := oz_string Tryz.underlying9
theorem z_strs : OZ M enc Tryz.prog w sp hd 22 (fun cs => ∃ (v : Value) (l : List ByteArray), cs = [v] ∧ StS w v l ∧ ∀ s ∈ l, s.size ≤ Bz) :=
  (oz_slice (en := fun s => [Value.string s]) (Q := fun s => s.size ≤ Bz) Tryz.underlying22 (by kernel_rfl) z_str).mono fun cs ⟨v, l, h1, h2, h3, _⟩ => ⟨v, l, h1, sl_of_rec h2, h3⟩
theorem z_term : OZ M enc Tryz.prog w sp hd 58 (fun cs => ∃ x : TD, cs = tdC x ∧ x.Ok) :=
  (oz_struct (S := 2) Tryz.underlying58 (by kernel_rfl)).mono fun cs ⟨hl, hf⟩ => by
    match cs, hl with
    | [c0, c1], _ =>
      obtain ⟨k, hk, wk⟩ := hf 0 _ 1 _ rfl (by kernel_rfl) (fun _ => oz_i64 Tryz.underlying56)
      obtain ⟨m, hm, wm⟩ := hf 1 _ 1 _ rfl (by kernel_rfl) (fun _ => z_str)
      obtain rfl : c0 = _ := (List.cons.inj hk).1
      obtain rfl : c1 = _ := (List.cons.inj hm).1
      exact ⟨⟨k, m⟩, rfl, wk, wm⟩
theorem z_having : OZ M enc Tryz.prog w sp hd 103 (fun cs => ∃ x : HD, cs = hdC x ∧ x.Ok) :=
  (oz_struct (S := 4) Tryz.underlying103 (by kernel_rfl)).mono fun cs ⟨hl, hf⟩ => by
    match cs, hl with
    | [c0, c1, c2, c3], _ =>
      obtain ⟨t, ht, wt⟩ := hf 0 _ 2 _ rfl (by kernel_rfl) (fun _ => z_term)
      obtain ⟨s, hs, ws⟩ := hf 1 _ 1 _ rfl (by kernel_rfl) (fun _ => z_int)
      obtain ⟨v, hv, wv⟩ := hf 2 _ 1 _ rfl (by kernel_rfl) (fun _ => z_int)
      have h2 : [c0, c1] = tdC t := ht
      obtain rfl : c0 = _ := (List.cons.inj h2).1
      obtain rfl : c1 = _ := (List.cons.inj (List.cons.inj h2).2).1
      obtain rfl : c2 = _ := (List.cons.inj hs).1
      obtain rfl : c3 = _ := (List.cons.inj hv).1
      exact ⟨⟨t, s, v⟩, rfl, wt, ws, wv⟩
theorem z_query : OZ M enc Tryz.prog w sp hd 32 (fun cs => ∃ q : QD, cs = qdC q ∧ q.Ok w) :=
  (oz_struct (S := 12) Tryz.underlying32 (by kernel_rfl)).mono fun cs ⟨hl, hf⟩ => by
    match cs, hl with
    | [c0, c1, c2, c3, c4, c5, c6, c7, c8, c9, c10, c11], _ =>
      obtain ⟨tv, tl, h0, w0, v0, _⟩ := hf 0 _ 1 _ rfl (by kernel_rfl) (fun _ => oz_slice (en := tdC) (Q := fun x => x.Ok) (s := 2) Tryz.underlying25 (by kernel_rfl) z_term)
      obtain ⟨fr, h1, w1⟩ := hf 1 _ 1 _ rfl (by kernel_rfl) (fun _ => z_int)
      obtain ⟨to, h2, w2⟩ := hf 2 _ 1 _ rfl (by kernel_rfl) (fun _ => z_int)
      obtain ⟨ev, h3, w3⟩ := hf 3 _ 1 _ rfl (by kernel_rfl) (fun _ => z_int)
      obtain ⟨bv, bl, h4, w4, v4⟩ := hf 4 _ 1 _ rfl (by kernel_rfl) (fun _ => z_strs)
      obtain ⟨f, h5, w5⟩ := hf 5 _ 4 _ rfl (by kernel_rfl) (fun m => filter_at m)
      obtain ⟨hv, hl', h6, w6, v6, _⟩ := hf 6 _ 1 _ rfl (by kernel_rfl) (fun _ => oz_slice (en := hdC) (Q := fun x => x.Ok) (s := 4) Tryz.underlying30 (by kernel_rfl) z_having)
      obtain ⟨od, h7, w7⟩ := hf 7 _ 1 _ rfl (by kernel_rfl) (fun _ => z_int)
      obtain ⟨lm, h8, w8⟩ := hf 8 _ 1 _ rfl (by kernel_rfl) (fun _ => z_int)
      have h5 : [c5, c6, c7, c8] = ftC f := h5
      obtain rfl : c0 = _ := (List.cons.inj h0).1
      obtain rfl : c1 = _ := (List.cons.inj h1).1
      obtain rfl : c2 = _ := (List.cons.inj h2).1
      obtain rfl : c3 = _ := (List.cons.inj h3).1
      obtain rfl : c4 = _ := (List.cons.inj h4).1
      obtain rfl : c5 = _ := (List.cons.inj h5).1
      obtain rfl : c6 = _ := (List.cons.inj (List.cons.inj h5).2).1
      obtain rfl : c7 = _ := (List.cons.inj (List.cons.inj (List.cons.inj h5).2).2).1
      obtain rfl : c8 = _ := (List.cons.inj (List.cons.inj (List.cons.inj (List.cons.inj h5).2).2).2).1
      obtain rfl : c9 = _ := (List.cons.inj h6).1
      obtain rfl : c10 = _ := (List.cons.inj h7).1
      obtain rfl : c11 = _ := (List.cons.inj h8).1
      exact ⟨⟨c0, tl, fr, to, ev, c4, bl, f, c9, hl', od, lm⟩, rfl, w0, v0, w1, w2, w3, w4, v4, w5, w6, v6, w7, w8⟩
theorem z_schema : OZ M enc Tryz.prog w sp hd 24 (fun cs => ∃ (dv mv : Value) (d m : List ByteArray), cs = [dv, mv] ∧ StS w dv d ∧ (∀ s ∈ d, s.size ≤ Bz) ∧ StS w mv m ∧ ∀ s ∈ m, s.size ≤ Bz) :=
  (oz_struct (S := 2) Tryz.underlying24 (by kernel_rfl)).mono fun cs ⟨hl, hf⟩ => by
    match cs, hl with
    | [c0, c1], _ =>
      obtain ⟨v, l, h0, w0, v0⟩ := hf 0 _ 1 _ rfl (by kernel_rfl) (fun _ => z_strs)
      obtain ⟨v', l', h1, w1, v1⟩ := hf 1 _ 1 _ rfl (by kernel_rfl) (fun _ => z_strs)
      obtain rfl : c0 = _ := (List.cons.inj h0).1
      obtain rfl : c1 = _ := (List.cons.inj h1).1
      exact ⟨c0, c1, l, l', rfl, w0, v0, w1, v1⟩
end
end Go.Proofs.YtnofalhkapmcnaaGreat
end
section
set_option linter.unusedSimpArgs false
namespace Go.Proofs.YtnofalhkapmcnaaGreat
open Go.Vc Go.Key
set_option maxRecDepth 100000
def vlsTo (f : FT) (i : Nat) : Bool := decide (VlOk f.value) && (f.kids.take i).all (fun k => k.vals.all (fun s => decide (VlOk s)))
theorem vlsTo_succ (f : FT) {i : Nat} (hi : i < f.kids.length) : vlsTo f (i + 1) = (vlsTo f i && (f.kids[i]).vals.all (fun s => decide (VlOk s))) := by
  unfold vlsTo
  rw [List.take_succ_eq_append_getElem hi, List.all_append]
  simp [Bool.and_assoc]
theorem vls_is (f : FT) : f.vals.all (fun s => decide (VlOk s)) = vlsTo f f.kids.length := by
  unfold vlsTo
  rw [FT.vals_is, List.take_length, List.all_cons, List.all_flatMap]
set_option maxHeartbeats 1000000 in
theorem values_c : ∀ (f : FT) (w : World), f.Ok w → FnC Tryz.prog 97 #[.agg (ftC f).toArray] w fun v w' => v = .bool (f.vals.all (fun s => decide (VlOk s))) ∧ Later w w' := by
  intro f
  induction f using FT.ind with
  | h f ih =>
  intro w hf
  obtain ⟨h1, h2, h3, h4, h5⟩ := FT.ok_iff.1 hf
  obtain ⟨o, c, hkv, hc1, hc2⟩ := RecS.slice h4
  refine enter97 _ ?_
  unfold B97
  have eca : (Value.agg (ftC f).toArray).cells = (ftC f).toArray := rfl
  obtain ⟨l1, s1, B1⟩ := ftBox w f
  repeat' (first | (simp (disch := omega) only [push_cast, seval, eca]) | refine iX ?_ ?_ <;> intros | refine aI (by omega) ?_ | refine dq ?_)
  generalize w.alloc (.cells (ftC f).toArray 29) = w1 at *
  generalize hkf : w.heap.size = kf at *
  obtain ⟨a0, a1, a2, a3⟩ := ftAt B1
  repeat' (first | (simp (disch := omega) only [push_cast, seval, a2, addr_add_eq, Nat.zero_add]) | refine iX ?_ ?_ <;> intros | refine aI (by omega) ?_ | refine dq ?_)
  refine (dvalue_c f.value w1 (by omega)).mono ?_
  rintro _ w0 ⟨rfl, h0⟩; obtain rfl := h0.symm
  have hv0 : decide (VlOk f.value) = vlsTo f 0 := by simp [vlsTo]
  rw [hv0]
  repeat' (first | (simp (disch := omega) only [push_cast, seval]) | refine iX ?_ ?_ <;> intros | refine aI (by omega) ?_ | refine dq ?_)
  refine vc_loop W97_0 (fun i : Nat => [(3, .bool (vlsTo f i)), (4, .int .i64 (i : Int))]) (fun i w' => i ≤ f.kids.length ∧ Later w1 w') (fun i => f.kids.length - i) 0 (by decide) ?_ ?_ ?_
  · simp (disch := omega) only [push_cast, seval]
    try rfl
  · exact ⟨Nat.zero_le _, Later.refl _⟩
  rintro i uu w3 ⟨hi, l3⟩
  obtain ⟨b0, b1, b2, b3⟩ := ftAt (ftLater B1 l3)
  rw [hkv] at b3
  by_cases hik : i < f.kids.length
  · have hd2 : decide ((i : Int) < (f.kids.length : Int)) = true := decide_eq_true (by omega)
    rw [hkv] at h4
    obtain ⟨a, rfl, fa⟩ := RecS.at ftC_len (h4.later (l1.trans l3)) hik
    have hk := h5 _ (List.getElem_mem hik)
    have hsc := vlsTo_succ f hik
    repeat' (first | (simp (disch := omega) only [push_cast, seval, b3, hd2, fa, addr_add_eq, Nat.zero_add]) | refine iX ?_ ?_ <;> intros | refine aI (by omega) ?_ | refine dq ?_)
    refine (ih _ (List.getElem_mem hik) w3 (hk.later (l1.trans l3))).mono ?_
    rintro _ w4 ⟨rfl, l4⟩
    cases hvi : vlsTo f i with
    | false =>
      rw [hvi, Bool.false_and] at hsc
      repeat' (first | (simp (disch := omega) only [push_cast, seval]) | refine iX ?_ ?_ <;> intros | refine aI (by omega) ?_ | refine dq ?_)
      exact ⟨rfl, i + 1, by simp (disch := omega) only [push_cast, seval, hsc], ⟨by omega, l3.trans l4⟩, by dsimp only; omega⟩
    | true =>
      rw [hvi, Bool.true_and] at hsc
      repeat' (first | (simp (disch := omega) only [push_cast, seval]) | refine iX ?_ ?_ <;> intros | refine aI (by omega) ?_ | refine dq ?_)
      exact ⟨rfl, i + 1, by simp (disch := omega) only [push_cast, seval, hsc], ⟨by omega, l3.trans l4⟩, by dsimp only; omega⟩
  · have hd2 : decide ((i : Int) < (f.kids.length : Int)) = false := decide_eq_false (by omega)
    have hdm : i = f.kids.length := by omega
    subst hdm
    rw [vls_is]
    repeat' (first | (simp (disch := omega) only [push_cast, seval, b3, hd2, addr_add_eq, Nat.zero_add]) | refine iX ?_ ?_ <;> intros | refine aI (by omega) ?_ | refine dq ?_)
    first | exact ⟨rfl, (l1.trans l3)⟩ | exact (l1.trans l3)
def inL (x : ByteArray) (l : List ByteArray) : Bool := l.any fun y => decide (y = x)
theorem inL_iff {x : ByteArray} {l : List ByteArray} : inL x l = true ↔ x ∈ l := by
  unfold inL
  rw [List.any_eq_true]
  constructor
  · rintro ⟨y, hy, h⟩
    rw [decide_eq_true_eq] at h
    exact h ▸ hy
  · intro h; exact ⟨x, h, decide_eq_true rfl⟩
def fndV (x : ByteArray) (l : List ByteArray) : Value := .tuple #[.int .i64 (if inL x l then ((l.findIdx (fun y => decide (y = x)) : Nat) : Int) else 0), .bool (inL x l)]
theorem fndV_at {x : ByteArray} {l : List ByteArray} {i : Nat} (hi : i < l.length) (hx : l[i] = x) (hno : inL x (l.take i) = false) : fndV x l = .tuple #[.int .i64 (i : Int), .bool true] := by
  have hin : inL x l = true := inL_iff.2 (hx ▸ List.getElem_mem hi)
  have hf : l.findIdx (fun y => decide (y = x)) = i := by
    rw [List.findIdx_eq hi]
    refine ⟨decide_eq_true hx, fun j hj => decide_eq_false fun hjx => ?_⟩
    have : inL x (l.take i) = true := inL_iff.2 (by
      rw [← hjx]
      exact List.mem_take_iff_getElem.2 ⟨j, by omega, rfl⟩)
    rw [hno] at this; cases this
  unfold fndV
  rw [hin, hf]; rfl
theorem dfind_c (v : Value) (l : List ByteArray) (x : ByteArray) (w : World) (h : StS w v l) : FnC Tryz.prog 30 #[v, .string x] w fun r w' => r = fndV x l ∧ w' = w := by
  obtain ⟨o, c, rfl, g1, g2, hm, g3⟩ := h.openM
  refine enter30 _ _ ?_
  unfold B30
  repeat' (first | (simp (disch := omega) only [push_cast, seval]) | refine iX ?_ ?_ <;> intros | refine aI (by omega) ?_ | refine dq ?_)
  refine vc_loop W30_0 (fun i : Nat => [(4, .int .i64 0), (5, .bool false), (6, .int .i64 (i : Int))]) (fun i w' => i ≤ l.length ∧ w' = w ∧ inL x (l.take i) = false) (fun i => l.length - i) 0 (by decide) ?_ ?_ ?_
  · simp (disch := omega) only [push_cast, seval]
    try rfl
  · exact ⟨Nat.zero_le _, rfl, by simp [inL]⟩
  rintro i uu _ ⟨hi, rfl, hno⟩
  by_cases hil : i < l.length
  · have hd : decide ((i : Int) < (l.length : Int)) = true := decide_eq_true (by omega)
    cases o with
    | none => have := (g3 rfl).1; rw [this] at hil; simp at hil
    | some la =>
    have hc := StS.atS hm hil
    by_cases hx : l[i] = x
    · have hd2 : decide (l[i] = x) = true := decide_eq_true hx
      rw [fndV_at hil hx hno]
      repeat' (first | (simp (disch := omega) only [push_cast, seval, hd, hc, hd2]) | refine iX ?_ ?_ <;> intros | refine aI (by omega) ?_ | refine dq ?_)
      first | done | exact ⟨rfl, rfl⟩ | rfl | omega
    · have hd2 : decide (l[i] = x) = false := decide_eq_false hx
      repeat' (first | (simp (disch := omega) only [push_cast, seval, hd, hc, hd2]) | refine iX ?_ ?_ <;> intros | refine aI (by omega) ?_ | refine dq ?_)
      refine ⟨rfl, i + 1, by simp (disch := omega) only [push_cast, seval], ⟨by omega, rfl, ?_⟩, by dsimp only; omega⟩
      unfold inL at hno ⊢
      rw [List.take_succ_eq_append_getElem hil, List.any_append, hno]
      simp [hx]
  · have hd : decide ((i : Int) < (l.length : Int)) = false := decide_eq_false (by omega)
    rw [List.take_of_length_le (by omega)] at hno
    unfold fndV
    rw [hno]
    repeat' (first | (simp (disch := omega) only [push_cast, seval, hd]) | refine iX ?_ ?_ <;> intros | refine aI (by omega) ?_ | refine dq ?_)
    first | done | exact ⟨rfl, rfl⟩ | rfl | omega
def tmOk (t : TD) : Bool := decide (0 ≤ t.f) && decide (t.f ≤ 3) && (decide (t.f = 0) == decide (t.m = ⟨#[]⟩))
theorem term_c (t : TD) (w : World) : FnC Tryz.prog 94 #[.agg (tdC t).toArray] w fun v w' => v = .bool (tmOk t) ∧ Later w w' := by
  refine enter94 _ ?_
  unfold B94
  have eca : (Value.agg (tdC t).toArray).cells = (tdC t).toArray := rfl
  have l1 := later_alloc w (.cells (tdC t).toArray 58)
  have B1 := Blk.new w (tdC t).toArray 58
  repeat' (first | (simp (disch := omega) only [push_cast, seval, eca]) | refine iX ?_ ?_ <;> intros | refine aI (by omega) ?_ | refine dq ?_)
  generalize w.alloc (.cells (tdC t).toArray 58) = w1 at *
  generalize w.heap.size = kf at *
  have a0 : w1.cell? ⟨kf, 0, none⟩ = some (.int .i64 t.f) := B1.cell 0
  have a1 : w1.cell? ⟨kf, 1, none⟩ = some (.string t.m) := B1.cell 1
  unfold tmOk
  repeat' (first | (simp (disch := omega) only [push_cast, seval, a0, a1, addr_add_eq, Nat.zero_add]) | refine iX ?_ ?_ <;> intros | refine aI (by omega) ?_ | refine dq ?_)
  all_goals (refine ⟨congrArg Value.bool ?_, l1⟩)
  all_goals (clear a0 a1 B1 l1 eca)
  all_goals simp_all
  all_goals (intros; omega)
theorem metric_c (dv mv : Value) (d m : List ByteArray) (t : TD) (w : World) (h : ScIs w dv mv d m) : FnC Tryz.prog 96 #[scV dv mv, .agg (tdC t).toArray] w fun v w' => v = .bool (decide (t.f = 0) || inL t.m m) ∧ Later w w' := by
  unfold scV
  refine enter96 _ _ ?_
  unfold B96
  have eca : (Value.agg (tdC t).toArray).cells = (tdC t).toArray := rfl
  have ecb : (Value.agg #[dv, mv]).cells = #[dv, mv] := rfl
  obtain ⟨l1, s1, F⟩ := box2 w dv mv 24
  have B2 := Blk.new (w.alloc (.cells #[dv, mv] 24)) (tdC t).toArray 58
  have l2 := later_alloc (w.alloc (.cells #[dv, mv] 24)) (.cells (tdC t).toArray 58)
  rw [s1] at B2
  repeat' (first | (simp (disch := omega) only [push_cast, seval, eca, ecb, s1]) | refine iX ?_ ?_ <;> intros | refine aI (by omega) ?_ | refine dq ?_)
  obtain ⟨_, f1, _⟩ := F _ l2
  have l12 := l1.trans l2
  have h2 := h.later l12
  generalize (w.alloc (.cells #[dv, mv] 24)).alloc (.cells (tdC t).toArray 58) = w2 at *
  generalize w.heap.size = kf at *
  have a0 : w2.cell? ⟨kf + 1, 0, none⟩ = some (.int .i64 t.f) := B2.cell 0
  have a1 : w2.cell? ⟨kf + 1, 1, none⟩ = some (.string t.m) := B2.cell 1
  repeat' (first | (simp (disch := omega) only [push_cast, seval, f1, a0, a1, addr_add_eq, Nat.zero_add]) | refine iX ?_ ?_ <;> intros | refine aI (by omega) ?_ | refine dq ?_)
  refine (dfind_c mv m t.m w2 h2.mS).mono ?_
  rintro _ w0 ⟨rfl, h0⟩; obtain rfl := h0.symm
  unfold fndV
  repeat' (first | (simp (disch := omega) only [push_cast, seval, f1, a0, a1, addr_add_eq, Nat.zero_add]) | refine iX ?_ ?_ <;> intros | refine aI (by omega) ?_ | refine dq ?_)
  all_goals (refine ⟨congrArg Value.bool ?_, l12⟩)
  all_goals simp_all
end Go.Proofs.YtnofalhkapmcnaaGreat
end
section
set_option linter.unusedSimpArgs false
namespace Go.Proofs.YtnofalhkapmcnaaGreat
open Go.Vc Go.Key
set_option maxRecDepth 100000
def hvOk (h : HD) : Bool := tmOk h.t && decide (-1 ≤ h.sign) && decide (h.sign ≤ 1) && decide (-4611686018427387904 ≤ h.value) && decide (h.value ≤ 4611686018427387904)
def whOk (f : FT) : Bool := if f.op = 0 then decide (f.kids.length = 0) && decide (f.dim = ⟨#[]⟩) && decide (f.value = ⟨#[]⟩) else f.form 30
def szOk (q : QD) : Bool := decide (1 ≤ q.tl.length) && decide (q.tl.length ≤ 8) && decide (q.bl.length ≤ 6) && decide (q.hl.length ≤ 8)
def shOk (q : QD) : Bool := szOk q && q.tl.all tmOk && q.hl.all hvOk && whOk q.wh
theorem qdAt {w : World} {k : Nat} {q : QD} (h : Blk w k (qdC q).toArray 32) : w.cell? ⟨k, 0, none⟩ = some q.tv ∧ w.cell? ⟨k, 1, none⟩ = some (.int .i64 q.fr) ∧ w.cell? ⟨k, 2, none⟩ = some (.int .i64 q.to) ∧ w.cell? ⟨k, 3, none⟩ = some (.int .i64 q.ev) ∧ w.cell? ⟨k, 4, none⟩ = some q.bv ∧ w.cell? ⟨k, 5, none⟩ = some (.int .i64 q.wh.op) ∧ w.cell? ⟨k, 6, none⟩ = some (.string q.wh.dim) ∧ w.cell? ⟨k, 7, none⟩ = some (.string q.wh.value) ∧ w.cell? ⟨k, 8, none⟩ = some q.wh.kv ∧ w.cell? ⟨k, 9, none⟩ = some q.hv ∧ w.cell? ⟨k, 10, none⟩ = some (.int .i64 q.od) ∧ w.cell? ⟨k, 11, none⟩ = some (.int .i64 q.lm) :=
  ⟨h.cell 0, h.cell 1, h.cell 2, h.cell 3, h.cell 4, h.cell 5, h.cell 6, h.cell 7, h.cell 8, h.cell 9, h.cell 10, h.cell 11⟩
theorem qdLater {w w' : World} {k : Nat} {q : QD} (h : Blk w k (qdC q).toArray 32) (hl : Later w w') : Blk w' k (qdC q).toArray 32 := h.chg (Chg.of_later (ks := []) hl) (by simp)
theorem vStore_hd {K : Value → World → Prop} (h : HD) (w : World) (hK : K undef (w.alloc (.cells (hdC h).toArray 103))) :
    vStoreD Tryz.prog 103 (some 4) (.pointer (some ⟨w.heap.size, 0, none⟩)) (.agg (hdC h).toArray) K (w.alloc (.cells #[.int .i64 0, .string ⟨#[]⟩, .int .i64 0, .int .i64 0] 103)) :=
  vStore_new rfl rfl (fun u hu => by
    simp only [hdC, List.mem_toArray, List.mem_cons, List.not_mem_nil, or_false] at hu
    rcases hu with rfl | rfl | rfl | rfl <;> rfl) hK
theorem tdC_len (t : TD) : (tdC t).length = 2 := rfl
theorem hdC_len (h : HD) : (hdC h).length = 4 := rfl
set_option maxHeartbeats 1000000 in
theorem shape_c (q : QD) (w : World) (hq : q.Ok w) : FnC Tryz.prog 45 #[.agg (qdC q).toArray] w fun v w' => v = .bool (shOk q) ∧ Later w w' := by
  obtain ⟨to, tc, htv, ht1, ht2⟩ := RecS.slice hq.tv
  obtain ⟨ho, hc, hhv, hh1, hh2⟩ := RecS.slice hq.hv
  obtain ⟨bo, bc, hbv⟩ := Sl.slice hq.bv
  rw [List.length_map] at hbv
  refine enter45 _ ?_
  unfold B45
  have eca : (Value.agg (qdC q).toArray).cells = (qdC q).toArray := rfl
  have l1 := later_alloc w (.cells (qdC q).toArray 32)
  have B1 := Blk.new w (qdC q).toArray 32
  repeat' (first | (simp (disch := omega) only [push_cast, seval, eca]) | refine iX ?_ ?_ <;> intros | refine aI (by omega) ?_ | refine dq ?_)
  generalize w.alloc (.cells (qdC q).toArray 32) = w1 at *
  generalize w.heap.size = kf at *
  obtain ⟨a0, _, _, _, a4, a5, a6, a7, a8, a9, _, _⟩ := qdAt B1
  rw [htv] at a0
  rw [hbv] at a4
  rw [hhv] at a9
  cases hsz : szOk q with
  | false =>
    have hsh : shOk q = false := by unfold shOk; rw [hsz]; rfl
    have hn : ¬ (1 ≤ q.tl.length ∧ q.tl.length ≤ 8 ∧ q.bl.length ≤ 6 ∧ q.hl.length ≤ 8) := by
      unfold szOk at hsz
      intro ⟨p1, p2, p3, p4⟩
      simp [p1, p2, p3, p4] at hsz
    rw [hsh]
    repeat' (first | (simp (disch := omega) only [push_cast, seval, a0, a4, a9, addr_add_eq, Nat.zero_add]) | refine iX ?_ ?_ <;> intros | refine aI (by omega) ?_ | refine dq ?_)
    all_goals first | exact l1 | exact ⟨rfl, l1⟩ | (exfalso; exact hn ⟨by omega, by omega, by omega, by omega⟩)
  | true =>
  have hn : 1 ≤ q.tl.length ∧ q.tl.length ≤ 8 ∧ q.bl.length ≤ 6 ∧ q.hl.length ≤ 8 := by
    unfold szOk at hsz
    simpa [and_assoc] using hsz
  have d1 : decide ((q.tl.length : Int) < 1) = false := decide_eq_false (by omega)
  have d2 : decide (8 < (q.tl.length : Int)) = false := decide_eq_false (by omega)
  have d3 : decide (6 < (q.bl.length : Int)) = false := decide_eq_false (by omega)
  have d4 : decide (8 < (q.hl.length : Int)) = false := decide_eq_false (by omega)
  repeat' (first | (simp (disch := omega) only [push_cast, seval, a0, a4, a9, d1, d2, d3, d4, addr_add_eq, Nat.zero_add]) | refine iX ?_ ?_ <;> intros | refine aI (by omega) ?_ | refine dq ?_)
  refine vc_loop W45_0 (fun i : Nat => [(2, .bool false), (3, .int .i64 (i : Int))]) (fun i w' => i ≤ q.tl.length ∧ Later w1 w' ∧ (q.tl.take i).all tmOk = true) (fun i => q.tl.length - i) 0 (by decide) ?_ ?_ ?_
  · simp (disch := omega) only [push_cast, seval]
  · exact ⟨Nat.zero_le _, Later.refl _, rfl⟩
  rintro i uu w2 ⟨hi, l2, hall⟩
  obtain ⟨b0, _⟩ := qdAt (qdLater B1 l2)
  rw [htv] at b0
  by_cases hik : i < q.tl.length
  · have hd2 : decide ((i : Int) < (q.tl.length : Int)) = true := decide_eq_true (by omega)
    have h4 := hq.tv
    rw [htv] at h4
    obtain ⟨a, rfl, fa⟩ := RecS.at tdC_len (h4.later (l1.trans l2)) hik
    have hst : (q.tl.take (i + 1)).all tmOk = tmOk q.tl[i] := by
      rw [List.take_succ_eq_append_getElem hik, List.all_append, hall]; simp
    repeat' (first | (simp (disch := omega) only [push_cast, seval, b0, hd2, fa, addr_add_eq, Nat.zero_add]) | refine iX ?_ ?_ <;> intros | refine aI (by omega) ?_ | refine dq ?_)
    refine (term_c _ w2).mono ?_
    rintro _ w3 ⟨rfl, l3⟩
    cases hkf : tmOk q.tl[i] with
    | true =>
      repeat' (first | (simp (disch := omega) only [push_cast, seval]) | refine iX ?_ ?_ <;> intros | refine aI (by omega) ?_ | refine dq ?_)
      exact ⟨rfl, i + 1, by simp (disch := omega) only [push_cast, seval], ⟨by omega, l2.trans l3, by rw [hst, hkf]⟩, by dsimp only; omega⟩
    | false =>
      have hf0 : q.tl.all tmOk = false := by
        rw [List.all_eq_false]
        exact ⟨_, List.getElem_mem hik, by simp [hkf]⟩
      have hsh : shOk q = false := by unfold shOk; rw [hsz, hf0]; simp
      rw [hsh]
      repeat' (first | (simp (disch := omega) only [push_cast, seval]) | refine iX ?_ ?_ <;> intros | refine aI (by omega) ?_ | refine dq ?_)
      first | exact ⟨rfl, (l1.trans (l2.trans l3))⟩ | exact (l1.trans (l2.trans l3))
  have hd2 : decide ((i : Int) < (q.tl.length : Int)) = false := decide_eq_false (by omega)
  rw [List.take_of_length_le (by omega)] at hall
  repeat' (first | (simp (disch := omega) only [push_cast, seval, b0, hd2, addr_add_eq, Nat.zero_add]) | refine iX ?_ ?_ <;> intros | refine aI (by omega) ?_ | refine dq ?_)
  have l2' := l1.trans l2
  have B2 := qdLater B1 l2
  clear b0 hd2 hi
  refine vc_loop W45_1 (fun i : Nat => [(2, .bool false), (5, .int .i64 (i : Int))]) (fun i w' => i ≤ q.hl.length ∧ Later w2 w' ∧ (q.hl.take i).all hvOk = true) (fun i => q.hl.length - i) 0 (by decide) ?_ ?_ ?_
  · simp (disch := omega) only [push_cast, seval]
  · exact ⟨Nat.zero_le _, Later.refl _, rfl⟩
  rintro i uu w3 ⟨hi, l3, hall2⟩
  obtain ⟨_, _, _, _, _, b5, b6, b7, b8, b9, _⟩ := qdAt (qdLater B2 l3)
  rw [hhv] at b9
  by_cases hik : i < q.hl.length
  · have hd2 : decide ((i : Int) < (q.hl.length : Int)) = true := decide_eq_true (by omega)
    have h4 := hq.hv
    rw [hhv] at h4
    obtain ⟨a, rfl, fa⟩ := RecS.at hdC_len (h4.later (l2'.trans l3)) hik
    have hst : (q.hl.take (i + 1)).all hvOk = hvOk q.hl[i] := by
      rw [List.take_succ_eq_append_getElem hik, List.all_append, hall2]; simp
    repeat' (first | (simp (disch := omega) only [push_cast, seval, b9, hd2, fa, addr_add_eq, Nat.zero_add]) | refine iX ?_ ?_ <;> intros | refine aI (by omega) ?_ | refine dq ?_)
    refine vStore_hd q.hl[i] w3 ?_
    have hall3 : hvOk q.hl[i] = false → q.hl.all hvOk = false := fun h => by
      rw [List.all_eq_false]
      exact ⟨_, List.getElem_mem hik, by simp [h]⟩
    have l4 := later_alloc w3 (.cells (hdC q.hl[i]).toArray 103)
    have B4 := Blk.new w3 (hdC q.hl[i]).toArray 103
    clear fa hd2 h4
    generalize q.hl[i] = x at *
    generalize w3.alloc (.cells (hdC x).toArray 103) = w4 at *
    generalize w3.heap.size = kh at *
    have fx : cellsAt w4 ⟨kh, 0, none⟩ 2 = some (tdC x.t) := by
      refine cellsAt_of 2 _ _ rfl fun i y hx => ?_
      rw [addr_add_eq]
      match i, hx with
      | 0, hx => cases hx; exact B4.cell 0
      | 1, hx => cases hx; exact B4.cell 1
      | n + 2, hx => exact absurd hx (by simp [tdC])
    repeat' (first | (simp (disch := omega) only [push_cast, seval, fx, addr_add_eq, Nat.zero_add]) | refine iX ?_ ?_ <;> intros | refine aI (by omega) ?_ | refine dq ?_)
    refine (term_c x.t w4).mono ?_
    rintro _ w5 ⟨rfl, l5⟩
    have B5 : Blk w5 kh (hdC x).toArray 103 := B4.chg (Chg.of_later (ks := []) l5) (by simp)
    have c2 : w5.cell? ⟨kh, 2, none⟩ = some (.int .i64 x.sign) := B5.cell 2
    have c3 : w5.cell? ⟨kh, 3, none⟩ = some (.int .i64 x.value) := B5.cell 3
    have l35 := l4.trans l5
    cases hh : hvOk x with
    | true =>
      unfold hvOk at hh
      simp only [Bool.and_eq_true, decide_eq_true_eq] at hh
      obtain ⟨⟨⟨⟨q1, q2⟩, q3⟩, q4⟩, q5⟩ := hh
      have e2 : decide (x.sign < -1) = false := decide_eq_false (by omega)
      have e3 : decide (1 < x.sign) = false := decide_eq_false (by omega)
      have e4 : decide (x.value < -4611686018427387904) = false := decide_eq_false (by omega)
      have e5 : decide (4611686018427387904 < x.value) = false := decide_eq_false (by omega)
      have hsx : hvOk x = true := by unfold hvOk; simp [q1, q2, q3, q4, q5]
      rw [q1]
      repeat' (first | (simp (disch := omega) only [push_cast, seval, c2, c3, e2, e3, e4, e5, addr_add_eq, Nat.zero_add]) | refine iX ?_ ?_ <;> intros | refine aI (by omega) ?_ | refine dq ?_)
      exact ⟨rfl, i + 1, by simp (disch := omega) only [push_cast, seval], ⟨by omega, l3.trans l35, by rw [hst, hsx]⟩, by dsimp only; omega⟩
    | false =>
      have hsh : shOk q = false := by unfold shOk; rw [hall3 hh]; simp
      rw [hsh]
      have hno : ¬ (tmOk x.t = true ∧ -1 ≤ x.sign ∧ x.sign ≤ 1 ∧ -4611686018427387904 ≤ x.value ∧ x.value ≤ 4611686018427387904) := by
        rintro ⟨q1, q2, q3, q4, q5⟩
        unfold hvOk at hh
        simp [q1, q2, q3, q4, q5] at hh
      have lf := l2'.trans (l3.trans l35)
      cases ht : tmOk x.t with
      | false =>
        repeat' (first | (simp (disch := omega) only [push_cast, seval]) | refine iX ?_ ?_ <;> intros | refine aI (by omega) ?_ | refine dq ?_)
        first | exact ⟨rfl, lf⟩ | exact lf
      | true =>
        repeat' (first | (simp (disch := omega) only [push_cast, seval, c2, c3, addr_add_eq, Nat.zero_add]) | refine iX ?_ ?_ <;> intros | refine aI (by omega) ?_ | refine dq ?_)
        all_goals first | exact lf | exact ⟨rfl, lf⟩ | (exfalso; exact hno ⟨ht, by omega, by omega, by omega, by omega⟩)
  have hd2 : decide ((i : Int) < (q.hl.length : Int)) = false := decide_eq_false (by omega)
  rw [List.take_of_length_le (by omega)] at hall2
  have hsh : shOk q = whOk q.wh := by unfold shOk; rw [hsz, hall, hall2]; simp
  rw [hsh]
  obtain ⟨wo, wc, hwv, hw1, hw2⟩ := RecS.slice (FT.ok_iff.1 hq.wh).2.2.2.1
  have b8o := b8
  rw [hwv] at b8
  unfold whOk
  have l03 := l2'.trans l3
  by_cases k0 : q.wh.op = 0
  · have e0 : decide (q.wh.op = 0) = true := decide_eq_true k0
    rw [if_pos k0]
    repeat' (first | (simp (disch := omega) only [push_cast, seval, b5, b6, b7, b8, b9, hd2, e0, addr_add_eq, Nat.zero_add]) | refine iX ?_ ?_ <;> intros | refine aI (by omega) ?_ | refine dq ?_)
    all_goals (refine ⟨congrArg Value.bool ?_, l03⟩)
    all_goals (clear b5 b6 b7 b8 b8o b9 B1 B2 l1 l2 l3 l03 l2' hq a0 a4 a5 a6 a7 a8 a9 eca htv hhv hbv hwv)
    all_goals simp_all
  · have e0 : decide (q.wh.op = 0) = false := decide_eq_false k0
    rw [if_neg k0]
    have fw : cellsAt w3 ⟨kf, 5, none⟩ 4 = some (ftC q.wh) := by
      refine cellsAt_of 4 _ _ rfl fun i x hx => ?_
      rw [addr_add_eq]
      match i, hx with
      | 0, hx => cases hx; exact b5
      | 1, hx => cases hx; exact b6
      | 2, hx => cases hx; exact b7
      | 3, hx => cases hx; exact b8o
      | n + 4, hx => exact absurd hx (by simp [ftC])
    repeat' (first | (simp (disch := omega) only [push_cast, seval, b5, b9, hd2, e0, fw, addr_add_eq, Nat.zero_add]) | refine iX ?_ ?_ <;> intros | refine aI (by omega) ?_ | refine dq ?_)
    refine (form_c q.wh 30 w3 (by omega) (hq.wh.later l03)).mono ?_
    rintro _ w4 ⟨rfl, l4⟩
    repeat' (first | (simp (disch := omega) only [push_cast, seval]) | refine iX ?_ ?_ <;> intros | refine aI (by omega) ?_ | refine dq ?_)
    first | exact ⟨rfl, (l03.trans l4)⟩ | exact (l03.trans l4)
end Go.Proofs.YtnofalhkapmcnaaGreat
end
section
set_option linter.unusedSimpArgs false
namespace Go.Proofs.YtnofalhkapmcnaaGreat
open Go.Vc Go.Key
set_option maxRecDepth 100000
def mtOk (m : List ByteArray) (t : TD) : Bool := decide (t.f = 0) || inL t.m m
def nsOk (d m : List ByteArray) (q : QD) : Bool := (q.bl ++ q.wh.dims).all (fun s => inL s d) && q.tl.all (mtOk m) && q.hl.all (fun h => mtOk m h.t)
set_option maxHeartbeats 2000000 in
theorem names_c (dv mv : Value) (d m : List ByteArray) (q : QD) (w : World) (h : ScIs w dv mv d m) (hq : q.Ok w) (hcn : q.wh.cnt ≤ 1000000) (hbl : q.bl.length ≤ 1000) : FnC Tryz.prog 46 #[scV dv mv, .agg (qdC q).toArray] w fun v w' => v = .bool (nsOk d m q) ∧ Later w w' := by
  unfold scV
  obtain ⟨to, tc, htv, ht1, ht2⟩ := RecS.slice hq.tv
  obtain ⟨ho, hc, hhv, hh1, hh2⟩ := RecS.slice hq.hv
  obtain ⟨bo, bc, hbv⟩ := Sl.slice hq.bv
  rw [List.length_map] at hbv
  refine enter46 _ _ ?_
  unfold B46
  have eca : (Value.agg (qdC q).toArray).cells = (qdC q).toArray := rfl
  have ecb : (Value.agg #[dv, mv]).cells = #[dv, mv] := rfl
  obtain ⟨l1, s1, F⟩ := box2 w dv mv 24
  have B2 := Blk.new (w.alloc (.cells #[dv, mv] 24)) (qdC q).toArray 32
  have l2 := later_alloc (w.alloc (.cells #[dv, mv] 24)) (.cells (qdC q).toArray 32)
  rw [s1] at B2
  repeat' (first | (simp (disch := omega) only [push_cast, seval, eca, ecb, s1]) | refine iX ?_ ?_ <;> intros | refine aI (by omega) ?_ | fail)
  have l12 := l1.trans l2
  have FF : ∀ w', Later ((w.alloc (.cells #[dv, mv] 24)).alloc (.cells (qdC q).toArray 32)) w' → w'.cell? ⟨w.heap.size, 0, none⟩ = some dv ∧ cellsAt w' ⟨w.heap.size, 0, none⟩ 2 = some [dv, mv] := fun w' hl => ⟨(F w' (l2.trans hl)).1, (F w' (l2.trans hl)).2.2⟩
  clear F
  have hs1 : ((w.alloc (.cells #[dv, mv] 24)).alloc (.cells (qdC q).toArray 32)).heap.size = w.heap.size + 2 := by rw [World.size_alloc, s1]
  generalize (w.alloc (.cells #[dv, mv] 24)).alloc (.cells (qdC q).toArray 32) = w1 at *
  generalize hkf : w.heap.size = kf at *
  have h1 := h.later l12
  have q1 := hq.later l12
  have fw : ∀ w', Later w1 w' → cellsAt w' ⟨kf + 1, 5, none⟩ 4 = some (ftC q.wh) := fun w' hl => by
    obtain ⟨_, _, _, _, _, b5, b6, b7, b8, _⟩ := qdAt (qdLater B2 hl)
    refine cellsAt_of 4 _ _ rfl fun i x hx => ?_
    rw [addr_add_eq]
    match i, hx with
    | 0, hx => cases hx; exact b5
    | 1, hx => cases hx; exact b6
    | 2, hx => cases hx; exact b7
    | 3, hx => cases hx; exact b8
    | n + 4, hx => exact absurd hx (by simp [ftC])
  obtain ⟨a0, _, _, _, a4, _, _, _, _, a9, _⟩ := qdAt B2
  have fw1 := fw w1 (Later.refl _)
  refine drawn_k 7 ?_
  repeat' (first | (simp (disch := omega) only [push_cast, seval, a4, fw1, addr_add_eq, Nat.zero_add]) | refine iX ?_ ?_ <;> intros | refine aI (by omega) ?_ | fail)
  refine nB_of _ (Lit0 w1.heap.size) (stb_lit0 _ _) (fun w' hl => ?_) ?_
  · repeat' (first | (simp (disch := omega) only [push_cast, seval]) | refine iX ?_ ?_ <;> intros | refine aI (by omega) ?_ | fail)
    exact ⟨later_alloc _ _, ⟨_, rfl⟩, own_lit w' [] _ 1 0 rfl (by unfold maxLen; omega) hl.size⟩
  repeat' (first | (simp (disch := omega) only [push_cast, seval, a4, fw1, addr_add_eq, Nat.zero_add]) | refine iX ?_ ?_ <;> intros | refine aI (by omega) ?_ | fail)
  refine nR_app (fun v w' => OwnS w' w1.heap.size v q.bl) (stb_ownS _ _ _) (fun σ' w' hl hp => ?_) ?_
  · obtain ⟨hp26, hp28, _⟩ := hp
    obtain ⟨⟨lb, h26⟩, h26o⟩ : Lit0 w1.heap.size (σ' 13) w' := hp26
    have h28 : σ' 15 = q.bv := hp28
    have hsn := StS.n (q1.later hl).bv
    rw [h26] at h26o
    repeat' (first | (simp (disch := omega) only [push_cast, seval, h28, h26]) | refine iX ?_ ?_ <;> intros | refine aI (by omega) ?_ | fail)
    refine vAppend_fresh Tryz.underlying22 ti9 rfl (by decide) hsn (by unfold maxLen; omega) (by omega) ?_
    intro v' w'' h0 h1
    rcases Nat.eq_zero_or_pos q.bl.length with hz | hz
    · obtain ⟨rfl, rfl⟩ := h0 hz
      have : q.bl = [] := List.length_eq_zero_iff.1 hz
      rw [this]
      exact ⟨Later.refl _, h26o⟩
    · obtain ⟨ho, hll⟩ := h1 hz
      exact ⟨hll, own_base ho hl.size⟩
  repeat' (first | (simp (disch := omega) only [push_cast, seval, a4, fw1, addr_add_eq, Nat.zero_add]) | refine iX ?_ ?_ <;> intros | refine aI (by omega) ?_ | fail)
  refine NFn.of hb53 (fun v w' => OwnS w' w1.heap.size v q.wh.dims) (stb_ownS _ _ _) (fun w' hl => (dims_c q.wh w' hcn (q1.wh.later hl)).mono fun v w'' hv => ⟨own_base hv.1 hl.size, hv.2⟩) ?_
  repeat' (first | (simp (disch := omega) only [push_cast, seval, a4, fw1, addr_add_eq, Nat.zero_add]) | refine iX ?_ ?_ <;> intros | refine aI (by omega) ?_ | fail)
  rintro w2 l2' X2 hX2 X1 hX1 _ _
  have hdc := FT.dims_cnt q.wh
  refine vAppend_ss hX1 (OwnS.st hX2) (by omega) l2'.size ?_
  intro v3 w3 ho3 hg3 _
  have l13 := l2'.appended hX1 (Nat.le_refl _) hg3
  have hL := OwnS.st ho3
  have hns : nsOk d m q = ((q.bl ++ q.wh.dims).all (fun s => inL s d) && q.tl.all (mtOk m) && q.hl.all (fun h => mtOk m h.t)) := rfl
  rw [hns]
  clear hns ho3 hg3 hX1 hX2
  have hLl : (q.bl ++ q.wh.dims).length ≤ 100000000 := by rw [List.length_append]; omega
  generalize q.bl ++ q.wh.dims = L at *
  obtain ⟨lo, lc, rfl⟩ := Sl.slice hL
  rw [List.length_map] at hL ⊢
  have h3 := h1.later l13
  have q3 := q1.later l13
  repeat' (first | (simp (disch := omega) only [push_cast, seval]) | refine iX ?_ ?_ <;> intros | refine aI (by omega) ?_ | refine dq ?_)
  refine vc_loop W46_0 (fun i : Nat => [(4, .bool false), (6, .int .i64 (i : Int))]) (fun i w' => i ≤ L.length ∧ Later w3 w' ∧ (L.take i).all (fun s => inL s d) = true) (fun i => L.length - i) 0 (by decide) ?_ ?_ ?_
  · simp (disch := omega) only [push_cast, seval]
  · exact ⟨Nat.zero_le _, Later.refl _, rfl⟩
  rintro i uu w4 ⟨hi, l4, hall⟩
  have f4 := FF w4 (l13.trans l4)
  by_cases hik : i < L.length
  · have hd2 : decide ((i : Int) < (L.length : Int)) = true := decide_eq_true (by omega)
    have hS := Sl.later hL l4
    cases lo with
    | none => have := (Sl.len hS).2.2.2 rfl; have h0 := this.1; simp at h0; rw [h0] at hik; simp at hik
    | some la =>
    have hc := StS.atS hS hik
    repeat' (first | (simp (disch := omega) only [push_cast, seval, hd2, hc, f4.1, addr_add_eq, Nat.zero_add]) | refine iX ?_ ?_ <;> intros | refine aI (by omega) ?_ | refine dq ?_)
    refine QFn.of hb30 (v := fndV L[i] d) (fun w' hl => (dfind_c dv d L[i] w' (h3.later (l4.trans hl)).dS).mono fun u w'' hu => ⟨hu.1, by rw [hu.2]; exact Later.refl _⟩) ?_
    unfold fndV
    have hst : (L.take (i + 1)).all (fun s => inL s d) = inL L[i] d := by
      rw [List.take_succ_eq_append_getElem hik, List.all_append, hall]; simp
    have hf0 : inL L[i] d = false → L.all (fun s => inL s d) = false := fun h => by
      rw [List.all_eq_false]
      exact ⟨_, List.getElem_mem hik, by simp [h]⟩
    cases hin : inL L[i] d with
    | true =>
      repeat' (first | (simp (disch := omega) only [push_cast, seval]) | refine iX ?_ ?_ <;> intros | refine aI (by omega) ?_ | refine dq ?_)
      exact fun w' hl => ⟨rfl, i + 1, by simp (disch := omega) only [push_cast, seval], ⟨by omega, l4.trans hl, by rw [hst, hin]⟩, by dsimp only; omega⟩
    | false =>
      rw [hf0 hin]
      repeat' (first | (simp (disch := omega) only [push_cast, seval]) | refine iX ?_ ?_ <;> intros | refine aI (by omega) ?_ | refine dq ?_)
      exact fun w' hl => l12.trans (l13.trans (l4.trans hl))
  have hd2 : decide ((i : Int) < (L.length : Int)) = false := decide_eq_false (by omega)
  rw [List.take_of_length_le (by omega)] at hall
  rw [hall, Bool.true_and]
  clear f4 hall hi
  repeat' (first | (simp (disch := omega) only [push_cast, seval, hd2]) | refine iX ?_ ?_ <;> intros | refine aI (by omega) ?_ | refine dq ?_)
  have l14 := l13.trans l4
  refine vc_loop W46_1 (fun i : Nat => [(4, .bool false), (9, .int .i64 (i : Int))]) (fun i w' => i ≤ q.tl.length ∧ Later w4 w' ∧ (q.tl.take i).all (mtOk m) = true) (fun i => q.tl.length - i) 0 (by decide) ?_ ?_ ?_
  · simp (disch := omega) only [push_cast, seval]
  · exact ⟨Nat.zero_le _, Later.refl _, rfl⟩
  clear hd2
  rintro i uu w5 ⟨hi, l5, hall⟩
  have l15 := l14.trans l5
  have f5 := FF w5 l15
  obtain ⟨b0, _⟩ := qdAt (qdLater B2 l15)
  rw [htv] at b0
  by_cases hik : i < q.tl.length
  · have hd2 : decide ((i : Int) < (q.tl.length : Int)) = true := decide_eq_true (by omega)
    have h4 := (q1.later l15).tv
    rw [htv] at h4
    obtain ⟨a, rfl, fa⟩ := RecS.at tdC_len h4 hik
    have hst : (q.tl.take (i + 1)).all (mtOk m) = mtOk m q.tl[i] := by
      rw [List.take_succ_eq_append_getElem hik, List.all_append, hall]; simp
    have hf0 : mtOk m q.tl[i] = false → q.tl.all (mtOk m) = false := fun h => by
      rw [List.all_eq_false]
      exact ⟨_, List.getElem_mem hik, by simp [h]⟩
    have fb := f5.2
    repeat' (first | (simp (disch := omega) only [push_cast, seval, b0, hd2, fa, fb, addr_add_eq, Nat.zero_add]) | refine iX ?_ ?_ <;> intros | refine aI (by omega) ?_ | refine dq ?_)
    refine QFn.of hb96 (v := .bool (mtOk m q.tl[i])) (fun w' hl => metric_c dv mv d m q.tl[i] w' (h1.later (l15.trans hl))) ?_
    cases hin : mtOk m q.tl[i] with
    | true =>
      repeat' (first | (simp (disch := omega) only [push_cast, seval]) | refine iX ?_ ?_ <;> intros | refine aI (by omega) ?_ | refine dq ?_)
      exact fun w' hl => ⟨rfl, i + 1, by simp (disch := omega) only [push_cast, seval], ⟨by omega, l5.trans hl, by rw [hst, hin]⟩, by dsimp only; omega⟩
    | false =>
      rw [hf0 hin]
      repeat' (first | (simp (disch := omega) only [push_cast, seval]) | refine iX ?_ ?_ <;> intros | refine aI (by omega) ?_ | refine dq ?_)
      exact fun w' hl => l12.trans (l15.trans hl)
  have hd2 : decide ((i : Int) < (q.tl.length : Int)) = false := decide_eq_false (by omega)
  rw [List.take_of_length_le (by omega)] at hall
  rw [hall, Bool.true_and]
  clear f5 hall hi
  repeat' (first | (simp (disch := omega) only [push_cast, seval, b0, hd2, addr_add_eq, Nat.zero_add]) | refine iX ?_ ?_ <;> intros | refine aI (by omega) ?_ | refine dq ?_)
  clear b0
  refine vc_loop W46_2 (fun i : Nat => [(4, .bool false), (11, .int .i64 (i : Int))]) (fun i w' => i ≤ q.hl.length ∧ Later w5 w' ∧ (q.hl.take i).all (fun h => mtOk m h.t) = true) (fun i => q.hl.length - i) 0 (by decide) ?_ ?_ ?_
  · simp (disch := omega) only [push_cast, seval]
  · exact ⟨Nat.zero_le _, Later.refl _, rfl⟩
  clear hd2
  rintro i uu w6 ⟨hi, l6, hall⟩
  have l16 := l15.trans l6
  have f6 := FF w6 l16
  obtain ⟨_, _, _, _, _, _, _, _, _, b9, _⟩ := qdAt (qdLater B2 l16)
  rw [hhv] at b9
  by_cases hik : i < q.hl.length
  · have hd2 : decide ((i : Int) < (q.hl.length : Int)) = true := decide_eq_true (by omega)
    have h4 := (q1.later l16).hv
    rw [hhv] at h4
    obtain ⟨a, rfl, fa⟩ := RecS.at hdC_len h4 hik
    have fx : cellsAt w6 (a.add (i * 4)) 2 = some (tdC q.hl[i].t) := by
      refine cellsAt_of 2 _ _ rfl fun j y hx => ?_
      match j, hx with
      | 0, hx => cases hx; exact RecS.cell (j := 0) hdC_len h4 hik rfl
      | 1, hx => cases hx; exact RecS.cell (j := 1) hdC_len h4 hik rfl
      | n + 2, hx => exact absurd hx (by simp [tdC])
    have hst : (q.hl.take (i + 1)).all (fun h => mtOk m h.t) = mtOk m q.hl[i].t := by
      rw [List.take_succ_eq_append_getElem hik, List.all_append, hall]; simp
    have hf0 : mtOk m q.hl[i].t = false → q.hl.all (fun h => mtOk m h.t) = false := fun h => by
      rw [List.all_eq_false]
      exact ⟨_, List.getElem_mem hik, by simp [h]⟩
    have fb := f6.2
    repeat' (first | (simp (disch := omega) only [push_cast, seval, b9, hd2, fx, fb, addr_add_eq, Nat.zero_add]) | refine iX ?_ ?_ <;> intros | refine aI (by omega) ?_ | refine dq ?_)
    refine QFn.of hb96 (v := .bool (mtOk m q.hl[i].t)) (fun w' hl => metric_c dv mv d m q.hl[i].t w' (h1.later (l16.trans hl))) ?_
    cases hin : mtOk m q.hl[i].t with
    | true =>
      repeat' (first | (simp (disch := omega) only [push_cast, seval]) | refine iX ?_ ?_ <;> intros | refine aI (by omega) ?_ | refine dq ?_)
      exact fun w' hl => ⟨rfl, i + 1, by simp (disch := omega) only [push_cast, seval], ⟨by omega, l6.trans hl, by rw [hst, hin]⟩, by dsimp only; omega⟩
    | false =>
      rw [hf0 hin]
      repeat' (first | (simp (disch := omega) only [push_cast, seval]) | refine iX ?_ ?_ <;> intros | refine aI (by omega) ?_ | refine dq ?_)
      exact fun w' hl => l12.trans (l16.trans hl)
  have hd2 : decide ((i : Int) < (q.hl.length : Int)) = false := decide_eq_false (by omega)
  rw [List.take_of_length_le (by omega)] at hall
  rw [hall]
  repeat' (first | (simp (disch := omega) only [push_cast, seval, b9, hd2, addr_add_eq, Nat.zero_add]) | refine iX ?_ ?_ <;> intros | refine aI (by omega) ?_ | refine dq ?_)
  first | exact ⟨rfl, (l12.trans l16)⟩ | exact (l12.trans l16)
end Go.Proofs.YtnofalhkapmcnaaGreat
end
section
set_option linter.unusedSimpArgs false
namespace Go.Proofs.YtnofalhkapmcnaaGreat
open Go.Vc Go.Key
set_option maxRecDepth 100000
def grOk (g : Int) : Bool := decide (1 ≤ g) && decide (g ≤ 1048576)
theorem dgright_c (g : Int) (w : World) : FnC Tryz.prog 98 #[.int .i64 g] w fun r w' => r = .bool (grOk g) ∧ w' = w := by
  refine enter98 _ ?_
  unfold B98
  unfold grOk
  by_cases h1 : 1 ≤ g
  · have e1 : decide (1 ≤ g) = true := decide_eq_true h1
    repeat' (first | (simp (disch := omega) only [push_cast, seval, e1]) | refine iX ?_ ?_ <;> intros | refine aI (by omega) ?_ | refine dq ?_)
    first | done | exact ⟨by simp, rfl⟩ | simp
  · have e1 : decide (1 ≤ g) = false := decide_eq_false h1
    repeat' (first | (simp (disch := omega) only [push_cast, seval, e1]) | refine iX ?_ ?_ <;> intros | refine aI (by omega) ?_ | refine dq ?_)
    first | done | exact ⟨by simp, rfl⟩ | simp
def tyNum (q : QD) : Prop := 0 ≤ q.fr ∧ q.fr < q.to ∧ q.to ≤ 1099511627776 ∧ -(q.tl.length : Int) ≤ q.od ∧ q.od ≤ (q.tl.length : Int) ∧ 0 ≤ q.lm ∧ q.lm ≤ 1000
instance (q : QD) : Decidable (tyNum q) := inferInstanceAs (Decidable (_ ∧ _))
def evOk (q : QD) : Bool := decide (q.ev = 0) || grOk q.ev
def tpOk (q : QD) : Bool := decide (q.bl.Pairwise (fun x y => x ≠ y)) && q.wh.vals.all (fun s => decide (VlOk s)) && evOk q && decide (tyNum q)
set_option maxHeartbeats 4000000 in
theorem types_c (q : QD) (w : World) (hq : q.Ok w) (hbl : q.bl.length ≤ 1000) : FnC Tryz.prog 47 #[.agg (qdC q).toArray] w fun v w' => v = .bool (tpOk q) ∧ Later w w' := by
  obtain ⟨to, tc, htv, ht1, ht2⟩ := RecS.slice hq.tv
  obtain ⟨bo, bc, hbv⟩ := Sl.slice hq.bv
  rw [List.length_map] at hbv
  have hbS := hq.bv
  rw [hbv] at hbS
  refine enter47 _ ?_
  unfold B47
  have eca : (Value.agg (qdC q).toArray).cells = (qdC q).toArray := rfl
  have l1 := later_alloc w (.cells (qdC q).toArray 32)
  have B1 := Blk.new w (qdC q).toArray 32
  repeat' (first | (simp (disch := omega) only [push_cast, seval, eca]) | refine iX ?_ ?_ <;> intros | refine aI (by omega) ?_ | refine dq ?_)
  generalize w.alloc (.cells (qdC q).toArray 32) = w1 at *
  generalize w.heap.size = kf at *
  refine vc_loop W47_0 (fun i : Nat => [(2, .bool false), (3, .int .i64 (i : Int))]) (fun i w' => i ≤ q.bl.length ∧ Later w1 w' ∧ (q.bl.take i).Pairwise (fun x y => x ≠ y)) (fun i => q.bl.length - i) 0 (by decide) ?_ ?_ ?_
  · simp (disch := omega) only [push_cast, seval]
  · exact ⟨Nat.zero_le _, Later.refl _, by simp⟩
  rintro i uu w2 ⟨hi, l2, hall⟩
  obtain ⟨b0, b1, b2, b3, b4, b5, b6, b7, b8, b9, b10, b11⟩ := qdAt (qdLater B1 l2)
  rw [hbv] at b4
  by_cases hik : i < q.bl.length
  · have hd2 : decide ((i : Int) < (q.bl.length : Int)) = true := decide_eq_true (by omega)
    cases bo with
    | none => have := (Sl.len hbS).2.2.2 rfl; have h0 := this.1; simp at h0; rw [h0] at hik; simp at hik
    | some la =>
    repeat' (first | (simp (disch := omega) only [push_cast, seval, b4, hd2, addr_add_eq, Nat.zero_add]) | refine iX ?_ ?_ <;> intros | refine aI (by omega) ?_ | refine dq ?_)
    refine vc_loop W47_1 (fun k : Nat => [(2, .bool false), (4, .int .i64 (k : Int))]) (fun k w' => k ≤ i ∧ Later w2 w' ∧ ∀ j (h : j < q.bl.length), j < k → q.bl[j] ≠ q.bl[i]) (fun k => i - k) 0 (by decide) ?_ ?_ ?_
    · simp (disch := omega) only [push_cast, seval]
    · exact ⟨Nat.zero_le _, Later.refl _, fun j _ hj => absurd hj (by omega)⟩
    rintro k u2 w3 ⟨hk, l3, hne⟩
    obtain ⟨_, _, _, _, c4, _⟩ := qdAt (qdLater B1 (l2.trans l3))
    rw [hbv] at c4
    have hS3 := Sl.later hbS (l1.trans (l2.trans l3))
    have hci := StS.atS hS3 hik
    by_cases hki : k < i
    · have hd3 : decide ((k : Int) < (i : Int)) = true := decide_eq_true (by omega)
      have hkl : k < q.bl.length := by omega
      have hck := StS.atS hS3 hkl
      by_cases he : q.bl[i] = q.bl[k]
      · have hd4 : decide (q.bl[i] = q.bl[k]) = true := decide_eq_true he
        have hf : tpOk q = false := by
          unfold tpOk
          rw [decide_eq_false (fun hp => (show q.bl[k] ≠ q.bl[i] from List.pairwise_iff_getElem.1 hp k i hkl hik hki) he.symm)]
          simp
        rw [hf]
        repeat' (first | (simp (disch := omega) only [push_cast, seval, c4, hci, hck, hd3, hd4, addr_add_eq, Nat.zero_add]) | refine iX ?_ ?_ <;> intros | refine aI (by omega) ?_ | refine dq ?_)
        first | exact fun w' hl => (l1.trans (l2.trans (l3.trans hl))) | exact fun w' hl => ⟨rfl, l1.trans (l2.trans (l3.trans hl))⟩ | trace_state
      · have hd4 : decide (q.bl[i] = q.bl[k]) = false := decide_eq_false he
        repeat' (first | (simp (disch := omega) only [push_cast, seval, c4, hci, hck, hd3, hd4, addr_add_eq, Nat.zero_add]) | refine iX ?_ ?_ <;> intros | refine aI (by omega) ?_ | refine dq ?_)
        refine fun w' hl => ⟨rfl, k + 1, by simp (disch := omega) only [push_cast, seval], ⟨by omega, l3.trans hl, fun j hj hjk => ?_⟩, by dsimp only; omega⟩
        by_cases hjk' : j = k
        · subst hjk'; exact fun h => he h.symm
        · exact hne j hj (by omega)
    · have hd3 : decide ((k : Int) < (i : Int)) = false := decide_eq_false (by omega)
      repeat' (first | (simp (disch := omega) only [push_cast, seval, hd3]) | refine iX ?_ ?_ <;> intros | refine aI (by omega) ?_ | refine dq ?_)
      exact ⟨rfl, i + 1, by simp (disch := omega) only [push_cast, seval], ⟨by omega, l2.trans l3, ok_step hik hall (fun j hj hji => hne j hj (by omega))⟩, by dsimp only; omega⟩
  have hd2 : decide ((i : Int) < (q.bl.length : Int)) = false := decide_eq_false (by omega)
  rw [List.take_of_length_le (by omega)] at hall
  have l02 := l1.trans l2
  have fw : cellsAt w2 ⟨kf, 5, none⟩ 4 = some (ftC q.wh) := by
    refine cellsAt_of 4 _ _ rfl fun i x hx => ?_
    rw [addr_add_eq]
    match i, hx with
    | 0, hx => cases hx; exact b5
    | 1, hx => cases hx; exact b6
    | 2, hx => cases hx; exact b7
    | 3, hx => cases hx; exact b8
    | n + 4, hx => exact absurd hx (by simp [ftC])
  have htp : tpOk q = (q.wh.vals.all (fun s => decide (VlOk s)) && evOk q && decide (tyNum q)) := by
    unfold tpOk; rw [decide_eq_true hall]; simp
  rw [htp]
  repeat' (first | (simp (disch := omega) only [push_cast, seval, b4, hd2, fw, addr_add_eq, Nat.zero_add]) | refine iX ?_ ?_ <;> intros | refine aI (by omega) ?_ | refine dq ?_)
  refine (values_c q.wh w2 (hq.wh.later l02)).mono ?_
  rintro _ w3 ⟨rfl, l3⟩
  obtain ⟨b0, b1, b2, b3, _, _, _, _, _, _, b10, b11⟩ := qdAt (qdLater B1 (l2.trans l3))
  rw [htv] at b0
  have l03 := l02.trans l3
  generalize q.wh.vals.all (fun s => decide (VlOk s)) = vb at *
  clear fw b4 hd2 B1 hall hik htp
  by_cases h0 : q.ev = 0
  · have e0 : decide (q.ev = 0) = true := decide_eq_true h0
    have he : evOk q = true := by unfold evOk; rw [e0]; rfl
    rw [he]
    clear he
    cases vb with
    | false =>
      repeat' (first | (simp (disch := omega) only [push_cast, seval, b0, b3, e0, addr_add_eq, Nat.zero_add]) | refine iX ?_ ?_ <;> intros | refine aI (by omega) ?_ | refine dq ?_)
      first | exact ⟨(by simp), l03⟩ | exact l03
    | true =>
    have hE : evOk q = true := by unfold evOk; rw [e0]; rfl
    by_cases hT : tyNum q
    · obtain ⟨t1, t2, t3, t4, t5, t6, t7⟩ := hT
      have e1 : decide (0 ≤ q.fr) = true := decide_eq_true t1
      have e2 : decide (q.fr < q.to) = true := decide_eq_true t2
      have e3 : decide (q.to ≤ 1099511627776) = true := decide_eq_true t3
      have e4 : decide (-(q.tl.length : Int) ≤ q.od) = true := decide_eq_true t4
      have e5 : decide (q.od ≤ (q.tl.length : Int)) = true := decide_eq_true t5
      have e6 : decide (0 ≤ q.lm) = true := decide_eq_true t6
      have e7 : decide (q.lm ≤ 1000) = true := decide_eq_true t7
      have hT : decide (tyNum q) = true := decide_eq_true ⟨t1, t2, t3, t4, t5, t6, t7⟩
      repeat' (first | (simp (disch := omega) only [push_cast, seval, b0, b1, b2, b3, b10, b11, e0, hE, e1, e2, e3, e4, e5, e6, e7, addr_add_eq, Nat.zero_add]) | refine iX ?_ ?_ <;> intros | refine aI (by omega) ?_ | refine dq ?_)
      first | exact ⟨(by rw [hT]), l03⟩ | exact l03
    · have hTd : decide (tyNum q) = false := decide_eq_false hT
      unfold tyNum at hT
      repeat' (first | (simp (disch := omega) only [push_cast, seval, b0, b1, b2, b3, b10, b11, e0, hE, addr_add_eq, Nat.zero_add]) | refine iX ?_ ?_ <;> intros | refine aI (by omega) ?_ | refine dq ?_)
      all_goals (refine ⟨congrArg Value.bool ?_, l03⟩)
      all_goals (try rw [hTd])
      all_goals (first | rfl | (apply decide_eq_false; intro hx; exact hT (by omega)))
  have e0 : decide (q.ev = 0) = false := decide_eq_false h0
  have hEq : evOk q = grOk q.ev := by unfold evOk; rw [e0]; rfl
  have qf : ∀ w', Later w3 w' → FnC Tryz.prog 98 #[.int .i64 q.ev] w' fun u w'' => u = .bool (evOk q) ∧ Later w' w'' := fun w' hl => (dgright_c q.ev w').mono fun u w'' hu => ⟨by rw [hEq]; exact hu.1, by rw [hu.2]; exact Later.refl _⟩
  repeat' (first | (simp (disch := omega) only [push_cast, seval, b0, b3, e0, addr_add_eq, Nat.zero_add]) | refine iX ?_ ?_ <;> intros | refine aI (by omega) ?_ | refine dq ?_)
  refine (dgright_c q.ev w3).mono ?_
  rintro _ w0 ⟨rfl, hw0⟩; obtain rfl := hw0.symm
  rw [← hEq]
  cases vb with
  | false =>
    repeat' (first | (simp (disch := omega) only [push_cast, seval, b0, b3, e0, addr_add_eq, Nat.zero_add]) | refine iX ?_ ?_ <;> intros | refine aI (by omega) ?_ | refine dq ?_)
    first | exact ⟨(by simp), l03⟩ | exact l03
  | true =>
  cases hE : evOk q with
  | false =>
    repeat' (first | (simp (disch := omega) only [push_cast, seval, b0, b3, e0, hE, addr_add_eq, Nat.zero_add]) | refine iX ?_ ?_ <;> intros | refine aI (by omega) ?_ | refine dq ?_)
    first | exact ⟨(by simp), l03⟩ | exact l03
  | true =>
  by_cases hT : tyNum q
  · obtain ⟨t1, t2, t3, t4, t5, t6, t7⟩ := hT
    have e1 : decide (0 ≤ q.fr) = true := decide_eq_true t1
    have e2 : decide (q.fr < q.to) = true := decide_eq_true t2
    have e3 : decide (q.to ≤ 1099511627776) = true := decide_eq_true t3
    have e4 : decide (-(q.tl.length : Int) ≤ q.od) = true := decide_eq_true t4
    have e5 : decide (q.od ≤ (q.tl.length : Int)) = true := decide_eq_true t5
    have e6 : decide (0 ≤ q.lm) = true := decide_eq_true t6
    have e7 : decide (q.lm ≤ 1000) = true := decide_eq_true t7
    have hT : decide (tyNum q) = true := decide_eq_true ⟨t1, t2, t3, t4, t5, t6, t7⟩
    repeat' (first | (simp (disch := omega) only [push_cast, seval, b0, b1, b2, b3, b10, b11, e0, hE, e1, e2, e3, e4, e5, e6, e7, addr_add_eq, Nat.zero_add]) | refine iX ?_ ?_ <;> intros | refine aI (by omega) ?_ | refine dq ?_)
    first | exact ⟨(by rw [hT]), l03⟩ | exact l03
  · have hTd : decide (tyNum q) = false := decide_eq_false hT
    unfold tyNum at hT
    repeat' (first | (simp (disch := omega) only [push_cast, seval, b0, b1, b2, b3, b10, b11, e0, hE, addr_add_eq, Nat.zero_add]) | refine iX ?_ ?_ <;> intros | refine aI (by omega) ?_ | refine dq ?_)
    all_goals (refine ⟨congrArg Value.bool ?_, l03⟩)
    all_goals (try rw [hTd])
    all_goals (first | rfl | (apply decide_eq_false; intro hx; exact hT (by omega)))
end Go.Proofs.YtnofalhkapmcnaaGreat
end
section
set_option linter.unusedSimpArgs false
namespace Go.Proofs.YtnofalhkapmcnaaGreat
open Go.Vc Go.Key
set_option maxRecDepth 100000
def ckQ (d m : List ByteArray) (q : QD) : Int := if shOk q = false then 221 else if nsOk d m q = false then 231 else if tpOk q = false then 232 else 0
theorem check_c (dv mv : Value) (d m : List ByteArray) (q : QD) (w : World) (h : ScIs w dv mv d m) (hq : q.Ok w) (hcn : q.wh.cnt ≤ 1000000) (hbl : q.bl.length ≤ 1000) : FnC Tryz.prog 17 #[scV dv mv, .agg (qdC q).toArray] w fun v w' => v = .int .i64 (ckQ d m q) ∧ Later w w' := by
  have esc : scV dv mv = .agg #[dv, mv] := rfl
  rw [esc]
  refine enter17 _ _ ?_
  unfold B17
  have eca : (Value.agg (qdC q).toArray).cells = (qdC q).toArray := rfl
  have ecb : (Value.agg #[dv, mv]).cells = #[dv, mv] := rfl
  obtain ⟨l1, s1, F⟩ := box2 w dv mv 24
  have B2 := Blk.new (w.alloc (.cells #[dv, mv] 24)) (qdC q).toArray 32
  have l2 := later_alloc (w.alloc (.cells #[dv, mv] 24)) (.cells (qdC q).toArray 32)
  rw [s1] at B2
  repeat' (first | (simp (disch := omega) only [push_cast, seval, eca, ecb, s1]) | refine iX ?_ ?_ <;> intros | refine aI (by omega) ?_ | fail)
  have l12 := l1.trans l2
  have FF : ∀ w', Later ((w.alloc (.cells #[dv, mv] 24)).alloc (.cells (qdC q).toArray 32)) w' → cellsAt w' ⟨w.heap.size, 0, none⟩ 2 = some [dv, mv] := fun w' hl => (F w' (l2.trans hl)).2.2
  clear F
  generalize (w.alloc (.cells #[dv, mv] 24)).alloc (.cells (qdC q).toArray 32) = w1 at *
  generalize hkf : w.heap.size = kf at *
  have h1 := h.later l12
  have q1 := hq.later l12
  have QQ : ∀ w', Later w1 w' → cellsAt w' ⟨kf + 1, 0, none⟩ 12 = some (qdC q) := fun w' hl => Blk.cellsAt (l := qdC q) (qdLater B2 hl)
  have c1 := QQ w1 (Later.refl _)
  repeat' (first | (simp (disch := omega) only [push_cast, seval, c1]) | refine iX ?_ ?_ <;> intros | refine aI (by omega) ?_ | refine dq ?_)
  refine (shape_c q w1 q1).mono ?_
  rintro _ w2 ⟨rfl, l3⟩
  unfold ckQ
  cases hS : shOk q with
  | false =>
    repeat' (first | (simp (disch := omega) only [push_cast, seval]) | refine iX ?_ ?_ <;> intros | refine aI (by omega) ?_ | refine dq ?_)
    first | exact ⟨(by simp), (l12.trans l3)⟩ | exact (l12.trans l3)
  | true =>
  have c2 := QQ w2 l3
  have f2 := FF w2 l3
  repeat' (first | (simp (disch := omega) only [push_cast, seval, c2, f2]) | refine iX ?_ ?_ <;> intros | refine aI (by omega) ?_ | refine dq ?_)
  refine (names_c dv mv d m q w2 (h1.later l3) (q1.later l3) hcn hbl).mono ?_
  rintro _ w3 ⟨rfl, l4⟩
  cases hN : nsOk d m q with
  | false =>
    repeat' (first | (simp (disch := omega) only [push_cast, seval]) | refine iX ?_ ?_ <;> intros | refine aI (by omega) ?_ | refine dq ?_)
    first | exact ⟨(by simp), (l12.trans (l3.trans l4))⟩ | exact (l12.trans (l3.trans l4))
  | true =>
  have l34 := l3.trans l4
  have c3 := QQ w3 l34
  repeat' (first | (simp (disch := omega) only [push_cast, seval, c3]) | refine iX ?_ ?_ <;> intros | refine aI (by omega) ?_ | refine dq ?_)
  refine (types_c q w3 (q1.later l34) hbl).mono ?_
  rintro _ w4 ⟨rfl, l5⟩
  cases hT : tpOk q with
  | false =>
    repeat' (first | (simp (disch := omega) only [push_cast, seval]) | refine iX ?_ ?_ <;> intros | refine aI (by omega) ?_ | refine dq ?_)
    first | exact ⟨(by simp), (l12.trans (l34.trans l5))⟩ | exact (l12.trans (l34.trans l5))
  | true =>
    repeat' (first | (simp (disch := omega) only [push_cast, seval]) | refine iX ?_ ?_ <;> intros | refine aI (by omega) ?_ | refine dq ?_)
    first | exact ⟨(by simp), (l12.trans (l34.trans l5))⟩ | exact (l12.trans (l34.trans l5))
end Go.Proofs.YtnofalhkapmcnaaGreat
end
section
set_option linter.unusedSimpArgs false
namespace Go.Proofs.YtnofalhkapmcnaaGreat
open Go.Vc Go.Key
set_option maxRecDepth 100000
def f23 (d m : List ByteArray) (q : QD) : Bool := decide (F10 d) && decide (F10 m) && decide (F10 q.bl) && decide (q.tl.length ≤ 30) && decide (q.hl.length ≤ 30) && decide (q.wh.prt 300 < 300) && decide (ScOk d m) && decide (q.wh.deep ≤ 60)
set_option maxHeartbeats 2000000 in
theorem fits23_c (dv mv : Value) (d m : List ByteArray) (q : QD) (w : World) (h : ScIs w dv mv d m) (hq : q.Ok w) : FnC Tryz.prog 14 #[scV dv mv, .agg (qdC q).toArray] w fun v w' => v = .bool (f23 d m q) ∧ Later w w' := by
  have esc : scV dv mv = .agg #[dv, mv] := rfl
  obtain ⟨to, tc, htv, ht1, ht2⟩ := RecS.slice hq.tv
  obtain ⟨ho, hc, hhv, hh1, hh2⟩ := RecS.slice hq.hv
  rw [esc]
  refine enter14 _ _ ?_
  unfold B14
  have eca : (Value.agg (qdC q).toArray).cells = (qdC q).toArray := rfl
  have ecb : (Value.agg #[dv, mv]).cells = #[dv, mv] := rfl
  obtain ⟨l1, s1, F⟩ := box2 w dv mv 24
  have B2 := Blk.new (w.alloc (.cells #[dv, mv] 24)) (qdC q).toArray 32
  have l2 := later_alloc (w.alloc (.cells #[dv, mv] 24)) (.cells (qdC q).toArray 32)
  rw [s1] at B2
  repeat' (first | (simp (disch := omega) only [push_cast, seval, eca, ecb, s1]) | refine iX ?_ ?_ <;> intros | refine aI (by omega) ?_ | fail)
  have l12 := l1.trans l2
  obtain ⟨f0, f1, f2⟩ := F _ l2
  clear F
  generalize (w.alloc (.cells #[dv, mv] 24)).alloc (.cells (qdC q).toArray 32) = w1 at *
  generalize hkf : w.heap.size = kf at *
  have h1 := h.later l12
  have q1 := hq.later l12
  have hbz : ∀ s ∈ q.bl, s.size ≤ 9223372036854775807 := fun s hs => Nat.le_trans (hq.bl s hs) (by unfold Bz; omega)
  obtain ⟨a0, a1, a2, a3, a4, b5, b6, b7, b8, a9, _⟩ := qdAt B2
  have fw : cellsAt w1 ⟨kf + 1, 5, none⟩ 4 = some (ftC q.wh) := by
    refine cellsAt_of 4 _ _ rfl fun i x hx => ?_
    rw [addr_add_eq]
    match i, hx with
    | 0, hx => cases hx; exact b5
    | 1, hx => cases hx; exact b6
    | 2, hx => cases hx; exact b7
    | 3, hx => cases hx; exact b8
    | n + 4, hx => exact absurd hx (by simp [ftC])
  rw [htv] at a0
  rw [hhv] at a9
  repeat' (first | (simp (disch := omega) only [push_cast, seval, f0, addr_add_eq, Nat.zero_add]) | refine iX ?_ ?_ <;> intros | refine aI (by omega) ?_ | refine dq ?_)
  refine (fits10_c dv d w1 h1.dS h1.dZ).mono ?_
  rintro _ w0 ⟨rfl, h0⟩; obtain rfl := h0.symm
  repeat' (first | (simp (disch := omega) only [push_cast, seval, f1, addr_add_eq, Nat.zero_add]) | refine iX ?_ ?_ <;> intros | refine aI (by omega) ?_ | refine dq ?_)
  refine (fits10_c mv m w1 h1.mS h1.mZ).mono ?_
  rintro _ w0 ⟨rfl, h0⟩; obtain rfl := h0.symm
  repeat' (first | (simp (disch := omega) only [push_cast, seval, a4, addr_add_eq, Nat.zero_add]) | refine iX ?_ ?_ <;> intros | refine aI (by omega) ?_ | refine dq ?_)
  refine (fits10_c q.bv q.bl w1 q1.bv hbz).mono ?_
  rintro _ w0 ⟨rfl, h0⟩; obtain rfl := h0.symm
  by_cases k0 : F10 d
  case neg =>
    have e0 : decide (F10 d) = false := decide_eq_false k0
    have hf : f23 d m q = false := by unfold f23; rw [e0]; simp
    rw [hf]
    repeat' (first | (simp (disch := omega) only [push_cast, seval, e0, addr_add_eq, Nat.zero_add]) | refine iX ?_ ?_ <;> intros | refine aI (by omega) ?_ | refine dq ?_)
    first | exact ⟨rfl, l12⟩ | exact l12
  have e0 : decide (F10 d) = true := decide_eq_true k0
  by_cases k1 : F10 m
  case neg =>
    have e1 : decide (F10 m) = false := decide_eq_false k1
    have hf : f23 d m q = false := by unfold f23; rw [e1]; simp
    rw [hf]
    repeat' (first | (simp (disch := omega) only [push_cast, seval, e0, e1, addr_add_eq, Nat.zero_add]) | refine iX ?_ ?_ <;> intros | refine aI (by omega) ?_ | refine dq ?_)
    first | exact ⟨rfl, l12⟩ | exact l12
  have e1 : decide (F10 m) = true := decide_eq_true k1
  by_cases k2 : F10 q.bl
  case neg =>
    have e2 : decide (F10 q.bl) = false := decide_eq_false k2
    have hf : f23 d m q = false := by unfold f23; rw [e2]; simp
    rw [hf]
    repeat' (first | (simp (disch := omega) only [push_cast, seval, e0, e1, e2, addr_add_eq, Nat.zero_add]) | refine iX ?_ ?_ <;> intros | refine aI (by omega) ?_ | refine dq ?_)
    first | exact ⟨rfl, l12⟩ | exact l12
  have e2 : decide (F10 q.bl) = true := decide_eq_true k2
  by_cases k3 : q.tl.length ≤ 30
  case neg =>
    have e3 : decide (30 < (q.tl.length : Int)) = true := decide_eq_true (by omega)
    have hf : f23 d m q = false := by unfold f23; rw [decide_eq_false k3]; simp
    rw [hf]
    repeat' (first | (simp (disch := omega) only [push_cast, seval, e0, e1, e2, e3, a0, a9, addr_add_eq, Nat.zero_add]) | refine iX ?_ ?_ <;> intros | refine aI (by omega) ?_ | refine dq ?_)
    first | exact ⟨rfl, l12⟩ | exact l12
  have e3 : decide (30 < (q.tl.length : Int)) = false := decide_eq_false (by omega)
  by_cases k4 : q.hl.length ≤ 30
  case neg =>
    have e4 : decide (30 < (q.hl.length : Int)) = true := decide_eq_true (by omega)
    have hf : f23 d m q = false := by unfold f23; rw [decide_eq_false k4]; simp
    rw [hf]
    repeat' (first | (simp (disch := omega) only [push_cast, seval, e0, e1, e2, e3, e4, a0, a9, addr_add_eq, Nat.zero_add]) | refine iX ?_ ?_ <;> intros | refine aI (by omega) ?_ | refine dq ?_)
    first | exact ⟨rfl, l12⟩ | exact l12
  have e4 : decide (30 < (q.hl.length : Int)) = false := decide_eq_false (by omega)
  repeat' (first | (simp (disch := omega) only [push_cast, seval, e0, e1, e2, e3, e4, a0, a9, fw, addr_add_eq, Nat.zero_add]) | refine iX ?_ ?_ <;> intros | refine aI (by omega) ?_ | refine dq ?_)
  refine (parts_c q.wh 300 w1 (by omega) (by omega) q1.wh).mono ?_
  rintro _ w2 ⟨rfl, l3⟩
  by_cases k5 : q.wh.prt 300 < 300
  case neg =>
    have e5 : decide (300 ≤ q.wh.prt 300) = true := decide_eq_true (by omega)
    have hf : f23 d m q = false := by unfold f23; rw [decide_eq_false k5]; simp
    rw [hf]
    repeat' (first | (simp (disch := omega) only [push_cast, seval, e5]) | refine iX ?_ ?_ <;> intros | refine aI (by omega) ?_ | refine dq ?_)
    first | exact ⟨rfl, (l12.trans l3)⟩ | exact (l12.trans l3)
  have e5 : decide (300 ≤ q.wh.prt 300) = false := decide_eq_false (by omega)
  have hcn := FT.cnt_prt q.wh 300 k5
  have g2 : cellsAt w2 ⟨kf, 0, none⟩ 2 = some [dv, mv] := cellsAt_later l3 _ f2
  have hF : ∀ l : List ByteArray, F10 l → l.length ≤ 2000000 := fun l h => by
    exact Nat.le_trans h.1 (by omega)
  repeat' (first | (simp (disch := omega) only [push_cast, seval, e5, g2]) | refine iX ?_ ?_ <;> intros | refine aI (by omega) ?_ | refine dq ?_)
  refine (dschema_c dv mv d m w2 (h1.later l3) (hF d k0) (hF m k1)).mono ?_
  rintro _ w3 ⟨rfl, l4⟩
  have l34 := l3.trans l4
  have fw3 := cellsAt_later l34 _ fw
  repeat' (first | (simp (disch := omega) only [push_cast, seval, fw3, addr_add_eq, Nat.zero_add]) | refine iX ?_ ?_ <;> intros | refine aI (by omega) ?_ | refine dq ?_)
  refine (depth_c q.wh w3 (by omega) (q1.wh.later l34)).mono ?_
  rintro _ w4 ⟨rfl, l5⟩
  have hf : f23 d m q = (decide (ScOk d m) && decide (q.wh.deep ≤ 60)) := by
    unfold f23
    rw [e0, e1, e2, decide_eq_true k3, decide_eq_true k4, decide_eq_true k5]; simp
  rw [hf]
  have e6 : decide ((q.wh.deep : Int) ≤ 60) = decide (q.wh.deep ≤ 60) := by
    by_cases hh : q.wh.deep ≤ 60
    · rw [decide_eq_true hh, decide_eq_true (by omega)]
    · rw [decide_eq_false hh, decide_eq_false (by omega)]
  by_cases k7 : ScOk d m
  · have e7 : decide (ScOk d m) = true := decide_eq_true k7
    repeat' (first | (simp (disch := omega) only [push_cast, seval, e7, e6]) | refine iX ?_ ?_ <;> intros | refine aI (by omega) ?_ | refine dq ?_)
    first | exact ⟨(by simp), (l12.trans (l34.trans l5))⟩ | exact (l12.trans (l34.trans l5))
  · have e7 : decide (ScOk d m) = false := decide_eq_false k7
    repeat' (first | (simp (disch := omega) only [push_cast, seval, e7, e6]) | refine iX ?_ ?_ <;> intros | refine aI (by omega) ?_ | refine dq ?_)
    first | exact ⟨(by simp), (l12.trans (l34.trans l5))⟩ | exact (l12.trans (l34.trans l5))
end Go.Proofs.YtnofalhkapmcnaaGreat
end
section
set_option linter.unusedSimpArgs false
namespace Go.Proofs.YtnofalhkapmcnaaGreat
open Go.Vc Go.Key
set_option maxRecDepth 100000
end Go.Proofs.YtnofalhkapmcnaaGreat
end
section
namespace Go.Proofs.YtnofalhkapmcnaaGreat
open Go.Vc
set_option maxRecDepth 100000
variable (Q : Post) (ds : List Deferred) (σ : Env) (w : World)
/-! 50 slices.Clone[[]string,string] (params #[22], results #[(.tmp 2)], 8 slots) -/
abbrev r50_0 : List VOp :=
  [zF 2 22]
abbrev r50_1 : List VOp :=
  [mv 3 0 22,
   ⟨some 4, .binOp .eql 22 (.tmp 3) (.const (.slice none 0 0)) 22, 4, none⟩]
abbrev r50_2 : List VOp :=
  [zF 2 22]
abbrev r50_3 : List VOp :=
  [zBK 5 22,
   mv 6 0 22,
   zBL 7 5 6 22,
   asg 2 7 22]
def B50 : VC :=
  (.seq (.region r50_0) (.seq (.seq (.region r50_1) (.cond (.tmp 4) (.seq (.region r50_2) .ret) .skip)) (.seq (.region r50_3) .ret)))
theorem code50 : ∃ c, Tryz.f50.body = some c ∧ abs Tryz.f50.ntmps c = B50 := ⟨_, rfl, by kernel_rfl⟩
theorem hb50 : HasBody Tryz.prog 50 := hasBody_of Tryz.func50 (by kernel_rfl)
theorem enter50 (x0 : Value) : Ent 50 B50 #[(.tmp 2)] [x0] := ent code50 hb50 Tryz.func50 rfl rfl
/-! 54 columbary/bucket.Floor (params #[3, 3], results #[(.tmp 4), (.tmp 5)], 19 slots) -/
abbrev r54_0 : List VOp :=
  [zE 4 0 3,
   zE 5 0 37]
abbrev r54_1 : List VOp :=
  [mv 6 1 3,
   zBW 7 93 6 3 4,
   zCR 8 7,
   mv 9 8 4,
   zCK 10 0 3 9,
   zBX 11 101 10 3 9,
   zCS 12 11 9,
   zCM 13 9 12]
abbrev r54_2 : List VOp :=
  [zE 4 0 3,
   zE 5 111 37]
abbrev r54_3 : List VOp :=
  [mv 14 0 3,
   mv 15 0 3,
   mv 16 1 3,
   zBU 17 102 15 16 3 3 3,
   zBE 18 14 17,
   asg 4 18 3,
   zE 5 0 37]
def B54 : VC :=
  (.seq (.region r54_0) (.seq (.seq (.region r54_1) (.cond (.tmp 13) (.seq (.region r54_2) .ret) .skip)) (.seq (.region r54_3) .ret)))
theorem code54 : ∃ c, Tryz.f54.body = some c ∧ abs Tryz.f54.ntmps c = B54 := ⟨_, rfl, by kernel_rfl⟩
theorem hb54 : HasBody Tryz.prog 54 := hasBody_of Tryz.func54 (by kernel_rfl)
theorem enter54 (x0 x1 : Value) : Ent 54 B54 #[(.tmp 4), (.tmp 5)] [x0, x1] := ent code54 hb54 Tryz.func54 rfl rfl
/-! 93 columbary/bucket.Right (params #[3], results #[(.tmp 2)], 9 slots) -/
abbrev r93_0 : List VOp :=
  [zC 2]
abbrev r93_1 : List VOp :=
  [mv 3 0 3,
   zO 4 3 3 1,
   mv 5 4 4,
   zCL 6 0 3 5,
   zT 7 3 6 1048576 5,
   zCN 8 5 7,
   asg 2 8 4]
def B93 : VC :=
  (.seq (.region r93_0) (.seq (.region r93_1) .ret))
theorem code93 : ∃ c, Tryz.f93.body = some c ∧ abs Tryz.f93.ntmps c = B93 := ⟨_, rfl, by kernel_rfl⟩
theorem hb93 : HasBody Tryz.prog 93 := hasBody_of Tryz.func93 (by kernel_rfl)
theorem enter93 (x0 : Value) : Ent 93 B93 #[(.tmp 2)] [x0] := ent code93 hb93 Tryz.func93 rfl rfl
/-! 100 slices.Index[[]string,string] (params #[22, 9], results #[(.tmp 4)], 19 slots) -/
@[push_cast] def W100_0 : List Nat := [4, 5, 8, 9, 10, 11, 12, 13, 14, 15, 16, 17, 18]
abbrev r100_0 : List VOp :=
  [zE 4 0 3]
abbrev r100_1 : List VOp :=
  [mv 6 0 22,
   zBM 7 6 22,
   zCJ 8]
abbrev r100_2 : List VOp :=
  [zX 9 3 8 7 0]
abbrev r100_3 : List VOp :=
  [mv 10 8 3,
   asg 5 10 3]
abbrev r100_4 : List VOp :=
  [mv 11 1 9,
   mv 12 0 22,
   mv 13 5 3,
   iad 14 22 12 13,
   lda 15 9 14,
   zM 16 9 11 15]
abbrev r100_5 : List VOp :=
  [mv 17 5 3,
   asg 4 17 3]
abbrev r100_6 : List VOp :=
  [zG 18 8,
   mv 8 18 3]
abbrev r100_7 : List VOp :=
  [⟨some 4, .assign (.const (.int .i64 (-1))), 3, none⟩]
def B100 : VC :=
  (.seq (.region r100_0) (.seq (.seq (.region r100_1) (.block 0 (.loop (.seq (.region r100_2) (.seq (.cond (.tmp 9) .skip (.exit 0)) (.seq (.block 1 (.seq (.region r100_3) (.seq (.region r100_4) (.cond (.tmp 16) (.seq (.region r100_5) .ret) .skip)))) (.region r100_6))))))) (.seq (.region r100_7) .ret)))
theorem code100 : ∃ c, Tryz.f100.body = some c ∧ abs Tryz.f100.ntmps c = B100 := ⟨_, rfl, by kernel_rfl⟩
theorem hb100 : HasBody Tryz.prog 100 := hasBody_of Tryz.func100 (by kernel_rfl)
theorem enter100 (x0 x1 : Value) : Ent 100 B100 #[(.tmp 4)] [x0, x1] := ent code100 hb100 Tryz.func100 rfl rfl
/-! 101 columbary/bucket.fits (params #[3], results #[(.tmp 2)], 9 slots) -/
abbrev r101_0 : List VOp :=
  [zC 2]
abbrev r101_1 : List VOp :=
  [mv 3 0 3,
   ⟨some 4, .binOp .geq 3 (.tmp 3) (.const (.int .i64 (-1099511627776))) 3, 4, none⟩,
   mv 5 4 4,
   zCL 6 0 3 5,
   zT 7 3 6 1099511627776 5,
   zCN 8 5 7,
   asg 2 8 4]
def B101 : VC :=
  (.seq (.region r101_0) (.seq (.region r101_1) .ret))
theorem code101 : ∃ c, Tryz.f101.body = some c ∧ abs Tryz.f101.ntmps c = B101 := ⟨_, rfl, by kernel_rfl⟩
theorem hb101 : HasBody Tryz.prog 101 := hasBody_of Tryz.func101 (by kernel_rfl)
theorem enter101 (x0 : Value) : Ent 101 B101 #[(.tmp 2)] [x0] := ent code101 hb101 Tryz.func101 rfl rfl
/-! 102 columbary/bucket.rest (params #[3, 3], results #[(.tmp 4)], 12 slots) -/
abbrev r102_0 : List VOp :=
  [zE 4 0 3]
abbrev r102_1 : List VOp :=
  [mv 5 0 3,
   mv 6 1 3,
   ⟨some 7, .binOp .rem 3 (.tmp 5) (.tmp 6) 3, 3, none⟩,
   mv 8 1 3,
   zH 9 7 8,
   mv 10 1 3,
   ⟨some 11, .binOp .rem 3 (.tmp 9) (.tmp 10) 3, 3, none⟩,
   asg 4 11 3]
def B102 : VC :=
  (.seq (.region r102_0) (.seq (.region r102_1) .ret))
theorem code102 : ∃ c, Tryz.f102.body = some c ∧ abs Tryz.f102.ntmps c = B102 := ⟨_, rfl, by kernel_rfl⟩
theorem hb102 : HasBody Tryz.prog 102 := hasBody_of Tryz.func102 (by kernel_rfl)
theorem enter102 (x0 x1 : Value) : Ent 102 B102 #[(.tmp 4)] [x0, x1] := ent code102 hb102 Tryz.func102 rfl rfl
@[push_cast] theorem bsl22_0_Codes7A {K : Value → World → Prop} {w : World}  : vBuildSlice Tryz.prog 22 0 #[] K w = K (.slice (some ⟨w.heap.size, 0, none⟩) 0 0) (w.alloc (.cells #[] 9)) :=
  vBuildSlice_ok Tryz.underlying22 ti9 (by kernel_rfl) (by decide)
@[push_cast] theorem bsl22_1_Codes7A {K : Value → World → Prop} {w : World} (x0 : ByteArray) : vBuildSlice Tryz.prog 22 1 #[(0, (.string x0))] K w = K (.slice (some ⟨w.heap.size, 0, none⟩) 1 1) (w.alloc (.cells #[(.string x0)] 9)) :=
  vBuildSlice_ok Tryz.underlying22 ti9 (by kernel_rfl) (by decide)
@[push_cast] theorem bsl27_1_Codes7A {K : Value → World → Prop} {w : World} (x00 x01 x02 x03 : Value) : vBuildSlice Tryz.prog 27 1 #[(0, (.agg #[x00, x01, x02, x03]))] K w = K (.slice (some ⟨w.heap.size, 0, none⟩) 1 1) (w.alloc (.cells #[x00, x01, x02, x03] 29)) :=
  vBuildSlice_ok Tryz.underlying27 ti29 (by kernel_rfl) (by decide)
end Go.Proofs.YtnofalhkapmcnaaGreat
end
section
set_option linter.unusedSimpArgs false
namespace Go.Vc
open Go
def idxI {α : Type} (p : α → Bool) (l : List α) : Int := if l.any p then ((l.findIdx p : Nat) : Int) else -1
theorem idxI_hit {α : Type} {p : α → Bool} {l : List α} {i : Nat} (hi : i < l.length) (hp : p l[i] = true) (hno : (l.take i).any p = false) : idxI p l = (i : Int) := by
  have ha : l.any p = true := List.any_eq_true.2 ⟨l[i], List.getElem_mem hi, hp⟩
  have hf : l.findIdx p = i := by
    rw [List.findIdx_eq hi]
    refine ⟨hp, fun j hj => ?_⟩
    cases h : p (l[j]'(by omega)) with
    | false => rfl
    | true =>
      have : (l.take i).any p = true := List.any_eq_true.2 ⟨l[j]'(by omega), List.mem_take_iff_getElem.2 ⟨j, by omega, rfl⟩, h⟩
      rw [hno] at this; cases this
  unfold idxI
  rw [ha, hf]; rfl
theorem idxI_miss {α : Type} {p : α → Bool} {l : List α} (h : l.any p = false) : idxI p l = -1 := by
  unfold idxI; rw [h]; rfl
theorem idxI_ge {α : Type} (p : α → Bool) (l : List α) : decide (0 ≤ idxI p l) = l.any p := by
  cases h : l.any p with
  | true => unfold idxI; rw [h]; exact decide_eq_true (by simp)
  | false => rw [idxI_miss h]; rfl
theorem any_step {α : Type} {p : α → Bool} {l : List α} {i : Nat} (hi : i < l.length) (hp : p l[i] = false) (hno : (l.take i).any p = false) : (l.take (i + 1)).any p = false := by
  rw [List.take_succ_eq_append_getElem hi, List.any_append, hno]
  simp [hp]
def Prd (P : Program) (w : World) (g : FuncId) (lb : Array Value) (x : Value) (b : Bool) : Prop := ∀ w', Later w w' → FnC P g (#[x] ++ lb) w' fun v w'' => v = .bool b ∧ Later w' w''
@[push_cast] theorem app_nil_l (x : Array Value) : (#[] : Array Value) ++ x = x := by simp
end Go.Vc
namespace Go.Proofs.YtnofalhkapmcnaaGreat
open Go.Vc Go.Key
set_option maxRecDepth 100000
end Go.Proofs.YtnofalhkapmcnaaGreat
end
section
namespace Go.Proofs.YtnofalhkapmcnaaGreat
open Go.Vc
set_option maxRecDepth 100000
variable (Q : Post) (ds : List Deferred) (σ : Env) (w : World)
/-! 5 columbary/columbarylaw25.Fits (params #[24, 32, 33], results #[(.tmp 6)], 25 slots) -/
abbrev r5_0 : List VOp :=
  [zBF 3 24 0,
   zBF 4 32 1,
   zC 6]
abbrev r5_1 : List VOp :=
  [lda 9 24 3,
   mv 10 2 33,
   zBU 11 23 9 10 24 33 4,
   asg 7 11 4]
abbrev r5_2 : List VOp :=
  [lda 12 24 3,
   lda 13 32 4,
   zBU 14 14 12 13 24 32 4,
   asg 8 14 4]
abbrev r5_3 : List VOp :=
  [mv 15 7 4,
   mv 16 15 4,
   zCL 17 8 4 16,
   zCN 18 16 17,
   mv 19 18 4,
   zCG 20 24 3 19,
   zCG 21 32 4 19,
   zBV 22 17 20 21 24 32 37 19,
   zK 23 37 22 0 19,
   zCN 24 19 23,
   asg 6 24 4]
def B5 : VC :=
  (.seq (.region r5_0) (.seq (.region r5_1) (.seq (.region r5_2) (.seq (.region r5_3) .ret))))
theorem code5 : ∃ c, Tryz.f5.body = some c ∧ abs Tryz.f5.ntmps c = B5 := ⟨_, rfl, by kernel_rfl⟩
theorem hb5 : HasBody Tryz.prog 5 := hasBody_of Tryz.func5 (by kernel_rfl)
theorem enter5 (x0 x1 x2 : Value) : Ent 5 B5 #[(.tmp 6)] [x0, x1, x2] := ent code5 hb5 Tryz.func5 rfl rfl
/-! 6 columbary/columbarylaw25.alive (params #[], results #[(.tmp 0)], 68 slots) -/
abbrev r6_0 : List VOp :=
  [zC 0]
abbrev r6_1 : List VOp :=
  [⟨some 6, .buildSlice 22 1 #[(0, (.const (.string { data := #[97] })))], 22, none⟩,
   ⟨some 7, .buildSlice 22 1 #[(0, (.const (.string { data := #[109] })))], 22, none⟩,
   ⟨some 8, .build 24 #[(0, (.tmp 6)), (1, (.tmp 7))], 24, none⟩,
   zB 1 24,
   zA 24 1 8]
abbrev r6_2 : List VOp :=
  [⟨some 9, .buildSlice 22 1 #[(0, (.const (.string { data := #[120] })))], 22, none⟩,
   zBG 10 52 0 5 1 1 2 4,
   zBJ 11 53 10,
   zBH 12 55 0 3 1 9 2 2 3 11,
   ⟨some 13, .buildSlice 22 1 #[(0, (.const (.string { data := #[121] })))], 22, none⟩,
   zBG 14 52 0 9 1 9 2 9,
   zBJ 15 53 14,
   zBH 16 55 0 12 1 13 2 1 3 15,
   ⟨some 17, .buildSlice 22 1 #[(0, (.const (.string { data := #[120] })))], 22, none⟩,
   zBG 18 52 0 1 1 1 2 1,
   zBJ 19 53 18,
   zBH 20 55 0 15 1 17 2 1 3 19,
   ⟨some 21, .buildSlice 33 3 #[(0, (.tmp 12)), (1, (.tmp 16)), (2, (.tmp 20))], 33, none⟩,
   asg 2 21 33]
abbrev r6_3 : List VOp :=
  [zBI 22 58,
   ⟨some 23, .build 58 #[(0, (.const (.int .i64 3))), (1, (.const (.string { data := #[109] })))], 58, none⟩,
   ⟨some 24, .buildSlice 25 2 #[(0, (.tmp 22)), (1, (.tmp 23))], 25, none⟩,
   ⟨some 25, .buildSlice 22 1 #[(0, (.const (.string { data := #[97] })))], 22, none⟩,
   ⟨some 26, .build 32 #[(0, (.tmp 24)), (2, (.const (.int .i64 20))), (4, (.tmp 25)), (7, (.const (.int .i64 (-2))))], 32, none⟩,
   zB 3 32,
   zA 32 3 26]
abbrev r6_4 : List VOp :=
  [lda 28 24 1,
   lda 29 32 3,
   mv 30 2 33,
   zBT 31 7 28 29 30 24 32 33 38,
   mv 27 31 38,
   ext 32 27 0 36,
   ext 33 27 1 37,
   asg 4 32 36,
   asg 5 33 37]
abbrev r6_5 : List VOp :=
  [mv 34 5 37,
   zI 35 37 34 0,
   mv 36 35 4,
   zCL 37 4 36 36,
   zBO 38 37 36 36,
   zK 39 3 38 2 36,
   zCN 40 36 39,
   mv 41 40 4,
   zCL 42 4 36 41,
   zCE 43 36 42 0 41,
   zCC 44 61 43 1 41,
   zCG 45 22 44 41,
   zCE 46 22 45 0 41,
   zCG 47 9 46 41,
   ⟨some 48, .binOp .eql 9 (.tmp 47) (.const (.string { data := #[121] })) 9, 4, some (41, true)⟩,
   zCN 49 41 48,
   mv 50 49 4,
   zCL 51 4 36 50,
   zCE 52 36 51 1 50,
   zCC 53 61 52 2 50,
   zCG 54 59 53 50,
   zCE 55 59 54 0 50,
   zCG 56 3 55 50,
   zK 57 3 56 3 50,
   zCN 58 50 57,
   mv 59 58 4,
   zCL 60 4 36 59,
   zCE 61 36 60 1 59,
   zCC 62 61 61 2 59,
   zCG 63 59 62 59,
   zCE 64 59 63 1 59,
   zCG 65 3 64 59,
   zK 66 3 65 4 59,
   zCN 67 59 66,
   asg 0 67 4]
def B6 : VC :=
  (.seq (.region r6_0) (.seq (.region r6_1) (.seq (.region r6_2) (.seq (.region r6_3) (.seq (.region r6_4) (.seq (.region r6_5) .ret))))))
theorem code6 : ∃ c, Tryz.f6.body = some c ∧ abs Tryz.f6.ntmps c = B6 := ⟨_, rfl, by kernel_rfl⟩
theorem hb6 : HasBody Tryz.prog 6 := hasBody_of Tryz.func6 (by kernel_rfl)
theorem enter6 : Ent 6 B6 #[(.tmp 0)] [] := ent code6 hb6 Tryz.func6 rfl rfl
/-! 7 columbary/group.Run (params #[24, 32, 33], results #[(.tmp 6), (.tmp 7)], 26 slots) -/
abbrev r7_0 : List VOp :=
  [zBF 3 24 0,
   zBF 4 32 1,
   zF 6 36,
   zE 7 0 37]
abbrev r7_1 : List VOp :=
  [lda 11 24 3,
   lda 12 32 4,
   mv 13 2 33,
   zBT 14 9 11 12 13 24 32 33 40,
   mv 10 14 40,
   ext 15 10 0 33,
   ext 16 10 1 37,
   asg 8 15 33,
   asg 9 16 37]
abbrev r7_2 : List VOp :=
  [mv 17 9 37,
   zBA 18 37 17]
abbrev r7_3 : List VOp :=
  [mv 19 9 37,
   zF 6 36,
   asg 7 19 37]
abbrev r7_4 : List VOp :=
  [lda 20 24 3,
   lda 21 32 4,
   mv 22 8 33,
   zBT 23 24 20 21 22 24 32 33 38,
   ext 24 23 0 36,
   ext 25 23 1 37,
   asg 6 24 36,
   asg 7 25 37]
def B7 : VC :=
  (.seq (.region r7_0) (.seq (.region r7_1) (.seq (.seq (.region r7_2) (.cond (.tmp 18) (.seq (.region r7_3) .ret) .skip)) (.seq (.region r7_4) .ret))))
theorem code7 : ∃ c, Tryz.f7.body = some c ∧ abs Tryz.f7.ntmps c = B7 := ⟨_, rfl, by kernel_rfl⟩
theorem hb7 : HasBody Tryz.prog 7 := hasBody_of Tryz.func7 (by kernel_rfl)
theorem enter7 (x0 x1 x2 : Value) : Ent 7 B7 #[(.tmp 6), (.tmp 7)] [x0, x1, x2] := ent code7 hb7 Tryz.func7 rfl rfl
/-! 9 columbary/group.Fold (params #[24, 32, 33], results #[(.tmp 6), (.tmp 7)], 99 slots) -/
@[push_cast] def W9_0 : List Nat := [8, 10, 11, 12, 22, 23, 24, 25, 26, 27, 28, 29, 30, 31, 32, 33, 34, 35, 36]
@[push_cast] def W9_1 : List Nat := [13, 15, 16, 18, 39, 40, 41, 42, 43, 44, 45, 46, 47, 48, 49, 50, 51, 52, 53, 54, 55, 56, 57, 58, 59, 60, 61, 62, 63, 64, 65, 66, 67, 68, 69, 70, 71, 72, 73, 74, 75, 76, 77, 78, 79, 80, 81, 82, 83, 84, 85, 86, 87, 88, 89, 90, 91, 92, 93, 94]
@[push_cast] def W9_2 : List Nat := [18, 75, 76, 77, 78, 79, 80, 81, 82, 83, 84, 85, 86, 87, 88, 89]
abbrev r9_0 : List VOp :=
  [zBF 3 24 0,
   zBF 4 32 1,
   zF 6 33,
   zE 7 0 37]
abbrev r9_1 : List VOp :=
  [zF 8 59]
abbrev r9_2 : List VOp :=
  [fad 19 32 4 4,
   lda 20 22 19,
   zBM 21 20 22,
   zCJ 22]
abbrev r9_3 : List VOp :=
  [zX 23 3 22 21 0]
abbrev r9_4 : List VOp :=
  [iad 24 22 20 22,
   lda 25 9 24,
   asg 10 25 9]
abbrev r9_5 : List VOp :=
  [lda 27 24 3,
   mv 28 10 9,
   zBU 29 26 27 28 24 9 62,
   mv 26 29 62,
   ext 30 26 0 3,
   ext 31 26 1 4,
   asg 11 30 3,
   asg 12 31 4]
abbrev r9_6 : List VOp :=
  [mv 32 8 59,
   mv 33 11 3,
   zBJ 34 59 33,
   zBL 35 32 34 59,
   asg 8 35 59]
abbrev r9_7 : List VOp :=
  [zG 36 22,
   mv 22 36 3]
abbrev r9_8 : List VOp :=
  [zF 13 33]
abbrev r9_9 : List VOp :=
  [mv 37 2 33,
   zBM 38 37 33,
   zCJ 39]
abbrev r9_10 : List VOp :=
  [zX 40 3 39 38 0]
abbrev r9_11 : List VOp :=
  [iad 41 33 37 39,
   lda 42 55 41,
   zB 15 55,
   zA 55 15 42]
abbrev r9_12 : List VOp :=
  [fad 43 55 15 0,
   lda 44 3 43,
   fad 45 32 4 1,
   lda 46 3 45,
   zX 47 3 44 46 4,
   mv 48 47 4,
   zCB 49 55 15 0 48,
   zCF 50 3 49 48,
   zCB 51 32 4 2 48,
   zCF 52 3 51 48,
   ⟨some 53, .binOp .geq 3 (.tmp 50) (.tmp 52) 3, 4, some (48, false)⟩,
   zCM 54 48 53,
   mv 55 54 4,
   zCB 56 32 4 5 55,
   zCF 57 29 56 55,
   zCF 58 24 3 55,
   zCB 59 55 15 1 55,
   zCF 60 22 59 55,
   ⟨some 61, .call ⟨.value (.func 27), #[.tmp 57, .tmp 58, .tmp 60], #[29, 24, 22]⟩, 4, some (55, false)⟩,
   zCS 62 61 55,
   zCM 63 55 62]
def r9_13 : List (VOp × List Nat) := [(⟨some 64, .load 32 (.tmp 4), 32, none⟩, [4]), (⟨some 65, .fieldAddr 55 (.tmp 15) 0, 0, none⟩, [15]), (⟨some 66, .load 3 (.tmp 65), 3, none⟩, [65]), (⟨some 67, .call ⟨.value (.func 21), #[.tmp 64, .tmp 66], #[32, 3]⟩, 3, none⟩, [64, 66]), (⟨some 68, .fieldAddr 55 (.tmp 15) 2, 0, none⟩, [15]), (⟨some 69, .load 3 (.tmp 68), 3, none⟩, [68]), (⟨some 70, .fieldAddr 55 (.tmp 15) 3, 0, none⟩, [15]), (⟨some 71, .load 53 (.tmp 70), 53, none⟩, [70]), (⟨some 72, .build 55 #[(0, (.tmp 67)), (2, (.tmp 69)), (3, (.tmp 71))], 55, none⟩, [67, 69, 71]), (⟨some 16, .alloc 55, 0, none⟩, []), (⟨none, .store 55 (.tmp 16) (.tmp 72), 0, none⟩, [16, 72])]
abbrev r9_14 : List VOp :=
  [mv 73 8 59,
   zBM 74 73 59,
   zCJ 75]
abbrev r9_15 : List VOp :=
  [zX 76 3 75 74 0]
abbrev r9_16 : List VOp :=
  [iad 77 59 73 75,
   lda 78 3 77,
   asg 18 78 3]
def r9_17 : List (VOp × List Nat) := [(⟨some 79, .fieldAddr 55 (.tmp 16) 1, 0, none⟩, [16]), (⟨some 80, .load 22 (.tmp 79), 22, none⟩, [79]), (⟨some 81, .fieldAddr 55 (.tmp 15) 1, 0, none⟩, [15]), (⟨some 82, .load 22 (.tmp 81), 22, none⟩, [81]), (⟨some 83, .move (.tmp 18), 3, none⟩, [18]), (⟨some 84, .indexAddr 22 (.tmp 82) (.tmp 83), 0, none⟩, [82, 83]), (⟨some 85, .load 9 (.tmp 84), 9, none⟩, [84]), (⟨some 86, .buildSlice 22 1 #[(0, (.tmp 85))], 22, none⟩, [85]), (⟨some 87, .call ⟨.builtin .append, #[.tmp 80, .tmp 86], #[22, 22]⟩, 22, none⟩, [80, 86]), (⟨some 88, .fieldAddr 55 (.tmp 16) 1, 0, none⟩, [16]), (⟨none, .store 22 (.tmp 88) (.tmp 87), 0, none⟩, [88, 87])]
abbrev r9_18 : List VOp :=
  [zG 89 75,
   mv 75 89 3]
abbrev r9_19 : List VOp :=
  [mv 90 13 33,
   lda 91 55 16,
   zBJ 92 33 91,
   zBL 93 90 92 33,
   asg 13 93 33]
abbrev r9_20 : List VOp :=
  [zG 94 39,
   mv 39 94 3]
abbrev r9_21 : List VOp :=
  [mv 95 13 33,
   zBW 96 28 95 33 40,
   ext 97 96 0 33,
   ext 98 96 1 37,
   asg 6 97 33,
   asg 7 98 37]
def B9 : VC :=
  (.seq (.region r9_0) (.seq (.region r9_1) (.seq (.seq (.region r9_2) (.block 0 (.loop (.seq (.region r9_3) (.seq (.cond (.tmp 23) .skip (.exit 0)) (.seq (.block 1 (.seq (.region r9_4) (.seq (.region r9_5) (.region r9_6)))) (.region r9_7))))))) (.seq (.region r9_8) (.seq (.seq (.region r9_9) (.block 2 (.loop (.seq (.region r9_10) (.seq (.cond (.tmp 40) .skip (.exit 2)) (.seq (.block 3 (.seq (.region r9_11) (.seq (.seq (.region r9_12) (.cond (.tmp 63) (.exit 3) .skip)) (.seq (.draw (dR r9_13) 2) (.seq (.seq (.region r9_14) (.block 4 (.loop (.seq (.region r9_15) (.seq (.cond (.tmp 76) .skip (.exit 4)) (.seq (.block 5 (.seq (.region r9_16) (.draw (dR r9_17) 4))) (.region r9_18))))))) (.region r9_19)))))) (.region r9_20))))))) (.seq (.region r9_21) .ret))))))
theorem code9 : ∃ c, Tryz.f9.body = some c ∧ abs Tryz.f9.ntmps c = B9 := ⟨_, rfl, by kernel_rfl⟩
theorem hb9 : HasBody Tryz.prog 9 := hasBody_of Tryz.func9 (by kernel_rfl)
theorem enter9 (x0 x1 x2 : Value) : Ent 9 B9 #[(.tmp 6), (.tmp 7)] [x0, x1, x2] := ent code9 hb9 Tryz.func9 rfl rfl
@[push_cast] def vr9_13 := vD r9_13.eq_1 rfl 2
@[push_cast] def vr9_17 := vD r9_17.eq_1 rfl 4
/-! 11 columbary/columbaryref25.Same (params #[36, 36], results #[(.tmp 4)], 60 slots) -/
@[push_cast] def W11_0 : List Nat := [4, 5, 6, 7, 13, 14, 15, 16, 17, 18, 19, 20, 21, 22, 23, 24, 25, 26, 27, 28, 29, 30, 31, 32, 33, 34, 35, 36, 37, 38, 39, 40, 41, 42, 43, 44, 45, 46, 47, 48, 49, 50, 51, 52, 53, 54, 55, 56, 57, 58, 59]
abbrev r11_0 : List VOp :=
  [zC 4]
abbrev r11_1 : List VOp :=
  [mv 8 0 36,
   zBM 9 8 36,
   mv 10 1 36,
   zBM 11 10 36,
   zBB 12 3 9 11]
abbrev r11_2 : List VOp :=
  [zC 4]
abbrev r11_3 : List VOp :=
  [zE 5 0 3]
abbrev r11_4 : List VOp :=
  [mv 13 5 3,
   mv 14 0 36,
   zBM 15 14 36,
   zX 16 3 13 15 4]
def r11_6 : List (VOp × List Nat) := [(⟨some 19, .move (.tmp 0), 36, none⟩, [0]), (⟨some 20, .move (.tmp 5), 3, none⟩, [5]), (⟨some 21, .indexAddr 36 (.tmp 19) (.tmp 20), 0, none⟩, [19, 20]), (⟨some 22, .fieldAddr 61 (.tmp 21) 1, 0, none⟩, [21]), (⟨some 23, .load 22 (.tmp 22), 22, none⟩, [22]), (⟨some 24, .move (.tmp 1), 36, none⟩, [1]), (⟨some 25, .move (.tmp 5), 3, none⟩, [5]), (⟨some 26, .indexAddr 36 (.tmp 24) (.tmp 25), 0, none⟩, [24, 25]), (⟨some 27, .fieldAddr 61 (.tmp 26) 1, 0, none⟩, [26]), (⟨some 28, .load 22 (.tmp 27), 22, none⟩, [27]), (⟨some 29, .call ⟨.value (.func 18), #[.tmp 23, .tmp 28], #[22, 22]⟩, 4, none⟩, [23, 28]), (⟨some 6, .assign (.tmp 29), 4, none⟩, [29])]
def r11_7 : List (VOp × List Nat) := [(⟨some 30, .move (.tmp 0), 36, none⟩, [0]), (⟨some 31, .move (.tmp 5), 3, none⟩, [5]), (⟨some 32, .indexAddr 36 (.tmp 30) (.tmp 31), 0, none⟩, [30, 31]), (⟨some 33, .fieldAddr 61 (.tmp 32) 2, 0, none⟩, [32]), (⟨some 34, .load 59 (.tmp 33), 59, none⟩, [33]), (⟨some 35, .move (.tmp 1), 36, none⟩, [1]), (⟨some 36, .move (.tmp 5), 3, none⟩, [5]), (⟨some 37, .indexAddr 36 (.tmp 35) (.tmp 36), 0, none⟩, [35, 36]), (⟨some 38, .fieldAddr 61 (.tmp 37) 2, 0, none⟩, [37]), (⟨some 39, .load 59 (.tmp 38), 59, none⟩, [38]), (⟨some 40, .call ⟨.value (.func 32), #[.tmp 34, .tmp 39], #[59, 59]⟩, 4, none⟩, [34, 39]), (⟨some 7, .assign (.tmp 40), 4, none⟩, [40])]
def r11_8 : List (VOp × List Nat) := [(⟨some 41, .move (.tmp 6), 4, none⟩, [6]), (⟨some 42, .unOp .not 4 (.tmp 41), 4, none⟩, [41]), (⟨some 43, .move (.tmp 42), 4, none⟩, [42]), (⟨some 44, .move (.tmp 7), 4, some (43, false)⟩, [7, 43]), (⟨some 45, .unOp .not 4 (.tmp 44), 4, some (43, false)⟩, [44, 43]), (⟨some 46, .pick (.tmp 43) (.const (.bool true)) (.tmp 45), 4, none⟩, [43, 45]), (⟨some 47, .move (.tmp 46), 4, none⟩, [46]), (⟨some 48, .move (.tmp 0), 36, some (47, false)⟩, [0, 47]), (⟨some 49, .move (.tmp 5), 3, some (47, false)⟩, [5, 47]), (⟨some 50, .indexAddr 36 (.tmp 48) (.tmp 49), 0, some (47, false)⟩, [48, 49, 47]), (⟨some 51, .fieldAddr 61 (.tmp 50) 0, 0, some (47, false)⟩, [50, 47]), (⟨some 52, .load 3 (.tmp 51), 3, some (47, false)⟩, [51, 47]), (⟨some 53, .move (.tmp 1), 36, some (47, false)⟩, [1, 47]), (⟨some 54, .move (.tmp 5), 3, some (47, false)⟩, [5, 47]), (⟨some 55, .indexAddr 36 (.tmp 53) (.tmp 54), 0, some (47, false)⟩, [53, 54, 47]), (⟨some 56, .fieldAddr 61 (.tmp 55) 0, 0, some (47, false)⟩, [55, 47]), (⟨some 57, .load 3 (.tmp 56), 3, some (47, false)⟩, [56, 47]), (⟨some 58, .binOp .neq 3 (.tmp 52) (.tmp 57) 3, 4, some (47, false)⟩, [52, 57, 47]), (⟨some 59, .pick (.tmp 47) (.const (.bool true)) (.tmp 58), 4, none⟩, [47, 58])]
abbrev r11_9 : List VOp :=
  [zC 4]
abbrev r11_5 : List VOp :=
  [mv 17 5 3,
   zG 18 17,
   asg 5 18 3]
abbrev r11_10 : List VOp :=
  [zD 4]
def B11 : VC :=
  (.seq (.region r11_0) (.seq (.seq (.region r11_1) (.cond (.tmp 12) (.seq (.region r11_2) .ret) .skip)) (.seq (.seq (.region r11_3) (.block 0 (.loop (.seq (.seq (.region r11_4) (.cond (.tmp 16) .skip (.exit 0))) (.seq (.block 1 (.seq (.draw (dR r11_6) 3) (.seq (.draw (dR r11_7) 3) (.seq (.draw (dR r11_8) 3) (.cond (.tmp 59) (.seq (.region r11_9) .ret) .skip))))) (.region r11_5)))))) (.seq (.region r11_10) .ret))))
theorem code11 : ∃ c, Tryz.f11.body = some c ∧ abs Tryz.f11.ntmps c = B11 := ⟨_, rfl, by kernel_rfl⟩
theorem hb11 : HasBody Tryz.prog 11 := hasBody_of Tryz.func11 (by kernel_rfl)
theorem enter11 (x0 x1 : Value) : Ent 11 B11 #[(.tmp 4)] [x0, x1] := ent code11 hb11 Tryz.func11 rfl rfl
@[push_cast] def vr11_6 := vD r11_6.eq_1 rfl 3
@[push_cast] def vr11_7 := vD r11_7.eq_1 rfl 3
@[push_cast] def vr11_8 := vD r11_8.eq_1 rfl 3
/-! 21 columbary/typer.Bucket (params #[32, 3], results #[(.tmp 4)], 20 slots) -/
abbrev r21_0 : List VOp :=
  [zBF 2 32 0,
   zE 4 0 3]
abbrev r21_1 : List VOp :=
  [fad 7 32 2 3,
   lda 8 3 7,
   zI 9 3 8 0]
abbrev r21_2 : List VOp :=
  [fad 10 32 2 1,
   lda 11 3 10,
   asg 4 11 3]
abbrev r21_3 : List VOp :=
  [mv 13 1 3,
   fad 14 32 2 3,
   lda 15 3 14,
   zBU 16 54 13 15 3 3 82,
   mv 12 16 82,
   ext 17 12 0 3,
   ext 18 12 1 37,
   asg 5 17 3,
   asg 6 18 37]
abbrev r21_4 : List VOp :=
  [mv 19 5 3,
   asg 4 19 3]
def B21 : VC :=
  (.seq (.region r21_0) (.seq (.seq (.region r21_1) (.cond (.tmp 9) (.seq (.region r21_2) .ret) .skip)) (.seq (.region r21_3) (.seq (.region r21_4) .ret))))
theorem code21 : ∃ c, Tryz.f21.body = some c ∧ abs Tryz.f21.ntmps c = B21 := ⟨_, rfl, by kernel_rfl⟩
theorem hb21 : HasBody Tryz.prog 21 := hasBody_of Tryz.func21 (by kernel_rfl)
theorem enter21 (x0 x1 : Value) : Ent 21 B21 #[(.tmp 4)] [x0, x1] := ent code21 hb21 Tryz.func21 rfl rfl
/-! 24 columbary/group.Finish (params #[24, 32, 33], results #[(.tmp 6), (.tmp 7)], 80 slots) -/
@[push_cast] def W24_0 : List Nat := [9, 11, 12, 14, 26, 27, 28, 29, 30, 31, 32, 33, 34, 35, 36, 37, 38, 39, 40, 41, 42, 43, 44, 45, 46, 47, 48, 49, 50, 51, 52, 53, 54, 55, 56, 57, 58, 59, 60, 61]
@[push_cast] def W24_1 : List Nat := [14, 43, 44, 45, 46, 47, 48, 49, 50, 51, 52, 53, 54, 55, 56]
abbrev r24_0 : List VOp :=
  [zBF 3 24 0,
   zBF 4 32 1,
   zF 6 36,
   zE 7 0 37]
abbrev r24_1 : List VOp :=
  [mv 17 2 33,
   zBW 18 28 17 33 40,
   mv 16 18 40,
   ext 19 16 0 33,
   ext 20 16 1 37,
   asg 2 19 33,
   asg 8 20 37]
abbrev r24_2 : List VOp :=
  [mv 21 8 37,
   zBA 22 37 21]
abbrev r24_3 : List VOp :=
  [mv 23 8 37,
   zF 6 36,
   asg 7 23 37]
abbrev r24_4 : List VOp :=
  [zF 9 36]
abbrev r24_5 : List VOp :=
  [mv 24 2 33,
   zBM 25 24 33,
   zCJ 26]
abbrev r24_6 : List VOp :=
  [zX 27 3 26 25 0]
abbrev r24_7 : List VOp :=
  [iad 28 33 24 26,
   lda 29 55 28,
   zB 11 55,
   zA 55 11 29]
abbrev r24_8 : List VOp :=
  [lda 30 24 3,
   lda 31 32 4,
   lda 32 55 11,
   zBT 33 56 30 31 32 24 32 55 4,
   zCR 34 33]
abbrev r24_9 : List VOp :=
  [fad 35 55 11 0,
   lda 36 3 35,
   fad 37 55 11 1,
   lda 38 22 37,
   ⟨some 39, .build 61 #[(0, (.tmp 36)), (1, (.tmp 38))], 61, none⟩,
   zB 12 61,
   zA 61 12 39]
abbrev r24_10 : List VOp :=
  [fad 40 32 4 0,
   lda 41 25 40,
   zBM 42 41 25,
   zCJ 43]
abbrev r24_11 : List VOp :=
  [zX 44 3 43 42 0]
abbrev r24_12 : List VOp :=
  [iad 45 25 41 43,
   lda 46 58 45,
   zB 14 58,
   zA 58 14 46]
def r24_13 : List (VOp × List Nat) := [(⟨some 47, .fieldAddr 61 (.tmp 12) 2, 0, none⟩, [12]), (⟨some 48, .load 59 (.tmp 47), 59, none⟩, [47]), (⟨some 49, .load 24 (.tmp 3), 24, none⟩, [3]), (⟨some 50, .load 58 (.tmp 14), 58, none⟩, [14]), (⟨some 51, .load 55 (.tmp 11), 55, none⟩, [11]), (⟨some 52, .call ⟨.value (.func 57), #[.tmp 49, .tmp 50, .tmp 51], #[24, 58, 55]⟩, 3, none⟩, [49, 50, 51]), (⟨some 53, .buildSlice 59 1 #[(0, (.tmp 52))], 59, none⟩, [52]), (⟨some 54, .call ⟨.builtin .append, #[.tmp 48, .tmp 53], #[59, 59]⟩, 59, none⟩, [48, 53]), (⟨some 55, .fieldAddr 61 (.tmp 12) 2, 0, none⟩, [12]), (⟨none, .store 59 (.tmp 55) (.tmp 54), 0, none⟩, [55, 54])]
abbrev r24_14 : List VOp :=
  [zG 56 43,
   mv 43 56 3]
abbrev r24_15 : List VOp :=
  [mv 57 9 36,
   lda 58 61 12,
   zBJ 59 36 58,
   zBL 60 57 59 36,
   asg 9 60 36]
abbrev r24_16 : List VOp :=
  [zG 61 26,
   mv 26 61 3]
abbrev r24_17 : List VOp :=
  [fad 62 32 4 7,
   lda 63 3 62,
   zB 15 3,
   zA 3 15 63]
abbrev r24_18 : List VOp :=
  [lda 64 3 15,
   zBA 65 3 64]
abbrev r24_19 : List VOp :=
  [mv 66 9 36,
   zCI 67 59 15 89,
   zBU 68 58 66 67 36 89 0]
abbrev r24_20 : List VOp :=
  [fad 69 32 4 8,
   lda 70 3 69,
   zQ 71 70 0]
abbrev r24_21 : List VOp :=
  [mv 72 9 36,
   mv 73 9 36,
   zBM 74 73 36,
   fad 75 32 4 8,
   lda 76 3 75,
   zBQ 77 74 76 3,
   zCQ 78 36 72 77,
   asg 9 78 36]
abbrev r24_22 : List VOp :=
  [mv 79 9 36,
   asg 6 79 36,
   zE 7 0 37]
def B24 : VC :=
  (.seq (.region r24_0) (.seq (.region r24_1) (.seq (.seq (.region r24_2) (.cond (.tmp 22) (.seq (.region r24_3) .ret) .skip)) (.seq (.region r24_4) (.seq (.seq (.region r24_5) (.block 0 (.loop (.seq (.region r24_6) (.seq (.cond (.tmp 27) .skip (.exit 0)) (.seq (.block 1 (.seq (.region r24_7) (.seq (.seq (.region r24_8) (.cond (.tmp 34) (.exit 1) .skip)) (.seq (.region r24_9) (.seq (.seq (.region r24_10) (.block 2 (.loop (.seq (.region r24_11) (.seq (.cond (.tmp 44) .skip (.exit 2)) (.seq (.block 3 (.seq (.region r24_12) (.draw (dR r24_13) 4))) (.region r24_14))))))) (.region r24_15)))))) (.region r24_16))))))) (.seq (.seq (.region r24_17) (.seq (.region r24_18) (.cond (.tmp 65) (.region r24_19) .skip))) (.seq (.seq (.region r24_20) (.cond (.tmp 71) (.region r24_21) .skip)) (.seq (.region r24_22) .ret))))))))
theorem code24 : ∃ c, Tryz.f24.body = some c ∧ abs Tryz.f24.ntmps c = B24 := ⟨_, rfl, by kernel_rfl⟩
theorem hb24 : HasBody Tryz.prog 24 := hasBody_of Tryz.func24 (by kernel_rfl)
theorem enter24 (x0 x1 x2 : Value) : Ent 24 B24 #[(.tmp 6), (.tmp 7)] [x0, x1, x2] := ent code24 hb24 Tryz.func24 rfl rfl
@[push_cast] def vr24_13 := vD r24_13.eq_1 rfl 4
/-! 26 columbary/schema.Dim (params #[24, 9], results #[(.tmp 4), (.tmp 5)], 12 slots) -/
abbrev r26_0 : List VOp :=
  [zBF 2 24 0,
   zE 4 0 3,
   zC 5]
abbrev r26_1 : List VOp :=
  [fad 6 24 2 0,
   lda 7 22 6,
   mv 8 1 9,
   zBU 9 64 7 8 22 9 62,
   ext 10 9 0 3,
   ext 11 9 1 4,
   asg 4 10 3,
   asg 5 11 4]
def B26 : VC :=
  (.seq (.region r26_0) (.seq (.region r26_1) .ret))
theorem code26 : ∃ c, Tryz.f26.body = some c ∧ abs Tryz.f26.ntmps c = B26 := ⟨_, rfl, by kernel_rfl⟩
theorem hb26 : HasBody Tryz.prog 26 := hasBody_of Tryz.func26 (by kernel_rfl)
theorem enter26 (x0 x1 : Value) : Ent 26 B26 #[(.tmp 4), (.tmp 5)] [x0, x1] := ent code26 hb26 Tryz.func26 rfl rfl
/-! 27 columbary/filter.Takes (params #[29, 24, 22], results #[(.tmp 6)], 59 slots) -/
abbrev r27_0 : List VOp :=
  [zBF 3 29 0,
   zBF 4 24 1,
   zBF 5 22 2,
   zC 6]
abbrev r27_1 : List VOp :=
  [zCH 10 65 4 5 91,
   zB 7 91,
   zA 91 7 10]
abbrev r27_2 : List VOp :=
  [fad 11 29 3 0,
   lda 12 26 11]
abbrev r27_3 : List VOp :=
  [zI 14 26 12 1,
   asg 13 14 4]
abbrev r27_4 : List VOp :=
  [zI 15 26 12 2,
   asg 13 15 4]
abbrev r27_5 : List VOp :=
  [lda 17 24 4,
   fad 18 29 3 1,
   lda 19 9 18,
   zBU 20 26 17 19 24 9 62,
   mv 16 20 62,
   ext 21 16 0 3,
   ext 22 16 1 4,
   asg 8 21 3,
   asg 9 22 4]
def r27_6 : List (VOp × List Nat) := [(⟨some 23, .move (.tmp 9), 4, none⟩, [9]), (⟨some 24, .move (.tmp 23), 4, none⟩, [23]), (⟨some 25, .move (.tmp 8), 3, some (24, true)⟩, [8, 24]), (⟨some 26, .load 22 (.tmp 5), 22, some (24, true)⟩, [5, 24]), (⟨some 27, .call ⟨.builtin .len, #[.tmp 26], #[22]⟩, 3, some (24, true)⟩, [26, 24]), (⟨some 28, .binOp .lss 3 (.tmp 25) (.tmp 27) 3, 4, some (24, true)⟩, [25, 27, 24]), (⟨some 29, .pick (.tmp 24) (.tmp 28) (.const (.bool false)), 4, none⟩, [24, 28]), (⟨some 30, .move (.tmp 29), 4, none⟩, [29]), (⟨some 31, .load 22 (.tmp 5), 22, some (30, true)⟩, [5, 30]), (⟨some 32, .move (.tmp 8), 3, some (30, true)⟩, [8, 30]), (⟨some 33, .indexAddr 22 (.tmp 31) (.tmp 32), 0, some (30, true)⟩, [31, 32, 30]), (⟨some 34, .load 9 (.tmp 33), 9, some (30, true)⟩, [33, 30]), (⟨some 35, .fieldAddr 29 (.tmp 3) 2, 0, some (30, true)⟩, [3, 30]), (⟨some 36, .load 9 (.tmp 35), 9, some (30, true)⟩, [35, 30]), (⟨some 37, .binOp .eql 9 (.tmp 34) (.tmp 36) 9, 4, some (30, true)⟩, [34, 36, 30]), (⟨some 38, .pick (.tmp 30) (.tmp 37) (.const (.bool false)), 4, none⟩, [30, 37]), (⟨some 6, .assign (.tmp 38), 4, none⟩, [38])]
abbrev r27_7 : List VOp :=
  [zI 40 26 12 3,
   asg 39 40 4]
abbrev r27_8 : List VOp :=
  [fad 41 29 3 3,
   lda 42 27 41,
   lda 43 91 7,
   zBU 44 66 42 43 27 91 4,
   zCR 45 44,
   asg 6 45 4]
abbrev r27_9 : List VOp :=
  [zI 47 26 12 4,
   asg 46 47 4]
abbrev r27_10 : List VOp :=
  [fad 48 29 3 3,
   lda 49 27 48,
   zCI 50 67 7 91,
   zBU 51 66 49 50 27 91 4,
   zCR 52 51,
   asg 6 52 4]
abbrev r27_11 : List VOp :=
  [zI 54 26 12 5,
   asg 53 54 4]
abbrev r27_12 : List VOp :=
  [fad 55 29 3 3,
   lda 56 27 55,
   lda 57 91 7,
   zBU 58 66 56 57 27 91 4,
   asg 6 58 4]
abbrev r27_13 : List VOp :=
  [zD 6]
def B27 : VC :=
  (.seq (.region r27_0) (.seq (.region r27_1) (.seq (.seq (.region r27_2) (.block 0 (.seq (.seq (.region r27_3) (.cond (.tmp 13) .skip (.region r27_4))) (.cond (.tmp 13) (.seq (.region r27_5) (.seq (.draw (dR r27_6) 4) .ret)) (.seq (.region r27_7) (.cond (.tmp 39) (.seq (.region r27_8) .ret) (.seq (.region r27_9) (.cond (.tmp 46) (.seq (.region r27_10) .ret) (.seq (.region r27_11) (.cond (.tmp 53) (.seq (.region r27_12) .ret) .skip)))))))))) (.seq (.region r27_13) .ret))))
theorem code27 : ∃ c, Tryz.f27.body = some c ∧ abs Tryz.f27.ntmps c = B27 := ⟨_, rfl, by kernel_rfl⟩
theorem hb27 : HasBody Tryz.prog 27 := hasBody_of Tryz.func27 (by kernel_rfl)
theorem enter27 (x0 x1 x2 : Value) : Ent 27 B27 #[(.tmp 6)] [x0, x1, x2] := ent code27 hb27 Tryz.func27 rfl rfl
@[push_cast] def vr27_6 := vD r27_6.eq_1 rfl 4
/-! 32 columbary/columbaryref04.Ints (params #[59, 59], results #[(.tmp 4)], 26 slots) -/
@[push_cast] def W32_0 : List Nat := [4, 5, 11, 12, 13, 14, 15, 16, 17, 18, 19, 20, 21, 22, 23, 24, 25]
abbrev r32_0 : List VOp :=
  [zC 4]
abbrev r32_1 : List VOp :=
  [mv 6 0 59,
   zBM 7 6 59,
   mv 8 1 59,
   zBM 9 8 59,
   zBB 10 3 7 9]
abbrev r32_2 : List VOp :=
  [zC 4]
abbrev r32_3 : List VOp :=
  [zE 5 0 3]
abbrev r32_4 : List VOp :=
  [mv 11 5 3,
   mv 12 0 59,
   zBM 13 12 59,
   zX 14 3 11 13 4]
def r32_6 : List (VOp × List Nat) := [(⟨some 17, .move (.tmp 0), 59, none⟩, [0]), (⟨some 18, .move (.tmp 5), 3, none⟩, [5]), (⟨some 19, .indexAddr 59 (.tmp 17) (.tmp 18), 0, none⟩, [17, 18]), (⟨some 20, .load 3 (.tmp 19), 3, none⟩, [19]), (⟨some 21, .move (.tmp 1), 59, none⟩, [1]), (⟨some 22, .move (.tmp 5), 3, none⟩, [5]), (⟨some 23, .indexAddr 59 (.tmp 21) (.tmp 22), 0, none⟩, [21, 22]), (⟨some 24, .load 3 (.tmp 23), 3, none⟩, [23]), (⟨some 25, .binOp .neq 3 (.tmp 20) (.tmp 24) 3, 4, none⟩, [20, 24])]
abbrev r32_7 : List VOp :=
  [zC 4]
abbrev r32_5 : List VOp :=
  [mv 15 5 3,
   zG 16 15,
   asg 5 16 3]
abbrev r32_8 : List VOp :=
  [zD 4]
def B32 : VC :=
  (.seq (.region r32_0) (.seq (.seq (.region r32_1) (.cond (.tmp 10) (.seq (.region r32_2) .ret) .skip)) (.seq (.seq (.region r32_3) (.block 0 (.loop (.seq (.seq (.region r32_4) (.cond (.tmp 14) .skip (.exit 0))) (.seq (.block 1 (.seq (.draw (dR r32_6) 2) (.cond (.tmp 25) (.seq (.region r32_7) .ret) .skip))) (.region r32_5)))))) (.seq (.region r32_8) .ret))))
theorem code32 : ∃ c, Tryz.f32.body = some c ∧ abs Tryz.f32.ntmps c = B32 := ⟨_, rfl, by kernel_rfl⟩
theorem hb32 : HasBody Tryz.prog 32 := hasBody_of Tryz.func32 (by kernel_rfl)
theorem enter32 (x0 x1 : Value) : Ent 32 B32 #[(.tmp 4)] [x0, x1] := ent code32 hb32 Tryz.func32 rfl rfl
@[push_cast] def vr32_6 := vD r32_6.eq_1 rfl 2
/-! 56 columbary/group.stays (params #[24, 32, 55], results #[(.tmp 6)], 12 slots) -/
abbrev r56_0 : List VOp :=
  [zBF 3 24 0,
   zBF 4 32 1,
   zBF 5 55 2,
   zC 6]
abbrev r56_1 : List VOp :=
  [fad 7 32 4 6,
   lda 8 30 7,
   zCH 9 105 3 5 104,
   zBU 10 80 8 9 30 104 4,
   zCR 11 10,
   asg 6 11 4]
def B56 : VC :=
  (.seq (.region r56_0) (.seq (.region r56_1) .ret))
theorem code56 : ∃ c, Tryz.f56.body = some c ∧ abs Tryz.f56.ntmps c = B56 := ⟨_, rfl, by kernel_rfl⟩
theorem hb56 : HasBody Tryz.prog 56 := hasBody_of Tryz.func56 (by kernel_rfl)
theorem enter56 (x0 x1 x2 : Value) : Ent 56 B56 #[(.tmp 6)] [x0, x1, x2] := ent code56 hb56 Tryz.func56 rfl rfl
/-! 57 columbary/group.term (params #[24, 58, 55], results #[(.tmp 6)], 23 slots) -/
abbrev r57_0 : List VOp :=
  [zBF 3 24 0,
   zBF 4 58 1,
   zBF 5 55 2,
   zE 6 0 3]
abbrev r57_1 : List VOp :=
  [lda 10 24 3,
   fad 11 58 4 1,
   lda 12 9 11,
   zBU 13 106 10 12 24 9 62,
   mv 9 13 62,
   ext 14 9 0 3,
   ext 15 9 1 4,
   asg 7 14 3,
   asg 8 15 4]
def r57_2 : List (VOp × List Nat) := [(⟨some 16, .call ⟨.value (.func 107), #[], #[]⟩, 119, none⟩, []), (⟨some 17, .fieldAddr 58 (.tmp 4) 0, 0, none⟩, [4]), (⟨some 18, .load 56 (.tmp 17), 56, none⟩, [17]), (⟨some 19, .index 119 (.tmp 16) (.tmp 18), 118, none⟩, [16, 18]), (⟨some 20, .load 55 (.tmp 5), 55, none⟩, [5]), (⟨some 21, .move (.tmp 7), 3, none⟩, [7]), (⟨some 22, .call ⟨.value (.tmp 19), #[.tmp 20, .tmp 21], #[55, 3]⟩, 3, none⟩, [19, 20, 21]), (⟨some 6, .assign (.tmp 22), 3, none⟩, [22])]
def B57 : VC :=
  (.seq (.region r57_0) (.seq (.region r57_1) (.seq (.draw (dR r57_2) 3) .ret)))
theorem code57 : ∃ c, Tryz.f57.body = some c ∧ abs Tryz.f57.ntmps c = B57 := ⟨_, rfl, by kernel_rfl⟩
theorem hb57 : HasBody Tryz.prog 57 := hasBody_of Tryz.func57 (by kernel_rfl)
theorem enter57 (x0 x1 x2 : Value) : Ent 57 B57 #[(.tmp 6)] [x0, x1, x2] := ent code57 hb57 Tryz.func57 rfl rfl
@[push_cast] def vr57_2 := vD r57_2.eq_1 rfl 3
/-! 59 columbary/group.Finish$1 (params #[61, 61], results #[(.tmp 5)], 27 slots) -/
abbrev r59_0 : List VOp :=
  [zBF 3 61 0,
   zBF 4 61 1,
   zE 5 0 3]
abbrev r59_1 : List VOp :=
  [lda 7 3 2,
   zW 8 3 7 0 4]
abbrev r59_2 : List VOp :=
  [lda 9 61 4,
   lda 10 61 3,
   zA 61 3 9,
   zA 61 4 10]
abbrev r59_3 : List VOp :=
  [lda 11 3 2,
   lda 12 3 2,
   ⟨some 13, .unOp .neg 3 (.tmp 12), 3, none⟩,
   zBP 14 11 13,
   zBD 15 14,
   asg 6 15 3]
def r59_4 : List (VOp × List Nat) := [(⟨some 16, .fieldAddr 61 (.tmp 3) 2, 0, none⟩, [3]), (⟨some 17, .load 59 (.tmp 16), 59, none⟩, [16]), (⟨some 18, .move (.tmp 6), 3, none⟩, [6]), (⟨some 19, .indexAddr 59 (.tmp 17) (.tmp 18), 0, none⟩, [17, 18]), (⟨some 20, .load 3 (.tmp 19), 3, none⟩, [19]), (⟨some 21, .fieldAddr 61 (.tmp 4) 2, 0, none⟩, [4]), (⟨some 22, .load 59 (.tmp 21), 59, none⟩, [21]), (⟨some 23, .move (.tmp 6), 3, none⟩, [6]), (⟨some 24, .indexAddr 59 (.tmp 22) (.tmp 23), 0, none⟩, [22, 23]), (⟨some 25, .load 3 (.tmp 24), 3, none⟩, [24]), (⟨some 26, .call ⟨.value (.func 60), #[.tmp 20, .tmp 25], #[3, 3]⟩, 3, none⟩, [20, 25]), (⟨some 5, .assign (.tmp 26), 3, none⟩, [26])]
def B59 : VC :=
  (.seq (.region r59_0) (.seq (.seq (.region r59_1) (.cond (.tmp 8) (.region r59_2) .skip)) (.seq (.region r59_3) (.seq (.draw (dR r59_4) 3) .ret))))
theorem code59 : ∃ c, Tryz.f59.body = some c ∧ abs Tryz.f59.ntmps c = B59 := ⟨_, rfl, by kernel_rfl⟩
theorem hb59 : HasBody Tryz.prog 59 := hasBody_of Tryz.func59 (by kernel_rfl)
theorem enter59 (x0 x1 x2 : Value) : Ent 59 B59 #[(.tmp 5)] [x0, x1, x2] := ent code59 hb59 Tryz.func59 rfl rfl
@[push_cast] def vr59_4 := vD r59_4.eq_1 rfl 3
/-! 64 columbary/schema.find (params #[22, 9], results #[(.tmp 4), (.tmp 5)], 14 slots) -/
abbrev r64_0 : List VOp :=
  [zE 4 0 3,
   zC 5]
abbrev r64_1 : List VOp :=
  [mv 7 0 22,
   mv 8 1 9,
   zBU 9 100 7 8 22 9 3,
   asg 6 9 3]
abbrev r64_2 : List VOp :=
  [mv 10 6 3,
   ⟨some 11, .call ⟨.builtin .max, #[(.tmp 10), (.const (.int .i64 0))], #[3, 3]⟩, 3, none⟩,
   mv 12 6 3,
   zO 13 3 12 0,
   asg 4 11 3,
   asg 5 13 4]
def B64 : VC :=
  (.seq (.region r64_0) (.seq (.region r64_1) (.seq (.region r64_2) .ret)))
theorem code64 : ∃ c, Tryz.f64.body = some c ∧ abs Tryz.f64.ntmps c = B64 := ⟨_, rfl, by kernel_rfl⟩
theorem hb64 : HasBody Tryz.prog 64 := hasBody_of Tryz.func64 (by kernel_rfl)
theorem enter64 (x0 x1 : Value) : Ent 64 B64 #[(.tmp 4), (.tmp 5)] [x0, x1] := ent code64 hb64 Tryz.func64 rfl rfl
/-! 65 columbary/filter.Takes$1 (params #[29], results #[(.tmp 4)], 9 slots) -/
abbrev r65_0 : List VOp :=
  [zBF 3 29 0,
   zC 4]
abbrev r65_1 : List VOp :=
  [lda 5 29 3,
   lda 6 24 1,
   lda 7 22 2,
   zBT 8 27 5 6 7 29 24 22 4,
   asg 4 8 4]
def B65 : VC :=
  (.seq (.region r65_0) (.seq (.region r65_1) .ret))
theorem code65 : ∃ c, Tryz.f65.body = some c ∧ abs Tryz.f65.ntmps c = B65 := ⟨_, rfl, by kernel_rfl⟩
theorem hb65 : HasBody Tryz.prog 65 := hasBody_of Tryz.func65 (by kernel_rfl)
theorem enter65 (x0 x1 x2 : Value) : Ent 65 B65 #[(.tmp 4)] [x0, x1, x2] := ent code65 hb65 Tryz.func65 rfl rfl
/-! 66 slices.ContainsFunc[[]columbary/api.Filter,columbary/api.Filter] (params #[27, 91], results #[(.tmp 4)], 9 slots) -/
abbrev r66_0 : List VOp :=
  [zC 4]
abbrev r66_1 : List VOp :=
  [mv 5 0 27,
   mv 6 1 91,
   zBU 7 110 5 6 27 91 3,
   zO 8 3 7 0,
   asg 4 8 4]
def B66 : VC :=
  (.seq (.region r66_0) (.seq (.region r66_1) .ret))
theorem code66 : ∃ c, Tryz.f66.body = some c ∧ abs Tryz.f66.ntmps c = B66 := ⟨_, rfl, by kernel_rfl⟩
theorem hb66 : HasBody Tryz.prog 66 := hasBody_of Tryz.func66 (by kernel_rfl)
theorem enter66 (x0 x1 : Value) : Ent 66 B66 #[(.tmp 4)] [x0, x1] := ent code66 hb66 Tryz.func66 rfl rfl
/-! 67 columbary/filter.Takes$2 (params #[29], results #[(.tmp 3)], 8 slots) -/
abbrev r67_0 : List VOp :=
  [zBF 2 29 0,
   zC 3]
abbrev r67_1 : List VOp :=
  [lda 4 91 1,
   lda 5 29 2,
   zBZ 6 4 5 29 4,
   zCR 7 6,
   asg 3 7 4]
def B67 : VC :=
  (.seq (.region r67_0) (.seq (.region r67_1) .ret))
theorem code67 : ∃ c, Tryz.f67.body = some c ∧ abs Tryz.f67.ntmps c = B67 := ⟨_, rfl, by kernel_rfl⟩
theorem hb67 : HasBody Tryz.prog 67 := hasBody_of Tryz.func67 (by kernel_rfl)
theorem enter67 (x0 x1 : Value) : Ent 67 B67 #[(.tmp 3)] [x0, x1] := ent code67 hb67 Tryz.func67 rfl rfl
/-! 80 slices.ContainsFunc[[]columbary/api.Having,columbary/api.Having] (params #[30, 104], results #[(.tmp 4)], 9 slots) -/
abbrev r80_0 : List VOp :=
  [zC 4]
abbrev r80_1 : List VOp :=
  [mv 5 0 30,
   mv 6 1 104,
   zBU 7 120 5 6 30 104 3,
   zO 8 3 7 0,
   asg 4 8 4]
def B80 : VC :=
  (.seq (.region r80_0) (.seq (.region r80_1) .ret))
theorem code80 : ∃ c, Tryz.f80.body = some c ∧ abs Tryz.f80.ntmps c = B80 := ⟨_, rfl, by kernel_rfl⟩
theorem hb80 : HasBody Tryz.prog 80 := hasBody_of Tryz.func80 (by kernel_rfl)
theorem enter80 (x0 x1 : Value) : Ent 80 B80 #[(.tmp 4)] [x0, x1] := ent code80 hb80 Tryz.func80 rfl rfl
/-! 105 columbary/group.stays$1 (params #[103], results #[(.tmp 4)], 16 slots) -/
abbrev r105_0 : List VOp :=
  [zBF 3 103 0,
   zC 4]
def r105_1 : List (VOp × List Nat) := [(⟨some 5, .load 24 (.tmp 1), 24, none⟩, [1]), (⟨some 6, .fieldAddr 103 (.tmp 3) 0, 0, none⟩, [3]), (⟨some 7, .load 58 (.tmp 6), 58, none⟩, [6]), (⟨some 8, .load 55 (.tmp 2), 55, none⟩, [2]), (⟨some 9, .call ⟨.value (.func 57), #[.tmp 5, .tmp 7, .tmp 8], #[24, 58, 55]⟩, 3, none⟩, [5, 7, 8]), (⟨some 10, .fieldAddr 103 (.tmp 3) 2, 0, none⟩, [3]), (⟨some 11, .load 3 (.tmp 10), 3, none⟩, [10]), (⟨some 12, .call ⟨.value (.func 60), #[.tmp 9, .tmp 11], #[3, 3]⟩, 3, none⟩, [9, 11]), (⟨some 13, .fieldAddr 103 (.tmp 3) 1, 0, none⟩, [3]), (⟨some 14, .load 3 (.tmp 13), 3, none⟩, [13]), (⟨some 15, .binOp .neq 3 (.tmp 12) (.tmp 14) 3, 4, none⟩, [12, 14]), (⟨some 4, .assign (.tmp 15), 4, none⟩, [15])]
def B105 : VC :=
  (.seq (.region r105_0) (.seq (.draw (dR r105_1) 3) .ret))
theorem code105 : ∃ c, Tryz.f105.body = some c ∧ abs Tryz.f105.ntmps c = B105 := ⟨_, rfl, by kernel_rfl⟩
theorem hb105 : HasBody Tryz.prog 105 := hasBody_of Tryz.func105 (by kernel_rfl)
theorem enter105 (x0 x1 x2 : Value) : Ent 105 B105 #[(.tmp 4)] [x0, x1, x2] := ent code105 hb105 Tryz.func105 rfl rfl
@[push_cast] def vr105_1 := vD r105_1.eq_1 rfl 3
/-! 106 columbary/schema.Metric (params #[24, 9], results #[(.tmp 4), (.tmp 5)], 12 slots) -/
abbrev r106_0 : List VOp :=
  [zBF 2 24 0,
   zE 4 0 3,
   zC 5]
abbrev r106_1 : List VOp :=
  [fad 6 24 2 1,
   lda 7 22 6,
   mv 8 1 9,
   zBU 9 64 7 8 22 9 62,
   ext 10 9 0 3,
   ext 11 9 1 4,
   asg 4 10 3,
   asg 5 11 4]
def B106 : VC :=
  (.seq (.region r106_0) (.seq (.region r106_1) .ret))
theorem code106 : ∃ c, Tryz.f106.body = some c ∧ abs Tryz.f106.ntmps c = B106 := ⟨_, rfl, by kernel_rfl⟩
theorem hb106 : HasBody Tryz.prog 106 := hasBody_of Tryz.func106 (by kernel_rfl)
theorem enter106 (x0 x1 : Value) : Ent 106 B106 #[(.tmp 4), (.tmp 5)] [x0, x1] := ent code106 hb106 Tryz.func106 rfl rfl
/-! 107 columbary/group.tells (params #[], results #[(.cell 0 119)], 2 slots) -/
abbrev r107_0 : List VOp :=
  [zB 0 119]
abbrev r107_1 : List VOp :=
  [⟨some 1, .build 119 #[(0, (.func 130)), (1, (.func 131)), (2, (.func 132)), (3, (.func 133))], 119, none⟩,
   zA 119 0 1]
def B107 : VC :=
  (.seq (.region r107_0) (.seq (.region r107_1) .ret))
theorem code107 : ∃ c, Tryz.f107.body = some c ∧ abs Tryz.f107.ntmps c = B107 := ⟨_, rfl, by kernel_rfl⟩
theorem hb107 : HasBody Tryz.prog 107 := hasBody_of Tryz.func107 (by kernel_rfl)
theorem enter107 : Ent 107 B107 #[(.cell 0 119)] [] := ent code107 hb107 Tryz.func107 rfl rfl
/-! 110 slices.IndexFunc[[]columbary/api.Filter,columbary/api.Filter] (params #[27, 91], results #[(.tmp 4)], 19 slots) -/
@[push_cast] def W110_0 : List Nat := [4, 5, 8, 9, 10, 11, 12, 13, 14, 15, 16, 17, 18]
abbrev r110_0 : List VOp :=
  [zE 4 0 3]
abbrev r110_1 : List VOp :=
  [mv 6 0 27,
   zBM 7 6 27,
   zCJ 8]
abbrev r110_2 : List VOp :=
  [zX 9 3 8 7 0]
abbrev r110_3 : List VOp :=
  [mv 10 8 3,
   asg 5 10 3]
abbrev r110_4 : List VOp :=
  [mv 11 1 91,
   mv 12 0 27,
   mv 13 5 3,
   iad 14 27 12 13,
   lda 15 29 14,
   zBZ 16 11 15 29 4]
abbrev r110_5 : List VOp :=
  [mv 17 5 3,
   asg 4 17 3]
abbrev r110_6 : List VOp :=
  [zG 18 8,
   mv 8 18 3]
abbrev r110_7 : List VOp :=
  [⟨some 4, .assign (.const (.int .i64 (-1))), 3, none⟩]
def B110 : VC :=
  (.seq (.region r110_0) (.seq (.seq (.region r110_1) (.block 0 (.loop (.seq (.region r110_2) (.seq (.cond (.tmp 9) .skip (.exit 0)) (.seq (.block 1 (.seq (.region r110_3) (.seq (.region r110_4) (.cond (.tmp 16) (.seq (.region r110_5) .ret) .skip)))) (.region r110_6))))))) (.seq (.region r110_7) .ret)))
theorem code110 : ∃ c, Tryz.f110.body = some c ∧ abs Tryz.f110.ntmps c = B110 := ⟨_, rfl, by kernel_rfl⟩
theorem hb110 : HasBody Tryz.prog 110 := hasBody_of Tryz.func110 (by kernel_rfl)
theorem enter110 (x0 x1 : Value) : Ent 110 B110 #[(.tmp 4)] [x0, x1] := ent code110 hb110 Tryz.func110 rfl rfl
/-! 120 slices.IndexFunc[[]columbary/api.Having,columbary/api.Having] (params #[30, 104], results #[(.tmp 4)], 19 slots) -/
@[push_cast] def W120_0 : List Nat := [4, 5, 8, 9, 10, 11, 12, 13, 14, 15, 16, 17, 18]
abbrev r120_0 : List VOp :=
  [zE 4 0 3]
abbrev r120_1 : List VOp :=
  [mv 6 0 30,
   zBM 7 6 30,
   zCJ 8]
abbrev r120_2 : List VOp :=
  [zX 9 3 8 7 0]
abbrev r120_3 : List VOp :=
  [mv 10 8 3,
   asg 5 10 3]
abbrev r120_4 : List VOp :=
  [mv 11 1 104,
   mv 12 0 30,
   mv 13 5 3,
   iad 14 30 12 13,
   lda 15 103 14,
   zBZ 16 11 15 103 4]
abbrev r120_5 : List VOp :=
  [mv 17 5 3,
   asg 4 17 3]
abbrev r120_6 : List VOp :=
  [zG 18 8,
   mv 8 18 3]
abbrev r120_7 : List VOp :=
  [⟨some 4, .assign (.const (.int .i64 (-1))), 3, none⟩]
def B120 : VC :=
  (.seq (.region r120_0) (.seq (.seq (.region r120_1) (.block 0 (.loop (.seq (.region r120_2) (.seq (.cond (.tmp 9) .skip (.exit 0)) (.seq (.block 1 (.seq (.region r120_3) (.seq (.region r120_4) (.cond (.tmp 16) (.seq (.region r120_5) .ret) .skip)))) (.region r120_6))))))) (.seq (.region r120_7) .ret)))
theorem code120 : ∃ c, Tryz.f120.body = some c ∧ abs Tryz.f120.ntmps c = B120 := ⟨_, rfl, by kernel_rfl⟩
theorem hb120 : HasBody Tryz.prog 120 := hasBody_of Tryz.func120 (by kernel_rfl)
theorem enter120 (x0 x1 : Value) : Ent 120 B120 #[(.tmp 4)] [x0, x1] := ent code120 hb120 Tryz.func120 rfl rfl
/-! 130 columbary/group.tells$1 (params #[55, 3], results #[(.tmp 4)], 7 slots) -/
abbrev r130_0 : List VOp :=
  [zBF 2 55 0,
   zE 4 0 3]
abbrev r130_1 : List VOp :=
  [fad 5 55 2 2,
   lda 6 3 5,
   asg 4 6 3]
def B130 : VC :=
  (.seq (.region r130_0) (.seq (.region r130_1) .ret))
theorem code130 : ∃ c, Tryz.f130.body = some c ∧ abs Tryz.f130.ntmps c = B130 := ⟨_, rfl, by kernel_rfl⟩
theorem hb130 : HasBody Tryz.prog 130 := hasBody_of Tryz.func130 (by kernel_rfl)
theorem enter130 (x0 x1 : Value) : Ent 130 B130 #[(.tmp 4)] [x0, x1] := ent code130 hb130 Tryz.func130 rfl rfl
/-! 131 columbary/group.tells$2 (params #[55, 3], results #[(.tmp 4)], 11 slots) -/
abbrev r131_0 : List VOp :=
  [zBF 2 55 0,
   zE 4 0 3]
abbrev r131_1 : List VOp :=
  [fad 5 55 2 3,
   lda 6 53 5,
   mv 7 1 3,
   iad 8 53 6 7,
   fad 9 52 8 0,
   lda 10 3 9,
   asg 4 10 3]
def B131 : VC :=
  (.seq (.region r131_0) (.seq (.region r131_1) .ret))
theorem code131 : ∃ c, Tryz.f131.body = some c ∧ abs Tryz.f131.ntmps c = B131 := ⟨_, rfl, by kernel_rfl⟩
theorem hb131 : HasBody Tryz.prog 131 := hasBody_of Tryz.func131 (by kernel_rfl)
theorem enter131 (x0 x1 : Value) : Ent 131 B131 #[(.tmp 4)] [x0, x1] := ent code131 hb131 Tryz.func131 rfl rfl
/-! 132 columbary/group.tells$3 (params #[55, 3], results #[(.tmp 4)], 11 slots) -/
abbrev r132_0 : List VOp :=
  [zBF 2 55 0,
   zE 4 0 3]
abbrev r132_1 : List VOp :=
  [fad 5 55 2 3,
   lda 6 53 5,
   mv 7 1 3,
   iad 8 53 6 7,
   fad 9 52 8 1,
   lda 10 3 9,
   asg 4 10 3]
def B132 : VC :=
  (.seq (.region r132_0) (.seq (.region r132_1) .ret))
theorem code132 : ∃ c, Tryz.f132.body = some c ∧ abs Tryz.f132.ntmps c = B132 := ⟨_, rfl, by kernel_rfl⟩
theorem hb132 : HasBody Tryz.prog 132 := hasBody_of Tryz.func132 (by kernel_rfl)
theorem enter132 (x0 x1 : Value) : Ent 132 B132 #[(.tmp 4)] [x0, x1] := ent code132 hb132 Tryz.func132 rfl rfl
/-! 133 columbary/group.tells$4 (params #[55, 3], results #[(.tmp 4)], 11 slots) -/
abbrev r133_0 : List VOp :=
  [zBF 2 55 0,
   zE 4 0 3]
abbrev r133_1 : List VOp :=
  [fad 5 55 2 3,
   lda 6 53 5,
   mv 7 1 3,
   iad 8 53 6 7,
   fad 9 52 8 2,
   lda 10 3 9,
   asg 4 10 3]
def B133 : VC :=
  (.seq (.region r133_0) (.seq (.region r133_1) .ret))
theorem code133 : ∃ c, Tryz.f133.body = some c ∧ abs Tryz.f133.ntmps c = B133 := ⟨_, rfl, by kernel_rfl⟩
theorem hb133 : HasBody Tryz.prog 133 := hasBody_of Tryz.func133 (by kernel_rfl)
theorem enter133 (x0 x1 : Value) : Ent 133 B133 #[(.tmp 4)] [x0, x1] := ent code133 hb133 Tryz.func133 rfl rfl
@[push_cast] theorem bsl22_1_CodesG {K : Value → World → Prop} {w : World} (x0 : ByteArray) : vBuildSlice Tryz.prog 22 1 #[(0, (.string x0))] K w = K (.slice (some ⟨w.heap.size, 0, none⟩) 1 1) (w.alloc (.cells #[(.string x0)] 9)) :=
  vBuildSlice_ok Tryz.underlying22 ti9 (by kernel_rfl) (by decide)
@[push_cast] theorem bsl25_2_CodesG {K : Value → World → Prop} {w : World} (x00 x01 : Value) (x10 x11 : Value) : vBuildSlice Tryz.prog 25 2 #[(0, (.agg #[x00, x01])), (1, (.agg #[x10, x11]))] K w = K (.slice (some ⟨w.heap.size, 0, none⟩) 2 2) (w.alloc (.cells #[x00, x01, x10, x11] 58)) :=
  vBuildSlice_ok Tryz.underlying25 ti58 (by kernel_rfl) (by decide)
@[push_cast] theorem bsl33_1_CodesG {K : Value → World → Prop} {w : World} (x00 x01 x02 x03 : Value) : vBuildSlice Tryz.prog 33 1 #[(0, (.agg #[x00, x01, x02, x03]))] K w = K (.slice (some ⟨w.heap.size, 0, none⟩) 1 1) (w.alloc (.cells #[x00, x01, x02, x03] 55)) :=
  vBuildSlice_ok Tryz.underlying33 ti55 (by kernel_rfl) (by decide)
@[push_cast] theorem bsl33_3_CodesG {K : Value → World → Prop} {w : World} (x00 x01 x02 x03 : Value) (x10 x11 x12 x13 : Value) (x20 x21 x22 x23 : Value) : vBuildSlice Tryz.prog 33 3 #[(0, (.agg #[x00, x01, x02, x03])), (1, (.agg #[x10, x11, x12, x13])), (2, (.agg #[x20, x21, x22, x23]))] K w = K (.slice (some ⟨w.heap.size, 0, none⟩) 3 3) (w.alloc (.cells #[x00, x01, x02, x03, x10, x11, x12, x13, x20, x21, x22, x23] 55)) :=
  vBuildSlice_ok Tryz.underlying33 ti55 (by kernel_rfl) (by decide)
@[push_cast] theorem bsl36_1_CodesG {K : Value → World → Prop} {w : World} (x00 x01 x02 : Value) : vBuildSlice Tryz.prog 36 1 #[(0, (.agg #[x00, x01, x02]))] K w = K (.slice (some ⟨w.heap.size, 0, none⟩) 1 1) (w.alloc (.cells #[x00, x01, x02] 61)) :=
  vBuildSlice_ok Tryz.underlying36 ti61 (by kernel_rfl) (by decide)
@[push_cast] theorem bsl53_1_CodesG {K : Value → World → Prop} {w : World} (x00 x01 x02 : Value) : vBuildSlice Tryz.prog 53 1 #[(0, (.agg #[x00, x01, x02]))] K w = K (.slice (some ⟨w.heap.size, 0, none⟩) 1 1) (w.alloc (.cells #[x00, x01, x02] 52)) :=
  vBuildSlice_ok Tryz.underlying53 ti52 (by kernel_rfl) (by decide)
@[push_cast] theorem bsl59_1_CodesG {K : Value → World → Prop} {w : World} (x0 : Int) : vBuildSlice Tryz.prog 59 1 #[(0, (.int .i64 x0))] K w = K (.slice (some ⟨w.heap.size, 0, none⟩) 1 1) (w.alloc (.cells #[(.int .i64 x0)] 3)) :=
  vBuildSlice_ok Tryz.underlying59 ti3 (by kernel_rfl) (by decide)
@[push_cast] theorem bld24_0_1_CodesG {K : Value → World → Prop} {w : World} (x0o : Option Addr) (x0n x0c : Nat) (x1o : Option Addr) (x1n x1c : Nat) : vBuild Tryz.prog 24 #[(0, (.slice x0o x0n x0c)), (1, (.slice x1o x1n x1c))] K w = K (.agg #[(.slice x0o x0n x0c), (.slice x1o x1n x1c)]) w :=
  vBuild_ok (by kernel_rfl)
@[push_cast] theorem bld32_0_2_4_7_CodesG {K : Value → World → Prop} {w : World} (x0o : Option Addr) (x0n x0c : Nat) (x2 : Int) (x4o : Option Addr) (x4n x4c : Nat) (x7 : Int) : vBuild Tryz.prog 32 #[(0, (.slice x0o x0n x0c)), (2, (.int .i64 x2)), (4, (.slice x4o x4n x4c)), (7, (.int .i64 x7))] K w = K (.agg #[(.slice x0o x0n x0c), (.int .i64 0), (.int .i64 x2), (.int .i64 0), (.slice x4o x4n x4c), (.int .i64 0), (.string ⟨#[]⟩), (.string ⟨#[]⟩), (.slice none 0 0), (.slice none 0 0), (.int .i64 x7), (.int .i64 0)]) w :=
  vBuild_ok (by kernel_rfl)
@[push_cast] theorem bld52_0_1_2_CodesG {K : Value → World → Prop} {w : World} (x0 : Int) (x1 : Int) (x2 : Int) : vBuild Tryz.prog 52 #[(0, (.int .i64 x0)), (1, (.int .i64 x1)), (2, (.int .i64 x2))] K w = K (.agg #[(.int .i64 x0), (.int .i64 x1), (.int .i64 x2)]) w :=
  vBuild_ok (by kernel_rfl)
@[push_cast] theorem bld55_0_1_2_3_CodesG {K : Value → World → Prop} {w : World} (x0 : Int) (x1o : Option Addr) (x1n x1c : Nat) (x2 : Int) (x3o : Option Addr) (x3n x3c : Nat) : vBuild Tryz.prog 55 #[(0, (.int .i64 x0)), (1, (.slice x1o x1n x1c)), (2, (.int .i64 x2)), (3, (.slice x3o x3n x3c))] K w = K (.agg #[(.int .i64 x0), (.slice x1o x1n x1c), (.int .i64 x2), (.slice x3o x3n x3c)]) w :=
  vBuild_ok (by kernel_rfl)
@[push_cast] theorem bld55_0_2_3_CodesG {K : Value → World → Prop} {w : World} (x0 : Int) (x2 : Int) (x3o : Option Addr) (x3n x3c : Nat) : vBuild Tryz.prog 55 #[(0, (.int .i64 x0)), (2, (.int .i64 x2)), (3, (.slice x3o x3n x3c))] K w = K (.agg #[(.int .i64 x0), (.slice none 0 0), (.int .i64 x2), (.slice x3o x3n x3c)]) w :=
  vBuild_ok (by kernel_rfl)
@[push_cast] theorem bld58__CodesG {K : Value → World → Prop} {w : World}  : vBuild Tryz.prog 58 #[] K w = K (.agg #[(.int .i64 0), (.string ⟨#[]⟩)]) w :=
  vBuild_ok (by kernel_rfl)
@[push_cast] theorem bld58_0_1_CodesG {K : Value → World → Prop} {w : World} (x0 : Int) (x1 : ByteArray) : vBuild Tryz.prog 58 #[(0, (.int .i64 x0)), (1, (.string x1))] K w = K (.agg #[(.int .i64 x0), (.string x1)]) w :=
  vBuild_ok (by kernel_rfl)
@[push_cast] theorem bld61_0_1_CodesG {K : Value → World → Prop} {w : World} (x0 : Int) (x1o : Option Addr) (x1n x1c : Nat) : vBuild Tryz.prog 61 #[(0, (.int .i64 x0)), (1, (.slice x1o x1n x1c))] K w = K (.agg #[(.int .i64 x0), (.slice x1o x1n x1c), (.slice none 0 0)]) w :=
  vBuild_ok (by kernel_rfl)
@[push_cast] theorem bld119_0_1_2_3_CodesG {K : Value → World → Prop} {w : World} (x0f : Go.Fn) (x0a x0b : Array Value) (x1f : Go.Fn) (x1a x1b : Array Value) (x2f : Go.Fn) (x2a x2b : Array Value) (x3f : Go.Fn) (x3a x3b : Array Value) : vBuild Tryz.prog 119 #[(0, (.func x0f x0a x0b)), (1, (.func x1f x1a x1b)), (2, (.func x2f x2a x2b)), (3, (.func x3f x3a x3b))] K w = K (.agg #[(.func x0f x0a x0b), (.func x1f x1a x1b), (.func x2f x2a x2b), (.func x3f x3a x3b)]) w :=
  vBuild_ok (by kernel_rfl)
end Go.Proofs.YtnofalhkapmcnaaGreat
end
section
set_option linter.unusedSimpArgs false
namespace Go.Proofs.YtnofalhkapmcnaaGreat
open Go.Vc Go.Key
set_option maxRecDepth 100000
theorem findexF_c (v : Value) (l : List FT) (g : FuncId) (lb : Array Value) (p : FT → Bool) (w : World) (h : RecS ftC 4 w v l) (hp : ∀ x ∈ l, Prd Tryz.prog w g lb (.agg (ftC x).toArray) (p x)) : FnC Tryz.prog 110 #[v, .func (.func g) #[] lb] w fun r w' => r = .int .i64 (idxI p l) ∧ Later w w' := by
  obtain ⟨o, c, rfl, g1, g2⟩ := h.slice
  refine enter110 _ _ ?_
  unfold B110
  repeat' (first | (simp (disch := omega) only [push_cast, seval]) | refine iX ?_ ?_ <;> intros | refine aI (by omega) ?_ | refine dq ?_)
  refine vc_loop W110_0 (fun i : Nat => [(8, .int .i64 (i : Int))]) (fun i w' => i ≤ l.length ∧ Later w w' ∧ (l.take i).any p = false) (fun i => l.length - i) 0 (by decide) ?_ ?_ ?_
  · simp (disch := omega) only [push_cast, seval]
    try rfl
  · exact ⟨Nat.zero_le _, Later.refl _, by simp⟩
  rintro i uu w1 ⟨hi, l1, hno⟩
  by_cases hil : i < l.length
  · have hd : decide ((i : Int) < (l.length : Int)) = true := decide_eq_true (by omega)
    obtain ⟨a, rfl, c0⟩ := RecS.at ftC_len (h.later l1) hil
    repeat' (first | (simp (disch := omega) only [push_cast, seval, hd, c0]) | refine iX ?_ ?_ <;> intros | refine aI (by omega) ?_ | refine dq ?_)
    refine (hp l[i] (List.getElem_mem hil) w1 l1).mono ?_
    rintro _ w2 ⟨rfl, l2⟩
    cases hx : p l[i] with
    | true =>
      rw [idxI_hit hil hx hno]
      repeat' (first | (simp (disch := omega) only [push_cast, seval]) | refine iX ?_ ?_ <;> intros | refine aI (by omega) ?_ | refine dq ?_)
      first | exact ⟨rfl, (l1.trans l2)⟩ | exact (l1.trans l2)
    | false =>
      repeat' (first | (simp (disch := omega) only [push_cast, seval]) | refine iX ?_ ?_ <;> intros | refine aI (by omega) ?_ | refine dq ?_)
      exact ⟨rfl, i + 1, by simp (disch := omega) only [push_cast, seval], ⟨by omega, l1.trans l2, any_step hil hx hno⟩, by dsimp only; omega⟩
  · have hd : decide ((i : Int) < (l.length : Int)) = false := decide_eq_false (by omega)
    rw [List.take_of_length_le (by omega)] at hno
    rw [idxI_miss hno]
    repeat' (first | (simp (disch := omega) only [push_cast, seval, hd]) | refine iX ?_ ?_ <;> intros | refine aI (by omega) ?_ | refine dq ?_)
    first | exact ⟨rfl, l1⟩ | exact l1
theorem fcontainsF_c (v : Value) (l : List FT) (g : FuncId) (lb : Array Value) (p : FT → Bool) (w : World) (h : RecS ftC 4 w v l) (hp : ∀ x ∈ l, Prd Tryz.prog w g lb (.agg (ftC x).toArray) (p x)) : FnC Tryz.prog 66 #[v, .func (.func g) #[] lb] w fun r w' => r = .bool (l.any p) ∧ Later w w' := by
  obtain ⟨o, c, rfl, g1, g2⟩ := h.slice
  refine enter66 _ _ ?_
  unfold B66
  repeat' (first | (simp (disch := omega) only [push_cast, seval]) | refine iX ?_ ?_ <;> intros | refine aI (by omega) ?_ | refine dq ?_)
  refine (findexF_c _ l g lb p w h hp).mono ?_
  rintro _ w1 ⟨rfl, l1⟩
  have e := idxI_ge p l
  repeat' (first | (simp (disch := omega) only [push_cast, seval, e]) | refine iX ?_ ?_ <;> intros | refine aI (by omega) ?_ | refine dq ?_)
  first | exact ⟨rfl, l1⟩ | exact l1
theorem hindexF_c (v : Value) (l : List HD) (g : FuncId) (lb : Array Value) (p : HD → Bool) (w : World) (h : RecS hdC 4 w v l) (hp : ∀ x ∈ l, Prd Tryz.prog w g lb (.agg (hdC x).toArray) (p x)) : FnC Tryz.prog 120 #[v, .func (.func g) #[] lb] w fun r w' => r = .int .i64 (idxI p l) ∧ Later w w' := by
  obtain ⟨o, c, rfl, g1, g2⟩ := h.slice
  refine enter120 _ _ ?_
  unfold B120
  repeat' (first | (simp (disch := omega) only [push_cast, seval]) | refine iX ?_ ?_ <;> intros | refine aI (by omega) ?_ | refine dq ?_)
  refine vc_loop W120_0 (fun i : Nat => [(8, .int .i64 (i : Int))]) (fun i w' => i ≤ l.length ∧ Later w w' ∧ (l.take i).any p = false) (fun i => l.length - i) 0 (by decide) ?_ ?_ ?_
  · simp (disch := omega) only [push_cast, seval]
    try rfl
  · exact ⟨Nat.zero_le _, Later.refl _, by simp⟩
  rintro i uu w1 ⟨hi, l1, hno⟩
  by_cases hil : i < l.length
  · have hd : decide ((i : Int) < (l.length : Int)) = true := decide_eq_true (by omega)
    obtain ⟨a, rfl, c0⟩ := RecS.at hdC_len (h.later l1) hil
    repeat' (first | (simp (disch := omega) only [push_cast, seval, hd, c0]) | refine iX ?_ ?_ <;> intros | refine aI (by omega) ?_ | refine dq ?_)
    refine (hp l[i] (List.getElem_mem hil) w1 l1).mono ?_
    rintro _ w2 ⟨rfl, l2⟩
    cases hx : p l[i] with
    | true =>
      rw [idxI_hit hil hx hno]
      repeat' (first | (simp (disch := omega) only [push_cast, seval]) | refine iX ?_ ?_ <;> intros | refine aI (by omega) ?_ | refine dq ?_)
      first | exact ⟨rfl, (l1.trans l2)⟩ | exact (l1.trans l2)
    | false =>
      repeat' (first | (simp (disch := omega) only [push_cast, seval]) | refine iX ?_ ?_ <;> intros | refine aI (by omega) ?_ | refine dq ?_)
      exact ⟨rfl, i + 1, by simp (disch := omega) only [push_cast, seval], ⟨by omega, l1.trans l2, any_step hil hx hno⟩, by dsimp only; omega⟩
  · have hd : decide ((i : Int) < (l.length : Int)) = false := decide_eq_false (by omega)
    rw [List.take_of_length_le (by omega)] at hno
    rw [idxI_miss hno]
    repeat' (first | (simp (disch := omega) only [push_cast, seval, hd]) | refine iX ?_ ?_ <;> intros | refine aI (by omega) ?_ | refine dq ?_)
    first | exact ⟨rfl, l1⟩ | exact l1
theorem hcontainsF_c (v : Value) (l : List HD) (g : FuncId) (lb : Array Value) (p : HD → Bool) (w : World) (h : RecS hdC 4 w v l) (hp : ∀ x ∈ l, Prd Tryz.prog w g lb (.agg (hdC x).toArray) (p x)) : FnC Tryz.prog 80 #[v, .func (.func g) #[] lb] w fun r w' => r = .bool (l.any p) ∧ Later w w' := by
  obtain ⟨o, c, rfl, g1, g2⟩ := h.slice
  refine enter80 _ _ ?_
  unfold B80
  repeat' (first | (simp (disch := omega) only [push_cast, seval]) | refine iX ?_ ?_ <;> intros | refine aI (by omega) ?_ | refine dq ?_)
  refine (hindexF_c _ l g lb p w h hp).mono ?_
  rintro _ w1 ⟨rfl, l1⟩
  have e := idxI_ge p l
  repeat' (first | (simp (disch := omega) only [push_cast, seval, e]) | refine iX ?_ ?_ <;> intros | refine aI (by omega) ?_ | refine dq ?_)
  first | exact ⟨rfl, l1⟩ | exact l1
end Go.Proofs.YtnofalhkapmcnaaGreat
end
section
namespace Go.Proofs.YtnofalhkapmcnaaGreat
open Go.Vc
set_option maxRecDepth 100000

end Go.Proofs.YtnofalhkapmcnaaGreat
end
section
namespace Go.Cub
open Go.Key Go.Proofs.YtnofalhkapmcnaaGreat
def fi : List ByteArray → ByteArray → Option Nat
  | [], _ => none
  | y :: l, x => if y = x then some 0 else (fi l x).map (· + 1)
theorem fi_some : ∀ {l : List ByteArray} {x : ByteArray} {k : Nat}, fi l x = some k → ∃ h : k < l.length, l[k] = x ∧ ∀ j (hj : j < k), l[j]'(by omega) ≠ x
  | [], _, _, h => by simp [fi] at h
  | y :: l, x, k, h => by
    unfold fi at h
    split at h
    · rename_i he
      cases h
      exact ⟨by simp, he, fun j hj => absurd hj (Nat.not_lt_zero _)⟩
    · rename_i he
      obtain ⟨m, hm, rfl⟩ := Option.map_eq_some_iff.1 h
      obtain ⟨h1, h2, h3⟩ := fi_some hm
      refine ⟨by simp; omega, by simpa using h2, fun j hj => ?_⟩
      cases j with
      | zero => exact he
      | succ j => exact h3 j (by omega)
theorem fi_none : ∀ {l : List ByteArray} {x : ByteArray}, fi l x = none ↔ ∀ y ∈ l, y ≠ x
  | [], _ => by simp [fi]
  | y :: l, x => by
    unfold fi
    split
    · rename_i he
      simp [he]
    · rename_i he
      rw [Option.map_eq_none_iff, fi_none]
      simp [he]
theorem fi_mk {l : List ByteArray} {x : ByteArray} {k : Nat} (h : k < l.length) (hk : l[k] = x) (hj : ∀ j (hj : j < k), l[j]'(by omega) ≠ x) : fi l x = some k := by
  cases hf : fi l x with
  | none => exact absurd hk (fi_none.1 hf _ (List.getElem_mem h))
  | some m =>
    obtain ⟨h1, h2, h3⟩ := fi_some hf
    rcases Nat.lt_trichotomy m k with g | g | g
    · exact absurd h2 (hj m g)
    · rw [g]
    · exact absurd hk (h3 k g)
def sub (b : List ByteArray) : Nat → List ByteArray → Bool
  | _, [] => true
  | s, n :: a => match fi b n with
    | some k => if s ≤ k then sub b (k + 1) a else false
    | none => false
end Go.Cub
namespace Go.Proofs.YtnofalhkapmcnaaGreat
open Go.Vc Go.Key Go.Cub
set_option maxRecDepth 100000
theorem StS.opn {w : World} {v : Value} {l : List ByteArray} (h : StS w v l) : ∃ o c, v = .slice o l.length c ∧ StS w (.slice o l.length c) l ∧ l.length ≤ c ∧ c ≤ 9223372036854775807 ∧ (o = none → l = []) := by
  obtain ⟨o, c, rfl⟩ := Sl.slice h
  rw [List.length_map] at h ⊢
  have h2 := Sl.len h
  exact ⟨o, c, rfl, h, h2.2.1, h2.2.2.1, fun ho => by simpa using (h2.2.2.2 ho).1⟩
def fiT (o : Option Nat) : Value := .tuple #[.int .i64 ((o.getD 0 : Nat) : Int), .bool o.isSome]
theorem fnd_fi (x : ByteArray) (l : List ByteArray) : fndV x l = fiT (fi l x) := by
  cases hf : fi l x with
  | none =>
    have hn := fi_none.1 hf
    have : inL x l = false := by
      cases h : inL x l with
      | false => rfl
      | true => exact absurd rfl (hn x (inL_iff.1 h))
    unfold fndV
    rw [this]; rfl
  | some k =>
    obtain ⟨hk, hx, hj⟩ := fi_some hf
    refine (fndV_at hk hx ?_).trans rfl
    cases h : inL x (l.take k) with
    | false => rfl
    | true =>
      obtain ⟨j, hjl, he⟩ := List.mem_take_iff_getElem.1 (inL_iff.1 h)
      exact absurd he (hj j (by omega))
end Go.Proofs.YtnofalhkapmcnaaGreat
end
section
set_option linter.unusedSimpArgs false
namespace Go.Proofs.YtnofalhkapmcnaaGreat
open Go.Vc Go.Key Go.Cub
set_option maxRecDepth 100000
def fiZ : Option Nat → Int
  | some k => k
  | none => -1
theorem index_c (v : Value) (l : List ByteArray) (x : ByteArray) (w : World) (h : StS w v l) : FnC Tryz.prog 100 #[v, .string x] w fun r w' => r = .int .i64 (fiZ (fi l x)) ∧ w' = w := by
  obtain ⟨o, c, rfl, h, g1, g2, g3⟩ := StS.opn h
  refine enter100 _ _ ?_
  unfold B100
  repeat' (first | (simp (disch := omega) only [push_cast, seval]) | refine iX ?_ ?_ <;> intros | refine aI (by omega) ?_ | refine dq ?_)
  refine vc_loop W100_0 (fun i : Nat => [(8, .int .i64 (i : Int))]) (fun i w' => i ≤ l.length ∧ w' = w ∧ ∀ j (hj : j < l.length), j < i → l[j] ≠ x) (fun i => l.length - i) 0 (by decide) ?_ ?_ ?_
  · simp (disch := omega) only [push_cast, seval]
  · exact ⟨by omega, rfl, fun j _ hj => absurd hj (Nat.not_lt_zero _)⟩
  rintro i uu w1 ⟨hi, hw, hn⟩
  obtain rfl := hw.symm
  by_cases hlt : i < l.length
  · cases o with
    | none => have := g3 rfl; rw [this] at hlt; simp at hlt
    | some a =>
    have hc := StS.atS h hlt
    by_cases he : l[i] = x
    · have e : fi l x = some i := fi_mk hlt he fun j hj => hn j (by omega) hj
      have he' := he.symm
      repeat' (first | (simp (disch := omega) only [push_cast, seval, hc, he, decide_true]) | refine iX ?_ ?_ <;> intros | refine aI (by omega) ?_ | refine dq ?_)
      rw [e]; rfl
    · have he' : ¬ x = l[i] := fun h => he h.symm
      repeat' (first | (simp (disch := omega) only [push_cast, seval, hc, he', decide_false]) | refine iX ?_ ?_ <;> intros | refine aI (by omega) ?_ | refine dq ?_)
      refine ⟨rfl, i + 1, by simp (disch := omega) only [push_cast, seval], ⟨by omega, rfl, fun j hj hji => ?_⟩, by dsimp only; omega⟩
      by_cases h : j < i
      · exact hn j hj h
      · have : j = i := by omega
        subst this
        exact he
  · have e : fi l x = none := fi_none.2 fun y hy => by
      obtain ⟨j, hj, rfl⟩ := List.getElem_of_mem hy
      exact hn j hj (by omega)
    repeat' (first | (simp (disch := omega) only [push_cast, seval]) | refine iX ?_ ?_ <;> intros | refine aI (by omega) ?_ | refine dq ?_)
    rw [e]; rfl
theorem find_c (v : Value) (l : List ByteArray) (x : ByteArray) (w : World) (h : StS w v l) : FnC Tryz.prog 64 #[v, .string x] w fun r w' => r = fiT (fi l x) ∧ w' = w := by
  obtain ⟨o, c, rfl, h, g1, g2, g3⟩ := StS.opn h
  refine enter64 _ _ ?_
  unfold B64
  repeat' (first | (simp (disch := omega) only [push_cast, seval]) | refine iX ?_ ?_ <;> intros | refine aI (by omega) ?_ | refine dq ?_)
  refine (index_c _ l x w h).mono ?_
  rintro _ w0 ⟨rfl, h0⟩
  obtain rfl := h0.symm
  cases hf : fi l x with
  | none =>
    simp only [fiZ]
    repeat' (first | (simp (disch := omega) only [push_cast, seval]) | refine iX ?_ ?_ <;> intros | refine aI (by omega) ?_ | refine dq ?_)
    all_goals simp [fiT]
  | some k =>
    simp only [fiZ]
    repeat' (first | (simp (disch := omega) only [push_cast, seval]) | refine iX ?_ ?_ <;> intros | refine aI (by omega) ?_ | refine dq ?_)
    all_goals simp [fiT]
    all_goals omega
theorem dim_c (dv mv : Value) (d m : List ByteArray) (x : ByteArray) (w : World) (h : ScIs w dv mv d m) : FnC Tryz.prog 26 #[scV dv mv, .string x] w fun r w' => r = fiT (fi d x) ∧ Later w w' := by
  unfold scV
  refine enter26 _ _ ?_
  unfold B26
  obtain ⟨l1, s1, F⟩ := box2 w dv mv 24
  have eca : (Value.agg #[dv, mv]).cells = #[dv, mv] := rfl
  repeat' (first | (simp (disch := omega) only [push_cast, seval, eca, s1]) | refine iX ?_ ?_ <;> intros | refine aI (by omega) ?_ | fail)
  generalize w.alloc (.cells #[dv, mv] 24) = w1 at *
  obtain ⟨a0, a1, a2⟩ := F w1 (Later.refl _)
  repeat' (first | (simp (disch := omega) only [push_cast, seval, a0, addr_add_eq, Nat.zero_add]) | refine iX ?_ ?_ <;> intros | refine aI (by omega) ?_ | refine dq ?_)
  refine (find_c _ d x w1 (Sl.later h.dS l1)).mono ?_
  rintro _ w0 ⟨rfl, h0⟩
  obtain rfl := h0.symm
  unfold fiT
  repeat' (first | (simp (disch := omega) only [push_cast, seval]) | refine iX ?_ ?_ <;> intros | refine aI (by omega) ?_ | refine dq ?_)
  first | exact ⟨rfl, l1⟩ | exact l1
theorem met_c (dv mv : Value) (d m : List ByteArray) (x : ByteArray) (w : World) (h : ScIs w dv mv d m) : FnC Tryz.prog 106 #[scV dv mv, .string x] w fun r w' => r = fiT (fi m x) ∧ Later w w' := by
  unfold scV
  refine enter106 _ _ ?_
  unfold B106
  obtain ⟨l1, s1, F⟩ := box2 w dv mv 24
  have eca : (Value.agg #[dv, mv]).cells = #[dv, mv] := rfl
  repeat' (first | (simp (disch := omega) only [push_cast, seval, eca, s1]) | refine iX ?_ ?_ <;> intros | refine aI (by omega) ?_ | fail)
  generalize w.alloc (.cells #[dv, mv] 24) = w1 at *
  obtain ⟨a0, a1, a2⟩ := F w1 (Later.refl _)
  repeat' (first | (simp (disch := omega) only [push_cast, seval, a1, addr_add_eq, Nat.zero_add]) | refine iX ?_ ?_ <;> intros | refine aI (by omega) ?_ | refine dq ?_)
  refine (find_c _ m x w1 (Sl.later h.mS l1)).mono ?_
  rintro _ w0 ⟨rfl, h0⟩
  obtain rfl := h0.symm
  unfold fiT
  repeat' (first | (simp (disch := omega) only [push_cast, seval]) | refine iX ?_ ?_ <;> intros | refine aI (by omega) ?_ | refine dq ?_)
  first | exact ⟨rfl, l1⟩ | exact l1
end Go.Proofs.YtnofalhkapmcnaaGreat
end
