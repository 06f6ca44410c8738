/- Stretches that came in; whole numbers that came in. -/
import Derived.Test.YtfeocfcclmndoaaRow
import Derived.Test.YtfeocfcclmndoaaInts
import Derived.Test.YtfeocfcclmndoaaPairs2
import Derived.ChangeSame
namespace Go.Vc
open Go.RowKit Go.ChangeShapes
section
variable {H : Type} {enc : TypeId × Value → H} {P : Program} {w : World} {sp : Nat → Bool} {hd : Bool}
theorem open_i64s {t e : TypeId} {v : Value} {d : DataW H} {ps : List MemPlace} {r : Reach} {b0 : Nat} (ht : P.underlying t = some (.slice e)) (he : P.underlying e = some (.int .i64)) (hc : P.cellsOf e = 1) (hval : Value.okWide P w r b0 t v) (h : DataW.Trod enc P w 0 sp hd t v d ps) :
    ∃ l : List Int, Sl w v (l.map i64v) ∧ ∀ x ∈ l, -9223372036854775808 ≤ x ∧ x ≤ 9223372036854775807 := by
  obtain ⟨rows, hs, hr⟩ := open_rows (Q := fun cs => ∃ c : Int, cs = [i64v c] ∧ -9223372036854775808 ≤ c ∧ c ≤ 9223372036854775807) ht hc (fun m cs y hy => by
    obtain ⟨n, rfl, _, hw⟩ := DataW.trod_int he hy
    have := i64_of_wf hw
    exact ⟨n, rfl, this⟩) (slice_cells ht hval) h
  have : ∃ l : List Int, rows.flatten = l.map i64v ∧ l.length = rows.length ∧ ∀ x ∈ l, -9223372036854775808 ≤ x ∧ x ≤ 9223372036854775807 := by
    clear hs
    induction rows with
    | nil => exact ⟨[], rfl, rfl, fun x hx => by simp at hx⟩
    | cons r rows ih =>
      obtain ⟨l, hl, hn, hok⟩ := ih fun r' h' => hr r' (by simp [h'])
      obtain ⟨_, c, rfl, hc⟩ := hr r (by simp)
      refine ⟨c :: l, by simp [hl], by simp [hn], fun x hx => ?_⟩
      rcases List.mem_cons.1 hx with rfl | hx
      · exact hc
      · exact hok x hx
  obtain ⟨l, hl, hn, hok⟩ := this
  refine ⟨l, ?_, hok⟩
  unfold Sl
  rw [hl, ← hn] at hs
  simpa using hs
theorem one_i64 {e : TypeId} {m : Nat} {cs : List Value} {y : DataW H × List MemPlace} (he : P.underlying e = some (.int .i64)) (h : DataW.trod enc P w 0 sp hd m e cs = some y) : ∃ n : Int, cs = [.int .i64 n] ∧ -9223372036854775808 ≤ n ∧ n ≤ 9223372036854775807 := by
  obtain ⟨n, hc, _, hw⟩ := DataW.trod_int he h
  exact ⟨n, hc, i64_of_wf hw⟩
/-- Two whole numbers, a struct. -/
theorem one_pair {t e : TypeId} {f0 f1 : Field} {m : Nat} {cs : List Value} {y : DataW H × List MemPlace} (ht : P.underlying t = some (.struct #[f0, f1])) (he : P.underlying e = some (.int .i64)) (t0 : f0.type = e) (t1 : f1.type = e) (o0 : f0.offset = 0) (o1 : f1.offset = 1) (hce : P.cellsOf e = 1) (hct : P.cellsOf t = 2)
    (h : DataW.trod enc P w 0 sp hd m t cs = some y) : ∃ p : Int × Int, cs = pairC p := by
  obtain ⟨xs, n, _, _, hl, hxl, hf⟩ := DataW.trod_struct ht h
  rw [hct] at hl
  have hxl : xs.length = 2 := hxl
  have s0 := hf 0 f0 rfl
  have s1 := hf 1 f1 rfl
  rw [t0, o0, hce] at s0
  rw [t1, o1, hce] at s1
  match cs, hl with
  | [c0, c1], _ =>
    have g0 : DataW.trod enc P w 0 sp hd n e [c0] = xs[0]? := s0
    have g1 : DataW.trod enc P w 0 sp hd n e [c1] = xs[1]? := s1
    rw [List.getElem?_eq_getElem (by omega)] at g0 g1
    obtain ⟨a, ha, _⟩ := one_i64 he g0
    obtain ⟨b, hb, _⟩ := one_i64 he g1
    simp only [List.cons.injEq, and_true] at ha hb
    subst ha hb
    exact ⟨(a, b), rfl⟩
theorem open_runs {t e i : TypeId} {f0 f1 : Field} {v : Value} {d : DataW H} {ps : List MemPlace} {r : Reach} {b0 : Nat} (ht : P.underlying t = some (.slice e)) (he : P.underlying e = some (.struct #[f0, f1])) (hi : P.underlying i = some (.int .i64)) (hc : P.cellsOf e = 2 ∧ P.cellsOf i = 1) (hf : f0.type = i ∧ f1.type = i ∧ f0.offset = 0 ∧ f1.offset = 1)
    (hval : Value.okWide P w r b0 t v) (h : DataW.Trod enc P w 0 sp hd t v d ps) : ∃ l : List (Int × Int), PairS w v l := by
  obtain ⟨rows, hs, hr⟩ := open_rows (Q := fun cs => ∃ p : Int × Int, cs = pairC p) ht hc.1 (fun m cs y hy => one_pair he hi hf.1 hf.2.1 hf.2.2.1 hf.2.2.2 hc.2 hc.1 hy) (slice_cells ht hval) h
  have : ∃ l : List (Int × Int), rows = l.map pairC := by
    clear hs
    induction rows with
    | nil => exact ⟨[], rfl⟩
    | cons r rows ih =>
      obtain ⟨l, hl⟩ := ih fun r' h' => hr r' (by simp [h'])
      obtain ⟨_, p, rfl⟩ := hr r (by simp)
      exact ⟨p :: l, by simp [hl]⟩
  obtain ⟨l, rfl⟩ := this
  refine ⟨l, ?_⟩
  unfold PairS
  simpa using hs
end
/-- Stretches behind stretches of the call's own. -/
theorem vAppend_ps {P : Program} {w : World} {K : Value → World → Prop} {t e ty : TypeId} {z : Value} {b : Nat} (ht : P.underlying t = some (.slice e)) (hi : (P.info? e).map (fun i => (i.zero, i.size, i.bytes)) = some (some z, 2, b)) (hzs : z.cells.size = 2)
    {B : Nat} {v x : Value} {l r : List (Int × Int)} (hown : OwnP w B e v l) (hx : PairS w x r) (h63 : l.length + r.length ≤ 1000000000) (hb : b ≤ 1000) (hbase : B ≤ w.heap.size)
    (hK : ∀ v' w', OwnP w' B e v' (l ++ r) → w.grownBy w' v.ownBlock → (v'.ownBlock = v.ownBlock ∨ v'.ownBlock = some w.heap.size) → K v' w') : vAppend P #[t, t] ty #[v, x] K w := by
  refine vAppend_at ht hi hzs (by omega) hown hx ?_ (by unfold maxLen; omega) ?_ hbase ?_
  · intro u hu
    obtain ⟨ys, hy, hu⟩ := List.mem_flatten.1 hu
    obtain ⟨p, _, rfl⟩ := List.mem_map.1 hy
    simp only [pairC, List.mem_cons, List.not_mem_nil, or_false] at hu
    rcases hu with rfl | rfl <;> rfl
  · have : (l.length + r.length) * b ≤ 1000000000 * 1000 := Nat.mul_le_mul h63 hb
    omega
  · intro v' w' ho hg hs
    refine hK v' w' ?_ hg hs
    unfold OwnP
    simpa using ho
theorem OwnP.lit0 (w : World) (e : TypeId) {B : Nat} (hB : B ≤ w.heap.size) : OwnP (w.alloc (.cells #[] e)) B e (.slice (some ⟨w.heap.size, 0, none⟩) 0 0) [] := own_lit w [] e 2 0 rfl (by unfold maxLen; omega) hB
end Go.Vc
