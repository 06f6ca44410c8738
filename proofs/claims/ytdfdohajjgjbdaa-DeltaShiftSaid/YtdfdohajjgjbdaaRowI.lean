/- Numbers that came in. -/
import Derived.Test.YtdfdohajjgjbdaaRow
import Derived.Test.YtdfdohajjgjbdaaDel1
namespace Go.Proofs.Ytdfdohajjgjbdaa
open Go.Vc Go.Del Go.RowKit Go.ChangeShapes
section
variable {H : Type} {enc : TypeId × Value → H} {P : Program} {w : World} {sp : Nat → Bool} {hd : Bool}
theorem open_i64s {t e : TypeId} {v : Value} {d : DataW H} {ps : List MemPlace} {r : Reach} {b0 : Nat} (ht : P.underlying t = some (.slice e)) (he : P.underlying e = some (.int .i64)) (hc : P.cellsOf e = 1) (hval : Value.okWide P w r b0 t v) (h : DataW.Trod enc P w 0 sp hd t v d ps) :
    ∃ l : List Int, Sl w v (l.map i64v) ∧ Ok l := by
  obtain ⟨rows, hs, hr⟩ := open_rows (Q := fun cs => ∃ c : Int, cs = [i64v c] ∧ -9223372036854775808 ≤ c ∧ c ≤ 9223372036854775807) ht hc (fun m cs y hy => by
    obtain ⟨n, rfl, _, hw⟩ := DataW.trod_int he hy
    have := i64_of_wf hw
    exact ⟨n, rfl, this⟩) (slice_cells ht hval) h
  have : ∃ l : List Int, rows.flatten = l.map i64v ∧ l.length = rows.length ∧ Ok l := by
    clear hs
    induction rows with
    | nil => exact ⟨[], rfl, rfl, fun x hx => by simp at hx⟩
    | cons r rows ih =>
      obtain ⟨l, hl, hn, hok⟩ := ih fun r' h' => hr r' (by simp [h'])
      obtain ⟨_, c, rfl, hc⟩ := hr r (by simp)
      refine ⟨c :: l, by simp [hl], by simp [hn], fun x hx => ?_⟩
      rcases List.mem_cons.1 hx with rfl | hx
      · exact hc
      · exact hok x hx
  obtain ⟨l, hl, hn, hok⟩ := this
  refine ⟨l, ?_, hok⟩
  unfold Sl
  rw [hl, ← hn] at hs
  simpa using hs
end
end Go.Proofs.Ytdfdohajjgjbdaa
