/- A script that came in: its acts, one by one. -/
import Derived.Test.YtgomibebepmlhaaZig8
import Derived.Test.YtgomibebepmlhaaRow
import Derived.Test.YtgomibebepmlhaaMem3
namespace Go.Proofs.Ytgomibebepmlhaa
open Go.Vc Go.Zig Go.RowKit
/-- An act of a script. -/
structure Step where
  kind : Int
  n : Int
  least : Int
  most : Int
  s : ByteArray
def Step.cells (a : Step) : List Value := [.int .i64 a.kind, .int .i64 a.n, .int .i64 a.least, .int .i64 a.most, .string a.s]
def Step.ok (a : Step) : Prop := I64 a.kind ∧ I64 a.n ∧ I64 a.least ∧ I64 a.most ∧ a.s.size ≤ maxLen
theorem steps_len (acts : List Step) : ∀ r ∈ acts.map Step.cells, r.length = 5 := by
  intro r hr
  obtain ⟨a, _, rfl⟩ := List.mem_map.1 hr
  rfl
theorem one_int {H : Type} {enc : TypeId × Value → H} {P : Program} {w : World} {sp : Nat → Bool} {hd : Bool} {t : TypeId} {m : Nat} {c : Value} {x : Option (DataW H × List MemPlace)} (ht : P.underlying t = some (.int .i64)) (h : DataW.trod enc P w 0 sp hd m t [c] = x) (hx : x.isSome = true) : ∃ n, c = .int .i64 n ∧ I64 n := by
  cases x with
  | none => cases hx
  | some y =>
    obtain ⟨n, hc, _, hw⟩ := DataW.trod_int ht h
    simp only [List.cons.injEq, and_true] at hc
    exact ⟨n, hc, i64_of_wf hw⟩
theorem open_acts {H : Type} {enc : TypeId × Value → H} {w : World} {sp : Nat → Bool} {hd : Bool} {v : Value} {d : DataW H} {ps : List MemPlace} {r : Reach} {b0 : Nat} (hval : Value.okWide Try.prog w r b0 39 v) (h : DataW.Trod enc Try.prog w 0 sp hd 39 v d ps) :
    ∃ acts : List Step, SlN w 5 v acts.length (acts.map Step.cells).flatten ∧ ∀ a ∈ acts, a.ok := by
  obtain ⟨rows, hs, hr⟩ := open_rows (s := 5) (Q := fun cs => ∃ a : Step, cs = a.cells ∧ a.ok) Try.underlying39 (by kernel_rfl) (fun m cs y hy => by
    obtain ⟨xs, n, _, _, hl, hxl, hf⟩ := DataW.trod_struct Try.underlying42 hy
    have hl : cs.length = 5 := hl
    have hxl : xs.length = 5 := hxl
    match cs, hl with
    | [c0, c1, c2, c3, c4], _ =>
      have f0 := hf 0 _ rfl
      have f1 := hf 1 _ rfl
      have f2 := hf 2 _ rfl
      have f3 := hf 3 _ rfl
      have f4 := hf 4 _ rfl
      have sx : ∀ i, i < 5 → (xs[i]?).isSome = true := fun i hi => by rw [List.getElem?_eq_getElem (by omega)]; rfl
      obtain ⟨n0, rfl, h0⟩ := one_int Try.underlying3 f0 (sx 0 (by omega))
      obtain ⟨n1, rfl, h1⟩ := one_int Try.underlying3 f1 (sx 1 (by omega))
      obtain ⟨n2, rfl, h2⟩ := one_int Try.underlying3 f2 (sx 2 (by omega))
      obtain ⟨n3, rfl, h3⟩ := one_int Try.underlying3 f3 (sx 3 (by omega))
      have h4 := sx 4 (by omega)
      rw [← f4] at h4
      cases hy4 : DataW.trod enc Try.prog w 0 sp hd n 9 [c4] with
      | none =>
        exfalso
        have : DataW.trod enc Try.prog w 0 sp hd n 9 [c4] = xs[4]? := f4
        rw [hy4] at this
        have := sx 4 (by omega)
        simp_all
      | some y4 =>
        obtain ⟨s, hc, _, hsz⟩ := DataW.trod_string Try.underlying9 hy4
        simp only [List.cons.injEq, and_true] at hc
        subst hc
        exact ⟨⟨n0, n1, n2, n3, s⟩, rfl, h0, h1, h2, h3, hsz⟩) (slice_cells Try.underlying39 hval) h
  have : ∃ acts : List Step, rows = acts.map Step.cells ∧ ∀ a ∈ acts, a.ok := by
    clear hs
    induction rows with
    | nil => exact ⟨[], rfl, by simp⟩
    | cons q rows ih =>
      obtain ⟨acts, e, ho⟩ := ih fun r' h' => hr r' (by simp [h'])
      obtain ⟨_, a, ha, hok⟩ := hr q (by simp)
      refine ⟨a :: acts, by simp [e, ha], fun b hb => ?_⟩
      rcases List.mem_cons.1 hb with rfl | hb
      · exact hok
      · exact ho b hb
  obtain ⟨acts, rfl, ho⟩ := this
  exact ⟨acts, by simpa using hs, ho⟩
end Go.Proofs.Ytgomibebepmlhaa
