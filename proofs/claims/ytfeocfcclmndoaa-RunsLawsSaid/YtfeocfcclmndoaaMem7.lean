/- Rows of a call's own beside one another: what is put behind one leaves the others. -/
import Derived.Test.YtfeocfcclmndoaaMem6
import Derived.Maps.AppendAt
namespace Go.Vc
open Go.RowKit
/-- Two rows of a call's own lie in two blocks. -/
def Apt (v x : Value) : Prop := ∀ k, v.ownBlock = some k → x.ownBlock ≠ some k
theorem Apt.symm {v x : Value} (h : Apt v x) : Apt x v := fun k hk hk' => h k hk' hk
theorem Apt.nil (x : Value) : Apt (.slice none 0 0) x := fun k hk => by simp [Value.ownBlock] at hk
theorem apt_of {w w' : World} {B B' s s' n n' : Nat} {e e' : TypeId} {v x : Value} {xs ys : List Value} (hv : w.ownsRow B e s v n xs) (hx : w'.ownsRow B' e' s' x n' ys) (h : w.heap.size ≤ B') : Apt v x := by
  intro k hk hk'
  have h1 := World.ownsRow.lt hv k hk
  obtain ⟨_, h2⟩ := hx
  rcases h2 with ⟨rfl, _⟩ | ⟨b, cap, cur, rfl, hb, _⟩
  · simp [Value.ownBlock] at hk'
  · simp only [Value.ownBlock, Option.some.injEq] at hk'
    omega
theorem own_apt {w w' : World} {base s n : Nat} {e : TypeId} {v x : Value} {xs : List Value} (h : w.ownsRow base e s x n xs) (g : w.grownBy w' v.ownBlock) (hap : Apt v x) : w'.ownsRow base e s x n xs := by
  obtain ⟨h0, h⟩ := h
  refine ⟨h0, ?_⟩
  rcases h with h | ⟨b, cap, cur, hv, hb, hh, h3⟩
  · exact .inl h
  · refine .inr ⟨b, cap, cur, hv, hb, ?_, h3⟩
    rw [g.block b (Blk.lt hh) (fun e => hap b e.symm (by rw [hv]; rfl))]
    exact hh
/-- A row of a call's own and what it becomes: another row that lay apart still does. -/
theorem Apt.next {w : World} {base s n : Nat} {e : TypeId} {v v' x : Value} {xs : List Value} (hap : Apt v x) (hx : w.ownsRow base e s x n xs) (h : v'.ownBlock = v.ownBlock ∨ v'.ownBlock = some w.heap.size) : Apt v' x := by
  intro k hk hk'
  rcases h with h | h
  · exact hap k (h ▸ hk) hk'
  · have := World.ownsRow.lt hx k hk'
    rw [h] at hk
    simp only [Option.some.injEq] at hk
    omega
theorem vAppend_at {P : Program} {w : World} {K : Value → World → Prop} {t e ty : TypeId} {z : Value} {s b : Nat} (ht : P.underlying t = some (.slice e)) (hi : (P.info? e).map (fun i => (i.zero, i.size, i.bytes)) = some (some z, s, b)) (hzs : z.cells.size = s) (hsz : 0 < s)
    {base : Nat} {v x : Value} {n m : Nat} {xs news : List Value} (hown : w.ownsRow base e s v n xs) (hx : SlN w s x m news) (h1 : ∀ u ∈ news, u.oneCell' = true) (h63 : n + m ≤ maxLen) (hb : (n + m) * b ≤ 140737488355328) (hbase : base ≤ w.heap.size)
    (hK : ∀ v' w', w'.ownsRow base e s v' (n + m) (xs ++ news) → w.grownBy w' v.ownBlock → (v'.ownBlock = v.ownBlock ∨ v'.ownBlock = some w.heap.size) → K v' w') : vAppend P #[t, t] ty #[v, x] K w := by
  obtain ⟨i, hi1, hz, hsi, hbi⟩ := info_parts hi
  unfold vAppend
  obtain ⟨hl, hr⟩ := hx
  rcases hr with ⟨rfl, rfl⟩ | ⟨ad, c, rfl, hc1, hc2, hc3⟩
  · have hnews : news = [] := List.eq_nil_of_length_eq_zero (by simpa using hl)
    subst hnews
    have hsl := SlN.of_own hown
    obtain ⟨o, c, rfl, h1, h2, h3, h4, _⟩ := hsl.open
    rw [run_val_pure (run_append_nil_src ht hi o n c h1 (fun ho => (h4 ho).1))]
    exact hK _ _ (by simpa using hown) ⟨rfl, rfl, rfl, Nat.le_refl _, fun _ _ _ => rfl⟩ (.inl rfl)
  · obtain ⟨v', w', hr, h2, h3, h4, h5⟩ := run_append_own_at (P := P) w base t ty e i z s b ht hi1 hz hsi hbi hzs hsz v n xs hown ad m c news hl hc3 h1 h63 hb hbase
    rw [run_val_pure hr]
    exact hK _ _ h2 h3 h5
theorem grown_blk {w w' : World} {base s n k : Nat} {e : TypeId} {v : Value} {xs : List Value} {cs : Array Value} {e' : TypeId} (hv : w.ownsRow base e s v n xs) (g : w.grownBy w' v.ownBlock) (h : Blk w k cs e') (hk : k < base) : Blk w' k cs e' := by
  unfold Blk at *
  rw [g.block k (Blk.lt h) fun he => ?_]; exact h
  obtain ⟨_, hr⟩ := hv
  rcases hr with ⟨rfl, _⟩ | ⟨b, cap, cur, rfl, hb, _⟩
  · simp [Value.ownBlock] at he
  · simp only [Value.ownBlock, Option.some.injEq] at he; omega
/-- A block of another type stays. -/
theorem grown_ne {w w' : World} {base s n k : Nat} {e e' : TypeId} {v : Value} {xs : List Value} {cs : Array Value} (hv : w.ownsRow base e s v n xs) (g : w.grownBy w' v.ownBlock) (h : Blk w k cs e') (hne : e' ≠ e) : Blk w' k cs e' := by
  unfold Blk at *
  rw [g.block k (Blk.lt h) fun he => ?_]; exact h
  obtain ⟨_, hr⟩ := hv
  rcases hr with ⟨rfl, _⟩ | ⟨b, cap, cur, rfl, _, hh, _⟩
  · simp [Value.ownBlock] at he
  · simp only [Value.ownBlock, Option.some.injEq] at he
    subst he
    rw [hh] at h
    simp only [Option.some.injEq, Obj.cells.injEq] at h
    exact hne h.2.1.symm
end Go.Vc
