/- The soundness of the generator of verification conditions. -/
import Derived.Test.YtfeocfcclmndoaaVcCore
namespace Go.Vc
open Go.RowKit Go.Sort

def Fw (ro : Option Nat) : Fence := { fn := fun _ => True, depth := none, alive := false, round := ro }
theorem Fw_none : Fw none = Fence.wide := rfl
theorem Fw_some (l : Nat) : Fw (some l) = Fence.wide.inRound l := rfl
theorem callsIn_Fw (ro : Option Nat) (n : Nat) {P : Program} {f : FuncId} {args : Array Value} {w : World} {R : Ending → World → Prop} : CallsIn (Fw ro) n P f args w R ↔ Calls P f args w R := by
  cases ro with
  | none => exact callsIn_wide
  | some l => exact callsIn_wide (n := n)
theorem roundIn_Fw (ro : Option Nat) {n : Nat} {P : Program} {l : Nat} {f : FuncId} {tmps : Array Value} {assign body : Code} {w : World} {R : Ending → World → Prop}
    (h : RoundIn Fence.wide 0 P l f tmps assign body w R) : RoundIn (Fw ro) n P l f tmps assign body w R :=
  ⟨trivial, fun c cs _ => h.2 c cs (room_wide _)⟩

structure Rep (n : Nat) (a : Act) (ds : List Deferred) (σ : Env) : Prop where
  size : a.tmps.size = n
  defers : a.defers = ds
  at_ : ∀ i, a.tmps.getD i undef = σ i
def lift (n : Nat) (Q : Post) : Exit → Act → World → Prop := fun e a w => ∃ ds σ, Rep n a ds σ ∧ Q e ds σ w

theorem Rep.eval {n : Nat} {a : Act} {ds : List Deferred} {σ : Env} (h : Rep n a ds σ) : a.eval = ev σ := by
  funext x; cases x <;> simp only [Act.eval, ev, h.at_]
theorem Rep.put {n : Nat} {a : Act} {ds : List Deferred} {σ : Env} (h : Rep n a ds σ) {dst : Option Nat} (hd : dst.all (fun d => decide (d < n)) = true) (v : Value) : Rep n (a.put dst v) ds (put σ dst v) := by
  cases dst with
  | none => exact h
  | some d =>
    have hd' : d < n := by simpa using hd
    refine ⟨by simpa [Act.put] using h.size, h.defers, fun i => ?_⟩
    have := h.at_ i
    simp only [Act.put, Vc.put, upd, Array.getD_eq_getD_getElem?, Array.getElem?_setIfInBounds] at *
    by_cases e : i = d
    · subst e; simp [h.size, hd']
    · rw [if_neg (fun x => e x.symm), if_neg e]; exact this

/-! ### single operations -/
section ops
variable {P : Program} {σ : Env} {w : World} {K : Value → World → Prop}

theorem vcUp_mono {K K' : Value → World → Prop} {r : Result Next} (h : vcUp P K r) (hk : ∀ v w, K v w → K' v w) : vcUp P K' r := by
  unfold vcUp at *
  split at h
  · exact hk _ _ h
  · exact hk _ _ h
  · exact Calls.mono h fun e w' ⟨v, he, hv⟩ => ⟨v, he, hk _ _ hv⟩
  · exact RoundIn.mono h fun e w' ⟨v, he, hv⟩ => ⟨v, he, hk _ _ hv⟩
  · exact h.elim
theorem FnC.mono {f : FuncId} {args : Array Value} {R R' : Value → World → Prop} (h : FnC P f args w R) (hk : ∀ v w, R v w → R' v w) : FnC P f args w R' := vcUp_mono h hk

theorem run_val_pure {v : Value} {s : Sem Value} {w w' : World} (h : s.run P w = .ok v w') : (val s).run P w = .ok (.value v) w' := by
  simp [val, h]
theorem run_unt {s : Sem Unit} {w w' : World} (h : s.run P w = .ok () w') : (unt s).run P w = .ok .skip w' := by
  simp [unt, h]

theorem run_intBits (op : BinOp) (hop : op = .and ∨ op = .or ∨ op = .xor ∨ op = .andNot) (k : IntKind) (a b : Int) : (Op.intBits op k a b).run P w = .ok (.int k (bitI op k a b)) w := by
  rcases hop with h | h | h | h <;> subst h <;> rfl

theorem eq_toList (a b : ByteArray) : (a.toList == b.toList) = decide (a = b) := by
  rw [Bool.eq_iff_iff]
  simp only [beq_iff_eq, decide_eq_true_eq, ByteArray.toList_eq]
  constructor
  · intro h; cases a; cases b; simp at h; simp [h]
  · intro h; rw [h]

theorem eqKind_one {d : Option TypeDesc} (h : eqKind d = 1) : ∃ e, d = some (.pointer e) := by
  unfold eqKind at h; split at h <;> simp_all
theorem eqKind_two {d : Option TypeDesc} (h : eqKind d = 2) : ∃ e, d = some (.slice e) := by
  unfold eqKind at h; split at h <;> simp_all
theorem eqKind_four {d : Option TypeDesc} (h : eqKind d = 4) : d = some .bool := by
  unfold eqKind at h; split at h <;> first | rfl | cases h
theorem eqKind_three {d : Option TypeDesc} (h : eqKind d = 3) : ∃ k e, d = some (.map k e) := by
  unfold eqKind at h; split at h <;> simp_all
theorem run_eqIn_ptr_nil {t e : TypeId} (h : P.underlying t = some (.pointer e)) (d : Nat) (a : Option Addr) (w : World) : (Op.equalIn (d + 1) t (.pointer a) (.pointer none)).run P w = .ok a.isNone w := by
  cases a <;> simp [Op.equalIn, run_underlying h]
theorem run_eqIn_slice_nil {t e : TypeId} (h : P.underlying t = some (.slice e)) (dd : Nat) (a : Option Addr) (n c m d : Nat) (w : World) : (Op.equalIn (dd + 1) t (.slice a n c) (.slice none m d)).run P w = .ok a.isNone w := by
  cases a <;> simp [Op.equalIn, run_underlying h]
theorem run_eqIn_map_nil {t k e : TypeId} (h : P.underlying t = some (.map k e)) (d : Nat) (a : Option Nat) (w : World) : (Op.equalIn (d + 1) t (.map a) (.map none)).run P w = .ok a.isNone w := by
  cases a <;> simp [Op.equalIn, run_underlying h]
theorem run_eq_ptr_nil {t : TypeId} (h : ∃ e, P.underlying t = some (.pointer e)) (a : Option Addr) (w : World) : (Op.equal t (.pointer a) (.pointer none)).run P w = .ok a.isNone w := by
  obtain ⟨e, h⟩ := h; exact run_eqIn_ptr_nil h 9999 a w
theorem run_eq_slice_nil {t : TypeId} (h : ∃ e, P.underlying t = some (.slice e)) (a : Option Addr) (n c m d : Nat) (w : World) : (Op.equal t (.slice a n c) (.slice none m d)).run P w = .ok a.isNone w := by
  obtain ⟨e, h⟩ := h; exact run_eqIn_slice_nil h 9999 a n c m d w
theorem run_eq_map_nil {t : TypeId} (h : ∃ k e, P.underlying t = some (.map k e)) (a : Option Nat) (w : World) : (Op.equal t (.map a) (.map none)).run P w = .ok a.isNone w := by
  obtain ⟨k, e, h⟩ := h; exact run_eqIn_map_nil h 9999 a w
/-- Neither a number nor a text. -/
def refV : Value → Bool
  | .pointer _ => true
  | .slice .. => true
  | .map _ => true
  | .bool _ => true
  | _ => false
theorem run_eqIn_bool {t : TypeId} (h : P.underlying t = some .bool) (d : Nat) (a b : Bool) (w : World) : (Op.equalIn (d + 1) t (.bool a) (.bool b)).run P w = .ok (decide (a = b)) w := by
  have : (decide (a = b)) = (a == b) := by cases a <;> cases b <;> rfl
  rw [this]
  simp [Op.equalIn, run_underlying h]
theorem run_eq_bool {t : TypeId} (h : P.underlying t = some .bool) (a b : Bool) (w : World) : (Op.equal t (.bool a) (.bool b)).run P w = .ok (decide (a = b)) w := run_eqIn_bool h 9999 a b w
theorem run_nil_eql {t : TypeId} {x y : Operand} {a b : Value} {r : Bool} (h : ∀ w, (Op.equal t a b).run P w = .ok r w) (hr : (refV a && refV b) = true) {w : World} : (do eqGuard .eql t x y a b; binOp .eql t a b).run P w = .ok (.bool r) w := by
  cases a <;> cases b <;> simp_all [refV, eqGuard, binOp]
theorem run_nil_neq {t : TypeId} {x y : Operand} {a b : Value} {r : Bool} (h : ∀ w, (Op.equal t a b).run P w = .ok r w) (hr : (refV a && refV b) = true) {w : World} : (do eqGuard .neq t x y a b; binOp .neq t a b).run P w = .ok (.bool (!r)) w := by
  cases a <;> cases b <;> simp_all [refV, eqGuard, binOp]
theorem vBin_sound (op : BinOp) (t : TypeId) (x y : Operand) (a b : Value) (h : vBin P op t x y a b K w) : vcUp P K ((val (do eqGuard op t x y a b; binOp op t a b)).run P w) := by
  unfold vBin at h
  split at h
  · rename_i k m k' n
    obtain ⟨h0, h⟩ := h
    have : (do eqGuard .shl t x y (.int k m) (.int k' n); binOp .shl t (.int k m) (.int k' n)).run P w = .ok (.int k (k.wrap (m * 2 ^ (min n.toNat k.bits)))) w := by
      have e : ¬ n < 0 := by omega
      simp [eqGuard, binOp, Op.shift, e]
    rw [run_val_pure this]; exact h
  · rename_i k m k' n
    obtain ⟨h0, h⟩ := h
    have : (do eqGuard .shr t x y (.int k m) (.int k' n); binOp .shr t (.int k m) (.int k' n)).run P w = .ok (.int k (m.fdiv (2 ^ (min n.toNat k.bits)))) w := by
      have e : ¬ n < 0 := by omega
      simp [eqGuard, binOp, Op.shift, e]
    rw [run_val_pure this]; exact h
  · rename_i k m k' n hs1 hs2
    obtain ⟨rfl, h⟩ := h
    have eg : ∀ op, (eqGuard op t x y (.int k m) (.int k n)).run P w = .ok () w := by
      intro op; unfold eqGuard; split <;> rfl
    have go : ∀ v, (binOp op t (.int k m) (.int k n)).run P w = .ok v w → K v w → vcUp P K ((val (do eqGuard op t x y (.int k m) (.int k n); binOp op t (.int k m) (.int k n))).run P w) := by
      intro v hv hk
      rw [run_val_pure (v := v) (w' := w) (by simp [eg, hv])]; exact hk
    unfold iBin at h
    split at h
    · exact go _ (by simp [binOp, Op.intArith]) h
    · exact go _ (by simp [binOp, Op.intArith]) h
    · exact go _ (by simp [binOp, Op.intArith]) h
    · exact go _ (by simp [binOp, Op.intDiv, h.1]) h.2
    · exact go _ (by simp [binOp, Op.intDiv, h.1]) h.2
    · exact go _ (by simp only [binOp]; simp [run_intBits]) h
    · exact go _ (by simp only [binOp]; simp [run_intBits]) h
    · exact go _ (by simp only [binOp]; simp [run_intBits]) h
    · exact go _ (by simp only [binOp]; simp [run_intBits]) h
    · exact go _ (by simp [binOp, Op.intCmp]; rfl) h
    · exact go _ (by simp [binOp, Op.intCmp]; rfl) h
    · exact go _ (by simp [binOp, Op.intCmp]) h
    · exact go _ (by simp [binOp, Op.intCmp]) h
    · exact go _ (by simp [binOp, Op.intCmp]) h
    · exact go _ (by simp [binOp, Op.intCmp]) h
    · exact h.elim
  · rename_i m n
    have eg : ∀ op, (eqGuard op t x y (.string m) (.string n)).run P w = .ok () w := by
      intro op; unfold eqGuard; split <;> rfl
    have go : ∀ v, (binOp op t (.string m) (.string n)).run P w = .ok v w → K v w → vcUp P K ((val (do eqGuard op t x y (.string m) (.string n); binOp op t (.string m) (.string n))).run P w) := by
      intro v hv hk
      rw [run_val_pure (v := v) (w' := w) (by simp [eg, hv])]; exact hk
    unfold sBin at h
    have hl : ∀ s : ByteArray, s.data.toList = s.toList := fun s => (ByteArray.toList_eq s).symm
    split at h
    · refine go _ ?_ h.2
      have e : ¬ ((m.size + n.size : Nat) : Int) > IntKind.i64.max := by
        have : IntKind.i64.max = 9223372036854775807 := by decide
        rw [this]; omega
      simp only [binOp, Op.stringOp, if_neg e]; rfl
    · exact go _ (by simp only [binOp, Op.stringOp, eq_toList]; rfl) h
    · exact go _ (by simp only [binOp, Op.stringOp, eq_toList]; rfl) h
    · exact go _ (by simp only [binOp, Op.stringOp, hl]; rfl) h
    · exact go _ (by simp only [binOp, Op.stringOp, eq_toList, hl]; rfl) h
    · exact go _ (by simp only [binOp, Op.stringOp, eq_toList, hl]; rfl) h
    · exact go _ (by simp only [binOp, Op.stringOp, hl]; rfl) h
    · exact h.elim
  · rw [run_val_pure (run_nil_eql (fun w => run_eq_ptr_nil (eqKind_one h.1) _ w) rfl)]; exact h.2
  · rw [run_val_pure (run_nil_neq (fun w => run_eq_ptr_nil (eqKind_one h.1) _ w) rfl)]; exact h.2
  · rw [run_val_pure (run_nil_eql (fun w => run_eq_slice_nil (eqKind_two h.1) _ _ _ _ _ w) rfl)]; exact h.2
  · rw [run_val_pure (run_nil_neq (fun w => run_eq_slice_nil (eqKind_two h.1) _ _ _ _ _ w) rfl)]; exact h.2
  · rw [run_val_pure (run_nil_eql (fun w => run_eq_map_nil (eqKind_three h.1) _ w) rfl)]; exact h.2
  · rw [run_val_pure (run_nil_eql (fun w => run_eq_bool (eqKind_four h.1) _ _ w) rfl)]; exact h.2
  · rw [run_val_pure (run_nil_neq (fun w => run_eq_bool (eqKind_four h.1) _ _ w) rfl)]; exact h.2
  · exact h

theorem vUn_sound (op : UnOp) (a : Value) (h : vUn P op a K w) : vcUp P K ((val (Op.unary op a)).run P w) := by
  unfold vUn at h
  split at h
  · rw [run_val_pure (v := _) (w' := w) (by simp only [Op.unary, Op.intArith]; rfl)]; exact h
  · rw [run_val_pure (v := _) (w' := w) (by simp only [Op.unary]; exact run_intBits .xor (by simp) _ _ _)]; exact h
  · rw [run_val_pure (v := _) (w' := w) (by simp [Op.unary]; rfl)]; exact h
  · exact h
theorem vConv_sound (s d : TypeId) (a : Value) (h : vConv P s d a K w) : vcUp P K ((val (convert s d a)).run P w) := by
  unfold vConv vConvD at h
  split at h
  · rename_i ds k k' n hs hd
    rw [run_val_pure (v := .int k (k.wrap n)) (w' := w) (by
      unfold convert
      simp [run_underlying hs, run_underlying hd]
      cases ds <;> simp [Conv.intToInt])]
    exact h
  · rename_i ds st hs hd
    rw [run_val_pure (v := .string st) (w' := w) (by
      unfold convert
      simp [run_underlying hs, run_underlying hd])]
    exact h
  · exact h
end ops
end Go.Vc
