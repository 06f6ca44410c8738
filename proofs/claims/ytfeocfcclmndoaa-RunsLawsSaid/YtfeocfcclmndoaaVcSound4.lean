/- The soundness of the generator of verification conditions: regions and code. -/
import Derived.Test.YtfeocfcclmndoaaVcSound3
namespace Go.Vc
open Go.RowKit Go.Sort
variable {P : Program}

theorem exe_oper {o : Oper} {a : Act} {n : Nat} {ds : List Deferred} {σ : Env} (hr : Rep n a ds σ) (w : World) : (execOp a.eval o).run P w = exe P o.op o.type σ w := by
  rw [hr.eval]; rfl
theorem vcUp_upon {K : Value → World → Prop} {ro : Option Nat} {o : Oper} {a : Act} {next : Act → World → Prop} {Q : Exit → Act → World → Prop} {r : Result Next}
    (h : vcUp P K r) (hk : ∀ v w, K v w → next (a.put o.dst v) w) : o.uponIn (Fw ro) 0 P a next Q r := by
  unfold vcUp at h
  split at h
  · exact hk _ _ h
  · exact hk _ _ h
  · refine ⟨fun x => by simp [Fw] at x, ?_⟩
    refine (callsIn_Fw ro _).2 (Calls.mono h ?_)
    rintro e w' ⟨v, rfl, hv⟩
    exact hk _ _ hv
  · refine ⟨fun x => by simp [Fw] at x, ?_⟩
    refine roundIn_Fw ro (RoundIn.mono h ?_)
    rintro e w' ⟨v, rfl, hv⟩
    exact hk _ _ hv
  · exact h.elim
/-- What a guard asks of the slots. -/
theorem wanted_eq {ops : Array Oper} {o : Oper} {n : Nat} {a : Act} {ds : List Deferred} {σ : Env} (hr : Rep n a ds σ) (hok : okOper n ops o = true) {A B : Prop} (h : vGd (strip ops o).guard σ A B) :
    (Region.wanted o (yielded ops a.tmps) = true ∧ A) ∨ (Region.wanted o (yielded ops a.tmps) = false ∧ B) := by
  cases hg : o.guard with
  | none =>
    simp only [strip, hg, Option.map_none, vGd] at h
    exact .inl ⟨by simp [Region.wanted, hg], h⟩
  | some g =>
    obtain ⟨j, want⟩ := g
    have hs : ((ops[j]?).bind (·.dst)).isSome = true := by
      simp only [okOper, hg, Bool.and_eq_true] at hok; exact hok.1.2
    obtain ⟨s, hs⟩ := Option.isSome_iff_exists.1 hs
    simp only [strip, hg, Option.map_some, hs, Option.getD_some, vGd] at h
    have hat := hr.at_ s
    have hy : yielded ops a.tmps j = (match σ s with | .bool b => some b | _ => none) := by
      unfold yielded
      rw [hs]
      simp only [Option.bind_some]
      rw [Array.getD_eq_getD_getElem?] at hat
      cases hv : a.tmps[s]? with
      | none => rw [hv] at hat; simp at hat; rw [← hat]; rfl
      | some v => rw [hv] at hat; simp at hat; rw [← hat]; cases v <;> rfl
    simp only [Region.wanted, hg, hy]
    split at h
    · rename_i b hb
      simp only [hb] at *
      by_cases e : b = want
      · rw [if_pos e] at h; exact .inl ⟨by simp [e], h⟩
      · rw [if_neg e] at h; exact .inr ⟨by simp [e], h⟩
    · rename_i hb
      refine .inr ⟨?_, h⟩
      cases hv : σ s <;> simp_all
theorem okOper_dst {n : Nat} {ops : Array Oper} {o : Oper} (h : okOper n ops o = true) : o.dst.all (fun d => decide (d < n)) = true := by
  simp only [okOper, Bool.and_eq_true] at h; exact h.1.1
theorem okOper_defer {n : Nat} {ops : Array Oper} {o : Oper} (h : okOper n ops o = true) : ∀ c, o.op ≠ .defer c := by
  simp only [okOper, Bool.and_eq_true] at h
  intro c hc; rw [hc] at h; simp [notDefer] at h
/-- What a post may say besides: the slots that were not written stay. -/
def Fr (W : List Nat) (σ : Env) (Q : Post) : Post := fun e ds' σ' w' => Q e ds' σ' w' ∧ ∀ i, i ∉ W → σ' i = σ i
theorem put_frame {W : List Nat} {σ σ0 : Env} {d : Option Nat} {v : Value} (h : ∀ i, i ∉ W → σ i = σ0 i) (hd : ∀ x, d = some x → x ∈ W) : ∀ i, i ∉ W → put σ d v i = σ0 i := by
  intro i hi
  cases d with
  | none => exact h i hi
  | some d =>
    have : i ≠ d := fun e => hi (e ▸ hd d rfl)
    simp only [put, upd, if_neg this]; exact h i hi
theorem vcOps_sound {n : Nat} {ro : Option Nat} {ops : Array Oper} {Q : Post} {ds : List Deferred} {W : List Nat} {σ0 : Env} (l : List Oper) : ∀ (σ : Env) (w : World) (a : Act), Rep n a ds σ → l.all (okOper n ops) = true →
    (∀ o ∈ l, ∀ x, o.dst = some x → x ∈ W) → (∀ i, i ∉ W → σ i = σ0 i) → vcOps P (l.map (strip ops)) (Q .normal ds) σ w → wpListIn (Fw ro) 0 P ops (lift n (Fr W σ0 Q)) l a w := by
  induction l with
  | nil => intro σ w a hr _ _ hf h; exact ⟨ds, σ, hr, h, hf⟩
  | cons o l ih =>
    intro σ w a hr hok hW hf h
    simp only [List.all_cons, Bool.and_eq_true] at hok
    simp only [List.map_cons, vcOps] at h
    have hW1 := hW o (List.mem_cons_self ..)
    have hW2 : ∀ o ∈ l, ∀ x, o.dst = some x → x ∈ W := fun o ho => hW o (List.mem_cons_of_mem _ ho)
    unfold wpListIn
    rcases wanted_eq hr hok.1 h with ⟨hw, h⟩ | ⟨hw, h⟩
    · rw [if_pos hw]
      refine ⟨fun _ _ => trivial, ?_⟩
      rw [Oper.semAt_eq _ _ _ (okOper_defer hok.1), exe_oper hr]
      refine vcUp_upon (vcOp_sound _ _ h) fun v w' hv => ih _ _ _ (hr.put (okOper_dst hok.1) v) hok.2 hW2 (put_frame hf hW1) hv
    · rw [if_neg (by simp [hw])]
      exact ⟨fun _ _ => trivial, ih _ _ _ (hr.put (okOper_dst hok.1) _) hok.2 hW2 (put_frame hf hW1) h⟩

/-! ### the drawn regions -/
theorem qX_steady {op : Op} {ty : TypeId} {σ : Env} {w : World} {K : Value → Prop} {v : Value} (h : ∀ w', exe P op ty σ w' = .ok (.value v) w') (hk : K v) : qX P op ty σ w K :=
  ⟨v, fun w' _ => by rw [h]; exact ⟨rfl, rfl⟩, hk⟩
theorem Later.refl (w : World) : Later w w := Below.refl _ _
theorem Later.trans {a b c : World} (h : Later a b) (k : Later b c) : Later a c := Below.trans h (Below.mono k h.size)
theorem Later.cell {w w' : World} (h : Later w w') {a : Addr} {v : Value} (hc : w.cell? a = some v) : w'.cell? a = some v := by
  rw [Below.cell h (block_lt_of_cell hc)]; exact hc
theorem cellsAt_later {w w' : World} (h : Later w w') (n : Nat) : ∀ {a : Addr} {cs : List Value}, cellsAt w a n = some cs → cellsAt w' a n = some cs := by
  induction n with
  | zero => intro a cs hc; exact hc
  | succ n ih =>
    intro a cs hc
    unfold cellsAt at hc ⊢
    split at hc
    · rename_i v hv
      rw [h.cell hv]
      split at hc
      · rename_i l hl
        rw [ih hl]; exact hc
      · cases hc
    · cases hc
theorem Later.cellsAt {w w' : World} (h : Later w w') {n : Nat} {a : Addr} {cs : List Value} (hc : Vc.cellsAt w a n = some cs) : Vc.cellsAt w' a n = some cs := cellsAt_later h n hc
theorem steady_index' {t : TypeId} {u : Option TypeDesc} {x i : Value} {K : Value → Prop} {w : World} (hu : P.underlying t = u) (h : vIndexD P t u x i (fun v _ => K v) w) (hx : (∃ n e cs k j, u = some (.array n e) ∧ x = .agg cs ∧ i = .int k j) ∨ (∃ s k j, u = some .string ∧ x = .string s ∧ i = .int k j)) : ∃ v, Steady P (Instr.index t x i) v ∧ K v := by
  rcases hx with ⟨n, e, cs, k, j, rfl, rfl, rfl⟩ | ⟨s, k, j, rfl, rfl, rfl⟩
  · simp only [vIndexD] at h
    obtain ⟨hj, h⟩ := h
    split at h
    · rename_i s hs
      obtain ⟨v, hv, hk⟩ := steady_part h
      exact ⟨v, fun w' => by simp [Instr.index, asIntOf, run_underlying hu, hj, run_sizeOf hs, hv w'], hk⟩
    · exact h.elim
  · simp only [vIndexD] at h
    obtain ⟨h0, b, hb, hk⟩ := h
    exact ⟨_, fun w' => by simp [Instr.index, asIntOf, run_underlying hu, h0, hb], hk⟩
theorem steady_field' {t : TypeId} {off : Nat} {ft : TypeId} {cs : Array Value} {i : Nat} {K : Value → Prop} {w : World} (hf : fieldOf P t i = some (off, ft)) (h : vFieldD P t (some (off, ft)) (.agg cs) i (fun v _ => K v) w) : ∃ v, Steady P (Instr.field t (.agg cs) i) v ∧ K v := by
  simp only [vFieldD] at h
  obtain ⟨v, hv, hk⟩ := steady_part h
  refine ⟨v, fun w' => ?_, hk⟩
  unfold fieldOf at hf
  split at hf
  · rename_i fs hu
    obtain ⟨fl, hfl, he⟩ := Option.map_eq_some_iff.1 hf
    simp only [Prod.mk.injEq] at he
    obtain ⟨rfl, rfl⟩ := he
    simp [Instr.field, run_underlying hu, hfl, asAgg, hv w']
  · cases hf
/-- An equation on the one result of a pure form. -/
theorem pure_of_up {s : Sem Value} {σ : Env} {op : Op} {ty : TypeId} {w : World} {K : Value → Prop} (he : ∀ w', exe P op ty σ w' = (val s).run P w')
    (h : ∃ v, Steady P s v ∧ K v) : qX P op ty σ w K := by
  obtain ⟨v, hs, hk⟩ := h
  exact qX_steady (fun w' => by rw [he, run_val_pure (hs w')]) hk
theorem vBin_int_steady (op : BinOp) (t : TypeId) (x y : Operand) (k k' : IntKind) (m n : Int) {K : Value → Prop} {w : World} (h : vBin P op t x y (.int k m) (.int k' n) (fun v _ => K v) w) :
    ∃ v, Steady P (do eqGuard op t x y (.int k m) (.int k' n); binOp op t (.int k m) (.int k' n)) v ∧ K v := by
  have eg : ∀ op w, (eqGuard op t x y (.int k m) (.int k' n)).run P w = .ok () w := by
    intro op w; unfold eqGuard; split <;> rfl
  have go : ∀ v, (∀ w, (binOp op t (.int k m) (.int k' n)).run P w = .ok v w) → K v → ∃ v, Steady P (do eqGuard op t x y (.int k m) (.int k' n); binOp op t (.int k m) (.int k' n)) v ∧ K v :=
    fun v hv hk => ⟨v, fun w => by simp [eg, hv], hk⟩
  cases op <;> simp only [vBin] at h
  case shl => exact go _ (fun w => by have e : ¬ n < 0 := by omega
                                      simp [binOp, Op.shift, e]) h.2
  case shr => exact go _ (fun w => by have e : ¬ n < 0 := by omega
                                      simp [binOp, Op.shift, e]) h.2
  all_goals obtain ⟨rfl, h⟩ := h
  all_goals simp only [iBin] at h
  case add => exact go _ (fun w => by simp [binOp, Op.intArith]) h
  case sub => exact go _ (fun w => by simp [binOp, Op.intArith]) h
  case mul => exact go _ (fun w => by simp [binOp, Op.intArith]) h
  case quo => exact go _ (fun w => by simp [binOp, Op.intDiv, h.1]) h.2
  case rem => exact go _ (fun w => by simp [binOp, Op.intDiv, h.1]) h.2
  case and => exact go _ (fun w => by simp only [binOp]; simp [run_intBits]) h
  case or => exact go _ (fun w => by simp only [binOp]; simp [run_intBits]) h
  case xor => exact go _ (fun w => by simp only [binOp]; simp [run_intBits]) h
  case andNot => exact go _ (fun w => by simp only [binOp]; simp [run_intBits]) h
  case eql => exact go _ (fun w => by simp [binOp, Op.intCmp]; rfl) h
  case neq => exact go _ (fun w => by simp [binOp, Op.intCmp]; rfl) h
  case lss => exact go _ (fun w => by simp [binOp, Op.intCmp]) h
  case leq => exact go _ (fun w => by simp [binOp, Op.intCmp]) h
  case gtr => exact go _ (fun w => by simp [binOp, Op.intCmp]) h
  case geq => exact go _ (fun w => by simp [binOp, Op.intCmp]) h
theorem vBin_string_steady (op : BinOp) (t : TypeId) (x y : Operand) (m n : ByteArray) {K : Value → Prop} {w : World} (h : vBin P op t x y (.string m) (.string n) (fun v _ => K v) w) :
    ∃ v, Steady P (do eqGuard op t x y (.string m) (.string n); binOp op t (.string m) (.string n)) v ∧ K v := by
  have eg : ∀ op w, (eqGuard op t x y (.string m) (.string n)).run P w = .ok () w := by
    intro op w; unfold eqGuard; split <;> rfl
  have go : ∀ v, (∀ w, (binOp op t (.string m) (.string n)).run P w = .ok v w) → K v → ∃ v, Steady P (do eqGuard op t x y (.string m) (.string n); binOp op t (.string m) (.string n)) v ∧ K v :=
    fun v hv hk => ⟨v, fun w => by simp [eg, hv], hk⟩
  have hl : ∀ s : ByteArray, s.data.toList = s.toList := fun s => (ByteArray.toList_eq s).symm
  cases op <;> simp only [vBin, sBin] at h
  case add => exact go _ (fun w => by
    have e : ¬ ((m.size + n.size : Nat) : Int) > IntKind.i64.max := by
      have : IntKind.i64.max = 9223372036854775807 := by decide
      rw [this]; omega
    simp only [binOp, Op.stringOp, if_neg e]; rfl) h.2
  case eql => exact go _ (fun w => by simp only [binOp, Op.stringOp, eq_toList]; rfl) h
  case neq => exact go _ (fun w => by simp only [binOp, Op.stringOp, eq_toList]; rfl) h
  case lss => exact go _ (fun w => by simp only [binOp, Op.stringOp]; rw [← hl, ← hl]; rfl) h
  case leq => exact go _ (fun w => by simp only [binOp, Op.stringOp, eq_toList]; rw [← hl, ← hl]; rfl) h
  case gtr => exact go _ (fun w => by simp only [binOp, Op.stringOp, eq_toList]; rw [← hl, ← hl]; rfl) h
  case geq => exact go _ (fun w => by simp only [binOp, Op.stringOp]; rw [← hl, ← hl]; rfl) h
theorem hasBody_of {f : FuncId} {fn : Func} (hf : P.funcs[f]? = some fn) (h : (fn.name != "runtime.NumGoroutine" && fn.body.isSome) = true) : HasBody P f := fun args w => by
  simp only [Bool.and_eq_true, bne_iff_ne, ne_eq] at h
  cases hb : fn.body with
  | none => simp [hb] at h
  | some c => simp [callFunc, program, Sem.run, hf, h.1, hb]
theorem HasBody.fn {f : FuncId} (hb : HasBody P f) {args : Array Value} {w : World} {R : Value → World → Prop} (h : Ret P f args w R) : FnC P f args w R := by
  unfold FnC; rw [hb]; exact h
theorem HasBody.ret {f : FuncId} (hb : HasBody P f) {args : Array Value} {w : World} {R : Value → World → Prop} (h : FnC P f args w R) : Ret P f args w R := by
  unfold FnC at h; rw [hb] at h; exact h
theorem QFn.of {f : FuncId} (hb : HasBody P f) {args : Array Value} {w : World} {K : Value → Prop} {v : Value} (h : ∀ w', Later w w' → FnC P f args w' fun u w'' => u = v ∧ Later w' w'') (hk : K v) : QFn P f args w K := by
  refine ⟨v, fun w' hw => ?_, hk⟩
  rw [hb]
  refine ⟨rfl, Calls.mono (hb.ret (h w' hw)) ?_⟩
  rintro e w'' ⟨u, rfl, rfl, hl⟩
  exact ⟨rfl, hl⟩
theorem qNilB_sound {op : BinOp} {t ty u : TypeId} {x y : Operand} {σ : Env} {w : World} {K : Value → Prop} {k k' : Nat} {b : Bool} (hr : (refV (ev σ x) && refV (ev σ y)) = true)
    (he : k = k' → ∀ w, (Op.equal t (ev σ x) (ev σ y)).run P w = .ok b w) (h : qNilB op k k' b K) : qX P (.binOp op t x y u) ty σ w K := by
  unfold qNilB at h
  split at h
  · refine pure_of_up (s := do eqGuard .eql t x y (ev σ x) (ev σ y); binOp .eql t (ev σ x) (ev σ y)) (fun w' => ?_) ⟨_, fun w' => run_nil_eql (he h.1) hr, h.2⟩
    unfold exe; simp only [execOp]; rfl
  · refine pure_of_up (s := do eqGuard .neq t x y (ev σ x) (ev σ y); binOp .neq t (ev σ x) (ev σ y)) (fun w' => ?_) ⟨_, fun w' => run_nil_neq (he h.1) hr, h.2⟩
    unfold exe; simp only [execOp]; rfl
  · exact h.elim
theorem qOp_sound (op : Op) (ty : TypeId) {σ : Env} {w : World} {K : Value → Prop} (h : qOp P op ty σ w K) : qX P op ty σ w K := by
  unfold qOp at h
  split at h
  · exact qX_steady (fun _ => rfl) h
  · exact qX_steady (fun _ => rfl) h
  · rename_i c a b
    unfold vPick at h
    split at h
    · rename_i t hc
      refine qX_steady (v := if t = true then ev σ a else ev σ b) (fun w' => ?_) (by cases t <;> exact h)
      unfold exe
      simp only [execOp, hc, asBool]
      cases t <;> rfl
    · exact h.elim
  · unfold qBin at h
    split at h
    · rename_i h1 h2
      refine pure_of_up (fun w' => ?_) (vBin_int_steady _ _ _ _ _ _ _ _ h)
      unfold exe; simp only [execOp, h1, h2]; rfl
    · rename_i h1 h2
      refine pure_of_up (fun w' => ?_) (vBin_string_steady _ _ _ _ _ _ h)
      unfold exe; simp only [execOp, h1, h2]; rfl
    · rename_i h1 h2
      exact qNilB_sound (by rw [h1, h2]; rfl) (fun hk w' => by rw [h1, h2]; exact run_eq_ptr_nil (eqKind_one hk) _ w') h
    · rename_i h1 h2
      exact qNilB_sound (by rw [h1, h2]; rfl) (fun hk w' => by rw [h1, h2]; exact run_eq_slice_nil (eqKind_two hk) _ _ _ _ _ w') h
    · unfold qBinB at h
      split at h
      · rename_i h1 h2
        exact qNilB_sound (by rw [h1, h2]; rfl) (fun hk w' => by rw [h1, h2]; exact run_eq_bool (eqKind_four hk) _ _ w') h
      · exact h
  · unfold qUn at h
    split at h
    · rename_i h1
      refine qX_steady (fun w' => ?_) h
      unfold exe; simp only [execOp, h1]; rfl
    · rename_i h1
      refine qX_steady (fun w' => ?_) h
      unfold exe; simp only [execOp, h1]; rfl
    · rename_i h1
      refine qX_steady (fun w' => ?_) h
      unfold exe; simp only [execOp, h1, Op.unary]; exact run_val_pure (run_intBits .xor (by simp) _ _ _)
    · exact h
  · unfold qConv at h
    rename_i s d x
    split at h
    · rename_i ds k k' n hs hd hx
      refine pure_of_up (s := convert s d (ev σ x)) (fun w' => ?_) ⟨.int k (k.wrap n), fun w' => ?_, h⟩
      · unfold exe; simp only [execOp]; rfl
      · rw [hx]
        unfold convert
        simp [run_underlying hs, run_underlying hd]
        cases ds <;> simp [Conv.intToInt]
    · rename_i ds st hs hd hx
      refine pure_of_up (s := convert s d (ev σ x)) (fun w' => ?_) ⟨.string st, fun w' => ?_, h⟩
      · unfold exe; simp only [execOp]; rfl
      · rw [hx]
        unfold convert
        simp [run_underlying hs, run_underlying hd]
    · exact h
  · unfold qLoad at h
    rename_i t x
    split at h
    · rename_i a ha hx
      obtain ⟨v, hv, hk⟩ := h
      refine ⟨v, fun w' hw => ?_, hk⟩
      have hv' := hw.cell hv
      have : (Instr.loadAt t (ev σ x)).run P w' = .ok v w' := by rw [hx]; simp [Instr.loadAt, Instr.sureAddr, loadVar, run_isAgg ha, hv']
      have e : exe P (.load t x) ty σ w' = .ok (.value v) w' := by unfold exe; simp only [execOp]; exact run_val_pure this
      rw [e]; exact ⟨rfl, rfl⟩
    · unfold qLoadA at h
      split at h
      · rename_i n a hn hx
        obtain ⟨cs, hcs, hk⟩ := h
        refine ⟨_, fun w' hw => ?_, hk⟩
        obtain ⟨h1, h2⟩ := run_isAgg_yes hn w'
        have this : (Instr.loadAt t (ev σ x)).run P w' = .ok (.agg cs.toArray) w' := by rw [hx]; simp [Instr.loadAt, Instr.sureAddr, loadVar, h1, run_sizeOf h2, run_loadCells' (hw.cellsAt hcs)]
        have e : exe P (.load t x) ty σ w' = .ok (.value (.agg cs.toArray)) w' := by unfold exe; simp only [execOp]; exact run_val_pure this
        rw [e]; exact ⟨rfl, rfl⟩
      · exact h
  · refine pure_of_up (fun w' => ?_) (vFieldAddr_some h)
    unfold exe; simp only [execOp]; rfl
  · unfold qIndexAddr at h
    rename_i t x i
    split at h
    · rename_i e a n c k j hu hx hi
      obtain ⟨z, hz, hr, hk⟩ := vAt_some h
      refine pure_of_up (s := Instr.indexAt t (ev σ x) (ev σ i)) (fun w' => ?_) ⟨_, by rw [hx, hi]; exact steady_index_slice hu hz hr, hk⟩
      unfold exe; simp only [execOp]; rfl
    · rename_i n e a k j hu hx hi
      obtain ⟨z, hz, hr, hk⟩ := vAt_some h
      refine pure_of_up (s := Instr.indexAt t (ev σ x) (ev σ i)) (fun w' => ?_) ⟨_, by rw [hx, hi]; exact steady_index_array hu hz hr, hk⟩
      unfold exe; simp only [execOp]; rfl
    · exact h
  · unfold qIndex at h
    rename_i t x i
    split at h
    · rename_i n e cs k j hu hx hi
      refine pure_of_up (s := Instr.index t (ev σ x) (ev σ i)) (fun w' => ?_) (by rw [hx, hi]; exact steady_index' hu h (.inl ⟨_, _, _, _, _, rfl, rfl, rfl⟩))
      unfold exe; simp only [execOp]; rfl
    · rename_i s k j hu hx hi
      refine pure_of_up (s := Instr.index t (ev σ x) (ev σ i)) (fun w' => ?_) (by rw [hx, hi]; exact steady_index' hu h (.inr ⟨_, _, _, rfl, rfl, rfl⟩))
      unfold exe; simp only [execOp]; rfl
    · exact h
  · unfold qField at h
    rename_i t x f
    split at h
    · rename_i off ft cs hf hx
      refine pure_of_up (s := Instr.field t (ev σ x) f) (fun w' => ?_) (by rw [hx]; exact steady_field' hf h)
      unfold exe; simp only [execOp]; rfl
    · exact h
  · unfold qSlice at h
    rename_i t x lo hi mx
    split at h
    · rename_i e a n c hu hx
      refine pure_of_up (s := Instr.sliceAt t (ev σ x) (lo.map (ev σ)) (hi.map (ev σ)) (mx.map (ev σ))) (fun w' => ?_) (by rw [hx]; exact vSlice_some hu h)
      unfold exe; simp only [execOp]; rfl
    · rename_i s hu hx
      refine pure_of_up (s := Instr.sliceAt t (ev σ x) (lo.map (ev σ)) (hi.map (ev σ)) (mx.map (ev σ))) (fun w' => ?_) (by rw [hx]; exact vSub_some hu h)
      unfold exe; simp only [execOp]; rfl
    · exact h
  · exact qX_steady (fun _ => rfl) h
  · unfold vExtract at h
    split at h
    · rename_i vs hx
      split at h
      · rename_i v hv
        refine qX_steady (fun w' => ?_) h
        unfold exe
        simp only [execOp, hx, Instr.extract, hv]
        rfl
      · exact h.elim
    · exact h.elim
  · unfold qNil at h
    split at h
    · rename_i a hx
      refine qX_steady (fun w' => ?_) h
      unfold exe; simp only [execOp, hx]; rfl
    · exact h
  · rename_i c
    unfold qCall at h
    split at h
    · rename_i f hc
      unfold qCallV at h
      split at h
      · rename_i g first captured hf
        obtain ⟨v, hv, hk⟩ := h
        refine ⟨v, fun w' hw => ?_, hk⟩
        have : execOp (ev σ) { dst := none, op := .call c, type := ty, pos := "", after := #[], guard := none } = callFunc g (first ++ c.args.map (ev σ) ++ captured) := by
          simp only [execOp, resolve, hc, hf, Deferred.ofValue]
          rfl
        unfold exe; rw [this]; exact hv w' hw
      · exact h
    · rename_i b hc
      split at h
      · obtain ⟨v, hv, hk⟩ := vBi_some b c hc ty h
        exact qX_steady hv hk
      · exact h
    · exact h
  · exact h
theorem qOps_sound {n : Nat} {ops : Array Oper} {K : Act → Prop} {w : World} {ds : List Deferred} {K' : Env → Prop} {W : List Nat} {σ0 : Env} (hK : ∀ a σ, Rep n a ds σ → (∀ i, i ∉ W → σ i = σ0 i) → K' σ → K a) (l : List Oper) : ∀ (σ : Env) (a : Act), Rep n a ds σ → l.all (okOper n ops) = true →
    (∀ o ∈ l, ∀ x, o.dst = some x → x ∈ W) → (∀ i, i ∉ W → σ i = σ0 i) → qOps P (l.map (strip ops)) K' σ w → wpQuietIn Fence.wide 0 P ops (fun w' => ∃ p : Regrown, w' = grow (redrawn w p.d) p.os) K l a := by
  induction l with
  | nil => intro σ a hr _ _ hf h; exact hK _ _ hr hf h
  | cons o l ih =>
    intro σ a hr hok hW hf h
    have hW1 := hW o (List.mem_cons_self ..)
    have hW2 : ∀ o ∈ l, ∀ x, o.dst = some x → x ∈ W := fun o ho => hW o (List.mem_cons_of_mem _ ho)
    simp only [List.all_cons, Bool.and_eq_true] at hok
    simp only [List.map_cons, qOps] at h
    unfold wpQuietIn
    refine ⟨fun _ _ _ _ => trivial, ?_⟩
    rcases wanted_eq hr hok.1 h with ⟨hw, h⟩ | ⟨hw, h⟩
    · rw [if_pos hw]
      obtain ⟨v, hv, hk⟩ := qOp_sound _ _ h
      refine ⟨v, ?_, ih _ _ (hr.put (okOper_dst hok.1) v) hok.2 hW2 (put_frame hf hW1) hk⟩
      rintro w' ⟨p, rfl⟩
      have hl : Later w (grow (redrawn w p.d) p.os) := below_regrown w p.d p.os
      have hq : qUp P (grow (redrawn w p.d) p.os) v (exe P o.op o.type σ (grow (redrawn w p.d) p.os)) := hv _ hl
      unfold Oper.quietAtIn
      rw [exe_oper hr]
      generalize exe P o.op o.type σ (grow (redrawn w p.d) p.os) = r at hq ⊢
      cases r with
      | halt => exact hq.elim
      | ok nx w2 =>
        cases nx with
        | value u => exact hq
        | skip => exact hq
        | enter f args =>
          refine ⟨hq.1, fun x => by simp [Fence.wide] at x, ?_⟩
          refine callsIn_wide.2 (Calls.mono hq.2 ?_)
          rintro e w'' ⟨he, hw''⟩
          exact ⟨he, regrown_of_below (hl.trans hw'')⟩
        | _ => exact hq.elim
    · rw [if_neg (by simp [hw])]
      exact ih _ _ (hr.put (okOper_dst hok.1) _) hok.2 hW2 (put_frame hf hW1) h
end Go.Vc
