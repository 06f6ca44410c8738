/- The generator's equations, as rewrite rules. -/
import Derived.Test.YtcajkjbempagaaaPartC
set_option linter.all false
section
namespace Go.Vc
open Go.RowKit
theorem mk_eq {α : Sort _} {a b : α} (h : a = b) : a = b := h
section
variable {P : Program} {Q : Post} {ds : List Deferred} {σ : Env} {w : World} {K : Value → World → Prop}
/-! A test: simp decides it, or leaves both ways untouched (each way stands unapplied, so simp does not go into it). -/
def vIfD (c : Prop) (A B : List Deferred → Env → World → Prop) (ds : List Deferred) (σ : Env) (w : World) : Prop := (c → A ds σ w) ∧ (¬ c → B ds σ w)
def vIfE (c : Prop) (A B : Env → World → Prop) (σ : Env) (w : World) : Prop := (c → A σ w) ∧ (¬ c → B σ w)
def vIfQ (c : Prop) (A B : Env → Prop) (σ : Env) : Prop := (c → A σ) ∧ (¬ c → B σ)
def vIfV (c : Prop) (a b : Value) (K : Value → World → Prop) (w : World) : Prop := (c → K a w) ∧ (¬ c → K b w)
section
variable {c : Prop} {A B : List Deferred → Env → World → Prop} {C D : Env → World → Prop} {E F : Env → Prop} {a b : Value}
theorem iD (ha : c → A ds σ w) (hb : ¬ c → B ds σ w) : vIfD c A B ds σ w := ⟨ha, hb⟩
theorem iE (ha : c → C σ w) (hb : ¬ c → D σ w) : vIfE c C D σ w := ⟨ha, hb⟩
theorem iQ (ha : c → E σ) (hb : ¬ c → F σ) : vIfQ c E F σ := ⟨ha, hb⟩
theorem iV (ha : c → K a w) (hb : ¬ c → K b w) : vIfV c a b K w := ⟨ha, hb⟩
class Sp (g : Prop) (A B : outParam Prop) : Prop where
  h : A → B → g
theorem iX {g A B : Prop} [s : Sp g A B] (a : A) (b : B) : g := s.h a b
theorem aI {a b : Prop} (x : a) (y : b) : a ∧ b := ⟨x, y⟩
instance : Sp (vIfD c A B ds σ w) (c → A ds σ w) (¬ c → B ds σ w) := ⟨iD⟩
instance : Sp (vIfE c C D σ w) (c → C σ w) (¬ c → D σ w) := ⟨iE⟩
instance : Sp (vIfQ c E F σ) (c → E σ) (¬ c → F σ) := ⟨iQ⟩
instance : Sp (vIfV c a b K w) (c → K a w) (¬ c → K b w) := ⟨iV⟩
@[push_cast] theorem vIfD_true (h : c) : vIfD c A B ds σ w = A ds σ w := by simp [vIfD, h]
@[push_cast] theorem vIfD_false (h : ¬ c) : vIfD c A B ds σ w = B ds σ w := by simp [vIfD, h]
@[push_cast] theorem vIfE_true (h : c) : vIfE c C D σ w = C σ w := by simp [vIfE, h]
@[push_cast] theorem vIfE_false (h : ¬ c) : vIfE c C D σ w = D σ w := by simp [vIfE, h]
@[push_cast] theorem vIfQ_true (h : c) : vIfQ c E F σ = E σ := by simp [vIfQ, h]
@[push_cast] theorem vIfQ_false (h : ¬ c) : vIfQ c E F σ = F σ := by simp [vIfQ, h]
@[push_cast] theorem vIfV_true (h : c) : vIfV c a b K w = K a w := by simp [vIfV, h]
@[push_cast] theorem vIfV_false (h : ¬ c) : vIfV c a b K w = K b w := by simp [vIfV, h]
@[push_cast] theorem vIfD_True : vIfD True A B ds σ w = A ds σ w := by simp [vIfD]
@[push_cast] theorem vIfD_False : vIfD False A B ds σ w = B ds σ w := by simp [vIfD]
@[push_cast] theorem vIfE_True : vIfE True C D σ w = C σ w := by simp [vIfE]
@[push_cast] theorem vIfE_False : vIfE False C D σ w = D σ w := by simp [vIfE]
@[push_cast] theorem vIfQ_True : vIfQ True E F σ = E σ := by simp [vIfQ]
@[push_cast] theorem vIfQ_False : vIfQ False E F σ = F σ := by simp [vIfQ]
@[push_cast] theorem vIfV_True : vIfV True a b K w = K a w := by simp [vIfV]
@[push_cast] theorem vIfV_False : vIfV False a b K w = K b w := by simp [vIfV]
end
theorem ite_pair (b want : Bool) (A B : Prop) : (if b = want then A else B) = ((b = want → A) ∧ (¬ b = want → B)) := by
  by_cases h : b = want <;> simp [h]
@[push_cast] theorem notdec_true (p : Prop) [Decidable p] : ((!decide p) = true) = ¬ p := by simp
@[push_cast] theorem notdec_false (p : Prop) [Decidable p] : ((!decide p) = false) = p := by simp
@[push_cast] theorem not_true' (b : Bool) : ((!b) = true) = (b = false) := by simp
@[push_cast] theorem not_false' (b : Bool) : ((!b) = false) = (b = true) := by simp
@[push_cast] theorem vc_skip : vc P .skip Q ds σ w = Q .normal ds σ w := mk_eq rfl
@[push_cast] theorem vc_seq (a b : VC) : vc P (.seq a b) Q ds σ w = vc P a (thenE (vc P b Q) Q) ds σ w := mk_eq rfl
def vCondD (c : Value) (A B : List Deferred → Env → World → Prop) (ds : List Deferred) (σ : Env) (w : World) : Prop := vCond c (A ds σ w) (B ds σ w)
@[push_cast] theorem vc_cond (c : Operand) (a b : VC) : vc P (.cond c a b) Q ds σ w = vCondD (ev σ c) (vc P a Q) (vc P b Q) ds σ w := mk_eq rfl
@[push_cast] theorem vCondD_bool (b : Bool) (A B : List Deferred → Env → World → Prop) : vCondD (.bool b) A B ds σ w = vIfD (b = true) A B ds σ w := ite_pair b true _ _
@[push_cast] theorem vc_block (i : Nat) (c : VC) : vc P (.block i c) Q ds σ w = vc P c (inBlk i Q) ds σ w := mk_eq rfl
@[push_cast] theorem vc_exit (i : Nat) : vc P (.exit i) Q ds σ w = Q (.exit i) ds σ w := mk_eq rfl
@[push_cast] theorem vc_ret : vc P .ret Q ds σ w = Q .ret ds σ w := mk_eq rfl
@[push_cast] theorem thenE_normal (K : List Deferred → Env → World → Prop) : thenE K Q .normal ds σ w = K ds σ w := mk_eq rfl
@[push_cast] theorem thenE_ret (K : List Deferred → Env → World → Prop) : thenE K Q .ret ds σ w = Q .ret ds σ w := mk_eq rfl
@[push_cast] theorem thenE_exit (K : List Deferred → Env → World → Prop) (i : Nat) : thenE K Q (.exit i) ds σ w = Q (.exit i) ds σ w := mk_eq rfl
@[push_cast] theorem inBlk_normal (i : Nat) : inBlk i Q .normal ds σ w = Q .normal ds σ w := mk_eq rfl
@[push_cast] theorem inBlk_ret (i : Nat) : inBlk i Q .ret ds σ w = Q .ret ds σ w := mk_eq rfl
@[push_cast] theorem inBlk_exit (i : Nat) : inBlk i Q (.exit i) ds σ w = Q .normal ds σ w := by simp [inBlk]
@[push_cast] theorem inBlk_exit_ne (i j : Nat) (h : ¬ j = i) : inBlk i Q (.exit j) ds σ w = Q (.exit j) ds σ w := by simp [inBlk, h]
@[push_cast] theorem retK_ret (rs : Array ResultVar) (R : Value → World → Prop) : retK P rs R .ret ds σ w = retM P rs.toList R ds σ w := mk_eq rfl
@[push_cast] theorem retK_normal (rs : Array ResultVar) (R : Value → World → Prop) : retK P rs R .normal ds σ w = retM P rs.toList R ds σ w := mk_eq rfl
@[push_cast] theorem retM_nil (rs : List ResultVar) (R : Value → World → Prop) : retM P rs R [] σ w = resK P rs [] σ R w := mk_eq rfl
@[push_cast] theorem retM_cons (rs : List ResultVar) (R : Value → World → Prop) (D : Nat) : retM P rs R (mark D :: ds) σ w = (w.heap[D]? = some (.deferred (some [])) ∧ retM P rs R ds σ (w.putObj D (.deferred none))) := by
  refine propext ⟨?_, fun h => ⟨D, rfl, h⟩⟩
  rintro ⟨D', e, h⟩
  have : D = D' := by injection e with e1; injection e1
  subst this; exact h
@[push_cast] theorem resK_nil (acc : List Value) (R : Value → World → Prop) : resK P [] acc σ R w = R (tupK acc) w := mk_eq rfl
@[push_cast] theorem resK_tmp (t : Nat) (rs : List ResultVar) (acc : List Value) (R : Value → World → Prop) : resK P (.tmp t :: rs) acc σ R w = resK P rs (acc ++ [σ t]) σ R w := mk_eq rfl
@[push_cast] theorem tupK_one (v : Value) : tupK [v] = v := mk_eq rfl
@[push_cast] theorem tupK_nil : tupK [] = .tuple #[] := mk_eq rfl
@[push_cast] theorem tupK_two (v u : Value) (vs : List Value) : tupK (v :: u :: vs) = .tuple (v :: u :: vs).toArray := mk_eq rfl
def vGuardE (v : Value) (b : Bool) (A B : Env → World → Prop) (σ : Env) (w : World) : Prop := match v with
  | .bool t => if t = b then A σ w else B σ w
  | _ => B σ w
def vGuardQ (v : Value) (b : Bool) (A B : Env → Prop) (σ : Env) : Prop := match v with
  | .bool t => if t = b then A σ else B σ
  | _ => B σ
@[push_cast] theorem vGuardE_bool (t b : Bool) (A B : Env → World → Prop) : vGuardE (.bool t) b A B σ w = vIfE (t = b) A B σ w := ite_pair t b _ _
@[push_cast] theorem vGuardE_undef (b : Bool) (A B : Env → World → Prop) : vGuardE undef b A B σ w = B σ w := mk_eq rfl
@[push_cast] theorem vGuardQ_bool (t b : Bool) (A B : Env → Prop) : vGuardQ (.bool t) b A B σ = vIfQ (t = b) A B σ := ite_pair t b _ _
@[push_cast] theorem vGuardQ_undef (b : Bool) (A B : Env → Prop) : vGuardQ undef b A B σ = B σ := mk_eq rfl
def nxt (P : Program) (rest : List VOp) (K : Env → World → Prop) (σ : Env) (d : Option Nat) : Value → World → Prop := fun v w => vcOps P rest K (put σ d v) w
theorem nxt_some (rest : List VOp) (K : Env → World → Prop) (d : Nat) (v : Value) : nxt P rest K σ (some d) v w = vcOps P rest K (upd σ d v) w := mk_eq rfl
theorem nxt_none (rest : List VOp) (K : Env → World → Prop) (v : Value) : nxt P rest K σ none v w = vcOps P rest K σ w := mk_eq rfl
attribute [push_cast] nxt_some nxt_none
@[push_cast] theorem vcOps_nil (K : Env → World → Prop) : vcOps P [] K σ w = K σ w := mk_eq rfl
@[push_cast] theorem vcOps_cons (d : Option Nat) (op : Op) (ty : TypeId) (rest : List VOp) (K : Env → World → Prop) : vcOps P (⟨d, op, ty, none⟩ :: rest) K σ w = vcOp P op ty σ w (nxt P rest K σ d) := mk_eq rfl
def stp (P : Program) (op : Op) (ty : TypeId) (rest : List VOp) (K : Env → World → Prop) (d : Option Nat) : Env → World → Prop := fun σ w => vcOp P op ty σ w (nxt P rest K σ d)
def skp (P : Program) (rest : List VOp) (K : Env → World → Prop) (d : Option Nat) : Env → World → Prop := fun σ w => nxt P rest K σ d undef w
@[push_cast] theorem stp_at (op : Op) (ty : TypeId) (rest : List VOp) (K : Env → World → Prop) (d : Option Nat) : stp P op ty rest K d σ w = vcOp P op ty σ w (nxt P rest K σ d) := mk_eq rfl
@[push_cast] theorem skp_at (rest : List VOp) (K : Env → World → Prop) (d : Option Nat) : skp P rest K d σ w = nxt P rest K σ d undef w := mk_eq rfl
@[push_cast] theorem vcOps_guard (d : Option Nat) (op : Op) (ty : TypeId) (s : Nat) (b : Bool) (rest : List VOp) (K : Env → World → Prop) :
    vcOps P (⟨d, op, ty, some (s, b)⟩ :: rest) K σ w = vGuardE (σ s) b (stp P op ty rest K d) (skp P rest K d) σ w := mk_eq rfl
def qnx (P : Program) (rest : List VOp) (K : Env → Prop) (σ : Env) (w : World) (d : Option Nat) : Value → Prop := fun v => qOps P rest K (put σ d v) w
def cst (K : Value → Prop) : Value → World → Prop := fun v _ => K v
@[push_cast] theorem cst_at (K : Value → Prop) (v : Value) : cst K v w = K v := mk_eq rfl
@[push_cast] theorem qnx_some (rest : List VOp) (K : Env → Prop) (d : Nat) (v : Value) : qnx P rest K σ w (some d) v = qOps P rest K (upd σ d v) w := mk_eq rfl
@[push_cast] theorem qnx_none (rest : List VOp) (K : Env → Prop) (v : Value) : qnx P rest K σ w none v = qOps P rest K σ w := mk_eq rfl
@[push_cast] theorem qOps_nil (K : Env → Prop) : qOps P [] K σ w = K σ := mk_eq rfl
@[push_cast] theorem qOps_cons (d : Option Nat) (op : Op) (ty : TypeId) (rest : List VOp) (K : Env → Prop) : qOps P (⟨d, op, ty, none⟩ :: rest) K σ w = qOp P op ty σ w (qnx P rest K σ w d) := mk_eq rfl
def qstp (P : Program) (op : Op) (ty : TypeId) (rest : List VOp) (K : Env → Prop) (w : World) (d : Option Nat) : Env → Prop := fun σ => qOp P op ty σ w (qnx P rest K σ w d)
def qskp (P : Program) (rest : List VOp) (K : Env → Prop) (w : World) (d : Option Nat) : Env → Prop := fun σ => qnx P rest K σ w d undef
@[push_cast] theorem qstp_at (op : Op) (ty : TypeId) (rest : List VOp) (K : Env → Prop) (d : Option Nat) : qstp P op ty rest K w d σ = qOp P op ty σ w (qnx P rest K σ w d) := mk_eq rfl
@[push_cast] theorem qskp_at (rest : List VOp) (K : Env → Prop) (d : Option Nat) : qskp P rest K w d σ = qnx P rest K σ w d undef := mk_eq rfl
@[push_cast] theorem qOps_guard (d : Option Nat) (op : Op) (ty : TypeId) (s : Nat) (b : Bool) (rest : List VOp) (K : Env → Prop) :
    qOps P (⟨d, op, ty, some (s, b)⟩ :: rest) K σ w = vGuardQ (σ s) b (qstp P op ty rest K w d) (qskp P rest K w d) σ := mk_eq rfl
/-! ### slots -/
@[push_cast] theorem upd_at (d i : Nat) (v : Value) : upd σ d v i = if i = d then v else σ i := mk_eq rfl
@[push_cast] theorem ev_tmp (t : Nat) : ev σ (.tmp t) = σ t := mk_eq rfl
@[push_cast] theorem ev_const (v : Value) : ev σ (.const v) = v := mk_eq rfl
@[push_cast] theorem ev_global (g : Nat) : ev σ (.global g) = .pointer (some ⟨g, 0, none⟩) := mk_eq rfl
@[push_cast] theorem ev_func (f : FuncId) : ev σ (.func f) = .func (.func f) #[] #[] := mk_eq rfl
@[push_cast] theorem initEnv_nil (i : Nat) : initEnv [] i = fun _ => undef := mk_eq rfl
@[push_cast] theorem initEnv_cons (v : Value) (vs : List Value) (i : Nat) : initEnv (v :: vs) i = upd (initEnv vs (i + 1)) i v := mk_eq rfl
/-! ### operations -/
def vElem (o : Option Value) (K : Value → World → Prop) (w : World) : Prop := match o with
  | some v => K v w
  | none => False
def vElemA (o : Option (List Value)) (K : Value → World → Prop) (w : World) : Prop := match o with
  | some l => K (.agg l.toArray) w
  | none => False
def vElemB (o : Option UInt8) (K : Value → World → Prop) (w : World) : Prop := match o with
  | some b => K (.int .u8 b.toNat) w
  | none => False
theorem vElem_ex (o : Option Value) : (∃ v, o = some v ∧ K v w) = vElem o K w := by cases o <;> simp [vElem]
theorem vElemA_ex (o : Option (List Value)) : (∃ v, o = some v ∧ K (.agg v.toArray) w) = vElemA o K w := by cases o <;> simp [vElemA]
theorem vElemB_ex (o : Option UInt8) : (∃ v, o = some v ∧ K (.int .u8 v.toNat) w) = vElemB o K w := by cases o <;> simp [vElemB]
@[push_cast] theorem vElemA_some (l : List Value) : vElemA (some l) K w = K (.agg l.toArray) w := mk_eq rfl
@[push_cast] theorem vElemB_some (b : UInt8) : vElemB (some b) K w = K (.int .u8 b.toNat) w := mk_eq rfl
def vPartS (P : Program) (e : TypeId) (s : Option Nat) (cs : Array Value) (j : Int) (K : Value → World → Prop) (w : World) : Prop := match s with
  | some s => vPart (oneD (P.underlying e)) (aggD P e (P.underlying e)) cs (j.toNat * s) K w
  | none => False
section
variable (ty : TypeId)
@[push_cast] theorem vcOp_move (x : Operand) : vcOp P (.move x) ty σ w K = K (ev σ x) w := mk_eq rfl
@[push_cast] theorem vcOp_assign (x : Operand) : vcOp P (.assign x) ty σ w K = K (ev σ x) w := mk_eq rfl
@[push_cast] theorem vcOp_pick (c a b : Operand) : vcOp P (.pick c a b) ty σ w K = vPick (ev σ c) (ev σ a) (ev σ b) K w := mk_eq rfl
@[push_cast] theorem vcOp_binOp (op : BinOp) (t : TypeId) (x y : Operand) (u : TypeId) : vcOp P (.binOp op t x y u) ty σ w K = vBin P op t x y (ev σ x) (ev σ y) K w := mk_eq rfl
@[push_cast] theorem vcOp_unOp (op : UnOp) (t : TypeId) (x : Operand) : vcOp P (.unOp op t x) ty σ w K = vUn P op (ev σ x) K w := mk_eq rfl
@[push_cast] theorem vcOp_convert (s d : TypeId) (x : Operand) : vcOp P (.convert s d x) ty σ w K = vConv P s d (ev σ x) K w := mk_eq rfl
@[push_cast] theorem vcOp_load (t : TypeId) (x : Operand) : vcOp P (.load t x) ty σ w K = vLoad P t (ev σ x) K w := mk_eq rfl
@[push_cast] theorem vcOp_store (t : TypeId) (a x : Operand) : vcOp P (.store t a x) ty σ w K = vStore P t (ev σ a) (ev σ x) K w := mk_eq rfl
@[push_cast] theorem vcOp_alloc (t : TypeId) : vcOp P (.alloc t) ty σ w K = vAlloc P t K w := mk_eq rfl
@[push_cast] theorem vcOp_box (t : TypeId) (x : Operand) : vcOp P (.box t x) ty σ w K = K (.pointer (some ⟨w.heap.size, 0, none⟩)) (w.alloc (.cells (ev σ x).cells t)) := mk_eq rfl
@[push_cast] theorem vcOp_fieldAddr (s : TypeId) (x : Operand) (f : Nat) : vcOp P (.fieldAddr s x f) ty σ w K = vFieldAddr P s (ev σ x) f K w := mk_eq rfl
@[push_cast] theorem vcOp_field (s : TypeId) (x : Operand) (f : Nat) : vcOp P (.field s x f) ty σ w K = vField P s (ev σ x) f K w := mk_eq rfl
@[push_cast] theorem vcOp_indexAddr (t : TypeId) (x i : Operand) : vcOp P (.indexAddr t x i) ty σ w K = vIndexAddr P t (ev σ x) (ev σ i) K w := mk_eq rfl
@[push_cast] theorem vcOp_index (t : TypeId) (x i : Operand) : vcOp P (.index t x i) ty σ w K = vIndex P t (ev σ x) (ev σ i) K w := mk_eq rfl
@[push_cast] theorem vcOp_slice (t : TypeId) (x : Operand) (lo hi mx : Option Operand) : vcOp P (.slice t x lo hi mx) ty σ w K = vSlice P t (ev σ x) (lo.map (ev σ)) (hi.map (ev σ)) (mx.map (ev σ)) K w := mk_eq rfl
@[push_cast] theorem vcOp_build (t : TypeId) (ps : Array (Nat × Operand)) : vcOp P (.build t ps) ty σ w K = vBuild P t (ps.map fun p => (p.1, ev σ p.2)) K w := mk_eq rfl
@[push_cast] theorem vcOp_buildSlice (t : TypeId) (n : Nat) (ps : Array (Nat × Operand)) : vcOp P (.buildSlice t n ps) ty σ w K = vBuildSlice P t n (ps.map fun p => (p.1, ev σ p.2)) K w := mk_eq rfl
@[push_cast] theorem vcOp_makeSlice (t : TypeId) (l c : Operand) : vcOp P (.makeSlice t l c) ty σ w K = vMakeSlice P t (ev σ l) (ev σ c) K w := mk_eq rfl
@[push_cast] theorem vcOp_makeFunc (fn : Go.Fn) (a b : Array Operand) : vcOp P (.makeFunc fn a b) ty σ w K = K (.func fn (a.map (ev σ)) (b.map (ev σ))) w := mk_eq rfl
@[push_cast] theorem vcOp_extract (x : Operand) (i : Nat) : vcOp P (.extract x i) ty σ w K = vExtract (ev σ x) i K w := mk_eq rfl
@[push_cast] theorem vcOp_call_value (f : Operand) (args : Array Operand) (ts : Array TypeId) : vcOp P (.call ⟨.value f, args, ts⟩) ty σ w K = vCallV P (ev σ f) (args.map (ev σ)) K w (vX P (.call ⟨.value f, args, ts⟩) ty σ w K) := mk_eq rfl
@[push_cast] theorem vcOp_call_append (args : Array Operand) (ts : Array TypeId) : vcOp P (.call ⟨.builtin .append, args, ts⟩) ty σ w K = vAppend P ts ty (args.map (ev σ)) K w := mk_eq rfl
@[push_cast] theorem vcOp_call_copy (args : Array Operand) (ts : Array TypeId) : vcOp P (.call ⟨.builtin .copy, args, ts⟩) ty σ w K = vCopy P ts ty (args.map (ev σ)) K w := mk_eq rfl
theorem vcOp_call_len (args : Array Operand) (ts : Array TypeId) : vcOp P (.call ⟨.builtin .len, args, ts⟩) ty σ w K = vBi P .len ts.toList (args.map (ev σ)).toList K w := mk_eq rfl
theorem vcOp_call_cap (args : Array Operand) (ts : Array TypeId) : vcOp P (.call ⟨.builtin .cap, args, ts⟩) ty σ w K = vBi P .cap ts.toList (args.map (ev σ)).toList K w := mk_eq rfl
theorem vcOp_call_min (args : Array Operand) (ts : Array TypeId) : vcOp P (.call ⟨.builtin .min, args, ts⟩) ty σ w K = vBi P .min ts.toList (args.map (ev σ)).toList K w := mk_eq rfl
theorem vcOp_call_max (args : Array Operand) (ts : Array TypeId) : vcOp P (.call ⟨.builtin .max, args, ts⟩) ty σ w K = vBi P .max ts.toList (args.map (ev σ)).toList K w := mk_eq rfl
attribute [push_cast] vcOp_call_len vcOp_call_cap vcOp_call_min vcOp_call_max
variable {G : Prop}
@[push_cast] theorem vCallV_yield (l : Nat) (a b args : Array Value) : vCallV P (.func (.yield l) a b) args K w G = YldC P l (a ++ args) w K := mk_eq rfl
@[push_cast] theorem vCallV_func (g : FuncId) (a b args : Array Value) : vCallV P (.func (.func g) a b) args K w G = FnC P g (a ++ args ++ b) w K := mk_eq rfl
@[push_cast] theorem vBi_len (t : TypeId) (ts : List TypeId) (x : Value) (xs : List Value) : vBi P .len (t :: ts) (x :: xs) K w = vLen (P.underlying t) x K w := mk_eq rfl
@[push_cast] theorem vBi_cap (t : TypeId) (ts : List TypeId) (x : Value) (xs : List Value) : vBi P .cap (t :: ts) (x :: xs) K w = vCap (P.underlying t) x K w := mk_eq rfl
@[push_cast] theorem vBi_min3 (ts : List TypeId) (k k' k'' : IntKind) (a b c : Int) : vBi P .min ts [.int k a, .int k' b, .int k'' c] K w = K (.int k (min (min a b) c)) w := mk_eq rfl
@[push_cast] theorem vBi_min4 (ts : List TypeId) (k k' k'' k3 : IntKind) (a b c d : Int) : vBi P .min ts [.int k a, .int k' b, .int k'' c, .int k3 d] K w = K (.int k (min (min (min a b) c) d)) w := mk_eq rfl
@[push_cast] theorem vBi_min (ts : List TypeId) (k k' : IntKind) (a b : Int) : vBi P .min ts [.int k a, .int k' b] K w = K (.int k (min a b)) w := mk_eq rfl
@[push_cast] theorem vBi_max3 (ts : List TypeId) (k k' k'' : IntKind) (a b c : Int) : vBi P .max ts [.int k a, .int k' b, .int k'' c] K w = K (.int k (max (max a b) c)) w := mk_eq rfl
@[push_cast] theorem vBi_max4 (ts : List TypeId) (k k' k'' k3 : IntKind) (a b c d : Int) : vBi P .max ts [.int k a, .int k' b, .int k'' c, .int k3 d] K w = K (.int k (max (max (max a b) c) d)) w := mk_eq rfl
@[push_cast] theorem vBi_max (ts : List TypeId) (k k' : IntKind) (a b : Int) : vBi P .max ts [.int k a, .int k' b] K w = K (.int k (max a b)) w := mk_eq rfl
@[push_cast] theorem vLen_slice (e : TypeId) (a : Option Addr) (n c : Nat) : vLen (some (.slice e)) (.slice a n c) K w = K (.int .i64 n) w := mk_eq rfl
@[push_cast] theorem vLen_string (s : ByteArray) : vLen (some .string) (.string s) K w = K (.int .i64 s.size) w := mk_eq rfl
@[push_cast] theorem vCap_slice (e : TypeId) (a : Option Addr) (n c : Nat) : vCap (some (.slice e)) (.slice a n c) K w = K (.int .i64 c) w := mk_eq rfl
@[push_cast] theorem vPick_bool (t : Bool) (a b : Value) : vPick (.bool t) a b K w = vIfV (t = true) a b K w := ite_pair t true _ _
@[push_cast] theorem vBin_shl (t : TypeId) (x y : Operand) (k k' : IntKind) (m n : Int) : vBin P .shl t x y (.int k m) (.int k' n) K w = (0 ≤ n ∧ K (.int k (k.wrap (m * 2 ^ (min n.toNat k.bits)))) w) := mk_eq rfl
@[push_cast] theorem vBin_shr (t : TypeId) (x y : Operand) (k k' : IntKind) (m n : Int) : vBin P .shr t x y (.int k m) (.int k' n) K w = (0 ≤ n ∧ K (.int k (m.fdiv (2 ^ (min n.toNat k.bits)))) w) := mk_eq rfl
section
variable (t : TypeId) (x y : Operand) (k : IntKind) (m n : Int)
@[push_cast] theorem vBin_add : vBin P .add t x y (.int k m) (.int k n) K w = K (.int k (k.wrap (m + n))) w := by simp [vBin, iBin]
@[push_cast] theorem vBin_sub : vBin P .sub t x y (.int k m) (.int k n) K w = K (.int k (k.wrap (m - n))) w := by simp [vBin, iBin]
@[push_cast] theorem vBin_mul : vBin P .mul t x y (.int k m) (.int k n) K w = K (.int k (k.wrap (m * n))) w := by simp [vBin, iBin]
@[push_cast] theorem vBin_quo : vBin P .quo t x y (.int k m) (.int k n) K w = (¬ n = 0 ∧ K (.int k (k.wrap (m.tdiv n))) w) := by simp [vBin, iBin]
@[push_cast] theorem vBin_rem : vBin P .rem t x y (.int k m) (.int k n) K w = (¬ n = 0 ∧ K (.int k (m.tmod n)) w) := by simp [vBin, iBin]
@[push_cast] theorem vBin_and : vBin P .and t x y (.int k m) (.int k n) K w = K (.int k (bitI .and k m n)) w := by simp [vBin, iBin]
@[push_cast] theorem vBin_or : vBin P .or t x y (.int k m) (.int k n) K w = K (.int k (bitI .or k m n)) w := by simp [vBin, iBin]
@[push_cast] theorem vBin_xor : vBin P .xor t x y (.int k m) (.int k n) K w = K (.int k (bitI .xor k m n)) w := by simp [vBin, iBin]
@[push_cast] theorem vBin_andNot : vBin P .andNot t x y (.int k m) (.int k n) K w = K (.int k (bitI .andNot k m n)) w := by simp [vBin, iBin]
@[push_cast] theorem vBin_eql : vBin P .eql t x y (.int k m) (.int k n) K w = K (.bool (decide (m = n))) w := by simp [vBin, iBin]
@[push_cast] theorem vBin_neq : vBin P .neq t x y (.int k m) (.int k n) K w = K (.bool (!decide (m = n))) w := by simp [vBin, iBin]
@[push_cast] theorem vBin_lss : vBin P .lss t x y (.int k m) (.int k n) K w = K (.bool (decide (m < n))) w := by simp [vBin, iBin]
@[push_cast] theorem vBin_leq : vBin P .leq t x y (.int k m) (.int k n) K w = K (.bool (decide (m ≤ n))) w := by simp [vBin, iBin]
@[push_cast] theorem vBin_gtr : vBin P .gtr t x y (.int k m) (.int k n) K w = K (.bool (decide (n < m))) w := by simp [vBin, iBin]
@[push_cast] theorem vBin_geq : vBin P .geq t x y (.int k m) (.int k n) K w = K (.bool (decide (n ≤ m))) w := by simp [vBin, iBin]
end
section
variable (t : TypeId) (x y : Operand) (m n : ByteArray)
@[push_cast] theorem vBinS_add : vBin P .add t x y (.string m) (.string n) K w = (m.size + n.size ≤ 9223372036854775807 ∧ K (.string (m ++ n)) w) := mk_eq rfl
@[push_cast] theorem vBinS_eql : vBin P .eql t x y (.string m) (.string n) K w = K (.bool (decide (m = n))) w := mk_eq rfl
@[push_cast] theorem vBinS_neq : vBin P .neq t x y (.string m) (.string n) K w = K (.bool (!decide (m = n))) w := mk_eq rfl
@[push_cast] theorem vBinS_lss : vBin P .lss t x y (.string m) (.string n) K w = K (.bool (Op.bytesLess m.data.toList n.data.toList)) w := mk_eq rfl
end
@[push_cast] theorem eqKind_pointer (e : TypeId) : eqKind (some (.pointer e)) = 1 := mk_eq rfl
@[push_cast] theorem eqKind_slice (e : TypeId) : eqKind (some (.slice e)) = 2 := mk_eq rfl
@[push_cast] theorem eqKind_bool : eqKind (some .bool) = 4 := mk_eq rfl
@[push_cast] theorem eqKind_map (k e : TypeId) : eqKind (some (.map k e)) = 3 := mk_eq rfl
section
variable (t : TypeId) (x y : Operand)
@[push_cast] theorem vBin_eql_ptr (a : Option Addr) : vBin P .eql t x y (.pointer a) (.pointer none) K w = (eqKind (P.underlying t) = 1 ∧ K (.bool a.isNone) w) := mk_eq rfl
@[push_cast] theorem vBin_neq_ptr (a : Option Addr) : vBin P .neq t x y (.pointer a) (.pointer none) K w = (eqKind (P.underlying t) = 1 ∧ K (.bool (!a.isNone)) w) := mk_eq rfl
@[push_cast] theorem vBin_eql_slice (a : Option Addr) (n c m d : Nat) : vBin P .eql t x y (.slice a n c) (.slice none m d) K w = (eqKind (P.underlying t) = 2 ∧ K (.bool a.isNone) w) := mk_eq rfl
@[push_cast] theorem vBin_neq_slice (a : Option Addr) (n c m d : Nat) : vBin P .neq t x y (.slice a n c) (.slice none m d) K w = (eqKind (P.underlying t) = 2 ∧ K (.bool (!a.isNone)) w) := mk_eq rfl
@[push_cast] theorem vBin_eql_bool (a b : Bool) : vBin P .eql t x y (.bool a) (.bool b) K w = (eqKind (P.underlying t) = 4 ∧ K (.bool (decide (a = b))) w) := mk_eq rfl
@[push_cast] theorem vBin_neq_bool (a b : Bool) : vBin P .neq t x y (.bool a) (.bool b) K w = (eqKind (P.underlying t) = 4 ∧ K (.bool (!decide (a = b))) w) := mk_eq rfl
@[push_cast] theorem vBin_eql_map (a : Option Nat) : vBin P .eql t x y (.map a) (.map none) K w = (eqKind (P.underlying t) = 3 ∧ K (.bool a.isNone) w) := mk_eq rfl
end
@[push_cast] theorem vUn_not (b : Bool) : vUn P .not (.bool b) K w = K (.bool (!b)) w := mk_eq rfl
@[push_cast] theorem vUn_neg (k : IntKind) (n : Int) : vUn P .neg (.int k n) K w = K (.int k (k.wrap (0 - n))) w := mk_eq rfl
@[push_cast] theorem vUn_xor (k : IntKind) (n : Int) : vUn P .xor (.int k n) K w = K (.int k (bitI .xor k (if k.signed then -1 else k.max) n)) w := mk_eq rfl
@[push_cast] theorem vConv_def (s d : TypeId) (a : Value) : vConv P s d a K w = vConvD P s d (P.underlying s) (P.underlying d) a K w := mk_eq rfl
@[push_cast] theorem vConvD_int (s d : TypeId) (a : TypeDesc) (k : IntKind) (k' : IntKind) (n : Int) : vConvD P s d (some a) (some (.int k)) (.int k' n) K w = K (.int k (k.wrap n)) w := mk_eq rfl
@[push_cast] theorem vConvD_string (s d : TypeId) (a : TypeDesc) (n : ByteArray) : vConvD P s d (some a) (some .string) (.string n) K w = K (.string n) w := by cases a <;> rfl
@[push_cast] theorem oneD_bool : oneD (some .bool) = true := mk_eq rfl
@[push_cast] theorem oneD_int (k : IntKind) : oneD (some (.int k)) = true := mk_eq rfl
@[push_cast] theorem oneD_string : oneD (some .string) = true := mk_eq rfl
@[push_cast] theorem oneD_slice (e : TypeId) : oneD (some (.slice e)) = true := mk_eq rfl
@[push_cast] theorem oneD_pointer (e : TypeId) : oneD (some (.pointer e)) = true := mk_eq rfl
@[push_cast] theorem oneD_map (k e : TypeId) : oneD (some (.map k e)) = true := mk_eq rfl
@[push_cast] theorem vLoad_def (t : TypeId) (a : Value) : vLoad P t a K w = vLoadD P t (oneD (P.underlying t)) a K w := mk_eq rfl
@[push_cast] theorem vLoadD_one (t : TypeId) (a : Addr) : vLoadD P t true (.pointer (some a)) K w = vElem (w.cell? a) K w := vElem_ex _
@[push_cast] theorem oneD_struct (fs : Array Field) : oneD (some (.struct fs)) = false := mk_eq rfl
@[push_cast] theorem oneD_array (n : Nat) (e : TypeId) : oneD (some (.array n e)) = false := mk_eq rfl
@[push_cast] theorem oneD_interface (ms : Array (String × TypeId)) : oneD (some (.interface ms)) = true := mk_eq rfl
@[push_cast] theorem oneD_func (a b : Array TypeId) (v : Bool) : oneD (some (.func a b v)) = true := mk_eq rfl
@[push_cast] theorem aggD_struct (t : TypeId) (fs : Array Field) : aggD P t (some (.struct fs)) = szOf P t := mk_eq rfl
@[push_cast] theorem aggD_array (t : TypeId) (n : Nat) (e : TypeId) : aggD P t (some (.array n e)) = szOf P t := mk_eq rfl
@[push_cast] theorem vLoadD_agg (t : TypeId) (a : Value) : vLoadD P t false a K w = vLoadA P t (aggD P t (P.underlying t)) a K w := mk_eq rfl
@[push_cast] theorem vLoadA_ok (t : TypeId) (n : Nat) (a : Addr) : vLoadA P t (some n) (.pointer (some a)) K w = vElemA (cellsAt w a n) K w := vElemA_ex _
@[push_cast] theorem vStore_def (t : TypeId) (a x : Value) : vStore P t a x K w = vStoreD P t (szOf P t) a x K w := mk_eq rfl
theorem vStoreD_one (t : TypeId) (a : Addr) (x : Value) (h : x.cells = #[x]) (h1 : x.oneCell' = true) : vStoreD P t (some 1) (.pointer (some a)) x K w = ((∃ y, w.cell? a = some y) ∧ w.frozen? a = false ∧ K undef (w.setCell a x)) := by
  simp [vStoreD, h, h1, canAll, storeAll, and_assoc]
@[push_cast] theorem vStoreD_int (t : TypeId) (a : Addr) (k : IntKind) (n : Int) : vStoreD P t (some 1) (.pointer (some a)) (.int k n) K w = ((∃ y, w.cell? a = some y) ∧ w.frozen? a = false ∧ K undef (w.setCell a (.int k n))) := vStoreD_one t a _ rfl rfl
@[push_cast] theorem vStoreD_bool (t : TypeId) (a : Addr) (b : Bool) : vStoreD P t (some 1) (.pointer (some a)) (.bool b) K w = ((∃ y, w.cell? a = some y) ∧ w.frozen? a = false ∧ K undef (w.setCell a (.bool b))) := vStoreD_one t a _ rfl rfl
@[push_cast] theorem vStoreD_string (t : TypeId) (a : Addr) (s : ByteArray) : vStoreD P t (some 1) (.pointer (some a)) (.string s) K w = ((∃ y, w.cell? a = some y) ∧ w.frozen? a = false ∧ K undef (w.setCell a (.string s))) := vStoreD_one t a _ rfl rfl
@[push_cast] theorem vStoreD_slice (t : TypeId) (a : Addr) (o : Option Addr) (n c : Nat) : vStoreD P t (some 1) (.pointer (some a)) (.slice o n c) K w = ((∃ y, w.cell? a = some y) ∧ w.frozen? a = false ∧ K undef (w.setCell a (.slice o n c))) := vStoreD_one t a _ rfl rfl
@[push_cast] theorem vStoreD_pointer (t : TypeId) (a : Addr) (o : Option Addr) : vStoreD P t (some 1) (.pointer (some a)) (.pointer o) K w = ((∃ y, w.cell? a = some y) ∧ w.frozen? a = false ∧ K undef (w.setCell a (.pointer o))) := vStoreD_one t a _ rfl rfl
@[push_cast] theorem vStoreD_map (t : TypeId) (a : Addr) (o : Option Nat) : vStoreD P t (some 1) (.pointer (some a)) (.map o) K w = ((∃ y, w.cell? a = some y) ∧ w.frozen? a = false ∧ K undef (w.setCell a (.map o))) := vStoreD_one t a _ rfl rfl
@[push_cast] theorem vStoreD_func (t : TypeId) (a : Addr) (f : Go.Fn) (x y : Array Value) : vStoreD P t (some 1) (.pointer (some a)) (.func f x y) K w = ((∃ y, w.cell? a = some y) ∧ w.frozen? a = false ∧ K undef (w.setCell a (.func f x y))) := vStoreD_one t a _ rfl rfl
@[push_cast] theorem vField_def (t : TypeId) (x : Value) (f : Nat) : vField P t x f K w = vFieldD P t (fieldOf P t f) x f K w := mk_eq rfl
@[push_cast] theorem vFieldD_ok (t : TypeId) (off : Nat) (ft : TypeId) (cs : Array Value) (f : Nat) : vFieldD P t (some (off, ft)) (.agg cs) f K w = vPart (oneD (P.underlying ft)) (aggD P ft (P.underlying ft)) cs off K w := mk_eq rfl
@[push_cast] theorem vPart_one (n : Option Nat) (l : List Value) (off : Nat) : vPart true n l.toArray off K w = vElem (l[off]?) K w := by
  unfold vPart vElem; simp only [List.getElem?_toArray]; split <;> simp_all
@[push_cast] theorem vPart_agg (n : Nat) (l : List Value) (off : Nat) : vPart false (some n) l.toArray off K w = K (.agg ((l.drop off).take n).toArray) w := by
  unfold vPart; simp [List.take_drop]
@[push_cast] theorem vElem_some (v : Value) : vElem (some v) K w = K v w := mk_eq rfl
@[push_cast] theorem vIndex_def (t : TypeId) (x i : Value) : vIndex P t x i K w = vIndexD P t (P.underlying t) x i K w := mk_eq rfl
@[push_cast] theorem vIndexD_string (t : TypeId) (s : ByteArray) (k : IntKind) (j : Int) : vIndexD P t (some .string) (.string s) (.int k j) K w = (0 ≤ j ∧ vElemB s[j.toNat]? K w) := by
  rw [← vElemB_ex]; rfl
@[push_cast] theorem vIndexD_array (t : TypeId) (n : Nat) (e : TypeId) (cs : Array Value) (k : IntKind) (j : Int) : vIndexD P t (some (.array n e)) (.agg cs) (.int k j) K w = ((0 ≤ j ∧ j < n) ∧ vPartS P e (szOf P e) cs j K w) := mk_eq rfl
@[push_cast] theorem vPartS_ok (e : TypeId) (s : Nat) (cs : Array Value) (j : Int) : vPartS P e (some s) cs j K w = vPart (oneD (P.underlying e)) (aggD P e (P.underlying e)) cs (j.toNat * s) K w := mk_eq rfl
@[push_cast] theorem vIndexAddr_def (t : TypeId) (x i : Value) : vIndexAddr P t x i K w = vIndexAddrD P t (P.underlying t) x i K w := mk_eq rfl
@[push_cast] theorem vIndexAddrD_slice (t e : TypeId) (a : Addr) (n c : Nat) (k : IntKind) (i : Int) : vIndexAddrD P t (some (.slice e)) (.slice (some a) n c) (.int k i) K w = vAt (szOf P e) a i n K w := mk_eq rfl
@[push_cast] theorem vIndexAddrD_array (t e : TypeId) (n : Nat) (a : Addr) (k : IntKind) (i : Int) : vIndexAddrD P t (some (.array n e)) (.pointer (some a)) (.int k i) K w = vAt (szOf P e) a i n K w := mk_eq rfl
@[push_cast] theorem vAt_ok (s : Nat) (a : Addr) (i : Int) (n : Nat) : vAt (some s) a i n K w = ((0 ≤ i ∧ i < n) ∧ K (.pointer (some (a.add (i.toNat * s)))) w) := mk_eq rfl
@[push_cast] theorem vFieldAddr_def (s : TypeId) (x : Value) (f : Nat) : vFieldAddr P s x f K w = vFieldAddrD P (fieldOf P s f) x K w := mk_eq rfl
@[push_cast] theorem vFieldAddrD_ok (off : Nat) (t : TypeId) (a : Addr) : vFieldAddrD P (some (off, t)) (.pointer (some a)) K w = vFldZ (szOf P t) (a.add off) K w := mk_eq rfl
@[push_cast] theorem vFldZ_ok {s : Nat} (h : 0 < s) (a : Addr) : vFldZ (some s) a K w = K (.pointer (some a)) w := by simp [vFldZ, h]
@[push_cast] theorem intO_none (d : Int) : intO d none = some d := mk_eq rfl
@[push_cast] theorem intO_int (d : Int) (k : IntKind) (n : Int) : intO d (some (.int k n)) = some n := mk_eq rfl
@[push_cast] theorem vSlice_def (t : TypeId) (x : Value) (lo hi mx : Option Value) : vSlice P t x lo hi mx K w = vSliceD P t (P.underlying t) x lo hi mx K w := mk_eq rfl
@[push_cast] theorem vSliceD_slice (t e : TypeId) (a : Option Addr) (n c : Nat) (lo hi mx : Option Value) :
    vSliceD P t (some (.slice e)) (.slice a n c) lo hi mx K w = vSl (szOf P e) a (intO 0 lo) (intO n hi) (intO c mx) (hi.isNone && mx.isSome) c K w := mk_eq rfl
@[push_cast] theorem vSliceD_string (t : TypeId) (s : ByteArray) (lo hi mx : Option Value) :
    vSliceD P t (some .string) (.string s) lo hi mx K w = vSub s (intO 0 lo) (intO s.size hi) mx.isSome K w := mk_eq rfl
@[push_cast] theorem vSl_ok (s : Nat) (a : Option Addr) (l h m : Int) (c : Nat) : vSl (some s) a (some l) (some h) (some m) false c K w =
    ((0 ≤ l ∧ l ≤ h ∧ h ≤ m ∧ m ≤ c) ∧ K (.slice (slAddr a l m s) (h - l).toNat (m - l).toNat) w) := mk_eq rfl
@[push_cast] theorem slAddr_zero (a : Option Addr) (m : Int) (s : Nat) : slAddr a 0 m s = a := by
  unfold slAddr; split
  · rfl
  · cases a <;> simp [Addr.add]
@[push_cast] theorem vSub_ok (s : ByteArray) (l h : Int) : vSub s (some l) (some h) false K w = ((0 ≤ l ∧ l ≤ h ∧ h ≤ s.size) ∧ K (.string (s.extract l.toNat h.toNat)) w) := mk_eq rfl
@[push_cast] theorem vExtract_ok (vs : Array Value) (i : Nat) : vExtract (.tuple vs) i K w = vElem vs[i]? K w := mk_eq rfl
@[push_cast] theorem vNil_ok {x : Operand} (ty : TypeId) : vcOp P (.nilCheck x) ty σ w K = vNil P x ty σ K w := mk_eq rfl
@[push_cast] theorem vNil_def (x : Operand) (ty : TypeId) : vNil P x ty σ K w = vNilV P x ty σ (ev σ x) K w := mk_eq rfl
@[push_cast] theorem vNilV_ptr (x : Operand) (a : Addr) (ty : TypeId) : vNilV P x ty σ (.pointer (some a)) K w = K (.pointer (some a)) w := mk_eq rfl
end
end
/-! ### operations of a region that draws its order -/
section
variable {P : Program} {σ : Env} {w : World} {K : Value → Prop} (ty : TypeId)
@[push_cast] theorem qOp_move (x : Operand) : qOp P (.move x) ty σ w K = K (ev σ x) := mk_eq rfl
@[push_cast] theorem qOp_assign (x : Operand) : qOp P (.assign x) ty σ w K = K (ev σ x) := mk_eq rfl
@[push_cast] theorem qOp_pick (c a b : Operand) : qOp P (.pick c a b) ty σ w K = vPick (ev σ c) (ev σ a) (ev σ b) (cst K) w := mk_eq rfl
@[push_cast] theorem qOp_binOp (op : BinOp) (t : TypeId) (x y : Operand) (u : TypeId) : qOp P (.binOp op t x y u) ty σ w K = qBin P op t x y u ty σ (ev σ x) (ev σ y) K w := mk_eq rfl
@[push_cast] theorem qOp_unOp (op : UnOp) (t : TypeId) (x : Operand) : qOp P (.unOp op t x) ty σ w K = qUn P op t x ty σ (ev σ x) K w := mk_eq rfl
@[push_cast] theorem qOp_convert (s d : TypeId) (x : Operand) : qOp P (.convert s d x) ty σ w K = qConv P s d x ty σ (P.underlying s) (P.underlying d) (ev σ x) K w := mk_eq rfl
@[push_cast] theorem qOp_load (t : TypeId) (x : Operand) : qOp P (.load t x) ty σ w K = qLoad P t x ty σ (oneD (P.underlying t)) (ev σ x) K w := mk_eq rfl
@[push_cast] theorem qOp_fieldAddr (s : TypeId) (x : Operand) (f : Nat) : qOp P (.fieldAddr s x f) ty σ w K = vFieldAddr P s (ev σ x) f (cst K) w := mk_eq rfl
@[push_cast] theorem qOp_indexAddr (t : TypeId) (x i : Operand) : qOp P (.indexAddr t x i) ty σ w K = qIndexAddr P t x i ty σ (P.underlying t) (ev σ x) (ev σ i) K w := mk_eq rfl
@[push_cast] theorem qOp_slice (t : TypeId) (x : Operand) (lo hi mx : Option Operand) : qOp P (.slice t x lo hi mx) ty σ w K = qSlice P t x lo hi mx ty σ (P.underlying t) (ev σ x) K w := mk_eq rfl
@[push_cast] theorem qOp_makeFunc (fn : Go.Fn) (a b : Array Operand) : qOp P (.makeFunc fn a b) ty σ w K = K (.func fn (a.map (ev σ)) (b.map (ev σ))) := mk_eq rfl
@[push_cast] theorem qOp_extract (x : Operand) (i : Nat) : qOp P (.extract x i) ty σ w K = vExtract (ev σ x) i (cst K) w := mk_eq rfl
@[push_cast] theorem qOp_nilCheck (x : Operand) : qOp P (.nilCheck x) ty σ w K = qNil P x ty σ (ev σ x) K w := mk_eq rfl
@[push_cast] theorem qOp_call_value (f : Operand) (args : Array Operand) (ts : Array TypeId) : qOp P (.call ⟨.value f, args, ts⟩) ty σ w K = qCallV P ⟨.value f, args, ts⟩ ty σ (ev σ f) w K := mk_eq rfl
@[push_cast] theorem qCallV_func (f : Operand) (args : Array Operand) (ts : Array TypeId) (g : FuncId) (a b : Array Value) : qCallV P ⟨.value f, args, ts⟩ ty σ (.func (.func g) a b) w K = QFn P g (a ++ args.map (ev σ) ++ b) w K := mk_eq rfl
@[push_cast] theorem qOp_call_len (args : Array Operand) (ts : Array TypeId) : qOp P (.call ⟨.builtin .len, args, ts⟩) ty σ w K = vBi P .len ts.toList (args.map (ev σ)).toList (cst K) w := mk_eq rfl
@[push_cast] theorem qOp_call_cap (args : Array Operand) (ts : Array TypeId) : qOp P (.call ⟨.builtin .cap, args, ts⟩) ty σ w K = vBi P .cap ts.toList (args.map (ev σ)).toList (cst K) w := mk_eq rfl
@[push_cast] theorem qOp_call_min (args : Array Operand) (ts : Array TypeId) : qOp P (.call ⟨.builtin .min, args, ts⟩) ty σ w K = vBi P .min ts.toList (args.map (ev σ)).toList (cst K) w := mk_eq rfl
@[push_cast] theorem qOp_call_max (args : Array Operand) (ts : Array TypeId) : qOp P (.call ⟨.builtin .max, args, ts⟩) ty σ w K = vBi P .max ts.toList (args.map (ev σ)).toList (cst K) w := mk_eq rfl
@[push_cast] theorem qBin_int (op : BinOp) (t : TypeId) (x y : Operand) (u : TypeId) (k k' : IntKind) (m n : Int) : qBin P op t x y u ty σ (.int k m) (.int k' n) K w = vBin P op t x y (.int k m) (.int k' n) (cst K) w := mk_eq rfl
@[push_cast] theorem qBin_string (op : BinOp) (t : TypeId) (x y : Operand) (u : TypeId) (m n : ByteArray) : qBin P op t x y u ty σ (.string m) (.string n) K w = vBin P op t x y (.string m) (.string n) (cst K) w := mk_eq rfl
@[push_cast] theorem qBin_ptr (op : BinOp) (t : TypeId) (x y : Operand) (u : TypeId) (m : Option Addr) : qBin P op t x y u ty σ (.pointer m) (.pointer none) K w = qNilB op (eqKind (P.underlying t)) 1 m.isNone K := mk_eq rfl
@[push_cast] theorem qBin_slice (op : BinOp) (t : TypeId) (x y : Operand) (u : TypeId) (m : Option Addr) (n c d e : Nat) : qBin P op t x y u ty σ (.slice m n c) (.slice none d e) K w = qNilB op (eqKind (P.underlying t)) 2 m.isNone K := mk_eq rfl
@[push_cast] theorem qBin_bool (op : BinOp) (t : TypeId) (x y : Operand) (u : TypeId) (m n : Bool) : qBin P op t x y u ty σ (.bool m) (.bool n) K w = qNilB op (eqKind (P.underlying t)) 4 (decide (m = n)) K := mk_eq rfl
@[push_cast] theorem qNilB_eql (k k' : Nat) (b : Bool) : qNilB .eql k k' b K = (k = k' ∧ K (.bool b)) := mk_eq rfl
@[push_cast] theorem qNilB_neq (k k' : Nat) (b : Bool) : qNilB .neq k k' b K = (k = k' ∧ K (.bool (!b))) := mk_eq rfl
@[push_cast] theorem qUn_not (t : TypeId) (x : Operand) (b : Bool) : qUn P .not t x ty σ (.bool b) K w = K (.bool (!b)) := mk_eq rfl
@[push_cast] theorem qUn_neg (t : TypeId) (x : Operand) (k : IntKind) (n : Int) : qUn P .neg t x ty σ (.int k n) K w = K (.int k (k.wrap (0 - n))) := mk_eq rfl
@[push_cast] theorem qConv_int (s d : TypeId) (x : Operand) (a : TypeDesc) (k k' : IntKind) (n : Int) : qConv P s d x ty σ (some a) (some (.int k)) (.int k' n) K w = K (.int k (k.wrap n)) := mk_eq rfl
@[push_cast] theorem qLoad_one (t : TypeId) (x : Operand) (a : Addr) : qLoad P t x ty σ true (.pointer (some a)) K w = vElem (w.cell? a) (cst K) w := vElem_ex (K := cst K) _
@[push_cast] theorem qLoad_agg (t : TypeId) (x : Operand) (a : Value) : qLoad P t x ty σ false a K w = qLoadA P t x ty σ (aggD P t (P.underlying t)) a K w := mk_eq rfl
@[push_cast] theorem qLoadA_ok (t : TypeId) (x : Operand) (n : Nat) (a : Addr) : qLoadA P t x ty σ (some n) (.pointer (some a)) K w = vElemA (cellsAt w a n) (cst K) w := vElemA_ex (K := cst K) _
@[push_cast] theorem qOp_index (t : TypeId) (x i : Operand) : qOp P (.index t x i) ty σ w K = qIndex P t x i ty σ (P.underlying t) (ev σ x) (ev σ i) K w := mk_eq rfl
@[push_cast] theorem qOp_field (t : TypeId) (x : Operand) (f : Nat) : qOp P (.field t x f) ty σ w K = qField P t x f ty σ (fieldOf P t f) (ev σ x) K w := mk_eq rfl
@[push_cast] theorem qIndex_array (t : TypeId) (x i : Operand) (n : Nat) (e : TypeId) (cs : Array Value) (k : IntKind) (j : Int) : qIndex P t x i ty σ (some (.array n e)) (.agg cs) (.int k j) K w = vIndexD P t (some (.array n e)) (.agg cs) (.int k j) (cst K) w := mk_eq rfl
@[push_cast] theorem qIndex_string (t : TypeId) (x i : Operand) (s : ByteArray) (k : IntKind) (j : Int) : qIndex P t x i ty σ (some .string) (.string s) (.int k j) K w = vIndexD P t (some .string) (.string s) (.int k j) (cst K) w := mk_eq rfl
@[push_cast] theorem qField_ok (t : TypeId) (x : Operand) (f off : Nat) (ft : TypeId) (cs : Array Value) : qField P t x f ty σ (some (off, ft)) (.agg cs) K w = vFieldD P t (some (off, ft)) (.agg cs) f (cst K) w := mk_eq rfl
@[push_cast] theorem qIndexAddr_slice (t : TypeId) (x i : Operand) (e : TypeId) (a : Addr) (n c : Nat) (k : IntKind) (j : Int) : qIndexAddr P t x i ty σ (some (.slice e)) (.slice (some a) n c) (.int k j) K w = vAt (szOf P e) a j n (cst K) w := mk_eq rfl
@[push_cast] theorem qIndexAddr_array (t : TypeId) (x i : Operand) (e : TypeId) (a : Addr) (n : Nat) (k : IntKind) (j : Int) : qIndexAddr P t x i ty σ (some (.array n e)) (.pointer (some a)) (.int k j) K w = vAt (szOf P e) a j n (cst K) w := mk_eq rfl
@[push_cast] theorem qSlice_slice (t : TypeId) (x : Operand) (lo hi mx : Option Operand) (e : TypeId) (a : Option Addr) (n c : Nat) :
    qSlice P t x lo hi mx ty σ (some (.slice e)) (.slice a n c) K w = vSl (szOf P e) a (intO 0 (lo.map (ev σ))) (intO n (hi.map (ev σ))) (intO c (mx.map (ev σ))) ((hi.map (ev σ)).isNone && (mx.map (ev σ)).isSome) c (cst K) w := mk_eq rfl
@[push_cast] theorem qSlice_string (t : TypeId) (x : Operand) (lo hi mx : Option Operand) (s : ByteArray) :
    qSlice P t x lo hi mx ty σ (some .string) (.string s) K w = vSub s (intO 0 (lo.map (ev σ))) (intO s.size (hi.map (ev σ))) (mx.map (ev σ)).isSome (cst K) w := mk_eq rfl
@[push_cast] theorem qNil_ptr (x : Operand) (a : Addr) : qNil P x ty σ (.pointer (some a)) K w = K (.pointer (some a)) := mk_eq rfl
end
/-! ### regions that draw their order -/
section
variable {P : Program} {σ : Env} {w : World}
def fsts : List (VOp × List Nat) → List VOp
  | [] => []
  | o :: l => o.1 :: fsts l
theorem fsts_eq (l : List (VOp × List Nat)) : fsts l = l.map (·.1) := by
  induction l with
  | nil => rfl
  | cons o l ih => simp [fsts, ih]
@[push_cast] theorem fsts_nil : fsts [] = [] := mk_eq rfl
@[push_cast] theorem fsts_cons (o : VOp) (rs : List Nat) (l : List (VOp × List Nat)) : fsts ((o, rs) :: l) = o :: fsts l := mk_eq rfl
theorem drawn_q {ol : List (VOp × List Nat)} {nd : Nat} {K : Env → World → Prop} (h : qOps P (fsts ol) (fun σ' => ∀ w', Later w w' → K σ' w') σ w) : drawn P ol nd K σ w := by
  rw [fsts_eq] at h; exact .inl h
theorem dq {ol : List (VOp × List Nat)} {nd : Nat} {K : Env → World → Prop} (h : qOps P (fsts ol) (fun σ' => ∀ w', Later w w' → K σ' w') σ w) : drawn P ol nd K σ w := drawn_q h
def nFin (K : Env → World → Prop) (w : World) : NS → Env → Prop := fun Ns σ' => ∀ w', Later w w' → nEnd Ns K σ' w'
theorem drawn_k (k : Nat) {ol : List (VOp × List Nat)} {nd : Nat} {K : Env → World → Prop} (h : nOps P (ol.take k) [] (nFin (fun σ2 w2 => vcOps P (fsts (ol.drop k)) K σ2 w2) w) σ w)
    (h1 : decide (k < ol.length ∧ ol.length < k + nd) = true := by rfl) : drawn P ol nd K σ w := by
  obtain ⟨h2, h3⟩ := of_decide_eq_true h1
  rw [fsts_eq] at h; exact .inr (.inr ⟨k, h2, h3, h⟩)
def ini {α : Type} : List α → List α
  | [] => []
  | [_] => []
  | x :: y :: l => x :: ini (y :: l)
def lst {α : Type} : List α → List α
  | [] => []
  | [x] => [x]
  | _ :: y :: l => lst (y :: l)
def tailF (P : Program) (pre tl : List (VOp × List Nat)) (ls : List Nat) (K : Env → World → Prop) (w : World) : NS → Env → Prop := fun Ns σ' => freeN Ns ls = true ∧ ∀ w', Later w w' → nEnd Ns (fun σ2 w2 => pures P σ2 ls pre ∧ vcOps P (fsts tl) K σ2 w2) σ' w'
theorem drawnS_k (k : Nat) {ol : List (VOp × List Nat)} {nd : Nat} {ls : List Nat} {K : Env → World → Prop} (h : nOps P (ol.take k) [] (tailF P (ol.take k) (ol.drop k) ls K w) σ w) (hk : ol.length - nd = k := by rfl) : drawnS P ol nd ls K σ w := by
  subst hk
  unfold tailF at h
  rw [fsts_eq] at h
  exact .inr h
variable {ls : List Nat}
@[push_cast] theorem memL_nil (d : Nat) : memL d [] = false := mk_eq rfl
@[push_cast] theorem memL_cons (d e : Nat) (l : List Nat) : memL d (e :: l) = if d = e then true else memL d l := mk_eq rfl
@[push_cast] theorem pureIf_true (p : Prop) : pureIf true p = p := by simp [pureIf]
@[push_cast] theorem pureIf_false (p : Prop) : pureIf false p = True := by simp [pureIf]
@[push_cast] theorem pures_nil : pures P σ ls [] = True := mk_eq rfl
@[push_cast] theorem pures_move (d : Nat) (x : Operand) (ty : TypeId) (rs : List Nat) (r : List (VOp × List Nat)) : pures P σ ls ((⟨some d, .move x, ty, none⟩, rs) :: r) = (pureIf (memL d ls) (ev σ x = σ d) ∧ pures P σ ls r) := by
  simp [pures, isPO, latO, pureAt, vcOp]
@[push_cast] theorem pures_bin (d : Nat) (op : BinOp) (t : TypeId) (x y : Operand) (u ty : TypeId) (rs : List Nat) (r : List (VOp × List Nat)) : pures P σ ls ((⟨some d, .binOp op t x y u, ty, none⟩, rs) :: r) = (pureIf (memL d ls) (∀ w, vBin P op t x y (ev σ x) (ev σ y) (fun v w' => v = σ d ∧ w' = w) w) ∧ pures P σ ls r) := by
  simp [pures, isPO, latO, pureAt, vcOp]
@[push_cast] theorem pures_extract (d : Nat) (x : Operand) (i : Nat) (ty : TypeId) (rs : List Nat) (r : List (VOp × List Nat)) : pures P σ ls ((⟨some d, .extract x i, ty, none⟩, rs) :: r) = (pureIf (memL d ls) (∀ w, vcOp P (.extract x i) ty σ w (fun v w' => v = σ d ∧ w' = w)) ∧ pures P σ ls r) := by
  simp [pures, isPO, latO, pureAt]
@[push_cast] theorem pures_alloc (d : Option Nat) (t : TypeId) (ty : TypeId) (rs : List Nat) (r : List (VOp × List Nat)) : pures P σ ls ((⟨d, .alloc t, ty, none⟩, rs) :: r) = pures P σ ls r := by
  simp [pures, pureIf, isPO]
@[push_cast] theorem pures_guard (d : Option Nat) (op : Op) (ty : TypeId) (g : Nat × Bool) (rs : List Nat) (r : List (VOp × List Nat)) : pures P σ ls ((⟨d, op, ty, some g⟩, rs) :: r) = pures P σ ls r := by
  simp [pures, pureIf, isPO]
@[push_cast] theorem pures_load (d : Option Nat) (t : TypeId) (x : Operand) (ty : TypeId) (rs : List Nat) (r : List (VOp × List Nat)) : pures P σ ls ((⟨d, .load t x, ty, none⟩, rs) :: r) = pures P σ ls r := by
  simp [pures, pureIf, isPO]
@[push_cast] theorem pures_iaddr (d : Option Nat) (t : TypeId) (x y : Operand) (ty : TypeId) (rs : List Nat) (r : List (VOp × List Nat)) : pures P σ ls ((⟨d, .indexAddr t x y, ty, none⟩, rs) :: r) = pures P σ ls r := by
  simp [pures, pureIf, isPO]
@[push_cast] theorem pures_faddr (d : Option Nat) (t : TypeId) (x : Operand) (f : Nat) (ty : TypeId) (rs : List Nat) (r : List (VOp × List Nat)) : pures P σ ls ((⟨d, .fieldAddr t x f, ty, none⟩, rs) :: r) = pures P σ ls r := by
  simp [pures, pureIf, isPO]
@[push_cast] theorem pures_assign (d : Option Nat) (x : Operand) (ty : TypeId) (rs : List Nat) (r : List (VOp × List Nat)) : pures P σ ls ((⟨d, .assign x, ty, none⟩, rs) :: r) = pures P σ ls r := by
  simp [pures, pureIf, isPO]
@[push_cast] theorem pures_call (d : Option Nat) (c : Call) (ty : TypeId) (rs : List Nat) (r : List (VOp × List Nat)) : pures P σ ls ((⟨d, .call c, ty, none⟩, rs) :: r) = pures P σ ls r := by
  simp [pures, pureIf, isPO]
@[push_cast] theorem pures_nilCheck (d : Option Nat) (x : Operand) (ty : TypeId) (rs : List Nat) (r : List (VOp × List Nat)) : pures P σ ls ((⟨d, .nilCheck x, ty, none⟩, rs) :: r) = pures P σ ls r := by
  simp [pures, pureIf, isPO]
@[push_cast] theorem pures_buildSlice (d : Option Nat) (t n : Nat) (ps : Array (Nat × Operand)) (ty : TypeId) (rs : List Nat) (r : List (VOp × List Nat)) : pures P σ ls ((⟨d, .buildSlice t n ps, ty, none⟩, rs) :: r) = pures P σ ls r := by
  simp [pures, pureIf, isPO]
@[push_cast] theorem pures_build (d : Option Nat) (t : TypeId) (ps : Array (Nat × Operand)) (ty : TypeId) (rs : List Nat) (r : List (VOp × List Nat)) : pures P σ ls ((⟨d, .build t ps, ty, none⟩, rs) :: r) = pures P σ ls r := by
  simp [pures, pureIf, isPO]
@[push_cast] theorem pures_slice (d : Option Nat) (t : TypeId) (x : Operand) (lo hi mx : Option Operand) (ty : TypeId) (rs : List Nat) (r : List (VOp × List Nat)) : pures P σ ls ((⟨d, .slice t x lo hi mx, ty, none⟩, rs) :: r) = pures P σ ls r := by
  simp [pures, pureIf, isPO]
@[push_cast] theorem pures_convert (d : Option Nat) (a b : TypeId) (x : Operand) (ty : TypeId) (rs : List Nat) (r : List (VOp × List Nat)) : pures P σ ls ((⟨d, .convert a b x, ty, none⟩, rs) :: r) = pures P σ ls r := by
  simp [pures, pureIf, isPO]
@[push_cast] theorem pures_index (d : Option Nat) (t : TypeId) (x i : Operand) (ty : TypeId) (rs : List Nat) (r : List (VOp × List Nat)) : pures P σ ls ((⟨d, .index t x i, ty, none⟩, rs) :: r) = pures P σ ls r := by
  simp [pures, pureIf, isPO]
@[push_cast] theorem pures_field (d : Option Nat) (t : TypeId) (x : Operand) (f : Nat) (ty : TypeId) (rs : List Nat) (r : List (VOp × List Nat)) : pures P σ ls ((⟨d, .field t x f, ty, none⟩, rs) :: r) = pures P σ ls r := by
  simp [pures, pureIf, isPO]
@[push_cast] theorem pures_pick (d : Option Nat) (c x y : Operand) (ty : TypeId) (rs : List Nat) (r : List (VOp × List Nat)) : pures P σ ls ((⟨d, .pick c x y, ty, none⟩, rs) :: r) = pures P σ ls r := by
  simp [pures, pureIf, isPO]
@[push_cast] theorem pures_unOp (d : Option Nat) (op : UnOp) (t : TypeId) (x : Operand) (ty : TypeId) (rs : List Nat) (r : List (VOp × List Nat)) : pures P σ ls ((⟨d, .unOp op t x, ty, none⟩, rs) :: r) = pures P σ ls r := by
  simp [pures, pureIf, isPO]
/-! the same behind an operation that changes memory -/
@[push_cast] theorem lates_nil : lates P σ w ls [] = True := mk_eq rfl
@[push_cast] theorem preT_def (m k : Nat) (ol : List (VOp × List Nat)) : preT m k ol = ol.take m ++ (ol.drop (m + 1)).take (k - (m + 1)) := mk_eq rfl
@[push_cast] theorem lates_move (d : Nat) (x : Operand) (ty : TypeId) (rs : List Nat) (r : List (VOp × List Nat)) : lates P σ w ls ((⟨some d, .move x, ty, none⟩, rs) :: r) = (pureIf (memL d ls) (ev σ x = σ d) ∧ lates P σ w ls r) := by
  simp [lates, isLO, latO, lateAt, vcOp]
@[push_cast] theorem lates_load (d : Nat) (t : TypeId) (x : Operand) (ty : TypeId) (rs : List Nat) (r : List (VOp × List Nat)) : lates P σ w ls ((⟨some d, .load t x, ty, none⟩, rs) :: r) = (pureIf (memL d ls) (vLoad P t (ev σ x) (fun v w' => v = σ d ∧ w' = w) w) ∧ lates P σ w ls r) := by
  simp [lates, isLO, latO, lateAt, vcOp]
@[push_cast] theorem lates_faddr (d : Nat) (t : TypeId) (x : Operand) (f : Nat) (ty : TypeId) (rs : List Nat) (r : List (VOp × List Nat)) : lates P σ w ls ((⟨some d, .fieldAddr t x f, ty, none⟩, rs) :: r) = (pureIf (memL d ls) (vFieldAddr P t (ev σ x) f (fun v w' => v = σ d ∧ w' = w) w) ∧ lates P σ w ls r) := by
  simp [lates, isLO, latO, lateAt, vcOp]
@[push_cast] theorem lates_bin (d : Nat) (op : BinOp) (t : TypeId) (x y : Operand) (u ty : TypeId) (rs : List Nat) (r : List (VOp × List Nat)) : lates P σ w ls ((⟨some d, .binOp op t x y u, ty, none⟩, rs) :: r) = (pureIf (memL d ls) (vBin P op t x y (ev σ x) (ev σ y) (fun v w' => v = σ d ∧ w' = w) w) ∧ lates P σ w ls r) := by
  simp [lates, isLO, latO, lateAt, vcOp]
@[push_cast] theorem ini_one {α : Type} (x : α) : ini [x] = [] := mk_eq rfl
@[push_cast] theorem ini_cons {α : Type} (x y : α) (l : List α) : ini (x :: y :: l) = x :: ini (y :: l) := mk_eq rfl
@[push_cast] theorem lst_one {α : Type} (x : α) : lst [x] = [x] := mk_eq rfl
@[push_cast] theorem lst_cons {α : Type} (x y : α) (l : List α) : lst (x :: y :: l) = lst (y :: l) := mk_eq rfl
attribute [push_cast] List.take_succ_cons List.take_zero List.drop_succ_cons List.drop_zero
@[push_cast] theorem nFin_at (K : Env → World → Prop) (Ns : NS) : nFin K w Ns σ = ∀ w', Later w w' → nEnd Ns K σ w' := mk_eq rfl
@[push_cast] theorem nEnd_nil (K : Env → World → Prop) : nEnd [] K σ w = K σ w := mk_eq rfl
@[push_cast] theorem nEnd_cons (K : Env → World → Prop) (t : Nat) (V : Value → World → Prop) (Ns : NS) : nEnd ((t, V) :: Ns) K σ w = ∀ x, V x w → nEnd Ns K (upd σ t x) w := mk_eq rfl
def nKv (P : Program) (rest : List (VOp × List Nat)) (Ns : NS) (K : NS → Env → Prop) (σ : Env) (w : World) (d : Option Nat) : Value → Prop := fun v => nOps P rest Ns K (put σ d v) w
def nKn (P : Program) (rest : List (VOp × List Nat)) (Ns : NS) (K : NS → Env → Prop) (σ : Env) (w : World) (d : Option Nat) : (Value → World → Prop) → Prop := fun V => nOps P rest (consN d V Ns) K (put σ d undef) w
section
variable {rest : List (VOp × List Nat)} {Ns : NS} {K : NS → Env → Prop}
@[push_cast] theorem nKv_some (d : Nat) (v : Value) : nKv P rest Ns K σ w (some d) v = nOps P rest Ns K (upd σ d v) w := mk_eq rfl
@[push_cast] theorem nKv_none (v : Value) : nKv P rest Ns K σ w none v = nOps P rest Ns K σ w := mk_eq rfl
@[push_cast] theorem nKn_some (d : Nat) (V : Value → World → Prop) : nKn P rest Ns K σ w (some d) V = nOps P rest ((d, V) :: Ns) K (upd σ d undef) w := mk_eq rfl
@[push_cast] theorem nOps_nil : nOps P [] Ns K σ w = K Ns σ := mk_eq rfl
@[push_cast] theorem nOps_cons (d : Option Nat) (op : Op) (ty : TypeId) (rs : List Nat) : nOps P ((⟨d, op, ty, none⟩, rs) :: rest) Ns K σ w = nPick P op ty (hits rs Ns) rs Ns σ w (nKv P rest Ns K σ w d) (nKn P rest Ns K σ w d) := by
  simp [nOps, nGd, vGd]; rfl
def nStp (P : Program) (op : Op) (ty : TypeId) (rs : List Nat) (rest : List (VOp × List Nat)) (Ns : NS) (K : NS → Env → Prop) (w : World) (d : Option Nat) : Env → Prop := fun σ => nPick P op ty (hits rs Ns) rs Ns σ w (nKv P rest Ns K σ w d) (nKn P rest Ns K σ w d)
def nSkp (P : Program) (rest : List (VOp × List Nat)) (Ns : NS) (K : NS → Env → Prop) (w : World) (d : Option Nat) : Env → Prop := fun σ => nKv P rest Ns K σ w d undef
@[push_cast] theorem nStp_at (op : Op) (ty : TypeId) (rs : List Nat) (d : Option Nat) : nStp P op ty rs rest Ns K w d σ = nPick P op ty (hits rs Ns) rs Ns σ w (nKv P rest Ns K σ w d) (nKn P rest Ns K σ w d) := mk_eq rfl
@[push_cast] theorem nSkp_at (d : Option Nat) : nSkp P rest Ns K w d σ = nKv P rest Ns K σ w d undef := mk_eq rfl
def nGuard (bad : Bool) (v : Value) (b : Bool) (A B : Env → Prop) (σ : Env) : Prop := match bad with
  | true => False
  | false => vGuardQ v b A B σ
@[push_cast] theorem nGuard_ok (v : Value) (b : Bool) (A B : Env → Prop) : nGuard false v b A B σ = vGuardQ v b A B σ := mk_eq rfl
@[push_cast] theorem nOps_guard (d : Option Nat) (op : Op) (ty : TypeId) (s : Nat) (b : Bool) (rs : List Nat) : nOps P ((⟨d, op, ty, some (s, b)⟩, rs) :: rest) Ns K σ w = nGuard (memN s Ns) (σ s) b (nStp P op ty rs rest Ns K w d) (nSkp P rest Ns K w d) σ := by
  have e : nOps P ((⟨d, op, ty, some (s, b)⟩, rs) :: rest) Ns K σ w = (memN s Ns = false ∧ vGuardQ (σ s) b (nStp P op ty rs rest Ns K w d) (nSkp P rest Ns K w d) σ) := rfl
  rw [e]
  cases memN s Ns <;> simp [nGuard]
@[push_cast] theorem memN_nil (t : Nat) : memN t [] = false := mk_eq rfl
@[push_cast] theorem memN_cons (t u : Nat) (V : Value → World → Prop) : memN t ((u, V) :: Ns) = if u = t then true else memN t Ns := mk_eq rfl
@[push_cast] theorem hits_none (rs : List Nat) : hits rs [] = false := by
  induction rs with
  | nil => rfl
  | cons t ts ih => simp [hits, memN, ih]
@[push_cast] theorem hits_nil : hits [] Ns = false := mk_eq rfl
@[push_cast] theorem hits_cons (t : Nat) (ts : List Nat) : hits (t :: ts) Ns = if memN t Ns = true then true else hits ts Ns := mk_eq rfl
end
variable {Ns : NS} {rs : List Nat} {Kv : Value → Prop} {Kn : (Value → World → Prop) → Prop} (ty : TypeId)
@[push_cast] theorem nPick_hit (op : Op) : nPick P op ty true rs Ns σ w Kv Kn = nR P op ty rs Ns σ w Kv Kn := mk_eq rfl
@[push_cast] theorem nPick_no (op : Op) : nPick P op ty false rs Ns σ w Kv Kn = nPlain P op ty σ w Kv Kn := mk_eq rfl
@[push_cast] theorem nPlain_move (x : Operand) : nPlain P (.move x) ty σ w Kv Kn = qOp P (.move x) ty σ w Kv := mk_eq rfl
@[push_cast] theorem nPlain_assign (x : Operand) : nPlain P (.assign x) ty σ w Kv Kn = qOp P (.assign x) ty σ w Kv := mk_eq rfl
@[push_cast] theorem nPlain_pick (c a b : Operand) : nPlain P (.pick c a b) ty σ w Kv Kn = qOp P (.pick c a b) ty σ w Kv := mk_eq rfl
@[push_cast] theorem nPlain_binOp (op : BinOp) (t : TypeId) (x y : Operand) (u : TypeId) : nPlain P (.binOp op t x y u) ty σ w Kv Kn = qOp P (.binOp op t x y u) ty σ w Kv := mk_eq rfl
@[push_cast] theorem nPlain_unOp (op : UnOp) (t : TypeId) (x : Operand) : nPlain P (.unOp op t x) ty σ w Kv Kn = qOp P (.unOp op t x) ty σ w Kv := mk_eq rfl
@[push_cast] theorem nPlain_convert (s d : TypeId) (x : Operand) : nPlain P (.convert s d x) ty σ w Kv Kn = qOp P (.convert s d x) ty σ w Kv := mk_eq rfl
@[push_cast] theorem nPlain_load (t : TypeId) (x : Operand) : nPlain P (.load t x) ty σ w Kv Kn = qOp P (.load t x) ty σ w Kv := mk_eq rfl
@[push_cast] theorem nPlain_fieldAddr (s : TypeId) (x : Operand) (f : Nat) : nPlain P (.fieldAddr s x f) ty σ w Kv Kn = qOp P (.fieldAddr s x f) ty σ w Kv := mk_eq rfl
@[push_cast] theorem nPlain_field (s : TypeId) (x : Operand) (f : Nat) : nPlain P (.field s x f) ty σ w Kv Kn = qOp P (.field s x f) ty σ w Kv := mk_eq rfl
@[push_cast] theorem nPlain_indexAddr (t : TypeId) (x i : Operand) : nPlain P (.indexAddr t x i) ty σ w Kv Kn = qOp P (.indexAddr t x i) ty σ w Kv := mk_eq rfl
@[push_cast] theorem nPlain_index (t : TypeId) (x i : Operand) : nPlain P (.index t x i) ty σ w Kv Kn = qOp P (.index t x i) ty σ w Kv := mk_eq rfl
@[push_cast] theorem nPlain_slice (t : TypeId) (x : Operand) (lo hi mx : Option Operand) : nPlain P (.slice t x lo hi mx) ty σ w Kv Kn = qOp P (.slice t x lo hi mx) ty σ w Kv := mk_eq rfl
@[push_cast] theorem nPlain_makeFunc (fn : Go.Fn) (a b : Array Operand) : nPlain P (.makeFunc fn a b) ty σ w Kv Kn = qOp P (.makeFunc fn a b) ty σ w Kv := mk_eq rfl
@[push_cast] theorem nPlain_extract (x : Operand) (i : Nat) : nPlain P (.extract x i) ty σ w Kv Kn = qOp P (.extract x i) ty σ w Kv := mk_eq rfl
@[push_cast] theorem nPlain_nilCheck (x : Operand) : nPlain P (.nilCheck x) ty σ w Kv Kn = qOp P (.nilCheck x) ty σ w Kv := mk_eq rfl
@[push_cast] theorem nPlain_len (args : Array Operand) (ts : Array TypeId) : nPlain P (.call ⟨.builtin .len, args, ts⟩) ty σ w Kv Kn = qOp P (.call ⟨.builtin .len, args, ts⟩) ty σ w Kv := mk_eq rfl
@[push_cast] theorem nPlain_cap (args : Array Operand) (ts : Array TypeId) : nPlain P (.call ⟨.builtin .cap, args, ts⟩) ty σ w Kv Kn = qOp P (.call ⟨.builtin .cap, args, ts⟩) ty σ w Kv := mk_eq rfl
@[push_cast] theorem nPlain_min (args : Array Operand) (ts : Array TypeId) : nPlain P (.call ⟨.builtin .min, args, ts⟩) ty σ w Kv Kn = qOp P (.call ⟨.builtin .min, args, ts⟩) ty σ w Kv := mk_eq rfl
@[push_cast] theorem nPlain_max (args : Array Operand) (ts : Array TypeId) : nPlain P (.call ⟨.builtin .max, args, ts⟩) ty σ w Kv Kn = qOp P (.call ⟨.builtin .max, args, ts⟩) ty σ w Kv := mk_eq rfl
@[push_cast] theorem nPlain_value (f : Operand) (args : Array Operand) (ts : Array TypeId) : nPlain P (.call ⟨.value f, args, ts⟩) ty σ w Kv Kn = nCallV P ⟨.value f, args, ts⟩ ty σ (ev σ f) w Kv Kn := mk_eq rfl
@[push_cast] theorem nCallV_func (f : Operand) (args : Array Operand) (ts : Array TypeId) (g : FuncId) (a b : Array Value) : nCallV P ⟨.value f, args, ts⟩ ty σ (.func (.func g) a b) w Kv Kn = NFn P g (a ++ args.map (ev σ) ++ b) w Kv Kn := mk_eq rfl
theorem NFn.fix {f : FuncId} {args : Array Value} (hb : HasBody P f) {v : Value} (h : ∀ w', Later w w' → FnC P f args w' fun u w'' => u = v ∧ Later w' w'') (hk : Kv v) : NFn P f args w Kv Kn := .inl (QFn.of hb h hk)
theorem nUp_val {s : Sem Value} {V : Value → World → Prop} {w : World} (h : vcUp P (fun v w' => Later w w' ∧ V v w') ((val s).run P w)) : nUp P w V ((val s).run P w) := by
  have e : (val s).run P w = (s.run P w).andThen fun v w' => .ok (.value v) w' := by simp [val]
  rw [e] at h ⊢
  cases hs : s.run P w with
  | ok v w' => rw [hs] at h; exact h
  | halt => rw [hs] at h; exact h.elim
theorem nB_of {t n : Nat} {ps : Array (Nat × Operand)} (V : Value → World → Prop) (hV : Stb w V) (h : ∀ w', Later w w' → vBuildSlice P t n (ps.map fun (i, x) => (i, ev σ x)) (fun v w'' => Later w' w'' ∧ V v w'') w') (hk : Kn V) : nPlain P (.buildSlice t n ps) ty σ w Kv Kn :=
  ⟨V, hV, fun w' hl => nUp_val (h w' hl), hk⟩
theorem nA_of {t : TypeId} (V : Value → World → Prop) (hV : Stb w V) (h : ∀ w', Later w w' → vAlloc P t (fun v w'' => Later w' w'' ∧ V v w'') w') (hk : Kn V) : nPlain P (.alloc t) ty σ w Kv Kn :=
  ⟨V, hV, fun w' hl => nUp_val (s := Instr.alloc t true (.tuple #[])) (vcOp_sound (σ := σ) (.alloc t) ty (h w' hl)), hk⟩
theorem NFn.of {f : FuncId} {args : Array Value} (hb : HasBody P f) (V : Value → World → Prop) (hV : Stb w V) (h : ∀ w', Later w w' → FnC P f args w' fun u w'' => V u w'' ∧ Later w' w'') (hk : Kn V) : NFn P f args w Kv Kn := by
  refine .inr ⟨V, hV, fun w' hl => ?_, hk⟩
  rw [hb]
  refine ⟨rfl, Calls.mono (hb.ret (h w' hl)) ?_⟩
  rintro e w'' ⟨u, rfl, hu, hl'⟩
  exact ⟨u, rfl, hl', hu⟩
theorem psis_at {σ' : Env} {w' : World} : ∀ {rs : List Nat}, psis Ns σ w' σ' rs → ∀ t ∈ rs, psi Ns σ t (σ' t) w'
  | [], _, _, ht => by cases ht
  | u :: rs, ⟨h1, h2⟩, t, ht => by
    rcases List.mem_cons.1 ht with rfl | ht
    · exact h1
    · exact psis_at h2 t ht
theorem psis_V {σ' : Env} {w' : World} {t : Nat} {V : Value → World → Prop} (h : psis Ns σ w' σ' rs) (ht : t ∈ rs) (hf : findN t Ns = some V) : V (σ' t) w' := by
  have := psis_at h t ht
  unfold psi at this; rw [hf] at this; exact this
theorem nUp_pure {w' : World} {R : Value → World → Prop} {v : Value} {r : Result Next} (hr : r = .ok (.value v) w') (h : R v w') : nUp P w' R r := by
  rw [hr]; exact ⟨Later.refl _, h⟩
end
/-! ### numbers that their kind holds -/
@[push_cast] theorem wrap_i64 {n : Int} (h : -9223372036854775808 ≤ n ∧ n ≤ 9223372036854775807) : IntKind.i64.wrap n = n := IntWalk.i64_in n h
@[push_cast] theorem wrap_u64 {n : Int} (h : 0 ≤ n ∧ n ≤ 18446744073709551615) : IntKind.u64.wrap n = n := IntWalk.u64_in n h
@[push_cast] theorem wrap_u8 {n : Int} (h : 0 ≤ n ∧ n ≤ 255) : IntKind.u8.wrap n = n := IntWalk.u8_in n h
@[push_cast] theorem wrap_u32 {n : Int} (h : 0 ≤ n ∧ n ≤ 4294967295) : IntKind.u32.wrap n = n := IntWalk.u32_in n h
@[push_cast] theorem wrap_i32 {n : Int} (h : -2147483648 ≤ n ∧ n ≤ 2147483647) : IntKind.i32.wrap n = n := IntWalk.i32_in n h
@[push_cast] theorem fdiv_pos {a b : Int} (h : 0 ≤ b) : a.fdiv b = a / b := Int.fdiv_eq_ediv_of_nonneg a h
@[push_cast] theorem bits_i64 : IntKind.i64.bits = 64 := mk_eq rfl
@[push_cast] theorem bits_u64 : IntKind.u64.bits = 64 := mk_eq rfl
@[push_cast] theorem bits_u32 : IntKind.u32.bits = 32 := mk_eq rfl
@[push_cast] theorem bits_u8 : IntKind.u8.bits = 8 := mk_eq rfl
@[push_cast] theorem bits_i32 : IntKind.i32.bits = 32 := mk_eq rfl
attribute [push_cast] List.getElem?_toArray List.getElem?_cons_zero List.getElem?_cons_succ List.drop_zero List.drop_succ_cons List.take_succ_cons List.take_zero List.take_nil List.drop_nil Array.toList_append List.map_toArray List.map_cons List.map_nil List.append_toArray List.nil_append List.append_nil List.cons_append List.toList_toArray Option.map_some Option.map_none Option.isNone_none Option.isNone_some Option.isSome_some Option.isSome_none
  Bool.false_and Bool.and_false Bool.true_and Bool.and_true Bool.or_true Bool.true_or Bool.false_or Bool.or_false if_true if_false true_and and_true decide_eq_true_eq decide_eq_false_iff_not Int.toNat_natCast
theorem vAlloc_ok {P : Program} {t : TypeId} {z : Value} {n b : Nat} (h : (P.info? t).map (fun i => (i.zero, i.size, i.bytes)) = some (some z, n, b)) (K : Value → World → Prop) (w : World) :
    vAlloc P t K w = K (.pointer (some ⟨w.heap.size, 0, none⟩)) (w.alloc (.cells z.cells t)) := by
  obtain ⟨i, hi, h1, _, _⟩ := info_parts h
  unfold vAlloc; rw [hi]; simp only [h1]
attribute [push_cast] decide_true decide_false Bool.not_true Bool.not_false
/-! ### a loop -/
def mix : List Nat → Env → Env → Env
  | [], _, σ => σ
  | d :: W, u, σ => upd (mix W u σ) d (u d)
def setAll : List (Nat × Value) → Env → Env
  | [], σ => σ
  | (d, v) :: l, σ => upd (setAll l σ) d v
@[push_cast] theorem mix_nil (u σ : Env) : mix [] u σ = σ := mk_eq rfl
@[push_cast] theorem mix_cons (d : Nat) (W : List Nat) (u σ : Env) : mix (d :: W) u σ = upd (mix W u σ) d (u d) := mk_eq rfl
@[push_cast] theorem setAll_nil (σ : Env) : setAll [] σ = σ := mk_eq rfl
@[push_cast] theorem setAll_cons (d : Nat) (v : Value) (l : List (Nat × Value)) (σ : Env) : setAll ((d, v) :: l) σ = upd (setAll l σ) d v := mk_eq rfl
theorem mix_at (W : List Nat) (u σ : Env) (i : Nat) : mix W u σ i = if i ∈ W then u i else σ i := by
  induction W with
  | nil => rfl
  | cons d W ih =>
    simp only [mix, upd, ih, List.mem_cons]
    by_cases e : i = d
    · subst e; simp
    · simp [e]
theorem setAll_same (l : List (Nat × Value)) (σ : Env) (h : ∀ p ∈ l, σ p.1 = p.2) : setAll l σ = σ := by
  induction l with
  | nil => rfl
  | cons p l ih =>
    obtain ⟨d, v⟩ := p
    rw [setAll, ih fun q hq => h q (List.mem_cons_of_mem _ hq)]
    funext i
    simp only [upd]
    split
    · rename_i e; subst e; exact (h (i, v) (List.mem_cons_self ..)).symm
    · rfl
def Has (σ : Env) : List (Nat × Value) → Prop
  | [] => True
  | (d, v) :: l => σ d = v ∧ Has σ l
@[push_cast] theorem Has_nil (σ : Env) : Has σ [] = True := mk_eq rfl
@[push_cast] theorem Has_cons (σ : Env) (d : Nat) (v : Value) (l : List (Nat × Value)) : Has σ ((d, v) :: l) = (σ d = v ∧ Has σ l) := mk_eq rfl
theorem Has.all {σ : Env} {l : List (Nat × Value)} (h : Has σ l) : ∀ p ∈ l, σ p.1 = p.2 := by
  induction l with
  | nil => intro p hp; cases hp
  | cons q l ih =>
    obtain ⟨d, v⟩ := q
    intro p hp
    rcases List.mem_cons.1 hp with rfl | hp
    · exact h.1
    · exact ih h.2 p hp
def Again {S : Type} (enc : S → List (Nat × Value)) (I : S → World → Prop) (μ : S → Nat) (m : Nat) (ds0 : List Deferred) (ds : List Deferred) (σ : Env) (w : World) : Prop :=
  ds = ds0 ∧ ∃ s, Has σ (enc s) ∧ I s w ∧ μ s < m
theorem vc_loop {P : Program} {Q : Post} {ds : List Deferred} {σ : Env} {w : World} {c : VC} {S : Type} (W : List Nat) (enc : S → List (Nat × Value)) (I : S → World → Prop) (μ : S → Nat) (s0 : S)
    (hW : (writes c).all (fun d => W.contains d) = true) (h0 : Has σ (enc s0)) (hI : I s0 w)
    (round : ∀ s u w, I s w → vc P c (thenE (Again enc I μ (μ s) ds) Q) ds (setAll (enc s) (mix W u σ)) w) : vc P (.loop c) Q ds σ w := by
  refine ⟨fun k ds' σ' w' => ds' = ds ∧ ∃ s, Has σ' (enc s) ∧ I s w' ∧ μ s = k, ⟨_, rfl, s0, h0, hI, rfl⟩, ?_⟩
  rintro k ds' σ' w' hfr ⟨rfl, s, hs, hI', rfl⟩
  have e : setAll (enc s) (mix W σ' σ) = σ' := by
    have e1 : mix W σ' σ = σ' := by
      funext i
      rw [mix_at]
      split
      · rfl
      · rename_i hi
        refine (hfr i fun hh => hi ?_).symm
        have := List.all_eq_true.1 hW i hh
        simpa using this
    rw [e1]; exact setAll_same _ _ hs.all
  have h := round s σ' w' hI'
  rw [e] at h
  have eK : Again enc I μ (μ s) ds' = fun ds2 σ2 w2 => ∃ k', k' < μ s ∧ (ds2 = ds' ∧ ∃ s, Has σ2 (enc s) ∧ I s w2 ∧ μ s = k') := by
    funext ds2 σ2 w2
    rw [eq_iff_iff]
    constructor
    · rintro ⟨rfl, s', h1, h2, h3⟩; exact ⟨_, h3, rfl, s', h1, h2, rfl⟩
    · rintro ⟨k', h3, rfl, s', h1, h2, rfl⟩; exact ⟨rfl, s', h1, h2, h3⟩
  rw [eK] at h
  exact h
attribute [push_cast] Int.tdiv_eq_ediv_of_nonneg Int.tmod_eq_emod_of_nonneg not_false_eq_true not_true_eq_false false_and and_false Nat.mul_zero Nat.zero_mul Nat.add_zero Nat.zero_add Nat.sub_zero Int.sub_zero Int.add_zero Int.zero_add Int.mul_one Nat.mul_one ite_self Nat.min_eq_left Nat.min_eq_right Int.toNat_of_nonneg
@[push_cast] theorem addr_add_zero (a : Addr) : a.add 0 = a := mk_eq rfl
@[push_cast] theorem addr_add_lit (b o n : Nat) : (⟨b, o, none⟩ : Addr).add n = ⟨b, o + n, none⟩ := by unfold Addr.add; split <;> simp_all
@[push_cast] theorem imin_left {a b : Int} (h : a ≤ b) : min a b = a := Int.min_eq_left h
@[push_cast] theorem imin_right {a b : Int} (h : b ≤ a) : min a b = b := Int.min_eq_right h
@[push_cast] theorem imax_left {a b : Int} (h : b ≤ a) : max a b = a := Int.max_eq_left h
@[push_cast] theorem imax_right {a b : Int} (h : a ≤ b) : max a b = b := Int.max_eq_right h
/-! ### composite literals -/
theorem vBuildSlice_ok {P : Program} {K : Value → World → Prop} {w : World} {t e : TypeId} {n s b : Nat} {z : Value} {ps : Array (Nat × Value)} {cs : Array Value} (ht : P.underlying t = some (.slice e))
    (hi : (P.info? e).map (fun i => (i.zero, i.size, i.bytes)) = some (some z, s, b)) (hf : Instr.fill (fun i => some (i * s, s)) ((Array.range (n * s)).map ((if n * s = 0 then #[] else z.cells)[· % (if n * s = 0 then #[] else z.cells).size]!)) ps.toList = some cs) (hn : n * s ≤ 2 ^ 24) :
    vBuildSlice P t n ps K w = K (.slice (some ⟨w.heap.size, 0, none⟩) n n) (w.alloc (.cells cs e)) := by
  obtain ⟨i, hi1, hz, rfl, rfl⟩ := info_parts hi
  have : (Instr.buildSlice t n ps).run P w = .ok (.slice (some ⟨w.heap.size, 0, none⟩) n n) (w.alloc (.cells cs e)) := by
    have h2 : ¬ 2 ^ 24 < n * i.size := by omega
    by_cases h0 : n * i.size = 0
    · have hr : ∀ f : Nat → Value, (Array.range 0).map f = #[] := fun f => by simp
      simp only [h0, if_true, hr] at hf
      simp [Instr.buildSlice, run_underlying ht, sizeOf, typeInfo, hi1, h0, hr, hf, newRow]
    · simp only [h0, if_false] at hf
      simp [Instr.buildSlice, run_underlying ht, sizeOf, typeInfo, hi1, h0, h2, zeroValue, hz, hf, newRow]
  unfold vBuildSlice; rw [run_val_pure this]; rfl
theorem vBuild_ok {P : Program} {K : Value → World → Prop} {w : World} {t : TypeId} {ps : Array (Nat × Value)} {cs : Array Value} (h : (Instr.build t ps).run P w = .ok (.agg cs) w) :
    vBuild P t ps K w = K (.agg cs) w := by
  unfold vBuild; rw [run_val_pure h]; rfl
/-! ### a range over a function -/
section
variable {P : Program} {Q : Post} {ds : List Deferred} {σ : Env} {w : World}
@[push_cast] theorem vc_rangeFunc (g : Operand) (ps : List Nat) (a c : VC) : vc P (.rangeFunc g ps a c) Q ds σ w = rngC P (ev σ g) ps (vc P a) (vc P c) Q ds σ w := mk_eq rfl
variable {L : Nat} {rec : Rec} {K : Value → World → Prop} {body : Post → List Deferred → Env → World → Prop}
@[push_cast] theorem begQ_normal : begQ L rec body K .normal ds σ w = (w.heap[L]? = some (rec .ready .normal) ∧ body (rndQ L rec K) ds σ (w.putObj L (rec .busy .normal))) := mk_eq rfl
@[push_cast] theorem rndQ_normal : rndQ L rec K .normal ds σ w = (w.heap[L]? = some (rec .busy .normal) ∧ K (.bool true) (w.putObj L (rec .ready .normal))) := mk_eq rfl
@[push_cast] theorem rndQ_ret : rndQ L rec K .ret ds σ w = (w.heap[L]? = some (rec .busy .normal) ∧ K (.bool false) (w.putObj L (rec .done .ret))) := mk_eq rfl
@[push_cast] theorem rndQ_exit (id : Nat) : rndQ L rec K (.exit id) ds σ w = (w.heap[L]? = some (rec .busy .normal) ∧ K (.bool false) (w.putObj L (rec .done (.exit id)))) := mk_eq rfl
@[push_cast] theorem putAll_nil (vs : List Value) : putAll σ [] vs = σ := by cases vs <;> rfl
@[push_cast] theorem putAll_cons (p : Nat) (ps : List Nat) (v : Value) (vs : List Value) : putAll σ (p :: ps) (v :: vs) = putAll (upd σ p v) ps vs := mk_eq rfl
end
end Go.Vc
end
