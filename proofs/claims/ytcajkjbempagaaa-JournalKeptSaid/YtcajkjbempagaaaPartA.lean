/- A verification-condition generator over the model's code: functions on a plain environment of slots, proved sound against the kit's 'wpIn'. -/
import Derived.TacticsIn
import Derived.Lib.QuietBelowIn
import Derived.WalkKit
import Derived.Sort.LoopGhostIn
import Derived.RangeFuncWrites
set_option linter.all false
section
namespace Go.Vc
open Go.RowKit
abbrev Env := Nat → Value
def upd (σ : Env) (d : Nat) (v : Value) : Env := fun i => if i = d then v else σ i
def put (σ : Env) (d : Option Nat) (v : Value) : Env := match d with
  | some d => upd σ d v
  | none => σ
def ev (σ : Env) : Operand → Value
  | .tmp t => σ t
  | .const v => v
  | .global g => .pointer (some ⟨g, 0, none⟩)
  | .func f => .func (.func f) #[] #[]
structure VOp where
  dst : Option Nat
  op : Op
  type : TypeId
  guard : Option (Nat × Bool)
inductive VC where
  | skip
  | region (ops : List VOp)
  | draw (ops : List VOp) (nd : Nat)
  | drawR (ops : List VOp) (nd : Nat)
  | drawS (ops : List VOp) (nd : Nat) (ls : List Nat)
  | drawT (ops : List VOp) (nd m k : Nat) (ls : List Nat)
  | drawA (ops : List VOp) (nd : Nat) (dps : List (List Nat))
  | seq (a b : VC)
  | cond (c : Operand) (a b : VC)
  | block (id : Nat) (c : VC)
  | loop (c : VC)
  | exit (id : Nat)
  | ret
  | rangeFunc (g : Operand) (ps : List Nat) (asg body : VC)
  | refuse
def strip (ops : Array Oper) (o : Oper) : VOp :=
  ⟨o.dst, o.op, o.type, o.guard.map fun g => (((ops[g.1]?).bind (·.dst)).getD 0, g.2)⟩
def notDefer : Op → Bool
  | .defer _ => false
  | _ => true
def okOper (n : Nat) (ops : Array Oper) (o : Oper) : Bool :=
  o.dst.all (fun d => decide (d < n)) && (match o.guard with
    | none => true
    | some g => ((ops[g.1]?).bind (·.dst)).isSome) && notDefer o.op
def okN (ops : Array Oper) : Bool :=
  (List.range ops.size).all fun j => match ops[j]? with
    | none => true
    | some o => (List.range ops.size).all (fun i => i == j || o.dst.isNone || (ops[i]?).bind (·.dst) != o.dst) && o.after.all (fun e => !Region.binds .any e || decide (e.on < j)) && (o.looksAt ops).all fun t => (List.range ops.size).all fun i => match ops[i]? with
      | none => true
      | some o' => o'.dst != some t || i == j || (if i < j then o.after.any (fun e => Region.binds .any e && e.on == i) else o'.after.any (fun e => Region.binds .any e && e.on == j))
def waits (ops : Array Oper) (i j : Nat) : Bool := match ops[i]? with
  | none => false
  | some o => o.after.any fun e => Region.binds .any e && e.on == j
def okK (ops : Array Oper) (k : Nat) : Bool :=
  decide (k < ops.size) && (List.range k).all (fun j => (List.range (k + 1)).any fun i => decide (j < i) && waits ops i j) &&
    (List.range ops.size).all fun j => decide (j ≤ k) || waits ops j (j - 1)
def lastN (ops : Array Oper) : Nat := ((List.range ops.size).takeWhile fun i => okK ops (ops.size - (i + 1))).length
def isPO (g : Bool) (op : Op) : Bool := g && (match op with
  | .move _ => true
  | .binOp .. => true
  | .extract .. => true
  | _ => false)
def sList (ops : Array Oper) (k : Nat) : Nat → List Nat
  | 0 => [k]
  | m + 1 => if (sList ops k m).any (fun i => decide (k - (m + 1) < i) && waits ops i (k - (m + 1))) then (k - (m + 1)) :: sList ops k m else sList ops k m
def isApp : Op → Bool
  | .call c => (match c.callee with
    | .builtin .append => true
    | _ => false)
  | _ => false
def okS (ops : Array Oper) (k : Nat) : Bool := decide (k + 1 < ops.size) && okK ops (k + 1) && (match ops[k]? with
  | some o => o.dst.isNone || isApp o.op
  | none => false) && (List.range k).all fun j => (sList ops k k).contains j || (match ops[j]? with
  | some o => isPO o.guard.isNone o.op && (o.looksAt ops).all fun t => (List.range ops.size).all fun i => decide (i < j) || (ops[i]?).bind (·.dst) != some t
  | none => false)
def lateS (ops : Array Oper) (k : Nat) : List Nat := (List.range k).filterMap fun j => if (sList ops k k).contains j then none else (ops[j]?).bind (·.dst)
def isLO (g : Bool) (op : Op) : Bool := g && (match op with
  | .move _ => true
  | .binOp .. => true
  | .extract .. => true
  | .load .. => true
  | .fieldAddr .. => true
  | .indexAddr .. => true
  | .nilCheck _ => true
  | _ => false)
def okT (ops : Array Oper) (m k : Nat) : Bool := decide (m < k) && okK ops k && (match ops[m]? with
  | some o => o.guard.isNone && (o.looksAt ops).all fun t => (List.range ops.size).all fun i => decide (i < m) || (ops[i]?).bind (·.dst) != some t
  | none => false) && (List.range k).all fun j => j == m || (sList ops m m).contains j || (match ops[j]? with
  | some o => isLO o.guard.isNone o.op && (o.looksAt ops).all fun t => (List.range ops.size).all fun i => (decide (i < j) && i != m) || (ops[i]?).bind (·.dst) != some t
  | none => false)
def lateT (ops : Array Oper) (m k : Nat) : List Nat := (List.range k).filterMap fun j => if (sList ops m m).contains j || j == m then none else (ops[j]?).bind (·.dst)
def isFn : Op → Bool
  | .call c => (match c.callee with
    | .value _ => true
    | _ => false)
  | _ => false
def mOf (ops : Array Oper) : Nat := ((List.range ops.size).find? fun m => (match ops[m]? with
  | some o => isFn o.op
  | none => false)).getD 0
def depsOf (ops : Array Oper) : List (List Nat) := ops.toList.map fun o => (o.after.toList.filter fun e => Region.binds .any e).map (·.on)
def absM (r : Bool) (n : Nat) (tt : Bool) : Code → VC
  | .skip => .skip
  | .region _ ops d => if ops.toList.all (okOper n ops) then
      (if d then (if Region.lexB .any ops then (if r then .drawR (ops.toList.map (strip ops)) (if okN ops then 1 + lastN ops else 0) else if okN ops && tt && okT ops (mOf ops) (ops.size - lastN ops) then .drawT (ops.toList.map (strip ops)) (1 + lastN ops) (mOf ops) (ops.size - lastN ops) (lateT ops (mOf ops) (ops.size - lastN ops)) else if okN ops && okS ops (ops.size - (1 + lastN ops)) then .drawS (ops.toList.map (strip ops)) (1 + lastN ops) (lateS ops (ops.size - (1 + lastN ops))) else if okN ops && tt then .drawA (ops.toList.map (strip ops)) (1 + lastN ops) (depsOf ops) else .draw (ops.toList.map (strip ops)) (if okN ops then 1 + lastN ops else 0)) else .refuse) else .region (ops.toList.map (strip ops)))
    else .refuse
  | .seq a b => .seq (absM r n tt a) (absM r n tt b)
  | .cond c a b => .cond c (absM r n tt a) (absM r n tt b)
  | .block id c => .block id (absM r n tt c)
  | .loop c => .loop (absM r n tt c)
  | .exit id => .exit id
  | .ret => .ret
  | .rangeFunc g ps a c => if ps.toList.all (fun d => decide (d < n)) && !r then .rangeFunc g ps.toList (absM true n tt a) (absM true n tt c) else .refuse
  | _ => .refuse
abbrev abs (n : Nat) (c : Code) : VC := absM false n false c
abbrev absT (n : Nat) (c : Code) : VC := absM false n true c
def Ret (P : Program) (f : FuncId) (args : Array Value) (w : World) (R : Value → World → Prop) : Prop :=
  Calls P f args w fun e w' => ∃ v, e = .returned v ∧ R v w'
def val (s : Sem Value) : Sem Next := do pure (Next.value (← s))
def unt (s : Sem Unit) : Sem Next := do s; pure Next.skip
def vcUp (P : Program) (K : Value → World → Prop) : Result Next → Prop
  | .ok (.value v) w => K v w
  | .ok .skip w => K undef w
  | .ok (.enter f args) w => Ret P f args w K
  | .ok (.round l f tmps assign body) w => RoundIn Fence.wide 0 P l f tmps assign body w fun e w' => ∃ v, e = .returned v ∧ K v w'
  | _ => False
def FnC (P : Program) (f : FuncId) (args : Array Value) (w : World) (R : Value → World → Prop) : Prop :=
  vcUp P R ((callFunc f args).run P w)
def exe (P : Program) (op : Op) (ty : TypeId) (σ : Env) (w : World) : Result Next :=
  (execOp (ev σ) { dst := none, op, type := ty, pos := "", after := #[], guard := none }).run P w
def YldC (P : Program) (l : Nat) (args : Array Value) (w : World) (K : Value → World → Prop) : Prop := vcUp P K ((Instr.yield l args).run P w)
def vX (P : Program) (op : Op) (ty : TypeId) (σ : Env) (w : World) (K : Value → World → Prop) : Prop := vcUp P K (exe P op ty σ w)
/-! ### The forms of the operations -/
def vPick (c a b : Value) (K : Value → World → Prop) (w : World) : Prop := match c with
  | .bool t => if t = true then K a w else K b w
  | _ => False
def bitI (op : BinOp) (k : IntKind) (a b : Int) : Int := k.wrap (match op with
  | .and => BitVec.ofInt k.bits a &&& BitVec.ofInt k.bits b
  | .or => BitVec.ofInt k.bits a ||| BitVec.ofInt k.bits b
  | .xor => BitVec.ofInt k.bits a ^^^ BitVec.ofInt k.bits b
  | _ => BitVec.ofInt k.bits a &&& ~~~(BitVec.ofInt k.bits b) : BitVec k.bits).toNat
def iBin (op : BinOp) (k : IntKind) (a b : Int) (K : Value → World → Prop) (w : World) : Prop := match op with
  | .add => K (.int k (k.wrap (a + b))) w
  | .sub => K (.int k (k.wrap (a - b))) w
  | .mul => K (.int k (k.wrap (a * b))) w
  | .quo => ¬ b = 0 ∧ K (.int k (k.wrap (a.tdiv b))) w
  | .rem => ¬ b = 0 ∧ K (.int k (a.tmod b)) w
  | .and => K (.int k (bitI .and k a b)) w
  | .or => K (.int k (bitI .or k a b)) w
  | .xor => K (.int k (bitI .xor k a b)) w
  | .andNot => K (.int k (bitI .andNot k a b)) w
  | .eql => K (.bool (decide (a = b))) w
  | .neq => K (.bool (!decide (a = b))) w
  | .lss => K (.bool (decide (a < b))) w
  | .leq => K (.bool (decide (a ≤ b))) w
  | .gtr => K (.bool (decide (b < a))) w
  | .geq => K (.bool (decide (b ≤ a))) w
  | _ => False
def sBin (op : BinOp) (a b : ByteArray) (K : Value → World → Prop) (w : World) : Prop := match op with
  | .add => a.size + b.size ≤ 9223372036854775807 ∧ K (.string (a ++ b)) w
  | .eql => K (.bool (decide (a = b))) w
  | .neq => K (.bool (!decide (a = b))) w
  | .lss => K (.bool (Op.bytesLess a.data.toList b.data.toList)) w
  | .leq => K (.bool (Op.bytesLess a.data.toList b.data.toList || decide (a = b))) w
  | .gtr => K (.bool (!(Op.bytesLess a.data.toList b.data.toList || decide (a = b)))) w
  | .geq => K (.bool (!Op.bytesLess a.data.toList b.data.toList)) w
  | _ => False
def eqKind : Option TypeDesc → Nat
  | some (.pointer _) => 1
  | some (.slice _) => 2
  | some (.map _ _) => 3
  | some .bool => 4
  | _ => 0
def vBin (P : Program) (op : BinOp) (t : TypeId) (x y : Operand) (a b : Value) (K : Value → World → Prop) (w : World) : Prop :=
  match op, a, b with
  | .shl, .int k m, .int _ n => 0 ≤ n ∧ K (.int k (k.wrap (m * 2 ^ (min n.toNat k.bits)))) w
  | .shr, .int k m, .int _ n => 0 ≤ n ∧ K (.int k (m.fdiv (2 ^ (min n.toNat k.bits)))) w
  | op, .int k m, .int k' n => k = k' ∧ iBin op k m n K w
  | op, .string m, .string n => sBin op m n K w
  | .eql, .pointer a, .pointer none => eqKind (P.underlying t) = 1 ∧ K (.bool a.isNone) w
  | .neq, .pointer a, .pointer none => eqKind (P.underlying t) = 1 ∧ K (.bool (!a.isNone)) w
  | .eql, .slice a _ _, .slice none _ _ => eqKind (P.underlying t) = 2 ∧ K (.bool a.isNone) w
  | .neq, .slice a _ _, .slice none _ _ => eqKind (P.underlying t) = 2 ∧ K (.bool (!a.isNone)) w
  | .eql, .map a, .map none => eqKind (P.underlying t) = 3 ∧ K (.bool a.isNone) w
  | .eql, .bool a, .bool b => eqKind (P.underlying t) = 4 ∧ K (.bool (decide (a = b))) w
  | .neq, .bool a, .bool b => eqKind (P.underlying t) = 4 ∧ K (.bool (!decide (a = b))) w
  | op, a, b => vcUp P K ((val (do eqGuard op t x y a b; binOp op t a b)).run P w)
def vUn (P : Program) (op : UnOp) (a : Value) (K : Value → World → Prop) (w : World) : Prop :=
  match op, a with
  | .neg, .int k n => K (.int k (k.wrap (0 - n))) w
  | .xor, .int k n => K (.int k (bitI .xor k (if k.signed then -1 else k.max) n)) w
  | .not, .bool b => K (.bool (!b)) w
  | op, a => vcUp P K ((val (Op.unary op a)).run P w)
def vConvD (P : Program) (s d : TypeId) (us ud : Option TypeDesc) (a : Value) (K : Value → World → Prop) (w : World) : Prop :=
  match us, ud, a with
  | some _, some (.int k), .int _ n => K (.int k (k.wrap n)) w
  | some _, some .string, .string s => K (.string s) w
  | _, _, a => vcUp P K ((val (convert s d a)).run P w)
def vConv (P : Program) (s d : TypeId) (a : Value) (K : Value → World → Prop) (w : World) : Prop := vConvD P s d (P.underlying s) (P.underlying d) a K w
def szOf (P : Program) (t : TypeId) : Option Nat := (P.info? t).map (·.size)
def oneD : Option TypeDesc → Bool
  | some (.struct _) => false
  | some (.array _ _) => false
  | some _ => true
  | none => false
def cellsAt (w : World) (a : Addr) : Nat → Option (List Value)
  | 0 => some []
  | n + 1 => match w.cell? a with
    | some v => match cellsAt w (a.add 1) n with
      | some l => some (v :: l)
      | none => none
    | none => none
def aggD (P : Program) (t : TypeId) : Option TypeDesc → Option Nat
  | some (.struct _) => szOf P t
  | some (.array _ _) => szOf P t
  | _ => none
def vLoadA (P : Program) (t : TypeId) (n : Option Nat) (a : Value) (K : Value → World → Prop) (w : World) : Prop :=
  match n, a with
  | some n, .pointer (some a) => ∃ cs, cellsAt w a n = some cs ∧ K (.agg cs.toArray) w
  | _, a => vcUp P K ((val (Instr.loadAt t a)).run P w)
def vLoadD (P : Program) (t : TypeId) (one : Bool) (a : Value) (K : Value → World → Prop) (w : World) : Prop :=
  match one, a with
  | true, .pointer (some a) => ∃ v, w.cell? a = some v ∧ K v w
  | _, a => vLoadA P t (aggD P t (P.underlying t)) a K w
def vLoad (P : Program) (t : TypeId) (a : Value) (K : Value → World → Prop) (w : World) : Prop := vLoadD P t (oneD (P.underlying t)) a K w
def vAlloc (P : Program) (t : TypeId) (K : Value → World → Prop) (w : World) : Prop :=
  match P.info? t with
  | some i => match i.zero with
    | some z => K (.pointer (some ⟨w.heap.size, 0, none⟩)) (w.alloc (.cells z.cells t))
    | none => False
  | none => False
def vAt (s : Option Nat) (a : Addr) (i : Int) (n : Nat) (K : Value → World → Prop) (w : World) : Prop := match s with
  | some s => (0 ≤ i ∧ i < n) ∧ K (.pointer (some (a.add (i.toNat * s)))) w
  | none => False
def vIndexAddrD (P : Program) (t : TypeId) (u : Option TypeDesc) (x i : Value) (K : Value → World → Prop) (w : World) : Prop :=
  match u, x, i with
  | some (.slice e), .slice (some a) n _, .int _ i => vAt (szOf P e) a i n K w
  | some (.array n e), .pointer (some a), .int _ i => vAt (szOf P e) a i n K w
  | _, x, i => vcUp P K ((val (Instr.indexAt t x i)).run P w)
def vIndexAddr (P : Program) (t : TypeId) (x i : Value) (K : Value → World → Prop) (w : World) : Prop := vIndexAddrD P t (P.underlying t) x i K w
def fieldOf (P : Program) (s : TypeId) (f : Nat) : Option (Nat × TypeId) := match P.underlying s with
  | some (.struct fs) => (fs[f]?).map fun x => (x.offset, x.type)
  | _ => none
def vFldZ (s : Option Nat) (a : Addr) (K : Value → World → Prop) (w : World) : Prop := match s with
  | some s => 0 < s ∧ K (.pointer (some a)) w
  | none => False
def vFieldAddrD (P : Program) (f : Option (Nat × TypeId)) (x : Value) (K : Value → World → Prop) (w : World) : Prop :=
  match f, x with
  | some (off, t), .pointer (some a) => vFldZ (szOf P t) (a.add off) K w
  | _, _ => False
def vFieldAddr (P : Program) (s : TypeId) (x : Value) (f : Nat) (K : Value → World → Prop) (w : World) : Prop := vFieldAddrD P (fieldOf P s f) x K w
def vExtract (x : Value) (i : Nat) (K : Value → World → Prop) (w : World) : Prop := match x with
  | .tuple vs => match vs[i]? with
    | some v => K v w
    | none => False
  | _ => False
def vNilV (P : Program) (x : Operand) (ty : TypeId) (σ : Env) (v : Value) (K : Value → World → Prop) (w : World) : Prop := match v with
  | .pointer (some a) => K (.pointer (some a)) w
  | _ => vX P (.nilCheck x) ty σ w K
def vNil (P : Program) (x : Operand) (ty : TypeId) (σ : Env) (K : Value → World → Prop) (w : World) : Prop := vNilV P x ty σ (ev σ x) K w
def vLen (d : Option TypeDesc) (x : Value) (K : Value → World → Prop) (w : World) : Prop := match d, x with
  | some .string, .string s => K (.int .i64 s.size) w
  | some (.slice _), .slice _ n _ => K (.int .i64 n) w
  | some (.map _ _), .map (some r) => ∃ es c, w.heap[r]? = some (.map es c) ∧ K (.int .i64 es.size) w
  | _, _ => False
def vCap (d : Option TypeDesc) (x : Value) (K : Value → World → Prop) (w : World) : Prop := match d, x with
  | some (.slice _), .slice _ _ n => K (.int .i64 n) w
  | _, _ => False
def vMin (xs : List Value) (K : Value → World → Prop) (w : World) : Prop := match xs with
  | [.int k a, .int _ b] => K (.int k (min a b)) w
  | [.int k a, .int _ b, .int _ c] => K (.int k (min (min a b) c)) w
  | [.int k a, .int _ b, .int _ c, .int _ d] => K (.int k (min (min (min a b) c) d)) w
  | _ => False
def vMax (xs : List Value) (K : Value → World → Prop) (w : World) : Prop := match xs with
  | [.int k a, .int _ b] => K (.int k (max a b)) w
  | [.int k a, .int _ b, .int _ c] => K (.int k (max (max a b) c)) w
  | [.int k a, .int _ b, .int _ c, .int _ d] => K (.int k (max (max (max a b) c) d)) w
  | _ => False
def vCallV (P : Program) (f : Value) (args : Array Value) (K : Value → World → Prop) (w : World) (G : Prop) : Prop := match f with
  | .func (.func g) first captured => FnC P g (first ++ args ++ captured) w K
  | .func (.yield l) first _ => YldC P l (first ++ args) w K
  | _ => G
def vAppend (P : Program) (tys : Array TypeId) (ty : TypeId) (args : Array Value) (K : Value → World → Prop) (w : World) : Prop :=
  vcUp P K ((val (Builtin.append_ tys ty args)).run P w)
def vCopy (P : Program) (tys : Array TypeId) (ty : TypeId) (args : Array Value) (K : Value → World → Prop) (w : World) : Prop :=
  vcUp P K ((val (Builtin.copy_ tys ty args)).run P w)
def vBi (P : Program) (b : Builtin) (ts : List TypeId) (as : List Value) (K : Value → World → Prop) (w : World) : Prop := match b, ts, as with
  | .len, t :: _, x :: _ => vLen (P.underlying t) x K w
  | .cap, t :: _, x :: _ => vCap (P.underlying t) x K w
  | .min, _, xs => vMin xs K w
  | .max, _, xs => vMax xs K w
  | _, _, _ => False
def biLooks : Builtin → Bool
  | .len => true
  | .cap => true
  | .min => true
  | .max => true
  | _ => false
def vCall (P : Program) (c : Call) (ty : TypeId) (σ : Env) (K : Value → World → Prop) (w : World) : Prop :=
  match c.callee with
  | .value f => vCallV P (ev σ f) (c.args.map (ev σ)) K w (vX P (.call c) ty σ w K)
  | .builtin .append => vAppend P c.argTypes ty (c.args.map (ev σ)) K w
  | .builtin .copy => vCopy P c.argTypes ty (c.args.map (ev σ)) K w
  | .builtin b => if biLooks b = true then vBi P b c.argTypes.toList (c.args.map (ev σ)).toList K w else vX P (.call c) ty σ w K
  | _ => vX P (.call c) ty σ w K
def canAll (w : World) (a : Addr) : List Value → Prop
  | [] => True
  | _ :: vs => (∃ x, w.cell? a = some x) ∧ w.frozen? a = false ∧ canAll w (a.add 1) vs
def storeAll (w : World) (a : Addr) : List Value → World
  | [] => w
  | v :: vs => storeAll (w.setCell a v) (a.add 1) vs
def vStoreD (P : Program) (t : TypeId) (s : Option Nat) (a x : Value) (K : Value → World → Prop) (w : World) : Prop := match s, a with
  | some s, .pointer (some a) => x.cells.size = s ∧ (∀ u ∈ x.cells.toList, u.oneCell' = true) ∧ canAll w a x.cells.toList ∧ K undef (storeAll w a x.cells.toList)
  | _, a => vcUp P K ((unt (Instr.storeAt t a x)).run P w)
def vStore (P : Program) (t : TypeId) (a x : Value) (K : Value → World → Prop) (w : World) : Prop := vStoreD P t (szOf P t) a x K w
def intO (d : Int) : Option Value → Option Int
  | none => some d
  | some (.int _ n) => some n
  | _ => none
def slAddr (a : Option Addr) (l m : Int) (s : Nat) : Option Addr := if m = l then a else a.map (·.add (l.toNat * s))
def vSl (s : Option Nat) (a : Option Addr) (lo hi mx : Option Int) (bad : Bool) (c : Nat) (K : Value → World → Prop) (w : World) : Prop := match s, lo, hi, mx, bad with
  | some s, some l, some h, some m, false => (0 ≤ l ∧ l ≤ h ∧ h ≤ m ∧ m ≤ c) ∧
      K (.slice (slAddr a l m s) (h - l).toNat (m - l).toNat) w
  | _, _, _, _, _ => False
def vSub (s : ByteArray) (lo hi : Option Int) (bad : Bool) (K : Value → World → Prop) (w : World) : Prop := match lo, hi, bad with
  | some l, some h, false => (0 ≤ l ∧ l ≤ h ∧ h ≤ s.size) ∧ K (.string (s.extract l.toNat h.toNat)) w
  | _, _, _ => False
def vSliceD (P : Program) (t : TypeId) (u : Option TypeDesc) (x : Value) (lo hi mx : Option Value) (K : Value → World → Prop) (w : World) : Prop :=
  match u, x with
  | some (.slice e), .slice a n c =>
    vSl (szOf P e) a (intO 0 lo) (intO n hi) (intO c mx) (hi.isNone && mx.isSome) c K w
  | some .string, .string s => vSub s (intO 0 lo) (intO s.size hi) mx.isSome K w
  | _, x => vcUp P K ((val (Instr.sliceAt t x lo hi mx)).run P w)
def vSlice (P : Program) (t : TypeId) (x : Value) (lo hi mx : Option Value) (K : Value → World → Prop) (w : World) : Prop := vSliceD P t (P.underlying t) x lo hi mx K w
def vPart (one : Bool) (n : Option Nat) (cs : Array Value) (off : Nat) (K : Value → World → Prop) (w : World) : Prop := match one, n with
  | true, _ => (match cs[off]? with
    | some v => K v w
    | none => False)
  | false, some n => K (.agg (cs.extract off (off + n))) w
  | false, none => False
def vIndexD (P : Program) (t : TypeId) (u : Option TypeDesc) (x i : Value) (K : Value → World → Prop) (w : World) : Prop := match u, x, i with
  | some (.array n e), .agg cs, .int _ j => (0 ≤ j ∧ j < n) ∧ (match szOf P e with
    | some s => vPart (oneD (P.underlying e)) (aggD P e (P.underlying e)) cs (j.toNat * s) K w
    | none => False)
  | some .string, .string s, .int _ j => 0 ≤ j ∧ ∃ b, s[j.toNat]? = some b ∧ K (.int .u8 b.toNat) w
  | _, x, i => vcUp P K ((val (Instr.index t x i)).run P w)
def vIndex (P : Program) (t : TypeId) (x i : Value) (K : Value → World → Prop) (w : World) : Prop := vIndexD P t (P.underlying t) x i K w
def vFieldD (P : Program) (t : TypeId) (f : Option (Nat × TypeId)) (x : Value) (i : Nat) (K : Value → World → Prop) (w : World) : Prop := match f, x with
  | some (off, ft), .agg cs => vPart (oneD (P.underlying ft)) (aggD P ft (P.underlying ft)) cs off K w
  | _, x => vcUp P K ((val (Instr.field t x i)).run P w)
def vField (P : Program) (t : TypeId) (x : Value) (f : Nat) (K : Value → World → Prop) (w : World) : Prop := vFieldD P t (fieldOf P t f) x f K w
def vBuild (P : Program) (t : TypeId) (ps : Array (Nat × Value)) (K : Value → World → Prop) (w : World) : Prop :=
  vcUp P K ((val (Instr.build t ps)).run P w)
def vBuildSlice (P : Program) (t : TypeId) (n : Nat) (ps : Array (Nat × Value)) (K : Value → World → Prop) (w : World) : Prop :=
  vcUp P K ((val (Instr.buildSlice t n ps)).run P w)
def vMakeSlice (P : Program) (t : TypeId) (l c : Value) (K : Value → World → Prop) (w : World) : Prop :=
  vcUp P K ((val (Instr.makeSlice t l c)).run P w)
def vcOp (P : Program) (op : Op) (ty : TypeId) (σ : Env) (w : World) (K : Value → World → Prop) : Prop :=
  match op with
  | .move x => K (ev σ x) w
  | .assign x => K (ev σ x) w
  | .pick c a b => vPick (ev σ c) (ev σ a) (ev σ b) K w
  | .binOp op t x y _ => vBin P op t x y (ev σ x) (ev σ y) K w
  | .unOp op _ x => vUn P op (ev σ x) K w
  | .convert s d x => vConv P s d (ev σ x) K w
  | .load t x => vLoad P t (ev σ x) K w
  | .store t a x => vStore P t (ev σ a) (ev σ x) K w
  | .alloc t => vAlloc P t K w
  | .box t x => K (.pointer (some ⟨w.heap.size, 0, none⟩)) (w.alloc (.cells (ev σ x).cells t))
  | .fieldAddr s x f => vFieldAddr P s (ev σ x) f K w
  | .field s x f => vField P s (ev σ x) f K w
  | .indexAddr t x i => vIndexAddr P t (ev σ x) (ev σ i) K w
  | .index t x i => vIndex P t (ev σ x) (ev σ i) K w
  | .slice t x lo hi mx => vSlice P t (ev σ x) (lo.map (ev σ)) (hi.map (ev σ)) (mx.map (ev σ)) K w
  | .build t ps => vBuild P t (ps.map fun (i, x) => (i, ev σ x)) K w
  | .buildSlice t n ps => vBuildSlice P t n (ps.map fun (i, x) => (i, ev σ x)) K w
  | .makeSlice t l c => vMakeSlice P t (ev σ l) (ev σ c) K w
  | .makeFunc fn first captured => K (.func fn (first.map (ev σ)) (captured.map (ev σ))) w
  | .extract x i => vExtract (ev σ x) i K w
  | .nilCheck x => vNil P x ty σ K w
  | .call c => vCall P c ty σ K w
  | op => vX P op ty σ w K
def vGd (g : Option (Nat × Bool)) (σ : Env) (A B : Prop) : Prop := match g with
  | none => A
  | some (s, want) => match σ s with
    | .bool b => if b = want then A else B
    | _ => B
def vcOps (P : Program) : List VOp → (Env → World → Prop) → Env → World → Prop
  | [], K, σ, w => K σ w
  | o :: rest, K, σ, w => vGd o.guard σ (vcOp P o.op o.type σ w fun v w' => vcOps P rest K (put σ o.dst v) w') (vcOps P rest K (put σ o.dst undef) w)
/-! ### Regions that draw their order: each operation has one value in every later world -/
def Later (w : World) (w' : World) : Prop := Below w.heap.size w w'
def qUp (P : Program) (w : World) (v : Value) : Result Next → Prop
  | .ok (.value u) w' => w' = w ∧ u = v
  | .ok .skip w' => w' = w ∧ v = undef
  | .ok (.enter f args) w' => w' = w ∧ Calls P f args w fun e w'' => e = .returned v ∧ Later w w''
  | _ => False
def qX (P : Program) (op : Op) (ty : TypeId) (σ : Env) (w : World) (K : Value → Prop) : Prop :=
  ∃ v, (∀ w', Later w w' → qUp P w' v (exe P op ty σ w')) ∧ K v
def QFn (P : Program) (f : FuncId) (args : Array Value) (w : World) (K : Value → Prop) : Prop :=
  ∃ v, (∀ w', Later w w' → qUp P w' v ((callFunc f args).run P w')) ∧ K v
def qCallV (P : Program) (c : Call) (ty : TypeId) (σ : Env) (f : Value) (w : World) (K : Value → Prop) : Prop := match f with
  | .func (.func g) first captured => QFn P g (first ++ c.args.map (ev σ) ++ captured) w K
  | _ => qX P (.call c) ty σ w K
def qCall (P : Program) (c : Call) (ty : TypeId) (σ : Env) (w : World) (K : Value → Prop) : Prop :=
  match c.callee with
  | .value f => qCallV P c ty σ (ev σ f) w K
  | .builtin b => if biLooks b = true then vBi P b c.argTypes.toList (c.args.map (ev σ)).toList (fun v _ => K v) w else qX P (.call c) ty σ w K
  | _ => qX P (.call c) ty σ w K
def qNilB (op : BinOp) (k k' : Nat) (b : Bool) (K : Value → Prop) : Prop := match op with
  | .eql => k = k' ∧ K (.bool b)
  | .neq => k = k' ∧ K (.bool (!b))
  | _ => False
def qBinB (P : Program) (op : BinOp) (t : TypeId) (x y : Operand) (ty' ty : TypeId) (σ : Env) (a b : Value) (K : Value → Prop) (w : World) : Prop := match a, b with
  | .bool m, .bool n => qNilB op (eqKind (P.underlying t)) 4 (decide (m = n)) K
  | _, _ => qX P (.binOp op t x y ty') ty σ w K
def qBin (P : Program) (op : BinOp) (t : TypeId) (x y : Operand) (ty' ty : TypeId) (σ : Env) (a b : Value) (K : Value → Prop) (w : World) : Prop := match a, b with
  | .int k m, .int k' n => vBin P op t x y (.int k m) (.int k' n) (fun v _ => K v) w
  | .string m, .string n => vBin P op t x y (.string m) (.string n) (fun v _ => K v) w
  | .pointer m, .pointer none => qNilB op (eqKind (P.underlying t)) 1 m.isNone K
  | .slice m _ _, .slice none _ _ => qNilB op (eqKind (P.underlying t)) 2 m.isNone K
  | a, b => qBinB P op t x y ty' ty σ a b K w
def qUn (P : Program) (op : UnOp) (t : TypeId) (x : Operand) (ty : TypeId) (σ : Env) (a : Value) (K : Value → Prop) (w : World) : Prop := match op, a with
  | .not, .bool b => K (.bool (!b))
  | .neg, .int k n => K (.int k (k.wrap (0 - n)))
  | .xor, .int k n => K (.int k (bitI .xor k (if k.signed then -1 else k.max) n))
  | _, _ => qX P (.unOp op t x) ty σ w K
def qConv (P : Program) (s d : TypeId) (x : Operand) (ty : TypeId) (σ : Env) (us ud : Option TypeDesc) (a : Value) (K : Value → Prop) (w : World) : Prop := match us, ud, a with
  | some _, some (.int k), .int _ n => K (.int k (k.wrap n))
  | some _, some .string, .string s => K (.string s)
  | _, _, _ => qX P (.convert s d x) ty σ w K
def qLoadA (P : Program) (t : TypeId) (x : Operand) (ty : TypeId) (σ : Env) (n : Option Nat) (a : Value) (K : Value → Prop) (w : World) : Prop := match n, a with
  | some n, .pointer (some a) => ∃ cs, cellsAt w a n = some cs ∧ K (.agg cs.toArray)
  | _, _ => qX P (.load t x) ty σ w K
def qIndex (P : Program) (t : TypeId) (x i : Operand) (ty : TypeId) (σ : Env) (u : Option TypeDesc) (a b : Value) (K : Value → Prop) (w : World) : Prop := match u, a, b with
  | some (.array n e), .agg cs, .int k j => vIndexD P t (some (.array n e)) (.agg cs) (.int k j) (fun v _ => K v) w
  | some .string, .string s, .int k j => vIndexD P t (some .string) (.string s) (.int k j) (fun v _ => K v) w
  | _, _, _ => qX P (.index t x i) ty σ w K
def qField (P : Program) (t : TypeId) (x : Operand) (f : Nat) (ty : TypeId) (σ : Env) (fo : Option (Nat × TypeId)) (a : Value) (K : Value → Prop) (w : World) : Prop := match fo, a with
  | some (off, ft), .agg cs => vFieldD P t (some (off, ft)) (.agg cs) f (fun v _ => K v) w
  | _, _ => qX P (.field t x f) ty σ w K
def qLoad (P : Program) (t : TypeId) (x : Operand) (ty : TypeId) (σ : Env) (one : Bool) (a : Value) (K : Value → Prop) (w : World) : Prop := match one, a with
  | true, .pointer (some a) => ∃ v, w.cell? a = some v ∧ K v
  | _, a => qLoadA P t x ty σ (aggD P t (P.underlying t)) a K w
def qIndexAddr (P : Program) (t : TypeId) (x i : Operand) (ty : TypeId) (σ : Env) (u : Option TypeDesc) (a b : Value) (K : Value → Prop) (w : World) : Prop := match u, a, b with
  | some (.slice e), .slice (some a) n _, .int _ i => vAt (szOf P e) a i n (fun v _ => K v) w
  | some (.array n e), .pointer (some a), .int _ i => vAt (szOf P e) a i n (fun v _ => K v) w
  | _, _, _ => qX P (.indexAddr t x i) ty σ w K
def qSlice (P : Program) (t : TypeId) (x : Operand) (lo hi mx : Option Operand) (ty : TypeId) (σ : Env) (u : Option TypeDesc) (a : Value) (K : Value → Prop) (w : World) : Prop := match u, a with
  | some (.slice e), .slice a n c => vSl (szOf P e) a (intO 0 (lo.map (ev σ))) (intO n (hi.map (ev σ))) (intO c (mx.map (ev σ))) ((hi.map (ev σ)).isNone && (mx.map (ev σ)).isSome) c (fun v _ => K v) w
  | some .string, .string s => vSub s (intO 0 (lo.map (ev σ))) (intO s.size (hi.map (ev σ))) (mx.map (ev σ)).isSome (fun v _ => K v) w
  | _, _ => qX P (.slice t x lo hi mx) ty σ w K
def qNil (P : Program) (x : Operand) (ty : TypeId) (σ : Env) (v : Value) (K : Value → Prop) (w : World) : Prop := match v with
  | .pointer (some a) => K (.pointer (some a))
  | _ => qX P (.nilCheck x) ty σ w K
def qOp (P : Program) (op : Op) (ty : TypeId) (σ : Env) (w : World) (K : Value → Prop) : Prop :=
  match op with
  | .move x => K (ev σ x)
  | .assign x => K (ev σ x)
  | .pick c a b => vPick (ev σ c) (ev σ a) (ev σ b) (fun v _ => K v) w
  | .binOp op t x y ty' => qBin P op t x y ty' ty σ (ev σ x) (ev σ y) K w
  | .unOp op t x => qUn P op t x ty σ (ev σ x) K w
  | .convert s d x => qConv P s d x ty σ (P.underlying s) (P.underlying d) (ev σ x) K w
  | .load t x => qLoad P t x ty σ (oneD (P.underlying t)) (ev σ x) K w
  | .fieldAddr s x f => vFieldAddr P s (ev σ x) f (fun v _ => K v) w
  | .indexAddr t x i => qIndexAddr P t x i ty σ (P.underlying t) (ev σ x) (ev σ i) K w
  | .index t x i => qIndex P t x i ty σ (P.underlying t) (ev σ x) (ev σ i) K w
  | .field s x f => qField P s x f ty σ (fieldOf P s f) (ev σ x) K w
  | .slice t x lo hi mx => qSlice P t x lo hi mx ty σ (P.underlying t) (ev σ x) K w
  | .makeFunc fn first captured => K (.func fn (first.map (ev σ)) (captured.map (ev σ)))
  | .extract x i => vExtract (ev σ x) i (fun v _ => K v) w
  | .nilCheck x => qNil P x ty σ (ev σ x) K w
  | .call c => qCall P c ty σ w K
  | op => qX P op ty σ w K
def qOps (P : Program) : List VOp → (Env → Prop) → Env → World → Prop
  | [], K, σ, _ => K σ
  | o :: rest, K, σ, w => vGd o.guard σ (qOp P o.op o.type σ w fun v => qOps P rest K (put σ o.dst v) w) (qOps P rest K (put σ o.dst undef) w)
/-! ### The same, where a call's value hangs on the world: what holds of it stands in its place -/
def opReads (op : Op) : List Nat := op.operands.toList.filterMap fun | .tmp t => some t | _ => none
def vReads (o : VOp) : List Nat := opReads o.op ++ (match o.guard with
  | some (s, _) => [s]
  | none => [])
abbrev NS := List (Nat × (Value → World → Prop))
def memN (t : Nat) : NS → Bool
  | [] => false
  | p :: Ns => if p.1 = t then true else memN t Ns
def hits : List Nat → NS → Bool
  | [], _ => false
  | t :: ts, Ns => if memN t Ns = true then true else hits ts Ns
def findN (t : Nat) : NS → Option (Value → World → Prop)
  | [] => none
  | p :: Ns => if p.1 = t then some p.2 else findN t Ns
def psi (Ns : NS) (σ : Env) (t : Nat) (v : Value) (w : World) : Prop := match findN t Ns with
  | some V => V v w
  | none => v = σ t
def psis (Ns : NS) (σ : Env) (w : World) (σ' : Env) : List Nat → Prop
  | [] => True
  | t :: ts => psi Ns σ t (σ' t) w ∧ psis Ns σ w σ' ts
def Stb (w0 : World) (V : Value → World → Prop) : Prop := ∀ v w w', Later w0 w → Later w w' → V v w → V v w'
def nUp (P : Program) (w : World) (R : Value → World → Prop) : Result Next → Prop
  | .ok (.value v) w' => Later w w' ∧ R v w'
  | .ok .skip w' => Later w w' ∧ R undef w'
  | .ok (.enter f args) w' => w' = w ∧ Calls P f args w fun e w'' => ∃ v, e = .returned v ∧ Later w w'' ∧ R v w''
  | _ => False
def nR (P : Program) (op : Op) (ty : TypeId) (rs : List Nat) (Ns : NS) (σ : Env) (w : World) (Kv : Value → Prop) (Kn : (Value → World → Prop) → Prop) : Prop :=
  (∃ v, (∀ σ' w', Later w w' → psis Ns σ w' σ' rs → nUp P w' (fun u _ => u = v) (exe P op ty σ' w')) ∧ Kv v) ∨
  (∃ V, Stb w V ∧ (∀ σ' w', Later w w' → psis Ns σ w' σ' rs → nUp P w' V (exe P op ty σ' w')) ∧ Kn V)
def NFn (P : Program) (f : FuncId) (args : Array Value) (w : World) (Kv : Value → Prop) (Kn : (Value → World → Prop) → Prop) : Prop :=
  QFn P f args w Kv ∨ ∃ V, Stb w V ∧ (∀ w', Later w w' → nUp P w' V ((callFunc f args).run P w')) ∧ Kn V
def nCallV (P : Program) (c : Call) (ty : TypeId) (σ : Env) (f : Value) (w : World) (Kv : Value → Prop) (Kn : (Value → World → Prop) → Prop) : Prop := match f with
  | .func (.func g) first captured => NFn P g (first ++ c.args.map (ev σ) ++ captured) w Kv Kn
  | _ => False
def nCall (P : Program) (c : Call) (ty : TypeId) (σ : Env) (w : World) (Kv : Value → Prop) (Kn : (Value → World → Prop) → Prop) : Prop :=
  match c.callee with
  | .value f => nCallV P c ty σ (ev σ f) w Kv Kn
  | _ => qOp P (.call c) ty σ w Kv
def nXV (P : Program) (op : Op) (ty : TypeId) (σ : Env) (w : World) (Kn : (Value → World → Prop) → Prop) : Prop :=
  ∃ V, Stb w V ∧ (∀ w', Later w w' → nUp P w' V (exe P op ty σ w')) ∧ Kn V
def nPlain (P : Program) (op : Op) (ty : TypeId) (σ : Env) (w : World) (Kv : Value → Prop) (Kn : (Value → World → Prop) → Prop) : Prop := match op with
  | .call c => nCall P c ty σ w Kv Kn
  | .buildSlice t n ps => nXV P (.buildSlice t n ps) ty σ w Kn
  | .alloc t => nXV P (.alloc t) ty σ w Kn
  | op => qOp P op ty σ w Kv
def nPick (P : Program) (op : Op) (ty : TypeId) (hit : Bool) (rs : List Nat) (Ns : NS) (σ : Env) (w : World) (Kv : Value → Prop) (Kn : (Value → World → Prop) → Prop) : Prop := match hit with
  | true => nR P op ty rs Ns σ w Kv Kn
  | false => nPlain P op ty σ w Kv Kn
def consN (d : Option Nat) (V : Value → World → Prop) (Ns : NS) : NS := match d with
  | some d => (d, V) :: Ns
  | none => Ns
def nGd (g : Option (Nat × Bool)) (Ns : NS) : Bool := match g with
  | none => false
  | some (s, _) => memN s Ns
def nOps (P : Program) : List (VOp × List Nat) → NS → (NS → Env → Prop) → Env → World → Prop
  | [], Ns, K, σ, _ => K Ns σ
  | o :: rest, Ns, K, σ, w => nGd o.1.guard Ns = false ∧ vGd o.1.guard σ
      (nPick P o.1.op o.1.type (hits o.2 Ns) o.2 Ns σ w (fun v => nOps P rest Ns K (put σ o.1.dst v) w) (fun V => nOps P rest (consN o.1.dst V Ns) K (put σ o.1.dst undef) w))
      (nOps P rest Ns K (put σ o.1.dst undef) w)
def nEnd : NS → (Env → World → Prop) → Env → World → Prop
  | [], K, σ, w => K σ w
  | p :: Ns, K, σ, w => ∀ x, p.2 x w → nEnd Ns K (upd σ p.1 x) w
def pureAt (P : Program) (o : VOp) (σ : Env) : Prop := ∀ w, vcOp P o.op o.type σ w (fun v w' => (∀ d, o.dst = some d → v = σ d) ∧ w' = w)
def lateAt (P : Program) (o : VOp) (σ : Env) (w : World) : Prop := vcOp P o.op o.type σ w (fun v w' => (∀ d, o.dst = some d → v = σ d) ∧ w' = w)
def pureIf (b : Bool) (p : Prop) : Prop := if b = true then p else True
def memL (d : Nat) : List Nat → Bool
  | [] => false
  | e :: l => if d = e then true else memL d l
def latO (ls : List Nat) (o : VOp) : Bool := match o.dst with
  | some d => memL d ls
  | none => true
def pures (P : Program) (σ : Env) (ls : List Nat) : List (VOp × List Nat) → Prop
  | [] => True
  | o :: r => pureIf (isPO o.1.guard.isNone o.1.op && latO ls o.1) (pureAt P o.1 σ) ∧ pures P σ ls r
def freeN (Ns : NS) : List Nat → Bool
  | [] => true
  | d :: l => !memN d Ns && freeN Ns l
def tailS (P : Program) (ol : List (VOp × List Nat)) (ls : List Nat) (k : Nat) (K : Env → World → Prop) (w : World) : NS → Env → Prop := fun Ns σ' => freeN Ns ls = true ∧ ∀ w', Later w w' → nEnd Ns (fun σ2 w2 => pures P σ2 ls (ol.take k) ∧ vcOps P ((ol.drop k).map (·.1)) K σ2 w2) σ' w'
def drawnR (P : Program) (ol : List (VOp × List Nat)) (nd : Nat) (K : Env → World → Prop) (σ : Env) (w : World) : Prop :=
  (1 ≤ nd ∧ nOps P ol [] (fun Ns σ' => ∀ w', Later w w' → nEnd Ns K σ' w') σ w) ∨
  (∃ k, k < ol.length ∧ ol.length < k + nd ∧ nOps P (ol.take k) [] (fun Ns σ' => ∀ w', Later w w' → nEnd Ns (fun σ2 w2 => vcOps P ((ol.drop k).map (·.1)) K σ2 w2) σ' w') σ w)
def drawn (P : Program) (ol : List (VOp × List Nat)) (nd : Nat) (K : Env → World → Prop) (σ : Env) (w : World) : Prop :=
  qOps P (ol.map (·.1)) (fun σ' => ∀ w', Later w w' → K σ' w') σ w ∨
  (1 ≤ nd ∧ nOps P ol [] (fun Ns σ' => ∀ w', Later w w' → nEnd Ns K σ' w') σ w) ∨
  (∃ k, k < ol.length ∧ ol.length < k + nd ∧ nOps P (ol.take k) [] (fun Ns σ' => ∀ w', Later w w' → nEnd Ns (fun σ2 w2 => vcOps P ((ol.drop k).map (·.1)) K σ2 w2) σ' w') σ w)
def withReads (ops : List VOp) : List (VOp × List Nat) := ops.map fun o => (o, vReads o)
def drawnS (P : Program) (ol : List (VOp × List Nat)) (nd : Nat) (ls : List Nat) (K : Env → World → Prop) (σ : Env) (w : World) : Prop :=
  drawn P ol nd K σ w ∨ nOps P (ol.take (ol.length - nd)) [] (tailS P ol ls (ol.length - nd) K w) σ w
def lates (P : Program) (σ : Env) (w : World) (ls : List Nat) : List (VOp × List Nat) → Prop
  | [] => True
  | o :: r => pureIf (isLO o.1.guard.isNone o.1.op && latO ls o.1) (lateAt P o.1 σ w) ∧ lates P σ w ls r
def preT (m k : Nat) (ol : List (VOp × List Nat)) : List (VOp × List Nat) := ol.take m ++ (ol.drop (m + 1)).take (k - (m + 1))
def tailT (P : Program) (ol : List (VOp × List Nat)) (m k : Nat) (ls : List Nat) (K : Env → World → Prop) (w : World) : NS → Env → Prop := fun Ns σ' => freeN Ns ls = true ∧ ∀ w', Later w w' →
  nEnd Ns (fun σ2 w2 => ∀ om, ol[m]? = some om → vcOp P om.1.op om.1.type σ2 w2 (fun v w3 => lates P σ2 w3 ls (preT m k ol) ∧ vcOps P ((ol.drop k).map (·.1)) K (put σ2 om.1.dst v) w3)) σ' w'
def drawnT (P : Program) (ol : List (VOp × List Nat)) (nd m k : Nat) (ls : List Nat) (K : Env → World → Prop) (σ : Env) (w : World) : Prop :=
  drawn P ol nd K σ w ∨ nOps P (preT m k ol) [] (tailT P ol m k ls K w) σ w
def waitsOk (dps : List (List Nat)) (D : Nat → Bool) (j : Nat) : Prop := ∀ ds, dps[j]? = some ds → ∀ i ∈ ds, D i = true
def anyA (P : Program) (ops : List VOp) (dps : List (List Nat)) (K : Env → World → Prop) (σ : Env) (w : World) : Prop :=
  ∃ I : (Nat → Bool) → Env → World → Prop, (∀ w', Later w w' → I (fun _ => false) σ w') ∧
    (∀ (D : Nat → Bool) (σ1 : Env) (w1 : World) (j : Nat) (o : VOp), (∀ i, D i = true → waitsOk dps D i) → I D σ1 w1 → ops[j]? = some o → D j = false → waitsOk dps D j → vcOps P [o] (I (fun i => i == j || D i)) σ1 w1) ∧
    ∀ (D : Nat → Bool) (σ1 : Env) (w1 : World), I D σ1 w1 → (∀ j, j < ops.length → D j = true) → K σ1 w1
def drawnA (P : Program) (ops : List VOp) (nd : Nat) (dps : List (List Nat)) (K : Env → World → Prop) (σ : Env) (w : World) : Prop := drawn P (withReads ops) nd K σ w ∨ anyA P ops dps K σ w
def HasBody (P : Program) (f : FuncId) : Prop := ∀ args w, (callFunc f args).run P w = .ok (.enter f args) w
/-! ### The whole -/
abbrev Post := Exit → List Deferred → Env → World → Prop
def thenE (K : List Deferred → Env → World → Prop) (Q : Post) : Post
  | .normal, ds, σ, w => K ds σ w
  | e, ds, σ, w => Q e ds σ w
def inBlk (id : Nat) (Q : Post) : Post
  | .exit j, ds, σ, w => if j = id then Q .normal ds σ w else Q (.exit j) ds σ w
  | e, ds, σ, w => Q e ds σ w
def vCond (c : Value) (A B : Prop) : Prop := match c with
  | .bool b => if b = true then A else B
  | _ => False
def writes : VC → List Nat
  | .region ops => ops.filterMap (·.dst)
  | .draw ops _ => ops.filterMap (·.dst)
  | .drawR ops _ => ops.filterMap (·.dst)
  | .drawS ops _ _ => ops.filterMap (·.dst)
  | .drawT ops _ _ _ _ => ops.filterMap (·.dst)
  | .drawA ops _ _ => ops.filterMap (·.dst)
  | .seq a b => writes a ++ writes b
  | .cond _ a b => writes a ++ writes b
  | .block _ c => writes c
  | .loop c => writes c
  | _ => []
def putAll (σ : Env) : List Nat → List Value → Env
  | p :: ps, v :: vs => putAll (upd σ p v) ps vs
  | _, _ => σ
abbrev Rec := LoopState → Exit → Obj
def rndQ (L : Nat) (rec : Rec) (K : Value → World → Prop) : Post
  | .normal, _, _, w => w.heap[L]? = some (rec .busy .normal) ∧ K (.bool true) (w.putObj L (rec .ready .normal))
  | .ret, _, _, w => w.heap[L]? = some (rec .busy .normal) ∧ K (.bool false) (w.putObj L (rec .done .ret))
  | .exit id, _, _, w => w.heap[L]? = some (rec .busy .normal) ∧ K (.bool false) (w.putObj L (rec .done (.exit id)))
  | _, _, _, _ => False
def begQ (L : Nat) (rec : Rec) (body : Post → List Deferred → Env → World → Prop) (K : Value → World → Prop) : Post
  | .normal, ds, σ, w => w.heap[L]? = some (rec .ready .normal) ∧ body (rndQ L rec K) ds σ (w.putObj L (rec .busy .normal))
  | _, _, _, _ => False
def Rnd (L : Nat) (rec : Rec) (ps : List Nat) (asg body : Post → List Deferred → Env → World → Prop) (σ : Env) (args : Array Value) (w : World) (K : Value → World → Prop) : Prop :=
  w.heap[L]? = some (rec .ready .normal) ∧ args.size = ps.length ∧ asg (begQ L rec body K) [] (putAll σ ps args.toList) w
def mark (D : Nat) : Deferred := { target := .collected D, args := #[] }
def rngQ (L D : Nat) (rec : Rec) (Q : Post) (ds : List Deferred) (σ : Env) (w : World) : Prop :=
  (w.heap[L]? = some (rec .ready .normal) ∧ Q .normal (mark D :: ds) σ (w.putObj L (rec .exhausted .normal))) ∨
  (w.heap[L]? = some (rec .done .ret) ∧ Q .ret (mark D :: ds) σ (w.putObj L (rec .exhausted .ret))) ∨
  (∃ id, w.heap[L]? = some (rec .done (.exit id)) ∧ Q (.exit id) (mark D :: ds) σ (w.putObj L (rec .exhausted (.exit id))))
def rngC (P : Program) (v : Value) (ps : List Nat) (asg body : Post → List Deferred → Env → World → Prop) (Q : Post) (ds : List Deferred) (σ : Env) (w : World) : Prop :=
  ∃ gf lb, v = .func (.func gf) #[] lb ∧ HasBody P gf ∧ ∀ (D L : Nat) (rec : Rec), (∀ s e, (rec s e).isCells = false) → D = w.heap.size → L = w.heap.size + 1 →
    (∀ args w2 K, Rnd L rec ps asg body σ args w2 K → YldC P L args w2 K) →
    FnC P gf (#[.func (.yield L) #[] #[]] ++ lb) ((w.alloc (.deferred (some []))).alloc (rec .ready .normal)) fun _ w3 => rngQ L D rec Q ds σ w3
def vc (P : Program) : VC → Post → List Deferred → Env → World → Prop
  | .skip, Q, ds, σ, w => Q .normal ds σ w
  | .region ops, Q, ds, σ, w => vcOps P ops (Q .normal ds) σ w
  | .draw ops nd, Q, ds, σ, w => drawn P (withReads ops) nd (Q .normal ds) σ w
  | .drawR ops nd, Q, ds, σ, w => drawnR P (withReads ops) nd (Q .normal ds) σ w
  | .drawS ops nd ls, Q, ds, σ, w => drawnS P (withReads ops) nd ls (Q .normal ds) σ w
  | .drawT ops nd m k ls, Q, ds, σ, w => drawnT P (withReads ops) nd m k ls (Q .normal ds) σ w
  | .drawA ops nd dps, Q, ds, σ, w => drawnA P ops nd dps (Q .normal ds) σ w
  | .seq a b, Q, ds, σ, w => vc P a (thenE (vc P b Q) Q) ds σ w
  | .cond c a b, Q, ds, σ, w => vCond (ev σ c) (vc P a Q ds σ w) (vc P b Q ds σ w)
  | .block id c, Q, ds, σ, w => vc P c (inBlk id Q) ds σ w
  | .loop c, Q, ds, σ, w => ∃ I : Nat → List Deferred → Env → World → Prop, (∃ k, I k ds σ w) ∧
      ∀ k ds' σ' w', (∀ i, i ∉ writes c → σ' i = σ i) → I k ds' σ' w' → vc P c (thenE (fun ds2 σ2 w2 => ∃ k', k' < k ∧ I k' ds2 σ2 w2) Q) ds' σ' w'
  | .exit id, Q, ds, σ, w => Q (.exit id) ds σ w
  | .ret, Q, ds, σ, w => Q .ret ds σ w
  | .rangeFunc g ps a c, Q, ds, σ, w => rngC P (ev σ g) ps (vc P a) (vc P c) Q ds σ w
  | .refuse, _, _, _, _ => False
def tupK : List Value → Value
  | [v] => v
  | vs => .tuple vs.toArray
def resK (P : Program) : List ResultVar → List Value → Env → (Value → World → Prop) → World → Prop
  | [], acc, _, R, w => R (tupK acc) w
  | .tmp t :: rs, acc, σ, R, w => resK P rs (acc ++ [σ t]) σ R w
  | .cell a t :: rs, acc, σ, R, w => match σ a with
    | .pointer (some ad) => ∃ v, (loadVar t ad).run P w = .ok v w ∧ resK P rs (acc ++ [v]) σ R w
    | _ => False
end Go.Vc
end
section
namespace Go.Vc
open Go.RowKit Go.Sort
def Fw (ro : Option Nat) : Fence := { fn := fun _ => True, depth := none, alive := false, round := ro }
theorem callsIn_Fw (ro : Option Nat) (n : Nat) {P : Program} {f : FuncId} {args : Array Value} {w : World} {R : Ending → World → Prop} : CallsIn (Fw ro) n P f args w R ↔ Calls P f args w R := by
  cases ro with
  | none => exact callsIn_wide
  | some l => exact callsIn_wide (n := n)
theorem roundIn_Fw (ro : Option Nat) {n : Nat} {P : Program} {l : Nat} {f : FuncId} {tmps : Array Value} {assign body : Code} {w : World} {R : Ending → World → Prop}
    (h : RoundIn Fence.wide 0 P l f tmps assign body w R) : RoundIn (Fw ro) n P l f tmps assign body w R :=
  ⟨trivial, fun c cs _ => h.2 c cs (room_wide _)⟩
structure Rep (n : Nat) (a : Act) (ds : List Deferred) (σ : Env) : Prop where
  size : a.tmps.size = n
  defers : a.defers = ds
  at_ : ∀ i, a.tmps.getD i undef = σ i
def lift (n : Nat) (Q : Post) : Exit → Act → World → Prop := fun e a w => ∃ ds σ, Rep n a ds σ ∧ Q e ds σ w
theorem Rep.eval {n : Nat} {a : Act} {ds : List Deferred} {σ : Env} (h : Rep n a ds σ) : a.eval = ev σ := by
  funext x; cases x <;> simp only [Act.eval, ev, h.at_]
theorem Rep.put {n : Nat} {a : Act} {ds : List Deferred} {σ : Env} (h : Rep n a ds σ) {dst : Option Nat} (hd : dst.all (fun d => decide (d < n)) = true) (v : Value) : Rep n (a.put dst v) ds (put σ dst v) := by
  cases dst with
  | none => exact h
  | some d =>
    have hd' : d < n := by simpa using hd
    refine ⟨by simpa [Act.put] using h.size, h.defers, fun i => ?_⟩
    have := h.at_ i
    simp only [Act.put, Vc.put, upd, Array.getD_eq_getD_getElem?, Array.getElem?_setIfInBounds] at *
    by_cases e : i = d
    · subst e; simp [h.size, hd']
    · rw [if_neg (fun x => e x.symm), if_neg e]; exact this
/-! ### single operations -/
section ops
variable {P : Program} {σ : Env} {w : World} {K : Value → World → Prop}
theorem vcUp_mono {K K' : Value → World → Prop} {r : Result Next} (h : vcUp P K r) (hk : ∀ v w, K v w → K' v w) : vcUp P K' r := by
  unfold vcUp at *
  split at h
  · exact hk _ _ h
  · exact hk _ _ h
  · exact Calls.mono h fun e w' ⟨v, he, hv⟩ => ⟨v, he, hk _ _ hv⟩
  · exact RoundIn.mono h fun e w' ⟨v, he, hv⟩ => ⟨v, he, hk _ _ hv⟩
  · exact h.elim
theorem FnC.mono {f : FuncId} {args : Array Value} {R R' : Value → World → Prop} (h : FnC P f args w R) (hk : ∀ v w, R v w → R' v w) : FnC P f args w R' := vcUp_mono h hk
theorem run_val_pure {v : Value} {s : Sem Value} {w w' : World} (h : s.run P w = .ok v w') : (val s).run P w = .ok (.value v) w' := by
  simp [val, h]
theorem run_unt {s : Sem Unit} {w w' : World} (h : s.run P w = .ok () w') : (unt s).run P w = .ok .skip w' := by
  simp [unt, h]
theorem run_intBits (op : BinOp) (hop : op = .and ∨ op = .or ∨ op = .xor ∨ op = .andNot) (k : IntKind) (a b : Int) : (Op.intBits op k a b).run P w = .ok (.int k (bitI op k a b)) w := by
  rcases hop with h | h | h | h <;> subst h <;> rfl
theorem eq_toList (a b : ByteArray) : (a.toList == b.toList) = decide (a = b) := by
  rw [Bool.eq_iff_iff]
  simp only [beq_iff_eq, decide_eq_true_eq, ByteArray.toList_eq]
  constructor
  · intro h; cases a; cases b; simp at h; simp [h]
  · intro h; rw [h]
theorem eqKind_one {d : Option TypeDesc} (h : eqKind d = 1) : ∃ e, d = some (.pointer e) := by
  unfold eqKind at h; split at h <;> simp_all
theorem eqKind_two {d : Option TypeDesc} (h : eqKind d = 2) : ∃ e, d = some (.slice e) := by
  unfold eqKind at h; split at h <;> simp_all
theorem eqKind_four {d : Option TypeDesc} (h : eqKind d = 4) : d = some .bool := by
  unfold eqKind at h; split at h <;> first | rfl | cases h
theorem eqKind_three {d : Option TypeDesc} (h : eqKind d = 3) : ∃ k e, d = some (.map k e) := by
  unfold eqKind at h; split at h <;> simp_all
theorem run_eqIn_ptr_nil {t e : TypeId} (h : P.underlying t = some (.pointer e)) (d : Nat) (a : Option Addr) (w : World) : (Op.equalIn (d + 1) t (.pointer a) (.pointer none)).run P w = .ok a.isNone w := by
  cases a <;> simp [Op.equalIn, run_underlying h]
theorem run_eqIn_slice_nil {t e : TypeId} (h : P.underlying t = some (.slice e)) (dd : Nat) (a : Option Addr) (n c m d : Nat) (w : World) : (Op.equalIn (dd + 1) t (.slice a n c) (.slice none m d)).run P w = .ok a.isNone w := by
  cases a <;> simp [Op.equalIn, run_underlying h]
theorem run_eqIn_map_nil {t k e : TypeId} (h : P.underlying t = some (.map k e)) (d : Nat) (a : Option Nat) (w : World) : (Op.equalIn (d + 1) t (.map a) (.map none)).run P w = .ok a.isNone w := by
  cases a <;> simp [Op.equalIn, run_underlying h]
theorem run_eq_ptr_nil {t : TypeId} (h : ∃ e, P.underlying t = some (.pointer e)) (a : Option Addr) (w : World) : (Op.equal t (.pointer a) (.pointer none)).run P w = .ok a.isNone w := by
  obtain ⟨e, h⟩ := h; exact run_eqIn_ptr_nil h 9999 a w
theorem run_eq_slice_nil {t : TypeId} (h : ∃ e, P.underlying t = some (.slice e)) (a : Option Addr) (n c m d : Nat) (w : World) : (Op.equal t (.slice a n c) (.slice none m d)).run P w = .ok a.isNone w := by
  obtain ⟨e, h⟩ := h; exact run_eqIn_slice_nil h 9999 a n c m d w
theorem run_eq_map_nil {t : TypeId} (h : ∃ k e, P.underlying t = some (.map k e)) (a : Option Nat) (w : World) : (Op.equal t (.map a) (.map none)).run P w = .ok a.isNone w := by
  obtain ⟨k, e, h⟩ := h; exact run_eqIn_map_nil h 9999 a w
def refV : Value → Bool
  | .pointer _ => true
  | .slice .. => true
  | .map _ => true
  | .bool _ => true
  | _ => false
theorem run_eqIn_bool {t : TypeId} (h : P.underlying t = some .bool) (d : Nat) (a b : Bool) (w : World) : (Op.equalIn (d + 1) t (.bool a) (.bool b)).run P w = .ok (decide (a = b)) w := by
  have : (decide (a = b)) = (a == b) := by cases a <;> cases b <;> rfl
  rw [this]
  simp [Op.equalIn, run_underlying h]
theorem run_eq_bool {t : TypeId} (h : P.underlying t = some .bool) (a b : Bool) (w : World) : (Op.equal t (.bool a) (.bool b)).run P w = .ok (decide (a = b)) w := run_eqIn_bool h 9999 a b w
theorem run_nil_eql {t : TypeId} {x y : Operand} {a b : Value} {r : Bool} (h : ∀ w, (Op.equal t a b).run P w = .ok r w) (hr : (refV a && refV b) = true) {w : World} : (do eqGuard .eql t x y a b; binOp .eql t a b).run P w = .ok (.bool r) w := by
  cases a <;> cases b <;> simp_all [refV, eqGuard, binOp]
theorem run_nil_neq {t : TypeId} {x y : Operand} {a b : Value} {r : Bool} (h : ∀ w, (Op.equal t a b).run P w = .ok r w) (hr : (refV a && refV b) = true) {w : World} : (do eqGuard .neq t x y a b; binOp .neq t a b).run P w = .ok (.bool (!r)) w := by
  cases a <;> cases b <;> simp_all [refV, eqGuard, binOp]
theorem vBin_sound (op : BinOp) (t : TypeId) (x y : Operand) (a b : Value) (h : vBin P op t x y a b K w) : vcUp P K ((val (do eqGuard op t x y a b; binOp op t a b)).run P w) := by
  unfold vBin at h
  split at h
  · rename_i k m k' n
    obtain ⟨h0, h⟩ := h
    have : (do eqGuard .shl t x y (.int k m) (.int k' n); binOp .shl t (.int k m) (.int k' n)).run P w = .ok (.int k (k.wrap (m * 2 ^ (min n.toNat k.bits)))) w := by
      have e : ¬ n < 0 := by omega
      simp [eqGuard, binOp, Op.shift, e]
    rw [run_val_pure this]; exact h
  · rename_i k m k' n
    obtain ⟨h0, h⟩ := h
    have : (do eqGuard .shr t x y (.int k m) (.int k' n); binOp .shr t (.int k m) (.int k' n)).run P w = .ok (.int k (m.fdiv (2 ^ (min n.toNat k.bits)))) w := by
      have e : ¬ n < 0 := by omega
      simp [eqGuard, binOp, Op.shift, e]
    rw [run_val_pure this]; exact h
  · rename_i k m k' n hs1 hs2
    obtain ⟨rfl, h⟩ := h
    have eg : ∀ op, (eqGuard op t x y (.int k m) (.int k n)).run P w = .ok () w := by
      intro op; unfold eqGuard; split <;> rfl
    have go : ∀ v, (binOp op t (.int k m) (.int k n)).run P w = .ok v w → K v w → vcUp P K ((val (do eqGuard op t x y (.int k m) (.int k n); binOp op t (.int k m) (.int k n))).run P w) := by
      intro v hv hk
      rw [run_val_pure (v := v) (w' := w) (by simp [eg, hv])]; exact hk
    unfold iBin at h
    split at h
    · exact go _ (by simp [binOp, Op.intArith]) h
    · exact go _ (by simp [binOp, Op.intArith]) h
    · exact go _ (by simp [binOp, Op.intArith]) h
    · exact go _ (by simp [binOp, Op.intDiv, h.1]) h.2
    · exact go _ (by simp [binOp, Op.intDiv, h.1]) h.2
    · exact go _ (by simp only [binOp]; simp [run_intBits]) h
    · exact go _ (by simp only [binOp]; simp [run_intBits]) h
    · exact go _ (by simp only [binOp]; simp [run_intBits]) h
    · exact go _ (by simp only [binOp]; simp [run_intBits]) h
    · exact go _ (by simp [binOp, Op.intCmp]; rfl) h
    · exact go _ (by simp [binOp, Op.intCmp]; rfl) h
    · exact go _ (by simp [binOp, Op.intCmp]) h
    · exact go _ (by simp [binOp, Op.intCmp]) h
    · exact go _ (by simp [binOp, Op.intCmp]) h
    · exact go _ (by simp [binOp, Op.intCmp]) h
    · exact h.elim
  · rename_i m n
    have eg : ∀ op, (eqGuard op t x y (.string m) (.string n)).run P w = .ok () w := by
      intro op; unfold eqGuard; split <;> rfl
    have go : ∀ v, (binOp op t (.string m) (.string n)).run P w = .ok v w → K v w → vcUp P K ((val (do eqGuard op t x y (.string m) (.string n); binOp op t (.string m) (.string n))).run P w) := by
      intro v hv hk
      rw [run_val_pure (v := v) (w' := w) (by simp [eg, hv])]; exact hk
    unfold sBin at h
    have hl : ∀ s : ByteArray, s.data.toList = s.toList := fun s => (ByteArray.toList_eq s).symm
    split at h
    · refine go _ ?_ h.2
      have e : ¬ ((m.size + n.size : Nat) : Int) > IntKind.i64.max := by
        have : IntKind.i64.max = 9223372036854775807 := by decide
        rw [this]; omega
      simp only [binOp, Op.stringOp, if_neg e]; rfl
    · exact go _ (by simp only [binOp, Op.stringOp, eq_toList]; rfl) h
    · exact go _ (by simp only [binOp, Op.stringOp, eq_toList]; rfl) h
    · exact go _ (by simp only [binOp, Op.stringOp, hl]; rfl) h
    · exact go _ (by simp only [binOp, Op.stringOp, eq_toList, hl]; rfl) h
    · exact go _ (by simp only [binOp, Op.stringOp, eq_toList, hl]; rfl) h
    · exact go _ (by simp only [binOp, Op.stringOp, hl]; rfl) h
    · exact h.elim
  · rw [run_val_pure (run_nil_eql (fun w => run_eq_ptr_nil (eqKind_one h.1) _ w) rfl)]; exact h.2
  · rw [run_val_pure (run_nil_neq (fun w => run_eq_ptr_nil (eqKind_one h.1) _ w) rfl)]; exact h.2
  · rw [run_val_pure (run_nil_eql (fun w => run_eq_slice_nil (eqKind_two h.1) _ _ _ _ _ w) rfl)]; exact h.2
  · rw [run_val_pure (run_nil_neq (fun w => run_eq_slice_nil (eqKind_two h.1) _ _ _ _ _ w) rfl)]; exact h.2
  · rw [run_val_pure (run_nil_eql (fun w => run_eq_map_nil (eqKind_three h.1) _ w) rfl)]; exact h.2
  · rw [run_val_pure (run_nil_eql (fun w => run_eq_bool (eqKind_four h.1) _ _ w) rfl)]; exact h.2
  · rw [run_val_pure (run_nil_neq (fun w => run_eq_bool (eqKind_four h.1) _ _ w) rfl)]; exact h.2
  · exact h
theorem vUn_sound (op : UnOp) (a : Value) (h : vUn P op a K w) : vcUp P K ((val (Op.unary op a)).run P w) := by
  unfold vUn at h
  split at h
  · rw [run_val_pure (v := _) (w' := w) (by simp only [Op.unary, Op.intArith]; rfl)]; exact h
  · rw [run_val_pure (v := _) (w' := w) (by simp only [Op.unary]; exact run_intBits .xor (by simp) _ _ _)]; exact h
  · rw [run_val_pure (v := _) (w' := w) (by simp [Op.unary]; rfl)]; exact h
  · exact h
theorem vConv_sound (s d : TypeId) (a : Value) (h : vConv P s d a K w) : vcUp P K ((val (convert s d a)).run P w) := by
  unfold vConv vConvD at h
  split at h
  · rename_i ds k k' n hs hd
    rw [run_val_pure (v := .int k (k.wrap n)) (w' := w) (by
      unfold convert
      simp [run_underlying hs, run_underlying hd]
      cases ds <;> simp [Conv.intToInt])]
    exact h
  · rename_i ds st hs hd
    rw [run_val_pure (v := .string st) (w' := w) (by
      unfold convert
      simp [run_underlying hs, run_underlying hd])]
    exact h
  · exact h
end ops
end Go.Vc
end
section
namespace Go.Vc
open Go.RowKit Go.Sort
section ops
variable {P : Program} {σ : Env} {w : World} {K : Value → World → Prop}
theorem run_sizeOf {t : TypeId} {s : Nat} (h : szOf P t = some s) (w : World) : (sizeOf t).run P w = .ok s w := by
  obtain ⟨i, hi, rfl⟩ := Option.map_eq_some_iff.1 h
  simp [sizeOf, typeInfo, hi]
theorem run_isAgg {t : TypeId} (h : oneD (P.underlying t) = true) (w : World) : (isAgg t).run P w = .ok false w := by
  cases hu : P.underlying t with
  | none => rw [hu] at h; cases h
  | some d =>
    rw [hu] at h
    simp [isAgg, run_underlying hu]
    cases d <;> simp_all [oneD]
theorem run_isAgg_yes {t : TypeId} {n : Nat} (h : aggD P t (P.underlying t) = some n) (w : World) : (isAgg t).run P w = .ok true w ∧ szOf P t = some n := by
  cases hu : P.underlying t with
  | none => rw [hu] at h; cases h
  | some d =>
    rw [hu] at h
    cases d <;> simp_all [aggD, isAgg, run_underlying hu]
theorem run_loadCellsFrom (n : Nat) : ∀ (a : Addr) (i : Nat) (acc : Array Value) (w : World) (cs : List Value), cellsAt w (a.add i) n = some cs → (loadCellsFrom a i n acc).run P w = .ok (acc ++ cs.toArray) w := by
  induction n with
  | zero => intro a i acc w cs h; simp [cellsAt] at h; subst h; simp [loadCellsFrom]
  | succ n ih =>
    intro a i acc w cs h
    unfold cellsAt at h
    split at h
    · rename_i v hv
      split at h
      · rename_i l hl
        cases h
        have e : (a.add i).add 1 = a.add (i + 1) := by
          unfold Addr.add
          by_cases h1 : i = 0 <;> simp [h1, Nat.add_assoc]
        rw [e] at hl
        simp only [loadCellsFrom, Sem.run_bind, run_load, hv, Result.andThen_ok]
        rw [ih a (i + 1) (acc.push v) w l hl]
        simp
      · cases h
    · cases h
theorem run_loadCells' {a : Addr} {n : Nat} {cs : List Value} {w : World} (h : cellsAt w a n = some cs) : (loadCells a n).run P w = .ok cs.toArray w := by
  unfold loadCells
  have : a.add 0 = a := rfl
  rw [run_loadCellsFrom n a 0 #[] w cs (by rw [this]; exact h)]
  simp
theorem vLoadA_sound (t : TypeId) (a : Value) (h : vLoadA P t (aggD P t (P.underlying t)) a K w) : vcUp P K ((val (Instr.loadAt t a)).run P w) := by
  unfold vLoadA at h
  split at h
  · rename_i n a hn
    obtain ⟨cs, hcs, hk⟩ := h
    obtain ⟨h1, h2⟩ := run_isAgg_yes hn w
    rw [run_val_pure (v := .agg cs.toArray) (w' := w) (by simp [Instr.loadAt, Instr.sureAddr, loadVar, h1, run_sizeOf h2, run_loadCells' hcs])]
    exact hk
  · exact h
theorem vLoad_sound (t : TypeId) (a : Value) (h : vLoad P t a K w) : vcUp P K ((val (Instr.loadAt t a)).run P w) := by
  unfold vLoad vLoadD at h
  split at h
  · rename_i ha
    obtain ⟨v, hv, hk⟩ := h
    rw [run_val_pure (v := v) (w' := w) (by simp [Instr.loadAt, Instr.sureAddr, loadVar, run_isAgg ha, hv])]
    exact hk
  · exact vLoadA_sound _ _ h
theorem cell_set_same {w : World} {a : Addr} {x : Value} (v : Value) (h : w.cell? a = some x) : (w.setCell a v).cell? a = some v := World.cell?_setCell_same _ _ _ h
theorem cell_set_ne {w : World} {a b : Addr} (v : Value) (h : b ≠ a) : (w.setCell b v).cell? a = w.cell? a := World.cell?_setCell_other _ _ _ _ h
theorem frozen_set {w : World} (a b : Addr) (v : Value) : (w.setCell b v).frozen? a = w.frozen? a := World.frozen?_setCell w b a v
theorem canAll_set {vs : List Value} : ∀ {w : World} {a b : Addr} {v : Value}, canAll w a vs → canAll (w.setCell b v) a vs := by
  induction vs with
  | nil => intro w a b v _; trivial
  | cons u vs ih =>
    intro w a b v h
    obtain ⟨⟨x, hx⟩, hf, hc⟩ := h
    refine ⟨?_, ?_, ih hc⟩
    · by_cases e : a = b
      · subst e; exact ⟨v, cell_set_same v hx⟩
      · exact ⟨x, by rw [cell_set_ne v fun h => e h.symm]; exact hx⟩
    · rw [frozen_set]; exact hf
theorem run_storeAll (vs : List Value) : ∀ (a : Addr) (i : Nat) (w : World), (∀ u ∈ vs, u.oneCell' = true) → canAll w (a.add i) vs → (storeCells a vs i).run P w = .ok () (storeAll w (a.add i) vs) := by
  induction vs with
  | nil => intro a i w _ _; simp [storeCells, storeAll]
  | cons v vs ih =>
    intro a i w h1 h
    obtain ⟨⟨x, hx⟩, hf, hc⟩ := h
    have e : (a.add i).add 1 = a.add (i + 1) := by
      unfold Addr.add
      by_cases h1 : i = 0 <;> simp [h1, Nat.add_assoc]
    rw [e] at hc
    have hv := h1 v (List.mem_cons_self ..)
    have hst : (store (a.add i) v).run P w = .ok () (w.setCell (a.add i) v) := by
      cases v <;> simp_all [store, Sem.run, Value.oneCell']
    simp only [storeCells, Sem.run_bind, hst, Result.andThen_ok]
    rw [ih a (i + 1) _ (fun u hu => h1 u (List.mem_cons_of_mem _ hu)) (canAll_set hc)]
    simp only [storeAll, e]
theorem vStore_sound (t : TypeId) (a x : Value) (h : vStore P t a x K w) : vcUp P K ((unt (Instr.storeAt t a x)).run P w) := by
  unfold vStore vStoreD at h
  split at h
  · rename_i s a hs
    obtain ⟨h1, h2, h3, h4⟩ := h
    have e : a.add 0 = a := rfl
    rw [run_unt (w' := storeAll w a x.cells.toList) (by
      simp only [Instr.storeAt, Instr.sureAddr, storeVar, Sem.run_bind, Sem.run_pure, Result.andThen_ok, run_sizeOf hs, h1]
      simp only [ne_eq, not_true_eq_false, if_false]
      exact run_storeAll _ a 0 w h2 h3)]
    exact h4
  · exact h
theorem vAlloc_sound (t : TypeId) (h : vAlloc P t K w) : vcUp P K ((val (Instr.alloc t true (.tuple #[]))).run P w) := by
  unfold vAlloc at h
  split at h
  · rename_i i hi
    split at h
    · rename_i z hz
      rw [run_val_pure (v := .pointer (some ⟨w.heap.size, 0, none⟩)) (w' := w.alloc (.cells z.cells t)) (by
        simp [Instr.alloc, zeroValue, typeInfo, hi, hz, newVar, newRow])]
      exact h
    · exact h.elim
  · exact h.elim
theorem run_box (t : TypeId) (v : Value) (w : World) : (Instr.box t v).run P w = .ok (.pointer (some ⟨w.heap.size, 0, none⟩)) (w.alloc (.cells v.cells t)) := by
  simp [Instr.box, newVar, newRow]
def Steady (P : Program) (s : Sem Value) (v : Value) : Prop := ∀ w', s.run P w' = .ok v w'
theorem Steady.up {s : Sem Value} {v : Value} (h : Steady P s v) (hk : K v w) : vcUp P K ((val s).run P w) := by
  rw [run_val_pure (h w)]; exact hk
theorem vAt_some {s : Option Nat} {a : Addr} {i : Int} {n : Nat} (h : vAt s a i n K w) : ∃ z, s = some z ∧ (0 ≤ i ∧ i < n) ∧ K (.pointer (some (a.add (i.toNat * z)))) w := by
  unfold vAt at h
  split at h
  · exact ⟨_, rfl, h⟩
  · exact h.elim
theorem steady_index_slice {t e : TypeId} {a : Addr} {n c z : Nat} {k : IntKind} {i : Int} (hu : P.underlying t = some (.slice e)) (hs : szOf P e = some z) (hi : 0 ≤ i ∧ i < n) :
    Steady P (Instr.indexAt t (.slice (some a) n c) (.int k i)) (.pointer (some (a.add (i.toNat * z)))) := fun w' => by
  simp [Instr.indexAt, asIntOf, run_underlying hu, hi, run_sizeOf hs]
theorem steady_index_array {t e : TypeId} {a : Addr} {n z : Nat} {k : IntKind} {i : Int} (hu : P.underlying t = some (.array n e)) (hs : szOf P e = some z) (hi : 0 ≤ i ∧ i < n) :
    Steady P (Instr.indexAt t (.pointer (some a)) (.int k i)) (.pointer (some (a.add (i.toNat * z)))) := fun w' => by
  simp [Instr.indexAt, asIntOf, Instr.sureAddr, run_underlying hu, hi, run_sizeOf hs]
theorem vIndexAddr_sound (t : TypeId) (x i : Value) (h : vIndexAddr P t x i K w) : vcUp P K ((val (Instr.indexAt t x i)).run P w) := by
  unfold vIndexAddr vIndexAddrD at h
  split at h
  · rename_i hu
    obtain ⟨z, hz, hi, hk⟩ := vAt_some h
    exact (steady_index_slice hu hz hi).up hk
  · rename_i hu
    obtain ⟨z, hz, hi, hk⟩ := vAt_some h
    exact (steady_index_array hu hz hi).up hk
  · exact h
theorem vFieldAddr_some {s : TypeId} {x : Value} {f : Nat} (h : vFieldAddr P s x f K w) : ∃ v, Steady P (Instr.fieldAt s x f) v ∧ K v w := by
  unfold vFieldAddr vFieldAddrD at h
  split at h
  · rename_i off t a hf
    unfold vFldZ at h
    split at h
    · rename_i z hz
      obtain ⟨h0, hk⟩ := h
      refine ⟨_, fun w' => ?_, hk⟩
      unfold fieldOf at hf
      split at hf
      · rename_i fs hu
        obtain ⟨fl, hfl, he⟩ := Option.map_eq_some_iff.1 hf
        simp only [Prod.mk.injEq] at he
        obtain ⟨rfl, rfl⟩ := he
        have h1 : ¬ z = 0 := by omega
        simp [Instr.fieldAt, run_underlying hu, hfl, Instr.sureAddr, fieldPlace, run_sizeOf hz, h1]
      · cases hf
    · exact h.elim
  · exact h.elim
theorem intO_some {d n : Int} {v : Value} (h : intO d (some v) = some n) : ∃ k, v = .int k n := by
  unfold intO at h
  split at h <;> simp_all
theorem vSlice_some {t e : TypeId} {a : Option Addr} {n c : Nat} {lo hi mx : Option Value} (hu : P.underlying t = some (.slice e))
    (h : vSl (szOf P e) a (intO 0 lo) (intO n hi) (intO c mx) (hi.isNone && mx.isSome) c K w) : ∃ v, Steady P (Instr.sliceAt t (.slice a n c) lo hi mx) v ∧ K v w := by
  unfold vSl at h
  split at h
  · rename_i s lo' hi' mx' bad z l h' m hz hl hh hm hb
    obtain ⟨hr, hk⟩ := h
    refine ⟨_, fun w' => ?_, hk⟩
    simp only [Instr.sliceAt, Sem.run_bind, run_underlying hu, Result.andThen_ok, Instr.slice]
    have key : (Instr.sliceBounds true n c lo hi mx).run P w' = .ok (l.toNat, h'.toNat, m.toNat) w' := by
      unfold Instr.sliceBounds
      cases lo with
      | none =>
        simp only [intO, Option.some.injEq] at hl; subst hl
        cases mx with
        | none =>
          simp only [intO, Option.some.injEq] at hm; subst hm
          cases hi with
          | none => simp only [intO, Option.some.injEq] at hh; subst hh; simp
          | some v =>
            obtain ⟨k, rfl⟩ := intO_some hh
            simp [run_sliceBound w' k h' c .sliceAcap (by omega) (by omega)]
        | some vm =>
          obtain ⟨km, rfl⟩ := intO_some hm
          cases hi with
          | none => simp at hb
          | some v =>
            obtain ⟨k, rfl⟩ := intO_some hh
            simp [run_sliceBound w' km m c .slice3Acap (by omega) (by omega), run_sliceBound w' k h' m.toNat .slice3B (by omega) (by omega)]
      | some vl =>
        obtain ⟨kl, rfl⟩ := intO_some hl
        cases mx with
        | none =>
          simp only [intO, Option.some.injEq] at hm; subst hm
          cases hi with
          | none =>
            simp only [intO, Option.some.injEq] at hh; subst hh
            simp [run_sliceBound w' kl l n .sliceB (by omega) (by omega)]
          | some v =>
            obtain ⟨k, rfl⟩ := intO_some hh
            simp [run_sliceBound w' k h' c .sliceAcap (by omega) (by omega), run_sliceBound w' kl l h'.toNat .sliceB (by omega) (by omega)]
        | some vm =>
          obtain ⟨km, rfl⟩ := intO_some hm
          cases hi with
          | none => simp at hb
          | some v =>
            obtain ⟨k, rfl⟩ := intO_some hh
            simp [run_sliceBound w' km m c .slice3Acap (by omega) (by omega), run_sliceBound w' k h' m.toNat .slice3B (by omega) (by omega), run_sliceBound w' kl l h'.toNat .slice3C (by omega) (by omega)]
    simp only [key, Result.andThen_ok, run_sizeOf hz, Sem.run_pure]
    have e1 : (m.toNat = l.toNat) = (m = l) := by rw [eq_iff_iff]; omega
    have e2 : (h' - l).toNat = h'.toNat - l.toNat := by omega
    have e3 : (m - l).toNat = m.toNat - l.toNat := by omega
    simp only [slAddr, e1, e2, e3]
  · exact h.elim
theorem vSub_some {t : TypeId} {s : ByteArray} {lo hi mx : Option Value} (hu : P.underlying t = some .string)
    (h : vSub s (intO 0 lo) (intO s.size hi) mx.isSome K w) : ∃ v, Steady P (Instr.sliceAt t (.string s) lo hi mx) v ∧ K v w := by
  unfold vSub at h
  split at h
  · rename_i lo' hi' bad l h' hl hh hb
    obtain ⟨hr, hk⟩ := h
    refine ⟨_, fun w' => ?_, hk⟩
    obtain rfl : mx = none := by simpa using hb
    simp only [Instr.sliceAt, Sem.run_bind, run_underlying hu, Result.andThen_ok, Instr.slice]
    have key : (Instr.sliceBounds false s.size s.size lo hi none).run P w' = .ok (l.toNat, h'.toNat, s.size) w' := by
      unfold Instr.sliceBounds
      cases lo with
      | none =>
        simp only [intO, Option.some.injEq] at hl; subst hl
        cases hi with
        | none => simp only [intO, Option.some.injEq] at hh; subst hh; simp
        | some v =>
          obtain ⟨k, rfl⟩ := intO_some hh
          simp [run_sliceBound w' k h' s.size .sliceAlen (by omega) (by omega)]
      | some vl =>
        obtain ⟨kl, rfl⟩ := intO_some hl
        cases hi with
        | none =>
          simp only [intO, Option.some.injEq] at hh; subst hh
          simp [run_sliceBound w' kl l s.size .sliceB (by omega) (by omega)]
        | some v =>
          obtain ⟨k, rfl⟩ := intO_some hh
          simp [run_sliceBound w' k h' s.size .sliceAlen (by omega) (by omega), run_sliceBound w' kl l h'.toNat .sliceB (by omega) (by omega)]
    simp [key]
  · exact h.elim
theorem vSlice_sound (t : TypeId) (x : Value) (lo hi mx : Option Value) (h : vSlice P t x lo hi mx K w) : vcUp P K ((val (Instr.sliceAt t x lo hi mx)).run P w) := by
  unfold vSlice vSliceD at h
  split at h
  · rename_i hu
    obtain ⟨v, hs, hk⟩ := vSlice_some hu h
    exact hs.up hk
  · rename_i hu
    obtain ⟨v, hs, hk⟩ := vSub_some hu h
    exact hs.up hk
  · exact h
end ops
end Go.Vc
end
section
namespace Go.Vc
open Go.RowKit Go.Sort
section ops
variable {P : Program} {σ : Env} {w : World} {K : Value → World → Prop}
theorem vCallV_sound (c : Call) (ty : TypeId) (f : Operand) (hc : c.callee = .value f) (h : vCallV P (ev σ f) (c.args.map (ev σ)) K w (vX P (.call c) ty σ w K)) : vX P (.call c) ty σ w K := by
  unfold vCallV at h
  split at h
  · rename_i g first captured hf
    unfold vX exe
    have : execOp (ev σ) { dst := none, op := .call c, type := ty, pos := "", after := #[], guard := none } = callFunc g (first ++ c.args.map (ev σ) ++ captured) := by
      simp only [execOp, resolve, hc, hf, Deferred.ofValue]
      rfl
    rw [this]; exact h
  · rename_i l first captured hf
    unfold vX exe
    have : execOp (ev σ) { dst := none, op := .call c, type := ty, pos := "", after := #[], guard := none } = Instr.yield l (first ++ c.args.map (ev σ)) := by
      simp only [execOp, resolve, hc, hf, Deferred.ofValue]
      rfl
    rw [this]; exact h
  · exact h
theorem run_maxmin (op : Builtin) (c : Call) (hc : c.callee = .builtin op) (ρ : Operand → Value) (ty : TypeId) :
    execOp ρ { dst := none, op := .call c, type := ty, pos := "", after := #[], guard := none } = builtin op c.argTypes ty (c.args.map fun | .const _ => true | _ => false) (c.args.map ρ) := by
  simp only [execOp, resolve, hc]
  rfl
theorem steady_len {ts : Array TypeId} {as : Array Value} {t : TypeId} {x : Value} {tr : List TypeId} {ar : List Value} {ty : TypeId} (ht : ts.toList = t :: tr) (ha : as.toList = x :: ar)
    (h : vLen (P.underlying t) x K w) : ∃ v, (∀ w', Later w w' → (Builtin.len_ ts ty as).run P w' = .ok v w') ∧ K v w := by
  have e1 : ts[0]? = some t := by rw [← Array.getElem?_toList, ht]; rfl
  have e2 : as[0]? = some x := by rw [← Array.getElem?_toList, ha]; rfl
  unfold vLen at h
  split at h
  · rename_i hu
    exact ⟨_, fun w' _ => by simp [Builtin.len_, e1, e2, run_underlying hu, goInt], h⟩
  · rename_i hu
    exact ⟨_, fun w' _ => by simp [Builtin.len_, e1, e2, run_underlying hu, goInt], h⟩
  · rename_i hu
    obtain ⟨es, c, hb, hk⟩ := h
    refine ⟨_, fun w' hl => ?_, hk⟩
    have hlt := (Array.getElem?_eq_some_iff.1 hb).1
    have hb' := (hl.block _ hlt).trans hb
    simp [Builtin.len_, e1, e2, run_underlying hu, goInt, getObj, Sem.run, hb', Result.andThen]
  · exact h.elim
theorem steady_cap {ts : Array TypeId} {as : Array Value} {t : TypeId} {x : Value} {tr : List TypeId} {ar : List Value} {ty : TypeId} (ht : ts.toList = t :: tr) (ha : as.toList = x :: ar)
    (h : vCap (P.underlying t) x K w) : ∃ v, Steady P (Builtin.cap_ ts ty as) v ∧ K v w := by
  have e1 : ts[0]? = some t := by rw [← Array.getElem?_toList, ht]; rfl
  have e2 : as[0]? = some x := by rw [← Array.getElem?_toList, ha]; rfl
  unfold vCap at h
  split at h
  · rename_i hu
    exact ⟨_, fun w' => by simp [Builtin.cap_, e1, e2, run_underlying hu, goInt], h⟩
  · exact h.elim
theorem min_if (a b : Int) : (if b < a then b else a) = min a b := by simp only [Int.min_def]; split <;> split <;> omega
theorem max_if (a b : Int) : (if b > a then b else a) = max a b := by simp only [Int.max_def]; split <;> split <;> omega
theorem steady_min {ts : Array TypeId} {as : Array Value} {ty : TypeId} (h : vMin as.toList K w) : ∃ v, Steady P (Builtin.min_ ts ty as) v ∧ K v w := by
  unfold vMin at h
  split at h
  · rename_i k a k' b ha
    refine ⟨_, fun w' => ?_, h⟩
    have e : (if b < a then b else a) = min a b := by simp only [Int.min_def]; split <;> split <;> omega
    simp [Builtin.min_, ha, Builtin.min2, e]
  · rename_i k a k' b k'' c ha
    refine ⟨_, fun w' => ?_, h⟩
    simp [Builtin.min_, ha, Builtin.min2, min_if]
  · rename_i k a k' b k'' c k''' d ha
    refine ⟨_, fun w' => ?_, h⟩
    simp [Builtin.min_, ha, Builtin.min2, min_if]
  · exact h.elim
theorem steady_max {ts : Array TypeId} {as : Array Value} {ty : TypeId} (h : vMax as.toList K w) : ∃ v, Steady P (Builtin.max_ ts ty as) v ∧ K v w := by
  unfold vMax at h
  split at h
  · rename_i k a k' b ha
    refine ⟨_, fun w' => ?_, h⟩
    have e : (if b > a then b else a) = max a b := by simp only [Int.max_def]; split <;> split <;> omega
    simp only [Builtin.max_, ha, List.foldlM_cons, List.foldlM_nil, Builtin.max2, Sem.run_bind, Sem.run_pure, Result.andThen_ok, e]
  · rename_i k a k' b k'' c ha
    refine ⟨_, fun w' => ?_, h⟩
    simp only [Builtin.max_, ha, List.foldlM_cons, List.foldlM_nil, Builtin.max2, Sem.run_bind, Sem.run_pure, Result.andThen_ok, max_if]
  · rename_i k a k' b k'' c k''' d ha
    refine ⟨_, fun w' => ?_, h⟩
    simp only [Builtin.max_, ha, List.foldlM_cons, List.foldlM_nil, Builtin.max2, Sem.run_bind, Sem.run_pure, Result.andThen_ok, max_if]
  · exact h.elim
theorem vBi_some (b : Builtin) (c : Call) (hc : c.callee = .builtin b) (ty : TypeId) (h : vBi P b c.argTypes.toList (c.args.map (ev σ)).toList K w) :
    ∃ v, (∀ w', Later w w' → exe P (.call c) ty σ w' = .ok (.value v) w') ∧ K v w := by
  have lift {s : Sem Value} (hs : builtin b c.argTypes ty (c.args.map fun | .const _ => true | _ => false) (c.args.map (ev σ)) = val s) (h : ∃ v, Steady P s v ∧ K v w) :
      ∃ v, (∀ w', Later w w' → exe P (.call c) ty σ w' = .ok (.value v) w') ∧ K v w := by
    obtain ⟨v, hv, hk⟩ := h
    exact ⟨v, fun w' _ => by unfold exe; rw [run_maxmin b c hc, hs]; exact run_val_pure (hv w'), hk⟩
  unfold vBi at h
  split at h
  · rename_i ht ha
    obtain ⟨v, hv, hk⟩ := steady_len (ty := ty) ht ha h
    exact ⟨v, fun w' hl => by unfold exe; rw [run_maxmin _ c hc]; exact run_val_pure (hv w' hl), hk⟩
  · rename_i ht ha
    exact lift rfl (steady_cap ht ha h)
  · exact lift rfl (steady_min h)
  · exact lift rfl (steady_max h)
  · exact h.elim
theorem vCall_sound (c : Call) (ty : TypeId) (h : vCall P c ty σ K w) : vX P (.call c) ty σ w K := by
  unfold vCall at h
  split at h
  · rename_i f hc
    exact vCallV_sound c ty f hc h
  · rename_i hc
    unfold vX exe; rw [run_maxmin _ c hc]; exact h
  · rename_i hc
    unfold vX exe; rw [run_maxmin _ c hc]; exact h
  · rename_i b _ _ hc
    split at h
    · obtain ⟨v, hv, hk⟩ := vBi_some b c hc ty h
      unfold vX; rw [hv w (Below.refl _ _)]; exact hk
    · exact h
  · exact h
theorem steady_part {t : TypeId} {cs : Array Value} {off : Nat} (h : vPart (oneD (P.underlying t)) (aggD P t (P.underlying t)) cs off K w) : ∃ v, Steady P (part t cs off) v ∧ K v w := by
  unfold vPart at h
  split at h
  · rename_i h1
    split at h
    · rename_i v hv
      exact ⟨v, fun w' => by simp [part, run_isAgg h1, hv], h⟩
    · exact h.elim
  · rename_i n h1 h2
    obtain ⟨_, hs⟩ := run_isAgg_yes h2 w
    exact ⟨_, fun w' => by simp [part, (run_isAgg_yes h2 w').1, run_sizeOf hs], h⟩
  · exact h.elim
theorem steady_index {t : TypeId} {u : Option TypeDesc} {x i : Value} (hu : P.underlying t = u) (h : vIndexD P t u x i K w) : (∃ v, Steady P (Instr.index t x i) v ∧ K v w) ∨ vcUp P K ((val (Instr.index t x i)).run P w) := by
  unfold vIndexD at h
  split at h
  · rename_i n e cs k j
    obtain ⟨hj, h⟩ := h
    split at h
    · rename_i s hs
      obtain ⟨v, hv, hk⟩ := steady_part h
      exact .inl ⟨v, fun w' => by simp [Instr.index, asIntOf, run_underlying hu, hj, run_sizeOf hs, hv w'], hk⟩
    · exact h.elim
  · rename_i s k j
    obtain ⟨h0, b, hb, hk⟩ := h
    exact .inl ⟨_, fun w' => by simp [Instr.index, asIntOf, run_underlying hu, h0, hb], hk⟩
  · exact .inr h
theorem vIndex_sound (t : TypeId) (x i : Value) (h : vIndex P t x i K w) : vcUp P K ((val (Instr.index t x i)).run P w) := by
  rcases steady_index rfl h with ⟨v, hv, hk⟩ | h
  · exact hv.up hk
  · exact h
theorem steady_field {t : TypeId} {f : Option (Nat × TypeId)} {x : Value} {i : Nat} (hf : fieldOf P t i = f) (h : vFieldD P t f x i K w) : (∃ v, Steady P (Instr.field t x i) v ∧ K v w) ∨ vcUp P K ((val (Instr.field t x i)).run P w) := by
  unfold vFieldD at h
  split at h
  · rename_i off ft cs
    obtain ⟨v, hv, hk⟩ := steady_part h
    refine .inl ⟨v, fun w' => ?_, hk⟩
    unfold fieldOf at hf
    split at hf
    · rename_i fs hu
      obtain ⟨fl, hfl, he⟩ := Option.map_eq_some_iff.1 hf
      simp only [Prod.mk.injEq] at he
      obtain ⟨rfl, rfl⟩ := he
      simp [Instr.field, run_underlying hu, hfl, asAgg, hv w']
    · cases hf
  · exact .inr h
theorem vField_sound (t : TypeId) (x : Value) (f : Nat) (h : vField P t x f K w) : vcUp P K ((val (Instr.field t x f)).run P w) := by
  rcases steady_field rfl h with ⟨v, hv, hk⟩ | h
  · exact hv.up hk
  · exact h
theorem vcOp_sound (op : Op) (ty : TypeId) (h : vcOp P op ty σ w K) : vX P op ty σ w K := by
  unfold vcOp at h
  split at h
  · exact h
  · exact h
  · unfold vPick at h
    split at h
    · rename_i t hc
      unfold vX exe
      simp only [execOp, hc]
      simp only [asBool]
      cases t <;> exact h
    · exact h.elim
  · exact vBin_sound _ _ _ _ _ _ h
  · exact vUn_sound _ _ h
  · exact vConv_sound _ _ _ h
  · exact vLoad_sound _ _ h
  · exact vStore_sound _ _ _ h
  · exact vAlloc_sound _ h
  · unfold vX exe
    simp only [execOp]
    show vcUp P K ((val (Instr.box _ _)).run P w)
    rw [run_val_pure (run_box _ _ w)]; exact h
  · obtain ⟨v, hv, hk⟩ := vFieldAddr_some h
    exact hv.up hk
  · exact vField_sound _ _ _ h
  · exact vIndexAddr_sound _ _ _ h
  · exact vIndex_sound _ _ _ h
  · exact vSlice_sound _ _ _ _ _ h
  · exact h
  · exact h
  · exact h
  · exact h
  · unfold vExtract at h
    split at h
    · rename_i vs hx
      split at h
      · rename_i v hv
        unfold vX exe
        simp only [execOp, hx, Instr.extract, hv]
        exact h
      · exact h.elim
    · exact h.elim
  · unfold vNil vNilV at h
    split at h
    · rename_i a hx
      unfold vX exe
      simp only [execOp, hx]
      exact h
    · exact h
  · exact vCall_sound _ _ h
  · exact h
end ops
end Go.Vc
end
section
namespace Go.Vc
open Go.RowKit Go.Sort
variable {P : Program}
theorem exe_oper {o : Oper} {a : Act} {n : Nat} {ds : List Deferred} {σ : Env} (hr : Rep n a ds σ) (w : World) : (execOp a.eval o).run P w = exe P o.op o.type σ w := by
  rw [hr.eval]; rfl
theorem vcUp_upon {K : Value → World → Prop} {ro : Option Nat} {o : Oper} {a : Act} {next : Act → World → Prop} {Q : Exit → Act → World → Prop} {r : Result Next}
    (h : vcUp P K r) (hk : ∀ v w, K v w → next (a.put o.dst v) w) : o.uponIn (Fw ro) 0 P a next Q r := by
  unfold vcUp at h
  split at h
  · exact hk _ _ h
  · exact hk _ _ h
  · refine ⟨fun x => by simp [Fw] at x, ?_⟩
    refine (callsIn_Fw ro _).2 (Calls.mono h ?_)
    rintro e w' ⟨v, rfl, hv⟩
    exact hk _ _ hv
  · refine ⟨fun x => by simp [Fw] at x, ?_⟩
    refine roundIn_Fw ro (RoundIn.mono h ?_)
    rintro e w' ⟨v, rfl, hv⟩
    exact hk _ _ hv
  · exact h.elim
theorem wanted_eq {ops : Array Oper} {o : Oper} {n : Nat} {a : Act} {ds : List Deferred} {σ : Env} (hr : Rep n a ds σ) (hok : okOper n ops o = true) {A B : Prop} (h : vGd (strip ops o).guard σ A B) :
    (Region.wanted o (yielded ops a.tmps) = true ∧ A) ∨ (Region.wanted o (yielded ops a.tmps) = false ∧ B) := by
  cases hg : o.guard with
  | none =>
    simp only [strip, hg, Option.map_none, vGd] at h
    exact .inl ⟨by simp [Region.wanted, hg], h⟩
  | some g =>
    obtain ⟨j, want⟩ := g
    have hs : ((ops[j]?).bind (·.dst)).isSome = true := by
      simp only [okOper, hg, Bool.and_eq_true] at hok; exact hok.1.2
    obtain ⟨s, hs⟩ := Option.isSome_iff_exists.1 hs
    simp only [strip, hg, Option.map_some, hs, Option.getD_some, vGd] at h
    have hat := hr.at_ s
    have hy : yielded ops a.tmps j = (match σ s with | .bool b => some b | _ => none) := by
      unfold yielded
      rw [hs]
      simp only [Option.bind_some]
      rw [Array.getD_eq_getD_getElem?] at hat
      cases hv : a.tmps[s]? with
      | none => rw [hv] at hat; simp at hat; rw [← hat]; rfl
      | some v => rw [hv] at hat; simp at hat; rw [← hat]; cases v <;> rfl
    simp only [Region.wanted, hg, hy]
    split at h
    · rename_i b hb
      simp only [hb] at *
      by_cases e : b = want
      · rw [if_pos e] at h; exact .inl ⟨by simp [e], h⟩
      · rw [if_neg e] at h; exact .inr ⟨by simp [e], h⟩
    · rename_i hb
      refine .inr ⟨?_, h⟩
      cases hv : σ s <;> simp_all
theorem okOper_dst {n : Nat} {ops : Array Oper} {o : Oper} (h : okOper n ops o = true) : o.dst.all (fun d => decide (d < n)) = true := by
  simp only [okOper, Bool.and_eq_true] at h; exact h.1.1
theorem okOper_defer {n : Nat} {ops : Array Oper} {o : Oper} (h : okOper n ops o = true) : ∀ c, o.op ≠ .defer c := by
  simp only [okOper, Bool.and_eq_true] at h
  intro c hc; rw [hc] at h; simp [notDefer] at h
def Fr (W : List Nat) (σ : Env) (Q : Post) : Post := fun e ds' σ' w' => Q e ds' σ' w' ∧ ∀ i, i ∉ W → σ' i = σ i
theorem put_frame {W : List Nat} {σ σ0 : Env} {d : Option Nat} {v : Value} (h : ∀ i, i ∉ W → σ i = σ0 i) (hd : ∀ x, d = some x → x ∈ W) : ∀ i, i ∉ W → put σ d v i = σ0 i := by
  intro i hi
  cases d with
  | none => exact h i hi
  | some d =>
    have : i ≠ d := fun e => hi (e ▸ hd d rfl)
    simp only [put, upd, if_neg this]; exact h i hi
theorem vcOps_sound {n : Nat} {ro : Option Nat} {ops : Array Oper} {Q : Post} {ds : List Deferred} {W : List Nat} {σ0 : Env} (l : List Oper) : ∀ (σ : Env) (w : World) (a : Act), Rep n a ds σ → l.all (okOper n ops) = true →
    (∀ o ∈ l, ∀ x, o.dst = some x → x ∈ W) → (∀ i, i ∉ W → σ i = σ0 i) → vcOps P (l.map (strip ops)) (Q .normal ds) σ w → wpListIn (Fw ro) 0 P ops (lift n (Fr W σ0 Q)) l a w := by
  induction l with
  | nil => intro σ w a hr _ _ hf h; exact ⟨ds, σ, hr, h, hf⟩
  | cons o l ih =>
    intro σ w a hr hok hW hf h
    simp only [List.all_cons, Bool.and_eq_true] at hok
    simp only [List.map_cons, vcOps] at h
    have hW1 := hW o (List.mem_cons_self ..)
    have hW2 : ∀ o ∈ l, ∀ x, o.dst = some x → x ∈ W := fun o ho => hW o (List.mem_cons_of_mem _ ho)
    unfold wpListIn
    rcases wanted_eq hr hok.1 h with ⟨hw, h⟩ | ⟨hw, h⟩
    · rw [if_pos hw]
      refine ⟨fun _ _ => trivial, ?_⟩
      rw [Oper.semAt_eq _ _ _ (okOper_defer hok.1), exe_oper hr]
      refine vcUp_upon (vcOp_sound _ _ h) fun v w' hv => ih _ _ _ (hr.put (okOper_dst hok.1) v) hok.2 hW2 (put_frame hf hW1) hv
    · rw [if_neg (by simp [hw])]
      exact ⟨fun _ _ => trivial, ih _ _ _ (hr.put (okOper_dst hok.1) _) hok.2 hW2 (put_frame hf hW1) h⟩
/-! ### the drawn regions -/
theorem qX_steady {op : Op} {ty : TypeId} {σ : Env} {w : World} {K : Value → Prop} {v : Value} (h : ∀ w', exe P op ty σ w' = .ok (.value v) w') (hk : K v) : qX P op ty σ w K :=
  ⟨v, fun w' _ => by rw [h]; exact ⟨rfl, rfl⟩, hk⟩
theorem Later.refl (w : World) : Later w w := Below.refl _ _
theorem Later.trans {a b c : World} (h : Later a b) (k : Later b c) : Later a c := Below.trans h (Below.mono k h.size)
theorem Later.cell {w w' : World} (h : Later w w') {a : Addr} {v : Value} (hc : w.cell? a = some v) : w'.cell? a = some v := by
  rw [Below.cell h (block_lt_of_cell hc)]; exact hc
theorem cellsAt_later {w w' : World} (h : Later w w') (n : Nat) : ∀ {a : Addr} {cs : List Value}, cellsAt w a n = some cs → cellsAt w' a n = some cs := by
  induction n with
  | zero => intro a cs hc; exact hc
  | succ n ih =>
    intro a cs hc
    unfold cellsAt at hc ⊢
    split at hc
    · rename_i v hv
      rw [h.cell hv]
      split at hc
      · rename_i l hl
        rw [ih hl]; exact hc
      · cases hc
    · cases hc
theorem Later.cellsAt {w w' : World} (h : Later w w') {n : Nat} {a : Addr} {cs : List Value} (hc : Vc.cellsAt w a n = some cs) : Vc.cellsAt w' a n = some cs := cellsAt_later h n hc
theorem steady_index' {t : TypeId} {u : Option TypeDesc} {x i : Value} {K : Value → Prop} {w : World} (hu : P.underlying t = u) (h : vIndexD P t u x i (fun v _ => K v) w) (hx : (∃ n e cs k j, u = some (.array n e) ∧ x = .agg cs ∧ i = .int k j) ∨ (∃ s k j, u = some .string ∧ x = .string s ∧ i = .int k j)) : ∃ v, Steady P (Instr.index t x i) v ∧ K v := by
  rcases hx with ⟨n, e, cs, k, j, rfl, rfl, rfl⟩ | ⟨s, k, j, rfl, rfl, rfl⟩
  · simp only [vIndexD] at h
    obtain ⟨hj, h⟩ := h
    split at h
    · rename_i s hs
      obtain ⟨v, hv, hk⟩ := steady_part h
      exact ⟨v, fun w' => by simp [Instr.index, asIntOf, run_underlying hu, hj, run_sizeOf hs, hv w'], hk⟩
    · exact h.elim
  · simp only [vIndexD] at h
    obtain ⟨h0, b, hb, hk⟩ := h
    exact ⟨_, fun w' => by simp [Instr.index, asIntOf, run_underlying hu, h0, hb], hk⟩
theorem steady_field' {t : TypeId} {off : Nat} {ft : TypeId} {cs : Array Value} {i : Nat} {K : Value → Prop} {w : World} (hf : fieldOf P t i = some (off, ft)) (h : vFieldD P t (some (off, ft)) (.agg cs) i (fun v _ => K v) w) : ∃ v, Steady P (Instr.field t (.agg cs) i) v ∧ K v := by
  simp only [vFieldD] at h
  obtain ⟨v, hv, hk⟩ := steady_part h
  refine ⟨v, fun w' => ?_, hk⟩
  unfold fieldOf at hf
  split at hf
  · rename_i fs hu
    obtain ⟨fl, hfl, he⟩ := Option.map_eq_some_iff.1 hf
    simp only [Prod.mk.injEq] at he
    obtain ⟨rfl, rfl⟩ := he
    simp [Instr.field, run_underlying hu, hfl, asAgg, hv w']
  · cases hf
theorem pure_of_up {s : Sem Value} {σ : Env} {op : Op} {ty : TypeId} {w : World} {K : Value → Prop} (he : ∀ w', exe P op ty σ w' = (val s).run P w')
    (h : ∃ v, Steady P s v ∧ K v) : qX P op ty σ w K := by
  obtain ⟨v, hs, hk⟩ := h
  exact qX_steady (fun w' => by rw [he, run_val_pure (hs w')]) hk
theorem vBin_int_steady (op : BinOp) (t : TypeId) (x y : Operand) (k k' : IntKind) (m n : Int) {K : Value → Prop} {w : World} (h : vBin P op t x y (.int k m) (.int k' n) (fun v _ => K v) w) :
    ∃ v, Steady P (do eqGuard op t x y (.int k m) (.int k' n); binOp op t (.int k m) (.int k' n)) v ∧ K v := by
  have eg : ∀ op w, (eqGuard op t x y (.int k m) (.int k' n)).run P w = .ok () w := by
    intro op w; unfold eqGuard; split <;> rfl
  have go : ∀ v, (∀ w, (binOp op t (.int k m) (.int k' n)).run P w = .ok v w) → K v → ∃ v, Steady P (do eqGuard op t x y (.int k m) (.int k' n); binOp op t (.int k m) (.int k' n)) v ∧ K v :=
    fun v hv hk => ⟨v, fun w => by simp [eg, hv], hk⟩
  cases op <;> simp only [vBin] at h
  case shl => exact go _ (fun w => by have e : ¬ n < 0 := by omega
                                      simp [binOp, Op.shift, e]) h.2
  case shr => exact go _ (fun w => by have e : ¬ n < 0 := by omega
                                      simp [binOp, Op.shift, e]) h.2
  all_goals obtain ⟨rfl, h⟩ := h
  all_goals simp only [iBin] at h
  case add => exact go _ (fun w => by simp [binOp, Op.intArith]) h
  case sub => exact go _ (fun w => by simp [binOp, Op.intArith]) h
  case mul => exact go _ (fun w => by simp [binOp, Op.intArith]) h
  case quo => exact go _ (fun w => by simp [binOp, Op.intDiv, h.1]) h.2
  case rem => exact go _ (fun w => by simp [binOp, Op.intDiv, h.1]) h.2
  case and => exact go _ (fun w => by simp only [binOp]; simp [run_intBits]) h
  case or => exact go _ (fun w => by simp only [binOp]; simp [run_intBits]) h
  case xor => exact go _ (fun w => by simp only [binOp]; simp [run_intBits]) h
  case andNot => exact go _ (fun w => by simp only [binOp]; simp [run_intBits]) h
  case eql => exact go _ (fun w => by simp [binOp, Op.intCmp]; rfl) h
  case neq => exact go _ (fun w => by simp [binOp, Op.intCmp]; rfl) h
  case lss => exact go _ (fun w => by simp [binOp, Op.intCmp]) h
  case leq => exact go _ (fun w => by simp [binOp, Op.intCmp]) h
  case gtr => exact go _ (fun w => by simp [binOp, Op.intCmp]) h
  case geq => exact go _ (fun w => by simp [binOp, Op.intCmp]) h
theorem vBin_string_steady (op : BinOp) (t : TypeId) (x y : Operand) (m n : ByteArray) {K : Value → Prop} {w : World} (h : vBin P op t x y (.string m) (.string n) (fun v _ => K v) w) :
    ∃ v, Steady P (do eqGuard op t x y (.string m) (.string n); binOp op t (.string m) (.string n)) v ∧ K v := by
  have eg : ∀ op w, (eqGuard op t x y (.string m) (.string n)).run P w = .ok () w := by
    intro op w; unfold eqGuard; split <;> rfl
  have go : ∀ v, (∀ w, (binOp op t (.string m) (.string n)).run P w = .ok v w) → K v → ∃ v, Steady P (do eqGuard op t x y (.string m) (.string n); binOp op t (.string m) (.string n)) v ∧ K v :=
    fun v hv hk => ⟨v, fun w => by simp [eg, hv], hk⟩
  have hl : ∀ s : ByteArray, s.data.toList = s.toList := fun s => (ByteArray.toList_eq s).symm
  cases op <;> simp only [vBin, sBin] at h
  case add => exact go _ (fun w => by
    have e : ¬ ((m.size + n.size : Nat) : Int) > IntKind.i64.max := by
      have : IntKind.i64.max = 9223372036854775807 := by decide
      rw [this]; omega
    simp only [binOp, Op.stringOp, if_neg e]; rfl) h.2
  case eql => exact go _ (fun w => by simp only [binOp, Op.stringOp, eq_toList]; rfl) h
  case neq => exact go _ (fun w => by simp only [binOp, Op.stringOp, eq_toList]; rfl) h
  case lss => exact go _ (fun w => by simp only [binOp, Op.stringOp]; rw [← hl, ← hl]; rfl) h
  case leq => exact go _ (fun w => by simp only [binOp, Op.stringOp, eq_toList]; rw [← hl, ← hl]; rfl) h
  case gtr => exact go _ (fun w => by simp only [binOp, Op.stringOp, eq_toList]; rw [← hl, ← hl]; rfl) h
  case geq => exact go _ (fun w => by simp only [binOp, Op.stringOp]; rw [← hl, ← hl]; rfl) h
theorem hasBody_of {f : FuncId} {fn : Func} (hf : P.funcs[f]? = some fn) (h : (fn.name != "runtime.NumGoroutine" && fn.body.isSome) = true) : HasBody P f := fun args w => by
  simp only [Bool.and_eq_true, bne_iff_ne, ne_eq] at h
  cases hb : fn.body with
  | none => simp [hb] at h
  | some c => simp [callFunc, program, Sem.run, hf, h.1, hb]
theorem HasBody.fn {f : FuncId} (hb : HasBody P f) {args : Array Value} {w : World} {R : Value → World → Prop} (h : Ret P f args w R) : FnC P f args w R := by
  unfold FnC; rw [hb]; exact h
theorem HasBody.ret {f : FuncId} (hb : HasBody P f) {args : Array Value} {w : World} {R : Value → World → Prop} (h : FnC P f args w R) : Ret P f args w R := by
  unfold FnC at h; rw [hb] at h; exact h
theorem QFn.of {f : FuncId} (hb : HasBody P f) {args : Array Value} {w : World} {K : Value → Prop} {v : Value} (h : ∀ w', Later w w' → FnC P f args w' fun u w'' => u = v ∧ Later w' w'') (hk : K v) : QFn P f args w K := by
  refine ⟨v, fun w' hw => ?_, hk⟩
  rw [hb]
  refine ⟨rfl, Calls.mono (hb.ret (h w' hw)) ?_⟩
  rintro e w'' ⟨u, rfl, rfl, hl⟩
  exact ⟨rfl, hl⟩
theorem qNilB_sound {op : BinOp} {t ty u : TypeId} {x y : Operand} {σ : Env} {w : World} {K : Value → Prop} {k k' : Nat} {b : Bool} (hr : (refV (ev σ x) && refV (ev σ y)) = true)
    (he : k = k' → ∀ w, (Op.equal t (ev σ x) (ev σ y)).run P w = .ok b w) (h : qNilB op k k' b K) : qX P (.binOp op t x y u) ty σ w K := by
  unfold qNilB at h
  split at h
  · refine pure_of_up (s := do eqGuard .eql t x y (ev σ x) (ev σ y); binOp .eql t (ev σ x) (ev σ y)) (fun w' => ?_) ⟨_, fun w' => run_nil_eql (he h.1) hr, h.2⟩
    unfold exe; simp only [execOp]; rfl
  · refine pure_of_up (s := do eqGuard .neq t x y (ev σ x) (ev σ y); binOp .neq t (ev σ x) (ev σ y)) (fun w' => ?_) ⟨_, fun w' => run_nil_neq (he h.1) hr, h.2⟩
    unfold exe; simp only [execOp]; rfl
  · exact h.elim
theorem qOp_sound (op : Op) (ty : TypeId) {σ : Env} {w : World} {K : Value → Prop} (h : qOp P op ty σ w K) : qX P op ty σ w K := by
  unfold qOp at h
  split at h
  · exact qX_steady (fun _ => rfl) h
  · exact qX_steady (fun _ => rfl) h
  · rename_i c a b
    unfold vPick at h
    split at h
    · rename_i t hc
      refine qX_steady (v := if t = true then ev σ a else ev σ b) (fun w' => ?_) (by cases t <;> exact h)
      unfold exe
      simp only [execOp, hc, asBool]
      cases t <;> rfl
    · exact h.elim
  · unfold qBin at h
    split at h
    · rename_i h1 h2
      refine pure_of_up (fun w' => ?_) (vBin_int_steady _ _ _ _ _ _ _ _ h)
      unfold exe; simp only [execOp, h1, h2]; rfl
    · rename_i h1 h2
      refine pure_of_up (fun w' => ?_) (vBin_string_steady _ _ _ _ _ _ h)
      unfold exe; simp only [execOp, h1, h2]; rfl
    · rename_i h1 h2
      exact qNilB_sound (by rw [h1, h2]; rfl) (fun hk w' => by rw [h1, h2]; exact run_eq_ptr_nil (eqKind_one hk) _ w') h
    · rename_i h1 h2
      exact qNilB_sound (by rw [h1, h2]; rfl) (fun hk w' => by rw [h1, h2]; exact run_eq_slice_nil (eqKind_two hk) _ _ _ _ _ w') h
    · unfold qBinB at h
      split at h
      · rename_i h1 h2
        exact qNilB_sound (by rw [h1, h2]; rfl) (fun hk w' => by rw [h1, h2]; exact run_eq_bool (eqKind_four hk) _ _ w') h
      · exact h
  · unfold qUn at h
    split at h
    · rename_i h1
      refine qX_steady (fun w' => ?_) h
      unfold exe; simp only [execOp, h1]; rfl
    · rename_i h1
      refine qX_steady (fun w' => ?_) h
      unfold exe; simp only [execOp, h1]; rfl
    · rename_i h1
      refine qX_steady (fun w' => ?_) h
      unfold exe; simp only [execOp, h1, Op.unary]; exact run_val_pure (run_intBits .xor (by simp) _ _ _)
    · exact h
  · unfold qConv at h
    rename_i s d x
    split at h
    · rename_i ds k k' n hs hd hx
      refine pure_of_up (s := convert s d (ev σ x)) (fun w' => ?_) ⟨.int k (k.wrap n), fun w' => ?_, h⟩
      · unfold exe; simp only [execOp]; rfl
      · rw [hx]
        unfold convert
        simp [run_underlying hs, run_underlying hd]
        cases ds <;> simp [Conv.intToInt]
    · rename_i ds st hs hd hx
      refine pure_of_up (s := convert s d (ev σ x)) (fun w' => ?_) ⟨.string st, fun w' => ?_, h⟩
      · unfold exe; simp only [execOp]; rfl
      · rw [hx]
        unfold convert
        simp [run_underlying hs, run_underlying hd]
    · exact h
  · unfold qLoad at h
    rename_i t x
    split at h
    · rename_i a ha hx
      obtain ⟨v, hv, hk⟩ := h
      refine ⟨v, fun w' hw => ?_, hk⟩
      have hv' := hw.cell hv
      have : (Instr.loadAt t (ev σ x)).run P w' = .ok v w' := by rw [hx]; simp [Instr.loadAt, Instr.sureAddr, loadVar, run_isAgg ha, hv']
      have e : exe P (.load t x) ty σ w' = .ok (.value v) w' := by unfold exe; simp only [execOp]; exact run_val_pure this
      rw [e]; exact ⟨rfl, rfl⟩
    · unfold qLoadA at h
      split at h
      · rename_i n a hn hx
        obtain ⟨cs, hcs, hk⟩ := h
        refine ⟨_, fun w' hw => ?_, hk⟩
        obtain ⟨h1, h2⟩ := run_isAgg_yes hn w'
        have this : (Instr.loadAt t (ev σ x)).run P w' = .ok (.agg cs.toArray) w' := by rw [hx]; simp [Instr.loadAt, Instr.sureAddr, loadVar, h1, run_sizeOf h2, run_loadCells' (hw.cellsAt hcs)]
        have e : exe P (.load t x) ty σ w' = .ok (.value (.agg cs.toArray)) w' := by unfold exe; simp only [execOp]; exact run_val_pure this
        rw [e]; exact ⟨rfl, rfl⟩
      · exact h
  · refine pure_of_up (fun w' => ?_) (vFieldAddr_some h)
    unfold exe; simp only [execOp]; rfl
  · unfold qIndexAddr at h
    rename_i t x i
    split at h
    · rename_i e a n c k j hu hx hi
      obtain ⟨z, hz, hr, hk⟩ := vAt_some h
      refine pure_of_up (s := Instr.indexAt t (ev σ x) (ev σ i)) (fun w' => ?_) ⟨_, by rw [hx, hi]; exact steady_index_slice hu hz hr, hk⟩
      unfold exe; simp only [execOp]; rfl
    · rename_i n e a k j hu hx hi
      obtain ⟨z, hz, hr, hk⟩ := vAt_some h
      refine pure_of_up (s := Instr.indexAt t (ev σ x) (ev σ i)) (fun w' => ?_) ⟨_, by rw [hx, hi]; exact steady_index_array hu hz hr, hk⟩
      unfold exe; simp only [execOp]; rfl
    · exact h
  · unfold qIndex at h
    rename_i t x i
    split at h
    · rename_i n e cs k j hu hx hi
      refine pure_of_up (s := Instr.index t (ev σ x) (ev σ i)) (fun w' => ?_) (by rw [hx, hi]; exact steady_index' hu h (.inl ⟨_, _, _, _, _, rfl, rfl, rfl⟩))
      unfold exe; simp only [execOp]; rfl
    · rename_i s k j hu hx hi
      refine pure_of_up (s := Instr.index t (ev σ x) (ev σ i)) (fun w' => ?_) (by rw [hx, hi]; exact steady_index' hu h (.inr ⟨_, _, _, rfl, rfl, rfl⟩))
      unfold exe; simp only [execOp]; rfl
    · exact h
  · unfold qField at h
    rename_i t x f
    split at h
    · rename_i off ft cs hf hx
      refine pure_of_up (s := Instr.field t (ev σ x) f) (fun w' => ?_) (by rw [hx]; exact steady_field' hf h)
      unfold exe; simp only [execOp]; rfl
    · exact h
  · unfold qSlice at h
    rename_i t x lo hi mx
    split at h
    · rename_i e a n c hu hx
      refine pure_of_up (s := Instr.sliceAt t (ev σ x) (lo.map (ev σ)) (hi.map (ev σ)) (mx.map (ev σ))) (fun w' => ?_) (by rw [hx]; exact vSlice_some hu h)
      unfold exe; simp only [execOp]; rfl
    · rename_i s hu hx
      refine pure_of_up (s := Instr.sliceAt t (ev σ x) (lo.map (ev σ)) (hi.map (ev σ)) (mx.map (ev σ))) (fun w' => ?_) (by rw [hx]; exact vSub_some hu h)
      unfold exe; simp only [execOp]; rfl
    · exact h
  · exact qX_steady (fun _ => rfl) h
  · unfold vExtract at h
    split at h
    · rename_i vs hx
      split at h
      · rename_i v hv
        refine qX_steady (fun w' => ?_) h
        unfold exe
        simp only [execOp, hx, Instr.extract, hv]
        rfl
      · exact h.elim
    · exact h.elim
  · unfold qNil at h
    split at h
    · rename_i a hx
      refine qX_steady (fun w' => ?_) h
      unfold exe; simp only [execOp, hx]; rfl
    · exact h
  · rename_i c
    unfold qCall at h
    split at h
    · rename_i f hc
      unfold qCallV at h
      split at h
      · rename_i g first captured hf
        obtain ⟨v, hv, hk⟩ := h
        refine ⟨v, fun w' hw => ?_, hk⟩
        have : execOp (ev σ) { dst := none, op := .call c, type := ty, pos := "", after := #[], guard := none } = callFunc g (first ++ c.args.map (ev σ) ++ captured) := by
          simp only [execOp, resolve, hc, hf, Deferred.ofValue]
          rfl
        unfold exe; rw [this]; exact hv w' hw
      · exact h
    · rename_i b hc
      split at h
      · obtain ⟨v, hv, hk⟩ := vBi_some b c hc ty h
        exact ⟨v, fun w' hl => by rw [hv w' hl]; exact ⟨rfl, rfl⟩, hk⟩
      · exact h
    · exact h
  · exact h
theorem qOps_sound {n : Nat} {ops : Array Oper} {K : Act → Prop} {w : World} {ds : List Deferred} {K' : Env → Prop} {W : List Nat} {σ0 : Env} (hK : ∀ a σ, Rep n a ds σ → (∀ i, i ∉ W → σ i = σ0 i) → K' σ → K a) (l : List Oper) : ∀ (σ : Env) (a : Act), Rep n a ds σ → l.all (okOper n ops) = true →
    (∀ o ∈ l, ∀ x, o.dst = some x → x ∈ W) → (∀ i, i ∉ W → σ i = σ0 i) → qOps P (l.map (strip ops)) K' σ w → wpQuietIn Fence.wide 0 P ops (fun w' => ∃ p : Regrown, w' = grow (redrawn w p.d) p.os) K l a := by
  induction l with
  | nil => intro σ a hr _ _ hf h; exact hK _ _ hr hf h
  | cons o l ih =>
    intro σ a hr hok hW hf h
    have hW1 := hW o (List.mem_cons_self ..)
    have hW2 : ∀ o ∈ l, ∀ x, o.dst = some x → x ∈ W := fun o ho => hW o (List.mem_cons_of_mem _ ho)
    simp only [List.all_cons, Bool.and_eq_true] at hok
    simp only [List.map_cons, qOps] at h
    unfold wpQuietIn
    refine ⟨fun _ _ _ _ => trivial, ?_⟩
    rcases wanted_eq hr hok.1 h with ⟨hw, h⟩ | ⟨hw, h⟩
    · rw [if_pos hw]
      obtain ⟨v, hv, hk⟩ := qOp_sound _ _ h
      refine ⟨v, ?_, ih _ _ (hr.put (okOper_dst hok.1) v) hok.2 hW2 (put_frame hf hW1) hk⟩
      rintro w' ⟨p, rfl⟩
      have hl : Later w (grow (redrawn w p.d) p.os) := below_regrown w p.d p.os
      have hq : qUp P (grow (redrawn w p.d) p.os) v (exe P o.op o.type σ (grow (redrawn w p.d) p.os)) := hv _ hl
      unfold Oper.quietAtIn
      rw [exe_oper hr]
      generalize exe P o.op o.type σ (grow (redrawn w p.d) p.os) = r at hq ⊢
      cases r with
      | halt => exact hq.elim
      | ok nx w2 =>
        cases nx with
        | value u => exact hq
        | skip => exact hq
        | enter f args =>
          refine ⟨hq.1, fun x => by simp [Fence.wide] at x, ?_⟩
          refine callsIn_wide.2 (Calls.mono hq.2 ?_)
          rintro e w'' ⟨he, hw''⟩
          exact ⟨he, regrown_of_below (hl.trans hw'')⟩
        | _ => exact hq.elim
    · rw [if_neg (by simp [hw])]
      exact ih _ _ (hr.put (okOper_dst hok.1) _) hok.2 hW2 (put_frame hf hW1) h
end Go.Vc
end
