/- A verification-condition generator over the model's code: functions on a plain environment of slots, proved sound against the kit's 'wpIn'. -/
import Derived.TacticsIn
import Derived.Lib.QuietBelowIn
import Derived.WalkKit
import Derived.Sort.LoopGhostIn
import Derived.RangeFuncWrites
namespace Go.Vc
open Go.RowKit

abbrev Env := Nat → Value
def upd (σ : Env) (d : Nat) (v : Value) : Env := fun i => if i = d then v else σ i
def put (σ : Env) (d : Option Nat) (v : Value) : Env := match d with
  | some d => upd σ d v
  | none => σ
def ev (σ : Env) : Operand → Value
  | .tmp t => σ t
  | .const v => v
  | .global g => .pointer (some ⟨g, 0, none⟩)
  | .func f => .func (.func f) #[] #[]

structure VOp where
  dst : Option Nat
  op : Op
  type : TypeId
  guard : Option (Nat × Bool)

inductive VC where
  | skip
  | region (ops : List VOp)
  | draw (ops : List VOp) (nd : Nat)
  | seq (a b : VC)
  | cond (c : Operand) (a b : VC)
  | block (id : Nat) (c : VC)
  | loop (c : VC)
  | exit (id : Nat)
  | ret
  | rangeFunc (g : Operand) (ps : List Nat) (asg body : VC)
  | refuse

def strip (ops : Array Oper) (o : Oper) : VOp :=
  ⟨o.dst, o.op, o.type, o.guard.map fun g => (((ops[g.1]?).bind (·.dst)).getD 0, g.2)⟩
def notDefer : Op → Bool
  | .defer _ => false
  | _ => true
def okOper (n : Nat) (ops : Array Oper) (o : Oper) : Bool :=
  o.dst.all (fun d => decide (d < n)) && (match o.guard with
    | none => true
    | some g => ((ops[g.1]?).bind (·.dst)).isSome) && notDefer o.op
/-- A region that draws its order, of this shape: each slot is written once; who reads it and who writes it wait for one another, as the text has them. -/
def okN (ops : Array Oper) : Bool :=
  (List.range ops.size).all fun j => match ops[j]? with
    | none => true
    | some o => (List.range ops.size).all (fun i => i == j || o.dst.isNone || (ops[i]?).bind (·.dst) != o.dst) && o.after.all (fun e => !Region.binds .any e || decide (e.on < j)) && (o.looksAt ops).all fun t => (List.range ops.size).all fun i => match ops[i]? with
      | none => true
      | some o' => o'.dst != some t || i == j || (if i < j then o.after.any (fun e => Region.binds .any e && e.on == i) else o'.after.any (fun e => Region.binds .any e && e.on == j))
/-- From the operation k on they come last in every order, one behind the other: each ahead of k has one behind it, up to k, that waits for it; each behind k waits for the one ahead. -/
def waits (ops : Array Oper) (i j : Nat) : Bool := match ops[i]? with
  | none => false
  | some o => o.after.any fun e => Region.binds .any e && e.on == j
def okK (ops : Array Oper) (k : Nat) : Bool :=
  decide (k < ops.size) && (List.range k).all (fun j => (List.range (k + 1)).any fun i => decide (j < i) && waits ops i j) &&
    (List.range ops.size).all fun j => decide (j ≤ k) || waits ops j (j - 1)
/-- How many come last. -/
def lastN (ops : Array Oper) : Nat := ((List.range ops.size).takeWhile fun i => okK ops (ops.size - (i + 1))).length
/-- No region draws its order. -/
def noDraw : VC → Bool
  | .draw _ _ => false
  | .seq a b => noDraw a && noDraw b
  | .cond _ a b => noDraw a && noDraw b
  | .block _ c => noDraw c
  | .loop c => noDraw c
  | .rangeFunc .. => false
  | _ => true
/-- The code without what the walk does not ask. -/
def abs (n : Nat) : Code → VC
  | .skip => .skip
  | .region _ ops d => if ops.toList.all (okOper n ops) then
      (if d then (if Region.lexB .any ops then .draw (ops.toList.map (strip ops)) (if okN ops then 1 + lastN ops else 0) else .refuse) else .region (ops.toList.map (strip ops)))
    else .refuse
  | .seq a b => .seq (abs n a) (abs n b)
  | .cond c a b => .cond c (abs n a) (abs n b)
  | .block id c => .block id (abs n c)
  | .loop c => .loop (abs n c)
  | .exit id => .exit id
  | .ret => .ret
  | .rangeFunc g ps a c => if ps.toList.all (fun d => decide (d < n)) && noDraw (abs n a) && noDraw (abs n c) then .rangeFunc g ps.toList (abs n a) (abs n c) else .refuse
  | _ => .refuse

/-- A call in the plain sense: it returns, and R holds of what it returns and of the world behind it. -/
def Ret (P : Program) (f : FuncId) (args : Array Value) (w : World) (R : Value → World → Prop) : Prop :=
  Calls P f args w fun e w' => ∃ v, e = .returned v ∧ R v w'
def val (s : Sem Value) : Sem Next := do pure (Next.value (← s))
def unt (s : Sem Unit) : Sem Next := do s; pure Next.skip
def vcUp (P : Program) (K : Value → World → Prop) : Result Next → Prop
  | .ok (.value v) w => K v w
  | .ok .skip w => K undef w
  | .ok (.enter f args) w => Ret P f args w K
  | .ok (.round l f tmps assign body) w => RoundIn Fence.wide 0 P l f tmps assign body w fun e w' => ∃ v, e = .returned v ∧ K v w'
  | _ => False
/-- The contract of a function: the call of f with these arguments. -/
def FnC (P : Program) (f : FuncId) (args : Array Value) (w : World) (R : Value → World → Prop) : Prop :=
  vcUp P R ((callFunc f args).run P w)
def exe (P : Program) (op : Op) (ty : TypeId) (σ : Env) (w : World) : Result Next :=
  (execOp (ev σ) { dst := none, op, type := ty, pos := "", after := #[], guard := none }).run P w
/-- The call of a loop's yield. -/
def YldC (P : Program) (l : Nat) (args : Array Value) (w : World) (K : Value → World → Prop) : Prop := vcUp P K ((Instr.yield l args).run P w)
/-- An operation without a form of its own. -/
def vX (P : Program) (op : Op) (ty : TypeId) (σ : Env) (w : World) (K : Value → World → Prop) : Prop := vcUp P K (exe P op ty σ w)

/-! ### The forms of the operations -/
def vPick (c a b : Value) (K : Value → World → Prop) (w : World) : Prop := match c with
  | .bool t => if t = true then K a w else K b w
  | _ => False
def bitI (op : BinOp) (k : IntKind) (a b : Int) : Int := k.wrap (match op with
  | .and => BitVec.ofInt k.bits a &&& BitVec.ofInt k.bits b
  | .or => BitVec.ofInt k.bits a ||| BitVec.ofInt k.bits b
  | .xor => BitVec.ofInt k.bits a ^^^ BitVec.ofInt k.bits b
  | _ => BitVec.ofInt k.bits a &&& ~~~(BitVec.ofInt k.bits b) : BitVec k.bits).toNat
def iBin (op : BinOp) (k : IntKind) (a b : Int) (K : Value → World → Prop) (w : World) : Prop := match op with
  | .add => K (.int k (k.wrap (a + b))) w
  | .sub => K (.int k (k.wrap (a - b))) w
  | .mul => K (.int k (k.wrap (a * b))) w
  | .quo => ¬ b = 0 ∧ K (.int k (k.wrap (a.tdiv b))) w
  | .rem => ¬ b = 0 ∧ K (.int k (a.tmod b)) w
  | .and => K (.int k (bitI .and k a b)) w
  | .or => K (.int k (bitI .or k a b)) w
  | .xor => K (.int k (bitI .xor k a b)) w
  | .andNot => K (.int k (bitI .andNot k a b)) w
  | .eql => K (.bool (decide (a = b))) w
  | .neq => K (.bool (!decide (a = b))) w
  | .lss => K (.bool (decide (a < b))) w
  | .leq => K (.bool (decide (a ≤ b))) w
  | .gtr => K (.bool (decide (b < a))) w
  | .geq => K (.bool (decide (b ≤ a))) w
  | _ => False
def sBin (op : BinOp) (a b : ByteArray) (K : Value → World → Prop) (w : World) : Prop := match op with
  | .add => a.size + b.size ≤ 9223372036854775807 ∧ K (.string (a ++ b)) w
  | .eql => K (.bool (decide (a = b))) w
  | .neq => K (.bool (!decide (a = b))) w
  | .lss => K (.bool (Op.bytesLess a.data.toList b.data.toList)) w
  | .leq => K (.bool (Op.bytesLess a.data.toList b.data.toList || decide (a = b))) w
  | .gtr => K (.bool (!(Op.bytesLess a.data.toList b.data.toList || decide (a = b)))) w
  | .geq => K (.bool (!Op.bytesLess a.data.toList b.data.toList)) w
  | _ => False
/-- Which nil a type has. -/
def eqKind : Option TypeDesc → Nat
  | some (.pointer _) => 1
  | some (.slice _) => 2
  | some (.map _ _) => 3
  | some .bool => 4
  | _ => 0
def vBin (P : Program) (op : BinOp) (t : TypeId) (x y : Operand) (a b : Value) (K : Value → World → Prop) (w : World) : Prop :=
  match op, a, b with
  | .shl, .int k m, .int _ n => 0 ≤ n ∧ K (.int k (k.wrap (m * 2 ^ (min n.toNat k.bits)))) w
  | .shr, .int k m, .int _ n => 0 ≤ n ∧ K (.int k (m.fdiv (2 ^ (min n.toNat k.bits)))) w
  | op, .int k m, .int k' n => k = k' ∧ iBin op k m n K w
  | op, .string m, .string n => sBin op m n K w
  | .eql, .pointer a, .pointer none => eqKind (P.underlying t) = 1 ∧ K (.bool a.isNone) w
  | .neq, .pointer a, .pointer none => eqKind (P.underlying t) = 1 ∧ K (.bool (!a.isNone)) w
  | .eql, .slice a _ _, .slice none _ _ => eqKind (P.underlying t) = 2 ∧ K (.bool a.isNone) w
  | .neq, .slice a _ _, .slice none _ _ => eqKind (P.underlying t) = 2 ∧ K (.bool (!a.isNone)) w
  | .eql, .map a, .map none => eqKind (P.underlying t) = 3 ∧ K (.bool a.isNone) w
  | .eql, .bool a, .bool b => eqKind (P.underlying t) = 4 ∧ K (.bool (decide (a = b))) w
  | .neq, .bool a, .bool b => eqKind (P.underlying t) = 4 ∧ K (.bool (!decide (a = b))) w
  | op, a, b => vcUp P K ((val (do eqGuard op t x y a b; binOp op t a b)).run P w)
def vUn (P : Program) (op : UnOp) (a : Value) (K : Value → World → Prop) (w : World) : Prop :=
  match op, a with
  | .neg, .int k n => K (.int k (k.wrap (0 - n))) w
  | .xor, .int k n => K (.int k (bitI .xor k (if k.signed then -1 else k.max) n)) w
  | .not, .bool b => K (.bool (!b)) w
  | op, a => vcUp P K ((val (Op.unary op a)).run P w)
def vConvD (P : Program) (s d : TypeId) (us ud : Option TypeDesc) (a : Value) (K : Value → World → Prop) (w : World) : Prop :=
  match us, ud, a with
  | some _, some (.int k), .int _ n => K (.int k (k.wrap n)) w
  | some _, some .string, .string s => K (.string s) w
  | _, _, a => vcUp P K ((val (convert s d a)).run P w)
def vConv (P : Program) (s d : TypeId) (a : Value) (K : Value → World → Prop) (w : World) : Prop := vConvD P s d (P.underlying s) (P.underlying d) a K w
/-- How many cells a type has. -/
def szOf (P : Program) (t : TypeId) : Option Nat := (P.info? t).map (·.size)
/-- A variable of one cell. -/
def oneD : Option TypeDesc → Bool
  | some (.struct _) => false
  | some (.array _ _) => false
  | some _ => true
  | none => false
/-- n cells from an address on. -/
def cellsAt (w : World) (a : Addr) : Nat → Option (List Value)
  | 0 => some []
  | n + 1 => match w.cell? a with
    | some v => match cellsAt w (a.add 1) n with
      | some l => some (v :: l)
      | none => none
    | none => none
/-- A type that is held in cells of its own: a struct, an array; how many. -/
def aggD (P : Program) (t : TypeId) : Option TypeDesc → Option Nat
  | some (.struct _) => szOf P t
  | some (.array _ _) => szOf P t
  | _ => none
def vLoadA (P : Program) (t : TypeId) (n : Option Nat) (a : Value) (K : Value → World → Prop) (w : World) : Prop :=
  match n, a with
  | some n, .pointer (some a) => ∃ cs, cellsAt w a n = some cs ∧ K (.agg cs.toArray) w
  | _, a => vcUp P K ((val (Instr.loadAt t a)).run P w)
def vLoadD (P : Program) (t : TypeId) (one : Bool) (a : Value) (K : Value → World → Prop) (w : World) : Prop :=
  match one, a with
  | true, .pointer (some a) => ∃ v, w.cell? a = some v ∧ K v w
  | _, a => vLoadA P t (aggD P t (P.underlying t)) a K w
def vLoad (P : Program) (t : TypeId) (a : Value) (K : Value → World → Prop) (w : World) : Prop := vLoadD P t (oneD (P.underlying t)) a K w
def vAlloc (P : Program) (t : TypeId) (K : Value → World → Prop) (w : World) : Prop :=
  match P.info? t with
  | some i => match i.zero with
    | some z => K (.pointer (some ⟨w.heap.size, 0, none⟩)) (w.alloc (.cells z.cells t))
    | none => False
  | none => False
def vAt (s : Option Nat) (a : Addr) (i : Int) (n : Nat) (K : Value → World → Prop) (w : World) : Prop := match s with
  | some s => (0 ≤ i ∧ i < n) ∧ K (.pointer (some (a.add (i.toNat * s)))) w
  | none => False
def vIndexAddrD (P : Program) (t : TypeId) (u : Option TypeDesc) (x i : Value) (K : Value → World → Prop) (w : World) : Prop :=
  match u, x, i with
  | some (.slice e), .slice (some a) n _, .int _ i => vAt (szOf P e) a i n K w
  | some (.array n e), .pointer (some a), .int _ i => vAt (szOf P e) a i n K w
  | _, x, i => vcUp P K ((val (Instr.indexAt t x i)).run P w)
def vIndexAddr (P : Program) (t : TypeId) (x i : Value) (K : Value → World → Prop) (w : World) : Prop := vIndexAddrD P t (P.underlying t) x i K w
def fieldOf (P : Program) (s : TypeId) (f : Nat) : Option (Nat × TypeId) := match P.underlying s with
  | some (.struct fs) => (fs[f]?).map fun x => (x.offset, x.type)
  | _ => none
def vFldZ (s : Option Nat) (a : Addr) (K : Value → World → Prop) (w : World) : Prop := match s with
  | some s => 0 < s ∧ K (.pointer (some a)) w
  | none => False
def vFieldAddrD (P : Program) (f : Option (Nat × TypeId)) (x : Value) (K : Value → World → Prop) (w : World) : Prop :=
  match f, x with
  | some (off, t), .pointer (some a) => vFldZ (szOf P t) (a.add off) K w
  | _, _ => False
def vFieldAddr (P : Program) (s : TypeId) (x : Value) (f : Nat) (K : Value → World → Prop) (w : World) : Prop := vFieldAddrD P (fieldOf P s f) x K w
def vExtract (x : Value) (i : Nat) (K : Value → World → Prop) (w : World) : Prop := match x with
  | .tuple vs => match vs[i]? with
    | some v => K v w
    | none => False
  | _ => False
def vNilV (P : Program) (x : Operand) (ty : TypeId) (σ : Env) (v : Value) (K : Value → World → Prop) (w : World) : Prop := match v with
  | .pointer (some a) => K (.pointer (some a)) w
  | _ => vX P (.nilCheck x) ty σ w K
def vNil (P : Program) (x : Operand) (ty : TypeId) (σ : Env) (K : Value → World → Prop) (w : World) : Prop := vNilV P x ty σ (ev σ x) K w
def vLen (d : Option TypeDesc) (x : Value) (K : Value → World → Prop) (w : World) : Prop := match d, x with
  | some .string, .string s => K (.int .i64 s.size) w
  | some (.slice _), .slice _ n _ => K (.int .i64 n) w
  | _, _ => False
def vCap (d : Option TypeDesc) (x : Value) (K : Value → World → Prop) (w : World) : Prop := match d, x with
  | some (.slice _), .slice _ _ n => K (.int .i64 n) w
  | _, _ => False
def vMin (xs : List Value) (K : Value → World → Prop) (w : World) : Prop := match xs with
  | [.int k a, .int _ b] => K (.int k (min a b)) w
  | [.int k a, .int _ b, .int _ c] => K (.int k (min (min a b) c)) w
  | [.int k a, .int _ b, .int _ c, .int _ d] => K (.int k (min (min (min a b) c) d)) w
  | _ => False
def vMax (xs : List Value) (K : Value → World → Prop) (w : World) : Prop := match xs with
  | [.int k a, .int _ b] => K (.int k (max a b)) w
  | [.int k a, .int _ b, .int _ c] => K (.int k (max (max a b) c)) w
  | [.int k a, .int _ b, .int _ c, .int _ d] => K (.int k (max (max (max a b) c) d)) w
  | _ => False
def vCallV (P : Program) (f : Value) (args : Array Value) (K : Value → World → Prop) (w : World) (G : Prop) : Prop := match f with
  | .func (.func g) first captured => FnC P g (first ++ args ++ captured) w K
  | .func (.yield l) first _ => YldC P l (first ++ args) w K
  | _ => G
def vAppend (P : Program) (tys : Array TypeId) (ty : TypeId) (args : Array Value) (K : Value → World → Prop) (w : World) : Prop :=
  vcUp P K ((val (Builtin.append_ tys ty args)).run P w)
def vCopy (P : Program) (tys : Array TypeId) (ty : TypeId) (args : Array Value) (K : Value → World → Prop) (w : World) : Prop :=
  vcUp P K ((val (Builtin.copy_ tys ty args)).run P w)
/-- A builtin that only looks. -/
def vBi (P : Program) (b : Builtin) (ts : List TypeId) (as : List Value) (K : Value → World → Prop) (w : World) : Prop := match b, ts, as with
  | .len, t :: _, x :: _ => vLen (P.underlying t) x K w
  | .cap, t :: _, x :: _ => vCap (P.underlying t) x K w
  | .min, _, xs => vMin xs K w
  | .max, _, xs => vMax xs K w
  | _, _, _ => False
def biLooks : Builtin → Bool
  | .len => true
  | .cap => true
  | .min => true
  | .max => true
  | _ => false
def vCall (P : Program) (c : Call) (ty : TypeId) (σ : Env) (K : Value → World → Prop) (w : World) : Prop :=
  match c.callee with
  | .value f => vCallV P (ev σ f) (c.args.map (ev σ)) K w (vX P (.call c) ty σ w K)
  | .builtin .append => vAppend P c.argTypes ty (c.args.map (ev σ)) K w
  | .builtin .copy => vCopy P c.argTypes ty (c.args.map (ev σ)) K w
  | .builtin b => if biLooks b = true then vBi P b c.argTypes.toList (c.args.map (ev σ)).toList K w else vX P (.call c) ty σ w K
  | _ => vX P (.call c) ty σ w K
/-- May these values be stored from an address on? -/
def canAll (w : World) (a : Addr) : List Value → Prop
  | [] => True
  | _ :: vs => (∃ x, w.cell? a = some x) ∧ w.frozen? a = false ∧ canAll w (a.add 1) vs
def storeAll (w : World) (a : Addr) : List Value → World
  | [] => w
  | v :: vs => storeAll (w.setCell a v) (a.add 1) vs
def vStoreD (P : Program) (t : TypeId) (s : Option Nat) (a x : Value) (K : Value → World → Prop) (w : World) : Prop := match s, a with
  | some s, .pointer (some a) => x.cells.size = s ∧ (∀ u ∈ x.cells.toList, u.oneCell' = true) ∧ canAll w a x.cells.toList ∧ K undef (storeAll w a x.cells.toList)
  | _, a => vcUp P K ((unt (Instr.storeAt t a x)).run P w)
def vStore (P : Program) (t : TypeId) (a x : Value) (K : Value → World → Prop) (w : World) : Prop := vStoreD P t (szOf P t) a x K w
def intO (d : Int) : Option Value → Option Int
  | none => some d
  | some (.int _ n) => some n
  | _ => none
/-- Where a part of a slice begins. -/
def slAddr (a : Option Addr) (l m : Int) (s : Nat) : Option Addr := if m = l then a else a.map (·.add (l.toNat * s))
def vSl (s : Option Nat) (a : Option Addr) (lo hi mx : Option Int) (bad : Bool) (c : Nat) (K : Value → World → Prop) (w : World) : Prop := match s, lo, hi, mx, bad with
  | some s, some l, some h, some m, false => (0 ≤ l ∧ l ≤ h ∧ h ≤ m ∧ m ≤ c) ∧
      K (.slice (slAddr a l m s) (h - l).toNat (m - l).toNat) w
  | _, _, _, _, _ => False
def vSub (s : ByteArray) (lo hi : Option Int) (bad : Bool) (K : Value → World → Prop) (w : World) : Prop := match lo, hi, bad with
  | some l, some h, false => (0 ≤ l ∧ l ≤ h ∧ h ≤ s.size) ∧ K (.string (s.extract l.toNat h.toNat)) w
  | _, _, _ => False
def vSliceD (P : Program) (t : TypeId) (u : Option TypeDesc) (x : Value) (lo hi mx : Option Value) (K : Value → World → Prop) (w : World) : Prop :=
  match u, x with
  | some (.slice e), .slice a n c =>
    vSl (szOf P e) a (intO 0 lo) (intO n hi) (intO c mx) (hi.isNone && mx.isSome) c K w
  | some .string, .string s => vSub s (intO 0 lo) (intO s.size hi) mx.isSome K w
  | _, x => vcUp P K ((val (Instr.sliceAt t x lo hi mx)).run P w)
def vSlice (P : Program) (t : TypeId) (x : Value) (lo hi mx : Option Value) (K : Value → World → Prop) (w : World) : Prop := vSliceD P t (P.underlying t) x lo hi mx K w
/-- A part of an aggregate's cells. -/
def vPart (one : Bool) (n : Option Nat) (cs : Array Value) (off : Nat) (K : Value → World → Prop) (w : World) : Prop := match one, n with
  | true, _ => (match cs[off]? with
    | some v => K v w
    | none => False)
  | false, some n => K (.agg (cs.extract off (off + n))) w
  | false, none => False
def vIndexD (P : Program) (t : TypeId) (u : Option TypeDesc) (x i : Value) (K : Value → World → Prop) (w : World) : Prop := match u, x, i with
  | some (.array n e), .agg cs, .int _ j => (0 ≤ j ∧ j < n) ∧ (match szOf P e with
    | some s => vPart (oneD (P.underlying e)) (aggD P e (P.underlying e)) cs (j.toNat * s) K w
    | none => False)
  | some .string, .string s, .int _ j => 0 ≤ j ∧ ∃ b, s[j.toNat]? = some b ∧ K (.int .u8 b.toNat) w
  | _, x, i => vcUp P K ((val (Instr.index t x i)).run P w)
def vIndex (P : Program) (t : TypeId) (x i : Value) (K : Value → World → Prop) (w : World) : Prop := vIndexD P t (P.underlying t) x i K w
def vFieldD (P : Program) (t : TypeId) (f : Option (Nat × TypeId)) (x : Value) (i : Nat) (K : Value → World → Prop) (w : World) : Prop := match f, x with
  | some (off, ft), .agg cs => vPart (oneD (P.underlying ft)) (aggD P ft (P.underlying ft)) cs off K w
  | _, x => vcUp P K ((val (Instr.field t x i)).run P w)
def vField (P : Program) (t : TypeId) (x : Value) (f : Nat) (K : Value → World → Prop) (w : World) : Prop := vFieldD P t (fieldOf P t f) x f K w
def vBuild (P : Program) (t : TypeId) (ps : Array (Nat × Value)) (K : Value → World → Prop) (w : World) : Prop :=
  vcUp P K ((val (Instr.build t ps)).run P w)
def vBuildSlice (P : Program) (t : TypeId) (n : Nat) (ps : Array (Nat × Value)) (K : Value → World → Prop) (w : World) : Prop :=
  vcUp P K ((val (Instr.buildSlice t n ps)).run P w)
def vMakeSlice (P : Program) (t : TypeId) (l c : Value) (K : Value → World → Prop) (w : World) : Prop :=
  vcUp P K ((val (Instr.makeSlice t l c)).run P w)

def vcOp (P : Program) (op : Op) (ty : TypeId) (σ : Env) (w : World) (K : Value → World → Prop) : Prop :=
  match op with
  | .move x => K (ev σ x) w
  | .assign x => K (ev σ x) w
  | .pick c a b => vPick (ev σ c) (ev σ a) (ev σ b) K w
  | .binOp op t x y _ => vBin P op t x y (ev σ x) (ev σ y) K w
  | .unOp op _ x => vUn P op (ev σ x) K w
  | .convert s d x => vConv P s d (ev σ x) K w
  | .load t x => vLoad P t (ev σ x) K w
  | .store t a x => vStore P t (ev σ a) (ev σ x) K w
  | .alloc t => vAlloc P t K w
  | .box t x => K (.pointer (some ⟨w.heap.size, 0, none⟩)) (w.alloc (.cells (ev σ x).cells t))
  | .fieldAddr s x f => vFieldAddr P s (ev σ x) f K w
  | .field s x f => vField P s (ev σ x) f K w
  | .indexAddr t x i => vIndexAddr P t (ev σ x) (ev σ i) K w
  | .index t x i => vIndex P t (ev σ x) (ev σ i) K w
  | .slice t x lo hi mx => vSlice P t (ev σ x) (lo.map (ev σ)) (hi.map (ev σ)) (mx.map (ev σ)) K w
  | .build t ps => vBuild P t (ps.map fun (i, x) => (i, ev σ x)) K w
  | .buildSlice t n ps => vBuildSlice P t n (ps.map fun (i, x) => (i, ev σ x)) K w
  | .makeSlice t l c => vMakeSlice P t (ev σ l) (ev σ c) K w
  | .makeFunc fn first captured => K (.func fn (first.map (ev σ)) (captured.map (ev σ))) w
  | .extract x i => vExtract (ev σ x) i K w
  | .nilCheck x => vNil P x ty σ K w
  | .call c => vCall P c ty σ K w
  | op => vX P op ty σ w K

def vGd (g : Option (Nat × Bool)) (σ : Env) (A B : Prop) : Prop := match g with
  | none => A
  | some (s, want) => match σ s with
    | .bool b => if b = want then A else B
    | _ => B
def vcOps (P : Program) : List VOp → (Env → World → Prop) → Env → World → Prop
  | [], K, σ, w => K σ w
  | o :: rest, K, σ, w => vGd o.guard σ (vcOp P o.op o.type σ w fun v w' => vcOps P rest K (put σ o.dst v) w') (vcOps P rest K (put σ o.dst undef) w)

/-! ### Regions that draw their order: each operation has one value in every later world -/
def Later (w : World) (w' : World) : Prop := Below w.heap.size w w'
def qUp (P : Program) (w : World) (v : Value) : Result Next → Prop
  | .ok (.value u) w' => w' = w ∧ u = v
  | .ok .skip w' => w' = w ∧ v = undef
  | .ok (.enter f args) w' => w' = w ∧ Calls P f args w fun e w'' => e = .returned v ∧ Later w w''
  | _ => False
def qX (P : Program) (op : Op) (ty : TypeId) (σ : Env) (w : World) (K : Value → Prop) : Prop :=
  ∃ v, (∀ w', Later w w' → qUp P w' v (exe P op ty σ w')) ∧ K v
def QFn (P : Program) (f : FuncId) (args : Array Value) (w : World) (K : Value → Prop) : Prop :=
  ∃ v, (∀ w', Later w w' → qUp P w' v ((callFunc f args).run P w')) ∧ K v
def qCallV (P : Program) (c : Call) (ty : TypeId) (σ : Env) (f : Value) (w : World) (K : Value → Prop) : Prop := match f with
  | .func (.func g) first captured => QFn P g (first ++ c.args.map (ev σ) ++ captured) w K
  | _ => qX P (.call c) ty σ w K
def qCall (P : Program) (c : Call) (ty : TypeId) (σ : Env) (w : World) (K : Value → Prop) : Prop :=
  match c.callee with
  | .value f => qCallV P c ty σ (ev σ f) w K
  | .builtin b => if biLooks b = true then vBi P b c.argTypes.toList (c.args.map (ev σ)).toList (fun v _ => K v) w else qX P (.call c) ty σ w K
  | _ => qX P (.call c) ty σ w K
def qNilB (op : BinOp) (k k' : Nat) (b : Bool) (K : Value → Prop) : Prop := match op with
  | .eql => k = k' ∧ K (.bool b)
  | .neq => k = k' ∧ K (.bool (!b))
  | _ => False
def qBinB (P : Program) (op : BinOp) (t : TypeId) (x y : Operand) (ty' ty : TypeId) (σ : Env) (a b : Value) (K : Value → Prop) (w : World) : Prop := match a, b with
  | .bool m, .bool n => qNilB op (eqKind (P.underlying t)) 4 (decide (m = n)) K
  | _, _ => qX P (.binOp op t x y ty') ty σ w K
def qBin (P : Program) (op : BinOp) (t : TypeId) (x y : Operand) (ty' ty : TypeId) (σ : Env) (a b : Value) (K : Value → Prop) (w : World) : Prop := match a, b with
  | .int k m, .int k' n => vBin P op t x y (.int k m) (.int k' n) (fun v _ => K v) w
  | .string m, .string n => vBin P op t x y (.string m) (.string n) (fun v _ => K v) w
  | .pointer m, .pointer none => qNilB op (eqKind (P.underlying t)) 1 m.isNone K
  | .slice m _ _, .slice none _ _ => qNilB op (eqKind (P.underlying t)) 2 m.isNone K
  | a, b => qBinB P op t x y ty' ty σ a b K w
def qUn (P : Program) (op : UnOp) (t : TypeId) (x : Operand) (ty : TypeId) (σ : Env) (a : Value) (K : Value → Prop) (w : World) : Prop := match op, a with
  | .not, .bool b => K (.bool (!b))
  | .neg, .int k n => K (.int k (k.wrap (0 - n)))
  | .xor, .int k n => K (.int k (bitI .xor k (if k.signed then -1 else k.max) n))
  | _, _ => qX P (.unOp op t x) ty σ w K
def qConv (P : Program) (s d : TypeId) (x : Operand) (ty : TypeId) (σ : Env) (us ud : Option TypeDesc) (a : Value) (K : Value → Prop) (w : World) : Prop := match us, ud, a with
  | some _, some (.int k), .int _ n => K (.int k (k.wrap n))
  | some _, some .string, .string s => K (.string s)
  | _, _, _ => qX P (.convert s d x) ty σ w K
def qLoadA (P : Program) (t : TypeId) (x : Operand) (ty : TypeId) (σ : Env) (n : Option Nat) (a : Value) (K : Value → Prop) (w : World) : Prop := match n, a with
  | some n, .pointer (some a) => ∃ cs, cellsAt w a n = some cs ∧ K (.agg cs.toArray)
  | _, _ => qX P (.load t x) ty σ w K
def qIndex (P : Program) (t : TypeId) (x i : Operand) (ty : TypeId) (σ : Env) (u : Option TypeDesc) (a b : Value) (K : Value → Prop) (w : World) : Prop := match u, a, b with
  | some (.array n e), .agg cs, .int k j => vIndexD P t (some (.array n e)) (.agg cs) (.int k j) (fun v _ => K v) w
  | some .string, .string s, .int k j => vIndexD P t (some .string) (.string s) (.int k j) (fun v _ => K v) w
  | _, _, _ => qX P (.index t x i) ty σ w K
def qField (P : Program) (t : TypeId) (x : Operand) (f : Nat) (ty : TypeId) (σ : Env) (fo : Option (Nat × TypeId)) (a : Value) (K : Value → Prop) (w : World) : Prop := match fo, a with
  | some (off, ft), .agg cs => vFieldD P t (some (off, ft)) (.agg cs) f (fun v _ => K v) w
  | _, _ => qX P (.field t x f) ty σ w K
def qLoad (P : Program) (t : TypeId) (x : Operand) (ty : TypeId) (σ : Env) (one : Bool) (a : Value) (K : Value → Prop) (w : World) : Prop := match one, a with
  | true, .pointer (some a) => ∃ v, w.cell? a = some v ∧ K v
  | _, a => qLoadA P t x ty σ (aggD P t (P.underlying t)) a K w
def qIndexAddr (P : Program) (t : TypeId) (x i : Operand) (ty : TypeId) (σ : Env) (u : Option TypeDesc) (a b : Value) (K : Value → Prop) (w : World) : Prop := match u, a, b with
  | some (.slice e), .slice (some a) n _, .int _ i => vAt (szOf P e) a i n (fun v _ => K v) w
  | some (.array n e), .pointer (some a), .int _ i => vAt (szOf P e) a i n (fun v _ => K v) w
  | _, _, _ => qX P (.indexAddr t x i) ty σ w K
def qSlice (P : Program) (t : TypeId) (x : Operand) (lo hi mx : Option Operand) (ty : TypeId) (σ : Env) (u : Option TypeDesc) (a : Value) (K : Value → Prop) (w : World) : Prop := match u, a with
  | some (.slice e), .slice a n c => vSl (szOf P e) a (intO 0 (lo.map (ev σ))) (intO n (hi.map (ev σ))) (intO c (mx.map (ev σ))) ((hi.map (ev σ)).isNone && (mx.map (ev σ)).isSome) c (fun v _ => K v) w
  | some .string, .string s => vSub s (intO 0 (lo.map (ev σ))) (intO s.size (hi.map (ev σ))) (mx.map (ev σ)).isSome (fun v _ => K v) w
  | _, _ => qX P (.slice t x lo hi mx) ty σ w K
def qNil (P : Program) (x : Operand) (ty : TypeId) (σ : Env) (v : Value) (K : Value → Prop) (w : World) : Prop := match v with
  | .pointer (some a) => K (.pointer (some a))
  | _ => qX P (.nilCheck x) ty σ w K
def qOp (P : Program) (op : Op) (ty : TypeId) (σ : Env) (w : World) (K : Value → Prop) : Prop :=
  match op with
  | .move x => K (ev σ x)
  | .assign x => K (ev σ x)
  | .pick c a b => vPick (ev σ c) (ev σ a) (ev σ b) (fun v _ => K v) w
  | .binOp op t x y ty' => qBin P op t x y ty' ty σ (ev σ x) (ev σ y) K w
  | .unOp op t x => qUn P op t x ty σ (ev σ x) K w
  | .convert s d x => qConv P s d x ty σ (P.underlying s) (P.underlying d) (ev σ x) K w
  | .load t x => qLoad P t x ty σ (oneD (P.underlying t)) (ev σ x) K w
  | .fieldAddr s x f => vFieldAddr P s (ev σ x) f (fun v _ => K v) w
  | .indexAddr t x i => qIndexAddr P t x i ty σ (P.underlying t) (ev σ x) (ev σ i) K w
  | .index t x i => qIndex P t x i ty σ (P.underlying t) (ev σ x) (ev σ i) K w
  | .field s x f => qField P s x f ty σ (fieldOf P s f) (ev σ x) K w
  | .slice t x lo hi mx => qSlice P t x lo hi mx ty σ (P.underlying t) (ev σ x) K w
  | .makeFunc fn first captured => K (.func fn (first.map (ev σ)) (captured.map (ev σ)))
  | .extract x i => vExtract (ev σ x) i (fun v _ => K v) w
  | .nilCheck x => qNil P x ty σ (ev σ x) K w
  | .call c => qCall P c ty σ w K
  | op => qX P op ty σ w K
def qOps (P : Program) : List VOp → (Env → Prop) → Env → World → Prop
  | [], K, σ, _ => K σ
  | o :: rest, K, σ, w => vGd o.guard σ (qOp P o.op o.type σ w fun v => qOps P rest K (put σ o.dst v) w) (qOps P rest K (put σ o.dst undef) w)

/-! ### The same, where a call's value hangs on the world: what holds of it stands in its place -/
def opReads (op : Op) : List Nat := op.operands.toList.filterMap fun | .tmp t => some t | _ => none
def vReads (o : VOp) : List Nat := opReads o.op ++ (match o.guard with
  | some (s, _) => [s]
  | none => [])
abbrev NS := List (Nat × (Value → World → Prop))
def memN (t : Nat) : NS → Bool
  | [] => false
  | p :: Ns => if p.1 = t then true else memN t Ns
def hits : List Nat → NS → Bool
  | [], _ => false
  | t :: ts, Ns => if memN t Ns = true then true else hits ts Ns
def findN (t : Nat) : NS → Option (Value → World → Prop)
  | [] => none
  | p :: Ns => if p.1 = t then some p.2 else findN t Ns
/-- What is known of a slot. -/
def psi (Ns : NS) (σ : Env) (t : Nat) (v : Value) (w : World) : Prop := match findN t Ns with
  | some V => V v w
  | none => v = σ t
def psis (Ns : NS) (σ : Env) (w : World) (σ' : Env) : List Nat → Prop
  | [] => True
  | t :: ts => psi Ns σ t (σ' t) w ∧ psis Ns σ w σ' ts
/-- It stays in every later world. -/
def Stb (w0 : World) (V : Value → World → Prop) : Prop := ∀ v w w', Later w0 w → Later w w' → V v w → V v w'
def nUp (P : Program) (w : World) (R : Value → World → Prop) : Result Next → Prop
  | .ok (.value v) w' => Later w w' ∧ R v w'
  | .ok .skip w' => Later w w' ∧ R undef w'
  | .ok (.enter f args) w' => w' = w ∧ Calls P f args w fun e w'' => ∃ v, e = .returned v ∧ Later w w'' ∧ R v w''
  | _ => False
/-- An operation that reads what hangs on the world. -/
def nR (P : Program) (op : Op) (ty : TypeId) (rs : List Nat) (Ns : NS) (σ : Env) (w : World) (Kv : Value → Prop) (Kn : (Value → World → Prop) → Prop) : Prop :=
  (∃ v, (∀ σ' w', Later w w' → psis Ns σ w' σ' rs → nUp P w' (fun u _ => u = v) (exe P op ty σ' w')) ∧ Kv v) ∨
  (∃ V, Stb w V ∧ (∀ σ' w', Later w w' → psis Ns σ w' σ' rs → nUp P w' V (exe P op ty σ' w')) ∧ Kn V)
def NFn (P : Program) (f : FuncId) (args : Array Value) (w : World) (Kv : Value → Prop) (Kn : (Value → World → Prop) → Prop) : Prop :=
  QFn P f args w Kv ∨ ∃ V, Stb w V ∧ (∀ w', Later w w' → nUp P w' V ((callFunc f args).run P w')) ∧ Kn V
def nCallV (P : Program) (c : Call) (ty : TypeId) (σ : Env) (f : Value) (w : World) (Kv : Value → Prop) (Kn : (Value → World → Prop) → Prop) : Prop := match f with
  | .func (.func g) first captured => NFn P g (first ++ c.args.map (ev σ) ++ captured) w Kv Kn
  | _ => False
def nCall (P : Program) (c : Call) (ty : TypeId) (σ : Env) (w : World) (Kv : Value → Prop) (Kn : (Value → World → Prop) → Prop) : Prop :=
  match c.callee with
  | .value f => nCallV P c ty σ (ev σ f) w Kv Kn
  | _ => qOp P (.call c) ty σ w Kv
/-- What lays a block. -/
def nXV (P : Program) (op : Op) (ty : TypeId) (σ : Env) (w : World) (Kn : (Value → World → Prop) → Prop) : Prop :=
  ∃ V, Stb w V ∧ (∀ w', Later w w' → nUp P w' V (exe P op ty σ w')) ∧ Kn V
def nPlain (P : Program) (op : Op) (ty : TypeId) (σ : Env) (w : World) (Kv : Value → Prop) (Kn : (Value → World → Prop) → Prop) : Prop := match op with
  | .call c => nCall P c ty σ w Kv Kn
  | .buildSlice t n ps => nXV P (.buildSlice t n ps) ty σ w Kn
  | op => qOp P op ty σ w Kv
def nPick (P : Program) (op : Op) (ty : TypeId) (hit : Bool) (rs : List Nat) (Ns : NS) (σ : Env) (w : World) (Kv : Value → Prop) (Kn : (Value → World → Prop) → Prop) : Prop := match hit with
  | true => nR P op ty rs Ns σ w Kv Kn
  | false => nPlain P op ty σ w Kv Kn
def consN (d : Option Nat) (V : Value → World → Prop) (Ns : NS) : NS := match d with
  | some d => (d, V) :: Ns
  | none => Ns
def nGd (g : Option (Nat × Bool)) (Ns : NS) : Bool := match g with
  | none => false
  | some (s, _) => memN s Ns
def nOps (P : Program) : List (VOp × List Nat) → NS → (NS → Env → Prop) → Env → World → Prop
  | [], Ns, K, σ, _ => K Ns σ
  | o :: rest, Ns, K, σ, w => nGd o.1.guard Ns = false ∧ vGd o.1.guard σ
      (nPick P o.1.op o.1.type (hits o.2 Ns) o.2 Ns σ w (fun v => nOps P rest Ns K (put σ o.1.dst v) w) (fun V => nOps P rest (consN o.1.dst V Ns) K (put σ o.1.dst undef) w))
      (nOps P rest Ns K (put σ o.1.dst undef) w)
def nEnd : NS → (Env → World → Prop) → Env → World → Prop
  | [], K, σ, w => K σ w
  | p :: Ns, K, σ, w => ∀ x, p.2 x w → nEnd Ns K (upd σ p.1 x) w
def drawn (P : Program) (ol : List (VOp × List Nat)) (nd : Nat) (K : Env → World → Prop) (σ : Env) (w : World) : Prop :=
  qOps P (ol.map (·.1)) (fun σ' => ∀ w', Later w w' → K σ' w') σ w ∨
  (1 ≤ nd ∧ nOps P ol [] (fun Ns σ' => ∀ w', Later w w' → nEnd Ns K σ' w') σ w) ∨
  (∃ k, k < ol.length ∧ ol.length < k + nd ∧ nOps P (ol.take k) [] (fun Ns σ' => ∀ w', Later w w' → nEnd Ns (fun σ2 w2 => vcOps P ((ol.drop k).map (·.1)) K σ2 w2) σ' w') σ w)
def withReads (ops : List VOp) : List (VOp × List Nat) := ops.map fun o => (o, vReads o)

/-- A function with a body of its own. -/
def HasBody (P : Program) (f : FuncId) : Prop := ∀ args w, (callFunc f args).run P w = .ok (.enter f args) w
/-! ### The whole -/
abbrev Post := Exit → List Deferred → Env → World → Prop
def thenE (K : List Deferred → Env → World → Prop) (Q : Post) : Post
  | .normal, ds, σ, w => K ds σ w
  | e, ds, σ, w => Q e ds σ w
def inBlk (id : Nat) (Q : Post) : Post
  | .exit j, ds, σ, w => if j = id then Q .normal ds σ w else Q (.exit j) ds σ w
  | e, ds, σ, w => Q e ds σ w
def vCond (c : Value) (A B : Prop) : Prop := match c with
  | .bool b => if b = true then A else B
  | _ => False
/-- The slots that code writes. -/
def writes : VC → List Nat
  | .region ops => ops.filterMap (·.dst)
  | .draw ops _ => ops.filterMap (·.dst)
  | .seq a b => writes a ++ writes b
  | .cond _ a b => writes a ++ writes b
  | .block _ c => writes c
  | .loop c => writes c
  | _ => []
/-- The slots of a round: the parameters have what yield was given. -/
def putAll (σ : Env) : List Nat → List Value → Env
  | p :: ps, v :: vs => putAll (upd σ p v) ps vs
  | _, _ => σ
/-- A loop's record, by its state and the jump that is pending. -/
abbrev Rec := LoopState → Exit → Obj
/-- Where a round ends: the record is busy; yield hands back whether it goes on. -/
def rndQ (L : Nat) (rec : Rec) (K : Value → World → Prop) : Post
  | .normal, _, _, w => w.heap[L]? = some (rec .busy .normal) ∧ K (.bool true) (w.putObj L (rec .ready .normal))
  | .ret, _, _, w => w.heap[L]? = some (rec .busy .normal) ∧ K (.bool false) (w.putObj L (rec .done .ret))
  | .exit id, _, _, w => w.heap[L]? = some (rec .busy .normal) ∧ K (.bool false) (w.putObj L (rec .done (.exit id)))
  | _, _, _, _ => False
def begQ (L : Nat) (rec : Rec) (body : Post → List Deferred → Env → World → Prop) (K : Value → World → Prop) : Post
  | .normal, ds, σ, w => w.heap[L]? = some (rec .ready .normal) ∧ body (rndQ L rec K) ds σ (w.putObj L (rec .busy .normal))
  | _, _, _, _ => False
/-- A round: yield is called with these arguments. -/
def Rnd (L : Nat) (rec : Rec) (ps : List Nat) (asg body : Post → List Deferred → Env → World → Prop) (σ : Env) (args : Array Value) (w : World) (K : Value → World → Prop) : Prop :=
  w.heap[L]? = some (rec .ready .normal) ∧ args.size = ps.length ∧ asg (begQ L rec body K) [] (putAll σ ps args.toList) w
/-- The mark that such a loop leaves among the deferred calls. -/
def mark (D : Nat) : Deferred := { target := .collected D, args := #[] }
/-- Behind the function that was ranged over. -/
def rngQ (L D : Nat) (rec : Rec) (Q : Post) (ds : List Deferred) (σ : Env) (w : World) : Prop :=
  (w.heap[L]? = some (rec .ready .normal) ∧ Q .normal (mark D :: ds) σ (w.putObj L (rec .exhausted .normal))) ∨
  (w.heap[L]? = some (rec .done .ret) ∧ Q .ret (mark D :: ds) σ (w.putObj L (rec .exhausted .ret))) ∨
  (∃ id, w.heap[L]? = some (rec .done (.exit id)) ∧ Q (.exit id) (mark D :: ds) σ (w.putObj L (rec .exhausted (.exit id))))
def rngC (P : Program) (v : Value) (ps : List Nat) (asg body : Post → List Deferred → Env → World → Prop) (Q : Post) (ds : List Deferred) (σ : Env) (w : World) : Prop :=
  ∃ gf lb, v = .func (.func gf) #[] lb ∧ HasBody P gf ∧ ∀ (D L : Nat) (rec : Rec), (∀ s e, (rec s e).isCells = false) → D = w.heap.size → L = w.heap.size + 1 →
    (∀ args w2 K, Rnd L rec ps asg body σ args w2 K → YldC P L args w2 K) →
    FnC P gf (#[.func (.yield L) #[] #[]] ++ lb) ((w.alloc (.deferred (some []))).alloc (rec .ready .normal)) fun _ w3 => rngQ L D rec Q ds σ w3
def vc (P : Program) : VC → Post → List Deferred → Env → World → Prop
  | .skip, Q, ds, σ, w => Q .normal ds σ w
  | .region ops, Q, ds, σ, w => vcOps P ops (Q .normal ds) σ w
  | .draw ops nd, Q, ds, σ, w => drawn P (withReads ops) nd (Q .normal ds) σ w
  | .seq a b, Q, ds, σ, w => vc P a (thenE (vc P b Q) Q) ds σ w
  | .cond c a b, Q, ds, σ, w => vCond (ev σ c) (vc P a Q ds σ w) (vc P b Q ds σ w)
  | .block id c, Q, ds, σ, w => vc P c (inBlk id Q) ds σ w
  | .loop c, Q, ds, σ, w => ∃ I : Nat → List Deferred → Env → World → Prop, (∃ k, I k ds σ w) ∧
      ∀ k ds' σ' w', (∀ i, i ∉ writes c → σ' i = σ i) → I k ds' σ' w' → vc P c (thenE (fun ds2 σ2 w2 => ∃ k', k' < k ∧ I k' ds2 σ2 w2) Q) ds' σ' w'
  | .exit id, Q, ds, σ, w => Q (.exit id) ds σ w
  | .ret, Q, ds, σ, w => Q .ret ds σ w
  | .rangeFunc g ps a c, Q, ds, σ, w => rngC P (ev σ g) ps (vc P a) (vc P c) Q ds σ w
  | .refuse, _, _, _, _ => False
/-- One value, or a tuple. -/
def tupK : List Value → Value
  | [v] => v
  | vs => .tuple vs.toArray
/-- The results, one by one. -/
def resK (P : Program) : List ResultVar → List Value → Env → (Value → World → Prop) → World → Prop
  | [], acc, _, R, w => R (tupK acc) w
  | .tmp t :: rs, acc, σ, R, w => resK P rs (acc ++ [σ t]) σ R w
  | .cell a t :: rs, acc, σ, R, w => match σ a with
    | .pointer (some ad) => ∃ v, (loadVar t ad).run P w = .ok v w ∧ resK P rs (acc ++ [v]) σ R w
    | _ => False
end Go.Vc
