/- The functions' code in the generator's form. Written by a program (codes.py) out of Lean's own print of the loaded translation. -/
import Derived.Test.YtdfdohajjgjbdaaTypes
namespace Go.Proofs.Ytdfdohajjgjbdaa
open Go.Vc
/-! 28 columbary/delta.Encode (params #[35], results #[(ResultVar.tmp 2), (ResultVar.tmp 3)], 59 slots) -/
def r28_0 : List VOp :=
  [⟨some 2, (Op.assign (Operand.const (Value.slice none 0 0))), 36, none⟩,
   ⟨some 3, (Op.assign (Operand.const (Value.int IntKind.i64 0))), 23, none⟩]
def r28_1 : List VOp :=
  [⟨some 12, (Op.move (Operand.tmp 0)), 35, none⟩,
   ⟨some 13, (Op.call { callee := (Callee.builtin Builtin.len), args := #[(Operand.tmp 12)], argTypes := #[35] }), 3, none⟩,
   ⟨some 4, (Op.assign (Operand.tmp 13)), 3, none⟩]
def r28_2 : List VOp :=
  [⟨some 15, (Op.move (Operand.tmp 4)), 3, none⟩,
   ⟨some 16, (Op.binOp BinOp.gtr 3 (Operand.tmp 15) (Operand.const (Value.int IntKind.i64 65536)) 3), 4, none⟩,
   ⟨some 14, (Op.assign (Operand.tmp 16)), 4, none⟩]
def r28_3 : List VOp :=
  [⟨some 2, (Op.assign (Operand.const (Value.slice none 0 0))), 36, none⟩,
   ⟨some 3, (Op.assign (Operand.const (Value.int IntKind.i64 81))), 23, none⟩]
def r28_4 : List VOp :=
  [⟨some 18, (Op.move (Operand.tmp 4)), 3, none⟩,
   ⟨some 19, (Op.binOp BinOp.eql 3 (Operand.tmp 18) (Operand.const (Value.int IntKind.i64 0)) 3), 4, none⟩,
   ⟨some 17, (Op.assign (Operand.tmp 19)), 4, none⟩]
def r28_5 : List VOp :=
  [⟨some 20, (Op.move (Operand.tmp 4)), 3, none⟩,
   ⟨some 21, (Op.call { callee := (Callee.value (Operand.func 38)), args := #[(Operand.const (Value.slice none 0 0)), (Operand.tmp 20)], argTypes := #[36, 3] }), 36, none⟩,
   ⟨some 2, (Op.assign (Operand.tmp 21)), 36, none⟩,
   ⟨some 3, (Op.assign (Operand.const (Value.int IntKind.i64 0))), 23, none⟩]
def r28_6 : List VOp :=
  [⟨some 5, (Op.alloc 3), 0, none⟩,
   ⟨none, (Op.store 3 (Operand.tmp 5) (Operand.const (Value.int IntKind.i64 0))), 0, none⟩]
def r28_7 : List VOp :=
  [⟨some 22, (Op.move (Operand.tmp 4)), 3, none⟩,
   ⟨some 23, (Op.binOp BinOp.gtr 3 (Operand.tmp 22) (Operand.const (Value.int IntKind.i64 1)) 3), 4, none⟩]
def r28_8 : List VOp :=
  [⟨some 24, (Op.move (Operand.tmp 0)), 35, none⟩,
   ⟨some 25, (Op.call { callee := (Callee.value (Operand.func 41)), args := #[(Operand.tmp 24)], argTypes := #[35] }), 58, none⟩,
   ⟨some 26, (Op.call { callee := (Callee.value (Operand.func 40)), args := #[(Operand.tmp 25)], argTypes := #[58] }), 35, none⟩,
   ⟨some 27, (Op.call { callee := (Callee.value (Operand.func 39)), args := #[(Operand.tmp 26)], argTypes := #[35] }), 3, none⟩,
   ⟨none, (Op.store 3 (Operand.tmp 5) (Operand.tmp 27)), 0, none⟩]
def r28_9 : List VOp :=
  [⟨some 6, (Op.alloc 45), 0, none⟩]
def r28_10 : List VOp :=
  [⟨some 28, (Op.move (Operand.tmp 0)), 35, none⟩,
   ⟨some 29, (Op.call { callee := (Callee.value (Operand.func 41)), args := #[(Operand.tmp 28)], argTypes := #[35] }), 58, none⟩]
def r28_11 : List VOp :=
  [⟨some 7, (Op.assign (Operand.tmp 30)), 3, none⟩]
def r28_12 : List VOp :=
  [⟨some 31, (Op.load 45 (Operand.tmp 6)), 45, none⟩,
   ⟨some 32, (Op.move (Operand.tmp 7)), 3, none⟩,
   ⟨some 33, (Op.load 3 (Operand.tmp 5)), 3, none⟩,
   ⟨some 34, (Op.binOp BinOp.sub 3 (Operand.tmp 32) (Operand.tmp 33) 3), 3, none⟩,
   ⟨some 35, (Op.convert 3 47 (Operand.tmp 34)), 47, none⟩,
   ⟨some 36, (Op.buildSlice 45 1 #[(0, (Operand.tmp 35))]), 45, none⟩,
   ⟨some 37, (Op.call { callee := (Callee.builtin Builtin.append), args := #[(Operand.tmp 31), (Operand.tmp 36)], argTypes := #[45, 45] }), 45, none⟩,
   ⟨none, (Op.store 45 (Operand.tmp 6) (Operand.tmp 37)), 0, none⟩]
def r28_13 : List VOp :=
  [⟨some 38, (Op.load 45 (Operand.tmp 6)), 45, none⟩,
   ⟨some 39, (Op.call { callee := (Callee.value (Operand.func 42)), args := #[(Operand.tmp 38)], argTypes := #[45] }), 3, none⟩,
   ⟨some 8, (Op.assign (Operand.tmp 39)), 3, none⟩]
def r28_14 : List VOp :=
  [⟨some 41, (Op.load 45 (Operand.tmp 6)), 45, none⟩,
   ⟨some 42, (Op.move (Operand.tmp 8)), 3, none⟩,
   ⟨some 43, (Op.call { callee := (Callee.value (Operand.func 43)), args := #[(Operand.tmp 41), (Operand.tmp 42)], argTypes := #[45, 3] }), 37, none⟩,
   ⟨some 40, (Op.move (Operand.tmp 43)), 37, none⟩,
   ⟨some 44, (Op.extract (Operand.tmp 40) 0), 36, none⟩,
   ⟨some 45, (Op.extract (Operand.tmp 40) 1), 23, none⟩,
   ⟨some 9, (Op.assign (Operand.tmp 44)), 36, none⟩,
   ⟨some 10, (Op.assign (Operand.tmp 45)), 23, none⟩]
def r28_15 : List VOp :=
  [⟨some 46, (Op.move (Operand.tmp 4)), 3, none⟩,
   ⟨some 47, (Op.call { callee := (Callee.value (Operand.func 38)), args := #[(Operand.const (Value.slice none 0 0)), (Operand.tmp 46)], argTypes := #[36, 3] }), 36, none⟩,
   ⟨some 48, (Op.move (Operand.tmp 0)), 35, none⟩,
   ⟨some 49, (Op.indexAddr 35 (Operand.tmp 48) (Operand.const (Value.int IntKind.i64 0))), 0, none⟩,
   ⟨some 50, (Op.load 3 (Operand.tmp 49)), 3, none⟩,
   ⟨some 51, (Op.call { callee := (Callee.value (Operand.func 38)), args := #[(Operand.tmp 47), (Operand.tmp 50)], argTypes := #[36, 3] }), 36, none⟩,
   ⟨some 52, (Op.load 3 (Operand.tmp 5)), 3, none⟩,
   ⟨some 53, (Op.call { callee := (Callee.value (Operand.func 38)), args := #[(Operand.tmp 51), (Operand.tmp 52)], argTypes := #[36, 3] }), 36, none⟩,
   ⟨some 54, (Op.move (Operand.tmp 8)), 3, none⟩,
   ⟨some 55, (Op.call { callee := (Callee.value (Operand.func 38)), args := #[(Operand.tmp 53), (Operand.tmp 54)], argTypes := #[36, 3] }), 36, none⟩,
   ⟨some 11, (Op.assign (Operand.tmp 55)), 36, none⟩]
def r28_16 : List VOp :=
  [⟨some 56, (Op.move (Operand.tmp 11)), 36, none⟩,
   ⟨some 57, (Op.move (Operand.tmp 9)), 36, none⟩,
   ⟨some 58, (Op.call { callee := (Callee.builtin Builtin.append), args := #[(Operand.tmp 56), (Operand.tmp 57)], argTypes := #[36, 36] }), 36, none⟩,
   ⟨some 2, (Op.assign (Operand.tmp 58)), 36, none⟩,
   ⟨some 3, (Op.assign (Operand.const (Value.int IntKind.i64 0))), 23, none⟩]
def B28 : VC :=
  (.seq (.region r28_0) (.seq (.region r28_1) (.seq (.block 0 (.seq (.region r28_2) (.cond (Operand.tmp 14) (.seq (.region r28_3) .ret) (.seq (.region r28_4) (.cond (Operand.tmp 17) (.seq (.region r28_5) .ret) .skip))))) (.seq (.region r28_6) (.seq (.seq (.region r28_7) (.cond (Operand.tmp 23) (.region r28_8) .skip)) (.seq (.region r28_9) (.seq (.seq (.region r28_10) (.block 1 (.rangeFunc (Operand.tmp 29) [30] (.region r28_11) (.block 2 (.region r28_12))))) (.seq (.region r28_13) (.seq (.region r28_14) (.seq (.draw r28_15 3) (.seq (.region r28_16) .ret)))))))))))
theorem code28 : ∃ c, Try.f28.body = some c ∧ abs Try.f28.ntmps c = B28 := ⟨_, rfl, by kernel_rfl⟩
theorem hb28 : HasBody Try.prog 28 := hasBody_of Try.func28 (by kernel_rfl)
theorem res28 : Try.f28.results = #[(ResultVar.tmp 2), (ResultVar.tmp 3)] := rfl
theorem enter28 {w : World} {R : Value → World → Prop} (x0 : Value) (h : vc Try.prog B28 (retK Try.prog #[(ResultVar.tmp 2), (ResultVar.tmp 3)] R) [] (initEnv [x0] 0) w) : FnC Try.prog 28 #[x0] w R := by
  obtain ⟨c, h1, h2⟩ := code28
  exact hb28.fn (ret_of_vc mixed Try.func28 h1 (Nat.le_of_ble_eq_true rfl) B28 h2 h)
@[push_cast] theorem vr28_0 (Q : Post) (ds : List Deferred) (σ : Env) (w : World) : vc Try.prog (.region r28_0) Q ds σ w = vcOps Try.prog [⟨some 2, (Op.assign (Operand.const (Value.slice none 0 0))), 36, none⟩, ⟨some 3, (Op.assign (Operand.const (Value.int IntKind.i64 0))), 23, none⟩] (Q .normal ds) σ w := mk_eq rfl
@[push_cast] theorem vr28_1 (Q : Post) (ds : List Deferred) (σ : Env) (w : World) : vc Try.prog (.region r28_1) Q ds σ w = vcOps Try.prog [⟨some 12, (Op.move (Operand.tmp 0)), 35, none⟩, ⟨some 13, (Op.call { callee := (Callee.builtin Builtin.len), args := #[(Operand.tmp 12)], argTypes := #[35] }), 3, none⟩, ⟨some 4, (Op.assign (Operand.tmp 13)), 3, none⟩] (Q .normal ds) σ w := mk_eq rfl
@[push_cast] theorem vr28_2 (Q : Post) (ds : List Deferred) (σ : Env) (w : World) : vc Try.prog (.region r28_2) Q ds σ w = vcOps Try.prog [⟨some 15, (Op.move (Operand.tmp 4)), 3, none⟩, ⟨some 16, (Op.binOp BinOp.gtr 3 (Operand.tmp 15) (Operand.const (Value.int IntKind.i64 65536)) 3), 4, none⟩, ⟨some 14, (Op.assign (Operand.tmp 16)), 4, none⟩] (Q .normal ds) σ w := mk_eq rfl
@[push_cast] theorem vr28_3 (Q : Post) (ds : List Deferred) (σ : Env) (w : World) : vc Try.prog (.region r28_3) Q ds σ w = vcOps Try.prog [⟨some 2, (Op.assign (Operand.const (Value.slice none 0 0))), 36, none⟩, ⟨some 3, (Op.assign (Operand.const (Value.int IntKind.i64 81))), 23, none⟩] (Q .normal ds) σ w := mk_eq rfl
@[push_cast] theorem vr28_4 (Q : Post) (ds : List Deferred) (σ : Env) (w : World) : vc Try.prog (.region r28_4) Q ds σ w = vcOps Try.prog [⟨some 18, (Op.move (Operand.tmp 4)), 3, none⟩, ⟨some 19, (Op.binOp BinOp.eql 3 (Operand.tmp 18) (Operand.const (Value.int IntKind.i64 0)) 3), 4, none⟩, ⟨some 17, (Op.assign (Operand.tmp 19)), 4, none⟩] (Q .normal ds) σ w := mk_eq rfl
@[push_cast] theorem vr28_5 (Q : Post) (ds : List Deferred) (σ : Env) (w : World) : vc Try.prog (.region r28_5) Q ds σ w = vcOps Try.prog [⟨some 20, (Op.move (Operand.tmp 4)), 3, none⟩, ⟨some 21, (Op.call { callee := (Callee.value (Operand.func 38)), args := #[(Operand.const (Value.slice none 0 0)), (Operand.tmp 20)], argTypes := #[36, 3] }), 36, none⟩, ⟨some 2, (Op.assign (Operand.tmp 21)), 36, none⟩, ⟨some 3, (Op.assign (Operand.const (Value.int IntKind.i64 0))), 23, none⟩] (Q .normal ds) σ w := mk_eq rfl
@[push_cast] theorem vr28_6 (Q : Post) (ds : List Deferred) (σ : Env) (w : World) : vc Try.prog (.region r28_6) Q ds σ w = vcOps Try.prog [⟨some 5, (Op.alloc 3), 0, none⟩, ⟨none, (Op.store 3 (Operand.tmp 5) (Operand.const (Value.int IntKind.i64 0))), 0, none⟩] (Q .normal ds) σ w := mk_eq rfl
@[push_cast] theorem vr28_7 (Q : Post) (ds : List Deferred) (σ : Env) (w : World) : vc Try.prog (.region r28_7) Q ds σ w = vcOps Try.prog [⟨some 22, (Op.move (Operand.tmp 4)), 3, none⟩, ⟨some 23, (Op.binOp BinOp.gtr 3 (Operand.tmp 22) (Operand.const (Value.int IntKind.i64 1)) 3), 4, none⟩] (Q .normal ds) σ w := mk_eq rfl
@[push_cast] theorem vr28_8 (Q : Post) (ds : List Deferred) (σ : Env) (w : World) : vc Try.prog (.region r28_8) Q ds σ w = vcOps Try.prog [⟨some 24, (Op.move (Operand.tmp 0)), 35, none⟩, ⟨some 25, (Op.call { callee := (Callee.value (Operand.func 41)), args := #[(Operand.tmp 24)], argTypes := #[35] }), 58, none⟩, ⟨some 26, (Op.call { callee := (Callee.value (Operand.func 40)), args := #[(Operand.tmp 25)], argTypes := #[58] }), 35, none⟩, ⟨some 27, (Op.call { callee := (Callee.value (Operand.func 39)), args := #[(Operand.tmp 26)], argTypes := #[35] }), 3, none⟩, ⟨none, (Op.store 3 (Operand.tmp 5) (Operand.tmp 27)), 0, none⟩] (Q .normal ds) σ w := mk_eq rfl
@[push_cast] theorem vr28_9 (Q : Post) (ds : List Deferred) (σ : Env) (w : World) : vc Try.prog (.region r28_9) Q ds σ w = vcOps Try.prog [⟨some 6, (Op.alloc 45), 0, none⟩] (Q .normal ds) σ w := mk_eq rfl
@[push_cast] theorem vr28_10 (Q : Post) (ds : List Deferred) (σ : Env) (w : World) : vc Try.prog (.region r28_10) Q ds σ w = vcOps Try.prog [⟨some 28, (Op.move (Operand.tmp 0)), 35, none⟩, ⟨some 29, (Op.call { callee := (Callee.value (Operand.func 41)), args := #[(Operand.tmp 28)], argTypes := #[35] }), 58, none⟩] (Q .normal ds) σ w := mk_eq rfl
@[push_cast] theorem vr28_11 (Q : Post) (ds : List Deferred) (σ : Env) (w : World) : vc Try.prog (.region r28_11) Q ds σ w = vcOps Try.prog [⟨some 7, (Op.assign (Operand.tmp 30)), 3, none⟩] (Q .normal ds) σ w := mk_eq rfl
@[push_cast] theorem vr28_12 (Q : Post) (ds : List Deferred) (σ : Env) (w : World) : vc Try.prog (.region r28_12) Q ds σ w = vcOps Try.prog [⟨some 31, (Op.load 45 (Operand.tmp 6)), 45, none⟩, ⟨some 32, (Op.move (Operand.tmp 7)), 3, none⟩, ⟨some 33, (Op.load 3 (Operand.tmp 5)), 3, none⟩, ⟨some 34, (Op.binOp BinOp.sub 3 (Operand.tmp 32) (Operand.tmp 33) 3), 3, none⟩, ⟨some 35, (Op.convert 3 47 (Operand.tmp 34)), 47, none⟩, ⟨some 36, (Op.buildSlice 45 1 #[(0, (Operand.tmp 35))]), 45, none⟩, ⟨some 37, (Op.call { callee := (Callee.builtin Builtin.append), args := #[(Operand.tmp 31), (Operand.tmp 36)], argTypes := #[45, 45] }), 45, none⟩, ⟨none, (Op.store 45 (Operand.tmp 6) (Operand.tmp 37)), 0, none⟩] (Q .normal ds) σ w := mk_eq rfl
@[push_cast] theorem vr28_13 (Q : Post) (ds : List Deferred) (σ : Env) (w : World) : vc Try.prog (.region r28_13) Q ds σ w = vcOps Try.prog [⟨some 38, (Op.load 45 (Operand.tmp 6)), 45, none⟩, ⟨some 39, (Op.call { callee := (Callee.value (Operand.func 42)), args := #[(Operand.tmp 38)], argTypes := #[45] }), 3, none⟩, ⟨some 8, (Op.assign (Operand.tmp 39)), 3, none⟩] (Q .normal ds) σ w := mk_eq rfl
@[push_cast] theorem vr28_14 (Q : Post) (ds : List Deferred) (σ : Env) (w : World) : vc Try.prog (.region r28_14) Q ds σ w = vcOps Try.prog [⟨some 41, (Op.load 45 (Operand.tmp 6)), 45, none⟩, ⟨some 42, (Op.move (Operand.tmp 8)), 3, none⟩, ⟨some 43, (Op.call { callee := (Callee.value (Operand.func 43)), args := #[(Operand.tmp 41), (Operand.tmp 42)], argTypes := #[45, 3] }), 37, none⟩, ⟨some 40, (Op.move (Operand.tmp 43)), 37, none⟩, ⟨some 44, (Op.extract (Operand.tmp 40) 0), 36, none⟩, ⟨some 45, (Op.extract (Operand.tmp 40) 1), 23, none⟩, ⟨some 9, (Op.assign (Operand.tmp 44)), 36, none⟩, ⟨some 10, (Op.assign (Operand.tmp 45)), 23, none⟩] (Q .normal ds) σ w := mk_eq rfl
@[push_cast] theorem vr28_15 (Q : Post) (ds : List Deferred) (σ : Env) (w : World) : vc Try.prog (.draw r28_15 3) Q ds σ w = drawn Try.prog [(⟨some 46, (Op.move (Operand.tmp 4)), 3, none⟩, [4]), (⟨some 47, (Op.call { callee := (Callee.value (Operand.func 38)), args := #[(Operand.const (Value.slice none 0 0)), (Operand.tmp 46)], argTypes := #[36, 3] }), 36, none⟩, [46]), (⟨some 48, (Op.move (Operand.tmp 0)), 35, none⟩, [0]), (⟨some 49, (Op.indexAddr 35 (Operand.tmp 48) (Operand.const (Value.int IntKind.i64 0))), 0, none⟩, [48]), (⟨some 50, (Op.load 3 (Operand.tmp 49)), 3, none⟩, [49]), (⟨some 51, (Op.call { callee := (Callee.value (Operand.func 38)), args := #[(Operand.tmp 47), (Operand.tmp 50)], argTypes := #[36, 3] }), 36, none⟩, [47, 50]), (⟨some 52, (Op.load 3 (Operand.tmp 5)), 3, none⟩, [5]), (⟨some 53, (Op.call { callee := (Callee.value (Operand.func 38)), args := #[(Operand.tmp 51), (Operand.tmp 52)], argTypes := #[36, 3] }), 36, none⟩, [51, 52]), (⟨some 54, (Op.move (Operand.tmp 8)), 3, none⟩, [8]), (⟨some 55, (Op.call { callee := (Callee.value (Operand.func 38)), args := #[(Operand.tmp 53), (Operand.tmp 54)], argTypes := #[36, 3] }), 36, none⟩, [53, 54]), (⟨some 11, (Op.assign (Operand.tmp 55)), 36, none⟩, [55])] 3 (Q .normal ds) σ w := mk_eq rfl
@[push_cast] theorem vr28_16 (Q : Post) (ds : List Deferred) (σ : Env) (w : World) : vc Try.prog (.region r28_16) Q ds σ w = vcOps Try.prog [⟨some 56, (Op.move (Operand.tmp 11)), 36, none⟩, ⟨some 57, (Op.move (Operand.tmp 9)), 36, none⟩, ⟨some 58, (Op.call { callee := (Callee.builtin Builtin.append), args := #[(Operand.tmp 56), (Operand.tmp 57)], argTypes := #[36, 36] }), 36, none⟩, ⟨some 2, (Op.assign (Operand.tmp 58)), 36, none⟩, ⟨some 3, (Op.assign (Operand.const (Value.int IntKind.i64 0))), 23, none⟩] (Q .normal ds) σ w := mk_eq rfl
/-! 29 columbary/columbaryref08.Encode (params #[35], results #[(ResultVar.tmp 2), (ResultVar.tmp 3)], 68 slots) -/
def W29_0 : List Nat := [7, 8, 26, 27, 28, 29, 30, 31, 32, 33, 34, 35, 36, 37, 38, 39, 40, 41, 42]
@[push_cast] theorem W29_0_def : W29_0 = [7, 8, 26, 27, 28, 29, 30, 31, 32, 33, 34, 35, 36, 37, 38, 39, 40, 41, 42] := mk_eq rfl
def r29_0 : List VOp :=
  [⟨some 2, (Op.assign (Operand.const (Value.slice none 0 0))), 36, none⟩,
   ⟨some 3, (Op.assign (Operand.const (Value.int IntKind.i64 0))), 23, none⟩]
def r29_1 : List VOp :=
  [⟨some 12, (Op.move (Operand.tmp 0)), 35, none⟩,
   ⟨some 13, (Op.call { callee := (Callee.builtin Builtin.len), args := #[(Operand.tmp 12)], argTypes := #[35] }), 3, none⟩,
   ⟨some 14, (Op.binOp BinOp.gtr 3 (Operand.tmp 13) (Operand.const (Value.int IntKind.i64 65536)) 3), 4, none⟩]
def r29_2 : List VOp :=
  [⟨some 2, (Op.assign (Operand.const (Value.slice none 0 0))), 36, none⟩,
   ⟨some 3, (Op.assign (Operand.const (Value.int IntKind.i64 81))), 23, none⟩]
def r29_3 : List VOp :=
  [⟨some 15, (Op.move (Operand.tmp 0)), 35, none⟩,
   ⟨some 16, (Op.call { callee := (Callee.builtin Builtin.len), args := #[(Operand.tmp 15)], argTypes := #[35] }), 3, none⟩,
   ⟨some 17, (Op.call { callee := (Callee.value (Operand.func 44)), args := #[(Operand.tmp 16)], argTypes := #[3] }), 36, none⟩,
   ⟨some 4, (Op.assign (Operand.tmp 17)), 36, none⟩]
def r29_4 : List VOp :=
  [⟨some 18, (Op.move (Operand.tmp 0)), 35, none⟩,
   ⟨some 19, (Op.call { callee := (Callee.builtin Builtin.len), args := #[(Operand.tmp 18)], argTypes := #[35] }), 3, none⟩,
   ⟨some 20, (Op.binOp BinOp.eql 3 (Operand.tmp 19) (Operand.const (Value.int IntKind.i64 0)) 3), 4, none⟩]
def r29_5 : List VOp :=
  [⟨some 21, (Op.move (Operand.tmp 4)), 36, none⟩,
   ⟨some 2, (Op.assign (Operand.tmp 21)), 36, none⟩,
   ⟨some 3, (Op.assign (Operand.const (Value.int IntKind.i64 0))), 23, none⟩]
def r29_6 : List VOp :=
  [⟨some 22, (Op.move (Operand.tmp 0)), 35, none⟩,
   ⟨some 23, (Op.call { callee := (Callee.value (Operand.func 45)), args := #[(Operand.tmp 22)], argTypes := #[35] }), 35, none⟩,
   ⟨some 5, (Op.assign (Operand.tmp 23)), 35, none⟩]
def r29_7 : List VOp :=
  [⟨some 24, (Op.move (Operand.tmp 5)), 35, none⟩,
   ⟨some 25, (Op.call { callee := (Callee.value (Operand.func 46)), args := #[(Operand.tmp 24)], argTypes := #[35] }), 3, none⟩,
   ⟨some 6, (Op.assign (Operand.tmp 25)), 3, none⟩]
def r29_8 : List VOp :=
  [⟨some 7, (Op.assign (Operand.const (Value.slice none 0 0))), 45, none⟩]
def r29_9 : List VOp :=
  [⟨some 8, (Op.assign (Operand.const (Value.int IntKind.i64 0))), 3, none⟩]
def r29_10 : List VOp :=
  [⟨some 26, (Op.move (Operand.tmp 8)), 3, none⟩,
   ⟨some 27, (Op.move (Operand.tmp 5)), 35, none⟩,
   ⟨some 28, (Op.call { callee := (Callee.builtin Builtin.len), args := #[(Operand.tmp 27)], argTypes := #[35] }), 3, none⟩,
   ⟨some 29, (Op.binOp BinOp.lss 3 (Operand.tmp 26) (Operand.tmp 28) 3), 4, none⟩]
def r29_12 : List VOp :=
  [⟨some 32, (Op.move (Operand.tmp 7)), 45, none⟩,
   ⟨some 33, (Op.move (Operand.tmp 5)), 35, none⟩,
   ⟨some 34, (Op.move (Operand.tmp 8)), 3, none⟩,
   ⟨some 35, (Op.indexAddr 35 (Operand.tmp 33) (Operand.tmp 34)), 0, none⟩,
   ⟨some 36, (Op.load 3 (Operand.tmp 35)), 3, none⟩,
   ⟨some 37, (Op.convert 3 47 (Operand.tmp 36)), 47, none⟩,
   ⟨some 38, (Op.move (Operand.tmp 6)), 3, none⟩,
   ⟨some 39, (Op.convert 3 47 (Operand.tmp 38)), 47, none⟩,
   ⟨some 40, (Op.binOp BinOp.sub 47 (Operand.tmp 37) (Operand.tmp 39) 47), 47, none⟩,
   ⟨some 41, (Op.buildSlice 45 1 #[(0, (Operand.tmp 40))]), 45, none⟩,
   ⟨some 42, (Op.call { callee := (Callee.builtin Builtin.append), args := #[(Operand.tmp 32), (Operand.tmp 41)], argTypes := #[45, 45] }), 45, none⟩,
   ⟨some 7, (Op.assign (Operand.tmp 42)), 45, none⟩]
def r29_11 : List VOp :=
  [⟨some 30, (Op.move (Operand.tmp 8)), 3, none⟩,
   ⟨some 31, (Op.binOp BinOp.add 3 (Operand.tmp 30) (Operand.const (Value.int IntKind.i64 1)) 3), 3, none⟩,
   ⟨some 8, (Op.assign (Operand.tmp 31)), 3, none⟩]
def r29_13 : List VOp :=
  [⟨some 43, (Op.move (Operand.tmp 7)), 45, none⟩,
   ⟨some 44, (Op.call { callee := (Callee.value (Operand.func 47)), args := #[(Operand.tmp 43)], argTypes := #[45] }), 3, none⟩,
   ⟨some 9, (Op.assign (Operand.tmp 44)), 3, none⟩]
def r29_14 : List VOp :=
  [⟨some 46, (Op.move (Operand.tmp 7)), 45, none⟩,
   ⟨some 47, (Op.move (Operand.tmp 9)), 3, none⟩,
   ⟨some 48, (Op.call { callee := (Callee.value (Operand.func 48)), args := #[(Operand.tmp 46), (Operand.tmp 47)], argTypes := #[45, 3] }), 37, none⟩,
   ⟨some 45, (Op.move (Operand.tmp 48)), 37, none⟩,
   ⟨some 49, (Op.extract (Operand.tmp 45) 0), 36, none⟩,
   ⟨some 50, (Op.extract (Operand.tmp 45) 1), 23, none⟩,
   ⟨some 10, (Op.assign (Operand.tmp 49)), 36, none⟩,
   ⟨some 11, (Op.assign (Operand.tmp 50)), 23, none⟩]
def r29_15 : List VOp :=
  [⟨some 51, (Op.move (Operand.tmp 4)), 36, none⟩,
   ⟨some 52, (Op.move (Operand.tmp 0)), 35, none⟩,
   ⟨some 53, (Op.indexAddr 35 (Operand.tmp 52) (Operand.const (Value.int IntKind.i64 0))), 0, none⟩,
   ⟨some 54, (Op.load 3 (Operand.tmp 53)), 3, none⟩,
   ⟨some 55, (Op.call { callee := (Callee.value (Operand.func 44)), args := #[(Operand.tmp 54)], argTypes := #[3] }), 36, none⟩,
   ⟨some 56, (Op.call { callee := (Callee.builtin Builtin.append), args := #[(Operand.tmp 51), (Operand.tmp 55)], argTypes := #[36, 36] }), 36, none⟩,
   ⟨some 4, (Op.assign (Operand.tmp 56)), 36, none⟩]
def r29_16 : List VOp :=
  [⟨some 57, (Op.move (Operand.tmp 4)), 36, none⟩,
   ⟨some 58, (Op.move (Operand.tmp 6)), 3, none⟩,
   ⟨some 59, (Op.call { callee := (Callee.value (Operand.func 44)), args := #[(Operand.tmp 58)], argTypes := #[3] }), 36, none⟩,
   ⟨some 60, (Op.call { callee := (Callee.builtin Builtin.append), args := #[(Operand.tmp 57), (Operand.tmp 59)], argTypes := #[36, 36] }), 36, none⟩,
   ⟨some 4, (Op.assign (Operand.tmp 60)), 36, none⟩]
def r29_17 : List VOp :=
  [⟨some 61, (Op.move (Operand.tmp 4)), 36, none⟩,
   ⟨some 62, (Op.move (Operand.tmp 9)), 3, none⟩,
   ⟨some 63, (Op.call { callee := (Callee.value (Operand.func 44)), args := #[(Operand.tmp 62)], argTypes := #[3] }), 36, none⟩,
   ⟨some 64, (Op.call { callee := (Callee.builtin Builtin.append), args := #[(Operand.tmp 61), (Operand.tmp 63)], argTypes := #[36, 36] }), 36, none⟩,
   ⟨some 4, (Op.assign (Operand.tmp 64)), 36, none⟩]
def r29_18 : List VOp :=
  [⟨some 65, (Op.move (Operand.tmp 4)), 36, none⟩,
   ⟨some 66, (Op.move (Operand.tmp 10)), 36, none⟩,
   ⟨some 67, (Op.call { callee := (Callee.builtin Builtin.append), args := #[(Operand.tmp 65), (Operand.tmp 66)], argTypes := #[36, 36] }), 36, none⟩,
   ⟨some 2, (Op.assign (Operand.tmp 67)), 36, none⟩,
   ⟨some 3, (Op.assign (Operand.const (Value.int IntKind.i64 0))), 23, none⟩]
def B29 : VC :=
  (.seq (.region r29_0) (.seq (.seq (.region r29_1) (.cond (Operand.tmp 14) (.seq (.region r29_2) .ret) .skip)) (.seq (.region r29_3) (.seq (.seq (.region r29_4) (.cond (Operand.tmp 20) (.seq (.region r29_5) .ret) .skip)) (.seq (.region r29_6) (.seq (.region r29_7) (.seq (.region r29_8) (.seq (.seq (.region r29_9) (.block 0 (.loop (.seq (.seq (.region r29_10) (.cond (Operand.tmp 29) .skip (.exit 0))) (.seq (.block 1 (.region r29_12)) (.region r29_11)))))) (.seq (.region r29_13) (.seq (.region r29_14) (.seq (.region r29_15) (.seq (.region r29_16) (.seq (.region r29_17) (.seq (.region r29_18) .ret))))))))))))))
theorem code29 : ∃ c, Try.f29.body = some c ∧ abs Try.f29.ntmps c = B29 := ⟨_, rfl, by kernel_rfl⟩
theorem hb29 : HasBody Try.prog 29 := hasBody_of Try.func29 (by kernel_rfl)
theorem res29 : Try.f29.results = #[(ResultVar.tmp 2), (ResultVar.tmp 3)] := rfl
theorem enter29 {w : World} {R : Value → World → Prop} (x0 : Value) (h : vc Try.prog B29 (retK Try.prog #[(ResultVar.tmp 2), (ResultVar.tmp 3)] R) [] (initEnv [x0] 0) w) : FnC Try.prog 29 #[x0] w R := by
  obtain ⟨c, h1, h2⟩ := code29
  exact hb29.fn (ret_of_vc mixed Try.func29 h1 (Nat.le_of_ble_eq_true rfl) B29 h2 h)
@[push_cast] theorem vr29_0 (Q : Post) (ds : List Deferred) (σ : Env) (w : World) : vc Try.prog (.region r29_0) Q ds σ w = vcOps Try.prog [⟨some 2, (Op.assign (Operand.const (Value.slice none 0 0))), 36, none⟩, ⟨some 3, (Op.assign (Operand.const (Value.int IntKind.i64 0))), 23, none⟩] (Q .normal ds) σ w := mk_eq rfl
@[push_cast] theorem vr29_1 (Q : Post) (ds : List Deferred) (σ : Env) (w : World) : vc Try.prog (.region r29_1) Q ds σ w = vcOps Try.prog [⟨some 12, (Op.move (Operand.tmp 0)), 35, none⟩, ⟨some 13, (Op.call { callee := (Callee.builtin Builtin.len), args := #[(Operand.tmp 12)], argTypes := #[35] }), 3, none⟩, ⟨some 14, (Op.binOp BinOp.gtr 3 (Operand.tmp 13) (Operand.const (Value.int IntKind.i64 65536)) 3), 4, none⟩] (Q .normal ds) σ w := mk_eq rfl
@[push_cast] theorem vr29_2 (Q : Post) (ds : List Deferred) (σ : Env) (w : World) : vc Try.prog (.region r29_2) Q ds σ w = vcOps Try.prog [⟨some 2, (Op.assign (Operand.const (Value.slice none 0 0))), 36, none⟩, ⟨some 3, (Op.assign (Operand.const (Value.int IntKind.i64 81))), 23, none⟩] (Q .normal ds) σ w := mk_eq rfl
@[push_cast] theorem vr29_3 (Q : Post) (ds : List Deferred) (σ : Env) (w : World) : vc Try.prog (.region r29_3) Q ds σ w = vcOps Try.prog [⟨some 15, (Op.move (Operand.tmp 0)), 35, none⟩, ⟨some 16, (Op.call { callee := (Callee.builtin Builtin.len), args := #[(Operand.tmp 15)], argTypes := #[35] }), 3, none⟩, ⟨some 17, (Op.call { callee := (Callee.value (Operand.func 44)), args := #[(Operand.tmp 16)], argTypes := #[3] }), 36, none⟩, ⟨some 4, (Op.assign (Operand.tmp 17)), 36, none⟩] (Q .normal ds) σ w := mk_eq rfl
@[push_cast] theorem vr29_4 (Q : Post) (ds : List Deferred) (σ : Env) (w : World) : vc Try.prog (.region r29_4) Q ds σ w = vcOps Try.prog [⟨some 18, (Op.move (Operand.tmp 0)), 35, none⟩, ⟨some 19, (Op.call { callee := (Callee.builtin Builtin.len), args := #[(Operand.tmp 18)], argTypes := #[35] }), 3, none⟩, ⟨some 20, (Op.binOp BinOp.eql 3 (Operand.tmp 19) (Operand.const (Value.int IntKind.i64 0)) 3), 4, none⟩] (Q .normal ds) σ w := mk_eq rfl
@[push_cast] theorem vr29_5 (Q : Post) (ds : List Deferred) (σ : Env) (w : World) : vc Try.prog (.region r29_5) Q ds σ w = vcOps Try.prog [⟨some 21, (Op.move (Operand.tmp 4)), 36, none⟩, ⟨some 2, (Op.assign (Operand.tmp 21)), 36, none⟩, ⟨some 3, (Op.assign (Operand.const (Value.int IntKind.i64 0))), 23, none⟩] (Q .normal ds) σ w := mk_eq rfl
@[push_cast] theorem vr29_6 (Q : Post) (ds : List Deferred) (σ : Env) (w : World) : vc Try.prog (.region r29_6) Q ds σ w = vcOps Try.prog [⟨some 22, (Op.move (Operand.tmp 0)), 35, none⟩, ⟨some 23, (Op.call { callee := (Callee.value (Operand.func 45)), args := #[(Operand.tmp 22)], argTypes := #[35] }), 35, none⟩, ⟨some 5, (Op.assign (Operand.tmp 23)), 35, none⟩] (Q .normal ds) σ w := mk_eq rfl
@[push_cast] theorem vr29_7 (Q : Post) (ds : List Deferred) (σ : Env) (w : World) : vc Try.prog (.region r29_7) Q ds σ w = vcOps Try.prog [⟨some 24, (Op.move (Operand.tmp 5)), 35, none⟩, ⟨some 25, (Op.call { callee := (Callee.value (Operand.func 46)), args := #[(Operand.tmp 24)], argTypes := #[35] }), 3, none⟩, ⟨some 6, (Op.assign (Operand.tmp 25)), 3, none⟩] (Q .normal ds) σ w := mk_eq rfl
@[push_cast] theorem vr29_8 (Q : Post) (ds : List Deferred) (σ : Env) (w : World) : vc Try.prog (.region r29_8) Q ds σ w = vcOps Try.prog [⟨some 7, (Op.assign (Operand.const (Value.slice none 0 0))), 45, none⟩] (Q .normal ds) σ w := mk_eq rfl
@[push_cast] theorem vr29_9 (Q : Post) (ds : List Deferred) (σ : Env) (w : World) : vc Try.prog (.region r29_9) Q ds σ w = vcOps Try.prog [⟨some 8, (Op.assign (Operand.const (Value.int IntKind.i64 0))), 3, none⟩] (Q .normal ds) σ w := mk_eq rfl
@[push_cast] theorem vr29_10 (Q : Post) (ds : List Deferred) (σ : Env) (w : World) : vc Try.prog (.region r29_10) Q ds σ w = vcOps Try.prog [⟨some 26, (Op.move (Operand.tmp 8)), 3, none⟩, ⟨some 27, (Op.move (Operand.tmp 5)), 35, none⟩, ⟨some 28, (Op.call { callee := (Callee.builtin Builtin.len), args := #[(Operand.tmp 27)], argTypes := #[35] }), 3, none⟩, ⟨some 29, (Op.binOp BinOp.lss 3 (Operand.tmp 26) (Operand.tmp 28) 3), 4, none⟩] (Q .normal ds) σ w := mk_eq rfl
@[push_cast] theorem vr29_12 (Q : Post) (ds : List Deferred) (σ : Env) (w : World) : vc Try.prog (.region r29_12) Q ds σ w = vcOps Try.prog [⟨some 32, (Op.move (Operand.tmp 7)), 45, none⟩, ⟨some 33, (Op.move (Operand.tmp 5)), 35, none⟩, ⟨some 34, (Op.move (Operand.tmp 8)), 3, none⟩, ⟨some 35, (Op.indexAddr 35 (Operand.tmp 33) (Operand.tmp 34)), 0, none⟩, ⟨some 36, (Op.load 3 (Operand.tmp 35)), 3, none⟩, ⟨some 37, (Op.convert 3 47 (Operand.tmp 36)), 47, none⟩, ⟨some 38, (Op.move (Operand.tmp 6)), 3, none⟩, ⟨some 39, (Op.convert 3 47 (Operand.tmp 38)), 47, none⟩, ⟨some 40, (Op.binOp BinOp.sub 47 (Operand.tmp 37) (Operand.tmp 39) 47), 47, none⟩, ⟨some 41, (Op.buildSlice 45 1 #[(0, (Operand.tmp 40))]), 45, none⟩, ⟨some 42, (Op.call { callee := (Callee.builtin Builtin.append), args := #[(Operand.tmp 32), (Operand.tmp 41)], argTypes := #[45, 45] }), 45, none⟩, ⟨some 7, (Op.assign (Operand.tmp 42)), 45, none⟩] (Q .normal ds) σ w := mk_eq rfl
@[push_cast] theorem vr29_11 (Q : Post) (ds : List Deferred) (σ : Env) (w : World) : vc Try.prog (.region r29_11) Q ds σ w = vcOps Try.prog [⟨some 30, (Op.move (Operand.tmp 8)), 3, none⟩, ⟨some 31, (Op.binOp BinOp.add 3 (Operand.tmp 30) (Operand.const (Value.int IntKind.i64 1)) 3), 3, none⟩, ⟨some 8, (Op.assign (Operand.tmp 31)), 3, none⟩] (Q .normal ds) σ w := mk_eq rfl
@[push_cast] theorem vr29_13 (Q : Post) (ds : List Deferred) (σ : Env) (w : World) : vc Try.prog (.region r29_13) Q ds σ w = vcOps Try.prog [⟨some 43, (Op.move (Operand.tmp 7)), 45, none⟩, ⟨some 44, (Op.call { callee := (Callee.value (Operand.func 47)), args := #[(Operand.tmp 43)], argTypes := #[45] }), 3, none⟩, ⟨some 9, (Op.assign (Operand.tmp 44)), 3, none⟩] (Q .normal ds) σ w := mk_eq rfl
@[push_cast] theorem vr29_14 (Q : Post) (ds : List Deferred) (σ : Env) (w : World) : vc Try.prog (.region r29_14) Q ds σ w = vcOps Try.prog [⟨some 46, (Op.move (Operand.tmp 7)), 45, none⟩, ⟨some 47, (Op.move (Operand.tmp 9)), 3, none⟩, ⟨some 48, (Op.call { callee := (Callee.value (Operand.func 48)), args := #[(Operand.tmp 46), (Operand.tmp 47)], argTypes := #[45, 3] }), 37, none⟩, ⟨some 45, (Op.move (Operand.tmp 48)), 37, none⟩, ⟨some 49, (Op.extract (Operand.tmp 45) 0), 36, none⟩, ⟨some 50, (Op.extract (Operand.tmp 45) 1), 23, none⟩, ⟨some 10, (Op.assign (Operand.tmp 49)), 36, none⟩, ⟨some 11, (Op.assign (Operand.tmp 50)), 23, none⟩] (Q .normal ds) σ w := mk_eq rfl
@[push_cast] theorem vr29_15 (Q : Post) (ds : List Deferred) (σ : Env) (w : World) : vc Try.prog (.region r29_15) Q ds σ w = vcOps Try.prog [⟨some 51, (Op.move (Operand.tmp 4)), 36, none⟩, ⟨some 52, (Op.move (Operand.tmp 0)), 35, none⟩, ⟨some 53, (Op.indexAddr 35 (Operand.tmp 52) (Operand.const (Value.int IntKind.i64 0))), 0, none⟩, ⟨some 54, (Op.load 3 (Operand.tmp 53)), 3, none⟩, ⟨some 55, (Op.call { callee := (Callee.value (Operand.func 44)), args := #[(Operand.tmp 54)], argTypes := #[3] }), 36, none⟩, ⟨some 56, (Op.call { callee := (Callee.builtin Builtin.append), args := #[(Operand.tmp 51), (Operand.tmp 55)], argTypes := #[36, 36] }), 36, none⟩, ⟨some 4, (Op.assign (Operand.tmp 56)), 36, none⟩] (Q .normal ds) σ w := mk_eq rfl
@[push_cast] theorem vr29_16 (Q : Post) (ds : List Deferred) (σ : Env) (w : World) : vc Try.prog (.region r29_16) Q ds σ w = vcOps Try.prog [⟨some 57, (Op.move (Operand.tmp 4)), 36, none⟩, ⟨some 58, (Op.move (Operand.tmp 6)), 3, none⟩, ⟨some 59, (Op.call { callee := (Callee.value (Operand.func 44)), args := #[(Operand.tmp 58)], argTypes := #[3] }), 36, none⟩, ⟨some 60, (Op.call { callee := (Callee.builtin Builtin.append), args := #[(Operand.tmp 57), (Operand.tmp 59)], argTypes := #[36, 36] }), 36, none⟩, ⟨some 4, (Op.assign (Operand.tmp 60)), 36, none⟩] (Q .normal ds) σ w := mk_eq rfl
@[push_cast] theorem vr29_17 (Q : Post) (ds : List Deferred) (σ : Env) (w : World) : vc Try.prog (.region r29_17) Q ds σ w = vcOps Try.prog [⟨some 61, (Op.move (Operand.tmp 4)), 36, none⟩, ⟨some 62, (Op.move (Operand.tmp 9)), 3, none⟩, ⟨some 63, (Op.call { callee := (Callee.value (Operand.func 44)), args := #[(Operand.tmp 62)], argTypes := #[3] }), 36, none⟩, ⟨some 64, (Op.call { callee := (Callee.builtin Builtin.append), args := #[(Operand.tmp 61), (Operand.tmp 63)], argTypes := #[36, 36] }), 36, none⟩, ⟨some 4, (Op.assign (Operand.tmp 64)), 36, none⟩] (Q .normal ds) σ w := mk_eq rfl
@[push_cast] theorem vr29_18 (Q : Post) (ds : List Deferred) (σ : Env) (w : World) : vc Try.prog (.region r29_18) Q ds σ w = vcOps Try.prog [⟨some 65, (Op.move (Operand.tmp 4)), 36, none⟩, ⟨some 66, (Op.move (Operand.tmp 10)), 36, none⟩, ⟨some 67, (Op.call { callee := (Callee.builtin Builtin.append), args := #[(Operand.tmp 65), (Operand.tmp 66)], argTypes := #[36, 36] }), 36, none⟩, ⟨some 2, (Op.assign (Operand.tmp 67)), 36, none⟩, ⟨some 3, (Op.assign (Operand.const (Value.int IntKind.i64 0))), 23, none⟩] (Q .normal ds) σ w := mk_eq rfl
/-! 30 columbary/delta.Sorted (params #[35], results #[(ResultVar.tmp 2)], 5 slots) -/
def r30_0 : List VOp :=
  [⟨some 2, (Op.assign (Operand.const (Value.bool false))), 4, none⟩]
def r30_1 : List VOp :=
  [⟨some 3, (Op.move (Operand.tmp 0)), 35, none⟩,
   ⟨some 4, (Op.call { callee := (Callee.value (Operand.func 49)), args := #[(Operand.tmp 3)], argTypes := #[35] }), 4, none⟩,
   ⟨some 2, (Op.assign (Operand.tmp 4)), 4, none⟩]
def B30 : VC :=
  (.seq (.region r30_0) (.seq (.region r30_1) .ret))
theorem code30 : ∃ c, Try.f30.body = some c ∧ abs Try.f30.ntmps c = B30 := ⟨_, rfl, by kernel_rfl⟩
theorem hb30 : HasBody Try.prog 30 := hasBody_of Try.func30 (by kernel_rfl)
theorem res30 : Try.f30.results = #[(ResultVar.tmp 2)] := rfl
theorem enter30 {w : World} {R : Value → World → Prop} (x0 : Value) (h : vc Try.prog B30 (retK Try.prog #[(ResultVar.tmp 2)] R) [] (initEnv [x0] 0) w) : FnC Try.prog 30 #[x0] w R := by
  obtain ⟨c, h1, h2⟩ := code30
  exact hb30.fn (ret_of_vc mixed Try.func30 h1 (Nat.le_of_ble_eq_true rfl) B30 h2 h)
@[push_cast] theorem vr30_0 (Q : Post) (ds : List Deferred) (σ : Env) (w : World) : vc Try.prog (.region r30_0) Q ds σ w = vcOps Try.prog [⟨some 2, (Op.assign (Operand.const (Value.bool false))), 4, none⟩] (Q .normal ds) σ w := mk_eq rfl
@[push_cast] theorem vr30_1 (Q : Post) (ds : List Deferred) (σ : Env) (w : World) : vc Try.prog (.region r30_1) Q ds σ w = vcOps Try.prog [⟨some 3, (Op.move (Operand.tmp 0)), 35, none⟩, ⟨some 4, (Op.call { callee := (Callee.value (Operand.func 49)), args := #[(Operand.tmp 3)], argTypes := #[35] }), 4, none⟩, ⟨some 2, (Op.assign (Operand.tmp 4)), 4, none⟩] (Q .normal ds) σ w := mk_eq rfl
/-! 31 columbary/delta.Decode (params #[36], results #[(ResultVar.tmp 2), (ResultVar.tmp 3)], 108 slots) -/
def W31_0 : List Nat := [16, 18, 79, 80, 81, 82, 83, 84, 85, 86, 87, 88, 89, 90, 91, 92, 93, 94, 95, 96, 97]
@[push_cast] theorem W31_0_def : W31_0 = [16, 18, 79, 80, 81, 82, 83, 84, 85, 86, 87, 88, 89, 90, 91, 92, 93, 94, 95, 96, 97] := mk_eq rfl
def r31_0 : List VOp :=
  [⟨some 2, (Op.assign (Operand.const (Value.slice none 0 0))), 35, none⟩,
   ⟨some 3, (Op.assign (Operand.const (Value.int IntKind.i64 0))), 23, none⟩]
def r31_1 : List VOp :=
  [⟨some 21, (Op.move (Operand.tmp 0)), 36, none⟩,
   ⟨some 22, (Op.call { callee := (Callee.value (Operand.func 50)), args := #[(Operand.tmp 21)], argTypes := #[36] }), 64, none⟩,
   ⟨some 4, (Op.assign (Operand.tmp 22)), 64, none⟩]
def r31_2 : List VOp :=
  [⟨some 24, (Op.move (Operand.tmp 4)), 64, none⟩,
   ⟨some 25, (Op.call { callee := (Callee.value (Operand.func 51)), args := #[(Operand.tmp 24), (Operand.const (Value.int IntKind.i64 0)), (Operand.const (Value.int IntKind.i64 65536))], argTypes := #[64, 3, 3] }), 30, none⟩,
   ⟨some 23, (Op.move (Operand.tmp 25)), 30, none⟩,
   ⟨some 26, (Op.extract (Operand.tmp 23) 0), 3, none⟩,
   ⟨some 27, (Op.extract (Operand.tmp 23) 1), 23, none⟩,
   ⟨some 5, (Op.assign (Operand.tmp 26)), 3, none⟩,
   ⟨some 6, (Op.assign (Operand.tmp 27)), 23, none⟩]
def r31_3 : List VOp :=
  [⟨some 28, (Op.move (Operand.tmp 6)), 23, none⟩,
   ⟨some 29, (Op.binOp BinOp.neq 23 (Operand.tmp 28) (Operand.const (Value.int IntKind.i64 0)) 23), 4, none⟩,
   ⟨some 30, (Op.move (Operand.tmp 29)), 4, none⟩,
   ⟨some 31, (Op.move (Operand.tmp 5)), 3, some (30, false)⟩,
   ⟨some 32, (Op.binOp BinOp.eql 3 (Operand.tmp 31) (Operand.const (Value.int IntKind.i64 0)) 3), 4, some (30, false)⟩,
   ⟨some 33, (Op.pick (Operand.tmp 30) (Operand.const (Value.bool true)) (Operand.tmp 32)), 4, none⟩]
def r31_4 : List VOp :=
  [⟨some 34, (Op.move (Operand.tmp 4)), 64, none⟩,
   ⟨some 35, (Op.move (Operand.tmp 6)), 23, none⟩,
   ⟨some 36, (Op.call { callee := (Callee.value (Operand.func 52)), args := #[(Operand.tmp 34), (Operand.tmp 35)], argTypes := #[64, 23] }), 40, none⟩,
   ⟨some 37, (Op.extract (Operand.tmp 36) 0), 35, none⟩,
   ⟨some 38, (Op.extract (Operand.tmp 36) 1), 23, none⟩,
   ⟨some 2, (Op.assign (Operand.tmp 37)), 35, none⟩,
   ⟨some 3, (Op.assign (Operand.tmp 38)), 23, none⟩]
def r31_5 : List VOp :=
  [⟨some 40, (Op.move (Operand.tmp 4)), 64, none⟩,
   ⟨some 41, (Op.call { callee := (Callee.value (Operand.func 51)), args := #[(Operand.tmp 40), (Operand.const (Value.int IntKind.i64 (-9223372036854775808))), (Operand.const (Value.int IntKind.i64 9223372036854775807))], argTypes := #[64, 3, 3] }), 30, none⟩,
   ⟨some 39, (Op.move (Operand.tmp 41)), 30, none⟩,
   ⟨some 42, (Op.extract (Operand.tmp 39) 0), 3, none⟩,
   ⟨some 43, (Op.extract (Operand.tmp 39) 1), 23, none⟩,
   ⟨some 7, (Op.assign (Operand.tmp 42)), 3, none⟩,
   ⟨some 6, (Op.assign (Operand.tmp 43)), 23, none⟩]
def r31_6 : List VOp :=
  [⟨some 45, (Op.move (Operand.tmp 4)), 64, none⟩,
   ⟨some 46, (Op.call { callee := (Callee.value (Operand.func 51)), args := #[(Operand.tmp 45), (Operand.const (Value.int IntKind.i64 (-9223372036854775808))), (Operand.const (Value.int IntKind.i64 9223372036854775807))], argTypes := #[64, 3, 3] }), 30, none⟩,
   ⟨some 44, (Op.move (Operand.tmp 46)), 30, none⟩,
   ⟨some 47, (Op.extract (Operand.tmp 44) 0), 3, none⟩,
   ⟨some 48, (Op.extract (Operand.tmp 44) 1), 23, none⟩,
   ⟨some 8, (Op.assign (Operand.tmp 47)), 3, none⟩,
   ⟨some 9, (Op.assign (Operand.tmp 48)), 23, none⟩]
def r31_7 : List VOp :=
  [⟨some 50, (Op.move (Operand.tmp 4)), 64, none⟩,
   ⟨some 51, (Op.call { callee := (Callee.value (Operand.func 51)), args := #[(Operand.tmp 50), (Operand.const (Value.int IntKind.i64 0)), (Operand.const (Value.int IntKind.i64 64))], argTypes := #[64, 3, 3] }), 30, none⟩,
   ⟨some 49, (Op.move (Operand.tmp 51)), 30, none⟩,
   ⟨some 52, (Op.extract (Operand.tmp 49) 0), 3, none⟩,
   ⟨some 53, (Op.extract (Operand.tmp 49) 1), 23, none⟩,
   ⟨some 10, (Op.assign (Operand.tmp 52)), 3, none⟩,
   ⟨some 11, (Op.assign (Operand.tmp 53)), 23, none⟩]
def r31_8 : List VOp :=
  [⟨some 55, (Op.move (Operand.tmp 4)), 64, none⟩,
   ⟨some 56, (Op.move (Operand.tmp 4)), 64, none⟩,
   ⟨some 57, (Op.call { callee := (Callee.value (Operand.func 54)), args := #[(Operand.tmp 56)], argTypes := #[64] }), 3, none⟩,
   ⟨some 58, (Op.call { callee := (Callee.value (Operand.func 53)), args := #[(Operand.tmp 55), (Operand.tmp 57)], argTypes := #[64, 3] }), 37, none⟩,
   ⟨some 54, (Op.move (Operand.tmp 58)), 37, none⟩,
   ⟨some 59, (Op.extract (Operand.tmp 54) 0), 36, none⟩,
   ⟨some 60, (Op.extract (Operand.tmp 54) 1), 23, none⟩,
   ⟨some 12, (Op.assign (Operand.tmp 59)), 36, none⟩,
   ⟨some 13, (Op.assign (Operand.tmp 60)), 23, none⟩]
def r31_9 : List VOp :=
  [⟨some 62, (Op.move (Operand.tmp 12)), 36, none⟩,
   ⟨some 63, (Op.move (Operand.tmp 5)), 3, none⟩,
   ⟨some 64, (Op.binOp BinOp.sub 3 (Operand.tmp 63) (Operand.const (Value.int IntKind.i64 1)) 3), 3, none⟩,
   ⟨some 65, (Op.move (Operand.tmp 10)), 3, none⟩,
   ⟨some 66, (Op.call { callee := (Callee.value (Operand.func 55)), args := #[(Operand.tmp 62), (Operand.tmp 64), (Operand.tmp 65)], argTypes := #[36, 3, 3] }), 69, none⟩,
   ⟨some 61, (Op.move (Operand.tmp 66)), 69, none⟩,
   ⟨some 67, (Op.extract (Operand.tmp 61) 0), 45, none⟩,
   ⟨some 68, (Op.extract (Operand.tmp 61) 1), 23, none⟩,
   ⟨some 14, (Op.assign (Operand.tmp 67)), 45, none⟩,
   ⟨some 15, (Op.assign (Operand.tmp 68)), 23, none⟩]
def r31_10 : List VOp :=
  [⟨some 69, (Op.move (Operand.tmp 6)), 23, none⟩,
   ⟨some 70, (Op.move (Operand.tmp 9)), 23, none⟩,
   ⟨some 71, (Op.move (Operand.tmp 11)), 23, none⟩,
   ⟨some 72, (Op.move (Operand.tmp 15)), 23, none⟩,
   ⟨some 73, (Op.call { callee := (Callee.builtin Builtin.max), args := #[(Operand.tmp 69), (Operand.tmp 70), (Operand.tmp 71), (Operand.tmp 72)], argTypes := #[23, 23, 23, 23] }), 23, none⟩,
   ⟨some 74, (Op.binOp BinOp.neq 23 (Operand.tmp 73) (Operand.const (Value.int IntKind.i64 0)) 23), 4, none⟩]
def r31_11 : List VOp :=
  [⟨some 2, (Op.assign (Operand.const (Value.slice none 0 0))), 35, none⟩,
   ⟨some 3, (Op.assign (Operand.const (Value.int IntKind.i64 81))), 23, none⟩]
def r31_12 : List VOp :=
  [⟨some 75, (Op.move (Operand.tmp 7)), 3, none⟩,
   ⟨some 76, (Op.buildSlice 35 1 #[(0, (Operand.tmp 75))]), 35, none⟩,
   ⟨some 16, (Op.assign (Operand.tmp 76)), 35, none⟩]
def r31_13 : List VOp :=
  [⟨some 77, (Op.move (Operand.tmp 14)), 45, none⟩,
   ⟨some 78, (Op.call { callee := (Callee.builtin Builtin.len), args := #[(Operand.tmp 77)], argTypes := #[45] }), 3, none⟩,
   ⟨some 79, (Op.move (Operand.const (Value.int IntKind.i64 0))), 3, none⟩]
def r31_14 : List VOp :=
  [⟨some 80, (Op.binOp BinOp.lss 3 (Operand.tmp 79) (Operand.tmp 78) 3), 0, none⟩]
def r31_15 : List VOp :=
  [⟨some 81, (Op.indexAddr 45 (Operand.tmp 77) (Operand.tmp 79)), 0, none⟩,
   ⟨some 82, (Op.load 47 (Operand.tmp 81)), 47, none⟩,
   ⟨some 18, (Op.assign (Operand.tmp 82)), 47, none⟩]
def r31_16 : List VOp :=
  [⟨some 83, (Op.move (Operand.tmp 16)), 35, none⟩,
   ⟨some 84, (Op.move (Operand.tmp 16)), 35, none⟩,
   ⟨some 85, (Op.move (Operand.tmp 16)), 35, none⟩,
   ⟨some 86, (Op.call { callee := (Callee.builtin Builtin.len), args := #[(Operand.tmp 85)], argTypes := #[35] }), 3, none⟩,
   ⟨some 87, (Op.binOp BinOp.sub 3 (Operand.tmp 86) (Operand.const (Value.int IntKind.i64 1)) 3), 3, none⟩,
   ⟨some 88, (Op.indexAddr 35 (Operand.tmp 84) (Operand.tmp 87)), 0, none⟩,
   ⟨some 89, (Op.load 3 (Operand.tmp 88)), 3, none⟩,
   ⟨some 90, (Op.move (Operand.tmp 8)), 3, none⟩,
   ⟨some 91, (Op.binOp BinOp.add 3 (Operand.tmp 89) (Operand.tmp 90) 3), 3, none⟩,
   ⟨some 92, (Op.move (Operand.tmp 18)), 47, none⟩,
   ⟨some 93, (Op.convert 47 3 (Operand.tmp 92)), 3, none⟩,
   ⟨some 94, (Op.binOp BinOp.add 3 (Operand.tmp 91) (Operand.tmp 93) 3), 3, none⟩,
   ⟨some 95, (Op.buildSlice 35 1 #[(0, (Operand.tmp 94))]), 35, none⟩,
   ⟨some 96, (Op.call { callee := (Callee.builtin Builtin.append), args := #[(Operand.tmp 83), (Operand.tmp 95)], argTypes := #[35, 35] }), 35, none⟩,
   ⟨some 16, (Op.assign (Operand.tmp 96)), 35, none⟩]
def r31_17 : List VOp :=
  [⟨some 97, (Op.binOp BinOp.add 3 (Operand.tmp 79) (Operand.const (Value.int IntKind.i64 1)) 3), 3, none⟩,
   ⟨some 79, (Op.move (Operand.tmp 97)), 3, none⟩]
def r31_18 : List VOp :=
  [⟨some 99, (Op.move (Operand.tmp 16)), 35, none⟩,
   ⟨some 100, (Op.call { callee := (Callee.value (Operand.func 28)), args := #[(Operand.tmp 99)], argTypes := #[35] }), 37, none⟩,
   ⟨some 98, (Op.move (Operand.tmp 100)), 37, none⟩,
   ⟨some 101, (Op.extract (Operand.tmp 98) 0), 36, none⟩,
   ⟨some 102, (Op.extract (Operand.tmp 98) 1), 23, none⟩,
   ⟨some 19, (Op.assign (Operand.tmp 101)), 36, none⟩,
   ⟨some 20, (Op.assign (Operand.tmp 102)), 23, none⟩]
def r31_19 : List VOp :=
  [⟨some 103, (Op.move (Operand.tmp 19)), 36, none⟩,
   ⟨some 104, (Op.move (Operand.tmp 0)), 36, none⟩,
   ⟨some 105, (Op.call { callee := (Callee.value (Operand.func 56)), args := #[(Operand.tmp 103), (Operand.tmp 104)], argTypes := #[36, 36] }), 4, none⟩,
   ⟨some 106, (Op.unOp UnOp.not 4 (Operand.tmp 105)), 4, none⟩]
def r31_20 : List VOp :=
  [⟨some 2, (Op.assign (Operand.const (Value.slice none 0 0))), 35, none⟩,
   ⟨some 3, (Op.assign (Operand.const (Value.int IntKind.i64 81))), 23, none⟩]
def r31_21 : List VOp :=
  [⟨some 107, (Op.move (Operand.tmp 16)), 35, none⟩,
   ⟨some 2, (Op.assign (Operand.tmp 107)), 35, none⟩,
   ⟨some 3, (Op.assign (Operand.const (Value.int IntKind.i64 0))), 23, none⟩]
def B31 : VC :=
  (.seq (.region r31_0) (.seq (.region r31_1) (.seq (.region r31_2) (.seq (.seq (.region r31_3) (.cond (Operand.tmp 33) (.seq (.region r31_4) .ret) .skip)) (.seq (.region r31_5) (.seq (.region r31_6) (.seq (.region r31_7) (.seq (.region r31_8) (.seq (.region r31_9) (.seq (.seq (.region r31_10) (.cond (Operand.tmp 74) (.seq (.region r31_11) .ret) .skip)) (.seq (.region r31_12) (.seq (.seq (.region r31_13) (.block 0 (.loop (.seq (.region r31_14) (.seq (.cond (Operand.tmp 80) .skip (.exit 0)) (.seq (.block 1 (.seq (.region r31_15) (.region r31_16))) (.region r31_17))))))) (.seq (.seq (.region r31_18) (.seq (.region r31_19) (.cond (Operand.tmp 106) (.seq (.region r31_20) .ret) .skip))) (.seq (.region r31_21) .ret))))))))))))))
theorem code31 : ∃ c, Try.f31.body = some c ∧ abs Try.f31.ntmps c = B31 := ⟨_, rfl, by kernel_rfl⟩
theorem hb31 : HasBody Try.prog 31 := hasBody_of Try.func31 (by kernel_rfl)
theorem res31 : Try.f31.results = #[(ResultVar.tmp 2), (ResultVar.tmp 3)] := rfl
theorem enter31 {w : World} {R : Value → World → Prop} (x0 : Value) (h : vc Try.prog B31 (retK Try.prog #[(ResultVar.tmp 2), (ResultVar.tmp 3)] R) [] (initEnv [x0] 0) w) : FnC Try.prog 31 #[x0] w R := by
  obtain ⟨c, h1, h2⟩ := code31
  exact hb31.fn (ret_of_vc mixed Try.func31 h1 (Nat.le_of_ble_eq_true rfl) B31 h2 h)
@[push_cast] theorem vr31_0 (Q : Post) (ds : List Deferred) (σ : Env) (w : World) : vc Try.prog (.region r31_0) Q ds σ w = vcOps Try.prog [⟨some 2, (Op.assign (Operand.const (Value.slice none 0 0))), 35, none⟩, ⟨some 3, (Op.assign (Operand.const (Value.int IntKind.i64 0))), 23, none⟩] (Q .normal ds) σ w := mk_eq rfl
@[push_cast] theorem vr31_1 (Q : Post) (ds : List Deferred) (σ : Env) (w : World) : vc Try.prog (.region r31_1) Q ds σ w = vcOps Try.prog [⟨some 21, (Op.move (Operand.tmp 0)), 36, none⟩, ⟨some 22, (Op.call { callee := (Callee.value (Operand.func 50)), args := #[(Operand.tmp 21)], argTypes := #[36] }), 64, none⟩, ⟨some 4, (Op.assign (Operand.tmp 22)), 64, none⟩] (Q .normal ds) σ w := mk_eq rfl
@[push_cast] theorem vr31_2 (Q : Post) (ds : List Deferred) (σ : Env) (w : World) : vc Try.prog (.region r31_2) Q ds σ w = vcOps Try.prog [⟨some 24, (Op.move (Operand.tmp 4)), 64, none⟩, ⟨some 25, (Op.call { callee := (Callee.value (Operand.func 51)), args := #[(Operand.tmp 24), (Operand.const (Value.int IntKind.i64 0)), (Operand.const (Value.int IntKind.i64 65536))], argTypes := #[64, 3, 3] }), 30, none⟩, ⟨some 23, (Op.move (Operand.tmp 25)), 30, none⟩, ⟨some 26, (Op.extract (Operand.tmp 23) 0), 3, none⟩, ⟨some 27, (Op.extract (Operand.tmp 23) 1), 23, none⟩, ⟨some 5, (Op.assign (Operand.tmp 26)), 3, none⟩, ⟨some 6, (Op.assign (Operand.tmp 27)), 23, none⟩] (Q .normal ds) σ w := mk_eq rfl
@[push_cast] theorem vr31_3 (Q : Post) (ds : List Deferred) (σ : Env) (w : World) : vc Try.prog (.region r31_3) Q ds σ w = vcOps Try.prog [⟨some 28, (Op.move (Operand.tmp 6)), 23, none⟩, ⟨some 29, (Op.binOp BinOp.neq 23 (Operand.tmp 28) (Operand.const (Value.int IntKind.i64 0)) 23), 4, none⟩, ⟨some 30, (Op.move (Operand.tmp 29)), 4, none⟩, ⟨some 31, (Op.move (Operand.tmp 5)), 3, some (30, false)⟩, ⟨some 32, (Op.binOp BinOp.eql 3 (Operand.tmp 31) (Operand.const (Value.int IntKind.i64 0)) 3), 4, some (30, false)⟩, ⟨some 33, (Op.pick (Operand.tmp 30) (Operand.const (Value.bool true)) (Operand.tmp 32)), 4, none⟩] (Q .normal ds) σ w := mk_eq rfl
@[push_cast] theorem vr31_4 (Q : Post) (ds : List Deferred) (σ : Env) (w : World) : vc Try.prog (.region r31_4) Q ds σ w = vcOps Try.prog [⟨some 34, (Op.move (Operand.tmp 4)), 64, none⟩, ⟨some 35, (Op.move (Operand.tmp 6)), 23, none⟩, ⟨some 36, (Op.call { callee := (Callee.value (Operand.func 52)), args := #[(Operand.tmp 34), (Operand.tmp 35)], argTypes := #[64, 23] }), 40, none⟩, ⟨some 37, (Op.extract (Operand.tmp 36) 0), 35, none⟩, ⟨some 38, (Op.extract (Operand.tmp 36) 1), 23, none⟩, ⟨some 2, (Op.assign (Operand.tmp 37)), 35, none⟩, ⟨some 3, (Op.assign (Operand.tmp 38)), 23, none⟩] (Q .normal ds) σ w := mk_eq rfl
@[push_cast] theorem vr31_5 (Q : Post) (ds : List Deferred) (σ : Env) (w : World) : vc Try.prog (.region r31_5) Q ds σ w = vcOps Try.prog [⟨some 40, (Op.move (Operand.tmp 4)), 64, none⟩, ⟨some 41, (Op.call { callee := (Callee.value (Operand.func 51)), args := #[(Operand.tmp 40), (Operand.const (Value.int IntKind.i64 (-9223372036854775808))), (Operand.const (Value.int IntKind.i64 9223372036854775807))], argTypes := #[64, 3, 3] }), 30, none⟩, ⟨some 39, (Op.move (Operand.tmp 41)), 30, none⟩, ⟨some 42, (Op.extract (Operand.tmp 39) 0), 3, none⟩, ⟨some 43, (Op.extract (Operand.tmp 39) 1), 23, none⟩, ⟨some 7, (Op.assign (Operand.tmp 42)), 3, none⟩, ⟨some 6, (Op.assign (Operand.tmp 43)), 23, none⟩] (Q .normal ds) σ w := mk_eq rfl
@[push_cast] theorem vr31_6 (Q : Post) (ds : List Deferred) (σ : Env) (w : World) : vc Try.prog (.region r31_6) Q ds σ w = vcOps Try.prog [⟨some 45, (Op.move (Operand.tmp 4)), 64, none⟩, ⟨some 46, (Op.call { callee := (Callee.value (Operand.func 51)), args := #[(Operand.tmp 45), (Operand.const (Value.int IntKind.i64 (-9223372036854775808))), (Operand.const (Value.int IntKind.i64 9223372036854775807))], argTypes := #[64, 3, 3] }), 30, none⟩, ⟨some 44, (Op.move (Operand.tmp 46)), 30, none⟩, ⟨some 47, (Op.extract (Operand.tmp 44) 0), 3, none⟩, ⟨some 48, (Op.extract (Operand.tmp 44) 1), 23, none⟩, ⟨some 8, (Op.assign (Operand.tmp 47)), 3, none⟩, ⟨some 9, (Op.assign (Operand.tmp 48)), 23, none⟩] (Q .normal ds) σ w := mk_eq rfl
@[push_cast] theorem vr31_7 (Q : Post) (ds : List Deferred) (σ : Env) (w : World) : vc Try.prog (.region r31_7) Q ds σ w = vcOps Try.prog [⟨some 50, (Op.move (Operand.tmp 4)), 64, none⟩, ⟨some 51, (Op.call { callee := (Callee.value (Operand.func 51)), args := #[(Operand.tmp 50), (Operand.const (Value.int IntKind.i64 0)), (Operand.const (Value.int IntKind.i64 64))], argTypes := #[64, 3, 3] }), 30, none⟩, ⟨some 49, (Op.move (Operand.tmp 51)), 30, none⟩, ⟨some 52, (Op.extract (Operand.tmp 49) 0), 3, none⟩, ⟨some 53, (Op.extract (Operand.tmp 49) 1), 23, none⟩, ⟨some 10, (Op.assign (Operand.tmp 52)), 3, none⟩, ⟨some 11, (Op.assign (Operand.tmp 53)), 23, none⟩] (Q .normal ds) σ w := mk_eq rfl
@[push_cast] theorem vr31_8 (Q : Post) (ds : List Deferred) (σ : Env) (w : World) : vc Try.prog (.region r31_8) Q ds σ w = vcOps Try.prog [⟨some 55, (Op.move (Operand.tmp 4)), 64, none⟩, ⟨some 56, (Op.move (Operand.tmp 4)), 64, none⟩, ⟨some 57, (Op.call { callee := (Callee.value (Operand.func 54)), args := #[(Operand.tmp 56)], argTypes := #[64] }), 3, none⟩, ⟨some 58, (Op.call { callee := (Callee.value (Operand.func 53)), args := #[(Operand.tmp 55), (Operand.tmp 57)], argTypes := #[64, 3] }), 37, none⟩, ⟨some 54, (Op.move (Operand.tmp 58)), 37, none⟩, ⟨some 59, (Op.extract (Operand.tmp 54) 0), 36, none⟩, ⟨some 60, (Op.extract (Operand.tmp 54) 1), 23, none⟩, ⟨some 12, (Op.assign (Operand.tmp 59)), 36, none⟩, ⟨some 13, (Op.assign (Operand.tmp 60)), 23, none⟩] (Q .normal ds) σ w := mk_eq rfl
@[push_cast] theorem vr31_9 (Q : Post) (ds : List Deferred) (σ : Env) (w : World) : vc Try.prog (.region r31_9) Q ds σ w = vcOps Try.prog [⟨some 62, (Op.move (Operand.tmp 12)), 36, none⟩, ⟨some 63, (Op.move (Operand.tmp 5)), 3, none⟩, ⟨some 64, (Op.binOp BinOp.sub 3 (Operand.tmp 63) (Operand.const (Value.int IntKind.i64 1)) 3), 3, none⟩, ⟨some 65, (Op.move (Operand.tmp 10)), 3, none⟩, ⟨some 66, (Op.call { callee := (Callee.value (Operand.func 55)), args := #[(Operand.tmp 62), (Operand.tmp 64), (Operand.tmp 65)], argTypes := #[36, 3, 3] }), 69, none⟩, ⟨some 61, (Op.move (Operand.tmp 66)), 69, none⟩, ⟨some 67, (Op.extract (Operand.tmp 61) 0), 45, none⟩, ⟨some 68, (Op.extract (Operand.tmp 61) 1), 23, none⟩, ⟨some 14, (Op.assign (Operand.tmp 67)), 45, none⟩, ⟨some 15, (Op.assign (Operand.tmp 68)), 23, none⟩] (Q .normal ds) σ w := mk_eq rfl
@[push_cast] theorem vr31_10 (Q : Post) (ds : List Deferred) (σ : Env) (w : World) : vc Try.prog (.region r31_10) Q ds σ w = vcOps Try.prog [⟨some 69, (Op.move (Operand.tmp 6)), 23, none⟩, ⟨some 70, (Op.move (Operand.tmp 9)), 23, none⟩, ⟨some 71, (Op.move (Operand.tmp 11)), 23, none⟩, ⟨some 72, (Op.move (Operand.tmp 15)), 23, none⟩, ⟨some 73, (Op.call { callee := (Callee.builtin Builtin.max), args := #[(Operand.tmp 69), (Operand.tmp 70), (Operand.tmp 71), (Operand.tmp 72)], argTypes := #[23, 23, 23, 23] }), 23, none⟩, ⟨some 74, (Op.binOp BinOp.neq 23 (Operand.tmp 73) (Operand.const (Value.int IntKind.i64 0)) 23), 4, none⟩] (Q .normal ds) σ w := mk_eq rfl
@[push_cast] theorem vr31_11 (Q : Post) (ds : List Deferred) (σ : Env) (w : World) : vc Try.prog (.region r31_11) Q ds σ w = vcOps Try.prog [⟨some 2, (Op.assign (Operand.const (Value.slice none 0 0))), 35, none⟩, ⟨some 3, (Op.assign (Operand.const (Value.int IntKind.i64 81))), 23, none⟩] (Q .normal ds) σ w := mk_eq rfl
@[push_cast] theorem vr31_12 (Q : Post) (ds : List Deferred) (σ : Env) (w : World) : vc Try.prog (.region r31_12) Q ds σ w = vcOps Try.prog [⟨some 75, (Op.move (Operand.tmp 7)), 3, none⟩, ⟨some 76, (Op.buildSlice 35 1 #[(0, (Operand.tmp 75))]), 35, none⟩, ⟨some 16, (Op.assign (Operand.tmp 76)), 35, none⟩] (Q .normal ds) σ w := mk_eq rfl
@[push_cast] theorem vr31_13 (Q : Post) (ds : List Deferred) (σ : Env) (w : World) : vc Try.prog (.region r31_13) Q ds σ w = vcOps Try.prog [⟨some 77, (Op.move (Operand.tmp 14)), 45, none⟩, ⟨some 78, (Op.call { callee := (Callee.builtin Builtin.len), args := #[(Operand.tmp 77)], argTypes := #[45] }), 3, none⟩, ⟨some 79, (Op.move (Operand.const (Value.int IntKind.i64 0))), 3, none⟩] (Q .normal ds) σ w := mk_eq rfl
@[push_cast] theorem vr31_14 (Q : Post) (ds : List Deferred) (σ : Env) (w : World) : vc Try.prog (.region r31_14) Q ds σ w = vcOps Try.prog [⟨some 80, (Op.binOp BinOp.lss 3 (Operand.tmp 79) (Operand.tmp 78) 3), 0, none⟩] (Q .normal ds) σ w := mk_eq rfl
@[push_cast] theorem vr31_15 (Q : Post) (ds : List Deferred) (σ : Env) (w : World) : vc Try.prog (.region r31_15) Q ds σ w = vcOps Try.prog [⟨some 81, (Op.indexAddr 45 (Operand.tmp 77) (Operand.tmp 79)), 0, none⟩, ⟨some 82, (Op.load 47 (Operand.tmp 81)), 47, none⟩, ⟨some 18, (Op.assign (Operand.tmp 82)), 47, none⟩] (Q .normal ds) σ w := mk_eq rfl
@[push_cast] theorem vr31_16 (Q : Post) (ds : List Deferred) (σ : Env) (w : World) : vc Try.prog (.region r31_16) Q ds σ w = vcOps Try.prog [⟨some 83, (Op.move (Operand.tmp 16)), 35, none⟩, ⟨some 84, (Op.move (Operand.tmp 16)), 35, none⟩, ⟨some 85, (Op.move (Operand.tmp 16)), 35, none⟩, ⟨some 86, (Op.call { callee := (Callee.builtin Builtin.len), args := #[(Operand.tmp 85)], argTypes := #[35] }), 3, none⟩, ⟨some 87, (Op.binOp BinOp.sub 3 (Operand.tmp 86) (Operand.const (Value.int IntKind.i64 1)) 3), 3, none⟩, ⟨some 88, (Op.indexAddr 35 (Operand.tmp 84) (Operand.tmp 87)), 0, none⟩, ⟨some 89, (Op.load 3 (Operand.tmp 88)), 3, none⟩, ⟨some 90, (Op.move (Operand.tmp 8)), 3, none⟩, ⟨some 91, (Op.binOp BinOp.add 3 (Operand.tmp 89) (Operand.tmp 90) 3), 3, none⟩, ⟨some 92, (Op.move (Operand.tmp 18)), 47, none⟩, ⟨some 93, (Op.convert 47 3 (Operand.tmp 92)), 3, none⟩, ⟨some 94, (Op.binOp BinOp.add 3 (Operand.tmp 91) (Operand.tmp 93) 3), 3, none⟩, ⟨some 95, (Op.buildSlice 35 1 #[(0, (Operand.tmp 94))]), 35, none⟩, ⟨some 96, (Op.call { callee := (Callee.builtin Builtin.append), args := #[(Operand.tmp 83), (Operand.tmp 95)], argTypes := #[35, 35] }), 35, none⟩, ⟨some 16, (Op.assign (Operand.tmp 96)), 35, none⟩] (Q .normal ds) σ w := mk_eq rfl
@[push_cast] theorem vr31_17 (Q : Post) (ds : List Deferred) (σ : Env) (w : World) : vc Try.prog (.region r31_17) Q ds σ w = vcOps Try.prog [⟨some 97, (Op.binOp BinOp.add 3 (Operand.tmp 79) (Operand.const (Value.int IntKind.i64 1)) 3), 3, none⟩, ⟨some 79, (Op.move (Operand.tmp 97)), 3, none⟩] (Q .normal ds) σ w := mk_eq rfl
@[push_cast] theorem vr31_18 (Q : Post) (ds : List Deferred) (σ : Env) (w : World) : vc Try.prog (.region r31_18) Q ds σ w = vcOps Try.prog [⟨some 99, (Op.move (Operand.tmp 16)), 35, none⟩, ⟨some 100, (Op.call { callee := (Callee.value (Operand.func 28)), args := #[(Operand.tmp 99)], argTypes := #[35] }), 37, none⟩, ⟨some 98, (Op.move (Operand.tmp 100)), 37, none⟩, ⟨some 101, (Op.extract (Operand.tmp 98) 0), 36, none⟩, ⟨some 102, (Op.extract (Operand.tmp 98) 1), 23, none⟩, ⟨some 19, (Op.assign (Operand.tmp 101)), 36, none⟩, ⟨some 20, (Op.assign (Operand.tmp 102)), 23, none⟩] (Q .normal ds) σ w := mk_eq rfl
@[push_cast] theorem vr31_19 (Q : Post) (ds : List Deferred) (σ : Env) (w : World) : vc Try.prog (.region r31_19) Q ds σ w = vcOps Try.prog [⟨some 103, (Op.move (Operand.tmp 19)), 36, none⟩, ⟨some 104, (Op.move (Operand.tmp 0)), 36, none⟩, ⟨some 105, (Op.call { callee := (Callee.value (Operand.func 56)), args := #[(Operand.tmp 103), (Operand.tmp 104)], argTypes := #[36, 36] }), 4, none⟩, ⟨some 106, (Op.unOp UnOp.not 4 (Operand.tmp 105)), 4, none⟩] (Q .normal ds) σ w := mk_eq rfl
@[push_cast] theorem vr31_20 (Q : Post) (ds : List Deferred) (σ : Env) (w : World) : vc Try.prog (.region r31_20) Q ds σ w = vcOps Try.prog [⟨some 2, (Op.assign (Operand.const (Value.slice none 0 0))), 35, none⟩, ⟨some 3, (Op.assign (Operand.const (Value.int IntKind.i64 81))), 23, none⟩] (Q .normal ds) σ w := mk_eq rfl
@[push_cast] theorem vr31_21 (Q : Post) (ds : List Deferred) (σ : Env) (w : World) : vc Try.prog (.region r31_21) Q ds σ w = vcOps Try.prog [⟨some 107, (Op.move (Operand.tmp 16)), 35, none⟩, ⟨some 2, (Op.assign (Operand.tmp 107)), 35, none⟩, ⟨some 3, (Op.assign (Operand.const (Value.int IntKind.i64 0))), 23, none⟩] (Q .normal ds) σ w := mk_eq rfl
/-! 32 columbary/columbaryref08.Decode (params #[36], results #[(ResultVar.tmp 2), (ResultVar.tmp 3)], 100 slots) -/
def W32_0 : List Nat := [6, 16, 59, 60, 61, 62, 63, 64, 65, 66, 67, 68, 69, 70, 71, 72, 73, 74, 75, 76, 77, 78, 79]
@[push_cast] theorem W32_0_def : W32_0 = [6, 16, 59, 60, 61, 62, 63, 64, 65, 66, 67, 68, 69, 70, 71, 72, 73, 74, 75, 76, 77, 78, 79] := mk_eq rfl
def r32_0 : List VOp :=
  [⟨some 2, (Op.assign (Operand.const (Value.slice none 0 0))), 35, none⟩,
   ⟨some 3, (Op.assign (Operand.const (Value.int IntKind.i64 0))), 23, none⟩]
def r32_1 : List VOp :=
  [⟨some 19, (Op.move (Operand.tmp 0)), 36, none⟩,
   ⟨some 20, (Op.build 74 #[(0, (Operand.tmp 19))]), 74, none⟩,
   ⟨some 21, (Op.box 74 (Operand.tmp 20)), 72, none⟩,
   ⟨some 4, (Op.assign (Operand.tmp 21)), 72, none⟩]
def r32_2 : List VOp :=
  [⟨some 22, (Op.move (Operand.tmp 4)), 72, none⟩,
   ⟨some 23, (Op.call { callee := (Callee.value (Operand.func 57)), args := #[(Operand.tmp 22), (Operand.const (Value.int IntKind.i64 0)), (Operand.const (Value.int IntKind.i64 65536))], argTypes := #[72, 3, 3] }), 3, none⟩,
   ⟨some 5, (Op.assign (Operand.tmp 23)), 3, none⟩]
def r32_3 : List VOp :=
  [⟨some 6, (Op.assign (Operand.const (Value.slice none 0 0))), 35, none⟩]
def r32_4 : List VOp :=
  [⟨some 24, (Op.move (Operand.tmp 5)), 3, none⟩,
   ⟨some 25, (Op.binOp BinOp.gtr 3 (Operand.tmp 24) (Operand.const (Value.int IntKind.i64 0)) 3), 4, none⟩]
def r32_5 : List VOp :=
  [⟨some 26, (Op.move (Operand.tmp 4)), 72, none⟩,
   ⟨some 27, (Op.call { callee := (Callee.value (Operand.func 57)), args := #[(Operand.tmp 26), (Operand.const (Value.int IntKind.i64 (-9223372036854775808))), (Operand.const (Value.int IntKind.i64 9223372036854775807))], argTypes := #[72, 3, 3] }), 3, none⟩,
   ⟨some 7, (Op.assign (Operand.tmp 27)), 3, none⟩]
def r32_6 : List VOp :=
  [⟨some 28, (Op.move (Operand.tmp 4)), 72, none⟩,
   ⟨some 29, (Op.call { callee := (Callee.value (Operand.func 57)), args := #[(Operand.tmp 28), (Operand.const (Value.int IntKind.i64 (-9223372036854775808))), (Operand.const (Value.int IntKind.i64 9223372036854775807))], argTypes := #[72, 3, 3] }), 3, none⟩,
   ⟨some 8, (Op.assign (Operand.tmp 29)), 3, none⟩]
def r32_7 : List VOp :=
  [⟨some 30, (Op.move (Operand.tmp 4)), 72, none⟩,
   ⟨some 31, (Op.call { callee := (Callee.value (Operand.func 57)), args := #[(Operand.tmp 30), (Operand.const (Value.int IntKind.i64 0)), (Operand.const (Value.int IntKind.i64 64))], argTypes := #[72, 3, 3] }), 3, none⟩,
   ⟨some 9, (Op.assign (Operand.tmp 31)), 3, none⟩]
def r32_8 : List VOp :=
  [⟨some 33, (Op.move (Operand.tmp 5)), 3, none⟩,
   ⟨some 34, (Op.binOp BinOp.sub 3 (Operand.tmp 33) (Operand.const (Value.int IntKind.i64 1)) 3), 3, none⟩,
   ⟨some 35, (Op.move (Operand.tmp 9)), 3, none⟩,
   ⟨some 36, (Op.call { callee := (Callee.value (Operand.func 58)), args := #[(Operand.tmp 34), (Operand.tmp 35)], argTypes := #[3, 3] }), 30, none⟩,
   ⟨some 32, (Op.move (Operand.tmp 36)), 30, none⟩,
   ⟨some 37, (Op.extract (Operand.tmp 32) 0), 3, none⟩,
   ⟨some 38, (Op.extract (Operand.tmp 32) 1), 23, none⟩,
   ⟨some 10, (Op.assign (Operand.tmp 37)), 3, none⟩,
   ⟨some 11, (Op.assign (Operand.tmp 38)), 23, none⟩]
def r32_9 : List VOp :=
  [⟨some 40, (Op.move (Operand.tmp 4)), 72, none⟩,
   ⟨some 41, (Op.move (Operand.tmp 10)), 3, none⟩,
   ⟨some 42, (Op.call { callee := (Callee.value (Operand.func 59)), args := #[(Operand.tmp 40), (Operand.tmp 41)], argTypes := #[72, 3] }), 37, none⟩,
   ⟨some 39, (Op.move (Operand.tmp 42)), 37, none⟩,
   ⟨some 43, (Op.extract (Operand.tmp 39) 0), 36, none⟩,
   ⟨some 44, (Op.extract (Operand.tmp 39) 1), 23, none⟩,
   ⟨some 12, (Op.assign (Operand.tmp 43)), 36, none⟩,
   ⟨some 13, (Op.assign (Operand.tmp 44)), 23, none⟩]
def r32_10 : List VOp :=
  [⟨some 46, (Op.move (Operand.tmp 12)), 36, none⟩,
   ⟨some 47, (Op.move (Operand.tmp 5)), 3, none⟩,
   ⟨some 48, (Op.binOp BinOp.sub 3 (Operand.tmp 47) (Operand.const (Value.int IntKind.i64 1)) 3), 3, none⟩,
   ⟨some 49, (Op.move (Operand.tmp 9)), 3, none⟩,
   ⟨some 50, (Op.call { callee := (Callee.value (Operand.func 60)), args := #[(Operand.tmp 46), (Operand.tmp 48), (Operand.tmp 49)], argTypes := #[36, 3, 3] }), 69, none⟩,
   ⟨some 45, (Op.move (Operand.tmp 50)), 69, none⟩,
   ⟨some 51, (Op.extract (Operand.tmp 45) 0), 45, none⟩,
   ⟨some 52, (Op.extract (Operand.tmp 45) 1), 23, none⟩,
   ⟨some 14, (Op.assign (Operand.tmp 51)), 45, none⟩,
   ⟨some 15, (Op.assign (Operand.tmp 52)), 23, none⟩]
def r32_11 : List VOp :=
  [⟨some 53, (Op.move (Operand.tmp 15)), 23, none⟩,
   ⟨some 54, (Op.binOp BinOp.neq 23 (Operand.tmp 53) (Operand.const (Value.int IntKind.i64 0)) 23), 4, none⟩]
def r32_12 : List VOp :=
  [⟨some 2, (Op.assign (Operand.const (Value.slice none 0 0))), 35, none⟩,
   ⟨some 3, (Op.assign (Operand.const (Value.int IntKind.i64 81))), 23, none⟩]
def r32_13 : List VOp :=
  [⟨some 55, (Op.move (Operand.tmp 6)), 35, none⟩,
   ⟨some 56, (Op.move (Operand.tmp 7)), 3, none⟩,
   ⟨some 57, (Op.buildSlice 35 1 #[(0, (Operand.tmp 56))]), 35, none⟩,
   ⟨some 58, (Op.call { callee := (Callee.builtin Builtin.append), args := #[(Operand.tmp 55), (Operand.tmp 57)], argTypes := #[35, 35] }), 35, none⟩,
   ⟨some 6, (Op.assign (Operand.tmp 58)), 35, none⟩]
def r32_14 : List VOp :=
  [⟨some 16, (Op.assign (Operand.const (Value.int IntKind.i64 0))), 3, none⟩]
def r32_15 : List VOp :=
  [⟨some 59, (Op.move (Operand.tmp 16)), 3, none⟩,
   ⟨some 60, (Op.move (Operand.tmp 14)), 45, none⟩,
   ⟨some 61, (Op.call { callee := (Callee.builtin Builtin.len), args := #[(Operand.tmp 60)], argTypes := #[45] }), 3, none⟩,
   ⟨some 62, (Op.binOp BinOp.lss 3 (Operand.tmp 59) (Operand.tmp 61) 3), 4, none⟩]
def r32_17 : List VOp :=
  [⟨some 65, (Op.move (Operand.tmp 6)), 35, none⟩,
   ⟨some 66, (Op.move (Operand.tmp 6)), 35, none⟩,
   ⟨some 67, (Op.move (Operand.tmp 16)), 3, none⟩,
   ⟨some 68, (Op.indexAddr 35 (Operand.tmp 66) (Operand.tmp 67)), 0, none⟩,
   ⟨some 69, (Op.load 3 (Operand.tmp 68)), 3, none⟩,
   ⟨some 70, (Op.move (Operand.tmp 8)), 3, none⟩,
   ⟨some 71, (Op.binOp BinOp.add 3 (Operand.tmp 69) (Operand.tmp 70) 3), 3, none⟩,
   ⟨some 72, (Op.move (Operand.tmp 14)), 45, none⟩,
   ⟨some 73, (Op.move (Operand.tmp 16)), 3, none⟩,
   ⟨some 74, (Op.indexAddr 45 (Operand.tmp 72) (Operand.tmp 73)), 0, none⟩,
   ⟨some 75, (Op.load 47 (Operand.tmp 74)), 47, none⟩,
   ⟨some 76, (Op.convert 47 3 (Operand.tmp 75)), 3, none⟩,
   ⟨some 77, (Op.binOp BinOp.add 3 (Operand.tmp 71) (Operand.tmp 76) 3), 3, none⟩,
   ⟨some 78, (Op.buildSlice 35 1 #[(0, (Operand.tmp 77))]), 35, none⟩,
   ⟨some 79, (Op.call { callee := (Callee.builtin Builtin.append), args := #[(Operand.tmp 65), (Operand.tmp 78)], argTypes := #[35, 35] }), 35, none⟩,
   ⟨some 6, (Op.assign (Operand.tmp 79)), 35, none⟩]
def r32_16 : List VOp :=
  [⟨some 63, (Op.move (Operand.tmp 16)), 3, none⟩,
   ⟨some 64, (Op.binOp BinOp.add 3 (Operand.tmp 63) (Operand.const (Value.int IntKind.i64 1)) 3), 3, none⟩,
   ⟨some 16, (Op.assign (Operand.tmp 64)), 3, none⟩]
def r32_18 : List VOp :=
  [⟨some 81, (Op.move (Operand.tmp 6)), 35, none⟩,
   ⟨some 82, (Op.call { callee := (Callee.value (Operand.func 29)), args := #[(Operand.tmp 81)], argTypes := #[35] }), 37, none⟩,
   ⟨some 80, (Op.move (Operand.tmp 82)), 37, none⟩,
   ⟨some 83, (Op.extract (Operand.tmp 80) 0), 36, none⟩,
   ⟨some 84, (Op.extract (Operand.tmp 80) 1), 23, none⟩,
   ⟨some 17, (Op.assign (Operand.tmp 83)), 36, none⟩,
   ⟨some 18, (Op.assign (Operand.tmp 84)), 23, none⟩]
def r32_19 : List VOp :=
  [⟨some 85, (Op.move (Operand.tmp 4)), 72, none⟩,
   ⟨some 86, (Op.call { callee := (Callee.value (Operand.func 61)), args := #[(Operand.tmp 85)], argTypes := #[72] }), 4, none⟩,
   ⟨some 87, (Op.unOp UnOp.not 4 (Operand.tmp 86)), 4, none⟩,
   ⟨some 88, (Op.move (Operand.tmp 87)), 4, none⟩,
   ⟨some 89, (Op.move (Operand.tmp 18)), 23, some (88, false)⟩,
   ⟨some 90, (Op.binOp BinOp.neq 23 (Operand.tmp 89) (Operand.const (Value.int IntKind.i64 0)) 23), 4, some (88, false)⟩,
   ⟨some 91, (Op.pick (Operand.tmp 88) (Operand.const (Value.bool true)) (Operand.tmp 90)), 4, none⟩,
   ⟨some 92, (Op.move (Operand.tmp 91)), 4, none⟩,
   ⟨some 93, (Op.move (Operand.tmp 17)), 36, some (92, false)⟩,
   ⟨some 94, (Op.convert 36 9 (Operand.tmp 93)), 9, some (92, false)⟩,
   ⟨some 95, (Op.move (Operand.tmp 0)), 36, some (92, false)⟩,
   ⟨some 96, (Op.convert 36 9 (Operand.tmp 95)), 9, some (92, false)⟩,
   ⟨some 97, (Op.binOp BinOp.neq 9 (Operand.tmp 94) (Operand.tmp 96) 9), 4, some (92, false)⟩,
   ⟨some 98, (Op.pick (Operand.tmp 92) (Operand.const (Value.bool true)) (Operand.tmp 97)), 4, none⟩]
def r32_20 : List VOp :=
  [⟨some 2, (Op.assign (Operand.const (Value.slice none 0 0))), 35, none⟩,
   ⟨some 3, (Op.assign (Operand.const (Value.int IntKind.i64 81))), 23, none⟩]
def r32_21 : List VOp :=
  [⟨some 99, (Op.move (Operand.tmp 6)), 35, none⟩,
   ⟨some 2, (Op.assign (Operand.tmp 99)), 35, none⟩,
   ⟨some 3, (Op.assign (Operand.const (Value.int IntKind.i64 0))), 23, none⟩]
def B32 : VC :=
  (.seq (.region r32_0) (.seq (.region r32_1) (.seq (.region r32_2) (.seq (.region r32_3) (.seq (.seq (.region r32_4) (.cond (Operand.tmp 25) (.seq (.region r32_5) (.seq (.region r32_6) (.seq (.region r32_7) (.seq (.region r32_8) (.seq (.region r32_9) (.seq (.region r32_10) (.seq (.seq (.region r32_11) (.cond (Operand.tmp 54) (.seq (.region r32_12) .ret) .skip)) (.seq (.region r32_13) (.seq (.region r32_14) (.block 0 (.loop (.seq (.seq (.region r32_15) (.cond (Operand.tmp 62) .skip (.exit 0))) (.seq (.block 1 (.draw r32_17 3)) (.region r32_16)))))))))))))) .skip)) (.seq (.region r32_18) (.seq (.seq (.region r32_19) (.cond (Operand.tmp 98) (.seq (.region r32_20) .ret) .skip)) (.seq (.region r32_21) .ret))))))))
theorem code32 : ∃ c, Try.f32.body = some c ∧ abs Try.f32.ntmps c = B32 := ⟨_, rfl, by kernel_rfl⟩
theorem hb32 : HasBody Try.prog 32 := hasBody_of Try.func32 (by kernel_rfl)
theorem res32 : Try.f32.results = #[(ResultVar.tmp 2), (ResultVar.tmp 3)] := rfl
theorem enter32 {w : World} {R : Value → World → Prop} (x0 : Value) (h : vc Try.prog B32 (retK Try.prog #[(ResultVar.tmp 2), (ResultVar.tmp 3)] R) [] (initEnv [x0] 0) w) : FnC Try.prog 32 #[x0] w R := by
  obtain ⟨c, h1, h2⟩ := code32
  exact hb32.fn (ret_of_vc mixed Try.func32 h1 (Nat.le_of_ble_eq_true rfl) B32 h2 h)
@[push_cast] theorem vr32_0 (Q : Post) (ds : List Deferred) (σ : Env) (w : World) : vc Try.prog (.region r32_0) Q ds σ w = vcOps Try.prog [⟨some 2, (Op.assign (Operand.const (Value.slice none 0 0))), 35, none⟩, ⟨some 3, (Op.assign (Operand.const (Value.int IntKind.i64 0))), 23, none⟩] (Q .normal ds) σ w := mk_eq rfl
@[push_cast] theorem vr32_1 (Q : Post) (ds : List Deferred) (σ : Env) (w : World) : vc Try.prog (.region r32_1) Q ds σ w = vcOps Try.prog [⟨some 19, (Op.move (Operand.tmp 0)), 36, none⟩, ⟨some 20, (Op.build 74 #[(0, (Operand.tmp 19))]), 74, none⟩, ⟨some 21, (Op.box 74 (Operand.tmp 20)), 72, none⟩, ⟨some 4, (Op.assign (Operand.tmp 21)), 72, none⟩] (Q .normal ds) σ w := mk_eq rfl
@[push_cast] theorem vr32_2 (Q : Post) (ds : List Deferred) (σ : Env) (w : World) : vc Try.prog (.region r32_2) Q ds σ w = vcOps Try.prog [⟨some 22, (Op.move (Operand.tmp 4)), 72, none⟩, ⟨some 23, (Op.call { callee := (Callee.value (Operand.func 57)), args := #[(Operand.tmp 22), (Operand.const (Value.int IntKind.i64 0)), (Operand.const (Value.int IntKind.i64 65536))], argTypes := #[72, 3, 3] }), 3, none⟩, ⟨some 5, (Op.assign (Operand.tmp 23)), 3, none⟩] (Q .normal ds) σ w := mk_eq rfl
@[push_cast] theorem vr32_3 (Q : Post) (ds : List Deferred) (σ : Env) (w : World) : vc Try.prog (.region r32_3) Q ds σ w = vcOps Try.prog [⟨some 6, (Op.assign (Operand.const (Value.slice none 0 0))), 35, none⟩] (Q .normal ds) σ w := mk_eq rfl
@[push_cast] theorem vr32_4 (Q : Post) (ds : List Deferred) (σ : Env) (w : World) : vc Try.prog (.region r32_4) Q ds σ w = vcOps Try.prog [⟨some 24, (Op.move (Operand.tmp 5)), 3, none⟩, ⟨some 25, (Op.binOp BinOp.gtr 3 (Operand.tmp 24) (Operand.const (Value.int IntKind.i64 0)) 3), 4, none⟩] (Q .normal ds) σ w := mk_eq rfl
@[push_cast] theorem vr32_5 (Q : Post) (ds : List Deferred) (σ : Env) (w : World) : vc Try.prog (.region r32_5) Q ds σ w = vcOps Try.prog [⟨some 26, (Op.move (Operand.tmp 4)), 72, none⟩, ⟨some 27, (Op.call { callee := (Callee.value (Operand.func 57)), args := #[(Operand.tmp 26), (Operand.const (Value.int IntKind.i64 (-9223372036854775808))), (Operand.const (Value.int IntKind.i64 9223372036854775807))], argTypes := #[72, 3, 3] }), 3, none⟩, ⟨some 7, (Op.assign (Operand.tmp 27)), 3, none⟩] (Q .normal ds) σ w := mk_eq rfl
@[push_cast] theorem vr32_6 (Q : Post) (ds : List Deferred) (σ : Env) (w : World) : vc Try.prog (.region r32_6) Q ds σ w = vcOps Try.prog [⟨some 28, (Op.move (Operand.tmp 4)), 72, none⟩, ⟨some 29, (Op.call { callee := (Callee.value (Operand.func 57)), args := #[(Operand.tmp 28), (Operand.const (Value.int IntKind.i64 (-9223372036854775808))), (Operand.const (Value.int IntKind.i64 9223372036854775807))], argTypes := #[72, 3, 3] }), 3, none⟩, ⟨some 8, (Op.assign (Operand.tmp 29)), 3, none⟩] (Q .normal ds) σ w := mk_eq rfl
@[push_cast] theorem vr32_7 (Q : Post) (ds : List Deferred) (σ : Env) (w : World) : vc Try.prog (.region r32_7) Q ds σ w = vcOps Try.prog [⟨some 30, (Op.move (Operand.tmp 4)), 72, none⟩, ⟨some 31, (Op.call { callee := (Callee.value (Operand.func 57)), args := #[(Operand.tmp 30), (Operand.const (Value.int IntKind.i64 0)), (Operand.const (Value.int IntKind.i64 64))], argTypes := #[72, 3, 3] }), 3, none⟩, ⟨some 9, (Op.assign (Operand.tmp 31)), 3, none⟩] (Q .normal ds) σ w := mk_eq rfl
@[push_cast] theorem vr32_8 (Q : Post) (ds : List Deferred) (σ : Env) (w : World) : vc Try.prog (.region r32_8) Q ds σ w = vcOps Try.prog [⟨some 33, (Op.move (Operand.tmp 5)), 3, none⟩, ⟨some 34, (Op.binOp BinOp.sub 3 (Operand.tmp 33) (Operand.const (Value.int IntKind.i64 1)) 3), 3, none⟩, ⟨some 35, (Op.move (Operand.tmp 9)), 3, none⟩, ⟨some 36, (Op.call { callee := (Callee.value (Operand.func 58)), args := #[(Operand.tmp 34), (Operand.tmp 35)], argTypes := #[3, 3] }), 30, none⟩, ⟨some 32, (Op.move (Operand.tmp 36)), 30, none⟩, ⟨some 37, (Op.extract (Operand.tmp 32) 0), 3, none⟩, ⟨some 38, (Op.extract (Operand.tmp 32) 1), 23, none⟩, ⟨some 10, (Op.assign (Operand.tmp 37)), 3, none⟩, ⟨some 11, (Op.assign (Operand.tmp 38)), 23, none⟩] (Q .normal ds) σ w := mk_eq rfl
@[push_cast] theorem vr32_9 (Q : Post) (ds : List Deferred) (σ : Env) (w : World) : vc Try.prog (.region r32_9) Q ds σ w = vcOps Try.prog [⟨some 40, (Op.move (Operand.tmp 4)), 72, none⟩, ⟨some 41, (Op.move (Operand.tmp 10)), 3, none⟩, ⟨some 42, (Op.call { callee := (Callee.value (Operand.func 59)), args := #[(Operand.tmp 40), (Operand.tmp 41)], argTypes := #[72, 3] }), 37, none⟩, ⟨some 39, (Op.move (Operand.tmp 42)), 37, none⟩, ⟨some 43, (Op.extract (Operand.tmp 39) 0), 36, none⟩, ⟨some 44, (Op.extract (Operand.tmp 39) 1), 23, none⟩, ⟨some 12, (Op.assign (Operand.tmp 43)), 36, none⟩, ⟨some 13, (Op.assign (Operand.tmp 44)), 23, none⟩] (Q .normal ds) σ w := mk_eq rfl
@[push_cast] theorem vr32_10 (Q : Post) (ds : List Deferred) (σ : Env) (w : World) : vc Try.prog (.region r32_10) Q ds σ w = vcOps Try.prog [⟨some 46, (Op.move (Operand.tmp 12)), 36, none⟩, ⟨some 47, (Op.move (Operand.tmp 5)), 3, none⟩, ⟨some 48, (Op.binOp BinOp.sub 3 (Operand.tmp 47) (Operand.const (Value.int IntKind.i64 1)) 3), 3, none⟩, ⟨some 49, (Op.move (Operand.tmp 9)), 3, none⟩, ⟨some 50, (Op.call { callee := (Callee.value (Operand.func 60)), args := #[(Operand.tmp 46), (Operand.tmp 48), (Operand.tmp 49)], argTypes := #[36, 3, 3] }), 69, none⟩, ⟨some 45, (Op.move (Operand.tmp 50)), 69, none⟩, ⟨some 51, (Op.extract (Operand.tmp 45) 0), 45, none⟩, ⟨some 52, (Op.extract (Operand.tmp 45) 1), 23, none⟩, ⟨some 14, (Op.assign (Operand.tmp 51)), 45, none⟩, ⟨some 15, (Op.assign (Operand.tmp 52)), 23, none⟩] (Q .normal ds) σ w := mk_eq rfl
@[push_cast] theorem vr32_11 (Q : Post) (ds : List Deferred) (σ : Env) (w : World) : vc Try.prog (.region r32_11) Q ds σ w = vcOps Try.prog [⟨some 53, (Op.move (Operand.tmp 15)), 23, none⟩, ⟨some 54, (Op.binOp BinOp.neq 23 (Operand.tmp 53) (Operand.const (Value.int IntKind.i64 0)) 23), 4, none⟩] (Q .normal ds) σ w := mk_eq rfl
@[push_cast] theorem vr32_12 (Q : Post) (ds : List Deferred) (σ : Env) (w : World) : vc Try.prog (.region r32_12) Q ds σ w = vcOps Try.prog [⟨some 2, (Op.assign (Operand.const (Value.slice none 0 0))), 35, none⟩, ⟨some 3, (Op.assign (Operand.const (Value.int IntKind.i64 81))), 23, none⟩] (Q .normal ds) σ w := mk_eq rfl
@[push_cast] theorem vr32_13 (Q : Post) (ds : List Deferred) (σ : Env) (w : World) : vc Try.prog (.region r32_13) Q ds σ w = vcOps Try.prog [⟨some 55, (Op.move (Operand.tmp 6)), 35, none⟩, ⟨some 56, (Op.move (Operand.tmp 7)), 3, none⟩, ⟨some 57, (Op.buildSlice 35 1 #[(0, (Operand.tmp 56))]), 35, none⟩, ⟨some 58, (Op.call { callee := (Callee.builtin Builtin.append), args := #[(Operand.tmp 55), (Operand.tmp 57)], argTypes := #[35, 35] }), 35, none⟩, ⟨some 6, (Op.assign (Operand.tmp 58)), 35, none⟩] (Q .normal ds) σ w := mk_eq rfl
@[push_cast] theorem vr32_14 (Q : Post) (ds : List Deferred) (σ : Env) (w : World) : vc Try.prog (.region r32_14) Q ds σ w = vcOps Try.prog [⟨some 16, (Op.assign (Operand.const (Value.int IntKind.i64 0))), 3, none⟩] (Q .normal ds) σ w := mk_eq rfl
@[push_cast] theorem vr32_15 (Q : Post) (ds : List Deferred) (σ : Env) (w : World) : vc Try.prog (.region r32_15) Q ds σ w = vcOps Try.prog [⟨some 59, (Op.move (Operand.tmp 16)), 3, none⟩, ⟨some 60, (Op.move (Operand.tmp 14)), 45, none⟩, ⟨some 61, (Op.call { callee := (Callee.builtin Builtin.len), args := #[(Operand.tmp 60)], argTypes := #[45] }), 3, none⟩, ⟨some 62, (Op.binOp BinOp.lss 3 (Operand.tmp 59) (Operand.tmp 61) 3), 4, none⟩] (Q .normal ds) σ w := mk_eq rfl
@[push_cast] theorem vr32_17 (Q : Post) (ds : List Deferred) (σ : Env) (w : World) : vc Try.prog (.draw r32_17 3) Q ds σ w = drawn Try.prog [(⟨some 65, (Op.move (Operand.tmp 6)), 35, none⟩, [6]), (⟨some 66, (Op.move (Operand.tmp 6)), 35, none⟩, [6]), (⟨some 67, (Op.move (Operand.tmp 16)), 3, none⟩, [16]), (⟨some 68, (Op.indexAddr 35 (Operand.tmp 66) (Operand.tmp 67)), 0, none⟩, [66, 67]), (⟨some 69, (Op.load 3 (Operand.tmp 68)), 3, none⟩, [68]), (⟨some 70, (Op.move (Operand.tmp 8)), 3, none⟩, [8]), (⟨some 71, (Op.binOp BinOp.add 3 (Operand.tmp 69) (Operand.tmp 70) 3), 3, none⟩, [69, 70]), (⟨some 72, (Op.move (Operand.tmp 14)), 45, none⟩, [14]), (⟨some 73, (Op.move (Operand.tmp 16)), 3, none⟩, [16]), (⟨some 74, (Op.indexAddr 45 (Operand.tmp 72) (Operand.tmp 73)), 0, none⟩, [72, 73]), (⟨some 75, (Op.load 47 (Operand.tmp 74)), 47, none⟩, [74]), (⟨some 76, (Op.convert 47 3 (Operand.tmp 75)), 3, none⟩, [75]), (⟨some 77, (Op.binOp BinOp.add 3 (Operand.tmp 71) (Operand.tmp 76) 3), 3, none⟩, [71, 76]), (⟨some 78, (Op.buildSlice 35 1 #[(0, (Operand.tmp 77))]), 35, none⟩, [77]), (⟨some 79, (Op.call { callee := (Callee.builtin Builtin.append), args := #[(Operand.tmp 65), (Operand.tmp 78)], argTypes := #[35, 35] }), 35, none⟩, [65, 78]), (⟨some 6, (Op.assign (Operand.tmp 79)), 35, none⟩, [79])] 3 (Q .normal ds) σ w := mk_eq rfl
@[push_cast] theorem vr32_16 (Q : Post) (ds : List Deferred) (σ : Env) (w : World) : vc Try.prog (.region r32_16) Q ds σ w = vcOps Try.prog [⟨some 63, (Op.move (Operand.tmp 16)), 3, none⟩, ⟨some 64, (Op.binOp BinOp.add 3 (Operand.tmp 63) (Operand.const (Value.int IntKind.i64 1)) 3), 3, none⟩, ⟨some 16, (Op.assign (Operand.tmp 64)), 3, none⟩] (Q .normal ds) σ w := mk_eq rfl
@[push_cast] theorem vr32_18 (Q : Post) (ds : List Deferred) (σ : Env) (w : World) : vc Try.prog (.region r32_18) Q ds σ w = vcOps Try.prog [⟨some 81, (Op.move (Operand.tmp 6)), 35, none⟩, ⟨some 82, (Op.call { callee := (Callee.value (Operand.func 29)), args := #[(Operand.tmp 81)], argTypes := #[35] }), 37, none⟩, ⟨some 80, (Op.move (Operand.tmp 82)), 37, none⟩, ⟨some 83, (Op.extract (Operand.tmp 80) 0), 36, none⟩, ⟨some 84, (Op.extract (Operand.tmp 80) 1), 23, none⟩, ⟨some 17, (Op.assign (Operand.tmp 83)), 36, none⟩, ⟨some 18, (Op.assign (Operand.tmp 84)), 23, none⟩] (Q .normal ds) σ w := mk_eq rfl
@[push_cast] theorem vr32_19 (Q : Post) (ds : List Deferred) (σ : Env) (w : World) : vc Try.prog (.region r32_19) Q ds σ w = vcOps Try.prog [⟨some 85, (Op.move (Operand.tmp 4)), 72, none⟩, ⟨some 86, (Op.call { callee := (Callee.value (Operand.func 61)), args := #[(Operand.tmp 85)], argTypes := #[72] }), 4, none⟩, ⟨some 87, (Op.unOp UnOp.not 4 (Operand.tmp 86)), 4, none⟩, ⟨some 88, (Op.move (Operand.tmp 87)), 4, none⟩, ⟨some 89, (Op.move (Operand.tmp 18)), 23, some (88, false)⟩, ⟨some 90, (Op.binOp BinOp.neq 23 (Operand.tmp 89) (Operand.const (Value.int IntKind.i64 0)) 23), 4, some (88, false)⟩, ⟨some 91, (Op.pick (Operand.tmp 88) (Operand.const (Value.bool true)) (Operand.tmp 90)), 4, none⟩, ⟨some 92, (Op.move (Operand.tmp 91)), 4, none⟩, ⟨some 93, (Op.move (Operand.tmp 17)), 36, some (92, false)⟩, ⟨some 94, (Op.convert 36 9 (Operand.tmp 93)), 9, some (92, false)⟩, ⟨some 95, (Op.move (Operand.tmp 0)), 36, some (92, false)⟩, ⟨some 96, (Op.convert 36 9 (Operand.tmp 95)), 9, some (92, false)⟩, ⟨some 97, (Op.binOp BinOp.neq 9 (Operand.tmp 94) (Operand.tmp 96) 9), 4, some (92, false)⟩, ⟨some 98, (Op.pick (Operand.tmp 92) (Operand.const (Value.bool true)) (Operand.tmp 97)), 4, none⟩] (Q .normal ds) σ w := mk_eq rfl
@[push_cast] theorem vr32_20 (Q : Post) (ds : List Deferred) (σ : Env) (w : World) : vc Try.prog (.region r32_20) Q ds σ w = vcOps Try.prog [⟨some 2, (Op.assign (Operand.const (Value.slice none 0 0))), 35, none⟩, ⟨some 3, (Op.assign (Operand.const (Value.int IntKind.i64 81))), 23, none⟩] (Q .normal ds) σ w := mk_eq rfl
@[push_cast] theorem vr32_21 (Q : Post) (ds : List Deferred) (σ : Env) (w : World) : vc Try.prog (.region r32_21) Q ds σ w = vcOps Try.prog [⟨some 99, (Op.move (Operand.tmp 6)), 35, none⟩, ⟨some 2, (Op.assign (Operand.tmp 99)), 35, none⟩, ⟨some 3, (Op.assign (Operand.const (Value.int IntKind.i64 0))), 23, none⟩] (Q .normal ds) σ w := mk_eq rfl
/-! 33 columbary/columbaryref04.Ints (params #[35, 35], results #[(ResultVar.tmp 4)], 26 slots) -/
def W33_0 : List Nat := [4, 5, 11, 12, 13, 14, 15, 16, 17, 18, 19, 20, 21, 22, 23, 24, 25]
@[push_cast] theorem W33_0_def : W33_0 = [4, 5, 11, 12, 13, 14, 15, 16, 17, 18, 19, 20, 21, 22, 23, 24, 25] := mk_eq rfl
def r33_0 : List VOp :=
  [⟨some 4, (Op.assign (Operand.const (Value.bool false))), 4, none⟩]
def r33_1 : List VOp :=
  [⟨some 6, (Op.move (Operand.tmp 0)), 35, none⟩,
   ⟨some 7, (Op.call { callee := (Callee.builtin Builtin.len), args := #[(Operand.tmp 6)], argTypes := #[35] }), 3, none⟩,
   ⟨some 8, (Op.move (Operand.tmp 1)), 35, none⟩,
   ⟨some 9, (Op.call { callee := (Callee.builtin Builtin.len), args := #[(Operand.tmp 8)], argTypes := #[35] }), 3, none⟩,
   ⟨some 10, (Op.binOp BinOp.neq 3 (Operand.tmp 7) (Operand.tmp 9) 3), 4, none⟩]
def r33_2 : List VOp :=
  [⟨some 4, (Op.assign (Operand.const (Value.bool false))), 4, none⟩]
def r33_3 : List VOp :=
  [⟨some 5, (Op.assign (Operand.const (Value.int IntKind.i64 0))), 3, none⟩]
def r33_4 : List VOp :=
  [⟨some 11, (Op.move (Operand.tmp 5)), 3, none⟩,
   ⟨some 12, (Op.move (Operand.tmp 0)), 35, none⟩,
   ⟨some 13, (Op.call { callee := (Callee.builtin Builtin.len), args := #[(Operand.tmp 12)], argTypes := #[35] }), 3, none⟩,
   ⟨some 14, (Op.binOp BinOp.lss 3 (Operand.tmp 11) (Operand.tmp 13) 3), 4, none⟩]
def r33_6 : List VOp :=
  [⟨some 17, (Op.move (Operand.tmp 0)), 35, none⟩,
   ⟨some 18, (Op.move (Operand.tmp 5)), 3, none⟩,
   ⟨some 19, (Op.indexAddr 35 (Operand.tmp 17) (Operand.tmp 18)), 0, none⟩,
   ⟨some 20, (Op.load 3 (Operand.tmp 19)), 3, none⟩,
   ⟨some 21, (Op.move (Operand.tmp 1)), 35, none⟩,
   ⟨some 22, (Op.move (Operand.tmp 5)), 3, none⟩,
   ⟨some 23, (Op.indexAddr 35 (Operand.tmp 21) (Operand.tmp 22)), 0, none⟩,
   ⟨some 24, (Op.load 3 (Operand.tmp 23)), 3, none⟩,
   ⟨some 25, (Op.binOp BinOp.neq 3 (Operand.tmp 20) (Operand.tmp 24) 3), 4, none⟩]
def r33_7 : List VOp :=
  [⟨some 4, (Op.assign (Operand.const (Value.bool false))), 4, none⟩]
def r33_5 : List VOp :=
  [⟨some 15, (Op.move (Operand.tmp 5)), 3, none⟩,
   ⟨some 16, (Op.binOp BinOp.add 3 (Operand.tmp 15) (Operand.const (Value.int IntKind.i64 1)) 3), 3, none⟩,
   ⟨some 5, (Op.assign (Operand.tmp 16)), 3, none⟩]
def r33_8 : List VOp :=
  [⟨some 4, (Op.assign (Operand.const (Value.bool true))), 4, none⟩]
def B33 : VC :=
  (.seq (.region r33_0) (.seq (.seq (.region r33_1) (.cond (Operand.tmp 10) (.seq (.region r33_2) .ret) .skip)) (.seq (.seq (.region r33_3) (.block 0 (.loop (.seq (.seq (.region r33_4) (.cond (Operand.tmp 14) .skip (.exit 0))) (.seq (.block 1 (.seq (.draw r33_6 2) (.cond (Operand.tmp 25) (.seq (.region r33_7) .ret) .skip))) (.region r33_5)))))) (.seq (.region r33_8) .ret))))
theorem code33 : ∃ c, Try.f33.body = some c ∧ abs Try.f33.ntmps c = B33 := ⟨_, rfl, by kernel_rfl⟩
theorem hb33 : HasBody Try.prog 33 := hasBody_of Try.func33 (by kernel_rfl)
theorem res33 : Try.f33.results = #[(ResultVar.tmp 4)] := rfl
theorem enter33 {w : World} {R : Value → World → Prop} (x0 x1 : Value) (h : vc Try.prog B33 (retK Try.prog #[(ResultVar.tmp 4)] R) [] (initEnv [x0, x1] 0) w) : FnC Try.prog 33 #[x0, x1] w R := by
  obtain ⟨c, h1, h2⟩ := code33
  exact hb33.fn (ret_of_vc mixed Try.func33 h1 (Nat.le_of_ble_eq_true rfl) B33 h2 h)
@[push_cast] theorem vr33_0 (Q : Post) (ds : List Deferred) (σ : Env) (w : World) : vc Try.prog (.region r33_0) Q ds σ w = vcOps Try.prog [⟨some 4, (Op.assign (Operand.const (Value.bool false))), 4, none⟩] (Q .normal ds) σ w := mk_eq rfl
@[push_cast] theorem vr33_1 (Q : Post) (ds : List Deferred) (σ : Env) (w : World) : vc Try.prog (.region r33_1) Q ds σ w = vcOps Try.prog [⟨some 6, (Op.move (Operand.tmp 0)), 35, none⟩, ⟨some 7, (Op.call { callee := (Callee.builtin Builtin.len), args := #[(Operand.tmp 6)], argTypes := #[35] }), 3, none⟩, ⟨some 8, (Op.move (Operand.tmp 1)), 35, none⟩, ⟨some 9, (Op.call { callee := (Callee.builtin Builtin.len), args := #[(Operand.tmp 8)], argTypes := #[35] }), 3, none⟩, ⟨some 10, (Op.binOp BinOp.neq 3 (Operand.tmp 7) (Operand.tmp 9) 3), 4, none⟩] (Q .normal ds) σ w := mk_eq rfl
@[push_cast] theorem vr33_2 (Q : Post) (ds : List Deferred) (σ : Env) (w : World) : vc Try.prog (.region r33_2) Q ds σ w = vcOps Try.prog [⟨some 4, (Op.assign (Operand.const (Value.bool false))), 4, none⟩] (Q .normal ds) σ w := mk_eq rfl
@[push_cast] theorem vr33_3 (Q : Post) (ds : List Deferred) (σ : Env) (w : World) : vc Try.prog (.region r33_3) Q ds σ w = vcOps Try.prog [⟨some 5, (Op.assign (Operand.const (Value.int IntKind.i64 0))), 3, none⟩] (Q .normal ds) σ w := mk_eq rfl
@[push_cast] theorem vr33_4 (Q : Post) (ds : List Deferred) (σ : Env) (w : World) : vc Try.prog (.region r33_4) Q ds σ w = vcOps Try.prog [⟨some 11, (Op.move (Operand.tmp 5)), 3, none⟩, ⟨some 12, (Op.move (Operand.tmp 0)), 35, none⟩, ⟨some 13, (Op.call { callee := (Callee.builtin Builtin.len), args := #[(Operand.tmp 12)], argTypes := #[35] }), 3, none⟩, ⟨some 14, (Op.binOp BinOp.lss 3 (Operand.tmp 11) (Operand.tmp 13) 3), 4, none⟩] (Q .normal ds) σ w := mk_eq rfl
@[push_cast] theorem vr33_6 (Q : Post) (ds : List Deferred) (σ : Env) (w : World) : vc Try.prog (.draw r33_6 2) Q ds σ w = drawn Try.prog [(⟨some 17, (Op.move (Operand.tmp 0)), 35, none⟩, [0]), (⟨some 18, (Op.move (Operand.tmp 5)), 3, none⟩, [5]), (⟨some 19, (Op.indexAddr 35 (Operand.tmp 17) (Operand.tmp 18)), 0, none⟩, [17, 18]), (⟨some 20, (Op.load 3 (Operand.tmp 19)), 3, none⟩, [19]), (⟨some 21, (Op.move (Operand.tmp 1)), 35, none⟩, [1]), (⟨some 22, (Op.move (Operand.tmp 5)), 3, none⟩, [5]), (⟨some 23, (Op.indexAddr 35 (Operand.tmp 21) (Operand.tmp 22)), 0, none⟩, [21, 22]), (⟨some 24, (Op.load 3 (Operand.tmp 23)), 3, none⟩, [23]), (⟨some 25, (Op.binOp BinOp.neq 3 (Operand.tmp 20) (Operand.tmp 24) 3), 4, none⟩, [20, 24])] 2 (Q .normal ds) σ w := mk_eq rfl
@[push_cast] theorem vr33_7 (Q : Post) (ds : List Deferred) (σ : Env) (w : World) : vc Try.prog (.region r33_7) Q ds σ w = vcOps Try.prog [⟨some 4, (Op.assign (Operand.const (Value.bool false))), 4, none⟩] (Q .normal ds) σ w := mk_eq rfl
@[push_cast] theorem vr33_5 (Q : Post) (ds : List Deferred) (σ : Env) (w : World) : vc Try.prog (.region r33_5) Q ds σ w = vcOps Try.prog [⟨some 15, (Op.move (Operand.tmp 5)), 3, none⟩, ⟨some 16, (Op.binOp BinOp.add 3 (Operand.tmp 15) (Operand.const (Value.int IntKind.i64 1)) 3), 3, none⟩, ⟨some 5, (Op.assign (Operand.tmp 16)), 3, none⟩] (Q .normal ds) σ w := mk_eq rfl
@[push_cast] theorem vr33_8 (Q : Post) (ds : List Deferred) (σ : Env) (w : World) : vc Try.prog (.region r33_8) Q ds σ w = vcOps Try.prog [⟨some 4, (Op.assign (Operand.const (Value.bool true))), 4, none⟩] (Q .normal ds) σ w := mk_eq rfl
/-! 39 slices.Min[[]int,int] (params #[35], results #[(ResultVar.tmp 2)], 25 slots) -/
def W39_0 : List Nat := [3, 4, 12, 13, 14, 15, 16, 17, 18, 19, 20, 21, 22, 23]
@[push_cast] theorem W39_0_def : W39_0 = [3, 4, 12, 13, 14, 15, 16, 17, 18, 19, 20, 21, 22, 23] := mk_eq rfl
def r39_0 : List VOp :=
  [⟨some 2, (Op.assign (Operand.const (Value.int IntKind.i64 0))), 3, none⟩]
def r39_1 : List VOp :=
  [⟨some 5, (Op.move (Operand.tmp 0)), 35, none⟩,
   ⟨some 6, (Op.call { callee := (Callee.builtin Builtin.len), args := #[(Operand.tmp 5)], argTypes := #[35] }), 3, none⟩,
   ⟨some 7, (Op.binOp BinOp.lss 3 (Operand.tmp 6) (Operand.const (Value.int IntKind.i64 1)) 3), 4, none⟩]
def r39_2 : List VOp :=
  [⟨some 8, (Op.makeInterface 9 (Operand.const (Value.string { data := #[115, 108, 105, 99, 101, 115, 46, 77, 105, 110, 58, 32, 101, 109, 112, 116, 121, 32, 108, 105, 115, 116] }))), 20, none⟩,
   ⟨none, (Op.panic (Operand.tmp 8)), 0, none⟩]
def r39_3 : List VOp :=
  [⟨some 9, (Op.move (Operand.tmp 0)), 35, none⟩,
   ⟨some 10, (Op.indexAddr 35 (Operand.tmp 9) (Operand.const (Value.int IntKind.i64 0))), 0, none⟩,
   ⟨some 11, (Op.load 3 (Operand.tmp 10)), 3, none⟩,
   ⟨some 3, (Op.assign (Operand.tmp 11)), 3, none⟩]
def r39_4 : List VOp :=
  [⟨some 4, (Op.assign (Operand.const (Value.int IntKind.i64 1))), 3, none⟩]
def r39_5 : List VOp :=
  [⟨some 12, (Op.move (Operand.tmp 4)), 3, none⟩,
   ⟨some 13, (Op.move (Operand.tmp 0)), 35, none⟩,
   ⟨some 14, (Op.call { callee := (Callee.builtin Builtin.len), args := #[(Operand.tmp 13)], argTypes := #[35] }), 3, none⟩,
   ⟨some 15, (Op.binOp BinOp.lss 3 (Operand.tmp 12) (Operand.tmp 14) 3), 4, none⟩]
def r39_7 : List VOp :=
  [⟨some 18, (Op.move (Operand.tmp 3)), 3, none⟩,
   ⟨some 19, (Op.move (Operand.tmp 0)), 35, none⟩,
   ⟨some 20, (Op.move (Operand.tmp 4)), 3, none⟩,
   ⟨some 21, (Op.indexAddr 35 (Operand.tmp 19) (Operand.tmp 20)), 0, none⟩,
   ⟨some 22, (Op.load 3 (Operand.tmp 21)), 3, none⟩,
   ⟨some 23, (Op.call { callee := (Callee.builtin Builtin.min), args := #[(Operand.tmp 18), (Operand.tmp 22)], argTypes := #[3, 3] }), 3, none⟩,
   ⟨some 3, (Op.assign (Operand.tmp 23)), 3, none⟩]
def r39_6 : List VOp :=
  [⟨some 16, (Op.move (Operand.tmp 4)), 3, none⟩,
   ⟨some 17, (Op.binOp BinOp.add 3 (Operand.tmp 16) (Operand.const (Value.int IntKind.i64 1)) 3), 3, none⟩,
   ⟨some 4, (Op.assign (Operand.tmp 17)), 3, none⟩]
def r39_8 : List VOp :=
  [⟨some 24, (Op.move (Operand.tmp 3)), 3, none⟩,
   ⟨some 2, (Op.assign (Operand.tmp 24)), 3, none⟩]
def B39 : VC :=
  (.seq (.region r39_0) (.seq (.seq (.region r39_1) (.cond (Operand.tmp 7) (.region r39_2) .skip)) (.seq (.region r39_3) (.seq (.seq (.region r39_4) (.block 0 (.loop (.seq (.seq (.region r39_5) (.cond (Operand.tmp 15) .skip (.exit 0))) (.seq (.block 1 (.region r39_7)) (.region r39_6)))))) (.seq (.region r39_8) .ret)))))
theorem code39 : ∃ c, Try.f39.body = some c ∧ abs Try.f39.ntmps c = B39 := ⟨_, rfl, by kernel_rfl⟩
theorem hb39 : HasBody Try.prog 39 := hasBody_of Try.func39 (by kernel_rfl)
theorem res39 : Try.f39.results = #[(ResultVar.tmp 2)] := rfl
theorem enter39 {w : World} {R : Value → World → Prop} (x0 : Value) (h : vc Try.prog B39 (retK Try.prog #[(ResultVar.tmp 2)] R) [] (initEnv [x0] 0) w) : FnC Try.prog 39 #[x0] w R := by
  obtain ⟨c, h1, h2⟩ := code39
  exact hb39.fn (ret_of_vc mixed Try.func39 h1 (Nat.le_of_ble_eq_true rfl) B39 h2 h)
@[push_cast] theorem vr39_0 (Q : Post) (ds : List Deferred) (σ : Env) (w : World) : vc Try.prog (.region r39_0) Q ds σ w = vcOps Try.prog [⟨some 2, (Op.assign (Operand.const (Value.int IntKind.i64 0))), 3, none⟩] (Q .normal ds) σ w := mk_eq rfl
@[push_cast] theorem vr39_1 (Q : Post) (ds : List Deferred) (σ : Env) (w : World) : vc Try.prog (.region r39_1) Q ds σ w = vcOps Try.prog [⟨some 5, (Op.move (Operand.tmp 0)), 35, none⟩, ⟨some 6, (Op.call { callee := (Callee.builtin Builtin.len), args := #[(Operand.tmp 5)], argTypes := #[35] }), 3, none⟩, ⟨some 7, (Op.binOp BinOp.lss 3 (Operand.tmp 6) (Operand.const (Value.int IntKind.i64 1)) 3), 4, none⟩] (Q .normal ds) σ w := mk_eq rfl
@[push_cast] theorem vr39_2 (Q : Post) (ds : List Deferred) (σ : Env) (w : World) : vc Try.prog (.region r39_2) Q ds σ w = vcOps Try.prog [⟨some 8, (Op.makeInterface 9 (Operand.const (Value.string { data := #[115, 108, 105, 99, 101, 115, 46, 77, 105, 110, 58, 32, 101, 109, 112, 116, 121, 32, 108, 105, 115, 116] }))), 20, none⟩, ⟨none, (Op.panic (Operand.tmp 8)), 0, none⟩] (Q .normal ds) σ w := mk_eq rfl
@[push_cast] theorem vr39_3 (Q : Post) (ds : List Deferred) (σ : Env) (w : World) : vc Try.prog (.region r39_3) Q ds σ w = vcOps Try.prog [⟨some 9, (Op.move (Operand.tmp 0)), 35, none⟩, ⟨some 10, (Op.indexAddr 35 (Operand.tmp 9) (Operand.const (Value.int IntKind.i64 0))), 0, none⟩, ⟨some 11, (Op.load 3 (Operand.tmp 10)), 3, none⟩, ⟨some 3, (Op.assign (Operand.tmp 11)), 3, none⟩] (Q .normal ds) σ w := mk_eq rfl
@[push_cast] theorem vr39_4 (Q : Post) (ds : List Deferred) (σ : Env) (w : World) : vc Try.prog (.region r39_4) Q ds σ w = vcOps Try.prog [⟨some 4, (Op.assign (Operand.const (Value.int IntKind.i64 1))), 3, none⟩] (Q .normal ds) σ w := mk_eq rfl
@[push_cast] theorem vr39_5 (Q : Post) (ds : List Deferred) (σ : Env) (w : World) : vc Try.prog (.region r39_5) Q ds σ w = vcOps Try.prog [⟨some 12, (Op.move (Operand.tmp 4)), 3, none⟩, ⟨some 13, (Op.move (Operand.tmp 0)), 35, none⟩, ⟨some 14, (Op.call { callee := (Callee.builtin Builtin.len), args := #[(Operand.tmp 13)], argTypes := #[35] }), 3, none⟩, ⟨some 15, (Op.binOp BinOp.lss 3 (Operand.tmp 12) (Operand.tmp 14) 3), 4, none⟩] (Q .normal ds) σ w := mk_eq rfl
@[push_cast] theorem vr39_7 (Q : Post) (ds : List Deferred) (σ : Env) (w : World) : vc Try.prog (.region r39_7) Q ds σ w = vcOps Try.prog [⟨some 18, (Op.move (Operand.tmp 3)), 3, none⟩, ⟨some 19, (Op.move (Operand.tmp 0)), 35, none⟩, ⟨some 20, (Op.move (Operand.tmp 4)), 3, none⟩, ⟨some 21, (Op.indexAddr 35 (Operand.tmp 19) (Operand.tmp 20)), 0, none⟩, ⟨some 22, (Op.load 3 (Operand.tmp 21)), 3, none⟩, ⟨some 23, (Op.call { callee := (Callee.builtin Builtin.min), args := #[(Operand.tmp 18), (Operand.tmp 22)], argTypes := #[3, 3] }), 3, none⟩, ⟨some 3, (Op.assign (Operand.tmp 23)), 3, none⟩] (Q .normal ds) σ w := mk_eq rfl
@[push_cast] theorem vr39_6 (Q : Post) (ds : List Deferred) (σ : Env) (w : World) : vc Try.prog (.region r39_6) Q ds σ w = vcOps Try.prog [⟨some 16, (Op.move (Operand.tmp 4)), 3, none⟩, ⟨some 17, (Op.binOp BinOp.add 3 (Operand.tmp 16) (Operand.const (Value.int IntKind.i64 1)) 3), 3, none⟩, ⟨some 4, (Op.assign (Operand.tmp 17)), 3, none⟩] (Q .normal ds) σ w := mk_eq rfl
@[push_cast] theorem vr39_8 (Q : Post) (ds : List Deferred) (σ : Env) (w : World) : vc Try.prog (.region r39_8) Q ds σ w = vcOps Try.prog [⟨some 24, (Op.move (Operand.tmp 3)), 3, none⟩, ⟨some 2, (Op.assign (Operand.tmp 24)), 3, none⟩] (Q .normal ds) σ w := mk_eq rfl
/-! 40 slices.Collect[int] (params #[58], results #[(ResultVar.tmp 2)], 5 slots) -/
def r40_0 : List VOp :=
  [⟨some 2, (Op.assign (Operand.const (Value.slice none 0 0))), 35, none⟩]
def r40_1 : List VOp :=
  [⟨some 3, (Op.move (Operand.tmp 0)), 58, none⟩,
   ⟨some 4, (Op.call { callee := (Callee.value (Operand.func 64)), args := #[(Operand.const (Value.slice none 0 0)), (Operand.tmp 3)], argTypes := #[35, 58] }), 35, none⟩,
   ⟨some 2, (Op.assign (Operand.tmp 4)), 35, none⟩]
def B40 : VC :=
  (.seq (.region r40_0) (.seq (.region r40_1) .ret))
theorem code40 : ∃ c, Try.f40.body = some c ∧ abs Try.f40.ntmps c = B40 := ⟨_, rfl, by kernel_rfl⟩
theorem hb40 : HasBody Try.prog 40 := hasBody_of Try.func40 (by kernel_rfl)
theorem res40 : Try.f40.results = #[(ResultVar.tmp 2)] := rfl
theorem enter40 {w : World} {R : Value → World → Prop} (x0 : Value) (h : vc Try.prog B40 (retK Try.prog #[(ResultVar.tmp 2)] R) [] (initEnv [x0] 0) w) : FnC Try.prog 40 #[x0] w R := by
  obtain ⟨c, h1, h2⟩ := code40
  exact hb40.fn (ret_of_vc mixed Try.func40 h1 (Nat.le_of_ble_eq_true rfl) B40 h2 h)
@[push_cast] theorem vr40_0 (Q : Post) (ds : List Deferred) (σ : Env) (w : World) : vc Try.prog (.region r40_0) Q ds σ w = vcOps Try.prog [⟨some 2, (Op.assign (Operand.const (Value.slice none 0 0))), 35, none⟩] (Q .normal ds) σ w := mk_eq rfl
@[push_cast] theorem vr40_1 (Q : Post) (ds : List Deferred) (σ : Env) (w : World) : vc Try.prog (.region r40_1) Q ds σ w = vcOps Try.prog [⟨some 3, (Op.move (Operand.tmp 0)), 58, none⟩, ⟨some 4, (Op.call { callee := (Callee.value (Operand.func 64)), args := #[(Operand.const (Value.slice none 0 0)), (Operand.tmp 3)], argTypes := #[35, 58] }), 35, none⟩, ⟨some 2, (Op.assign (Operand.tmp 4)), 35, none⟩] (Q .normal ds) σ w := mk_eq rfl
/-! 41 columbary/delta.steps (params #[35], results #[(ResultVar.tmp 2)], 4 slots) -/
def r41_0 : List VOp :=
  [⟨some 1, (Op.box 35 (Operand.tmp 0)), 0, none⟩,
   ⟨some 2, (Op.assign (Operand.const Value.nilFunc)), 58, none⟩]
def r41_1 : List VOp :=
  [⟨some 3, (Op.makeFunc (Fn.func 65) #[] #[(Operand.tmp 1)]), 57, none⟩,
   ⟨some 2, (Op.assign (Operand.tmp 3)), 58, none⟩]
def B41 : VC :=
  (.seq (.region r41_0) (.seq (.region r41_1) .ret))
theorem code41 : ∃ c, Try.f41.body = some c ∧ abs Try.f41.ntmps c = B41 := ⟨_, rfl, by kernel_rfl⟩
theorem hb41 : HasBody Try.prog 41 := hasBody_of Try.func41 (by kernel_rfl)
theorem res41 : Try.f41.results = #[(ResultVar.tmp 2)] := rfl
theorem enter41 {w : World} {R : Value → World → Prop} (x0 : Value) (h : vc Try.prog B41 (retK Try.prog #[(ResultVar.tmp 2)] R) [] (initEnv [x0] 0) w) : FnC Try.prog 41 #[x0] w R := by
  obtain ⟨c, h1, h2⟩ := code41
  exact hb41.fn (ret_of_vc mixed Try.func41 h1 (Nat.le_of_ble_eq_true rfl) B41 h2 h)
@[push_cast] theorem vr41_0 (Q : Post) (ds : List Deferred) (σ : Env) (w : World) : vc Try.prog (.region r41_0) Q ds σ w = vcOps Try.prog [⟨some 1, (Op.box 35 (Operand.tmp 0)), 0, none⟩, ⟨some 2, (Op.assign (Operand.const Value.nilFunc)), 58, none⟩] (Q .normal ds) σ w := mk_eq rfl
@[push_cast] theorem vr41_1 (Q : Post) (ds : List Deferred) (σ : Env) (w : World) : vc Try.prog (.region r41_1) Q ds σ w = vcOps Try.prog [⟨some 3, (Op.makeFunc (Fn.func 65) #[] #[(Operand.tmp 1)]), 57, none⟩, ⟨some 2, (Op.assign (Operand.tmp 3)), 58, none⟩] (Q .normal ds) σ w := mk_eq rfl
/-! 45 columbary/columbaryref08.steps (params #[35], results #[(ResultVar.tmp 2)], 25 slots) -/
def W45_0 : List Nat := [3, 4, 5, 6, 7, 8, 9, 10, 11, 12, 13, 14, 15, 16, 17, 18, 19, 20, 21, 22, 23]
@[push_cast] theorem W45_0_def : W45_0 = [3, 4, 5, 6, 7, 8, 9, 10, 11, 12, 13, 14, 15, 16, 17, 18, 19, 20, 21, 22, 23] := mk_eq rfl
def r45_0 : List VOp :=
  [⟨some 2, (Op.assign (Operand.const (Value.slice none 0 0))), 35, none⟩]
def r45_1 : List VOp :=
  [⟨some 3, (Op.assign (Operand.const (Value.slice none 0 0))), 35, none⟩]
def r45_2 : List VOp :=
  [⟨some 4, (Op.assign (Operand.const (Value.int IntKind.i64 1))), 3, none⟩]
def r45_3 : List VOp :=
  [⟨some 5, (Op.move (Operand.tmp 4)), 3, none⟩,
   ⟨some 6, (Op.move (Operand.tmp 0)), 35, none⟩,
   ⟨some 7, (Op.call { callee := (Callee.builtin Builtin.len), args := #[(Operand.tmp 6)], argTypes := #[35] }), 3, none⟩,
   ⟨some 8, (Op.binOp BinOp.lss 3 (Operand.tmp 5) (Operand.tmp 7) 3), 4, none⟩]
def r45_5 : List VOp :=
  [⟨some 11, (Op.move (Operand.tmp 3)), 35, none⟩,
   ⟨some 12, (Op.move (Operand.tmp 0)), 35, none⟩,
   ⟨some 13, (Op.move (Operand.tmp 4)), 3, none⟩,
   ⟨some 14, (Op.indexAddr 35 (Operand.tmp 12) (Operand.tmp 13)), 0, none⟩,
   ⟨some 15, (Op.load 3 (Operand.tmp 14)), 3, none⟩,
   ⟨some 16, (Op.move (Operand.tmp 0)), 35, none⟩,
   ⟨some 17, (Op.move (Operand.tmp 4)), 3, none⟩,
   ⟨some 18, (Op.binOp BinOp.sub 3 (Operand.tmp 17) (Operand.const (Value.int IntKind.i64 1)) 3), 3, none⟩,
   ⟨some 19, (Op.indexAddr 35 (Operand.tmp 16) (Operand.tmp 18)), 0, none⟩,
   ⟨some 20, (Op.load 3 (Operand.tmp 19)), 3, none⟩,
   ⟨some 21, (Op.binOp BinOp.sub 3 (Operand.tmp 15) (Operand.tmp 20) 3), 3, none⟩,
   ⟨some 22, (Op.buildSlice 35 1 #[(0, (Operand.tmp 21))]), 35, none⟩,
   ⟨some 23, (Op.call { callee := (Callee.builtin Builtin.append), args := #[(Operand.tmp 11), (Operand.tmp 22)], argTypes := #[35, 35] }), 35, none⟩,
   ⟨some 3, (Op.assign (Operand.tmp 23)), 35, none⟩]
def r45_4 : List VOp :=
  [⟨some 9, (Op.move (Operand.tmp 4)), 3, none⟩,
   ⟨some 10, (Op.binOp BinOp.add 3 (Operand.tmp 9) (Operand.const (Value.int IntKind.i64 1)) 3), 3, none⟩,
   ⟨some 4, (Op.assign (Operand.tmp 10)), 3, none⟩]
def r45_6 : List VOp :=
  [⟨some 24, (Op.move (Operand.tmp 3)), 35, none⟩,
   ⟨some 2, (Op.assign (Operand.tmp 24)), 35, none⟩]
def B45 : VC :=
  (.seq (.region r45_0) (.seq (.region r45_1) (.seq (.seq (.region r45_2) (.block 0 (.loop (.seq (.seq (.region r45_3) (.cond (Operand.tmp 8) .skip (.exit 0))) (.seq (.block 1 (.draw r45_5 3)) (.region r45_4)))))) (.seq (.region r45_6) .ret))))
theorem code45 : ∃ c, Try.f45.body = some c ∧ abs Try.f45.ntmps c = B45 := ⟨_, rfl, by kernel_rfl⟩
theorem hb45 : HasBody Try.prog 45 := hasBody_of Try.func45 (by kernel_rfl)
theorem res45 : Try.f45.results = #[(ResultVar.tmp 2)] := rfl
theorem enter45 {w : World} {R : Value → World → Prop} (x0 : Value) (h : vc Try.prog B45 (retK Try.prog #[(ResultVar.tmp 2)] R) [] (initEnv [x0] 0) w) : FnC Try.prog 45 #[x0] w R := by
  obtain ⟨c, h1, h2⟩ := code45
  exact hb45.fn (ret_of_vc mixed Try.func45 h1 (Nat.le_of_ble_eq_true rfl) B45 h2 h)
@[push_cast] theorem vr45_0 (Q : Post) (ds : List Deferred) (σ : Env) (w : World) : vc Try.prog (.region r45_0) Q ds σ w = vcOps Try.prog [⟨some 2, (Op.assign (Operand.const (Value.slice none 0 0))), 35, none⟩] (Q .normal ds) σ w := mk_eq rfl
@[push_cast] theorem vr45_1 (Q : Post) (ds : List Deferred) (σ : Env) (w : World) : vc Try.prog (.region r45_1) Q ds σ w = vcOps Try.prog [⟨some 3, (Op.assign (Operand.const (Value.slice none 0 0))), 35, none⟩] (Q .normal ds) σ w := mk_eq rfl
@[push_cast] theorem vr45_2 (Q : Post) (ds : List Deferred) (σ : Env) (w : World) : vc Try.prog (.region r45_2) Q ds σ w = vcOps Try.prog [⟨some 4, (Op.assign (Operand.const (Value.int IntKind.i64 1))), 3, none⟩] (Q .normal ds) σ w := mk_eq rfl
@[push_cast] theorem vr45_3 (Q : Post) (ds : List Deferred) (σ : Env) (w : World) : vc Try.prog (.region r45_3) Q ds σ w = vcOps Try.prog [⟨some 5, (Op.move (Operand.tmp 4)), 3, none⟩, ⟨some 6, (Op.move (Operand.tmp 0)), 35, none⟩, ⟨some 7, (Op.call { callee := (Callee.builtin Builtin.len), args := #[(Operand.tmp 6)], argTypes := #[35] }), 3, none⟩, ⟨some 8, (Op.binOp BinOp.lss 3 (Operand.tmp 5) (Operand.tmp 7) 3), 4, none⟩] (Q .normal ds) σ w := mk_eq rfl
@[push_cast] theorem vr45_5 (Q : Post) (ds : List Deferred) (σ : Env) (w : World) : vc Try.prog (.draw r45_5 3) Q ds σ w = drawn Try.prog [(⟨some 11, (Op.move (Operand.tmp 3)), 35, none⟩, [3]), (⟨some 12, (Op.move (Operand.tmp 0)), 35, none⟩, [0]), (⟨some 13, (Op.move (Operand.tmp 4)), 3, none⟩, [4]), (⟨some 14, (Op.indexAddr 35 (Operand.tmp 12) (Operand.tmp 13)), 0, none⟩, [12, 13]), (⟨some 15, (Op.load 3 (Operand.tmp 14)), 3, none⟩, [14]), (⟨some 16, (Op.move (Operand.tmp 0)), 35, none⟩, [0]), (⟨some 17, (Op.move (Operand.tmp 4)), 3, none⟩, [4]), (⟨some 18, (Op.binOp BinOp.sub 3 (Operand.tmp 17) (Operand.const (Value.int IntKind.i64 1)) 3), 3, none⟩, [17]), (⟨some 19, (Op.indexAddr 35 (Operand.tmp 16) (Operand.tmp 18)), 0, none⟩, [16, 18]), (⟨some 20, (Op.load 3 (Operand.tmp 19)), 3, none⟩, [19]), (⟨some 21, (Op.binOp BinOp.sub 3 (Operand.tmp 15) (Operand.tmp 20) 3), 3, none⟩, [15, 20]), (⟨some 22, (Op.buildSlice 35 1 #[(0, (Operand.tmp 21))]), 35, none⟩, [21]), (⟨some 23, (Op.call { callee := (Callee.builtin Builtin.append), args := #[(Operand.tmp 11), (Operand.tmp 22)], argTypes := #[35, 35] }), 35, none⟩, [11, 22]), (⟨some 3, (Op.assign (Operand.tmp 23)), 35, none⟩, [23])] 3 (Q .normal ds) σ w := mk_eq rfl
@[push_cast] theorem vr45_4 (Q : Post) (ds : List Deferred) (σ : Env) (w : World) : vc Try.prog (.region r45_4) Q ds σ w = vcOps Try.prog [⟨some 9, (Op.move (Operand.tmp 4)), 3, none⟩, ⟨some 10, (Op.binOp BinOp.add 3 (Operand.tmp 9) (Operand.const (Value.int IntKind.i64 1)) 3), 3, none⟩, ⟨some 4, (Op.assign (Operand.tmp 10)), 3, none⟩] (Q .normal ds) σ w := mk_eq rfl
@[push_cast] theorem vr45_6 (Q : Post) (ds : List Deferred) (σ : Env) (w : World) : vc Try.prog (.region r45_6) Q ds σ w = vcOps Try.prog [⟨some 24, (Op.move (Operand.tmp 3)), 35, none⟩, ⟨some 2, (Op.assign (Operand.tmp 24)), 35, none⟩] (Q .normal ds) σ w := mk_eq rfl
/-! 46 columbary/columbaryref08.base (params #[35], results #[(ResultVar.tmp 2)], 24 slots) -/
def W46_0 : List Nat := [3, 4, 11, 12, 13, 14, 15, 16, 17, 18, 19, 20, 21, 22]
@[push_cast] theorem W46_0_def : W46_0 = [3, 4, 11, 12, 13, 14, 15, 16, 17, 18, 19, 20, 21, 22] := mk_eq rfl
def r46_0 : List VOp :=
  [⟨some 2, (Op.assign (Operand.const (Value.int IntKind.i64 0))), 3, none⟩]
def r46_1 : List VOp :=
  [⟨some 5, (Op.move (Operand.tmp 0)), 35, none⟩,
   ⟨some 6, (Op.call { callee := (Callee.builtin Builtin.len), args := #[(Operand.tmp 5)], argTypes := #[35] }), 3, none⟩,
   ⟨some 7, (Op.binOp BinOp.eql 3 (Operand.tmp 6) (Operand.const (Value.int IntKind.i64 0)) 3), 4, none⟩]
def r46_2 : List VOp :=
  [⟨some 2, (Op.assign (Operand.const (Value.int IntKind.i64 0))), 3, none⟩]
def r46_3 : List VOp :=
  [⟨some 8, (Op.move (Operand.tmp 0)), 35, none⟩,
   ⟨some 9, (Op.indexAddr 35 (Operand.tmp 8) (Operand.const (Value.int IntKind.i64 0))), 0, none⟩,
   ⟨some 10, (Op.load 3 (Operand.tmp 9)), 3, none⟩,
   ⟨some 3, (Op.assign (Operand.tmp 10)), 3, none⟩]
def r46_4 : List VOp :=
  [⟨some 4, (Op.assign (Operand.const (Value.int IntKind.i64 1))), 3, none⟩]
def r46_5 : List VOp :=
  [⟨some 11, (Op.move (Operand.tmp 4)), 3, none⟩,
   ⟨some 12, (Op.move (Operand.tmp 0)), 35, none⟩,
   ⟨some 13, (Op.call { callee := (Callee.builtin Builtin.len), args := #[(Operand.tmp 12)], argTypes := #[35] }), 3, none⟩,
   ⟨some 14, (Op.binOp BinOp.lss 3 (Operand.tmp 11) (Operand.tmp 13) 3), 4, none⟩]
def r46_7 : List VOp :=
  [⟨some 17, (Op.move (Operand.tmp 3)), 3, none⟩,
   ⟨some 18, (Op.move (Operand.tmp 0)), 35, none⟩,
   ⟨some 19, (Op.move (Operand.tmp 4)), 3, none⟩,
   ⟨some 20, (Op.indexAddr 35 (Operand.tmp 18) (Operand.tmp 19)), 0, none⟩,
   ⟨some 21, (Op.load 3 (Operand.tmp 20)), 3, none⟩,
   ⟨some 22, (Op.call { callee := (Callee.builtin Builtin.min), args := #[(Operand.tmp 17), (Operand.tmp 21)], argTypes := #[3, 3] }), 3, none⟩,
   ⟨some 3, (Op.assign (Operand.tmp 22)), 3, none⟩]
def r46_6 : List VOp :=
  [⟨some 15, (Op.move (Operand.tmp 4)), 3, none⟩,
   ⟨some 16, (Op.binOp BinOp.add 3 (Operand.tmp 15) (Operand.const (Value.int IntKind.i64 1)) 3), 3, none⟩,
   ⟨some 4, (Op.assign (Operand.tmp 16)), 3, none⟩]
def r46_8 : List VOp :=
  [⟨some 23, (Op.move (Operand.tmp 3)), 3, none⟩,
   ⟨some 2, (Op.assign (Operand.tmp 23)), 3, none⟩]
def B46 : VC :=
  (.seq (.region r46_0) (.seq (.seq (.region r46_1) (.cond (Operand.tmp 7) (.seq (.region r46_2) .ret) .skip)) (.seq (.region r46_3) (.seq (.seq (.region r46_4) (.block 0 (.loop (.seq (.seq (.region r46_5) (.cond (Operand.tmp 14) .skip (.exit 0))) (.seq (.block 1 (.region r46_7)) (.region r46_6)))))) (.seq (.region r46_8) .ret)))))
theorem code46 : ∃ c, Try.f46.body = some c ∧ abs Try.f46.ntmps c = B46 := ⟨_, rfl, by kernel_rfl⟩
theorem hb46 : HasBody Try.prog 46 := hasBody_of Try.func46 (by kernel_rfl)
theorem res46 : Try.f46.results = #[(ResultVar.tmp 2)] := rfl
theorem enter46 {w : World} {R : Value → World → Prop} (x0 : Value) (h : vc Try.prog B46 (retK Try.prog #[(ResultVar.tmp 2)] R) [] (initEnv [x0] 0) w) : FnC Try.prog 46 #[x0] w R := by
  obtain ⟨c, h1, h2⟩ := code46
  exact hb46.fn (ret_of_vc mixed Try.func46 h1 (Nat.le_of_ble_eq_true rfl) B46 h2 h)
@[push_cast] theorem vr46_0 (Q : Post) (ds : List Deferred) (σ : Env) (w : World) : vc Try.prog (.region r46_0) Q ds σ w = vcOps Try.prog [⟨some 2, (Op.assign (Operand.const (Value.int IntKind.i64 0))), 3, none⟩] (Q .normal ds) σ w := mk_eq rfl
@[push_cast] theorem vr46_1 (Q : Post) (ds : List Deferred) (σ : Env) (w : World) : vc Try.prog (.region r46_1) Q ds σ w = vcOps Try.prog [⟨some 5, (Op.move (Operand.tmp 0)), 35, none⟩, ⟨some 6, (Op.call { callee := (Callee.builtin Builtin.len), args := #[(Operand.tmp 5)], argTypes := #[35] }), 3, none⟩, ⟨some 7, (Op.binOp BinOp.eql 3 (Operand.tmp 6) (Operand.const (Value.int IntKind.i64 0)) 3), 4, none⟩] (Q .normal ds) σ w := mk_eq rfl
@[push_cast] theorem vr46_2 (Q : Post) (ds : List Deferred) (σ : Env) (w : World) : vc Try.prog (.region r46_2) Q ds σ w = vcOps Try.prog [⟨some 2, (Op.assign (Operand.const (Value.int IntKind.i64 0))), 3, none⟩] (Q .normal ds) σ w := mk_eq rfl
@[push_cast] theorem vr46_3 (Q : Post) (ds : List Deferred) (σ : Env) (w : World) : vc Try.prog (.region r46_3) Q ds σ w = vcOps Try.prog [⟨some 8, (Op.move (Operand.tmp 0)), 35, none⟩, ⟨some 9, (Op.indexAddr 35 (Operand.tmp 8) (Operand.const (Value.int IntKind.i64 0))), 0, none⟩, ⟨some 10, (Op.load 3 (Operand.tmp 9)), 3, none⟩, ⟨some 3, (Op.assign (Operand.tmp 10)), 3, none⟩] (Q .normal ds) σ w := mk_eq rfl
@[push_cast] theorem vr46_4 (Q : Post) (ds : List Deferred) (σ : Env) (w : World) : vc Try.prog (.region r46_4) Q ds σ w = vcOps Try.prog [⟨some 4, (Op.assign (Operand.const (Value.int IntKind.i64 1))), 3, none⟩] (Q .normal ds) σ w := mk_eq rfl
@[push_cast] theorem vr46_5 (Q : Post) (ds : List Deferred) (σ : Env) (w : World) : vc Try.prog (.region r46_5) Q ds σ w = vcOps Try.prog [⟨some 11, (Op.move (Operand.tmp 4)), 3, none⟩, ⟨some 12, (Op.move (Operand.tmp 0)), 35, none⟩, ⟨some 13, (Op.call { callee := (Callee.builtin Builtin.len), args := #[(Operand.tmp 12)], argTypes := #[35] }), 3, none⟩, ⟨some 14, (Op.binOp BinOp.lss 3 (Operand.tmp 11) (Operand.tmp 13) 3), 4, none⟩] (Q .normal ds) σ w := mk_eq rfl
@[push_cast] theorem vr46_7 (Q : Post) (ds : List Deferred) (σ : Env) (w : World) : vc Try.prog (.region r46_7) Q ds σ w = vcOps Try.prog [⟨some 17, (Op.move (Operand.tmp 3)), 3, none⟩, ⟨some 18, (Op.move (Operand.tmp 0)), 35, none⟩, ⟨some 19, (Op.move (Operand.tmp 4)), 3, none⟩, ⟨some 20, (Op.indexAddr 35 (Operand.tmp 18) (Operand.tmp 19)), 0, none⟩, ⟨some 21, (Op.load 3 (Operand.tmp 20)), 3, none⟩, ⟨some 22, (Op.call { callee := (Callee.builtin Builtin.min), args := #[(Operand.tmp 17), (Operand.tmp 21)], argTypes := #[3, 3] }), 3, none⟩, ⟨some 3, (Op.assign (Operand.tmp 22)), 3, none⟩] (Q .normal ds) σ w := mk_eq rfl
@[push_cast] theorem vr46_6 (Q : Post) (ds : List Deferred) (σ : Env) (w : World) : vc Try.prog (.region r46_6) Q ds σ w = vcOps Try.prog [⟨some 15, (Op.move (Operand.tmp 4)), 3, none⟩, ⟨some 16, (Op.binOp BinOp.add 3 (Operand.tmp 15) (Operand.const (Value.int IntKind.i64 1)) 3), 3, none⟩, ⟨some 4, (Op.assign (Operand.tmp 16)), 3, none⟩] (Q .normal ds) σ w := mk_eq rfl
@[push_cast] theorem vr46_8 (Q : Post) (ds : List Deferred) (σ : Env) (w : World) : vc Try.prog (.region r46_8) Q ds σ w = vcOps Try.prog [⟨some 23, (Op.move (Operand.tmp 3)), 3, none⟩, ⟨some 2, (Op.assign (Operand.tmp 23)), 3, none⟩] (Q .normal ds) σ w := mk_eq rfl
/-! 49 slices.IsSorted[[]int,int] (params #[35], results #[(ResultVar.tmp 2)], 21 slots) -/
def W49_0 : List Nat := [2, 3, 7, 8, 9, 10, 11, 12, 13, 14, 15, 16, 17, 18, 19, 20]
@[push_cast] theorem W49_0_def : W49_0 = [2, 3, 7, 8, 9, 10, 11, 12, 13, 14, 15, 16, 17, 18, 19, 20] := mk_eq rfl
def r49_0 : List VOp :=
  [⟨some 2, (Op.assign (Operand.const (Value.bool false))), 4, none⟩]
def r49_1 : List VOp :=
  [⟨some 4, (Op.move (Operand.tmp 0)), 35, none⟩,
   ⟨some 5, (Op.call { callee := (Callee.builtin Builtin.len), args := #[(Operand.tmp 4)], argTypes := #[35] }), 3, none⟩,
   ⟨some 6, (Op.binOp BinOp.sub 3 (Operand.tmp 5) (Operand.const (Value.int IntKind.i64 1)) 3), 3, none⟩,
   ⟨some 3, (Op.assign (Operand.tmp 6)), 3, none⟩]
def r49_2 : List VOp :=
  [⟨some 7, (Op.move (Operand.tmp 3)), 3, none⟩,
   ⟨some 8, (Op.binOp BinOp.gtr 3 (Operand.tmp 7) (Operand.const (Value.int IntKind.i64 0)) 3), 4, none⟩]
def r49_4 : List VOp :=
  [⟨some 11, (Op.move (Operand.tmp 0)), 35, none⟩,
   ⟨some 12, (Op.move (Operand.tmp 3)), 3, none⟩,
   ⟨some 13, (Op.indexAddr 35 (Operand.tmp 11) (Operand.tmp 12)), 0, none⟩,
   ⟨some 14, (Op.load 3 (Operand.tmp 13)), 3, none⟩,
   ⟨some 15, (Op.move (Operand.tmp 0)), 35, none⟩,
   ⟨some 16, (Op.move (Operand.tmp 3)), 3, none⟩,
   ⟨some 17, (Op.binOp BinOp.sub 3 (Operand.tmp 16) (Operand.const (Value.int IntKind.i64 1)) 3), 3, none⟩,
   ⟨some 18, (Op.indexAddr 35 (Operand.tmp 15) (Operand.tmp 17)), 0, none⟩,
   ⟨some 19, (Op.load 3 (Operand.tmp 18)), 3, none⟩,
   ⟨some 20, (Op.call { callee := (Callee.value (Operand.func 71)), args := #[(Operand.tmp 14), (Operand.tmp 19)], argTypes := #[3, 3] }), 4, none⟩]
def r49_5 : List VOp :=
  [⟨some 2, (Op.assign (Operand.const (Value.bool false))), 4, none⟩]
def r49_3 : List VOp :=
  [⟨some 9, (Op.move (Operand.tmp 3)), 3, none⟩,
   ⟨some 10, (Op.binOp BinOp.sub 3 (Operand.tmp 9) (Operand.const (Value.int IntKind.i64 1)) 3), 3, none⟩,
   ⟨some 3, (Op.assign (Operand.tmp 10)), 3, none⟩]
def r49_6 : List VOp :=
  [⟨some 2, (Op.assign (Operand.const (Value.bool true))), 4, none⟩]
def B49 : VC :=
  (.seq (.region r49_0) (.seq (.seq (.region r49_1) (.block 0 (.loop (.seq (.seq (.region r49_2) (.cond (Operand.tmp 8) .skip (.exit 0))) (.seq (.block 1 (.seq (.draw r49_4 2) (.cond (Operand.tmp 20) (.seq (.region r49_5) .ret) .skip))) (.region r49_3)))))) (.seq (.region r49_6) .ret)))
theorem code49 : ∃ c, Try.f49.body = some c ∧ abs Try.f49.ntmps c = B49 := ⟨_, rfl, by kernel_rfl⟩
theorem hb49 : HasBody Try.prog 49 := hasBody_of Try.func49 (by kernel_rfl)
theorem res49 : Try.f49.results = #[(ResultVar.tmp 2)] := rfl
theorem enter49 {w : World} {R : Value → World → Prop} (x0 : Value) (h : vc Try.prog B49 (retK Try.prog #[(ResultVar.tmp 2)] R) [] (initEnv [x0] 0) w) : FnC Try.prog 49 #[x0] w R := by
  obtain ⟨c, h1, h2⟩ := code49
  exact hb49.fn (ret_of_vc mixed Try.func49 h1 (Nat.le_of_ble_eq_true rfl) B49 h2 h)
@[push_cast] theorem vr49_0 (Q : Post) (ds : List Deferred) (σ : Env) (w : World) : vc Try.prog (.region r49_0) Q ds σ w = vcOps Try.prog [⟨some 2, (Op.assign (Operand.const (Value.bool false))), 4, none⟩] (Q .normal ds) σ w := mk_eq rfl
@[push_cast] theorem vr49_1 (Q : Post) (ds : List Deferred) (σ : Env) (w : World) : vc Try.prog (.region r49_1) Q ds σ w = vcOps Try.prog [⟨some 4, (Op.move (Operand.tmp 0)), 35, none⟩, ⟨some 5, (Op.call { callee := (Callee.builtin Builtin.len), args := #[(Operand.tmp 4)], argTypes := #[35] }), 3, none⟩, ⟨some 6, (Op.binOp BinOp.sub 3 (Operand.tmp 5) (Operand.const (Value.int IntKind.i64 1)) 3), 3, none⟩, ⟨some 3, (Op.assign (Operand.tmp 6)), 3, none⟩] (Q .normal ds) σ w := mk_eq rfl
@[push_cast] theorem vr49_2 (Q : Post) (ds : List Deferred) (σ : Env) (w : World) : vc Try.prog (.region r49_2) Q ds σ w = vcOps Try.prog [⟨some 7, (Op.move (Operand.tmp 3)), 3, none⟩, ⟨some 8, (Op.binOp BinOp.gtr 3 (Operand.tmp 7) (Operand.const (Value.int IntKind.i64 0)) 3), 4, none⟩] (Q .normal ds) σ w := mk_eq rfl
@[push_cast] theorem vr49_4 (Q : Post) (ds : List Deferred) (σ : Env) (w : World) : vc Try.prog (.draw r49_4 2) Q ds σ w = drawn Try.prog [(⟨some 11, (Op.move (Operand.tmp 0)), 35, none⟩, [0]), (⟨some 12, (Op.move (Operand.tmp 3)), 3, none⟩, [3]), (⟨some 13, (Op.indexAddr 35 (Operand.tmp 11) (Operand.tmp 12)), 0, none⟩, [11, 12]), (⟨some 14, (Op.load 3 (Operand.tmp 13)), 3, none⟩, [13]), (⟨some 15, (Op.move (Operand.tmp 0)), 35, none⟩, [0]), (⟨some 16, (Op.move (Operand.tmp 3)), 3, none⟩, [3]), (⟨some 17, (Op.binOp BinOp.sub 3 (Operand.tmp 16) (Operand.const (Value.int IntKind.i64 1)) 3), 3, none⟩, [16]), (⟨some 18, (Op.indexAddr 35 (Operand.tmp 15) (Operand.tmp 17)), 0, none⟩, [15, 17]), (⟨some 19, (Op.load 3 (Operand.tmp 18)), 3, none⟩, [18]), (⟨some 20, (Op.call { callee := (Callee.value (Operand.func 71)), args := #[(Operand.tmp 14), (Operand.tmp 19)], argTypes := #[3, 3] }), 4, none⟩, [14, 19])] 2 (Q .normal ds) σ w := mk_eq rfl
@[push_cast] theorem vr49_5 (Q : Post) (ds : List Deferred) (σ : Env) (w : World) : vc Try.prog (.region r49_5) Q ds σ w = vcOps Try.prog [⟨some 2, (Op.assign (Operand.const (Value.bool false))), 4, none⟩] (Q .normal ds) σ w := mk_eq rfl
@[push_cast] theorem vr49_3 (Q : Post) (ds : List Deferred) (σ : Env) (w : World) : vc Try.prog (.region r49_3) Q ds σ w = vcOps Try.prog [⟨some 9, (Op.move (Operand.tmp 3)), 3, none⟩, ⟨some 10, (Op.binOp BinOp.sub 3 (Operand.tmp 9) (Operand.const (Value.int IntKind.i64 1)) 3), 3, none⟩, ⟨some 3, (Op.assign (Operand.tmp 10)), 3, none⟩] (Q .normal ds) σ w := mk_eq rfl
@[push_cast] theorem vr49_6 (Q : Post) (ds : List Deferred) (σ : Env) (w : World) : vc Try.prog (.region r49_6) Q ds σ w = vcOps Try.prog [⟨some 2, (Op.assign (Operand.const (Value.bool true))), 4, none⟩] (Q .normal ds) σ w := mk_eq rfl
/-! 52 columbary/delta.empty (params #[64, 23], results #[(ResultVar.tmp 4), (ResultVar.tmp 5)], 13 slots) -/
def r52_0 : List VOp :=
  [⟨some 4, (Op.assign (Operand.const (Value.slice none 0 0))), 35, none⟩,
   ⟨some 5, (Op.assign (Operand.const (Value.int IntKind.i64 0))), 23, none⟩]
def r52_1 : List VOp :=
  [⟨some 6, (Op.move (Operand.tmp 1)), 23, none⟩,
   ⟨some 7, (Op.binOp BinOp.neq 23 (Operand.tmp 6) (Operand.const (Value.int IntKind.i64 0)) 23), 4, none⟩,
   ⟨some 8, (Op.move (Operand.tmp 7)), 4, none⟩,
   ⟨some 9, (Op.move (Operand.tmp 0)), 64, some (8, false)⟩,
   ⟨some 10, (Op.call { callee := (Callee.value (Operand.func 54)), args := #[(Operand.tmp 9)], argTypes := #[64] }), 3, some (8, false)⟩,
   ⟨some 11, (Op.binOp BinOp.gtr 3 (Operand.tmp 10) (Operand.const (Value.int IntKind.i64 0)) 3), 4, some (8, false)⟩,
   ⟨some 12, (Op.pick (Operand.tmp 8) (Operand.const (Value.bool true)) (Operand.tmp 11)), 4, none⟩]
def r52_2 : List VOp :=
  [⟨some 4, (Op.assign (Operand.const (Value.slice none 0 0))), 35, none⟩,
   ⟨some 5, (Op.assign (Operand.const (Value.int IntKind.i64 81))), 23, none⟩]
def r52_3 : List VOp :=
  [⟨some 4, (Op.assign (Operand.const (Value.slice none 0 0))), 35, none⟩,
   ⟨some 5, (Op.assign (Operand.const (Value.int IntKind.i64 0))), 23, none⟩]
def B52 : VC :=
  (.seq (.region r52_0) (.seq (.seq (.region r52_1) (.cond (Operand.tmp 12) (.seq (.region r52_2) .ret) .skip)) (.seq (.region r52_3) .ret)))
theorem code52 : ∃ c, Try.f52.body = some c ∧ abs Try.f52.ntmps c = B52 := ⟨_, rfl, by kernel_rfl⟩
theorem hb52 : HasBody Try.prog 52 := hasBody_of Try.func52 (by kernel_rfl)
theorem res52 : Try.f52.results = #[(ResultVar.tmp 4), (ResultVar.tmp 5)] := rfl
theorem enter52 {w : World} {R : Value → World → Prop} (x0 x1 : Value) (h : vc Try.prog B52 (retK Try.prog #[(ResultVar.tmp 4), (ResultVar.tmp 5)] R) [] (initEnv [x0, x1] 0) w) : FnC Try.prog 52 #[x0, x1] w R := by
  obtain ⟨c, h1, h2⟩ := code52
  exact hb52.fn (ret_of_vc mixed Try.func52 h1 (Nat.le_of_ble_eq_true rfl) B52 h2 h)
@[push_cast] theorem vr52_0 (Q : Post) (ds : List Deferred) (σ : Env) (w : World) : vc Try.prog (.region r52_0) Q ds σ w = vcOps Try.prog [⟨some 4, (Op.assign (Operand.const (Value.slice none 0 0))), 35, none⟩, ⟨some 5, (Op.assign (Operand.const (Value.int IntKind.i64 0))), 23, none⟩] (Q .normal ds) σ w := mk_eq rfl
@[push_cast] theorem vr52_1 (Q : Post) (ds : List Deferred) (σ : Env) (w : World) : vc Try.prog (.region r52_1) Q ds σ w = vcOps Try.prog [⟨some 6, (Op.move (Operand.tmp 1)), 23, none⟩, ⟨some 7, (Op.binOp BinOp.neq 23 (Operand.tmp 6) (Operand.const (Value.int IntKind.i64 0)) 23), 4, none⟩, ⟨some 8, (Op.move (Operand.tmp 7)), 4, none⟩, ⟨some 9, (Op.move (Operand.tmp 0)), 64, some (8, false)⟩, ⟨some 10, (Op.call { callee := (Callee.value (Operand.func 54)), args := #[(Operand.tmp 9)], argTypes := #[64] }), 3, some (8, false)⟩, ⟨some 11, (Op.binOp BinOp.gtr 3 (Operand.tmp 10) (Operand.const (Value.int IntKind.i64 0)) 3), 4, some (8, false)⟩, ⟨some 12, (Op.pick (Operand.tmp 8) (Operand.const (Value.bool true)) (Operand.tmp 11)), 4, none⟩] (Q .normal ds) σ w := mk_eq rfl
@[push_cast] theorem vr52_2 (Q : Post) (ds : List Deferred) (σ : Env) (w : World) : vc Try.prog (.region r52_2) Q ds σ w = vcOps Try.prog [⟨some 4, (Op.assign (Operand.const (Value.slice none 0 0))), 35, none⟩, ⟨some 5, (Op.assign (Operand.const (Value.int IntKind.i64 81))), 23, none⟩] (Q .normal ds) σ w := mk_eq rfl
@[push_cast] theorem vr52_3 (Q : Post) (ds : List Deferred) (σ : Env) (w : World) : vc Try.prog (.region r52_3) Q ds σ w = vcOps Try.prog [⟨some 4, (Op.assign (Operand.const (Value.slice none 0 0))), 35, none⟩, ⟨some 5, (Op.assign (Operand.const (Value.int IntKind.i64 0))), 23, none⟩] (Q .normal ds) σ w := mk_eq rfl
/-! 64 slices.AppendSeq[[]int,int] (params #[35, 58], results #[(ResultVar.tmp 4)], 13 slots) -/
def r64_0 : List VOp :=
  [⟨some 2, (Op.box 35 (Operand.tmp 0)), 0, none⟩,
   ⟨some 4, (Op.assign (Operand.const (Value.slice none 0 0))), 35, none⟩]
def r64_1 : List VOp :=
  [⟨some 6, (Op.move (Operand.tmp 1)), 58, none⟩]
def r64_2 : List VOp :=
  [⟨some 5, (Op.assign (Operand.tmp 7)), 3, none⟩]
def r64_3 : List VOp :=
  [⟨some 8, (Op.load 35 (Operand.tmp 2)), 35, none⟩,
   ⟨some 9, (Op.move (Operand.tmp 5)), 3, none⟩,
   ⟨some 10, (Op.buildSlice 35 1 #[(0, (Operand.tmp 9))]), 35, none⟩,
   ⟨some 11, (Op.call { callee := (Callee.builtin Builtin.append), args := #[(Operand.tmp 8), (Operand.tmp 10)], argTypes := #[35, 35] }), 35, none⟩,
   ⟨none, (Op.store 35 (Operand.tmp 2) (Operand.tmp 11)), 0, none⟩]
def r64_4 : List VOp :=
  [⟨some 12, (Op.load 35 (Operand.tmp 2)), 35, none⟩,
   ⟨some 4, (Op.assign (Operand.tmp 12)), 35, none⟩]
def B64 : VC :=
  (.seq (.region r64_0) (.seq (.seq (.region r64_1) (.block 0 (.rangeFunc (Operand.tmp 6) [7] (.region r64_2) (.block 1 (.region r64_3))))) (.seq (.region r64_4) .ret)))
theorem code64 : ∃ c, Try.f64.body = some c ∧ abs Try.f64.ntmps c = B64 := ⟨_, rfl, by kernel_rfl⟩
theorem hb64 : HasBody Try.prog 64 := hasBody_of Try.func64 (by kernel_rfl)
theorem res64 : Try.f64.results = #[(ResultVar.tmp 4)] := rfl
theorem enter64 {w : World} {R : Value → World → Prop} (x0 x1 : Value) (h : vc Try.prog B64 (retK Try.prog #[(ResultVar.tmp 4)] R) [] (initEnv [x0, x1] 0) w) : FnC Try.prog 64 #[x0, x1] w R := by
  obtain ⟨c, h1, h2⟩ := code64
  exact hb64.fn (ret_of_vc mixed Try.func64 h1 (Nat.le_of_ble_eq_true rfl) B64 h2 h)
@[push_cast] theorem vr64_0 (Q : Post) (ds : List Deferred) (σ : Env) (w : World) : vc Try.prog (.region r64_0) Q ds σ w = vcOps Try.prog [⟨some 2, (Op.box 35 (Operand.tmp 0)), 0, none⟩, ⟨some 4, (Op.assign (Operand.const (Value.slice none 0 0))), 35, none⟩] (Q .normal ds) σ w := mk_eq rfl
@[push_cast] theorem vr64_1 (Q : Post) (ds : List Deferred) (σ : Env) (w : World) : vc Try.prog (.region r64_1) Q ds σ w = vcOps Try.prog [⟨some 6, (Op.move (Operand.tmp 1)), 58, none⟩] (Q .normal ds) σ w := mk_eq rfl
@[push_cast] theorem vr64_2 (Q : Post) (ds : List Deferred) (σ : Env) (w : World) : vc Try.prog (.region r64_2) Q ds σ w = vcOps Try.prog [⟨some 5, (Op.assign (Operand.tmp 7)), 3, none⟩] (Q .normal ds) σ w := mk_eq rfl
@[push_cast] theorem vr64_3 (Q : Post) (ds : List Deferred) (σ : Env) (w : World) : vc Try.prog (.region r64_3) Q ds σ w = vcOps Try.prog [⟨some 8, (Op.load 35 (Operand.tmp 2)), 35, none⟩, ⟨some 9, (Op.move (Operand.tmp 5)), 3, none⟩, ⟨some 10, (Op.buildSlice 35 1 #[(0, (Operand.tmp 9))]), 35, none⟩, ⟨some 11, (Op.call { callee := (Callee.builtin Builtin.append), args := #[(Operand.tmp 8), (Operand.tmp 10)], argTypes := #[35, 35] }), 35, none⟩, ⟨none, (Op.store 35 (Operand.tmp 2) (Operand.tmp 11)), 0, none⟩] (Q .normal ds) σ w := mk_eq rfl
@[push_cast] theorem vr64_4 (Q : Post) (ds : List Deferred) (σ : Env) (w : World) : vc Try.prog (.region r64_4) Q ds σ w = vcOps Try.prog [⟨some 12, (Op.load 35 (Operand.tmp 2)), 35, none⟩, ⟨some 4, (Op.assign (Operand.tmp 12)), 35, none⟩] (Q .normal ds) σ w := mk_eq rfl
/-! 65 columbary/delta.steps$1 (params #[29], results #[], 23 slots) -/
def W65_0 : List Nat := [3, 4, 5, 6, 7, 8, 9, 10, 11, 12, 13, 14, 15, 16, 17, 18, 19, 20, 21, 22]
@[push_cast] theorem W65_0_def : W65_0 = [3, 4, 5, 6, 7, 8, 9, 10, 11, 12, 13, 14, 15, 16, 17, 18, 19, 20, 21, 22] := mk_eq rfl
def r65_0 : List VOp :=
  [⟨some 3, (Op.assign (Operand.const (Value.int IntKind.i64 1))), 3, none⟩]
def r65_1 : List VOp :=
  [⟨some 4, (Op.move (Operand.tmp 3)), 3, none⟩,
   ⟨some 5, (Op.load 35 (Operand.tmp 1)), 35, none⟩,
   ⟨some 6, (Op.call { callee := (Callee.builtin Builtin.len), args := #[(Operand.tmp 5)], argTypes := #[35] }), 3, none⟩,
   ⟨some 7, (Op.binOp BinOp.lss 3 (Operand.tmp 4) (Operand.tmp 6) 3), 4, none⟩]
def r65_3 : List VOp :=
  [⟨some 10, (Op.move (Operand.tmp 0)), 29, none⟩,
   ⟨some 11, (Op.load 35 (Operand.tmp 1)), 35, none⟩,
   ⟨some 12, (Op.move (Operand.tmp 3)), 3, none⟩,
   ⟨some 13, (Op.indexAddr 35 (Operand.tmp 11) (Operand.tmp 12)), 0, none⟩,
   ⟨some 14, (Op.load 3 (Operand.tmp 13)), 3, none⟩,
   ⟨some 15, (Op.load 35 (Operand.tmp 1)), 35, none⟩,
   ⟨some 16, (Op.move (Operand.tmp 3)), 3, none⟩,
   ⟨some 17, (Op.binOp BinOp.sub 3 (Operand.tmp 16) (Operand.const (Value.int IntKind.i64 1)) 3), 3, none⟩,
   ⟨some 18, (Op.indexAddr 35 (Operand.tmp 15) (Operand.tmp 17)), 0, none⟩,
   ⟨some 19, (Op.load 3 (Operand.tmp 18)), 3, none⟩,
   ⟨some 20, (Op.binOp BinOp.sub 3 (Operand.tmp 14) (Operand.tmp 19) 3), 3, none⟩,
   ⟨some 21, (Op.call { callee := (Callee.value (Operand.tmp 10)), args := #[(Operand.tmp 20)], argTypes := #[3] }), 4, none⟩,
   ⟨some 22, (Op.unOp UnOp.not 4 (Operand.tmp 21)), 4, none⟩]
def r65_2 : List VOp :=
  [⟨some 8, (Op.move (Operand.tmp 3)), 3, none⟩,
   ⟨some 9, (Op.binOp BinOp.add 3 (Operand.tmp 8) (Operand.const (Value.int IntKind.i64 1)) 3), 3, none⟩,
   ⟨some 3, (Op.assign (Operand.tmp 9)), 3, none⟩]
def B65 : VC :=
  (.seq (.region r65_0) (.block 0 (.loop (.seq (.seq (.region r65_1) (.cond (Operand.tmp 7) .skip (.exit 0))) (.seq (.block 1 (.seq (.draw r65_3 3) (.cond (Operand.tmp 22) .ret .skip))) (.region r65_2))))))
theorem code65 : ∃ c, Try.f65.body = some c ∧ abs Try.f65.ntmps c = B65 := ⟨_, rfl, by kernel_rfl⟩
theorem hb65 : HasBody Try.prog 65 := hasBody_of Try.func65 (by kernel_rfl)
theorem res65 : Try.f65.results = #[] := rfl
theorem enter65 {w : World} {R : Value → World → Prop} (x0 x1 : Value) (h : vc Try.prog B65 (retK Try.prog #[] R) [] (initEnv [x0, x1] 0) w) : FnC Try.prog 65 #[x0, x1] w R := by
  obtain ⟨c, h1, h2⟩ := code65
  exact hb65.fn (ret_of_vc mixed Try.func65 h1 (Nat.le_of_ble_eq_true rfl) B65 h2 h)
@[push_cast] theorem vr65_0 (Q : Post) (ds : List Deferred) (σ : Env) (w : World) : vc Try.prog (.region r65_0) Q ds σ w = vcOps Try.prog [⟨some 3, (Op.assign (Operand.const (Value.int IntKind.i64 1))), 3, none⟩] (Q .normal ds) σ w := mk_eq rfl
@[push_cast] theorem vr65_1 (Q : Post) (ds : List Deferred) (σ : Env) (w : World) : vc Try.prog (.region r65_1) Q ds σ w = vcOps Try.prog [⟨some 4, (Op.move (Operand.tmp 3)), 3, none⟩, ⟨some 5, (Op.load 35 (Operand.tmp 1)), 35, none⟩, ⟨some 6, (Op.call { callee := (Callee.builtin Builtin.len), args := #[(Operand.tmp 5)], argTypes := #[35] }), 3, none⟩, ⟨some 7, (Op.binOp BinOp.lss 3 (Operand.tmp 4) (Operand.tmp 6) 3), 4, none⟩] (Q .normal ds) σ w := mk_eq rfl
@[push_cast] theorem vr65_3 (Q : Post) (ds : List Deferred) (σ : Env) (w : World) : vc Try.prog (.draw r65_3 3) Q ds σ w = drawn Try.prog [(⟨some 10, (Op.move (Operand.tmp 0)), 29, none⟩, [0]), (⟨some 11, (Op.load 35 (Operand.tmp 1)), 35, none⟩, [1]), (⟨some 12, (Op.move (Operand.tmp 3)), 3, none⟩, [3]), (⟨some 13, (Op.indexAddr 35 (Operand.tmp 11) (Operand.tmp 12)), 0, none⟩, [11, 12]), (⟨some 14, (Op.load 3 (Operand.tmp 13)), 3, none⟩, [13]), (⟨some 15, (Op.load 35 (Operand.tmp 1)), 35, none⟩, [1]), (⟨some 16, (Op.move (Operand.tmp 3)), 3, none⟩, [3]), (⟨some 17, (Op.binOp BinOp.sub 3 (Operand.tmp 16) (Operand.const (Value.int IntKind.i64 1)) 3), 3, none⟩, [16]), (⟨some 18, (Op.indexAddr 35 (Operand.tmp 15) (Operand.tmp 17)), 0, none⟩, [15, 17]), (⟨some 19, (Op.load 3 (Operand.tmp 18)), 3, none⟩, [18]), (⟨some 20, (Op.binOp BinOp.sub 3 (Operand.tmp 14) (Operand.tmp 19) 3), 3, none⟩, [14, 19]), (⟨some 21, (Op.call { callee := (Callee.value (Operand.tmp 10)), args := #[(Operand.tmp 20)], argTypes := #[3] }), 4, none⟩, [10, 20]), (⟨some 22, (Op.unOp UnOp.not 4 (Operand.tmp 21)), 4, none⟩, [21])] 3 (Q .normal ds) σ w := mk_eq rfl
@[push_cast] theorem vr65_2 (Q : Post) (ds : List Deferred) (σ : Env) (w : World) : vc Try.prog (.region r65_2) Q ds σ w = vcOps Try.prog [⟨some 8, (Op.move (Operand.tmp 3)), 3, none⟩, ⟨some 9, (Op.binOp BinOp.add 3 (Operand.tmp 8) (Operand.const (Value.int IntKind.i64 1)) 3), 3, none⟩, ⟨some 3, (Op.assign (Operand.tmp 9)), 3, none⟩] (Q .normal ds) σ w := mk_eq rfl
/-! 71 cmp.Less[int] (params #[3, 3], results #[(ResultVar.tmp 4)], 17 slots) -/
def r71_0 : List VOp :=
  [⟨some 4, (Op.assign (Operand.const (Value.bool false))), 4, none⟩]
def r71_1 : List VOp :=
  [⟨some 5, (Op.move (Operand.tmp 0)), 3, none⟩,
   ⟨some 6, (Op.call { callee := (Callee.value (Operand.func 77)), args := #[(Operand.tmp 5)], argTypes := #[3] }), 4, none⟩,
   ⟨some 7, (Op.move (Operand.tmp 6)), 4, none⟩,
   ⟨some 8, (Op.move (Operand.tmp 1)), 3, some (7, true)⟩,
   ⟨some 9, (Op.call { callee := (Callee.value (Operand.func 77)), args := #[(Operand.tmp 8)], argTypes := #[3] }), 4, some (7, true)⟩,
   ⟨some 10, (Op.unOp UnOp.not 4 (Operand.tmp 9)), 4, some (7, true)⟩,
   ⟨some 11, (Op.pick (Operand.tmp 7) (Operand.tmp 10) (Operand.const (Value.bool false))), 4, none⟩,
   ⟨some 12, (Op.move (Operand.tmp 11)), 4, none⟩,
   ⟨some 13, (Op.move (Operand.tmp 0)), 3, some (12, false)⟩,
   ⟨some 14, (Op.move (Operand.tmp 1)), 3, some (12, false)⟩,
   ⟨some 15, (Op.binOp BinOp.lss 3 (Operand.tmp 13) (Operand.tmp 14) 3), 4, some (12, false)⟩,
   ⟨some 16, (Op.pick (Operand.tmp 12) (Operand.const (Value.bool true)) (Operand.tmp 15)), 4, none⟩,
   ⟨some 4, (Op.assign (Operand.tmp 16)), 4, none⟩]
def B71 : VC :=
  (.seq (.region r71_0) (.seq (.region r71_1) .ret))
theorem code71 : ∃ c, Try.f71.body = some c ∧ abs Try.f71.ntmps c = B71 := ⟨_, rfl, by kernel_rfl⟩
theorem hb71 : HasBody Try.prog 71 := hasBody_of Try.func71 (by kernel_rfl)
theorem res71 : Try.f71.results = #[(ResultVar.tmp 4)] := rfl
theorem enter71 {w : World} {R : Value → World → Prop} (x0 x1 : Value) (h : vc Try.prog B71 (retK Try.prog #[(ResultVar.tmp 4)] R) [] (initEnv [x0, x1] 0) w) : FnC Try.prog 71 #[x0, x1] w R := by
  obtain ⟨c, h1, h2⟩ := code71
  exact hb71.fn (ret_of_vc mixed Try.func71 h1 (Nat.le_of_ble_eq_true rfl) B71 h2 h)
@[push_cast] theorem vr71_0 (Q : Post) (ds : List Deferred) (σ : Env) (w : World) : vc Try.prog (.region r71_0) Q ds σ w = vcOps Try.prog [⟨some 4, (Op.assign (Operand.const (Value.bool false))), 4, none⟩] (Q .normal ds) σ w := mk_eq rfl
@[push_cast] theorem vr71_1 (Q : Post) (ds : List Deferred) (σ : Env) (w : World) : vc Try.prog (.region r71_1) Q ds σ w = vcOps Try.prog [⟨some 5, (Op.move (Operand.tmp 0)), 3, none⟩, ⟨some 6, (Op.call { callee := (Callee.value (Operand.func 77)), args := #[(Operand.tmp 5)], argTypes := #[3] }), 4, none⟩, ⟨some 7, (Op.move (Operand.tmp 6)), 4, none⟩, ⟨some 8, (Op.move (Operand.tmp 1)), 3, some (7, true)⟩, ⟨some 9, (Op.call { callee := (Callee.value (Operand.func 77)), args := #[(Operand.tmp 8)], argTypes := #[3] }), 4, some (7, true)⟩, ⟨some 10, (Op.unOp UnOp.not 4 (Operand.tmp 9)), 4, some (7, true)⟩, ⟨some 11, (Op.pick (Operand.tmp 7) (Operand.tmp 10) (Operand.const (Value.bool false))), 4, none⟩, ⟨some 12, (Op.move (Operand.tmp 11)), 4, none⟩, ⟨some 13, (Op.move (Operand.tmp 0)), 3, some (12, false)⟩, ⟨some 14, (Op.move (Operand.tmp 1)), 3, some (12, false)⟩, ⟨some 15, (Op.binOp BinOp.lss 3 (Operand.tmp 13) (Operand.tmp 14) 3), 4, some (12, false)⟩, ⟨some 16, (Op.pick (Operand.tmp 12) (Operand.const (Value.bool true)) (Operand.tmp 15)), 4, none⟩, ⟨some 4, (Op.assign (Operand.tmp 16)), 4, none⟩] (Q .normal ds) σ w := mk_eq rfl
/-! 77 cmp.isNaN[int] (params #[3], results #[(ResultVar.tmp 2)], 6 slots) -/
def r77_0 : List VOp :=
  [⟨some 2, (Op.assign (Operand.const (Value.bool false))), 4, none⟩]
def r77_1 : List VOp :=
  [⟨some 3, (Op.move (Operand.tmp 0)), 3, none⟩,
   ⟨some 4, (Op.move (Operand.tmp 0)), 3, none⟩,
   ⟨some 5, (Op.binOp BinOp.neq 3 (Operand.tmp 3) (Operand.tmp 4) 3), 4, none⟩,
   ⟨some 2, (Op.assign (Operand.tmp 5)), 4, none⟩]
def B77 : VC :=
  (.seq (.region r77_0) (.seq (.region r77_1) .ret))
theorem code77 : ∃ c, Try.f77.body = some c ∧ abs Try.f77.ntmps c = B77 := ⟨_, rfl, by kernel_rfl⟩
theorem hb77 : HasBody Try.prog 77 := hasBody_of Try.func77 (by kernel_rfl)
theorem res77 : Try.f77.results = #[(ResultVar.tmp 2)] := rfl
theorem enter77 {w : World} {R : Value → World → Prop} (x0 : Value) (h : vc Try.prog B77 (retK Try.prog #[(ResultVar.tmp 2)] R) [] (initEnv [x0] 0) w) : FnC Try.prog 77 #[x0] w R := by
  obtain ⟨c, h1, h2⟩ := code77
  exact hb77.fn (ret_of_vc mixed Try.func77 h1 (Nat.le_of_ble_eq_true rfl) B77 h2 h)
@[push_cast] theorem vr77_0 (Q : Post) (ds : List Deferred) (σ : Env) (w : World) : vc Try.prog (.region r77_0) Q ds σ w = vcOps Try.prog [⟨some 2, (Op.assign (Operand.const (Value.bool false))), 4, none⟩] (Q .normal ds) σ w := mk_eq rfl
@[push_cast] theorem vr77_1 (Q : Post) (ds : List Deferred) (σ : Env) (w : World) : vc Try.prog (.region r77_1) Q ds σ w = vcOps Try.prog [⟨some 3, (Op.move (Operand.tmp 0)), 3, none⟩, ⟨some 4, (Op.move (Operand.tmp 0)), 3, none⟩, ⟨some 5, (Op.binOp BinOp.neq 3 (Operand.tmp 3) (Operand.tmp 4) 3), 4, none⟩, ⟨some 2, (Op.assign (Operand.tmp 5)), 4, none⟩] (Q .normal ds) σ w := mk_eq rfl
@[push_cast] theorem bsl35_1_CodesD {K : Value → World → Prop} {w : World} (x0 : Int) : vBuildSlice Try.prog 35 1 #[(0, (.int .i64 x0))] K w = K (.slice (some ⟨w.heap.size, 0, none⟩) 1 1) (w.alloc (.cells #[(.int .i64 x0)] 3)) :=
  vBuildSlice_ok Try.underlying35 ti3 (by kernel_rfl) (by decide)
@[push_cast] theorem bsl45_1_CodesD {K : Value → World → Prop} {w : World} (x0 : Int) : vBuildSlice Try.prog 45 1 #[(0, (.int .u64 x0))] K w = K (.slice (some ⟨w.heap.size, 0, none⟩) 1 1) (w.alloc (.cells #[(.int .u64 x0)] 47)) :=
  vBuildSlice_ok Try.underlying45 ti47 (by kernel_rfl) (by decide)
@[push_cast] theorem bld74_0_CodesD {K : Value → World → Prop} {w : World} (x0o : Option Addr) (x0n x0c : Nat) : vBuild Try.prog 74 #[(0, (.slice x0o x0n x0c))] K w = K (.agg #[(.slice x0o x0n x0c), (.int .i64 0), (.bool false)]) w :=
  vBuild_ok (by kernel_rfl)
end Go.Proofs.Ytdfdohajjgjbdaa
