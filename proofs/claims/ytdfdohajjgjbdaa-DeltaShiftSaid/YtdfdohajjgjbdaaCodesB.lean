/- The functions' code in the generator's form. Written by a program (codes.py) out of Lean's own print of the loaded translation. -/
import Derived.Test.YtdfdohajjgjbdaaTypes
namespace Go.Proofs.Ytdfdohajjgjbdaa
open Go.Vc
/-! 13 columbary/bucket.Cut (params #[3, 3, 3], results #[(ResultVar.tmp 6), (ResultVar.tmp 7)], 36 slots) -/
def r13_0 : List VOp :=
  [⟨some 6, (Op.assign (Operand.const (Value.slice none 0 0))), 22, none⟩,
   ⟨some 7, (Op.assign (Operand.const (Value.int IntKind.i64 0))), 23, none⟩]
def r13_1 : List VOp :=
  [⟨some 10, (Op.move (Operand.tmp 2)), 3, none⟩,
   ⟨some 11, (Op.call { callee := (Callee.value (Operand.func 17)), args := #[(Operand.tmp 10)], argTypes := #[3] }), 4, none⟩,
   ⟨some 12, (Op.unOp UnOp.not 4 (Operand.tmp 11)), 4, none⟩,
   ⟨some 13, (Op.move (Operand.tmp 12)), 4, none⟩,
   ⟨some 14, (Op.move (Operand.tmp 0)), 3, some (13, false)⟩,
   ⟨some 15, (Op.call { callee := (Callee.value (Operand.func 34)), args := #[(Operand.tmp 14)], argTypes := #[3] }), 4, some (13, false)⟩,
   ⟨some 16, (Op.unOp UnOp.not 4 (Operand.tmp 15)), 4, some (13, false)⟩,
   ⟨some 17, (Op.pick (Operand.tmp 13) (Operand.const (Value.bool true)) (Operand.tmp 16)), 4, none⟩,
   ⟨some 18, (Op.move (Operand.tmp 17)), 4, none⟩,
   ⟨some 19, (Op.move (Operand.tmp 1)), 3, some (18, false)⟩,
   ⟨some 20, (Op.call { callee := (Callee.value (Operand.func 34)), args := #[(Operand.tmp 19)], argTypes := #[3] }), 4, some (18, false)⟩,
   ⟨some 21, (Op.unOp UnOp.not 4 (Operand.tmp 20)), 4, some (18, false)⟩,
   ⟨some 22, (Op.pick (Operand.tmp 18) (Operand.const (Value.bool true)) (Operand.tmp 21)), 4, none⟩]
def r13_2 : List VOp :=
  [⟨some 6, (Op.assign (Operand.const (Value.slice none 0 0))), 22, none⟩,
   ⟨some 7, (Op.assign (Operand.const (Value.int IntKind.i64 111))), 23, none⟩]
def r13_3 : List VOp :=
  [⟨some 8, (Op.alloc 22), 0, none⟩]
def r13_4 : List VOp :=
  [⟨some 23, (Op.move (Operand.tmp 0)), 3, none⟩,
   ⟨some 24, (Op.move (Operand.tmp 1)), 3, none⟩,
   ⟨some 25, (Op.move (Operand.tmp 2)), 3, none⟩,
   ⟨some 26, (Op.call { callee := (Callee.value (Operand.func 35)), args := #[(Operand.tmp 23), (Operand.tmp 24), (Operand.tmp 25)], argTypes := #[3, 3, 3] }), 51, none⟩]
def r13_5 : List VOp :=
  [⟨some 9, (Op.alloc 34), 0, none⟩,
   ⟨none, (Op.store 34 (Operand.tmp 9) (Operand.tmp 27)), 0, none⟩]
def r13_6 : List VOp :=
  [⟨some 28, (Op.load 22 (Operand.tmp 8)), 22, none⟩,
   ⟨some 29, (Op.call { callee := (Callee.builtin Builtin.len), args := #[(Operand.tmp 28)], argTypes := #[22] }), 3, none⟩,
   ⟨some 30, (Op.binOp BinOp.eql 3 (Operand.tmp 29) (Operand.const (Value.int IntKind.i64 1000)) 3), 4, none⟩]
def r13_7 : List VOp :=
  [⟨some 31, (Op.load 22 (Operand.tmp 8)), 22, none⟩,
   ⟨some 32, (Op.load 34 (Operand.tmp 9)), 34, none⟩,
   ⟨some 33, (Op.buildSlice 22 1 #[(0, (Operand.tmp 32))]), 22, none⟩,
   ⟨some 34, (Op.call { callee := (Callee.builtin Builtin.append), args := #[(Operand.tmp 31), (Operand.tmp 33)], argTypes := #[22, 22] }), 22, none⟩,
   ⟨none, (Op.store 22 (Operand.tmp 8) (Operand.tmp 34)), 0, none⟩]
def r13_8 : List VOp :=
  [⟨some 35, (Op.load 22 (Operand.tmp 8)), 22, none⟩,
   ⟨some 6, (Op.assign (Operand.tmp 35)), 22, none⟩,
   ⟨some 7, (Op.assign (Operand.const (Value.int IntKind.i64 0))), 23, none⟩]
def B13 : VC :=
  (.seq (.region r13_0) (.seq (.seq (.region r13_1) (.cond (Operand.tmp 22) (.seq (.region r13_2) .ret) .skip)) (.seq (.region r13_3) (.seq (.seq (.region r13_4) (.block 0 (.rangeFunc (Operand.tmp 26) [27] (.region r13_5) (.block 1 (.seq (.seq (.region r13_6) (.cond (Operand.tmp 30) (.exit 0) .skip)) (.region r13_7)))))) (.seq (.region r13_8) .ret)))))
theorem code13 : ∃ c, Try.f13.body = some c ∧ abs Try.f13.ntmps c = B13 := ⟨_, rfl, by kernel_rfl⟩
theorem hb13 : HasBody Try.prog 13 := hasBody_of Try.func13 (by kernel_rfl)
theorem res13 : Try.f13.results = #[(ResultVar.tmp 6), (ResultVar.tmp 7)] := rfl
theorem enter13 {w : World} {R : Value → World → Prop} (x0 x1 x2 : Value) (h : vc Try.prog B13 (retK Try.prog #[(ResultVar.tmp 6), (ResultVar.tmp 7)] R) [] (initEnv [x0, x1, x2] 0) w) : FnC Try.prog 13 #[x0, x1, x2] w R := by
  obtain ⟨c, h1, h2⟩ := code13
  exact hb13.fn (ret_of_vc mixed Try.func13 h1 (Nat.le_of_ble_eq_true rfl) B13 h2 h)
@[push_cast] theorem vr13_0 (Q : Post) (ds : List Deferred) (σ : Env) (w : World) : vc Try.prog (.region r13_0) Q ds σ w = vcOps Try.prog [⟨some 6, (Op.assign (Operand.const (Value.slice none 0 0))), 22, none⟩, ⟨some 7, (Op.assign (Operand.const (Value.int IntKind.i64 0))), 23, none⟩] (Q .normal ds) σ w := mk_eq rfl
@[push_cast] theorem vr13_1 (Q : Post) (ds : List Deferred) (σ : Env) (w : World) : vc Try.prog (.region r13_1) Q ds σ w = vcOps Try.prog [⟨some 10, (Op.move (Operand.tmp 2)), 3, none⟩, ⟨some 11, (Op.call { callee := (Callee.value (Operand.func 17)), args := #[(Operand.tmp 10)], argTypes := #[3] }), 4, none⟩, ⟨some 12, (Op.unOp UnOp.not 4 (Operand.tmp 11)), 4, none⟩, ⟨some 13, (Op.move (Operand.tmp 12)), 4, none⟩, ⟨some 14, (Op.move (Operand.tmp 0)), 3, some (13, false)⟩, ⟨some 15, (Op.call { callee := (Callee.value (Operand.func 34)), args := #[(Operand.tmp 14)], argTypes := #[3] }), 4, some (13, false)⟩, ⟨some 16, (Op.unOp UnOp.not 4 (Operand.tmp 15)), 4, some (13, false)⟩, ⟨some 17, (Op.pick (Operand.tmp 13) (Operand.const (Value.bool true)) (Operand.tmp 16)), 4, none⟩, ⟨some 18, (Op.move (Operand.tmp 17)), 4, none⟩, ⟨some 19, (Op.move (Operand.tmp 1)), 3, some (18, false)⟩, ⟨some 20, (Op.call { callee := (Callee.value (Operand.func 34)), args := #[(Operand.tmp 19)], argTypes := #[3] }), 4, some (18, false)⟩, ⟨some 21, (Op.unOp UnOp.not 4 (Operand.tmp 20)), 4, some (18, false)⟩, ⟨some 22, (Op.pick (Operand.tmp 18) (Operand.const (Value.bool true)) (Operand.tmp 21)), 4, none⟩] (Q .normal ds) σ w := mk_eq rfl
@[push_cast] theorem vr13_2 (Q : Post) (ds : List Deferred) (σ : Env) (w : World) : vc Try.prog (.region r13_2) Q ds σ w = vcOps Try.prog [⟨some 6, (Op.assign (Operand.const (Value.slice none 0 0))), 22, none⟩, ⟨some 7, (Op.assign (Operand.const (Value.int IntKind.i64 111))), 23, none⟩] (Q .normal ds) σ w := mk_eq rfl
@[push_cast] theorem vr13_3 (Q : Post) (ds : List Deferred) (σ : Env) (w : World) : vc Try.prog (.region r13_3) Q ds σ w = vcOps Try.prog [⟨some 8, (Op.alloc 22), 0, none⟩] (Q .normal ds) σ w := mk_eq rfl
@[push_cast] theorem vr13_4 (Q : Post) (ds : List Deferred) (σ : Env) (w : World) : vc Try.prog (.region r13_4) Q ds σ w = vcOps Try.prog [⟨some 23, (Op.move (Operand.tmp 0)), 3, none⟩, ⟨some 24, (Op.move (Operand.tmp 1)), 3, none⟩, ⟨some 25, (Op.move (Operand.tmp 2)), 3, none⟩, ⟨some 26, (Op.call { callee := (Callee.value (Operand.func 35)), args := #[(Operand.tmp 23), (Operand.tmp 24), (Operand.tmp 25)], argTypes := #[3, 3, 3] }), 51, none⟩] (Q .normal ds) σ w := mk_eq rfl
@[push_cast] theorem vr13_5 (Q : Post) (ds : List Deferred) (σ : Env) (w : World) : vc Try.prog (.region r13_5) Q ds σ w = vcOps Try.prog [⟨some 9, (Op.alloc 34), 0, none⟩, ⟨none, (Op.store 34 (Operand.tmp 9) (Operand.tmp 27)), 0, none⟩] (Q .normal ds) σ w := mk_eq rfl
@[push_cast] theorem vr13_6 (Q : Post) (ds : List Deferred) (σ : Env) (w : World) : vc Try.prog (.region r13_6) Q ds σ w = vcOps Try.prog [⟨some 28, (Op.load 22 (Operand.tmp 8)), 22, none⟩, ⟨some 29, (Op.call { callee := (Callee.builtin Builtin.len), args := #[(Operand.tmp 28)], argTypes := #[22] }), 3, none⟩, ⟨some 30, (Op.binOp BinOp.eql 3 (Operand.tmp 29) (Operand.const (Value.int IntKind.i64 1000)) 3), 4, none⟩] (Q .normal ds) σ w := mk_eq rfl
@[push_cast] theorem vr13_7 (Q : Post) (ds : List Deferred) (σ : Env) (w : World) : vc Try.prog (.region r13_7) Q ds σ w = vcOps Try.prog [⟨some 31, (Op.load 22 (Operand.tmp 8)), 22, none⟩, ⟨some 32, (Op.load 34 (Operand.tmp 9)), 34, none⟩, ⟨some 33, (Op.buildSlice 22 1 #[(0, (Operand.tmp 32))]), 22, none⟩, ⟨some 34, (Op.call { callee := (Callee.builtin Builtin.append), args := #[(Operand.tmp 31), (Operand.tmp 33)], argTypes := #[22, 22] }), 22, none⟩, ⟨none, (Op.store 22 (Operand.tmp 8) (Operand.tmp 34)), 0, none⟩] (Q .normal ds) σ w := mk_eq rfl
@[push_cast] theorem vr13_8 (Q : Post) (ds : List Deferred) (σ : Env) (w : World) : vc Try.prog (.region r13_8) Q ds σ w = vcOps Try.prog [⟨some 35, (Op.load 22 (Operand.tmp 8)), 22, none⟩, ⟨some 6, (Op.assign (Operand.tmp 35)), 22, none⟩, ⟨some 7, (Op.assign (Operand.const (Value.int IntKind.i64 0))), 23, none⟩] (Q .normal ds) σ w := mk_eq rfl
/-! 14 columbary/columbaryref11.Cut (params #[3, 3, 3], results #[(ResultVar.tmp 6), (ResultVar.tmp 7)], 55 slots) -/
def W14_0 : List Nat := [10, 11, 12, 13, 14, 28, 29, 30, 31, 32, 33, 34, 35, 36, 37, 38, 39, 40, 41, 42, 43, 44, 45, 46, 47, 48, 49, 50, 51, 52, 53]
@[push_cast] theorem W14_0_def : W14_0 = [10, 11, 12, 13, 14, 28, 29, 30, 31, 32, 33, 34, 35, 36, 37, 38, 39, 40, 41, 42, 43, 44, 45, 46, 47, 48, 49, 50, 51, 52, 53] := mk_eq rfl
def r14_0 : List VOp :=
  [⟨some 6, (Op.assign (Operand.const (Value.slice none 0 0))), 22, none⟩,
   ⟨some 7, (Op.assign (Operand.const (Value.int IntKind.i64 0))), 23, none⟩]
def r14_1 : List VOp :=
  [⟨some 15, (Op.move (Operand.tmp 0)), 3, none⟩,
   ⟨some 16, (Op.move (Operand.tmp 2)), 3, none⟩,
   ⟨some 17, (Op.call { callee := (Callee.value (Operand.func 36)), args := #[(Operand.tmp 15), (Operand.tmp 16)], argTypes := #[3, 3] }), 4, none⟩,
   ⟨some 8, (Op.assign (Operand.tmp 17)), 4, none⟩]
def r14_2 : List VOp :=
  [⟨some 18, (Op.move (Operand.tmp 1)), 3, none⟩,
   ⟨some 19, (Op.move (Operand.tmp 2)), 3, none⟩,
   ⟨some 20, (Op.call { callee := (Callee.value (Operand.func 36)), args := #[(Operand.tmp 18), (Operand.tmp 19)], argTypes := #[3, 3] }), 4, none⟩,
   ⟨some 9, (Op.assign (Operand.tmp 20)), 4, none⟩]
def r14_3 : List VOp :=
  [⟨some 21, (Op.move (Operand.tmp 8)), 4, none⟩,
   ⟨some 22, (Op.unOp UnOp.not 4 (Operand.tmp 21)), 4, none⟩,
   ⟨some 23, (Op.move (Operand.tmp 22)), 4, none⟩,
   ⟨some 24, (Op.move (Operand.tmp 9)), 4, some (23, false)⟩,
   ⟨some 25, (Op.unOp UnOp.not 4 (Operand.tmp 24)), 4, some (23, false)⟩,
   ⟨some 26, (Op.pick (Operand.tmp 23) (Operand.const (Value.bool true)) (Operand.tmp 25)), 4, none⟩]
def r14_4 : List VOp :=
  [⟨some 6, (Op.assign (Operand.const (Value.slice none 0 0))), 22, none⟩,
   ⟨some 7, (Op.assign (Operand.const (Value.int IntKind.i64 111))), 23, none⟩]
def r14_5 : List VOp :=
  [⟨some 10, (Op.assign (Operand.const (Value.slice none 0 0))), 22, none⟩]
def r14_6 : List VOp :=
  [⟨some 27, (Op.move (Operand.tmp 0)), 3, none⟩,
   ⟨some 11, (Op.assign (Operand.tmp 27)), 3, none⟩]
def r14_7 : List VOp :=
  [⟨some 28, (Op.move (Operand.tmp 11)), 3, none⟩,
   ⟨some 29, (Op.move (Operand.tmp 1)), 3, none⟩,
   ⟨some 30, (Op.binOp BinOp.lss 3 (Operand.tmp 28) (Operand.tmp 29) 3), 4, none⟩,
   ⟨some 31, (Op.move (Operand.tmp 30)), 4, none⟩,
   ⟨some 32, (Op.move (Operand.tmp 10)), 22, some (31, true)⟩,
   ⟨some 33, (Op.call { callee := (Callee.builtin Builtin.len), args := #[(Operand.tmp 32)], argTypes := #[22] }), 3, some (31, true)⟩,
   ⟨some 34, (Op.binOp BinOp.lss 3 (Operand.tmp 33) (Operand.const (Value.int IntKind.i64 1000)) 3), 4, some (31, true)⟩,
   ⟨some 35, (Op.pick (Operand.tmp 31) (Operand.tmp 34) (Operand.const (Value.bool false))), 4, none⟩]
def r14_8 : List VOp :=
  [⟨some 37, (Op.move (Operand.tmp 11)), 3, none⟩,
   ⟨some 38, (Op.move (Operand.tmp 2)), 3, none⟩,
   ⟨some 39, (Op.call { callee := (Callee.value (Operand.func 20)), args := #[(Operand.tmp 37), (Operand.tmp 38)], argTypes := #[3, 3] }), 30, none⟩,
   ⟨some 36, (Op.move (Operand.tmp 39)), 30, none⟩,
   ⟨some 40, (Op.extract (Operand.tmp 36) 0), 3, none⟩,
   ⟨some 41, (Op.extract (Operand.tmp 36) 1), 23, none⟩,
   ⟨some 12, (Op.assign (Operand.tmp 40)), 3, none⟩,
   ⟨some 13, (Op.assign (Operand.tmp 41)), 23, none⟩]
def r14_9 : List VOp :=
  [⟨some 42, (Op.move (Operand.tmp 12)), 3, none⟩,
   ⟨some 43, (Op.move (Operand.tmp 2)), 3, none⟩,
   ⟨some 44, (Op.binOp BinOp.add 3 (Operand.tmp 42) (Operand.tmp 43) 3), 3, none⟩,
   ⟨some 45, (Op.move (Operand.tmp 1)), 3, none⟩,
   ⟨some 46, (Op.call { callee := (Callee.builtin Builtin.min), args := #[(Operand.tmp 44), (Operand.tmp 45)], argTypes := #[3, 3] }), 3, none⟩,
   ⟨some 14, (Op.assign (Operand.tmp 46)), 3, none⟩]
def r14_10 : List VOp :=
  [⟨some 47, (Op.move (Operand.tmp 10)), 22, none⟩,
   ⟨some 48, (Op.move (Operand.tmp 11)), 3, none⟩,
   ⟨some 49, (Op.move (Operand.tmp 14)), 3, none⟩,
   ⟨some 50, (Op.build 34 #[(0, (Operand.tmp 48)), (1, (Operand.tmp 49))]), 34, none⟩,
   ⟨some 51, (Op.buildSlice 22 1 #[(0, (Operand.tmp 50))]), 22, none⟩,
   ⟨some 52, (Op.call { callee := (Callee.builtin Builtin.append), args := #[(Operand.tmp 47), (Operand.tmp 51)], argTypes := #[22, 22] }), 22, none⟩,
   ⟨some 10, (Op.assign (Operand.tmp 52)), 22, none⟩]
def r14_11 : List VOp :=
  [⟨some 53, (Op.move (Operand.tmp 14)), 3, none⟩,
   ⟨some 11, (Op.assign (Operand.tmp 53)), 3, none⟩]
def r14_12 : List VOp :=
  [⟨some 54, (Op.move (Operand.tmp 10)), 22, none⟩,
   ⟨some 6, (Op.assign (Operand.tmp 54)), 22, none⟩,
   ⟨some 7, (Op.assign (Operand.const (Value.int IntKind.i64 0))), 23, none⟩]
def B14 : VC :=
  (.seq (.region r14_0) (.seq (.region r14_1) (.seq (.region r14_2) (.seq (.seq (.region r14_3) (.cond (Operand.tmp 26) (.seq (.region r14_4) .ret) .skip)) (.seq (.region r14_5) (.seq (.region r14_6) (.seq (.block 0 (.loop (.seq (.seq (.region r14_7) (.cond (Operand.tmp 35) .skip (.exit 0))) (.block 1 (.seq (.region r14_8) (.seq (.region r14_9) (.seq (.region r14_10) (.region r14_11)))))))) (.seq (.region r14_12) .ret))))))))
theorem code14 : ∃ c, Try.f14.body = some c ∧ abs Try.f14.ntmps c = B14 := ⟨_, rfl, by kernel_rfl⟩
theorem hb14 : HasBody Try.prog 14 := hasBody_of Try.func14 (by kernel_rfl)
theorem res14 : Try.f14.results = #[(ResultVar.tmp 6), (ResultVar.tmp 7)] := rfl
theorem enter14 {w : World} {R : Value → World → Prop} (x0 x1 x2 : Value) (h : vc Try.prog B14 (retK Try.prog #[(ResultVar.tmp 6), (ResultVar.tmp 7)] R) [] (initEnv [x0, x1, x2] 0) w) : FnC Try.prog 14 #[x0, x1, x2] w R := by
  obtain ⟨c, h1, h2⟩ := code14
  exact hb14.fn (ret_of_vc mixed Try.func14 h1 (Nat.le_of_ble_eq_true rfl) B14 h2 h)
@[push_cast] theorem vr14_0 (Q : Post) (ds : List Deferred) (σ : Env) (w : World) : vc Try.prog (.region r14_0) Q ds σ w = vcOps Try.prog [⟨some 6, (Op.assign (Operand.const (Value.slice none 0 0))), 22, none⟩, ⟨some 7, (Op.assign (Operand.const (Value.int IntKind.i64 0))), 23, none⟩] (Q .normal ds) σ w := mk_eq rfl
@[push_cast] theorem vr14_1 (Q : Post) (ds : List Deferred) (σ : Env) (w : World) : vc Try.prog (.region r14_1) Q ds σ w = vcOps Try.prog [⟨some 15, (Op.move (Operand.tmp 0)), 3, none⟩, ⟨some 16, (Op.move (Operand.tmp 2)), 3, none⟩, ⟨some 17, (Op.call { callee := (Callee.value (Operand.func 36)), args := #[(Operand.tmp 15), (Operand.tmp 16)], argTypes := #[3, 3] }), 4, none⟩, ⟨some 8, (Op.assign (Operand.tmp 17)), 4, none⟩] (Q .normal ds) σ w := mk_eq rfl
@[push_cast] theorem vr14_2 (Q : Post) (ds : List Deferred) (σ : Env) (w : World) : vc Try.prog (.region r14_2) Q ds σ w = vcOps Try.prog [⟨some 18, (Op.move (Operand.tmp 1)), 3, none⟩, ⟨some 19, (Op.move (Operand.tmp 2)), 3, none⟩, ⟨some 20, (Op.call { callee := (Callee.value (Operand.func 36)), args := #[(Operand.tmp 18), (Operand.tmp 19)], argTypes := #[3, 3] }), 4, none⟩, ⟨some 9, (Op.assign (Operand.tmp 20)), 4, none⟩] (Q .normal ds) σ w := mk_eq rfl
@[push_cast] theorem vr14_3 (Q : Post) (ds : List Deferred) (σ : Env) (w : World) : vc Try.prog (.region r14_3) Q ds σ w = vcOps Try.prog [⟨some 21, (Op.move (Operand.tmp 8)), 4, none⟩, ⟨some 22, (Op.unOp UnOp.not 4 (Operand.tmp 21)), 4, none⟩, ⟨some 23, (Op.move (Operand.tmp 22)), 4, none⟩, ⟨some 24, (Op.move (Operand.tmp 9)), 4, some (23, false)⟩, ⟨some 25, (Op.unOp UnOp.not 4 (Operand.tmp 24)), 4, some (23, false)⟩, ⟨some 26, (Op.pick (Operand.tmp 23) (Operand.const (Value.bool true)) (Operand.tmp 25)), 4, none⟩] (Q .normal ds) σ w := mk_eq rfl
@[push_cast] theorem vr14_4 (Q : Post) (ds : List Deferred) (σ : Env) (w : World) : vc Try.prog (.region r14_4) Q ds σ w = vcOps Try.prog [⟨some 6, (Op.assign (Operand.const (Value.slice none 0 0))), 22, none⟩, ⟨some 7, (Op.assign (Operand.const (Value.int IntKind.i64 111))), 23, none⟩] (Q .normal ds) σ w := mk_eq rfl
@[push_cast] theorem vr14_5 (Q : Post) (ds : List Deferred) (σ : Env) (w : World) : vc Try.prog (.region r14_5) Q ds σ w = vcOps Try.prog [⟨some 10, (Op.assign (Operand.const (Value.slice none 0 0))), 22, none⟩] (Q .normal ds) σ w := mk_eq rfl
@[push_cast] theorem vr14_6 (Q : Post) (ds : List Deferred) (σ : Env) (w : World) : vc Try.prog (.region r14_6) Q ds σ w = vcOps Try.prog [⟨some 27, (Op.move (Operand.tmp 0)), 3, none⟩, ⟨some 11, (Op.assign (Operand.tmp 27)), 3, none⟩] (Q .normal ds) σ w := mk_eq rfl
@[push_cast] theorem vr14_7 (Q : Post) (ds : List Deferred) (σ : Env) (w : World) : vc Try.prog (.region r14_7) Q ds σ w = vcOps Try.prog [⟨some 28, (Op.move (Operand.tmp 11)), 3, none⟩, ⟨some 29, (Op.move (Operand.tmp 1)), 3, none⟩, ⟨some 30, (Op.binOp BinOp.lss 3 (Operand.tmp 28) (Operand.tmp 29) 3), 4, none⟩, ⟨some 31, (Op.move (Operand.tmp 30)), 4, none⟩, ⟨some 32, (Op.move (Operand.tmp 10)), 22, some (31, true)⟩, ⟨some 33, (Op.call { callee := (Callee.builtin Builtin.len), args := #[(Operand.tmp 32)], argTypes := #[22] }), 3, some (31, true)⟩, ⟨some 34, (Op.binOp BinOp.lss 3 (Operand.tmp 33) (Operand.const (Value.int IntKind.i64 1000)) 3), 4, some (31, true)⟩, ⟨some 35, (Op.pick (Operand.tmp 31) (Operand.tmp 34) (Operand.const (Value.bool false))), 4, none⟩] (Q .normal ds) σ w := mk_eq rfl
@[push_cast] theorem vr14_8 (Q : Post) (ds : List Deferred) (σ : Env) (w : World) : vc Try.prog (.region r14_8) Q ds σ w = vcOps Try.prog [⟨some 37, (Op.move (Operand.tmp 11)), 3, none⟩, ⟨some 38, (Op.move (Operand.tmp 2)), 3, none⟩, ⟨some 39, (Op.call { callee := (Callee.value (Operand.func 20)), args := #[(Operand.tmp 37), (Operand.tmp 38)], argTypes := #[3, 3] }), 30, none⟩, ⟨some 36, (Op.move (Operand.tmp 39)), 30, none⟩, ⟨some 40, (Op.extract (Operand.tmp 36) 0), 3, none⟩, ⟨some 41, (Op.extract (Operand.tmp 36) 1), 23, none⟩, ⟨some 12, (Op.assign (Operand.tmp 40)), 3, none⟩, ⟨some 13, (Op.assign (Operand.tmp 41)), 23, none⟩] (Q .normal ds) σ w := mk_eq rfl
@[push_cast] theorem vr14_9 (Q : Post) (ds : List Deferred) (σ : Env) (w : World) : vc Try.prog (.region r14_9) Q ds σ w = vcOps Try.prog [⟨some 42, (Op.move (Operand.tmp 12)), 3, none⟩, ⟨some 43, (Op.move (Operand.tmp 2)), 3, none⟩, ⟨some 44, (Op.binOp BinOp.add 3 (Operand.tmp 42) (Operand.tmp 43) 3), 3, none⟩, ⟨some 45, (Op.move (Operand.tmp 1)), 3, none⟩, ⟨some 46, (Op.call { callee := (Callee.builtin Builtin.min), args := #[(Operand.tmp 44), (Operand.tmp 45)], argTypes := #[3, 3] }), 3, none⟩, ⟨some 14, (Op.assign (Operand.tmp 46)), 3, none⟩] (Q .normal ds) σ w := mk_eq rfl
@[push_cast] theorem vr14_10 (Q : Post) (ds : List Deferred) (σ : Env) (w : World) : vc Try.prog (.region r14_10) Q ds σ w = vcOps Try.prog [⟨some 47, (Op.move (Operand.tmp 10)), 22, none⟩, ⟨some 48, (Op.move (Operand.tmp 11)), 3, none⟩, ⟨some 49, (Op.move (Operand.tmp 14)), 3, none⟩, ⟨some 50, (Op.build 34 #[(0, (Operand.tmp 48)), (1, (Operand.tmp 49))]), 34, none⟩, ⟨some 51, (Op.buildSlice 22 1 #[(0, (Operand.tmp 50))]), 22, none⟩, ⟨some 52, (Op.call { callee := (Callee.builtin Builtin.append), args := #[(Operand.tmp 47), (Operand.tmp 51)], argTypes := #[22, 22] }), 22, none⟩, ⟨some 10, (Op.assign (Operand.tmp 52)), 22, none⟩] (Q .normal ds) σ w := mk_eq rfl
@[push_cast] theorem vr14_11 (Q : Post) (ds : List Deferred) (σ : Env) (w : World) : vc Try.prog (.region r14_11) Q ds σ w = vcOps Try.prog [⟨some 53, (Op.move (Operand.tmp 14)), 3, none⟩, ⟨some 11, (Op.assign (Operand.tmp 53)), 3, none⟩] (Q .normal ds) σ w := mk_eq rfl
@[push_cast] theorem vr14_12 (Q : Post) (ds : List Deferred) (σ : Env) (w : World) : vc Try.prog (.region r14_12) Q ds σ w = vcOps Try.prog [⟨some 54, (Op.move (Operand.tmp 10)), 22, none⟩, ⟨some 6, (Op.assign (Operand.tmp 54)), 22, none⟩, ⟨some 7, (Op.assign (Operand.const (Value.int IntKind.i64 0))), 23, none⟩] (Q .normal ds) σ w := mk_eq rfl
/-! 16 columbary/columbaryref04.Same (params #[22, 22], results #[(ResultVar.tmp 4)], 26 slots) -/
def W16_0 : List Nat := [4, 5, 11, 12, 13, 14, 15, 16, 17, 18, 19, 20, 21, 22, 23, 24, 25]
@[push_cast] theorem W16_0_def : W16_0 = [4, 5, 11, 12, 13, 14, 15, 16, 17, 18, 19, 20, 21, 22, 23, 24, 25] := mk_eq rfl
def r16_0 : List VOp :=
  [⟨some 4, (Op.assign (Operand.const (Value.bool false))), 4, none⟩]
def r16_1 : List VOp :=
  [⟨some 6, (Op.move (Operand.tmp 0)), 22, none⟩,
   ⟨some 7, (Op.call { callee := (Callee.builtin Builtin.len), args := #[(Operand.tmp 6)], argTypes := #[22] }), 3, none⟩,
   ⟨some 8, (Op.move (Operand.tmp 1)), 22, none⟩,
   ⟨some 9, (Op.call { callee := (Callee.builtin Builtin.len), args := #[(Operand.tmp 8)], argTypes := #[22] }), 3, none⟩,
   ⟨some 10, (Op.binOp BinOp.neq 3 (Operand.tmp 7) (Operand.tmp 9) 3), 4, none⟩]
def r16_2 : List VOp :=
  [⟨some 4, (Op.assign (Operand.const (Value.bool false))), 4, none⟩]
def r16_3 : List VOp :=
  [⟨some 5, (Op.assign (Operand.const (Value.int IntKind.i64 0))), 3, none⟩]
def r16_4 : List VOp :=
  [⟨some 11, (Op.move (Operand.tmp 5)), 3, none⟩,
   ⟨some 12, (Op.move (Operand.tmp 0)), 22, none⟩,
   ⟨some 13, (Op.call { callee := (Callee.builtin Builtin.len), args := #[(Operand.tmp 12)], argTypes := #[22] }), 3, none⟩,
   ⟨some 14, (Op.binOp BinOp.lss 3 (Operand.tmp 11) (Operand.tmp 13) 3), 4, none⟩]
def r16_6 : List VOp :=
  [⟨some 17, (Op.move (Operand.tmp 0)), 22, none⟩,
   ⟨some 18, (Op.move (Operand.tmp 5)), 3, none⟩,
   ⟨some 19, (Op.indexAddr 22 (Operand.tmp 17) (Operand.tmp 18)), 0, none⟩,
   ⟨some 20, (Op.load 34 (Operand.tmp 19)), 34, none⟩,
   ⟨some 21, (Op.move (Operand.tmp 1)), 22, none⟩,
   ⟨some 22, (Op.move (Operand.tmp 5)), 3, none⟩,
   ⟨some 23, (Op.indexAddr 22 (Operand.tmp 21) (Operand.tmp 22)), 0, none⟩,
   ⟨some 24, (Op.load 34 (Operand.tmp 23)), 34, none⟩,
   ⟨some 25, (Op.binOp BinOp.neq 34 (Operand.tmp 20) (Operand.tmp 24) 34), 4, none⟩]
def r16_7 : List VOp :=
  [⟨some 4, (Op.assign (Operand.const (Value.bool false))), 4, none⟩]
def r16_5 : List VOp :=
  [⟨some 15, (Op.move (Operand.tmp 5)), 3, none⟩,
   ⟨some 16, (Op.binOp BinOp.add 3 (Operand.tmp 15) (Operand.const (Value.int IntKind.i64 1)) 3), 3, none⟩,
   ⟨some 5, (Op.assign (Operand.tmp 16)), 3, none⟩]
def r16_8 : List VOp :=
  [⟨some 4, (Op.assign (Operand.const (Value.bool true))), 4, none⟩]
def B16 : VC :=
  (.seq (.region r16_0) (.seq (.seq (.region r16_1) (.cond (Operand.tmp 10) (.seq (.region r16_2) .ret) .skip)) (.seq (.seq (.region r16_3) (.block 0 (.loop (.seq (.seq (.region r16_4) (.cond (Operand.tmp 14) .skip (.exit 0))) (.seq (.block 1 (.seq (.draw r16_6 2) (.cond (Operand.tmp 25) (.seq (.region r16_7) .ret) .skip))) (.region r16_5)))))) (.seq (.region r16_8) .ret))))
theorem code16 : ∃ c, Try.f16.body = some c ∧ abs Try.f16.ntmps c = B16 := ⟨_, rfl, by kernel_rfl⟩
theorem hb16 : HasBody Try.prog 16 := hasBody_of Try.func16 (by kernel_rfl)
theorem res16 : Try.f16.results = #[(ResultVar.tmp 4)] := rfl
theorem enter16 {w : World} {R : Value → World → Prop} (x0 x1 : Value) (h : vc Try.prog B16 (retK Try.prog #[(ResultVar.tmp 4)] R) [] (initEnv [x0, x1] 0) w) : FnC Try.prog 16 #[x0, x1] w R := by
  obtain ⟨c, h1, h2⟩ := code16
  exact hb16.fn (ret_of_vc mixed Try.func16 h1 (Nat.le_of_ble_eq_true rfl) B16 h2 h)
@[push_cast] theorem vr16_0 (Q : Post) (ds : List Deferred) (σ : Env) (w : World) : vc Try.prog (.region r16_0) Q ds σ w = vcOps Try.prog [⟨some 4, (Op.assign (Operand.const (Value.bool false))), 4, none⟩] (Q .normal ds) σ w := mk_eq rfl
@[push_cast] theorem vr16_1 (Q : Post) (ds : List Deferred) (σ : Env) (w : World) : vc Try.prog (.region r16_1) Q ds σ w = vcOps Try.prog [⟨some 6, (Op.move (Operand.tmp 0)), 22, none⟩, ⟨some 7, (Op.call { callee := (Callee.builtin Builtin.len), args := #[(Operand.tmp 6)], argTypes := #[22] }), 3, none⟩, ⟨some 8, (Op.move (Operand.tmp 1)), 22, none⟩, ⟨some 9, (Op.call { callee := (Callee.builtin Builtin.len), args := #[(Operand.tmp 8)], argTypes := #[22] }), 3, none⟩, ⟨some 10, (Op.binOp BinOp.neq 3 (Operand.tmp 7) (Operand.tmp 9) 3), 4, none⟩] (Q .normal ds) σ w := mk_eq rfl
@[push_cast] theorem vr16_2 (Q : Post) (ds : List Deferred) (σ : Env) (w : World) : vc Try.prog (.region r16_2) Q ds σ w = vcOps Try.prog [⟨some 4, (Op.assign (Operand.const (Value.bool false))), 4, none⟩] (Q .normal ds) σ w := mk_eq rfl
@[push_cast] theorem vr16_3 (Q : Post) (ds : List Deferred) (σ : Env) (w : World) : vc Try.prog (.region r16_3) Q ds σ w = vcOps Try.prog [⟨some 5, (Op.assign (Operand.const (Value.int IntKind.i64 0))), 3, none⟩] (Q .normal ds) σ w := mk_eq rfl
@[push_cast] theorem vr16_4 (Q : Post) (ds : List Deferred) (σ : Env) (w : World) : vc Try.prog (.region r16_4) Q ds σ w = vcOps Try.prog [⟨some 11, (Op.move (Operand.tmp 5)), 3, none⟩, ⟨some 12, (Op.move (Operand.tmp 0)), 22, none⟩, ⟨some 13, (Op.call { callee := (Callee.builtin Builtin.len), args := #[(Operand.tmp 12)], argTypes := #[22] }), 3, none⟩, ⟨some 14, (Op.binOp BinOp.lss 3 (Operand.tmp 11) (Operand.tmp 13) 3), 4, none⟩] (Q .normal ds) σ w := mk_eq rfl
@[push_cast] theorem vr16_6 (Q : Post) (ds : List Deferred) (σ : Env) (w : World) : vc Try.prog (.draw r16_6 2) Q ds σ w = drawn Try.prog [(⟨some 17, (Op.move (Operand.tmp 0)), 22, none⟩, [0]), (⟨some 18, (Op.move (Operand.tmp 5)), 3, none⟩, [5]), (⟨some 19, (Op.indexAddr 22 (Operand.tmp 17) (Operand.tmp 18)), 0, none⟩, [17, 18]), (⟨some 20, (Op.load 34 (Operand.tmp 19)), 34, none⟩, [19]), (⟨some 21, (Op.move (Operand.tmp 1)), 22, none⟩, [1]), (⟨some 22, (Op.move (Operand.tmp 5)), 3, none⟩, [5]), (⟨some 23, (Op.indexAddr 22 (Operand.tmp 21) (Operand.tmp 22)), 0, none⟩, [21, 22]), (⟨some 24, (Op.load 34 (Operand.tmp 23)), 34, none⟩, [23]), (⟨some 25, (Op.binOp BinOp.neq 34 (Operand.tmp 20) (Operand.tmp 24) 34), 4, none⟩, [20, 24])] 2 (Q .normal ds) σ w := mk_eq rfl
@[push_cast] theorem vr16_7 (Q : Post) (ds : List Deferred) (σ : Env) (w : World) : vc Try.prog (.region r16_7) Q ds σ w = vcOps Try.prog [⟨some 4, (Op.assign (Operand.const (Value.bool false))), 4, none⟩] (Q .normal ds) σ w := mk_eq rfl
@[push_cast] theorem vr16_5 (Q : Post) (ds : List Deferred) (σ : Env) (w : World) : vc Try.prog (.region r16_5) Q ds σ w = vcOps Try.prog [⟨some 15, (Op.move (Operand.tmp 5)), 3, none⟩, ⟨some 16, (Op.binOp BinOp.add 3 (Operand.tmp 15) (Operand.const (Value.int IntKind.i64 1)) 3), 3, none⟩, ⟨some 5, (Op.assign (Operand.tmp 16)), 3, none⟩] (Q .normal ds) σ w := mk_eq rfl
@[push_cast] theorem vr16_8 (Q : Post) (ds : List Deferred) (σ : Env) (w : World) : vc Try.prog (.region r16_8) Q ds σ w = vcOps Try.prog [⟨some 4, (Op.assign (Operand.const (Value.bool true))), 4, none⟩] (Q .normal ds) σ w := mk_eq rfl
/-! 17 columbary/bucket.Right (params #[3], results #[(ResultVar.tmp 2)], 9 slots) -/
def r17_0 : List VOp :=
  [⟨some 2, (Op.assign (Operand.const (Value.bool false))), 4, none⟩]
def r17_1 : List VOp :=
  [⟨some 3, (Op.move (Operand.tmp 0)), 3, none⟩,
   ⟨some 4, (Op.binOp BinOp.geq 3 (Operand.tmp 3) (Operand.const (Value.int IntKind.i64 1)) 3), 4, none⟩,
   ⟨some 5, (Op.move (Operand.tmp 4)), 4, none⟩,
   ⟨some 6, (Op.move (Operand.tmp 0)), 3, some (5, true)⟩,
   ⟨some 7, (Op.binOp BinOp.leq 3 (Operand.tmp 6) (Operand.const (Value.int IntKind.i64 1048576)) 3), 4, some (5, true)⟩,
   ⟨some 8, (Op.pick (Operand.tmp 5) (Operand.tmp 7) (Operand.const (Value.bool false))), 4, none⟩,
   ⟨some 2, (Op.assign (Operand.tmp 8)), 4, none⟩]
def B17 : VC :=
  (.seq (.region r17_0) (.seq (.region r17_1) .ret))
theorem code17 : ∃ c, Try.f17.body = some c ∧ abs Try.f17.ntmps c = B17 := ⟨_, rfl, by kernel_rfl⟩
theorem hb17 : HasBody Try.prog 17 := hasBody_of Try.func17 (by kernel_rfl)
theorem res17 : Try.f17.results = #[(ResultVar.tmp 2)] := rfl
theorem enter17 {w : World} {R : Value → World → Prop} (x0 : Value) (h : vc Try.prog B17 (retK Try.prog #[(ResultVar.tmp 2)] R) [] (initEnv [x0] 0) w) : FnC Try.prog 17 #[x0] w R := by
  obtain ⟨c, h1, h2⟩ := code17
  exact hb17.fn (ret_of_vc mixed Try.func17 h1 (Nat.le_of_ble_eq_true rfl) B17 h2 h)
@[push_cast] theorem vr17_0 (Q : Post) (ds : List Deferred) (σ : Env) (w : World) : vc Try.prog (.region r17_0) Q ds σ w = vcOps Try.prog [⟨some 2, (Op.assign (Operand.const (Value.bool false))), 4, none⟩] (Q .normal ds) σ w := mk_eq rfl
@[push_cast] theorem vr17_1 (Q : Post) (ds : List Deferred) (σ : Env) (w : World) : vc Try.prog (.region r17_1) Q ds σ w = vcOps Try.prog [⟨some 3, (Op.move (Operand.tmp 0)), 3, none⟩, ⟨some 4, (Op.binOp BinOp.geq 3 (Operand.tmp 3) (Operand.const (Value.int IntKind.i64 1)) 3), 4, none⟩, ⟨some 5, (Op.move (Operand.tmp 4)), 4, none⟩, ⟨some 6, (Op.move (Operand.tmp 0)), 3, some (5, true)⟩, ⟨some 7, (Op.binOp BinOp.leq 3 (Operand.tmp 6) (Operand.const (Value.int IntKind.i64 1048576)) 3), 4, some (5, true)⟩, ⟨some 8, (Op.pick (Operand.tmp 5) (Operand.tmp 7) (Operand.const (Value.bool false))), 4, none⟩, ⟨some 2, (Op.assign (Operand.tmp 8)), 4, none⟩] (Q .normal ds) σ w := mk_eq rfl
/-! 18 columbary/bucket.Floor (params #[3, 3], results #[(ResultVar.tmp 4), (ResultVar.tmp 5)], 19 slots) -/
def r18_0 : List VOp :=
  [⟨some 4, (Op.assign (Operand.const (Value.int IntKind.i64 0))), 3, none⟩,
   ⟨some 5, (Op.assign (Operand.const (Value.int IntKind.i64 0))), 23, none⟩]
def r18_1 : List VOp :=
  [⟨some 6, (Op.move (Operand.tmp 1)), 3, none⟩,
   ⟨some 7, (Op.call { callee := (Callee.value (Operand.func 17)), args := #[(Operand.tmp 6)], argTypes := #[3] }), 4, none⟩,
   ⟨some 8, (Op.unOp UnOp.not 4 (Operand.tmp 7)), 4, none⟩,
   ⟨some 9, (Op.move (Operand.tmp 8)), 4, none⟩,
   ⟨some 10, (Op.move (Operand.tmp 0)), 3, some (9, false)⟩,
   ⟨some 11, (Op.call { callee := (Callee.value (Operand.func 34)), args := #[(Operand.tmp 10)], argTypes := #[3] }), 4, some (9, false)⟩,
   ⟨some 12, (Op.unOp UnOp.not 4 (Operand.tmp 11)), 4, some (9, false)⟩,
   ⟨some 13, (Op.pick (Operand.tmp 9) (Operand.const (Value.bool true)) (Operand.tmp 12)), 4, none⟩]
def r18_2 : List VOp :=
  [⟨some 4, (Op.assign (Operand.const (Value.int IntKind.i64 0))), 3, none⟩,
   ⟨some 5, (Op.assign (Operand.const (Value.int IntKind.i64 111))), 23, none⟩]
def r18_3 : List VOp :=
  [⟨some 14, (Op.move (Operand.tmp 0)), 3, none⟩,
   ⟨some 15, (Op.move (Operand.tmp 0)), 3, none⟩,
   ⟨some 16, (Op.move (Operand.tmp 1)), 3, none⟩,
   ⟨some 17, (Op.call { callee := (Callee.value (Operand.func 37)), args := #[(Operand.tmp 15), (Operand.tmp 16)], argTypes := #[3, 3] }), 3, none⟩,
   ⟨some 18, (Op.binOp BinOp.sub 3 (Operand.tmp 14) (Operand.tmp 17) 3), 3, none⟩,
   ⟨some 4, (Op.assign (Operand.tmp 18)), 3, none⟩,
   ⟨some 5, (Op.assign (Operand.const (Value.int IntKind.i64 0))), 23, none⟩]
def B18 : VC :=
  (.seq (.region r18_0) (.seq (.seq (.region r18_1) (.cond (Operand.tmp 13) (.seq (.region r18_2) .ret) .skip)) (.seq (.region r18_3) .ret)))
theorem code18 : ∃ c, Try.f18.body = some c ∧ abs Try.f18.ntmps c = B18 := ⟨_, rfl, by kernel_rfl⟩
theorem hb18 : HasBody Try.prog 18 := hasBody_of Try.func18 (by kernel_rfl)
theorem res18 : Try.f18.results = #[(ResultVar.tmp 4), (ResultVar.tmp 5)] := rfl
theorem enter18 {w : World} {R : Value → World → Prop} (x0 x1 : Value) (h : vc Try.prog B18 (retK Try.prog #[(ResultVar.tmp 4), (ResultVar.tmp 5)] R) [] (initEnv [x0, x1] 0) w) : FnC Try.prog 18 #[x0, x1] w R := by
  obtain ⟨c, h1, h2⟩ := code18
  exact hb18.fn (ret_of_vc mixed Try.func18 h1 (Nat.le_of_ble_eq_true rfl) B18 h2 h)
@[push_cast] theorem vr18_0 (Q : Post) (ds : List Deferred) (σ : Env) (w : World) : vc Try.prog (.region r18_0) Q ds σ w = vcOps Try.prog [⟨some 4, (Op.assign (Operand.const (Value.int IntKind.i64 0))), 3, none⟩, ⟨some 5, (Op.assign (Operand.const (Value.int IntKind.i64 0))), 23, none⟩] (Q .normal ds) σ w := mk_eq rfl
@[push_cast] theorem vr18_1 (Q : Post) (ds : List Deferred) (σ : Env) (w : World) : vc Try.prog (.region r18_1) Q ds σ w = vcOps Try.prog [⟨some 6, (Op.move (Operand.tmp 1)), 3, none⟩, ⟨some 7, (Op.call { callee := (Callee.value (Operand.func 17)), args := #[(Operand.tmp 6)], argTypes := #[3] }), 4, none⟩, ⟨some 8, (Op.unOp UnOp.not 4 (Operand.tmp 7)), 4, none⟩, ⟨some 9, (Op.move (Operand.tmp 8)), 4, none⟩, ⟨some 10, (Op.move (Operand.tmp 0)), 3, some (9, false)⟩, ⟨some 11, (Op.call { callee := (Callee.value (Operand.func 34)), args := #[(Operand.tmp 10)], argTypes := #[3] }), 4, some (9, false)⟩, ⟨some 12, (Op.unOp UnOp.not 4 (Operand.tmp 11)), 4, some (9, false)⟩, ⟨some 13, (Op.pick (Operand.tmp 9) (Operand.const (Value.bool true)) (Operand.tmp 12)), 4, none⟩] (Q .normal ds) σ w := mk_eq rfl
@[push_cast] theorem vr18_2 (Q : Post) (ds : List Deferred) (σ : Env) (w : World) : vc Try.prog (.region r18_2) Q ds σ w = vcOps Try.prog [⟨some 4, (Op.assign (Operand.const (Value.int IntKind.i64 0))), 3, none⟩, ⟨some 5, (Op.assign (Operand.const (Value.int IntKind.i64 111))), 23, none⟩] (Q .normal ds) σ w := mk_eq rfl
@[push_cast] theorem vr18_3 (Q : Post) (ds : List Deferred) (σ : Env) (w : World) : vc Try.prog (.region r18_3) Q ds σ w = vcOps Try.prog [⟨some 14, (Op.move (Operand.tmp 0)), 3, none⟩, ⟨some 15, (Op.move (Operand.tmp 0)), 3, none⟩, ⟨some 16, (Op.move (Operand.tmp 1)), 3, none⟩, ⟨some 17, (Op.call { callee := (Callee.value (Operand.func 37)), args := #[(Operand.tmp 15), (Operand.tmp 16)], argTypes := #[3, 3] }), 3, none⟩, ⟨some 18, (Op.binOp BinOp.sub 3 (Operand.tmp 14) (Operand.tmp 17) 3), 3, none⟩, ⟨some 4, (Op.assign (Operand.tmp 18)), 3, none⟩, ⟨some 5, (Op.assign (Operand.const (Value.int IntKind.i64 0))), 23, none⟩] (Q .normal ds) σ w := mk_eq rfl
/-! 19 columbary/bucket.Ceil (params #[3, 3], results #[(ResultVar.tmp 4), (ResultVar.tmp 5)], 20 slots) -/
def r19_0 : List VOp :=
  [⟨some 4, (Op.assign (Operand.const (Value.int IntKind.i64 0))), 3, none⟩,
   ⟨some 5, (Op.assign (Operand.const (Value.int IntKind.i64 0))), 23, none⟩]
def r19_1 : List VOp :=
  [⟨some 6, (Op.move (Operand.tmp 1)), 3, none⟩,
   ⟨some 7, (Op.call { callee := (Callee.value (Operand.func 17)), args := #[(Operand.tmp 6)], argTypes := #[3] }), 4, none⟩,
   ⟨some 8, (Op.unOp UnOp.not 4 (Operand.tmp 7)), 4, none⟩,
   ⟨some 9, (Op.move (Operand.tmp 8)), 4, none⟩,
   ⟨some 10, (Op.move (Operand.tmp 0)), 3, some (9, false)⟩,
   ⟨some 11, (Op.call { callee := (Callee.value (Operand.func 34)), args := #[(Operand.tmp 10)], argTypes := #[3] }), 4, some (9, false)⟩,
   ⟨some 12, (Op.unOp UnOp.not 4 (Operand.tmp 11)), 4, some (9, false)⟩,
   ⟨some 13, (Op.pick (Operand.tmp 9) (Operand.const (Value.bool true)) (Operand.tmp 12)), 4, none⟩]
def r19_2 : List VOp :=
  [⟨some 4, (Op.assign (Operand.const (Value.int IntKind.i64 0))), 3, none⟩,
   ⟨some 5, (Op.assign (Operand.const (Value.int IntKind.i64 111))), 23, none⟩]
def r19_3 : List VOp :=
  [⟨some 14, (Op.move (Operand.tmp 0)), 3, none⟩,
   ⟨some 15, (Op.move (Operand.tmp 0)), 3, none⟩,
   ⟨some 16, (Op.unOp UnOp.neg 3 (Operand.tmp 15)), 3, none⟩,
   ⟨some 17, (Op.move (Operand.tmp 1)), 3, none⟩,
   ⟨some 18, (Op.call { callee := (Callee.value (Operand.func 37)), args := #[(Operand.tmp 16), (Operand.tmp 17)], argTypes := #[3, 3] }), 3, none⟩,
   ⟨some 19, (Op.binOp BinOp.add 3 (Operand.tmp 14) (Operand.tmp 18) 3), 3, none⟩,
   ⟨some 4, (Op.assign (Operand.tmp 19)), 3, none⟩,
   ⟨some 5, (Op.assign (Operand.const (Value.int IntKind.i64 0))), 23, none⟩]
def B19 : VC :=
  (.seq (.region r19_0) (.seq (.seq (.region r19_1) (.cond (Operand.tmp 13) (.seq (.region r19_2) .ret) .skip)) (.seq (.region r19_3) .ret)))
theorem code19 : ∃ c, Try.f19.body = some c ∧ abs Try.f19.ntmps c = B19 := ⟨_, rfl, by kernel_rfl⟩
theorem hb19 : HasBody Try.prog 19 := hasBody_of Try.func19 (by kernel_rfl)
theorem res19 : Try.f19.results = #[(ResultVar.tmp 4), (ResultVar.tmp 5)] := rfl
theorem enter19 {w : World} {R : Value → World → Prop} (x0 x1 : Value) (h : vc Try.prog B19 (retK Try.prog #[(ResultVar.tmp 4), (ResultVar.tmp 5)] R) [] (initEnv [x0, x1] 0) w) : FnC Try.prog 19 #[x0, x1] w R := by
  obtain ⟨c, h1, h2⟩ := code19
  exact hb19.fn (ret_of_vc mixed Try.func19 h1 (Nat.le_of_ble_eq_true rfl) B19 h2 h)
@[push_cast] theorem vr19_0 (Q : Post) (ds : List Deferred) (σ : Env) (w : World) : vc Try.prog (.region r19_0) Q ds σ w = vcOps Try.prog [⟨some 4, (Op.assign (Operand.const (Value.int IntKind.i64 0))), 3, none⟩, ⟨some 5, (Op.assign (Operand.const (Value.int IntKind.i64 0))), 23, none⟩] (Q .normal ds) σ w := mk_eq rfl
@[push_cast] theorem vr19_1 (Q : Post) (ds : List Deferred) (σ : Env) (w : World) : vc Try.prog (.region r19_1) Q ds σ w = vcOps Try.prog [⟨some 6, (Op.move (Operand.tmp 1)), 3, none⟩, ⟨some 7, (Op.call { callee := (Callee.value (Operand.func 17)), args := #[(Operand.tmp 6)], argTypes := #[3] }), 4, none⟩, ⟨some 8, (Op.unOp UnOp.not 4 (Operand.tmp 7)), 4, none⟩, ⟨some 9, (Op.move (Operand.tmp 8)), 4, none⟩, ⟨some 10, (Op.move (Operand.tmp 0)), 3, some (9, false)⟩, ⟨some 11, (Op.call { callee := (Callee.value (Operand.func 34)), args := #[(Operand.tmp 10)], argTypes := #[3] }), 4, some (9, false)⟩, ⟨some 12, (Op.unOp UnOp.not 4 (Operand.tmp 11)), 4, some (9, false)⟩, ⟨some 13, (Op.pick (Operand.tmp 9) (Operand.const (Value.bool true)) (Operand.tmp 12)), 4, none⟩] (Q .normal ds) σ w := mk_eq rfl
@[push_cast] theorem vr19_2 (Q : Post) (ds : List Deferred) (σ : Env) (w : World) : vc Try.prog (.region r19_2) Q ds σ w = vcOps Try.prog [⟨some 4, (Op.assign (Operand.const (Value.int IntKind.i64 0))), 3, none⟩, ⟨some 5, (Op.assign (Operand.const (Value.int IntKind.i64 111))), 23, none⟩] (Q .normal ds) σ w := mk_eq rfl
@[push_cast] theorem vr19_3 (Q : Post) (ds : List Deferred) (σ : Env) (w : World) : vc Try.prog (.region r19_3) Q ds σ w = vcOps Try.prog [⟨some 14, (Op.move (Operand.tmp 0)), 3, none⟩, ⟨some 15, (Op.move (Operand.tmp 0)), 3, none⟩, ⟨some 16, (Op.unOp UnOp.neg 3 (Operand.tmp 15)), 3, none⟩, ⟨some 17, (Op.move (Operand.tmp 1)), 3, none⟩, ⟨some 18, (Op.call { callee := (Callee.value (Operand.func 37)), args := #[(Operand.tmp 16), (Operand.tmp 17)], argTypes := #[3, 3] }), 3, none⟩, ⟨some 19, (Op.binOp BinOp.add 3 (Operand.tmp 14) (Operand.tmp 18) 3), 3, none⟩, ⟨some 4, (Op.assign (Operand.tmp 19)), 3, none⟩, ⟨some 5, (Op.assign (Operand.const (Value.int IntKind.i64 0))), 23, none⟩] (Q .normal ds) σ w := mk_eq rfl
/-! 20 columbary/columbaryref11.Floor (params #[3, 3], results #[(ResultVar.tmp 4), (ResultVar.tmp 5)], 25 slots) -/
def r20_0 : List VOp :=
  [⟨some 4, (Op.assign (Operand.const (Value.int IntKind.i64 0))), 3, none⟩,
   ⟨some 5, (Op.assign (Operand.const (Value.int IntKind.i64 0))), 23, none⟩]
def r20_1 : List VOp :=
  [⟨some 8, (Op.move (Operand.tmp 0)), 3, none⟩,
   ⟨some 9, (Op.move (Operand.tmp 1)), 3, none⟩,
   ⟨some 10, (Op.call { callee := (Callee.value (Operand.func 36)), args := #[(Operand.tmp 8), (Operand.tmp 9)], argTypes := #[3, 3] }), 4, none⟩,
   ⟨some 6, (Op.assign (Operand.tmp 10)), 4, none⟩]
def r20_2 : List VOp :=
  [⟨some 11, (Op.move (Operand.tmp 6)), 4, none⟩,
   ⟨some 12, (Op.unOp UnOp.not 4 (Operand.tmp 11)), 4, none⟩]
def r20_3 : List VOp :=
  [⟨some 4, (Op.assign (Operand.const (Value.int IntKind.i64 0))), 3, none⟩,
   ⟨some 5, (Op.assign (Operand.const (Value.int IntKind.i64 111))), 23, none⟩]
def r20_4 : List VOp :=
  [⟨some 13, (Op.move (Operand.tmp 0)), 3, none⟩,
   ⟨some 14, (Op.move (Operand.tmp 1)), 3, none⟩,
   ⟨some 15, (Op.binOp BinOp.quo 3 (Operand.tmp 13) (Operand.tmp 14) 3), 3, none⟩,
   ⟨some 16, (Op.move (Operand.tmp 1)), 3, none⟩,
   ⟨some 17, (Op.binOp BinOp.mul 3 (Operand.tmp 15) (Operand.tmp 16) 3), 3, none⟩,
   ⟨some 7, (Op.assign (Operand.tmp 17)), 3, none⟩]
def r20_5 : List VOp :=
  [⟨some 18, (Op.move (Operand.tmp 7)), 3, none⟩,
   ⟨some 19, (Op.move (Operand.tmp 0)), 3, none⟩,
   ⟨some 20, (Op.binOp BinOp.gtr 3 (Operand.tmp 18) (Operand.tmp 19) 3), 4, none⟩]
def r20_6 : List VOp :=
  [⟨some 21, (Op.move (Operand.tmp 7)), 3, none⟩,
   ⟨some 22, (Op.move (Operand.tmp 1)), 3, none⟩,
   ⟨some 23, (Op.binOp BinOp.sub 3 (Operand.tmp 21) (Operand.tmp 22) 3), 3, none⟩,
   ⟨some 7, (Op.assign (Operand.tmp 23)), 3, none⟩]
def r20_7 : List VOp :=
  [⟨some 24, (Op.move (Operand.tmp 7)), 3, none⟩,
   ⟨some 4, (Op.assign (Operand.tmp 24)), 3, none⟩,
   ⟨some 5, (Op.assign (Operand.const (Value.int IntKind.i64 0))), 23, none⟩]
def B20 : VC :=
  (.seq (.region r20_0) (.seq (.region r20_1) (.seq (.seq (.region r20_2) (.cond (Operand.tmp 12) (.seq (.region r20_3) .ret) .skip)) (.seq (.region r20_4) (.seq (.seq (.region r20_5) (.cond (Operand.tmp 20) (.region r20_6) .skip)) (.seq (.region r20_7) .ret))))))
theorem code20 : ∃ c, Try.f20.body = some c ∧ abs Try.f20.ntmps c = B20 := ⟨_, rfl, by kernel_rfl⟩
theorem hb20 : HasBody Try.prog 20 := hasBody_of Try.func20 (by kernel_rfl)
theorem res20 : Try.f20.results = #[(ResultVar.tmp 4), (ResultVar.tmp 5)] := rfl
theorem enter20 {w : World} {R : Value → World → Prop} (x0 x1 : Value) (h : vc Try.prog B20 (retK Try.prog #[(ResultVar.tmp 4), (ResultVar.tmp 5)] R) [] (initEnv [x0, x1] 0) w) : FnC Try.prog 20 #[x0, x1] w R := by
  obtain ⟨c, h1, h2⟩ := code20
  exact hb20.fn (ret_of_vc mixed Try.func20 h1 (Nat.le_of_ble_eq_true rfl) B20 h2 h)
@[push_cast] theorem vr20_0 (Q : Post) (ds : List Deferred) (σ : Env) (w : World) : vc Try.prog (.region r20_0) Q ds σ w = vcOps Try.prog [⟨some 4, (Op.assign (Operand.const (Value.int IntKind.i64 0))), 3, none⟩, ⟨some 5, (Op.assign (Operand.const (Value.int IntKind.i64 0))), 23, none⟩] (Q .normal ds) σ w := mk_eq rfl
@[push_cast] theorem vr20_1 (Q : Post) (ds : List Deferred) (σ : Env) (w : World) : vc Try.prog (.region r20_1) Q ds σ w = vcOps Try.prog [⟨some 8, (Op.move (Operand.tmp 0)), 3, none⟩, ⟨some 9, (Op.move (Operand.tmp 1)), 3, none⟩, ⟨some 10, (Op.call { callee := (Callee.value (Operand.func 36)), args := #[(Operand.tmp 8), (Operand.tmp 9)], argTypes := #[3, 3] }), 4, none⟩, ⟨some 6, (Op.assign (Operand.tmp 10)), 4, none⟩] (Q .normal ds) σ w := mk_eq rfl
@[push_cast] theorem vr20_2 (Q : Post) (ds : List Deferred) (σ : Env) (w : World) : vc Try.prog (.region r20_2) Q ds σ w = vcOps Try.prog [⟨some 11, (Op.move (Operand.tmp 6)), 4, none⟩, ⟨some 12, (Op.unOp UnOp.not 4 (Operand.tmp 11)), 4, none⟩] (Q .normal ds) σ w := mk_eq rfl
@[push_cast] theorem vr20_3 (Q : Post) (ds : List Deferred) (σ : Env) (w : World) : vc Try.prog (.region r20_3) Q ds σ w = vcOps Try.prog [⟨some 4, (Op.assign (Operand.const (Value.int IntKind.i64 0))), 3, none⟩, ⟨some 5, (Op.assign (Operand.const (Value.int IntKind.i64 111))), 23, none⟩] (Q .normal ds) σ w := mk_eq rfl
@[push_cast] theorem vr20_4 (Q : Post) (ds : List Deferred) (σ : Env) (w : World) : vc Try.prog (.region r20_4) Q ds σ w = vcOps Try.prog [⟨some 13, (Op.move (Operand.tmp 0)), 3, none⟩, ⟨some 14, (Op.move (Operand.tmp 1)), 3, none⟩, ⟨some 15, (Op.binOp BinOp.quo 3 (Operand.tmp 13) (Operand.tmp 14) 3), 3, none⟩, ⟨some 16, (Op.move (Operand.tmp 1)), 3, none⟩, ⟨some 17, (Op.binOp BinOp.mul 3 (Operand.tmp 15) (Operand.tmp 16) 3), 3, none⟩, ⟨some 7, (Op.assign (Operand.tmp 17)), 3, none⟩] (Q .normal ds) σ w := mk_eq rfl
@[push_cast] theorem vr20_5 (Q : Post) (ds : List Deferred) (σ : Env) (w : World) : vc Try.prog (.region r20_5) Q ds σ w = vcOps Try.prog [⟨some 18, (Op.move (Operand.tmp 7)), 3, none⟩, ⟨some 19, (Op.move (Operand.tmp 0)), 3, none⟩, ⟨some 20, (Op.binOp BinOp.gtr 3 (Operand.tmp 18) (Operand.tmp 19) 3), 4, none⟩] (Q .normal ds) σ w := mk_eq rfl
@[push_cast] theorem vr20_6 (Q : Post) (ds : List Deferred) (σ : Env) (w : World) : vc Try.prog (.region r20_6) Q ds σ w = vcOps Try.prog [⟨some 21, (Op.move (Operand.tmp 7)), 3, none⟩, ⟨some 22, (Op.move (Operand.tmp 1)), 3, none⟩, ⟨some 23, (Op.binOp BinOp.sub 3 (Operand.tmp 21) (Operand.tmp 22) 3), 3, none⟩, ⟨some 7, (Op.assign (Operand.tmp 23)), 3, none⟩] (Q .normal ds) σ w := mk_eq rfl
@[push_cast] theorem vr20_7 (Q : Post) (ds : List Deferred) (σ : Env) (w : World) : vc Try.prog (.region r20_7) Q ds σ w = vcOps Try.prog [⟨some 24, (Op.move (Operand.tmp 7)), 3, none⟩, ⟨some 4, (Op.assign (Operand.tmp 24)), 3, none⟩, ⟨some 5, (Op.assign (Operand.const (Value.int IntKind.i64 0))), 23, none⟩] (Q .normal ds) σ w := mk_eq rfl
/-! 21 columbary/columbaryref11.Ceil (params #[3, 3], results #[(ResultVar.tmp 4), (ResultVar.tmp 5)], 24 slots) -/
def r21_0 : List VOp :=
  [⟨some 4, (Op.assign (Operand.const (Value.int IntKind.i64 0))), 3, none⟩,
   ⟨some 5, (Op.assign (Operand.const (Value.int IntKind.i64 0))), 23, none⟩]
def r21_1 : List VOp :=
  [⟨some 9, (Op.move (Operand.tmp 0)), 3, none⟩,
   ⟨some 10, (Op.move (Operand.tmp 1)), 3, none⟩,
   ⟨some 11, (Op.call { callee := (Callee.value (Operand.func 20)), args := #[(Operand.tmp 9), (Operand.tmp 10)], argTypes := #[3, 3] }), 30, none⟩,
   ⟨some 8, (Op.move (Operand.tmp 11)), 30, none⟩,
   ⟨some 12, (Op.extract (Operand.tmp 8) 0), 3, none⟩,
   ⟨some 13, (Op.extract (Operand.tmp 8) 1), 23, none⟩,
   ⟨some 6, (Op.assign (Operand.tmp 12)), 3, none⟩,
   ⟨some 7, (Op.assign (Operand.tmp 13)), 23, none⟩]
def r21_2 : List VOp :=
  [⟨some 14, (Op.move (Operand.tmp 7)), 23, none⟩,
   ⟨some 15, (Op.binOp BinOp.neq 23 (Operand.tmp 14) (Operand.const (Value.int IntKind.i64 0)) 23), 4, none⟩]
def r21_3 : List VOp :=
  [⟨some 16, (Op.move (Operand.tmp 7)), 23, none⟩,
   ⟨some 4, (Op.assign (Operand.const (Value.int IntKind.i64 0))), 3, none⟩,
   ⟨some 5, (Op.assign (Operand.tmp 16)), 23, none⟩]
def r21_4 : List VOp :=
  [⟨some 17, (Op.move (Operand.tmp 6)), 3, none⟩,
   ⟨some 18, (Op.move (Operand.tmp 0)), 3, none⟩,
   ⟨some 19, (Op.binOp BinOp.lss 3 (Operand.tmp 17) (Operand.tmp 18) 3), 4, none⟩]
def r21_5 : List VOp :=
  [⟨some 20, (Op.move (Operand.tmp 6)), 3, none⟩,
   ⟨some 21, (Op.move (Operand.tmp 1)), 3, none⟩,
   ⟨some 22, (Op.binOp BinOp.add 3 (Operand.tmp 20) (Operand.tmp 21) 3), 3, none⟩,
   ⟨some 6, (Op.assign (Operand.tmp 22)), 3, none⟩]
def r21_6 : List VOp :=
  [⟨some 23, (Op.move (Operand.tmp 6)), 3, none⟩,
   ⟨some 4, (Op.assign (Operand.tmp 23)), 3, none⟩,
   ⟨some 5, (Op.assign (Operand.const (Value.int IntKind.i64 0))), 23, none⟩]
def B21 : VC :=
  (.seq (.region r21_0) (.seq (.region r21_1) (.seq (.seq (.region r21_2) (.cond (Operand.tmp 15) (.seq (.region r21_3) .ret) .skip)) (.seq (.seq (.region r21_4) (.cond (Operand.tmp 19) (.region r21_5) .skip)) (.seq (.region r21_6) .ret)))))
theorem code21 : ∃ c, Try.f21.body = some c ∧ abs Try.f21.ntmps c = B21 := ⟨_, rfl, by kernel_rfl⟩
theorem hb21 : HasBody Try.prog 21 := hasBody_of Try.func21 (by kernel_rfl)
theorem res21 : Try.f21.results = #[(ResultVar.tmp 4), (ResultVar.tmp 5)] := rfl
theorem enter21 {w : World} {R : Value → World → Prop} (x0 x1 : Value) (h : vc Try.prog B21 (retK Try.prog #[(ResultVar.tmp 4), (ResultVar.tmp 5)] R) [] (initEnv [x0, x1] 0) w) : FnC Try.prog 21 #[x0, x1] w R := by
  obtain ⟨c, h1, h2⟩ := code21
  exact hb21.fn (ret_of_vc mixed Try.func21 h1 (Nat.le_of_ble_eq_true rfl) B21 h2 h)
@[push_cast] theorem vr21_0 (Q : Post) (ds : List Deferred) (σ : Env) (w : World) : vc Try.prog (.region r21_0) Q ds σ w = vcOps Try.prog [⟨some 4, (Op.assign (Operand.const (Value.int IntKind.i64 0))), 3, none⟩, ⟨some 5, (Op.assign (Operand.const (Value.int IntKind.i64 0))), 23, none⟩] (Q .normal ds) σ w := mk_eq rfl
@[push_cast] theorem vr21_1 (Q : Post) (ds : List Deferred) (σ : Env) (w : World) : vc Try.prog (.region r21_1) Q ds σ w = vcOps Try.prog [⟨some 9, (Op.move (Operand.tmp 0)), 3, none⟩, ⟨some 10, (Op.move (Operand.tmp 1)), 3, none⟩, ⟨some 11, (Op.call { callee := (Callee.value (Operand.func 20)), args := #[(Operand.tmp 9), (Operand.tmp 10)], argTypes := #[3, 3] }), 30, none⟩, ⟨some 8, (Op.move (Operand.tmp 11)), 30, none⟩, ⟨some 12, (Op.extract (Operand.tmp 8) 0), 3, none⟩, ⟨some 13, (Op.extract (Operand.tmp 8) 1), 23, none⟩, ⟨some 6, (Op.assign (Operand.tmp 12)), 3, none⟩, ⟨some 7, (Op.assign (Operand.tmp 13)), 23, none⟩] (Q .normal ds) σ w := mk_eq rfl
@[push_cast] theorem vr21_2 (Q : Post) (ds : List Deferred) (σ : Env) (w : World) : vc Try.prog (.region r21_2) Q ds σ w = vcOps Try.prog [⟨some 14, (Op.move (Operand.tmp 7)), 23, none⟩, ⟨some 15, (Op.binOp BinOp.neq 23 (Operand.tmp 14) (Operand.const (Value.int IntKind.i64 0)) 23), 4, none⟩] (Q .normal ds) σ w := mk_eq rfl
@[push_cast] theorem vr21_3 (Q : Post) (ds : List Deferred) (σ : Env) (w : World) : vc Try.prog (.region r21_3) Q ds σ w = vcOps Try.prog [⟨some 16, (Op.move (Operand.tmp 7)), 23, none⟩, ⟨some 4, (Op.assign (Operand.const (Value.int IntKind.i64 0))), 3, none⟩, ⟨some 5, (Op.assign (Operand.tmp 16)), 23, none⟩] (Q .normal ds) σ w := mk_eq rfl
@[push_cast] theorem vr21_4 (Q : Post) (ds : List Deferred) (σ : Env) (w : World) : vc Try.prog (.region r21_4) Q ds σ w = vcOps Try.prog [⟨some 17, (Op.move (Operand.tmp 6)), 3, none⟩, ⟨some 18, (Op.move (Operand.tmp 0)), 3, none⟩, ⟨some 19, (Op.binOp BinOp.lss 3 (Operand.tmp 17) (Operand.tmp 18) 3), 4, none⟩] (Q .normal ds) σ w := mk_eq rfl
@[push_cast] theorem vr21_5 (Q : Post) (ds : List Deferred) (σ : Env) (w : World) : vc Try.prog (.region r21_5) Q ds σ w = vcOps Try.prog [⟨some 20, (Op.move (Operand.tmp 6)), 3, none⟩, ⟨some 21, (Op.move (Operand.tmp 1)), 3, none⟩, ⟨some 22, (Op.binOp BinOp.add 3 (Operand.tmp 20) (Operand.tmp 21) 3), 3, none⟩, ⟨some 6, (Op.assign (Operand.tmp 22)), 3, none⟩] (Q .normal ds) σ w := mk_eq rfl
@[push_cast] theorem vr21_6 (Q : Post) (ds : List Deferred) (σ : Env) (w : World) : vc Try.prog (.region r21_6) Q ds σ w = vcOps Try.prog [⟨some 23, (Op.move (Operand.tmp 6)), 3, none⟩, ⟨some 4, (Op.assign (Operand.tmp 23)), 3, none⟩, ⟨some 5, (Op.assign (Operand.const (Value.int IntKind.i64 0))), 23, none⟩] (Q .normal ds) σ w := mk_eq rfl
/-! 22 columbary/bucket.Aligned (params #[3, 3], results #[(ResultVar.tmp 4)], 13 slots) -/
def r22_0 : List VOp :=
  [⟨some 4, (Op.assign (Operand.const (Value.bool false))), 4, none⟩]
def r22_1 : List VOp :=
  [⟨some 5, (Op.move (Operand.tmp 1)), 3, none⟩,
   ⟨some 6, (Op.call { callee := (Callee.value (Operand.func 17)), args := #[(Operand.tmp 5)], argTypes := #[3] }), 4, none⟩,
   ⟨some 7, (Op.move (Operand.tmp 6)), 4, none⟩,
   ⟨some 8, (Op.move (Operand.tmp 0)), 3, some (7, true)⟩,
   ⟨some 9, (Op.move (Operand.tmp 1)), 3, some (7, true)⟩,
   ⟨some 10, (Op.binOp BinOp.rem 3 (Operand.tmp 8) (Operand.tmp 9) 3), 3, some (7, true)⟩,
   ⟨some 11, (Op.binOp BinOp.eql 3 (Operand.tmp 10) (Operand.const (Value.int IntKind.i64 0)) 3), 4, some (7, true)⟩,
   ⟨some 12, (Op.pick (Operand.tmp 7) (Operand.tmp 11) (Operand.const (Value.bool false))), 4, none⟩,
   ⟨some 4, (Op.assign (Operand.tmp 12)), 4, none⟩]
def B22 : VC :=
  (.seq (.region r22_0) (.seq (.region r22_1) .ret))
theorem code22 : ∃ c, Try.f22.body = some c ∧ abs Try.f22.ntmps c = B22 := ⟨_, rfl, by kernel_rfl⟩
theorem hb22 : HasBody Try.prog 22 := hasBody_of Try.func22 (by kernel_rfl)
theorem res22 : Try.f22.results = #[(ResultVar.tmp 4)] := rfl
theorem enter22 {w : World} {R : Value → World → Prop} (x0 x1 : Value) (h : vc Try.prog B22 (retK Try.prog #[(ResultVar.tmp 4)] R) [] (initEnv [x0, x1] 0) w) : FnC Try.prog 22 #[x0, x1] w R := by
  obtain ⟨c, h1, h2⟩ := code22
  exact hb22.fn (ret_of_vc mixed Try.func22 h1 (Nat.le_of_ble_eq_true rfl) B22 h2 h)
@[push_cast] theorem vr22_0 (Q : Post) (ds : List Deferred) (σ : Env) (w : World) : vc Try.prog (.region r22_0) Q ds σ w = vcOps Try.prog [⟨some 4, (Op.assign (Operand.const (Value.bool false))), 4, none⟩] (Q .normal ds) σ w := mk_eq rfl
@[push_cast] theorem vr22_1 (Q : Post) (ds : List Deferred) (σ : Env) (w : World) : vc Try.prog (.region r22_1) Q ds σ w = vcOps Try.prog [⟨some 5, (Op.move (Operand.tmp 1)), 3, none⟩, ⟨some 6, (Op.call { callee := (Callee.value (Operand.func 17)), args := #[(Operand.tmp 5)], argTypes := #[3] }), 4, none⟩, ⟨some 7, (Op.move (Operand.tmp 6)), 4, none⟩, ⟨some 8, (Op.move (Operand.tmp 0)), 3, some (7, true)⟩, ⟨some 9, (Op.move (Operand.tmp 1)), 3, some (7, true)⟩, ⟨some 10, (Op.binOp BinOp.rem 3 (Operand.tmp 8) (Operand.tmp 9) 3), 3, some (7, true)⟩, ⟨some 11, (Op.binOp BinOp.eql 3 (Operand.tmp 10) (Operand.const (Value.int IntKind.i64 0)) 3), 4, some (7, true)⟩, ⟨some 12, (Op.pick (Operand.tmp 7) (Operand.tmp 11) (Operand.const (Value.bool false))), 4, none⟩, ⟨some 4, (Op.assign (Operand.tmp 12)), 4, none⟩] (Q .normal ds) σ w := mk_eq rfl
/-! 23 columbary/columbaryref11.Aligned (params #[3, 3], results #[(ResultVar.tmp 4)], 15 slots) -/
def r23_0 : List VOp :=
  [⟨some 4, (Op.assign (Operand.const (Value.bool false))), 4, none⟩]
def r23_1 : List VOp :=
  [⟨some 6, (Op.move (Operand.tmp 1)), 3, none⟩,
   ⟨some 7, (Op.call { callee := (Callee.value (Operand.func 26)), args := #[(Operand.tmp 6)], argTypes := #[3] }), 4, none⟩,
   ⟨some 5, (Op.assign (Operand.tmp 7)), 4, none⟩]
def r23_2 : List VOp :=
  [⟨some 8, (Op.move (Operand.tmp 5)), 4, none⟩,
   ⟨some 9, (Op.move (Operand.tmp 8)), 4, none⟩,
   ⟨some 10, (Op.move (Operand.tmp 0)), 3, some (9, true)⟩,
   ⟨some 11, (Op.move (Operand.tmp 1)), 3, some (9, true)⟩,
   ⟨some 12, (Op.binOp BinOp.rem 3 (Operand.tmp 10) (Operand.tmp 11) 3), 3, some (9, true)⟩,
   ⟨some 13, (Op.binOp BinOp.eql 3 (Operand.tmp 12) (Operand.const (Value.int IntKind.i64 0)) 3), 4, some (9, true)⟩,
   ⟨some 14, (Op.pick (Operand.tmp 9) (Operand.tmp 13) (Operand.const (Value.bool false))), 4, none⟩,
   ⟨some 4, (Op.assign (Operand.tmp 14)), 4, none⟩]
def B23 : VC :=
  (.seq (.region r23_0) (.seq (.region r23_1) (.seq (.region r23_2) .ret)))
theorem code23 : ∃ c, Try.f23.body = some c ∧ abs Try.f23.ntmps c = B23 := ⟨_, rfl, by kernel_rfl⟩
theorem hb23 : HasBody Try.prog 23 := hasBody_of Try.func23 (by kernel_rfl)
theorem res23 : Try.f23.results = #[(ResultVar.tmp 4)] := rfl
theorem enter23 {w : World} {R : Value → World → Prop} (x0 x1 : Value) (h : vc Try.prog B23 (retK Try.prog #[(ResultVar.tmp 4)] R) [] (initEnv [x0, x1] 0) w) : FnC Try.prog 23 #[x0, x1] w R := by
  obtain ⟨c, h1, h2⟩ := code23
  exact hb23.fn (ret_of_vc mixed Try.func23 h1 (Nat.le_of_ble_eq_true rfl) B23 h2 h)
@[push_cast] theorem vr23_0 (Q : Post) (ds : List Deferred) (σ : Env) (w : World) : vc Try.prog (.region r23_0) Q ds σ w = vcOps Try.prog [⟨some 4, (Op.assign (Operand.const (Value.bool false))), 4, none⟩] (Q .normal ds) σ w := mk_eq rfl
@[push_cast] theorem vr23_1 (Q : Post) (ds : List Deferred) (σ : Env) (w : World) : vc Try.prog (.region r23_1) Q ds σ w = vcOps Try.prog [⟨some 6, (Op.move (Operand.tmp 1)), 3, none⟩, ⟨some 7, (Op.call { callee := (Callee.value (Operand.func 26)), args := #[(Operand.tmp 6)], argTypes := #[3] }), 4, none⟩, ⟨some 5, (Op.assign (Operand.tmp 7)), 4, none⟩] (Q .normal ds) σ w := mk_eq rfl
@[push_cast] theorem vr23_2 (Q : Post) (ds : List Deferred) (σ : Env) (w : World) : vc Try.prog (.region r23_2) Q ds σ w = vcOps Try.prog [⟨some 8, (Op.move (Operand.tmp 5)), 4, none⟩, ⟨some 9, (Op.move (Operand.tmp 8)), 4, none⟩, ⟨some 10, (Op.move (Operand.tmp 0)), 3, some (9, true)⟩, ⟨some 11, (Op.move (Operand.tmp 1)), 3, some (9, true)⟩, ⟨some 12, (Op.binOp BinOp.rem 3 (Operand.tmp 10) (Operand.tmp 11) 3), 3, some (9, true)⟩, ⟨some 13, (Op.binOp BinOp.eql 3 (Operand.tmp 12) (Operand.const (Value.int IntKind.i64 0)) 3), 4, some (9, true)⟩, ⟨some 14, (Op.pick (Operand.tmp 9) (Operand.tmp 13) (Operand.const (Value.bool false))), 4, none⟩, ⟨some 4, (Op.assign (Operand.tmp 14)), 4, none⟩] (Q .normal ds) σ w := mk_eq rfl
/-! 24 columbary/bucket.Coarser (params #[3, 3], results #[(ResultVar.tmp 4)], 17 slots) -/
def r24_0 : List VOp :=
  [⟨some 4, (Op.assign (Operand.const (Value.bool false))), 4, none⟩]
def r24_1 : List VOp :=
  [⟨some 5, (Op.move (Operand.tmp 0)), 3, none⟩,
   ⟨some 6, (Op.call { callee := (Callee.value (Operand.func 17)), args := #[(Operand.tmp 5)], argTypes := #[3] }), 4, none⟩,
   ⟨some 7, (Op.move (Operand.tmp 6)), 4, none⟩,
   ⟨some 8, (Op.move (Operand.tmp 1)), 3, some (7, true)⟩,
   ⟨some 9, (Op.call { callee := (Callee.value (Operand.func 17)), args := #[(Operand.tmp 8)], argTypes := #[3] }), 4, some (7, true)⟩,
   ⟨some 10, (Op.pick (Operand.tmp 7) (Operand.tmp 9) (Operand.const (Value.bool false))), 4, none⟩,
   ⟨some 11, (Op.move (Operand.tmp 10)), 4, none⟩,
   ⟨some 12, (Op.move (Operand.tmp 0)), 3, some (11, true)⟩,
   ⟨some 13, (Op.move (Operand.tmp 1)), 3, some (11, true)⟩,
   ⟨some 14, (Op.binOp BinOp.rem 3 (Operand.tmp 12) (Operand.tmp 13) 3), 3, some (11, true)⟩,
   ⟨some 15, (Op.binOp BinOp.eql 3 (Operand.tmp 14) (Operand.const (Value.int IntKind.i64 0)) 3), 4, some (11, true)⟩,
   ⟨some 16, (Op.pick (Operand.tmp 11) (Operand.tmp 15) (Operand.const (Value.bool false))), 4, none⟩,
   ⟨some 4, (Op.assign (Operand.tmp 16)), 4, none⟩]
def B24 : VC :=
  (.seq (.region r24_0) (.seq (.region r24_1) .ret))
theorem code24 : ∃ c, Try.f24.body = some c ∧ abs Try.f24.ntmps c = B24 := ⟨_, rfl, by kernel_rfl⟩
theorem hb24 : HasBody Try.prog 24 := hasBody_of Try.func24 (by kernel_rfl)
theorem res24 : Try.f24.results = #[(ResultVar.tmp 4)] := rfl
theorem enter24 {w : World} {R : Value → World → Prop} (x0 x1 : Value) (h : vc Try.prog B24 (retK Try.prog #[(ResultVar.tmp 4)] R) [] (initEnv [x0, x1] 0) w) : FnC Try.prog 24 #[x0, x1] w R := by
  obtain ⟨c, h1, h2⟩ := code24
  exact hb24.fn (ret_of_vc mixed Try.func24 h1 (Nat.le_of_ble_eq_true rfl) B24 h2 h)
@[push_cast] theorem vr24_0 (Q : Post) (ds : List Deferred) (σ : Env) (w : World) : vc Try.prog (.region r24_0) Q ds σ w = vcOps Try.prog [⟨some 4, (Op.assign (Operand.const (Value.bool false))), 4, none⟩] (Q .normal ds) σ w := mk_eq rfl
@[push_cast] theorem vr24_1 (Q : Post) (ds : List Deferred) (σ : Env) (w : World) : vc Try.prog (.region r24_1) Q ds σ w = vcOps Try.prog [⟨some 5, (Op.move (Operand.tmp 0)), 3, none⟩, ⟨some 6, (Op.call { callee := (Callee.value (Operand.func 17)), args := #[(Operand.tmp 5)], argTypes := #[3] }), 4, none⟩, ⟨some 7, (Op.move (Operand.tmp 6)), 4, none⟩, ⟨some 8, (Op.move (Operand.tmp 1)), 3, some (7, true)⟩, ⟨some 9, (Op.call { callee := (Callee.value (Operand.func 17)), args := #[(Operand.tmp 8)], argTypes := #[3] }), 4, some (7, true)⟩, ⟨some 10, (Op.pick (Operand.tmp 7) (Operand.tmp 9) (Operand.const (Value.bool false))), 4, none⟩, ⟨some 11, (Op.move (Operand.tmp 10)), 4, none⟩, ⟨some 12, (Op.move (Operand.tmp 0)), 3, some (11, true)⟩, ⟨some 13, (Op.move (Operand.tmp 1)), 3, some (11, true)⟩, ⟨some 14, (Op.binOp BinOp.rem 3 (Operand.tmp 12) (Operand.tmp 13) 3), 3, some (11, true)⟩, ⟨some 15, (Op.binOp BinOp.eql 3 (Operand.tmp 14) (Operand.const (Value.int IntKind.i64 0)) 3), 4, some (11, true)⟩, ⟨some 16, (Op.pick (Operand.tmp 11) (Operand.tmp 15) (Operand.const (Value.bool false))), 4, none⟩, ⟨some 4, (Op.assign (Operand.tmp 16)), 4, none⟩] (Q .normal ds) σ w := mk_eq rfl
/-! 25 columbary/columbaryref11.Coarser (params #[3, 3], results #[(ResultVar.tmp 4)], 21 slots) -/
def r25_0 : List VOp :=
  [⟨some 4, (Op.assign (Operand.const (Value.bool false))), 4, none⟩]
def r25_1 : List VOp :=
  [⟨some 7, (Op.move (Operand.tmp 0)), 3, none⟩,
   ⟨some 8, (Op.call { callee := (Callee.value (Operand.func 26)), args := #[(Operand.tmp 7)], argTypes := #[3] }), 4, none⟩,
   ⟨some 5, (Op.assign (Operand.tmp 8)), 4, none⟩]
def r25_2 : List VOp :=
  [⟨some 9, (Op.move (Operand.tmp 1)), 3, none⟩,
   ⟨some 10, (Op.call { callee := (Callee.value (Operand.func 26)), args := #[(Operand.tmp 9)], argTypes := #[3] }), 4, none⟩,
   ⟨some 6, (Op.assign (Operand.tmp 10)), 4, none⟩]
def r25_3 : List VOp :=
  [⟨some 11, (Op.move (Operand.tmp 5)), 4, none⟩,
   ⟨some 12, (Op.move (Operand.tmp 11)), 4, none⟩,
   ⟨some 13, (Op.move (Operand.tmp 6)), 4, some (12, true)⟩,
   ⟨some 14, (Op.pick (Operand.tmp 12) (Operand.tmp 13) (Operand.const (Value.bool false))), 4, none⟩,
   ⟨some 15, (Op.move (Operand.tmp 14)), 4, none⟩,
   ⟨some 16, (Op.move (Operand.tmp 0)), 3, some (15, true)⟩,
   ⟨some 17, (Op.move (Operand.tmp 1)), 3, some (15, true)⟩,
   ⟨some 18, (Op.binOp BinOp.rem 3 (Operand.tmp 16) (Operand.tmp 17) 3), 3, some (15, true)⟩,
   ⟨some 19, (Op.binOp BinOp.eql 3 (Operand.tmp 18) (Operand.const (Value.int IntKind.i64 0)) 3), 4, some (15, true)⟩,
   ⟨some 20, (Op.pick (Operand.tmp 15) (Operand.tmp 19) (Operand.const (Value.bool false))), 4, none⟩,
   ⟨some 4, (Op.assign (Operand.tmp 20)), 4, none⟩]
def B25 : VC :=
  (.seq (.region r25_0) (.seq (.region r25_1) (.seq (.region r25_2) (.seq (.region r25_3) .ret))))
theorem code25 : ∃ c, Try.f25.body = some c ∧ abs Try.f25.ntmps c = B25 := ⟨_, rfl, by kernel_rfl⟩
theorem hb25 : HasBody Try.prog 25 := hasBody_of Try.func25 (by kernel_rfl)
theorem res25 : Try.f25.results = #[(ResultVar.tmp 4)] := rfl
theorem enter25 {w : World} {R : Value → World → Prop} (x0 x1 : Value) (h : vc Try.prog B25 (retK Try.prog #[(ResultVar.tmp 4)] R) [] (initEnv [x0, x1] 0) w) : FnC Try.prog 25 #[x0, x1] w R := by
  obtain ⟨c, h1, h2⟩ := code25
  exact hb25.fn (ret_of_vc mixed Try.func25 h1 (Nat.le_of_ble_eq_true rfl) B25 h2 h)
@[push_cast] theorem vr25_0 (Q : Post) (ds : List Deferred) (σ : Env) (w : World) : vc Try.prog (.region r25_0) Q ds σ w = vcOps Try.prog [⟨some 4, (Op.assign (Operand.const (Value.bool false))), 4, none⟩] (Q .normal ds) σ w := mk_eq rfl
@[push_cast] theorem vr25_1 (Q : Post) (ds : List Deferred) (σ : Env) (w : World) : vc Try.prog (.region r25_1) Q ds σ w = vcOps Try.prog [⟨some 7, (Op.move (Operand.tmp 0)), 3, none⟩, ⟨some 8, (Op.call { callee := (Callee.value (Operand.func 26)), args := #[(Operand.tmp 7)], argTypes := #[3] }), 4, none⟩, ⟨some 5, (Op.assign (Operand.tmp 8)), 4, none⟩] (Q .normal ds) σ w := mk_eq rfl
@[push_cast] theorem vr25_2 (Q : Post) (ds : List Deferred) (σ : Env) (w : World) : vc Try.prog (.region r25_2) Q ds σ w = vcOps Try.prog [⟨some 9, (Op.move (Operand.tmp 1)), 3, none⟩, ⟨some 10, (Op.call { callee := (Callee.value (Operand.func 26)), args := #[(Operand.tmp 9)], argTypes := #[3] }), 4, none⟩, ⟨some 6, (Op.assign (Operand.tmp 10)), 4, none⟩] (Q .normal ds) σ w := mk_eq rfl
@[push_cast] theorem vr25_3 (Q : Post) (ds : List Deferred) (σ : Env) (w : World) : vc Try.prog (.region r25_3) Q ds σ w = vcOps Try.prog [⟨some 11, (Op.move (Operand.tmp 5)), 4, none⟩, ⟨some 12, (Op.move (Operand.tmp 11)), 4, none⟩, ⟨some 13, (Op.move (Operand.tmp 6)), 4, some (12, true)⟩, ⟨some 14, (Op.pick (Operand.tmp 12) (Operand.tmp 13) (Operand.const (Value.bool false))), 4, none⟩, ⟨some 15, (Op.move (Operand.tmp 14)), 4, none⟩, ⟨some 16, (Op.move (Operand.tmp 0)), 3, some (15, true)⟩, ⟨some 17, (Op.move (Operand.tmp 1)), 3, some (15, true)⟩, ⟨some 18, (Op.binOp BinOp.rem 3 (Operand.tmp 16) (Operand.tmp 17) 3), 3, some (15, true)⟩, ⟨some 19, (Op.binOp BinOp.eql 3 (Operand.tmp 18) (Operand.const (Value.int IntKind.i64 0)) 3), 4, some (15, true)⟩, ⟨some 20, (Op.pick (Operand.tmp 15) (Operand.tmp 19) (Operand.const (Value.bool false))), 4, none⟩, ⟨some 4, (Op.assign (Operand.tmp 20)), 4, none⟩] (Q .normal ds) σ w := mk_eq rfl
/-! 26 columbary/columbaryref11.Right (params #[3], results #[(ResultVar.tmp 2)], 9 slots) -/
def r26_0 : List VOp :=
  [⟨some 2, (Op.assign (Operand.const (Value.bool false))), 4, none⟩]
def r26_1 : List VOp :=
  [⟨some 3, (Op.move (Operand.tmp 0)), 3, none⟩,
   ⟨some 4, (Op.binOp BinOp.geq 3 (Operand.tmp 3) (Operand.const (Value.int IntKind.i64 1)) 3), 4, none⟩,
   ⟨some 5, (Op.move (Operand.tmp 4)), 4, none⟩,
   ⟨some 6, (Op.move (Operand.tmp 0)), 3, some (5, true)⟩,
   ⟨some 7, (Op.binOp BinOp.leq 3 (Operand.tmp 6) (Operand.const (Value.int IntKind.i64 1048576)) 3), 4, some (5, true)⟩,
   ⟨some 8, (Op.pick (Operand.tmp 5) (Operand.tmp 7) (Operand.const (Value.bool false))), 4, none⟩,
   ⟨some 2, (Op.assign (Operand.tmp 8)), 4, none⟩]
def B26 : VC :=
  (.seq (.region r26_0) (.seq (.region r26_1) .ret))
theorem code26 : ∃ c, Try.f26.body = some c ∧ abs Try.f26.ntmps c = B26 := ⟨_, rfl, by kernel_rfl⟩
theorem hb26 : HasBody Try.prog 26 := hasBody_of Try.func26 (by kernel_rfl)
theorem res26 : Try.f26.results = #[(ResultVar.tmp 2)] := rfl
theorem enter26 {w : World} {R : Value → World → Prop} (x0 : Value) (h : vc Try.prog B26 (retK Try.prog #[(ResultVar.tmp 2)] R) [] (initEnv [x0] 0) w) : FnC Try.prog 26 #[x0] w R := by
  obtain ⟨c, h1, h2⟩ := code26
  exact hb26.fn (ret_of_vc mixed Try.func26 h1 (Nat.le_of_ble_eq_true rfl) B26 h2 h)
@[push_cast] theorem vr26_0 (Q : Post) (ds : List Deferred) (σ : Env) (w : World) : vc Try.prog (.region r26_0) Q ds σ w = vcOps Try.prog [⟨some 2, (Op.assign (Operand.const (Value.bool false))), 4, none⟩] (Q .normal ds) σ w := mk_eq rfl
@[push_cast] theorem vr26_1 (Q : Post) (ds : List Deferred) (σ : Env) (w : World) : vc Try.prog (.region r26_1) Q ds σ w = vcOps Try.prog [⟨some 3, (Op.move (Operand.tmp 0)), 3, none⟩, ⟨some 4, (Op.binOp BinOp.geq 3 (Operand.tmp 3) (Operand.const (Value.int IntKind.i64 1)) 3), 4, none⟩, ⟨some 5, (Op.move (Operand.tmp 4)), 4, none⟩, ⟨some 6, (Op.move (Operand.tmp 0)), 3, some (5, true)⟩, ⟨some 7, (Op.binOp BinOp.leq 3 (Operand.tmp 6) (Operand.const (Value.int IntKind.i64 1048576)) 3), 4, some (5, true)⟩, ⟨some 8, (Op.pick (Operand.tmp 5) (Operand.tmp 7) (Operand.const (Value.bool false))), 4, none⟩, ⟨some 2, (Op.assign (Operand.tmp 8)), 4, none⟩] (Q .normal ds) σ w := mk_eq rfl
/-! 34 columbary/bucket.fits (params #[3], results #[(ResultVar.tmp 2)], 9 slots) -/
def r34_0 : List VOp :=
  [⟨some 2, (Op.assign (Operand.const (Value.bool false))), 4, none⟩]
def r34_1 : List VOp :=
  [⟨some 3, (Op.move (Operand.tmp 0)), 3, none⟩,
   ⟨some 4, (Op.binOp BinOp.geq 3 (Operand.tmp 3) (Operand.const (Value.int IntKind.i64 (-1099511627776))) 3), 4, none⟩,
   ⟨some 5, (Op.move (Operand.tmp 4)), 4, none⟩,
   ⟨some 6, (Op.move (Operand.tmp 0)), 3, some (5, true)⟩,
   ⟨some 7, (Op.binOp BinOp.leq 3 (Operand.tmp 6) (Operand.const (Value.int IntKind.i64 1099511627776)) 3), 4, some (5, true)⟩,
   ⟨some 8, (Op.pick (Operand.tmp 5) (Operand.tmp 7) (Operand.const (Value.bool false))), 4, none⟩,
   ⟨some 2, (Op.assign (Operand.tmp 8)), 4, none⟩]
def B34 : VC :=
  (.seq (.region r34_0) (.seq (.region r34_1) .ret))
theorem code34 : ∃ c, Try.f34.body = some c ∧ abs Try.f34.ntmps c = B34 := ⟨_, rfl, by kernel_rfl⟩
theorem hb34 : HasBody Try.prog 34 := hasBody_of Try.func34 (by kernel_rfl)
theorem res34 : Try.f34.results = #[(ResultVar.tmp 2)] := rfl
theorem enter34 {w : World} {R : Value → World → Prop} (x0 : Value) (h : vc Try.prog B34 (retK Try.prog #[(ResultVar.tmp 2)] R) [] (initEnv [x0] 0) w) : FnC Try.prog 34 #[x0] w R := by
  obtain ⟨c, h1, h2⟩ := code34
  exact hb34.fn (ret_of_vc mixed Try.func34 h1 (Nat.le_of_ble_eq_true rfl) B34 h2 h)
@[push_cast] theorem vr34_0 (Q : Post) (ds : List Deferred) (σ : Env) (w : World) : vc Try.prog (.region r34_0) Q ds σ w = vcOps Try.prog [⟨some 2, (Op.assign (Operand.const (Value.bool false))), 4, none⟩] (Q .normal ds) σ w := mk_eq rfl
@[push_cast] theorem vr34_1 (Q : Post) (ds : List Deferred) (σ : Env) (w : World) : vc Try.prog (.region r34_1) Q ds σ w = vcOps Try.prog [⟨some 3, (Op.move (Operand.tmp 0)), 3, none⟩, ⟨some 4, (Op.binOp BinOp.geq 3 (Operand.tmp 3) (Operand.const (Value.int IntKind.i64 (-1099511627776))) 3), 4, none⟩, ⟨some 5, (Op.move (Operand.tmp 4)), 4, none⟩, ⟨some 6, (Op.move (Operand.tmp 0)), 3, some (5, true)⟩, ⟨some 7, (Op.binOp BinOp.leq 3 (Operand.tmp 6) (Operand.const (Value.int IntKind.i64 1099511627776)) 3), 4, some (5, true)⟩, ⟨some 8, (Op.pick (Operand.tmp 5) (Operand.tmp 7) (Operand.const (Value.bool false))), 4, none⟩, ⟨some 2, (Op.assign (Operand.tmp 8)), 4, none⟩] (Q .normal ds) σ w := mk_eq rfl
/-! 35 columbary/bucket.stretches (params #[3, 3, 3], results #[(ResultVar.tmp 6)], 8 slots) -/
def r35_0 : List VOp :=
  [⟨some 3, (Op.box 3 (Operand.tmp 0)), 0, none⟩,
   ⟨some 4, (Op.box 3 (Operand.tmp 1)), 0, none⟩,
   ⟨some 5, (Op.box 3 (Operand.tmp 2)), 0, none⟩,
   ⟨some 6, (Op.assign (Operand.const Value.nilFunc)), 51, none⟩]
def r35_1 : List VOp :=
  [⟨some 7, (Op.makeFunc (Fn.func 62) #[] #[(Operand.tmp 3), (Operand.tmp 4), (Operand.tmp 5)]), 50, none⟩,
   ⟨some 6, (Op.assign (Operand.tmp 7)), 51, none⟩]
def B35 : VC :=
  (.seq (.region r35_0) (.seq (.region r35_1) .ret))
theorem code35 : ∃ c, Try.f35.body = some c ∧ abs Try.f35.ntmps c = B35 := ⟨_, rfl, by kernel_rfl⟩
theorem hb35 : HasBody Try.prog 35 := hasBody_of Try.func35 (by kernel_rfl)
theorem res35 : Try.f35.results = #[(ResultVar.tmp 6)] := rfl
theorem enter35 {w : World} {R : Value → World → Prop} (x0 x1 x2 : Value) (h : vc Try.prog B35 (retK Try.prog #[(ResultVar.tmp 6)] R) [] (initEnv [x0, x1, x2] 0) w) : FnC Try.prog 35 #[x0, x1, x2] w R := by
  obtain ⟨c, h1, h2⟩ := code35
  exact hb35.fn (ret_of_vc mixed Try.func35 h1 (Nat.le_of_ble_eq_true rfl) B35 h2 h)
@[push_cast] theorem vr35_0 (Q : Post) (ds : List Deferred) (σ : Env) (w : World) : vc Try.prog (.region r35_0) Q ds σ w = vcOps Try.prog [⟨some 3, (Op.box 3 (Operand.tmp 0)), 0, none⟩, ⟨some 4, (Op.box 3 (Operand.tmp 1)), 0, none⟩, ⟨some 5, (Op.box 3 (Operand.tmp 2)), 0, none⟩, ⟨some 6, (Op.assign (Operand.const Value.nilFunc)), 51, none⟩] (Q .normal ds) σ w := mk_eq rfl
@[push_cast] theorem vr35_1 (Q : Post) (ds : List Deferred) (σ : Env) (w : World) : vc Try.prog (.region r35_1) Q ds σ w = vcOps Try.prog [⟨some 7, (Op.makeFunc (Fn.func 62) #[] #[(Operand.tmp 3), (Operand.tmp 4), (Operand.tmp 5)]), 50, none⟩, ⟨some 6, (Op.assign (Operand.tmp 7)), 51, none⟩] (Q .normal ds) σ w := mk_eq rfl
/-! 36 columbary/columbaryref11.fits (params #[3, 3], results #[(ResultVar.tmp 4)], 17 slots) -/
def r36_0 : List VOp :=
  [⟨some 4, (Op.assign (Operand.const (Value.bool false))), 4, none⟩]
def r36_1 : List VOp :=
  [⟨some 6, (Op.move (Operand.tmp 1)), 3, none⟩,
   ⟨some 7, (Op.call { callee := (Callee.value (Operand.func 26)), args := #[(Operand.tmp 6)], argTypes := #[3] }), 4, none⟩,
   ⟨some 5, (Op.assign (Operand.tmp 7)), 4, none⟩]
def r36_2 : List VOp :=
  [⟨some 8, (Op.move (Operand.tmp 5)), 4, none⟩,
   ⟨some 9, (Op.move (Operand.tmp 8)), 4, none⟩,
   ⟨some 10, (Op.move (Operand.tmp 0)), 3, some (9, true)⟩,
   ⟨some 11, (Op.binOp BinOp.geq 3 (Operand.tmp 10) (Operand.const (Value.int IntKind.i64 (-1099511627776))) 3), 4, some (9, true)⟩,
   ⟨some 12, (Op.pick (Operand.tmp 9) (Operand.tmp 11) (Operand.const (Value.bool false))), 4, none⟩,
   ⟨some 13, (Op.move (Operand.tmp 12)), 4, none⟩,
   ⟨some 14, (Op.move (Operand.tmp 0)), 3, some (13, true)⟩,
   ⟨some 15, (Op.binOp BinOp.leq 3 (Operand.tmp 14) (Operand.const (Value.int IntKind.i64 1099511627776)) 3), 4, some (13, true)⟩,
   ⟨some 16, (Op.pick (Operand.tmp 13) (Operand.tmp 15) (Operand.const (Value.bool false))), 4, none⟩,
   ⟨some 4, (Op.assign (Operand.tmp 16)), 4, none⟩]
def B36 : VC :=
  (.seq (.region r36_0) (.seq (.region r36_1) (.seq (.region r36_2) .ret)))
theorem code36 : ∃ c, Try.f36.body = some c ∧ abs Try.f36.ntmps c = B36 := ⟨_, rfl, by kernel_rfl⟩
theorem hb36 : HasBody Try.prog 36 := hasBody_of Try.func36 (by kernel_rfl)
theorem res36 : Try.f36.results = #[(ResultVar.tmp 4)] := rfl
theorem enter36 {w : World} {R : Value → World → Prop} (x0 x1 : Value) (h : vc Try.prog B36 (retK Try.prog #[(ResultVar.tmp 4)] R) [] (initEnv [x0, x1] 0) w) : FnC Try.prog 36 #[x0, x1] w R := by
  obtain ⟨c, h1, h2⟩ := code36
  exact hb36.fn (ret_of_vc mixed Try.func36 h1 (Nat.le_of_ble_eq_true rfl) B36 h2 h)
@[push_cast] theorem vr36_0 (Q : Post) (ds : List Deferred) (σ : Env) (w : World) : vc Try.prog (.region r36_0) Q ds σ w = vcOps Try.prog [⟨some 4, (Op.assign (Operand.const (Value.bool false))), 4, none⟩] (Q .normal ds) σ w := mk_eq rfl
@[push_cast] theorem vr36_1 (Q : Post) (ds : List Deferred) (σ : Env) (w : World) : vc Try.prog (.region r36_1) Q ds σ w = vcOps Try.prog [⟨some 6, (Op.move (Operand.tmp 1)), 3, none⟩, ⟨some 7, (Op.call { callee := (Callee.value (Operand.func 26)), args := #[(Operand.tmp 6)], argTypes := #[3] }), 4, none⟩, ⟨some 5, (Op.assign (Operand.tmp 7)), 4, none⟩] (Q .normal ds) σ w := mk_eq rfl
@[push_cast] theorem vr36_2 (Q : Post) (ds : List Deferred) (σ : Env) (w : World) : vc Try.prog (.region r36_2) Q ds σ w = vcOps Try.prog [⟨some 8, (Op.move (Operand.tmp 5)), 4, none⟩, ⟨some 9, (Op.move (Operand.tmp 8)), 4, none⟩, ⟨some 10, (Op.move (Operand.tmp 0)), 3, some (9, true)⟩, ⟨some 11, (Op.binOp BinOp.geq 3 (Operand.tmp 10) (Operand.const (Value.int IntKind.i64 (-1099511627776))) 3), 4, some (9, true)⟩, ⟨some 12, (Op.pick (Operand.tmp 9) (Operand.tmp 11) (Operand.const (Value.bool false))), 4, none⟩, ⟨some 13, (Op.move (Operand.tmp 12)), 4, none⟩, ⟨some 14, (Op.move (Operand.tmp 0)), 3, some (13, true)⟩, ⟨some 15, (Op.binOp BinOp.leq 3 (Operand.tmp 14) (Operand.const (Value.int IntKind.i64 1099511627776)) 3), 4, some (13, true)⟩, ⟨some 16, (Op.pick (Operand.tmp 13) (Operand.tmp 15) (Operand.const (Value.bool false))), 4, none⟩, ⟨some 4, (Op.assign (Operand.tmp 16)), 4, none⟩] (Q .normal ds) σ w := mk_eq rfl
/-! 37 columbary/bucket.rest (params #[3, 3], results #[(ResultVar.tmp 4)], 12 slots) -/
def r37_0 : List VOp :=
  [⟨some 4, (Op.assign (Operand.const (Value.int IntKind.i64 0))), 3, none⟩]
def r37_1 : List VOp :=
  [⟨some 5, (Op.move (Operand.tmp 0)), 3, none⟩,
   ⟨some 6, (Op.move (Operand.tmp 1)), 3, none⟩,
   ⟨some 7, (Op.binOp BinOp.rem 3 (Operand.tmp 5) (Operand.tmp 6) 3), 3, none⟩,
   ⟨some 8, (Op.move (Operand.tmp 1)), 3, none⟩,
   ⟨some 9, (Op.binOp BinOp.add 3 (Operand.tmp 7) (Operand.tmp 8) 3), 3, none⟩,
   ⟨some 10, (Op.move (Operand.tmp 1)), 3, none⟩,
   ⟨some 11, (Op.binOp BinOp.rem 3 (Operand.tmp 9) (Operand.tmp 10) 3), 3, none⟩,
   ⟨some 4, (Op.assign (Operand.tmp 11)), 3, none⟩]
def B37 : VC :=
  (.seq (.region r37_0) (.seq (.region r37_1) .ret))
theorem code37 : ∃ c, Try.f37.body = some c ∧ abs Try.f37.ntmps c = B37 := ⟨_, rfl, by kernel_rfl⟩
theorem hb37 : HasBody Try.prog 37 := hasBody_of Try.func37 (by kernel_rfl)
theorem res37 : Try.f37.results = #[(ResultVar.tmp 4)] := rfl
theorem enter37 {w : World} {R : Value → World → Prop} (x0 x1 : Value) (h : vc Try.prog B37 (retK Try.prog #[(ResultVar.tmp 4)] R) [] (initEnv [x0, x1] 0) w) : FnC Try.prog 37 #[x0, x1] w R := by
  obtain ⟨c, h1, h2⟩ := code37
  exact hb37.fn (ret_of_vc mixed Try.func37 h1 (Nat.le_of_ble_eq_true rfl) B37 h2 h)
@[push_cast] theorem vr37_0 (Q : Post) (ds : List Deferred) (σ : Env) (w : World) : vc Try.prog (.region r37_0) Q ds σ w = vcOps Try.prog [⟨some 4, (Op.assign (Operand.const (Value.int IntKind.i64 0))), 3, none⟩] (Q .normal ds) σ w := mk_eq rfl
@[push_cast] theorem vr37_1 (Q : Post) (ds : List Deferred) (σ : Env) (w : World) : vc Try.prog (.region r37_1) Q ds σ w = vcOps Try.prog [⟨some 5, (Op.move (Operand.tmp 0)), 3, none⟩, ⟨some 6, (Op.move (Operand.tmp 1)), 3, none⟩, ⟨some 7, (Op.binOp BinOp.rem 3 (Operand.tmp 5) (Operand.tmp 6) 3), 3, none⟩, ⟨some 8, (Op.move (Operand.tmp 1)), 3, none⟩, ⟨some 9, (Op.binOp BinOp.add 3 (Operand.tmp 7) (Operand.tmp 8) 3), 3, none⟩, ⟨some 10, (Op.move (Operand.tmp 1)), 3, none⟩, ⟨some 11, (Op.binOp BinOp.rem 3 (Operand.tmp 9) (Operand.tmp 10) 3), 3, none⟩, ⟨some 4, (Op.assign (Operand.tmp 11)), 3, none⟩] (Q .normal ds) σ w := mk_eq rfl
/-! 62 columbary/bucket.stretches$1 (params #[75], results #[], 25 slots) -/
def W62_0 : List Nat := [5, 6, 7, 8, 9, 10, 11, 12, 13, 14, 15, 16, 17, 18, 19, 20, 21, 22, 23, 24]
@[push_cast] theorem W62_0_def : W62_0 = [5, 6, 7, 8, 9, 10, 11, 12, 13, 14, 15, 16, 17, 18, 19, 20, 21, 22, 23, 24] := mk_eq rfl
def r62_0 : List VOp :=
  [⟨some 6, (Op.load 3 (Operand.tmp 1)), 3, none⟩,
   ⟨some 7, (Op.load 3 (Operand.tmp 2)), 3, none⟩,
   ⟨some 8, (Op.binOp BinOp.lss 3 (Operand.tmp 6) (Operand.tmp 7) 3), 4, none⟩]
def r62_1 : List VOp :=
  [⟨some 9, (Op.load 3 (Operand.tmp 1)), 3, none⟩,
   ⟨some 10, (Op.load 3 (Operand.tmp 1)), 3, none⟩,
   ⟨some 11, (Op.load 3 (Operand.tmp 3)), 3, none⟩,
   ⟨some 12, (Op.call { callee := (Callee.value (Operand.func 37)), args := #[(Operand.tmp 10), (Operand.tmp 11)], argTypes := #[3, 3] }), 3, none⟩,
   ⟨some 13, (Op.binOp BinOp.sub 3 (Operand.tmp 9) (Operand.tmp 12) 3), 3, none⟩,
   ⟨some 14, (Op.load 3 (Operand.tmp 3)), 3, none⟩,
   ⟨some 15, (Op.binOp BinOp.add 3 (Operand.tmp 13) (Operand.tmp 14) 3), 3, none⟩,
   ⟨some 16, (Op.load 3 (Operand.tmp 2)), 3, none⟩,
   ⟨some 17, (Op.call { callee := (Callee.builtin Builtin.min), args := #[(Operand.tmp 15), (Operand.tmp 16)], argTypes := #[3, 3] }), 3, none⟩,
   ⟨some 5, (Op.assign (Operand.tmp 17)), 3, none⟩]
def r62_2 : List VOp :=
  [⟨some 18, (Op.move (Operand.tmp 0)), 75, none⟩,
   ⟨some 19, (Op.load 3 (Operand.tmp 1)), 3, none⟩,
   ⟨some 20, (Op.move (Operand.tmp 5)), 3, none⟩,
   ⟨some 21, (Op.build 34 #[(0, (Operand.tmp 19)), (1, (Operand.tmp 20))]), 34, none⟩,
   ⟨some 22, (Op.call { callee := (Callee.value (Operand.tmp 18)), args := #[(Operand.tmp 21)], argTypes := #[34] }), 4, none⟩,
   ⟨some 23, (Op.unOp UnOp.not 4 (Operand.tmp 22)), 4, none⟩]
def r62_3 : List VOp :=
  [⟨some 24, (Op.move (Operand.tmp 5)), 3, none⟩,
   ⟨none, (Op.store 3 (Operand.tmp 1) (Operand.tmp 24)), 0, none⟩]
def B62 : VC :=
  (.block 0 (.loop (.seq (.seq (.region r62_0) (.cond (Operand.tmp 8) .skip (.exit 0))) (.block 1 (.seq (.draw r62_1 3) (.seq (.seq (.region r62_2) (.cond (Operand.tmp 23) .ret .skip)) (.region r62_3)))))))
theorem code62 : ∃ c, Try.f62.body = some c ∧ abs Try.f62.ntmps c = B62 := ⟨_, rfl, by kernel_rfl⟩
theorem hb62 : HasBody Try.prog 62 := hasBody_of Try.func62 (by kernel_rfl)
theorem res62 : Try.f62.results = #[] := rfl
theorem enter62 {w : World} {R : Value → World → Prop} (x0 x1 x2 x3 : Value) (h : vc Try.prog B62 (retK Try.prog #[] R) [] (initEnv [x0, x1, x2, x3] 0) w) : FnC Try.prog 62 #[x0, x1, x2, x3] w R := by
  obtain ⟨c, h1, h2⟩ := code62
  exact hb62.fn (ret_of_vc mixed Try.func62 h1 (Nat.le_of_ble_eq_true rfl) B62 h2 h)
@[push_cast] theorem vr62_0 (Q : Post) (ds : List Deferred) (σ : Env) (w : World) : vc Try.prog (.region r62_0) Q ds σ w = vcOps Try.prog [⟨some 6, (Op.load 3 (Operand.tmp 1)), 3, none⟩, ⟨some 7, (Op.load 3 (Operand.tmp 2)), 3, none⟩, ⟨some 8, (Op.binOp BinOp.lss 3 (Operand.tmp 6) (Operand.tmp 7) 3), 4, none⟩] (Q .normal ds) σ w := mk_eq rfl
@[push_cast] theorem vr62_1 (Q : Post) (ds : List Deferred) (σ : Env) (w : World) : vc Try.prog (.draw r62_1 3) Q ds σ w = drawn Try.prog [(⟨some 9, (Op.load 3 (Operand.tmp 1)), 3, none⟩, [1]), (⟨some 10, (Op.load 3 (Operand.tmp 1)), 3, none⟩, [1]), (⟨some 11, (Op.load 3 (Operand.tmp 3)), 3, none⟩, [3]), (⟨some 12, (Op.call { callee := (Callee.value (Operand.func 37)), args := #[(Operand.tmp 10), (Operand.tmp 11)], argTypes := #[3, 3] }), 3, none⟩, [10, 11]), (⟨some 13, (Op.binOp BinOp.sub 3 (Operand.tmp 9) (Operand.tmp 12) 3), 3, none⟩, [9, 12]), (⟨some 14, (Op.load 3 (Operand.tmp 3)), 3, none⟩, [3]), (⟨some 15, (Op.binOp BinOp.add 3 (Operand.tmp 13) (Operand.tmp 14) 3), 3, none⟩, [13, 14]), (⟨some 16, (Op.load 3 (Operand.tmp 2)), 3, none⟩, [2]), (⟨some 17, (Op.call { callee := (Callee.builtin Builtin.min), args := #[(Operand.tmp 15), (Operand.tmp 16)], argTypes := #[3, 3] }), 3, none⟩, [15, 16]), (⟨some 5, (Op.assign (Operand.tmp 17)), 3, none⟩, [17])] 3 (Q .normal ds) σ w := mk_eq rfl
@[push_cast] theorem vr62_2 (Q : Post) (ds : List Deferred) (σ : Env) (w : World) : vc Try.prog (.region r62_2) Q ds σ w = vcOps Try.prog [⟨some 18, (Op.move (Operand.tmp 0)), 75, none⟩, ⟨some 19, (Op.load 3 (Operand.tmp 1)), 3, none⟩, ⟨some 20, (Op.move (Operand.tmp 5)), 3, none⟩, ⟨some 21, (Op.build 34 #[(0, (Operand.tmp 19)), (1, (Operand.tmp 20))]), 34, none⟩, ⟨some 22, (Op.call { callee := (Callee.value (Operand.tmp 18)), args := #[(Operand.tmp 21)], argTypes := #[34] }), 4, none⟩, ⟨some 23, (Op.unOp UnOp.not 4 (Operand.tmp 22)), 4, none⟩] (Q .normal ds) σ w := mk_eq rfl
@[push_cast] theorem vr62_3 (Q : Post) (ds : List Deferred) (σ : Env) (w : World) : vc Try.prog (.region r62_3) Q ds σ w = vcOps Try.prog [⟨some 24, (Op.move (Operand.tmp 5)), 3, none⟩, ⟨none, (Op.store 3 (Operand.tmp 1) (Operand.tmp 24)), 0, none⟩] (Q .normal ds) σ w := mk_eq rfl
@[push_cast] theorem bsl22_1_CodesB {K : Value → World → Prop} {w : World} (x00 x01 : Value) : vBuildSlice Try.prog 22 1 #[(0, (.agg #[x00, x01]))] K w = K (.slice (some ⟨w.heap.size, 0, none⟩) 1 1) (w.alloc (.cells #[x00, x01] 34)) :=
  vBuildSlice_ok Try.underlying22 ti34 (by kernel_rfl) (by decide)
@[push_cast] theorem bld34_0_1_CodesB {K : Value → World → Prop} {w : World} (x0 : Int) (x1 : Int) : vBuild Try.prog 34 #[(0, (.int .i64 x0)), (1, (.int .i64 x1))] K w = K (.agg #[(.int .i64 x0), (.int .i64 x1)]) w :=
  vBuild_ok (by kernel_rfl)
end Go.Proofs.Ytdfdohajjgjbdaa
