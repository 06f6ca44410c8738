/- The functions' code in the generator's form. Written by a program (codes.py) out of Lean's own print of the loaded translation. -/
import Derived.Test.YtdfdohajjgjbdaaTypes
namespace Go.Proofs.Ytdfdohajjgjbdaa
open Go.Vc
/-! 8 columbary/columbarylaw08.DeltaTells (params #[35], results #[(ResultVar.tmp 2)], 61 slots) -/
def W8_0 : List Nat := [7, 8, 23, 24, 25, 26, 27, 28, 29, 30, 31, 32, 33, 34, 35, 36, 37, 38, 39, 40, 41]
@[push_cast] theorem W8_0_def : W8_0 = [7, 8, 23, 24, 25, 26, 27, 28, 29, 30, 31, 32, 33, 34, 35, 36, 37, 38, 39, 40, 41] := mk_eq rfl
def r8_0 : List VOp :=
  [⟨some 2, (Op.assign (Operand.const (Value.bool false))), 4, none⟩]
def r8_1 : List VOp :=
  [⟨some 9, (Op.move (Operand.tmp 0)), 35, none⟩,
   ⟨some 10, (Op.call { callee := (Callee.builtin Builtin.len), args := #[(Operand.tmp 9)], argTypes := #[35] }), 3, none⟩,
   ⟨some 11, (Op.binOp BinOp.gtr 3 (Operand.tmp 10) (Operand.const (Value.int IntKind.i64 300)) 3), 4, none⟩]
def r8_2 : List VOp :=
  [⟨some 12, (Op.call { callee := (Callee.value (Operand.func 27)), args := #[], argTypes := #[] }), 4, none⟩,
   ⟨some 2, (Op.assign (Operand.tmp 12)), 4, none⟩]
def r8_3 : List VOp :=
  [⟨some 14, (Op.move (Operand.tmp 0)), 35, none⟩,
   ⟨some 15, (Op.call { callee := (Callee.value (Operand.func 28)), args := #[(Operand.tmp 14)], argTypes := #[35] }), 37, none⟩,
   ⟨some 13, (Op.move (Operand.tmp 15)), 37, none⟩,
   ⟨some 16, (Op.extract (Operand.tmp 13) 0), 36, none⟩,
   ⟨some 17, (Op.extract (Operand.tmp 13) 1), 23, none⟩,
   ⟨some 3, (Op.assign (Operand.tmp 16)), 36, none⟩,
   ⟨some 4, (Op.assign (Operand.tmp 17)), 23, none⟩]
def r8_4 : List VOp :=
  [⟨some 19, (Op.move (Operand.tmp 0)), 35, none⟩,
   ⟨some 20, (Op.call { callee := (Callee.value (Operand.func 29)), args := #[(Operand.tmp 19)], argTypes := #[35] }), 37, none⟩,
   ⟨some 18, (Op.move (Operand.tmp 20)), 37, none⟩,
   ⟨some 21, (Op.extract (Operand.tmp 18) 0), 36, none⟩,
   ⟨some 22, (Op.extract (Operand.tmp 18) 1), 23, none⟩,
   ⟨some 5, (Op.assign (Operand.tmp 21)), 36, none⟩,
   ⟨some 6, (Op.assign (Operand.tmp 22)), 23, none⟩]
def r8_5 : List VOp :=
  [⟨some 7, (Op.assign (Operand.const (Value.bool true))), 4, none⟩]
def r8_6 : List VOp :=
  [⟨some 8, (Op.assign (Operand.const (Value.int IntKind.i64 1))), 3, none⟩]
def r8_7 : List VOp :=
  [⟨some 23, (Op.move (Operand.tmp 8)), 3, none⟩,
   ⟨some 24, (Op.move (Operand.tmp 0)), 35, none⟩,
   ⟨some 25, (Op.call { callee := (Callee.builtin Builtin.len), args := #[(Operand.tmp 24)], argTypes := #[35] }), 3, none⟩,
   ⟨some 26, (Op.binOp BinOp.lss 3 (Operand.tmp 23) (Operand.tmp 25) 3), 4, none⟩]
def r8_9 : List VOp :=
  [⟨some 29, (Op.move (Operand.tmp 7)), 4, none⟩,
   ⟨some 30, (Op.move (Operand.tmp 29)), 4, none⟩,
   ⟨some 31, (Op.move (Operand.tmp 0)), 35, some (30, true)⟩,
   ⟨some 32, (Op.move (Operand.tmp 8)), 3, some (30, true)⟩,
   ⟨some 33, (Op.binOp BinOp.sub 3 (Operand.tmp 32) (Operand.const (Value.int IntKind.i64 1)) 3), 3, some (30, true)⟩,
   ⟨some 34, (Op.indexAddr 35 (Operand.tmp 31) (Operand.tmp 33)), 0, some (30, true)⟩,
   ⟨some 35, (Op.load 3 (Operand.tmp 34)), 3, some (30, true)⟩,
   ⟨some 36, (Op.move (Operand.tmp 0)), 35, some (30, true)⟩,
   ⟨some 37, (Op.move (Operand.tmp 8)), 3, some (30, true)⟩,
   ⟨some 38, (Op.indexAddr 35 (Operand.tmp 36) (Operand.tmp 37)), 0, some (30, true)⟩,
   ⟨some 39, (Op.load 3 (Operand.tmp 38)), 3, some (30, true)⟩,
   ⟨some 40, (Op.binOp BinOp.leq 3 (Operand.tmp 35) (Operand.tmp 39) 3), 4, some (30, true)⟩,
   ⟨some 41, (Op.pick (Operand.tmp 30) (Operand.tmp 40) (Operand.const (Value.bool false))), 4, none⟩,
   ⟨some 7, (Op.assign (Operand.tmp 41)), 4, none⟩]
def r8_8 : List VOp :=
  [⟨some 27, (Op.move (Operand.tmp 8)), 3, none⟩,
   ⟨some 28, (Op.binOp BinOp.add 3 (Operand.tmp 27) (Operand.const (Value.int IntKind.i64 1)) 3), 3, none⟩,
   ⟨some 8, (Op.assign (Operand.tmp 28)), 3, none⟩]
def r8_10 : List VOp :=
  [⟨some 42, (Op.call { callee := (Callee.value (Operand.func 27)), args := #[], argTypes := #[] }), 4, none⟩,
   ⟨some 43, (Op.move (Operand.tmp 42)), 4, none⟩,
   ⟨some 44, (Op.move (Operand.tmp 3)), 36, some (43, true)⟩,
   ⟨some 45, (Op.convert 36 9 (Operand.tmp 44)), 9, some (43, true)⟩,
   ⟨some 46, (Op.move (Operand.tmp 5)), 36, some (43, true)⟩,
   ⟨some 47, (Op.convert 36 9 (Operand.tmp 46)), 9, some (43, true)⟩,
   ⟨some 48, (Op.binOp BinOp.eql 9 (Operand.tmp 45) (Operand.tmp 47) 9), 4, some (43, true)⟩,
   ⟨some 49, (Op.pick (Operand.tmp 43) (Operand.tmp 48) (Operand.const (Value.bool false))), 4, none⟩,
   ⟨some 50, (Op.move (Operand.tmp 49)), 4, none⟩,
   ⟨some 51, (Op.move (Operand.tmp 4)), 23, some (50, true)⟩,
   ⟨some 52, (Op.move (Operand.tmp 6)), 23, some (50, true)⟩,
   ⟨some 53, (Op.binOp BinOp.eql 23 (Operand.tmp 51) (Operand.tmp 52) 23), 4, some (50, true)⟩,
   ⟨some 54, (Op.pick (Operand.tmp 50) (Operand.tmp 53) (Operand.const (Value.bool false))), 4, none⟩,
   ⟨some 55, (Op.move (Operand.tmp 54)), 4, none⟩,
   ⟨some 56, (Op.move (Operand.tmp 0)), 35, some (55, true)⟩,
   ⟨some 57, (Op.call { callee := (Callee.value (Operand.func 30)), args := #[(Operand.tmp 56)], argTypes := #[35] }), 4, some (55, true)⟩,
   ⟨some 58, (Op.move (Operand.tmp 7)), 4, some (55, true)⟩,
   ⟨some 59, (Op.binOp BinOp.eql 4 (Operand.tmp 57) (Operand.tmp 58) 4), 4, some (55, true)⟩,
   ⟨some 60, (Op.pick (Operand.tmp 55) (Operand.tmp 59) (Operand.const (Value.bool false))), 4, none⟩,
   ⟨some 2, (Op.assign (Operand.tmp 60)), 4, none⟩]
def B8 : VC :=
  (.seq (.region r8_0) (.seq (.seq (.region r8_1) (.cond (Operand.tmp 11) (.seq (.region r8_2) .ret) .skip)) (.seq (.region r8_3) (.seq (.region r8_4) (.seq (.region r8_5) (.seq (.seq (.region r8_6) (.block 0 (.loop (.seq (.seq (.region r8_7) (.cond (Operand.tmp 26) .skip (.exit 0))) (.seq (.block 1 (.draw r8_9 4)) (.region r8_8)))))) (.seq (.region r8_10) .ret)))))))
theorem code8 : ∃ c, Try.f8.body = some c ∧ abs Try.f8.ntmps c = B8 := ⟨_, rfl, by kernel_rfl⟩
theorem hb8 : HasBody Try.prog 8 := hasBody_of Try.func8 (by kernel_rfl)
theorem res8 : Try.f8.results = #[(ResultVar.tmp 2)] := rfl
theorem enter8 {w : World} {R : Value → World → Prop} (x0 : Value) (h : vc Try.prog B8 (retK Try.prog #[(ResultVar.tmp 2)] R) [] (initEnv [x0] 0) w) : FnC Try.prog 8 #[x0] w R := by
  obtain ⟨c, h1, h2⟩ := code8
  exact hb8.fn (ret_of_vc mixed Try.func8 h1 (Nat.le_of_ble_eq_true rfl) B8 h2 h)
@[push_cast] theorem vr8_0 (Q : Post) (ds : List Deferred) (σ : Env) (w : World) : vc Try.prog (.region r8_0) Q ds σ w = vcOps Try.prog [⟨some 2, (Op.assign (Operand.const (Value.bool false))), 4, none⟩] (Q .normal ds) σ w := mk_eq rfl
@[push_cast] theorem vr8_1 (Q : Post) (ds : List Deferred) (σ : Env) (w : World) : vc Try.prog (.region r8_1) Q ds σ w = vcOps Try.prog [⟨some 9, (Op.move (Operand.tmp 0)), 35, none⟩, ⟨some 10, (Op.call { callee := (Callee.builtin Builtin.len), args := #[(Operand.tmp 9)], argTypes := #[35] }), 3, none⟩, ⟨some 11, (Op.binOp BinOp.gtr 3 (Operand.tmp 10) (Operand.const (Value.int IntKind.i64 300)) 3), 4, none⟩] (Q .normal ds) σ w := mk_eq rfl
@[push_cast] theorem vr8_2 (Q : Post) (ds : List Deferred) (σ : Env) (w : World) : vc Try.prog (.region r8_2) Q ds σ w = vcOps Try.prog [⟨some 12, (Op.call { callee := (Callee.value (Operand.func 27)), args := #[], argTypes := #[] }), 4, none⟩, ⟨some 2, (Op.assign (Operand.tmp 12)), 4, none⟩] (Q .normal ds) σ w := mk_eq rfl
@[push_cast] theorem vr8_3 (Q : Post) (ds : List Deferred) (σ : Env) (w : World) : vc Try.prog (.region r8_3) Q ds σ w = vcOps Try.prog [⟨some 14, (Op.move (Operand.tmp 0)), 35, none⟩, ⟨some 15, (Op.call { callee := (Callee.value (Operand.func 28)), args := #[(Operand.tmp 14)], argTypes := #[35] }), 37, none⟩, ⟨some 13, (Op.move (Operand.tmp 15)), 37, none⟩, ⟨some 16, (Op.extract (Operand.tmp 13) 0), 36, none⟩, ⟨some 17, (Op.extract (Operand.tmp 13) 1), 23, none⟩, ⟨some 3, (Op.assign (Operand.tmp 16)), 36, none⟩, ⟨some 4, (Op.assign (Operand.tmp 17)), 23, none⟩] (Q .normal ds) σ w := mk_eq rfl
@[push_cast] theorem vr8_4 (Q : Post) (ds : List Deferred) (σ : Env) (w : World) : vc Try.prog (.region r8_4) Q ds σ w = vcOps Try.prog [⟨some 19, (Op.move (Operand.tmp 0)), 35, none⟩, ⟨some 20, (Op.call { callee := (Callee.value (Operand.func 29)), args := #[(Operand.tmp 19)], argTypes := #[35] }), 37, none⟩, ⟨some 18, (Op.move (Operand.tmp 20)), 37, none⟩, ⟨some 21, (Op.extract (Operand.tmp 18) 0), 36, none⟩, ⟨some 22, (Op.extract (Operand.tmp 18) 1), 23, none⟩, ⟨some 5, (Op.assign (Operand.tmp 21)), 36, none⟩, ⟨some 6, (Op.assign (Operand.tmp 22)), 23, none⟩] (Q .normal ds) σ w := mk_eq rfl
@[push_cast] theorem vr8_5 (Q : Post) (ds : List Deferred) (σ : Env) (w : World) : vc Try.prog (.region r8_5) Q ds σ w = vcOps Try.prog [⟨some 7, (Op.assign (Operand.const (Value.bool true))), 4, none⟩] (Q .normal ds) σ w := mk_eq rfl
@[push_cast] theorem vr8_6 (Q : Post) (ds : List Deferred) (σ : Env) (w : World) : vc Try.prog (.region r8_6) Q ds σ w = vcOps Try.prog [⟨some 8, (Op.assign (Operand.const (Value.int IntKind.i64 1))), 3, none⟩] (Q .normal ds) σ w := mk_eq rfl
@[push_cast] theorem vr8_7 (Q : Post) (ds : List Deferred) (σ : Env) (w : World) : vc Try.prog (.region r8_7) Q ds σ w = vcOps Try.prog [⟨some 23, (Op.move (Operand.tmp 8)), 3, none⟩, ⟨some 24, (Op.move (Operand.tmp 0)), 35, none⟩, ⟨some 25, (Op.call { callee := (Callee.builtin Builtin.len), args := #[(Operand.tmp 24)], argTypes := #[35] }), 3, none⟩, ⟨some 26, (Op.binOp BinOp.lss 3 (Operand.tmp 23) (Operand.tmp 25) 3), 4, none⟩] (Q .normal ds) σ w := mk_eq rfl
@[push_cast] theorem vr8_9 (Q : Post) (ds : List Deferred) (σ : Env) (w : World) : vc Try.prog (.draw r8_9 4) Q ds σ w = drawn Try.prog [(⟨some 29, (Op.move (Operand.tmp 7)), 4, none⟩, [7]), (⟨some 30, (Op.move (Operand.tmp 29)), 4, none⟩, [29]), (⟨some 31, (Op.move (Operand.tmp 0)), 35, some (30, true)⟩, [0, 30]), (⟨some 32, (Op.move (Operand.tmp 8)), 3, some (30, true)⟩, [8, 30]), (⟨some 33, (Op.binOp BinOp.sub 3 (Operand.tmp 32) (Operand.const (Value.int IntKind.i64 1)) 3), 3, some (30, true)⟩, [32, 30]), (⟨some 34, (Op.indexAddr 35 (Operand.tmp 31) (Operand.tmp 33)), 0, some (30, true)⟩, [31, 33, 30]), (⟨some 35, (Op.load 3 (Operand.tmp 34)), 3, some (30, true)⟩, [34, 30]), (⟨some 36, (Op.move (Operand.tmp 0)), 35, some (30, true)⟩, [0, 30]), (⟨some 37, (Op.move (Operand.tmp 8)), 3, some (30, true)⟩, [8, 30]), (⟨some 38, (Op.indexAddr 35 (Operand.tmp 36) (Operand.tmp 37)), 0, some (30, true)⟩, [36, 37, 30]), (⟨some 39, (Op.load 3 (Operand.tmp 38)), 3, some (30, true)⟩, [38, 30]), (⟨some 40, (Op.binOp BinOp.leq 3 (Operand.tmp 35) (Operand.tmp 39) 3), 4, some (30, true)⟩, [35, 39, 30]), (⟨some 41, (Op.pick (Operand.tmp 30) (Operand.tmp 40) (Operand.const (Value.bool false))), 4, none⟩, [30, 40]), (⟨some 7, (Op.assign (Operand.tmp 41)), 4, none⟩, [41])] 4 (Q .normal ds) σ w := mk_eq rfl
@[push_cast] theorem vr8_8 (Q : Post) (ds : List Deferred) (σ : Env) (w : World) : vc Try.prog (.region r8_8) Q ds σ w = vcOps Try.prog [⟨some 27, (Op.move (Operand.tmp 8)), 3, none⟩, ⟨some 28, (Op.binOp BinOp.add 3 (Operand.tmp 27) (Operand.const (Value.int IntKind.i64 1)) 3), 3, none⟩, ⟨some 8, (Op.assign (Operand.tmp 28)), 3, none⟩] (Q .normal ds) σ w := mk_eq rfl
@[push_cast] theorem vr8_10 (Q : Post) (ds : List Deferred) (σ : Env) (w : World) : vc Try.prog (.region r8_10) Q ds σ w = vcOps Try.prog [⟨some 42, (Op.call { callee := (Callee.value (Operand.func 27)), args := #[], argTypes := #[] }), 4, none⟩, ⟨some 43, (Op.move (Operand.tmp 42)), 4, none⟩, ⟨some 44, (Op.move (Operand.tmp 3)), 36, some (43, true)⟩, ⟨some 45, (Op.convert 36 9 (Operand.tmp 44)), 9, some (43, true)⟩, ⟨some 46, (Op.move (Operand.tmp 5)), 36, some (43, true)⟩, ⟨some 47, (Op.convert 36 9 (Operand.tmp 46)), 9, some (43, true)⟩, ⟨some 48, (Op.binOp BinOp.eql 9 (Operand.tmp 45) (Operand.tmp 47) 9), 4, some (43, true)⟩, ⟨some 49, (Op.pick (Operand.tmp 43) (Operand.tmp 48) (Operand.const (Value.bool false))), 4, none⟩, ⟨some 50, (Op.move (Operand.tmp 49)), 4, none⟩, ⟨some 51, (Op.move (Operand.tmp 4)), 23, some (50, true)⟩, ⟨some 52, (Op.move (Operand.tmp 6)), 23, some (50, true)⟩, ⟨some 53, (Op.binOp BinOp.eql 23 (Operand.tmp 51) (Operand.tmp 52) 23), 4, some (50, true)⟩, ⟨some 54, (Op.pick (Operand.tmp 50) (Operand.tmp 53) (Operand.const (Value.bool false))), 4, none⟩, ⟨some 55, (Op.move (Operand.tmp 54)), 4, none⟩, ⟨some 56, (Op.move (Operand.tmp 0)), 35, some (55, true)⟩, ⟨some 57, (Op.call { callee := (Callee.value (Operand.func 30)), args := #[(Operand.tmp 56)], argTypes := #[35] }), 4, some (55, true)⟩, ⟨some 58, (Op.move (Operand.tmp 7)), 4, some (55, true)⟩, ⟨some 59, (Op.binOp BinOp.eql 4 (Operand.tmp 57) (Operand.tmp 58) 4), 4, some (55, true)⟩, ⟨some 60, (Op.pick (Operand.tmp 55) (Operand.tmp 59) (Operand.const (Value.bool false))), 4, none⟩, ⟨some 2, (Op.assign (Operand.tmp 60)), 4, none⟩] (Q .normal ds) σ w := mk_eq rfl
/-! 9 columbary/columbarylaw08.DeltaReads (params #[36], results #[(ResultVar.tmp 2)], 32 slots) -/
def r9_0 : List VOp :=
  [⟨some 2, (Op.assign (Operand.const (Value.bool false))), 4, none⟩]
def r9_1 : List VOp :=
  [⟨some 7, (Op.move (Operand.tmp 0)), 36, none⟩,
   ⟨some 8, (Op.call { callee := (Callee.builtin Builtin.len), args := #[(Operand.tmp 7)], argTypes := #[36] }), 3, none⟩,
   ⟨some 9, (Op.binOp BinOp.gtr 3 (Operand.tmp 8) (Operand.const (Value.int IntKind.i64 300)) 3), 4, none⟩]
def r9_2 : List VOp :=
  [⟨some 10, (Op.call { callee := (Callee.value (Operand.func 27)), args := #[], argTypes := #[] }), 4, none⟩,
   ⟨some 2, (Op.assign (Operand.tmp 10)), 4, none⟩]
def r9_3 : List VOp :=
  [⟨some 12, (Op.move (Operand.tmp 0)), 36, none⟩,
   ⟨some 13, (Op.call { callee := (Callee.value (Operand.func 31)), args := #[(Operand.tmp 12)], argTypes := #[36] }), 40, none⟩,
   ⟨some 11, (Op.move (Operand.tmp 13)), 40, none⟩,
   ⟨some 14, (Op.extract (Operand.tmp 11) 0), 35, none⟩,
   ⟨some 15, (Op.extract (Operand.tmp 11) 1), 23, none⟩,
   ⟨some 3, (Op.assign (Operand.tmp 14)), 35, none⟩,
   ⟨some 4, (Op.assign (Operand.tmp 15)), 23, none⟩]
def r9_4 : List VOp :=
  [⟨some 17, (Op.move (Operand.tmp 0)), 36, none⟩,
   ⟨some 18, (Op.call { callee := (Callee.value (Operand.func 32)), args := #[(Operand.tmp 17)], argTypes := #[36] }), 40, none⟩,
   ⟨some 16, (Op.move (Operand.tmp 18)), 40, none⟩,
   ⟨some 19, (Op.extract (Operand.tmp 16) 0), 35, none⟩,
   ⟨some 20, (Op.extract (Operand.tmp 16) 1), 23, none⟩,
   ⟨some 5, (Op.assign (Operand.tmp 19)), 35, none⟩,
   ⟨some 6, (Op.assign (Operand.tmp 20)), 23, none⟩]
def r9_5 : List VOp :=
  [⟨some 21, (Op.call { callee := (Callee.value (Operand.func 27)), args := #[], argTypes := #[] }), 4, none⟩,
   ⟨some 22, (Op.move (Operand.tmp 21)), 4, none⟩,
   ⟨some 23, (Op.move (Operand.tmp 3)), 35, some (22, true)⟩,
   ⟨some 24, (Op.move (Operand.tmp 5)), 35, some (22, true)⟩,
   ⟨some 25, (Op.call { callee := (Callee.value (Operand.func 33)), args := #[(Operand.tmp 23), (Operand.tmp 24)], argTypes := #[35, 35] }), 4, some (22, true)⟩,
   ⟨some 26, (Op.pick (Operand.tmp 22) (Operand.tmp 25) (Operand.const (Value.bool false))), 4, none⟩,
   ⟨some 27, (Op.move (Operand.tmp 26)), 4, none⟩,
   ⟨some 28, (Op.move (Operand.tmp 4)), 23, some (27, true)⟩,
   ⟨some 29, (Op.move (Operand.tmp 6)), 23, some (27, true)⟩,
   ⟨some 30, (Op.binOp BinOp.eql 23 (Operand.tmp 28) (Operand.tmp 29) 23), 4, some (27, true)⟩,
   ⟨some 31, (Op.pick (Operand.tmp 27) (Operand.tmp 30) (Operand.const (Value.bool false))), 4, none⟩,
   ⟨some 2, (Op.assign (Operand.tmp 31)), 4, none⟩]
def B9 : VC :=
  (.seq (.region r9_0) (.seq (.seq (.region r9_1) (.cond (Operand.tmp 9) (.seq (.region r9_2) .ret) .skip)) (.seq (.region r9_3) (.seq (.region r9_4) (.seq (.region r9_5) .ret)))))
theorem code9 : ∃ c, Try.f9.body = some c ∧ abs Try.f9.ntmps c = B9 := ⟨_, rfl, by kernel_rfl⟩
theorem hb9 : HasBody Try.prog 9 := hasBody_of Try.func9 (by kernel_rfl)
theorem res9 : Try.f9.results = #[(ResultVar.tmp 2)] := rfl
theorem enter9 {w : World} {R : Value → World → Prop} (x0 : Value) (h : vc Try.prog B9 (retK Try.prog #[(ResultVar.tmp 2)] R) [] (initEnv [x0] 0) w) : FnC Try.prog 9 #[x0] w R := by
  obtain ⟨c, h1, h2⟩ := code9
  exact hb9.fn (ret_of_vc mixed Try.func9 h1 (Nat.le_of_ble_eq_true rfl) B9 h2 h)
@[push_cast] theorem vr9_0 (Q : Post) (ds : List Deferred) (σ : Env) (w : World) : vc Try.prog (.region r9_0) Q ds σ w = vcOps Try.prog [⟨some 2, (Op.assign (Operand.const (Value.bool false))), 4, none⟩] (Q .normal ds) σ w := mk_eq rfl
@[push_cast] theorem vr9_1 (Q : Post) (ds : List Deferred) (σ : Env) (w : World) : vc Try.prog (.region r9_1) Q ds σ w = vcOps Try.prog [⟨some 7, (Op.move (Operand.tmp 0)), 36, none⟩, ⟨some 8, (Op.call { callee := (Callee.builtin Builtin.len), args := #[(Operand.tmp 7)], argTypes := #[36] }), 3, none⟩, ⟨some 9, (Op.binOp BinOp.gtr 3 (Operand.tmp 8) (Operand.const (Value.int IntKind.i64 300)) 3), 4, none⟩] (Q .normal ds) σ w := mk_eq rfl
@[push_cast] theorem vr9_2 (Q : Post) (ds : List Deferred) (σ : Env) (w : World) : vc Try.prog (.region r9_2) Q ds σ w = vcOps Try.prog [⟨some 10, (Op.call { callee := (Callee.value (Operand.func 27)), args := #[], argTypes := #[] }), 4, none⟩, ⟨some 2, (Op.assign (Operand.tmp 10)), 4, none⟩] (Q .normal ds) σ w := mk_eq rfl
@[push_cast] theorem vr9_3 (Q : Post) (ds : List Deferred) (σ : Env) (w : World) : vc Try.prog (.region r9_3) Q ds σ w = vcOps Try.prog [⟨some 12, (Op.move (Operand.tmp 0)), 36, none⟩, ⟨some 13, (Op.call { callee := (Callee.value (Operand.func 31)), args := #[(Operand.tmp 12)], argTypes := #[36] }), 40, none⟩, ⟨some 11, (Op.move (Operand.tmp 13)), 40, none⟩, ⟨some 14, (Op.extract (Operand.tmp 11) 0), 35, none⟩, ⟨some 15, (Op.extract (Operand.tmp 11) 1), 23, none⟩, ⟨some 3, (Op.assign (Operand.tmp 14)), 35, none⟩, ⟨some 4, (Op.assign (Operand.tmp 15)), 23, none⟩] (Q .normal ds) σ w := mk_eq rfl
@[push_cast] theorem vr9_4 (Q : Post) (ds : List Deferred) (σ : Env) (w : World) : vc Try.prog (.region r9_4) Q ds σ w = vcOps Try.prog [⟨some 17, (Op.move (Operand.tmp 0)), 36, none⟩, ⟨some 18, (Op.call { callee := (Callee.value (Operand.func 32)), args := #[(Operand.tmp 17)], argTypes := #[36] }), 40, none⟩, ⟨some 16, (Op.move (Operand.tmp 18)), 40, none⟩, ⟨some 19, (Op.extract (Operand.tmp 16) 0), 35, none⟩, ⟨some 20, (Op.extract (Operand.tmp 16) 1), 23, none⟩, ⟨some 5, (Op.assign (Operand.tmp 19)), 35, none⟩, ⟨some 6, (Op.assign (Operand.tmp 20)), 23, none⟩] (Q .normal ds) σ w := mk_eq rfl
@[push_cast] theorem vr9_5 (Q : Post) (ds : List Deferred) (σ : Env) (w : World) : vc Try.prog (.region r9_5) Q ds σ w = vcOps Try.prog [⟨some 21, (Op.call { callee := (Callee.value (Operand.func 27)), args := #[], argTypes := #[] }), 4, none⟩, ⟨some 22, (Op.move (Operand.tmp 21)), 4, none⟩, ⟨some 23, (Op.move (Operand.tmp 3)), 35, some (22, true)⟩, ⟨some 24, (Op.move (Operand.tmp 5)), 35, some (22, true)⟩, ⟨some 25, (Op.call { callee := (Callee.value (Operand.func 33)), args := #[(Operand.tmp 23), (Operand.tmp 24)], argTypes := #[35, 35] }), 4, some (22, true)⟩, ⟨some 26, (Op.pick (Operand.tmp 22) (Operand.tmp 25) (Operand.const (Value.bool false))), 4, none⟩, ⟨some 27, (Op.move (Operand.tmp 26)), 4, none⟩, ⟨some 28, (Op.move (Operand.tmp 4)), 23, some (27, true)⟩, ⟨some 29, (Op.move (Operand.tmp 6)), 23, some (27, true)⟩, ⟨some 30, (Op.binOp BinOp.eql 23 (Operand.tmp 28) (Operand.tmp 29) 23), 4, some (27, true)⟩, ⟨some 31, (Op.pick (Operand.tmp 27) (Operand.tmp 30) (Operand.const (Value.bool false))), 4, none⟩, ⟨some 2, (Op.assign (Operand.tmp 31)), 4, none⟩] (Q .normal ds) σ w := mk_eq rfl
/-! 10 columbary/columbarylaw08.DeltaBack (params #[35, 36], results #[(ResultVar.tmp 4)], 78 slots) -/
def r10_0 : List VOp :=
  [⟨some 4, (Op.assign (Operand.const (Value.bool false))), 4, none⟩]
def r10_1 : List VOp :=
  [⟨some 13, (Op.move (Operand.tmp 0)), 35, none⟩,
   ⟨some 14, (Op.call { callee := (Callee.builtin Builtin.len), args := #[(Operand.tmp 13)], argTypes := #[35] }), 3, none⟩,
   ⟨some 15, (Op.binOp BinOp.gtr 3 (Operand.tmp 14) (Operand.const (Value.int IntKind.i64 300)) 3), 4, none⟩,
   ⟨some 16, (Op.move (Operand.tmp 15)), 4, none⟩,
   ⟨some 17, (Op.move (Operand.tmp 1)), 36, some (16, false)⟩,
   ⟨some 18, (Op.call { callee := (Callee.builtin Builtin.len), args := #[(Operand.tmp 17)], argTypes := #[36] }), 3, some (16, false)⟩,
   ⟨some 19, (Op.binOp BinOp.gtr 3 (Operand.tmp 18) (Operand.const (Value.int IntKind.i64 300)) 3), 4, some (16, false)⟩,
   ⟨some 20, (Op.pick (Operand.tmp 16) (Operand.const (Value.bool true)) (Operand.tmp 19)), 4, none⟩]
def r10_2 : List VOp :=
  [⟨some 21, (Op.call { callee := (Callee.value (Operand.func 27)), args := #[], argTypes := #[] }), 4, none⟩,
   ⟨some 4, (Op.assign (Operand.tmp 21)), 4, none⟩]
def r10_3 : List VOp :=
  [⟨some 23, (Op.move (Operand.tmp 0)), 35, none⟩,
   ⟨some 24, (Op.call { callee := (Callee.value (Operand.func 28)), args := #[(Operand.tmp 23)], argTypes := #[35] }), 37, none⟩,
   ⟨some 22, (Op.move (Operand.tmp 24)), 37, none⟩,
   ⟨some 25, (Op.extract (Operand.tmp 22) 0), 36, none⟩,
   ⟨some 26, (Op.extract (Operand.tmp 22) 1), 23, none⟩,
   ⟨some 5, (Op.assign (Operand.tmp 25)), 36, none⟩,
   ⟨some 6, (Op.assign (Operand.tmp 26)), 23, none⟩]
def r10_4 : List VOp :=
  [⟨some 28, (Op.move (Operand.tmp 5)), 36, none⟩,
   ⟨some 29, (Op.call { callee := (Callee.value (Operand.func 31)), args := #[(Operand.tmp 28)], argTypes := #[36] }), 40, none⟩,
   ⟨some 27, (Op.move (Operand.tmp 29)), 40, none⟩,
   ⟨some 30, (Op.extract (Operand.tmp 27) 0), 35, none⟩,
   ⟨some 31, (Op.extract (Operand.tmp 27) 1), 23, none⟩,
   ⟨some 7, (Op.assign (Operand.tmp 30)), 35, none⟩,
   ⟨some 8, (Op.assign (Operand.tmp 31)), 23, none⟩]
def r10_5 : List VOp :=
  [⟨some 32, (Op.move (Operand.tmp 6)), 23, none⟩,
   ⟨some 33, (Op.binOp BinOp.neq 23 (Operand.tmp 32) (Operand.const (Value.int IntKind.i64 0)) 23), 4, none⟩,
   ⟨some 34, (Op.move (Operand.tmp 33)), 4, none⟩,
   ⟨some 35, (Op.move (Operand.tmp 8)), 23, some (34, false)⟩,
   ⟨some 36, (Op.binOp BinOp.neq 23 (Operand.tmp 35) (Operand.const (Value.int IntKind.i64 0)) 23), 4, some (34, false)⟩,
   ⟨some 37, (Op.pick (Operand.tmp 34) (Operand.const (Value.bool true)) (Operand.tmp 36)), 4, none⟩,
   ⟨some 38, (Op.move (Operand.tmp 37)), 4, none⟩,
   ⟨some 39, (Op.move (Operand.tmp 7)), 35, some (38, false)⟩,
   ⟨some 40, (Op.move (Operand.tmp 0)), 35, some (38, false)⟩,
   ⟨some 41, (Op.call { callee := (Callee.value (Operand.func 33)), args := #[(Operand.tmp 39), (Operand.tmp 40)], argTypes := #[35, 35] }), 4, some (38, false)⟩,
   ⟨some 42, (Op.unOp UnOp.not 4 (Operand.tmp 41)), 4, some (38, false)⟩,
   ⟨some 43, (Op.pick (Operand.tmp 38) (Operand.const (Value.bool true)) (Operand.tmp 42)), 4, none⟩]
def r10_6 : List VOp :=
  [⟨some 4, (Op.assign (Operand.const (Value.bool false))), 4, none⟩]
def r10_7 : List VOp :=
  [⟨some 45, (Op.move (Operand.tmp 1)), 36, none⟩,
   ⟨some 46, (Op.call { callee := (Callee.value (Operand.func 31)), args := #[(Operand.tmp 45)], argTypes := #[36] }), 40, none⟩,
   ⟨some 44, (Op.move (Operand.tmp 46)), 40, none⟩,
   ⟨some 47, (Op.extract (Operand.tmp 44) 0), 35, none⟩,
   ⟨some 48, (Op.extract (Operand.tmp 44) 1), 23, none⟩,
   ⟨some 9, (Op.assign (Operand.tmp 47)), 35, none⟩,
   ⟨some 10, (Op.assign (Operand.tmp 48)), 23, none⟩]
def r10_8 : List VOp :=
  [⟨some 49, (Op.move (Operand.tmp 10)), 23, none⟩,
   ⟨some 50, (Op.binOp BinOp.neq 23 (Operand.tmp 49) (Operand.const (Value.int IntKind.i64 0)) 23), 4, none⟩]
def r10_9 : List VOp :=
  [⟨some 51, (Op.call { callee := (Callee.value (Operand.func 27)), args := #[], argTypes := #[] }), 4, none⟩,
   ⟨some 52, (Op.move (Operand.tmp 51)), 4, none⟩,
   ⟨some 53, (Op.move (Operand.tmp 10)), 23, some (52, true)⟩,
   ⟨some 54, (Op.binOp BinOp.eql 23 (Operand.tmp 53) (Operand.const (Value.int IntKind.i64 81)) 23), 4, some (52, true)⟩,
   ⟨some 55, (Op.pick (Operand.tmp 52) (Operand.tmp 54) (Operand.const (Value.bool false))), 4, none⟩,
   ⟨some 56, (Op.move (Operand.tmp 55)), 4, none⟩,
   ⟨some 57, (Op.move (Operand.tmp 9)), 35, some (56, true)⟩,
   ⟨some 58, (Op.call { callee := (Callee.builtin Builtin.len), args := #[(Operand.tmp 57)], argTypes := #[35] }), 3, some (56, true)⟩,
   ⟨some 59, (Op.binOp BinOp.eql 3 (Operand.tmp 58) (Operand.const (Value.int IntKind.i64 0)) 3), 4, some (56, true)⟩,
   ⟨some 60, (Op.pick (Operand.tmp 56) (Operand.tmp 59) (Operand.const (Value.bool false))), 4, none⟩,
   ⟨some 4, (Op.assign (Operand.tmp 60)), 4, none⟩]
def r10_10 : List VOp :=
  [⟨some 62, (Op.move (Operand.tmp 9)), 35, none⟩,
   ⟨some 63, (Op.call { callee := (Callee.value (Operand.func 28)), args := #[(Operand.tmp 62)], argTypes := #[35] }), 37, none⟩,
   ⟨some 61, (Op.move (Operand.tmp 63)), 37, none⟩,
   ⟨some 64, (Op.extract (Operand.tmp 61) 0), 36, none⟩,
   ⟨some 65, (Op.extract (Operand.tmp 61) 1), 23, none⟩,
   ⟨some 11, (Op.assign (Operand.tmp 64)), 36, none⟩,
   ⟨some 12, (Op.assign (Operand.tmp 65)), 23, none⟩]
def r10_11 : List VOp :=
  [⟨some 66, (Op.call { callee := (Callee.value (Operand.func 27)), args := #[], argTypes := #[] }), 4, none⟩,
   ⟨some 67, (Op.move (Operand.tmp 66)), 4, none⟩,
   ⟨some 68, (Op.move (Operand.tmp 12)), 23, some (67, true)⟩,
   ⟨some 69, (Op.binOp BinOp.eql 23 (Operand.tmp 68) (Operand.const (Value.int IntKind.i64 0)) 23), 4, some (67, true)⟩,
   ⟨some 70, (Op.pick (Operand.tmp 67) (Operand.tmp 69) (Operand.const (Value.bool false))), 4, none⟩,
   ⟨some 71, (Op.move (Operand.tmp 70)), 4, none⟩,
   ⟨some 72, (Op.move (Operand.tmp 11)), 36, some (71, true)⟩,
   ⟨some 73, (Op.convert 36 9 (Operand.tmp 72)), 9, some (71, true)⟩,
   ⟨some 74, (Op.move (Operand.tmp 1)), 36, some (71, true)⟩,
   ⟨some 75, (Op.convert 36 9 (Operand.tmp 74)), 9, some (71, true)⟩,
   ⟨some 76, (Op.binOp BinOp.eql 9 (Operand.tmp 73) (Operand.tmp 75) 9), 4, some (71, true)⟩,
   ⟨some 77, (Op.pick (Operand.tmp 71) (Operand.tmp 76) (Operand.const (Value.bool false))), 4, none⟩,
   ⟨some 4, (Op.assign (Operand.tmp 77)), 4, none⟩]
def B10 : VC :=
  (.seq (.region r10_0) (.seq (.seq (.region r10_1) (.cond (Operand.tmp 20) (.seq (.region r10_2) .ret) .skip)) (.seq (.region r10_3) (.seq (.region r10_4) (.seq (.seq (.region r10_5) (.cond (Operand.tmp 43) (.seq (.region r10_6) .ret) .skip)) (.seq (.region r10_7) (.seq (.seq (.region r10_8) (.cond (Operand.tmp 50) (.seq (.region r10_9) .ret) .skip)) (.seq (.region r10_10) (.seq (.region r10_11) .ret)))))))))
theorem code10 : ∃ c, Try.f10.body = some c ∧ abs Try.f10.ntmps c = B10 := ⟨_, rfl, by kernel_rfl⟩
theorem hb10 : HasBody Try.prog 10 := hasBody_of Try.func10 (by kernel_rfl)
theorem res10 : Try.f10.results = #[(ResultVar.tmp 4)] := rfl
theorem enter10 {w : World} {R : Value → World → Prop} (x0 x1 : Value) (h : vc Try.prog B10 (retK Try.prog #[(ResultVar.tmp 4)] R) [] (initEnv [x0, x1] 0) w) : FnC Try.prog 10 #[x0, x1] w R := by
  obtain ⟨c, h1, h2⟩ := code10
  exact hb10.fn (ret_of_vc mixed Try.func10 h1 (Nat.le_of_ble_eq_true rfl) B10 h2 h)
@[push_cast] theorem vr10_0 (Q : Post) (ds : List Deferred) (σ : Env) (w : World) : vc Try.prog (.region r10_0) Q ds σ w = vcOps Try.prog [⟨some 4, (Op.assign (Operand.const (Value.bool false))), 4, none⟩] (Q .normal ds) σ w := mk_eq rfl
@[push_cast] theorem vr10_1 (Q : Post) (ds : List Deferred) (σ : Env) (w : World) : vc Try.prog (.region r10_1) Q ds σ w = vcOps Try.prog [⟨some 13, (Op.move (Operand.tmp 0)), 35, none⟩, ⟨some 14, (Op.call { callee := (Callee.builtin Builtin.len), args := #[(Operand.tmp 13)], argTypes := #[35] }), 3, none⟩, ⟨some 15, (Op.binOp BinOp.gtr 3 (Operand.tmp 14) (Operand.const (Value.int IntKind.i64 300)) 3), 4, none⟩, ⟨some 16, (Op.move (Operand.tmp 15)), 4, none⟩, ⟨some 17, (Op.move (Operand.tmp 1)), 36, some (16, false)⟩, ⟨some 18, (Op.call { callee := (Callee.builtin Builtin.len), args := #[(Operand.tmp 17)], argTypes := #[36] }), 3, some (16, false)⟩, ⟨some 19, (Op.binOp BinOp.gtr 3 (Operand.tmp 18) (Operand.const (Value.int IntKind.i64 300)) 3), 4, some (16, false)⟩, ⟨some 20, (Op.pick (Operand.tmp 16) (Operand.const (Value.bool true)) (Operand.tmp 19)), 4, none⟩] (Q .normal ds) σ w := mk_eq rfl
@[push_cast] theorem vr10_2 (Q : Post) (ds : List Deferred) (σ : Env) (w : World) : vc Try.prog (.region r10_2) Q ds σ w = vcOps Try.prog [⟨some 21, (Op.call { callee := (Callee.value (Operand.func 27)), args := #[], argTypes := #[] }), 4, none⟩, ⟨some 4, (Op.assign (Operand.tmp 21)), 4, none⟩] (Q .normal ds) σ w := mk_eq rfl
@[push_cast] theorem vr10_3 (Q : Post) (ds : List Deferred) (σ : Env) (w : World) : vc Try.prog (.region r10_3) Q ds σ w = vcOps Try.prog [⟨some 23, (Op.move (Operand.tmp 0)), 35, none⟩, ⟨some 24, (Op.call { callee := (Callee.value (Operand.func 28)), args := #[(Operand.tmp 23)], argTypes := #[35] }), 37, none⟩, ⟨some 22, (Op.move (Operand.tmp 24)), 37, none⟩, ⟨some 25, (Op.extract (Operand.tmp 22) 0), 36, none⟩, ⟨some 26, (Op.extract (Operand.tmp 22) 1), 23, none⟩, ⟨some 5, (Op.assign (Operand.tmp 25)), 36, none⟩, ⟨some 6, (Op.assign (Operand.tmp 26)), 23, none⟩] (Q .normal ds) σ w := mk_eq rfl
@[push_cast] theorem vr10_4 (Q : Post) (ds : List Deferred) (σ : Env) (w : World) : vc Try.prog (.region r10_4) Q ds σ w = vcOps Try.prog [⟨some 28, (Op.move (Operand.tmp 5)), 36, none⟩, ⟨some 29, (Op.call { callee := (Callee.value (Operand.func 31)), args := #[(Operand.tmp 28)], argTypes := #[36] }), 40, none⟩, ⟨some 27, (Op.move (Operand.tmp 29)), 40, none⟩, ⟨some 30, (Op.extract (Operand.tmp 27) 0), 35, none⟩, ⟨some 31, (Op.extract (Operand.tmp 27) 1), 23, none⟩, ⟨some 7, (Op.assign (Operand.tmp 30)), 35, none⟩, ⟨some 8, (Op.assign (Operand.tmp 31)), 23, none⟩] (Q .normal ds) σ w := mk_eq rfl
@[push_cast] theorem vr10_5 (Q : Post) (ds : List Deferred) (σ : Env) (w : World) : vc Try.prog (.region r10_5) Q ds σ w = vcOps Try.prog [⟨some 32, (Op.move (Operand.tmp 6)), 23, none⟩, ⟨some 33, (Op.binOp BinOp.neq 23 (Operand.tmp 32) (Operand.const (Value.int IntKind.i64 0)) 23), 4, none⟩, ⟨some 34, (Op.move (Operand.tmp 33)), 4, none⟩, ⟨some 35, (Op.move (Operand.tmp 8)), 23, some (34, false)⟩, ⟨some 36, (Op.binOp BinOp.neq 23 (Operand.tmp 35) (Operand.const (Value.int IntKind.i64 0)) 23), 4, some (34, false)⟩, ⟨some 37, (Op.pick (Operand.tmp 34) (Operand.const (Value.bool true)) (Operand.tmp 36)), 4, none⟩, ⟨some 38, (Op.move (Operand.tmp 37)), 4, none⟩, ⟨some 39, (Op.move (Operand.tmp 7)), 35, some (38, false)⟩, ⟨some 40, (Op.move (Operand.tmp 0)), 35, some (38, false)⟩, ⟨some 41, (Op.call { callee := (Callee.value (Operand.func 33)), args := #[(Operand.tmp 39), (Operand.tmp 40)], argTypes := #[35, 35] }), 4, some (38, false)⟩, ⟨some 42, (Op.unOp UnOp.not 4 (Operand.tmp 41)), 4, some (38, false)⟩, ⟨some 43, (Op.pick (Operand.tmp 38) (Operand.const (Value.bool true)) (Operand.tmp 42)), 4, none⟩] (Q .normal ds) σ w := mk_eq rfl
@[push_cast] theorem vr10_6 (Q : Post) (ds : List Deferred) (σ : Env) (w : World) : vc Try.prog (.region r10_6) Q ds σ w = vcOps Try.prog [⟨some 4, (Op.assign (Operand.const (Value.bool false))), 4, none⟩] (Q .normal ds) σ w := mk_eq rfl
@[push_cast] theorem vr10_7 (Q : Post) (ds : List Deferred) (σ : Env) (w : World) : vc Try.prog (.region r10_7) Q ds σ w = vcOps Try.prog [⟨some 45, (Op.move (Operand.tmp 1)), 36, none⟩, ⟨some 46, (Op.call { callee := (Callee.value (Operand.func 31)), args := #[(Operand.tmp 45)], argTypes := #[36] }), 40, none⟩, ⟨some 44, (Op.move (Operand.tmp 46)), 40, none⟩, ⟨some 47, (Op.extract (Operand.tmp 44) 0), 35, none⟩, ⟨some 48, (Op.extract (Operand.tmp 44) 1), 23, none⟩, ⟨some 9, (Op.assign (Operand.tmp 47)), 35, none⟩, ⟨some 10, (Op.assign (Operand.tmp 48)), 23, none⟩] (Q .normal ds) σ w := mk_eq rfl
@[push_cast] theorem vr10_8 (Q : Post) (ds : List Deferred) (σ : Env) (w : World) : vc Try.prog (.region r10_8) Q ds σ w = vcOps Try.prog [⟨some 49, (Op.move (Operand.tmp 10)), 23, none⟩, ⟨some 50, (Op.binOp BinOp.neq 23 (Operand.tmp 49) (Operand.const (Value.int IntKind.i64 0)) 23), 4, none⟩] (Q .normal ds) σ w := mk_eq rfl
@[push_cast] theorem vr10_9 (Q : Post) (ds : List Deferred) (σ : Env) (w : World) : vc Try.prog (.region r10_9) Q ds σ w = vcOps Try.prog [⟨some 51, (Op.call { callee := (Callee.value (Operand.func 27)), args := #[], argTypes := #[] }), 4, none⟩, ⟨some 52, (Op.move (Operand.tmp 51)), 4, none⟩, ⟨some 53, (Op.move (Operand.tmp 10)), 23, some (52, true)⟩, ⟨some 54, (Op.binOp BinOp.eql 23 (Operand.tmp 53) (Operand.const (Value.int IntKind.i64 81)) 23), 4, some (52, true)⟩, ⟨some 55, (Op.pick (Operand.tmp 52) (Operand.tmp 54) (Operand.const (Value.bool false))), 4, none⟩, ⟨some 56, (Op.move (Operand.tmp 55)), 4, none⟩, ⟨some 57, (Op.move (Operand.tmp 9)), 35, some (56, true)⟩, ⟨some 58, (Op.call { callee := (Callee.builtin Builtin.len), args := #[(Operand.tmp 57)], argTypes := #[35] }), 3, some (56, true)⟩, ⟨some 59, (Op.binOp BinOp.eql 3 (Operand.tmp 58) (Operand.const (Value.int IntKind.i64 0)) 3), 4, some (56, true)⟩, ⟨some 60, (Op.pick (Operand.tmp 56) (Operand.tmp 59) (Operand.const (Value.bool false))), 4, none⟩, ⟨some 4, (Op.assign (Operand.tmp 60)), 4, none⟩] (Q .normal ds) σ w := mk_eq rfl
@[push_cast] theorem vr10_10 (Q : Post) (ds : List Deferred) (σ : Env) (w : World) : vc Try.prog (.region r10_10) Q ds σ w = vcOps Try.prog [⟨some 62, (Op.move (Operand.tmp 9)), 35, none⟩, ⟨some 63, (Op.call { callee := (Callee.value (Operand.func 28)), args := #[(Operand.tmp 62)], argTypes := #[35] }), 37, none⟩, ⟨some 61, (Op.move (Operand.tmp 63)), 37, none⟩, ⟨some 64, (Op.extract (Operand.tmp 61) 0), 36, none⟩, ⟨some 65, (Op.extract (Operand.tmp 61) 1), 23, none⟩, ⟨some 11, (Op.assign (Operand.tmp 64)), 36, none⟩, ⟨some 12, (Op.assign (Operand.tmp 65)), 23, none⟩] (Q .normal ds) σ w := mk_eq rfl
@[push_cast] theorem vr10_11 (Q : Post) (ds : List Deferred) (σ : Env) (w : World) : vc Try.prog (.region r10_11) Q ds σ w = vcOps Try.prog [⟨some 66, (Op.call { callee := (Callee.value (Operand.func 27)), args := #[], argTypes := #[] }), 4, none⟩, ⟨some 67, (Op.move (Operand.tmp 66)), 4, none⟩, ⟨some 68, (Op.move (Operand.tmp 12)), 23, some (67, true)⟩, ⟨some 69, (Op.binOp BinOp.eql 23 (Operand.tmp 68) (Operand.const (Value.int IntKind.i64 0)) 23), 4, some (67, true)⟩, ⟨some 70, (Op.pick (Operand.tmp 67) (Operand.tmp 69) (Operand.const (Value.bool false))), 4, none⟩, ⟨some 71, (Op.move (Operand.tmp 70)), 4, none⟩, ⟨some 72, (Op.move (Operand.tmp 11)), 36, some (71, true)⟩, ⟨some 73, (Op.convert 36 9 (Operand.tmp 72)), 9, some (71, true)⟩, ⟨some 74, (Op.move (Operand.tmp 1)), 36, some (71, true)⟩, ⟨some 75, (Op.convert 36 9 (Operand.tmp 74)), 9, some (71, true)⟩, ⟨some 76, (Op.binOp BinOp.eql 9 (Operand.tmp 73) (Operand.tmp 75) 9), 4, some (71, true)⟩, ⟨some 77, (Op.pick (Operand.tmp 71) (Operand.tmp 76) (Operand.const (Value.bool false))), 4, none⟩, ⟨some 4, (Op.assign (Operand.tmp 77)), 4, none⟩] (Q .normal ds) σ w := mk_eq rfl
/-! 11 columbary/columbarylaw08.DeltaSmall (params #[3, 3, 45], results #[(ResultVar.tmp 6)], 83 slots) -/
def W11_0 : List Nat := [7, 8, 9, 10, 11, 19, 20, 21, 22, 23, 24, 25, 26, 27, 28, 29, 30, 31, 32, 33, 34, 35, 36, 37, 38, 39, 40, 41, 42, 43, 44, 45, 46, 47]
@[push_cast] theorem W11_0_def : W11_0 = [7, 8, 9, 10, 11, 19, 20, 21, 22, 23, 24, 25, 26, 27, 28, 29, 30, 31, 32, 33, 34, 35, 36, 37, 38, 39, 40, 41, 42, 43, 44, 45, 46, 47] := mk_eq rfl
def r11_0 : List VOp :=
  [⟨some 6, (Op.assign (Operand.const (Value.bool false))), 4, none⟩]
def r11_1 : List VOp :=
  [⟨some 7, (Op.assign (Operand.const (Value.slice none 0 0))), 35, none⟩,
   ⟨some 8, (Op.assign (Operand.const (Value.slice none 0 0))), 35, none⟩]
def r11_2 : List VOp :=
  [⟨some 16, (Op.move (Operand.tmp 0)), 3, none⟩,
   ⟨some 9, (Op.assign (Operand.tmp 16)), 3, none⟩]
def r11_3 : List VOp :=
  [⟨some 17, (Op.move (Operand.tmp 0)), 3, none⟩,
   ⟨some 18, (Op.binOp BinOp.shr 3 (Operand.tmp 17) (Operand.const (Value.int IntKind.u64 2)) 46), 3, none⟩,
   ⟨some 10, (Op.assign (Operand.tmp 18)), 3, none⟩]
def r11_4 : List VOp :=
  [⟨some 11, (Op.assign (Operand.const (Value.int IntKind.i64 0))), 3, none⟩]
def r11_5 : List VOp :=
  [⟨some 19, (Op.move (Operand.tmp 11)), 3, none⟩,
   ⟨some 20, (Op.move (Operand.tmp 2)), 45, none⟩,
   ⟨some 21, (Op.call { callee := (Callee.builtin Builtin.len), args := #[(Operand.tmp 20)], argTypes := #[45] }), 3, none⟩,
   ⟨some 22, (Op.binOp BinOp.lss 3 (Operand.tmp 19) (Operand.tmp 21) 3), 4, none⟩,
   ⟨some 23, (Op.move (Operand.tmp 22)), 4, none⟩,
   ⟨some 24, (Op.move (Operand.tmp 11)), 3, some (23, true)⟩,
   ⟨some 25, (Op.binOp BinOp.lss 3 (Operand.tmp 24) (Operand.const (Value.int IntKind.i64 300)) 3), 4, some (23, true)⟩,
   ⟨some 26, (Op.pick (Operand.tmp 23) (Operand.tmp 25) (Operand.const (Value.bool false))), 4, none⟩]
def r11_7 : List VOp :=
  [⟨some 29, (Op.move (Operand.tmp 7)), 35, none⟩,
   ⟨some 30, (Op.move (Operand.tmp 9)), 3, none⟩,
   ⟨some 31, (Op.buildSlice 35 1 #[(0, (Operand.tmp 30))]), 35, none⟩,
   ⟨some 32, (Op.call { callee := (Callee.builtin Builtin.append), args := #[(Operand.tmp 29), (Operand.tmp 31)], argTypes := #[35, 35] }), 35, none⟩,
   ⟨some 7, (Op.assign (Operand.tmp 32)), 35, none⟩]
def r11_8 : List VOp :=
  [⟨some 33, (Op.move (Operand.tmp 9)), 3, none⟩,
   ⟨some 34, (Op.move (Operand.tmp 1)), 3, none⟩,
   ⟨some 35, (Op.binOp BinOp.add 3 (Operand.tmp 33) (Operand.tmp 34) 3), 3, none⟩,
   ⟨some 9, (Op.assign (Operand.tmp 35)), 3, none⟩]
def r11_9 : List VOp :=
  [⟨some 36, (Op.move (Operand.tmp 8)), 35, none⟩,
   ⟨some 37, (Op.move (Operand.tmp 10)), 3, none⟩,
   ⟨some 38, (Op.buildSlice 35 1 #[(0, (Operand.tmp 37))]), 35, none⟩,
   ⟨some 39, (Op.call { callee := (Callee.builtin Builtin.append), args := #[(Operand.tmp 36), (Operand.tmp 38)], argTypes := #[35, 35] }), 35, none⟩,
   ⟨some 8, (Op.assign (Operand.tmp 39)), 35, none⟩]
def r11_10 : List VOp :=
  [⟨some 40, (Op.move (Operand.tmp 10)), 3, none⟩,
   ⟨some 41, (Op.move (Operand.tmp 2)), 45, none⟩,
   ⟨some 42, (Op.move (Operand.tmp 11)), 3, none⟩,
   ⟨some 43, (Op.indexAddr 45 (Operand.tmp 41) (Operand.tmp 42)), 0, none⟩,
   ⟨some 44, (Op.load 47 (Operand.tmp 43)), 47, none⟩,
   ⟨some 45, (Op.binOp BinOp.and 47 (Operand.tmp 44) (Operand.const (Value.int IntKind.u64 31)) 47), 47, none⟩,
   ⟨some 46, (Op.convert 47 3 (Operand.tmp 45)), 3, none⟩,
   ⟨some 47, (Op.binOp BinOp.add 3 (Operand.tmp 40) (Operand.tmp 46) 3), 3, none⟩,
   ⟨some 10, (Op.assign (Operand.tmp 47)), 3, none⟩]
def r11_6 : List VOp :=
  [⟨some 27, (Op.move (Operand.tmp 11)), 3, none⟩,
   ⟨some 28, (Op.binOp BinOp.add 3 (Operand.tmp 27) (Operand.const (Value.int IntKind.i64 1)) 3), 3, none⟩,
   ⟨some 11, (Op.assign (Operand.tmp 28)), 3, none⟩]
def r11_11 : List VOp :=
  [⟨some 49, (Op.move (Operand.tmp 7)), 35, none⟩,
   ⟨some 50, (Op.call { callee := (Callee.value (Operand.func 28)), args := #[(Operand.tmp 49)], argTypes := #[35] }), 37, none⟩,
   ⟨some 48, (Op.move (Operand.tmp 50)), 37, none⟩,
   ⟨some 51, (Op.extract (Operand.tmp 48) 0), 36, none⟩,
   ⟨some 52, (Op.extract (Operand.tmp 48) 1), 23, none⟩,
   ⟨some 12, (Op.assign (Operand.tmp 51)), 36, none⟩,
   ⟨some 13, (Op.assign (Operand.tmp 52)), 23, none⟩]
def r11_12 : List VOp :=
  [⟨some 54, (Op.move (Operand.tmp 8)), 35, none⟩,
   ⟨some 55, (Op.call { callee := (Callee.value (Operand.func 28)), args := #[(Operand.tmp 54)], argTypes := #[35] }), 37, none⟩,
   ⟨some 53, (Op.move (Operand.tmp 55)), 37, none⟩,
   ⟨some 56, (Op.extract (Operand.tmp 53) 0), 36, none⟩,
   ⟨some 57, (Op.extract (Operand.tmp 53) 1), 23, none⟩,
   ⟨some 14, (Op.assign (Operand.tmp 56)), 36, none⟩,
   ⟨some 15, (Op.assign (Operand.tmp 57)), 23, none⟩]
def r11_13 : List VOp :=
  [⟨some 58, (Op.call { callee := (Callee.value (Operand.func 27)), args := #[], argTypes := #[] }), 4, none⟩,
   ⟨some 59, (Op.move (Operand.tmp 58)), 4, none⟩,
   ⟨some 60, (Op.move (Operand.tmp 13)), 23, some (59, true)⟩,
   ⟨some 61, (Op.binOp BinOp.eql 23 (Operand.tmp 60) (Operand.const (Value.int IntKind.i64 0)) 23), 4, some (59, true)⟩,
   ⟨some 62, (Op.pick (Operand.tmp 59) (Operand.tmp 61) (Operand.const (Value.bool false))), 4, none⟩,
   ⟨some 63, (Op.move (Operand.tmp 62)), 4, none⟩,
   ⟨some 64, (Op.move (Operand.tmp 15)), 23, some (63, true)⟩,
   ⟨some 65, (Op.binOp BinOp.eql 23 (Operand.tmp 64) (Operand.const (Value.int IntKind.i64 0)) 23), 4, some (63, true)⟩,
   ⟨some 66, (Op.pick (Operand.tmp 63) (Operand.tmp 65) (Operand.const (Value.bool false))), 4, none⟩,
   ⟨some 67, (Op.move (Operand.tmp 66)), 4, none⟩,
   ⟨some 68, (Op.move (Operand.tmp 12)), 36, some (67, true)⟩,
   ⟨some 69, (Op.call { callee := (Callee.builtin Builtin.len), args := #[(Operand.tmp 68)], argTypes := #[36] }), 3, some (67, true)⟩,
   ⟨some 70, (Op.binOp BinOp.leq 3 (Operand.tmp 69) (Operand.const (Value.int IntKind.i64 33)) 3), 4, some (67, true)⟩,
   ⟨some 71, (Op.pick (Operand.tmp 67) (Operand.tmp 70) (Operand.const (Value.bool false))), 4, none⟩,
   ⟨some 72, (Op.move (Operand.tmp 71)), 4, none⟩,
   ⟨some 73, (Op.move (Operand.tmp 14)), 36, some (72, true)⟩,
   ⟨some 74, (Op.call { callee := (Callee.builtin Builtin.len), args := #[(Operand.tmp 73)], argTypes := #[36] }), 3, some (72, true)⟩,
   ⟨some 75, (Op.move (Operand.tmp 8)), 35, some (72, true)⟩,
   ⟨some 76, (Op.call { callee := (Callee.builtin Builtin.len), args := #[(Operand.tmp 75)], argTypes := #[35] }), 3, some (72, true)⟩,
   ⟨some 77, (Op.binOp BinOp.mul 3 (Operand.const (Value.int IntKind.i64 5)) (Operand.tmp 76) 3), 3, some (72, true)⟩,
   ⟨some 78, (Op.binOp BinOp.add 3 (Operand.tmp 77) (Operand.const (Value.int IntKind.i64 7)) 3), 3, some (72, true)⟩,
   ⟨some 79, (Op.binOp BinOp.quo 3 (Operand.tmp 78) (Operand.const (Value.int IntKind.i64 8)) 3), 3, some (72, true)⟩,
   ⟨some 80, (Op.binOp BinOp.add 3 (Operand.const (Value.int IntKind.i64 33)) (Operand.tmp 79) 3), 3, some (72, true)⟩,
   ⟨some 81, (Op.binOp BinOp.leq 3 (Operand.tmp 74) (Operand.tmp 80) 3), 4, some (72, true)⟩,
   ⟨some 82, (Op.pick (Operand.tmp 72) (Operand.tmp 81) (Operand.const (Value.bool false))), 4, none⟩,
   ⟨some 6, (Op.assign (Operand.tmp 82)), 4, none⟩]
def B11 : VC :=
  (.seq (.region r11_0) (.seq (.region r11_1) (.seq (.region r11_2) (.seq (.region r11_3) (.seq (.seq (.region r11_4) (.block 0 (.loop (.seq (.seq (.region r11_5) (.cond (Operand.tmp 26) .skip (.exit 0))) (.seq (.block 1 (.seq (.region r11_7) (.seq (.region r11_8) (.seq (.region r11_9) (.region r11_10))))) (.region r11_6)))))) (.seq (.region r11_11) (.seq (.region r11_12) (.seq (.region r11_13) .ret))))))))
theorem code11 : ∃ c, Try.f11.body = some c ∧ abs Try.f11.ntmps c = B11 := ⟨_, rfl, by kernel_rfl⟩
theorem hb11 : HasBody Try.prog 11 := hasBody_of Try.func11 (by kernel_rfl)
theorem res11 : Try.f11.results = #[(ResultVar.tmp 6)] := rfl
theorem enter11 {w : World} {R : Value → World → Prop} (x0 x1 x2 : Value) (h : vc Try.prog B11 (retK Try.prog #[(ResultVar.tmp 6)] R) [] (initEnv [x0, x1, x2] 0) w) : FnC Try.prog 11 #[x0, x1, x2] w R := by
  obtain ⟨c, h1, h2⟩ := code11
  exact hb11.fn (ret_of_vc mixed Try.func11 h1 (Nat.le_of_ble_eq_true rfl) B11 h2 h)
@[push_cast] theorem vr11_0 (Q : Post) (ds : List Deferred) (σ : Env) (w : World) : vc Try.prog (.region r11_0) Q ds σ w = vcOps Try.prog [⟨some 6, (Op.assign (Operand.const (Value.bool false))), 4, none⟩] (Q .normal ds) σ w := mk_eq rfl
@[push_cast] theorem vr11_1 (Q : Post) (ds : List Deferred) (σ : Env) (w : World) : vc Try.prog (.region r11_1) Q ds σ w = vcOps Try.prog [⟨some 7, (Op.assign (Operand.const (Value.slice none 0 0))), 35, none⟩, ⟨some 8, (Op.assign (Operand.const (Value.slice none 0 0))), 35, none⟩] (Q .normal ds) σ w := mk_eq rfl
@[push_cast] theorem vr11_2 (Q : Post) (ds : List Deferred) (σ : Env) (w : World) : vc Try.prog (.region r11_2) Q ds σ w = vcOps Try.prog [⟨some 16, (Op.move (Operand.tmp 0)), 3, none⟩, ⟨some 9, (Op.assign (Operand.tmp 16)), 3, none⟩] (Q .normal ds) σ w := mk_eq rfl
@[push_cast] theorem vr11_3 (Q : Post) (ds : List Deferred) (σ : Env) (w : World) : vc Try.prog (.region r11_3) Q ds σ w = vcOps Try.prog [⟨some 17, (Op.move (Operand.tmp 0)), 3, none⟩, ⟨some 18, (Op.binOp BinOp.shr 3 (Operand.tmp 17) (Operand.const (Value.int IntKind.u64 2)) 46), 3, none⟩, ⟨some 10, (Op.assign (Operand.tmp 18)), 3, none⟩] (Q .normal ds) σ w := mk_eq rfl
@[push_cast] theorem vr11_4 (Q : Post) (ds : List Deferred) (σ : Env) (w : World) : vc Try.prog (.region r11_4) Q ds σ w = vcOps Try.prog [⟨some 11, (Op.assign (Operand.const (Value.int IntKind.i64 0))), 3, none⟩] (Q .normal ds) σ w := mk_eq rfl
@[push_cast] theorem vr11_5 (Q : Post) (ds : List Deferred) (σ : Env) (w : World) : vc Try.prog (.region r11_5) Q ds σ w = vcOps Try.prog [⟨some 19, (Op.move (Operand.tmp 11)), 3, none⟩, ⟨some 20, (Op.move (Operand.tmp 2)), 45, none⟩, ⟨some 21, (Op.call { callee := (Callee.builtin Builtin.len), args := #[(Operand.tmp 20)], argTypes := #[45] }), 3, none⟩, ⟨some 22, (Op.binOp BinOp.lss 3 (Operand.tmp 19) (Operand.tmp 21) 3), 4, none⟩, ⟨some 23, (Op.move (Operand.tmp 22)), 4, none⟩, ⟨some 24, (Op.move (Operand.tmp 11)), 3, some (23, true)⟩, ⟨some 25, (Op.binOp BinOp.lss 3 (Operand.tmp 24) (Operand.const (Value.int IntKind.i64 300)) 3), 4, some (23, true)⟩, ⟨some 26, (Op.pick (Operand.tmp 23) (Operand.tmp 25) (Operand.const (Value.bool false))), 4, none⟩] (Q .normal ds) σ w := mk_eq rfl
@[push_cast] theorem vr11_7 (Q : Post) (ds : List Deferred) (σ : Env) (w : World) : vc Try.prog (.region r11_7) Q ds σ w = vcOps Try.prog [⟨some 29, (Op.move (Operand.tmp 7)), 35, none⟩, ⟨some 30, (Op.move (Operand.tmp 9)), 3, none⟩, ⟨some 31, (Op.buildSlice 35 1 #[(0, (Operand.tmp 30))]), 35, none⟩, ⟨some 32, (Op.call { callee := (Callee.builtin Builtin.append), args := #[(Operand.tmp 29), (Operand.tmp 31)], argTypes := #[35, 35] }), 35, none⟩, ⟨some 7, (Op.assign (Operand.tmp 32)), 35, none⟩] (Q .normal ds) σ w := mk_eq rfl
@[push_cast] theorem vr11_8 (Q : Post) (ds : List Deferred) (σ : Env) (w : World) : vc Try.prog (.region r11_8) Q ds σ w = vcOps Try.prog [⟨some 33, (Op.move (Operand.tmp 9)), 3, none⟩, ⟨some 34, (Op.move (Operand.tmp 1)), 3, none⟩, ⟨some 35, (Op.binOp BinOp.add 3 (Operand.tmp 33) (Operand.tmp 34) 3), 3, none⟩, ⟨some 9, (Op.assign (Operand.tmp 35)), 3, none⟩] (Q .normal ds) σ w := mk_eq rfl
@[push_cast] theorem vr11_9 (Q : Post) (ds : List Deferred) (σ : Env) (w : World) : vc Try.prog (.region r11_9) Q ds σ w = vcOps Try.prog [⟨some 36, (Op.move (Operand.tmp 8)), 35, none⟩, ⟨some 37, (Op.move (Operand.tmp 10)), 3, none⟩, ⟨some 38, (Op.buildSlice 35 1 #[(0, (Operand.tmp 37))]), 35, none⟩, ⟨some 39, (Op.call { callee := (Callee.builtin Builtin.append), args := #[(Operand.tmp 36), (Operand.tmp 38)], argTypes := #[35, 35] }), 35, none⟩, ⟨some 8, (Op.assign (Operand.tmp 39)), 35, none⟩] (Q .normal ds) σ w := mk_eq rfl
@[push_cast] theorem vr11_10 (Q : Post) (ds : List Deferred) (σ : Env) (w : World) : vc Try.prog (.region r11_10) Q ds σ w = vcOps Try.prog [⟨some 40, (Op.move (Operand.tmp 10)), 3, none⟩, ⟨some 41, (Op.move (Operand.tmp 2)), 45, none⟩, ⟨some 42, (Op.move (Operand.tmp 11)), 3, none⟩, ⟨some 43, (Op.indexAddr 45 (Operand.tmp 41) (Operand.tmp 42)), 0, none⟩, ⟨some 44, (Op.load 47 (Operand.tmp 43)), 47, none⟩, ⟨some 45, (Op.binOp BinOp.and 47 (Operand.tmp 44) (Operand.const (Value.int IntKind.u64 31)) 47), 47, none⟩, ⟨some 46, (Op.convert 47 3 (Operand.tmp 45)), 3, none⟩, ⟨some 47, (Op.binOp BinOp.add 3 (Operand.tmp 40) (Operand.tmp 46) 3), 3, none⟩, ⟨some 10, (Op.assign (Operand.tmp 47)), 3, none⟩] (Q .normal ds) σ w := mk_eq rfl
@[push_cast] theorem vr11_6 (Q : Post) (ds : List Deferred) (σ : Env) (w : World) : vc Try.prog (.region r11_6) Q ds σ w = vcOps Try.prog [⟨some 27, (Op.move (Operand.tmp 11)), 3, none⟩, ⟨some 28, (Op.binOp BinOp.add 3 (Operand.tmp 27) (Operand.const (Value.int IntKind.i64 1)) 3), 3, none⟩, ⟨some 11, (Op.assign (Operand.tmp 28)), 3, none⟩] (Q .normal ds) σ w := mk_eq rfl
@[push_cast] theorem vr11_11 (Q : Post) (ds : List Deferred) (σ : Env) (w : World) : vc Try.prog (.region r11_11) Q ds σ w = vcOps Try.prog [⟨some 49, (Op.move (Operand.tmp 7)), 35, none⟩, ⟨some 50, (Op.call { callee := (Callee.value (Operand.func 28)), args := #[(Operand.tmp 49)], argTypes := #[35] }), 37, none⟩, ⟨some 48, (Op.move (Operand.tmp 50)), 37, none⟩, ⟨some 51, (Op.extract (Operand.tmp 48) 0), 36, none⟩, ⟨some 52, (Op.extract (Operand.tmp 48) 1), 23, none⟩, ⟨some 12, (Op.assign (Operand.tmp 51)), 36, none⟩, ⟨some 13, (Op.assign (Operand.tmp 52)), 23, none⟩] (Q .normal ds) σ w := mk_eq rfl
@[push_cast] theorem vr11_12 (Q : Post) (ds : List Deferred) (σ : Env) (w : World) : vc Try.prog (.region r11_12) Q ds σ w = vcOps Try.prog [⟨some 54, (Op.move (Operand.tmp 8)), 35, none⟩, ⟨some 55, (Op.call { callee := (Callee.value (Operand.func 28)), args := #[(Operand.tmp 54)], argTypes := #[35] }), 37, none⟩, ⟨some 53, (Op.move (Operand.tmp 55)), 37, none⟩, ⟨some 56, (Op.extract (Operand.tmp 53) 0), 36, none⟩, ⟨some 57, (Op.extract (Operand.tmp 53) 1), 23, none⟩, ⟨some 14, (Op.assign (Operand.tmp 56)), 36, none⟩, ⟨some 15, (Op.assign (Operand.tmp 57)), 23, none⟩] (Q .normal ds) σ w := mk_eq rfl
@[push_cast] theorem vr11_13 (Q : Post) (ds : List Deferred) (σ : Env) (w : World) : vc Try.prog (.region r11_13) Q ds σ w = vcOps Try.prog [⟨some 58, (Op.call { callee := (Callee.value (Operand.func 27)), args := #[], argTypes := #[] }), 4, none⟩, ⟨some 59, (Op.move (Operand.tmp 58)), 4, none⟩, ⟨some 60, (Op.move (Operand.tmp 13)), 23, some (59, true)⟩, ⟨some 61, (Op.binOp BinOp.eql 23 (Operand.tmp 60) (Operand.const (Value.int IntKind.i64 0)) 23), 4, some (59, true)⟩, ⟨some 62, (Op.pick (Operand.tmp 59) (Operand.tmp 61) (Operand.const (Value.bool false))), 4, none⟩, ⟨some 63, (Op.move (Operand.tmp 62)), 4, none⟩, ⟨some 64, (Op.move (Operand.tmp 15)), 23, some (63, true)⟩, ⟨some 65, (Op.binOp BinOp.eql 23 (Operand.tmp 64) (Operand.const (Value.int IntKind.i64 0)) 23), 4, some (63, true)⟩, ⟨some 66, (Op.pick (Operand.tmp 63) (Operand.tmp 65) (Operand.const (Value.bool false))), 4, none⟩, ⟨some 67, (Op.move (Operand.tmp 66)), 4, none⟩, ⟨some 68, (Op.move (Operand.tmp 12)), 36, some (67, true)⟩, ⟨some 69, (Op.call { callee := (Callee.builtin Builtin.len), args := #[(Operand.tmp 68)], argTypes := #[36] }), 3, some (67, true)⟩, ⟨some 70, (Op.binOp BinOp.leq 3 (Operand.tmp 69) (Operand.const (Value.int IntKind.i64 33)) 3), 4, some (67, true)⟩, ⟨some 71, (Op.pick (Operand.tmp 67) (Operand.tmp 70) (Operand.const (Value.bool false))), 4, none⟩, ⟨some 72, (Op.move (Operand.tmp 71)), 4, none⟩, ⟨some 73, (Op.move (Operand.tmp 14)), 36, some (72, true)⟩, ⟨some 74, (Op.call { callee := (Callee.builtin Builtin.len), args := #[(Operand.tmp 73)], argTypes := #[36] }), 3, some (72, true)⟩, ⟨some 75, (Op.move (Operand.tmp 8)), 35, some (72, true)⟩, ⟨some 76, (Op.call { callee := (Callee.builtin Builtin.len), args := #[(Operand.tmp 75)], argTypes := #[35] }), 3, some (72, true)⟩, ⟨some 77, (Op.binOp BinOp.mul 3 (Operand.const (Value.int IntKind.i64 5)) (Operand.tmp 76) 3), 3, some (72, true)⟩, ⟨some 78, (Op.binOp BinOp.add 3 (Operand.tmp 77) (Operand.const (Value.int IntKind.i64 7)) 3), 3, some (72, true)⟩, ⟨some 79, (Op.binOp BinOp.quo 3 (Operand.tmp 78) (Operand.const (Value.int IntKind.i64 8)) 3), 3, some (72, true)⟩, ⟨some 80, (Op.binOp BinOp.add 3 (Operand.const (Value.int IntKind.i64 33)) (Operand.tmp 79) 3), 3, some (72, true)⟩, ⟨some 81, (Op.binOp BinOp.leq 3 (Operand.tmp 74) (Operand.tmp 80) 3), 4, some (72, true)⟩, ⟨some 82, (Op.pick (Operand.tmp 72) (Operand.tmp 81) (Operand.const (Value.bool false))), 4, none⟩, ⟨some 6, (Op.assign (Operand.tmp 82)), 4, none⟩] (Q .normal ds) σ w := mk_eq rfl
/-! 12 columbary/columbarylaw08.DeltaShift (params #[35, 3], results #[(ResultVar.tmp 4)], 120 slots) -/
def W12_0 : List Nat := [5, 6, 7, 8, 25, 26, 27, 28, 29, 30, 31, 32, 33, 34, 35, 36, 37, 38, 39, 40, 41, 42, 43, 44, 45, 46, 47, 48, 49, 50, 51, 52, 53, 54, 55, 56, 57, 58, 59, 60, 61, 62, 63, 64, 65, 66, 67]
@[push_cast] theorem W12_0_def : W12_0 = [5, 6, 7, 8, 25, 26, 27, 28, 29, 30, 31, 32, 33, 34, 35, 36, 37, 38, 39, 40, 41, 42, 43, 44, 45, 46, 47, 48, 49, 50, 51, 52, 53, 54, 55, 56, 57, 58, 59, 60, 61, 62, 63, 64, 65, 66, 67] := mk_eq rfl
def r12_0 : List VOp :=
  [⟨some 4, (Op.assign (Operand.const (Value.bool false))), 4, none⟩]
def r12_1 : List VOp :=
  [⟨some 16, (Op.move (Operand.tmp 0)), 35, none⟩,
   ⟨some 17, (Op.call { callee := (Callee.builtin Builtin.len), args := #[(Operand.tmp 16)], argTypes := #[35] }), 3, none⟩,
   ⟨some 18, (Op.binOp BinOp.gtr 3 (Operand.tmp 17) (Operand.const (Value.int IntKind.i64 300)) 3), 4, none⟩,
   ⟨some 19, (Op.move (Operand.tmp 18)), 4, none⟩,
   ⟨some 20, (Op.move (Operand.tmp 0)), 35, some (19, false)⟩,
   ⟨some 21, (Op.call { callee := (Callee.builtin Builtin.len), args := #[(Operand.tmp 20)], argTypes := #[35] }), 3, some (19, false)⟩,
   ⟨some 22, (Op.binOp BinOp.eql 3 (Operand.tmp 21) (Operand.const (Value.int IntKind.i64 0)) 3), 4, some (19, false)⟩,
   ⟨some 23, (Op.pick (Operand.tmp 19) (Operand.const (Value.bool true)) (Operand.tmp 22)), 4, none⟩]
def r12_2 : List VOp :=
  [⟨some 24, (Op.call { callee := (Callee.value (Operand.func 27)), args := #[], argTypes := #[] }), 4, none⟩,
   ⟨some 4, (Op.assign (Operand.tmp 24)), 4, none⟩]
def r12_3 : List VOp :=
  [⟨some 5, (Op.assign (Operand.const (Value.slice none 0 0))), 35, none⟩,
   ⟨some 6, (Op.assign (Operand.const (Value.slice none 0 0))), 35, none⟩]
def r12_4 : List VOp :=
  [⟨some 7, (Op.assign (Operand.const (Value.bool true))), 4, none⟩]
def r12_5 : List VOp :=
  [⟨some 8, (Op.assign (Operand.const (Value.int IntKind.i64 0))), 3, none⟩]
def r12_6 : List VOp :=
  [⟨some 25, (Op.move (Operand.tmp 8)), 3, none⟩,
   ⟨some 26, (Op.move (Operand.tmp 0)), 35, none⟩,
   ⟨some 27, (Op.call { callee := (Callee.builtin Builtin.len), args := #[(Operand.tmp 26)], argTypes := #[35] }), 3, none⟩,
   ⟨some 28, (Op.binOp BinOp.lss 3 (Operand.tmp 25) (Operand.tmp 27) 3), 4, none⟩]
def r12_8 : List VOp :=
  [⟨some 31, (Op.move (Operand.tmp 5)), 35, none⟩,
   ⟨some 32, (Op.move (Operand.tmp 0)), 35, none⟩,
   ⟨some 33, (Op.move (Operand.tmp 8)), 3, none⟩,
   ⟨some 34, (Op.indexAddr 35 (Operand.tmp 32) (Operand.tmp 33)), 0, none⟩,
   ⟨some 35, (Op.load 3 (Operand.tmp 34)), 3, none⟩,
   ⟨some 36, (Op.move (Operand.tmp 1)), 3, none⟩,
   ⟨some 37, (Op.binOp BinOp.add 3 (Operand.tmp 35) (Operand.tmp 36) 3), 3, none⟩,
   ⟨some 38, (Op.buildSlice 35 1 #[(0, (Operand.tmp 37))]), 35, none⟩,
   ⟨some 39, (Op.call { callee := (Callee.builtin Builtin.append), args := #[(Operand.tmp 31), (Operand.tmp 38)], argTypes := #[35, 35] }), 35, none⟩,
   ⟨some 5, (Op.assign (Operand.tmp 39)), 35, none⟩]
def r12_9 : List VOp :=
  [⟨some 40, (Op.move (Operand.tmp 6)), 35, none⟩,
   ⟨some 41, (Op.move (Operand.tmp 0)), 35, none⟩,
   ⟨some 42, (Op.move (Operand.tmp 0)), 35, none⟩,
   ⟨some 43, (Op.call { callee := (Callee.builtin Builtin.len), args := #[(Operand.tmp 42)], argTypes := #[35] }), 3, none⟩,
   ⟨some 44, (Op.binOp BinOp.sub 3 (Operand.tmp 43) (Operand.const (Value.int IntKind.i64 1)) 3), 3, none⟩,
   ⟨some 45, (Op.move (Operand.tmp 8)), 3, none⟩,
   ⟨some 46, (Op.binOp BinOp.sub 3 (Operand.tmp 44) (Operand.tmp 45) 3), 3, none⟩,
   ⟨some 47, (Op.indexAddr 35 (Operand.tmp 41) (Operand.tmp 46)), 0, none⟩,
   ⟨some 48, (Op.load 3 (Operand.tmp 47)), 3, none⟩,
   ⟨some 49, (Op.buildSlice 35 1 #[(0, (Operand.tmp 48))]), 35, none⟩,
   ⟨some 50, (Op.call { callee := (Callee.builtin Builtin.append), args := #[(Operand.tmp 40), (Operand.tmp 49)], argTypes := #[35, 35] }), 35, none⟩,
   ⟨some 6, (Op.assign (Operand.tmp 50)), 35, none⟩]
def r12_10 : List VOp :=
  [⟨some 51, (Op.move (Operand.tmp 7)), 4, none⟩,
   ⟨some 52, (Op.move (Operand.tmp 51)), 4, none⟩,
   ⟨some 53, (Op.move (Operand.tmp 8)), 3, some (52, true)⟩,
   ⟨some 54, (Op.binOp BinOp.eql 3 (Operand.tmp 53) (Operand.const (Value.int IntKind.i64 0)) 3), 4, some (52, true)⟩,
   ⟨some 55, (Op.move (Operand.tmp 54)), 4, some (52, true)⟩,
   ⟨some 56, (Op.move (Operand.tmp 0)), 35, some (55, false)⟩,
   ⟨some 57, (Op.move (Operand.tmp 8)), 3, some (55, false)⟩,
   ⟨some 58, (Op.indexAddr 35 (Operand.tmp 56) (Operand.tmp 57)), 0, some (55, false)⟩,
   ⟨some 59, (Op.load 3 (Operand.tmp 58)), 3, some (55, false)⟩,
   ⟨some 60, (Op.move (Operand.tmp 0)), 35, some (55, false)⟩,
   ⟨some 61, (Op.move (Operand.tmp 8)), 3, some (55, false)⟩,
   ⟨some 62, (Op.binOp BinOp.sub 3 (Operand.tmp 61) (Operand.const (Value.int IntKind.i64 1)) 3), 3, some (55, false)⟩,
   ⟨some 63, (Op.indexAddr 35 (Operand.tmp 60) (Operand.tmp 62)), 0, some (55, false)⟩,
   ⟨some 64, (Op.load 3 (Operand.tmp 63)), 3, some (55, false)⟩,
   ⟨some 65, (Op.binOp BinOp.leq 3 (Operand.tmp 59) (Operand.tmp 64) 3), 4, some (55, false)⟩,
   ⟨some 66, (Op.pick (Operand.tmp 55) (Operand.const (Value.bool true)) (Operand.tmp 65)), 4, some (52, true)⟩,
   ⟨some 67, (Op.pick (Operand.tmp 52) (Operand.tmp 66) (Operand.const (Value.bool false))), 4, none⟩,
   ⟨some 7, (Op.assign (Operand.tmp 67)), 4, none⟩]
def r12_7 : List VOp :=
  [⟨some 29, (Op.move (Operand.tmp 8)), 3, none⟩,
   ⟨some 30, (Op.binOp BinOp.add 3 (Operand.tmp 29) (Operand.const (Value.int IntKind.i64 1)) 3), 3, none⟩,
   ⟨some 8, (Op.assign (Operand.tmp 30)), 3, none⟩]
def r12_11 : List VOp :=
  [⟨some 69, (Op.move (Operand.tmp 0)), 35, none⟩,
   ⟨some 70, (Op.call { callee := (Callee.value (Operand.func 28)), args := #[(Operand.tmp 69)], argTypes := #[35] }), 37, none⟩,
   ⟨some 68, (Op.move (Operand.tmp 70)), 37, none⟩,
   ⟨some 71, (Op.extract (Operand.tmp 68) 0), 36, none⟩,
   ⟨some 72, (Op.extract (Operand.tmp 68) 1), 23, none⟩,
   ⟨some 9, (Op.assign (Operand.tmp 71)), 36, none⟩,
   ⟨some 10, (Op.assign (Operand.tmp 72)), 23, none⟩]
def r12_12 : List VOp :=
  [⟨some 74, (Op.move (Operand.tmp 5)), 35, none⟩,
   ⟨some 75, (Op.call { callee := (Callee.value (Operand.func 28)), args := #[(Operand.tmp 74)], argTypes := #[35] }), 37, none⟩,
   ⟨some 73, (Op.move (Operand.tmp 75)), 37, none⟩,
   ⟨some 76, (Op.extract (Operand.tmp 73) 0), 36, none⟩,
   ⟨some 77, (Op.extract (Operand.tmp 73) 1), 23, none⟩,
   ⟨some 11, (Op.assign (Operand.tmp 76)), 36, none⟩,
   ⟨some 12, (Op.assign (Operand.tmp 77)), 23, none⟩]
def r12_13 : List VOp :=
  [⟨some 79, (Op.move (Operand.tmp 11)), 36, none⟩,
   ⟨some 80, (Op.call { callee := (Callee.value (Operand.func 31)), args := #[(Operand.tmp 79)], argTypes := #[36] }), 40, none⟩,
   ⟨some 78, (Op.move (Operand.tmp 80)), 40, none⟩,
   ⟨some 81, (Op.extract (Operand.tmp 78) 0), 35, none⟩,
   ⟨some 82, (Op.extract (Operand.tmp 78) 1), 23, none⟩,
   ⟨some 13, (Op.assign (Operand.tmp 81)), 35, none⟩,
   ⟨some 14, (Op.assign (Operand.tmp 82)), 23, none⟩]
def r12_14 : List VOp :=
  [⟨some 83, (Op.move (Operand.tmp 9)), 36, none⟩,
   ⟨some 84, (Op.call { callee := (Callee.builtin Builtin.len), args := #[(Operand.tmp 83)], argTypes := #[36] }), 3, none⟩,
   ⟨some 85, (Op.move (Operand.tmp 11)), 36, none⟩,
   ⟨some 86, (Op.call { callee := (Callee.builtin Builtin.len), args := #[(Operand.tmp 85)], argTypes := #[36] }), 3, none⟩,
   ⟨some 87, (Op.binOp BinOp.sub 3 (Operand.tmp 84) (Operand.tmp 86) 3), 3, none⟩,
   ⟨some 15, (Op.assign (Operand.tmp 87)), 3, none⟩]
def r12_15 : List VOp :=
  [⟨some 88, (Op.call { callee := (Callee.value (Operand.func 27)), args := #[], argTypes := #[] }), 4, none⟩,
   ⟨some 89, (Op.move (Operand.tmp 88)), 4, none⟩,
   ⟨some 90, (Op.move (Operand.tmp 10)), 23, some (89, true)⟩,
   ⟨some 91, (Op.binOp BinOp.eql 23 (Operand.tmp 90) (Operand.const (Value.int IntKind.i64 0)) 23), 4, some (89, true)⟩,
   ⟨some 92, (Op.pick (Operand.tmp 89) (Operand.tmp 91) (Operand.const (Value.bool false))), 4, none⟩,
   ⟨some 93, (Op.move (Operand.tmp 92)), 4, none⟩,
   ⟨some 94, (Op.move (Operand.tmp 12)), 23, some (93, true)⟩,
   ⟨some 95, (Op.binOp BinOp.eql 23 (Operand.tmp 94) (Operand.const (Value.int IntKind.i64 0)) 23), 4, some (93, true)⟩,
   ⟨some 96, (Op.pick (Operand.tmp 93) (Operand.tmp 95) (Operand.const (Value.bool false))), 4, none⟩,
   ⟨some 97, (Op.move (Operand.tmp 96)), 4, none⟩,
   ⟨some 98, (Op.move (Operand.tmp 14)), 23, some (97, true)⟩,
   ⟨some 99, (Op.binOp BinOp.eql 23 (Operand.tmp 98) (Operand.const (Value.int IntKind.i64 0)) 23), 4, some (97, true)⟩,
   ⟨some 100, (Op.pick (Operand.tmp 97) (Operand.tmp 99) (Operand.const (Value.bool false))), 4, none⟩,
   ⟨some 101, (Op.move (Operand.tmp 100)), 4, none⟩,
   ⟨some 102, (Op.move (Operand.tmp 15)), 3, some (101, true)⟩,
   ⟨some 103, (Op.binOp BinOp.geq 3 (Operand.tmp 102) (Operand.const (Value.int IntKind.i64 (-9))) 3), 4, some (101, true)⟩,
   ⟨some 104, (Op.pick (Operand.tmp 101) (Operand.tmp 103) (Operand.const (Value.bool false))), 4, none⟩,
   ⟨some 105, (Op.move (Operand.tmp 104)), 4, none⟩,
   ⟨some 106, (Op.move (Operand.tmp 15)), 3, some (105, true)⟩,
   ⟨some 107, (Op.binOp BinOp.leq 3 (Operand.tmp 106) (Operand.const (Value.int IntKind.i64 9)) 3), 4, some (105, true)⟩,
   ⟨some 108, (Op.pick (Operand.tmp 105) (Operand.tmp 107) (Operand.const (Value.bool false))), 4, none⟩,
   ⟨some 109, (Op.move (Operand.tmp 108)), 4, none⟩,
   ⟨some 110, (Op.move (Operand.tmp 13)), 35, some (109, true)⟩,
   ⟨some 111, (Op.move (Operand.tmp 5)), 35, some (109, true)⟩,
   ⟨some 112, (Op.call { callee := (Callee.value (Operand.func 33)), args := #[(Operand.tmp 110), (Operand.tmp 111)], argTypes := #[35, 35] }), 4, some (109, true)⟩,
   ⟨some 113, (Op.pick (Operand.tmp 109) (Operand.tmp 112) (Operand.const (Value.bool false))), 4, none⟩,
   ⟨some 114, (Op.move (Operand.tmp 113)), 4, none⟩,
   ⟨some 115, (Op.move (Operand.tmp 6)), 35, some (114, true)⟩,
   ⟨some 116, (Op.call { callee := (Callee.value (Operand.func 30)), args := #[(Operand.tmp 115)], argTypes := #[35] }), 4, some (114, true)⟩,
   ⟨some 117, (Op.move (Operand.tmp 7)), 4, some (114, true)⟩,
   ⟨some 118, (Op.binOp BinOp.eql 4 (Operand.tmp 116) (Operand.tmp 117) 4), 4, some (114, true)⟩,
   ⟨some 119, (Op.pick (Operand.tmp 114) (Operand.tmp 118) (Operand.const (Value.bool false))), 4, none⟩,
   ⟨some 4, (Op.assign (Operand.tmp 119)), 4, none⟩]
def B12 : VC :=
  (.seq (.region r12_0) (.seq (.seq (.region r12_1) (.cond (Operand.tmp 23) (.seq (.region r12_2) .ret) .skip)) (.seq (.region r12_3) (.seq (.region r12_4) (.seq (.seq (.region r12_5) (.block 0 (.loop (.seq (.seq (.region r12_6) (.cond (Operand.tmp 28) .skip (.exit 0))) (.seq (.block 1 (.seq (.region r12_8) (.seq (.region r12_9) (.draw r12_10 5)))) (.region r12_7)))))) (.seq (.region r12_11) (.seq (.region r12_12) (.seq (.region r12_13) (.seq (.region r12_14) (.seq (.region r12_15) .ret))))))))))
theorem code12 : ∃ c, Try.f12.body = some c ∧ abs Try.f12.ntmps c = B12 := ⟨_, rfl, by kernel_rfl⟩
theorem hb12 : HasBody Try.prog 12 := hasBody_of Try.func12 (by kernel_rfl)
theorem res12 : Try.f12.results = #[(ResultVar.tmp 4)] := rfl
theorem enter12 {w : World} {R : Value → World → Prop} (x0 x1 : Value) (h : vc Try.prog B12 (retK Try.prog #[(ResultVar.tmp 4)] R) [] (initEnv [x0, x1] 0) w) : FnC Try.prog 12 #[x0, x1] w R := by
  obtain ⟨c, h1, h2⟩ := code12
  exact hb12.fn (ret_of_vc mixed Try.func12 h1 (Nat.le_of_ble_eq_true rfl) B12 h2 h)
@[push_cast] theorem vr12_0 (Q : Post) (ds : List Deferred) (σ : Env) (w : World) : vc Try.prog (.region r12_0) Q ds σ w = vcOps Try.prog [⟨some 4, (Op.assign (Operand.const (Value.bool false))), 4, none⟩] (Q .normal ds) σ w := mk_eq rfl
@[push_cast] theorem vr12_1 (Q : Post) (ds : List Deferred) (σ : Env) (w : World) : vc Try.prog (.region r12_1) Q ds σ w = vcOps Try.prog [⟨some 16, (Op.move (Operand.tmp 0)), 35, none⟩, ⟨some 17, (Op.call { callee := (Callee.builtin Builtin.len), args := #[(Operand.tmp 16)], argTypes := #[35] }), 3, none⟩, ⟨some 18, (Op.binOp BinOp.gtr 3 (Operand.tmp 17) (Operand.const (Value.int IntKind.i64 300)) 3), 4, none⟩, ⟨some 19, (Op.move (Operand.tmp 18)), 4, none⟩, ⟨some 20, (Op.move (Operand.tmp 0)), 35, some (19, false)⟩, ⟨some 21, (Op.call { callee := (Callee.builtin Builtin.len), args := #[(Operand.tmp 20)], argTypes := #[35] }), 3, some (19, false)⟩, ⟨some 22, (Op.binOp BinOp.eql 3 (Operand.tmp 21) (Operand.const (Value.int IntKind.i64 0)) 3), 4, some (19, false)⟩, ⟨some 23, (Op.pick (Operand.tmp 19) (Operand.const (Value.bool true)) (Operand.tmp 22)), 4, none⟩] (Q .normal ds) σ w := mk_eq rfl
@[push_cast] theorem vr12_2 (Q : Post) (ds : List Deferred) (σ : Env) (w : World) : vc Try.prog (.region r12_2) Q ds σ w = vcOps Try.prog [⟨some 24, (Op.call { callee := (Callee.value (Operand.func 27)), args := #[], argTypes := #[] }), 4, none⟩, ⟨some 4, (Op.assign (Operand.tmp 24)), 4, none⟩] (Q .normal ds) σ w := mk_eq rfl
@[push_cast] theorem vr12_3 (Q : Post) (ds : List Deferred) (σ : Env) (w : World) : vc Try.prog (.region r12_3) Q ds σ w = vcOps Try.prog [⟨some 5, (Op.assign (Operand.const (Value.slice none 0 0))), 35, none⟩, ⟨some 6, (Op.assign (Operand.const (Value.slice none 0 0))), 35, none⟩] (Q .normal ds) σ w := mk_eq rfl
@[push_cast] theorem vr12_4 (Q : Post) (ds : List Deferred) (σ : Env) (w : World) : vc Try.prog (.region r12_4) Q ds σ w = vcOps Try.prog [⟨some 7, (Op.assign (Operand.const (Value.bool true))), 4, none⟩] (Q .normal ds) σ w := mk_eq rfl
@[push_cast] theorem vr12_5 (Q : Post) (ds : List Deferred) (σ : Env) (w : World) : vc Try.prog (.region r12_5) Q ds σ w = vcOps Try.prog [⟨some 8, (Op.assign (Operand.const (Value.int IntKind.i64 0))), 3, none⟩] (Q .normal ds) σ w := mk_eq rfl
@[push_cast] theorem vr12_6 (Q : Post) (ds : List Deferred) (σ : Env) (w : World) : vc Try.prog (.region r12_6) Q ds σ w = vcOps Try.prog [⟨some 25, (Op.move (Operand.tmp 8)), 3, none⟩, ⟨some 26, (Op.move (Operand.tmp 0)), 35, none⟩, ⟨some 27, (Op.call { callee := (Callee.builtin Builtin.len), args := #[(Operand.tmp 26)], argTypes := #[35] }), 3, none⟩, ⟨some 28, (Op.binOp BinOp.lss 3 (Operand.tmp 25) (Operand.tmp 27) 3), 4, none⟩] (Q .normal ds) σ w := mk_eq rfl
@[push_cast] theorem vr12_8 (Q : Post) (ds : List Deferred) (σ : Env) (w : World) : vc Try.prog (.region r12_8) Q ds σ w = vcOps Try.prog [⟨some 31, (Op.move (Operand.tmp 5)), 35, none⟩, ⟨some 32, (Op.move (Operand.tmp 0)), 35, none⟩, ⟨some 33, (Op.move (Operand.tmp 8)), 3, none⟩, ⟨some 34, (Op.indexAddr 35 (Operand.tmp 32) (Operand.tmp 33)), 0, none⟩, ⟨some 35, (Op.load 3 (Operand.tmp 34)), 3, none⟩, ⟨some 36, (Op.move (Operand.tmp 1)), 3, none⟩, ⟨some 37, (Op.binOp BinOp.add 3 (Operand.tmp 35) (Operand.tmp 36) 3), 3, none⟩, ⟨some 38, (Op.buildSlice 35 1 #[(0, (Operand.tmp 37))]), 35, none⟩, ⟨some 39, (Op.call { callee := (Callee.builtin Builtin.append), args := #[(Operand.tmp 31), (Operand.tmp 38)], argTypes := #[35, 35] }), 35, none⟩, ⟨some 5, (Op.assign (Operand.tmp 39)), 35, none⟩] (Q .normal ds) σ w := mk_eq rfl
@[push_cast] theorem vr12_9 (Q : Post) (ds : List Deferred) (σ : Env) (w : World) : vc Try.prog (.region r12_9) Q ds σ w = vcOps Try.prog [⟨some 40, (Op.move (Operand.tmp 6)), 35, none⟩, ⟨some 41, (Op.move (Operand.tmp 0)), 35, none⟩, ⟨some 42, (Op.move (Operand.tmp 0)), 35, none⟩, ⟨some 43, (Op.call { callee := (Callee.builtin Builtin.len), args := #[(Operand.tmp 42)], argTypes := #[35] }), 3, none⟩, ⟨some 44, (Op.binOp BinOp.sub 3 (Operand.tmp 43) (Operand.const (Value.int IntKind.i64 1)) 3), 3, none⟩, ⟨some 45, (Op.move (Operand.tmp 8)), 3, none⟩, ⟨some 46, (Op.binOp BinOp.sub 3 (Operand.tmp 44) (Operand.tmp 45) 3), 3, none⟩, ⟨some 47, (Op.indexAddr 35 (Operand.tmp 41) (Operand.tmp 46)), 0, none⟩, ⟨some 48, (Op.load 3 (Operand.tmp 47)), 3, none⟩, ⟨some 49, (Op.buildSlice 35 1 #[(0, (Operand.tmp 48))]), 35, none⟩, ⟨some 50, (Op.call { callee := (Callee.builtin Builtin.append), args := #[(Operand.tmp 40), (Operand.tmp 49)], argTypes := #[35, 35] }), 35, none⟩, ⟨some 6, (Op.assign (Operand.tmp 50)), 35, none⟩] (Q .normal ds) σ w := mk_eq rfl
@[push_cast] theorem vr12_10 (Q : Post) (ds : List Deferred) (σ : Env) (w : World) : vc Try.prog (.draw r12_10 5) Q ds σ w = drawn Try.prog [(⟨some 51, (Op.move (Operand.tmp 7)), 4, none⟩, [7]), (⟨some 52, (Op.move (Operand.tmp 51)), 4, none⟩, [51]), (⟨some 53, (Op.move (Operand.tmp 8)), 3, some (52, true)⟩, [8, 52]), (⟨some 54, (Op.binOp BinOp.eql 3 (Operand.tmp 53) (Operand.const (Value.int IntKind.i64 0)) 3), 4, some (52, true)⟩, [53, 52]), (⟨some 55, (Op.move (Operand.tmp 54)), 4, some (52, true)⟩, [54, 52]), (⟨some 56, (Op.move (Operand.tmp 0)), 35, some (55, false)⟩, [0, 55]), (⟨some 57, (Op.move (Operand.tmp 8)), 3, some (55, false)⟩, [8, 55]), (⟨some 58, (Op.indexAddr 35 (Operand.tmp 56) (Operand.tmp 57)), 0, some (55, false)⟩, [56, 57, 55]), (⟨some 59, (Op.load 3 (Operand.tmp 58)), 3, some (55, false)⟩, [58, 55]), (⟨some 60, (Op.move (Operand.tmp 0)), 35, some (55, false)⟩, [0, 55]), (⟨some 61, (Op.move (Operand.tmp 8)), 3, some (55, false)⟩, [8, 55]), (⟨some 62, (Op.binOp BinOp.sub 3 (Operand.tmp 61) (Operand.const (Value.int IntKind.i64 1)) 3), 3, some (55, false)⟩, [61, 55]), (⟨some 63, (Op.indexAddr 35 (Operand.tmp 60) (Operand.tmp 62)), 0, some (55, false)⟩, [60, 62, 55]), (⟨some 64, (Op.load 3 (Operand.tmp 63)), 3, some (55, false)⟩, [63, 55]), (⟨some 65, (Op.binOp BinOp.leq 3 (Operand.tmp 59) (Operand.tmp 64) 3), 4, some (55, false)⟩, [59, 64, 55]), (⟨some 66, (Op.pick (Operand.tmp 55) (Operand.const (Value.bool true)) (Operand.tmp 65)), 4, some (52, true)⟩, [55, 65, 52]), (⟨some 67, (Op.pick (Operand.tmp 52) (Operand.tmp 66) (Operand.const (Value.bool false))), 4, none⟩, [52, 66]), (⟨some 7, (Op.assign (Operand.tmp 67)), 4, none⟩, [67])] 5 (Q .normal ds) σ w := mk_eq rfl
@[push_cast] theorem vr12_7 (Q : Post) (ds : List Deferred) (σ : Env) (w : World) : vc Try.prog (.region r12_7) Q ds σ w = vcOps Try.prog [⟨some 29, (Op.move (Operand.tmp 8)), 3, none⟩, ⟨some 30, (Op.binOp BinOp.add 3 (Operand.tmp 29) (Operand.const (Value.int IntKind.i64 1)) 3), 3, none⟩, ⟨some 8, (Op.assign (Operand.tmp 30)), 3, none⟩] (Q .normal ds) σ w := mk_eq rfl
@[push_cast] theorem vr12_11 (Q : Post) (ds : List Deferred) (σ : Env) (w : World) : vc Try.prog (.region r12_11) Q ds σ w = vcOps Try.prog [⟨some 69, (Op.move (Operand.tmp 0)), 35, none⟩, ⟨some 70, (Op.call { callee := (Callee.value (Operand.func 28)), args := #[(Operand.tmp 69)], argTypes := #[35] }), 37, none⟩, ⟨some 68, (Op.move (Operand.tmp 70)), 37, none⟩, ⟨some 71, (Op.extract (Operand.tmp 68) 0), 36, none⟩, ⟨some 72, (Op.extract (Operand.tmp 68) 1), 23, none⟩, ⟨some 9, (Op.assign (Operand.tmp 71)), 36, none⟩, ⟨some 10, (Op.assign (Operand.tmp 72)), 23, none⟩] (Q .normal ds) σ w := mk_eq rfl
@[push_cast] theorem vr12_12 (Q : Post) (ds : List Deferred) (σ : Env) (w : World) : vc Try.prog (.region r12_12) Q ds σ w = vcOps Try.prog [⟨some 74, (Op.move (Operand.tmp 5)), 35, none⟩, ⟨some 75, (Op.call { callee := (Callee.value (Operand.func 28)), args := #[(Operand.tmp 74)], argTypes := #[35] }), 37, none⟩, ⟨some 73, (Op.move (Operand.tmp 75)), 37, none⟩, ⟨some 76, (Op.extract (Operand.tmp 73) 0), 36, none⟩, ⟨some 77, (Op.extract (Operand.tmp 73) 1), 23, none⟩, ⟨some 11, (Op.assign (Operand.tmp 76)), 36, none⟩, ⟨some 12, (Op.assign (Operand.tmp 77)), 23, none⟩] (Q .normal ds) σ w := mk_eq rfl
@[push_cast] theorem vr12_13 (Q : Post) (ds : List Deferred) (σ : Env) (w : World) : vc Try.prog (.region r12_13) Q ds σ w = vcOps Try.prog [⟨some 79, (Op.move (Operand.tmp 11)), 36, none⟩, ⟨some 80, (Op.call { callee := (Callee.value (Operand.func 31)), args := #[(Operand.tmp 79)], argTypes := #[36] }), 40, none⟩, ⟨some 78, (Op.move (Operand.tmp 80)), 40, none⟩, ⟨some 81, (Op.extract (Operand.tmp 78) 0), 35, none⟩, ⟨some 82, (Op.extract (Operand.tmp 78) 1), 23, none⟩, ⟨some 13, (Op.assign (Operand.tmp 81)), 35, none⟩, ⟨some 14, (Op.assign (Operand.tmp 82)), 23, none⟩] (Q .normal ds) σ w := mk_eq rfl
@[push_cast] theorem vr12_14 (Q : Post) (ds : List Deferred) (σ : Env) (w : World) : vc Try.prog (.region r12_14) Q ds σ w = vcOps Try.prog [⟨some 83, (Op.move (Operand.tmp 9)), 36, none⟩, ⟨some 84, (Op.call { callee := (Callee.builtin Builtin.len), args := #[(Operand.tmp 83)], argTypes := #[36] }), 3, none⟩, ⟨some 85, (Op.move (Operand.tmp 11)), 36, none⟩, ⟨some 86, (Op.call { callee := (Callee.builtin Builtin.len), args := #[(Operand.tmp 85)], argTypes := #[36] }), 3, none⟩, ⟨some 87, (Op.binOp BinOp.sub 3 (Operand.tmp 84) (Operand.tmp 86) 3), 3, none⟩, ⟨some 15, (Op.assign (Operand.tmp 87)), 3, none⟩] (Q .normal ds) σ w := mk_eq rfl
@[push_cast] theorem vr12_15 (Q : Post) (ds : List Deferred) (σ : Env) (w : World) : vc Try.prog (.region r12_15) Q ds σ w = vcOps Try.prog [⟨some 88, (Op.call { callee := (Callee.value (Operand.func 27)), args := #[], argTypes := #[] }), 4, none⟩, ⟨some 89, (Op.move (Operand.tmp 88)), 4, none⟩, ⟨some 90, (Op.move (Operand.tmp 10)), 23, some (89, true)⟩, ⟨some 91, (Op.binOp BinOp.eql 23 (Operand.tmp 90) (Operand.const (Value.int IntKind.i64 0)) 23), 4, some (89, true)⟩, ⟨some 92, (Op.pick (Operand.tmp 89) (Operand.tmp 91) (Operand.const (Value.bool false))), 4, none⟩, ⟨some 93, (Op.move (Operand.tmp 92)), 4, none⟩, ⟨some 94, (Op.move (Operand.tmp 12)), 23, some (93, true)⟩, ⟨some 95, (Op.binOp BinOp.eql 23 (Operand.tmp 94) (Operand.const (Value.int IntKind.i64 0)) 23), 4, some (93, true)⟩, ⟨some 96, (Op.pick (Operand.tmp 93) (Operand.tmp 95) (Operand.const (Value.bool false))), 4, none⟩, ⟨some 97, (Op.move (Operand.tmp 96)), 4, none⟩, ⟨some 98, (Op.move (Operand.tmp 14)), 23, some (97, true)⟩, ⟨some 99, (Op.binOp BinOp.eql 23 (Operand.tmp 98) (Operand.const (Value.int IntKind.i64 0)) 23), 4, some (97, true)⟩, ⟨some 100, (Op.pick (Operand.tmp 97) (Operand.tmp 99) (Operand.const (Value.bool false))), 4, none⟩, ⟨some 101, (Op.move (Operand.tmp 100)), 4, none⟩, ⟨some 102, (Op.move (Operand.tmp 15)), 3, some (101, true)⟩, ⟨some 103, (Op.binOp BinOp.geq 3 (Operand.tmp 102) (Operand.const (Value.int IntKind.i64 (-9))) 3), 4, some (101, true)⟩, ⟨some 104, (Op.pick (Operand.tmp 101) (Operand.tmp 103) (Operand.const (Value.bool false))), 4, none⟩, ⟨some 105, (Op.move (Operand.tmp 104)), 4, none⟩, ⟨some 106, (Op.move (Operand.tmp 15)), 3, some (105, true)⟩, ⟨some 107, (Op.binOp BinOp.leq 3 (Operand.tmp 106) (Operand.const (Value.int IntKind.i64 9)) 3), 4, some (105, true)⟩, ⟨some 108, (Op.pick (Operand.tmp 105) (Operand.tmp 107) (Operand.const (Value.bool false))), 4, none⟩, ⟨some 109, (Op.move (Operand.tmp 108)), 4, none⟩, ⟨some 110, (Op.move (Operand.tmp 13)), 35, some (109, true)⟩, ⟨some 111, (Op.move (Operand.tmp 5)), 35, some (109, true)⟩, ⟨some 112, (Op.call { callee := (Callee.value (Operand.func 33)), args := #[(Operand.tmp 110), (Operand.tmp 111)], argTypes := #[35, 35] }), 4, some (109, true)⟩, ⟨some 113, (Op.pick (Operand.tmp 109) (Operand.tmp 112) (Operand.const (Value.bool false))), 4, none⟩, ⟨some 114, (Op.move (Operand.tmp 113)), 4, none⟩, ⟨some 115, (Op.move (Operand.tmp 6)), 35, some (114, true)⟩, ⟨some 116, (Op.call { callee := (Callee.value (Operand.func 30)), args := #[(Operand.tmp 115)], argTypes := #[35] }), 4, some (114, true)⟩, ⟨some 117, (Op.move (Operand.tmp 7)), 4, some (114, true)⟩, ⟨some 118, (Op.binOp BinOp.eql 4 (Operand.tmp 116) (Operand.tmp 117) 4), 4, some (114, true)⟩, ⟨some 119, (Op.pick (Operand.tmp 114) (Operand.tmp 118) (Operand.const (Value.bool false))), 4, none⟩, ⟨some 4, (Op.assign (Operand.tmp 119)), 4, none⟩] (Q .normal ds) σ w := mk_eq rfl
/-! 27 columbary/columbarylaw08.alive (params #[], results #[(ResultVar.tmp 0)], 46 slots) -/
def r27_0 : List VOp :=
  [⟨some 0, (Op.assign (Operand.const (Value.bool false))), 4, none⟩]
def r27_1 : List VOp :=
  [⟨some 6, (Op.buildSlice 35 4 #[(0, (Operand.const (Value.int IntKind.i64 10))), (1, (Operand.const (Value.int IntKind.i64 13))), (2, (Operand.const (Value.int IntKind.i64 15))), (3, (Operand.const (Value.int IntKind.i64 20)))]), 35, none⟩,
   ⟨some 7, (Op.call { callee := (Callee.value (Operand.func 28)), args := #[(Operand.tmp 6)], argTypes := #[35] }), 37, none⟩,
   ⟨some 5, (Op.move (Operand.tmp 7)), 37, none⟩,
   ⟨some 8, (Op.extract (Operand.tmp 5) 0), 36, none⟩,
   ⟨some 9, (Op.extract (Operand.tmp 5) 1), 23, none⟩,
   ⟨some 1, (Op.assign (Operand.tmp 8)), 36, none⟩,
   ⟨some 2, (Op.assign (Operand.tmp 9)), 23, none⟩]
def r27_2 : List VOp :=
  [⟨some 11, (Op.move (Operand.tmp 1)), 36, none⟩,
   ⟨some 12, (Op.call { callee := (Callee.value (Operand.func 31)), args := #[(Operand.tmp 11)], argTypes := #[36] }), 40, none⟩,
   ⟨some 10, (Op.move (Operand.tmp 12)), 40, none⟩,
   ⟨some 13, (Op.extract (Operand.tmp 10) 0), 35, none⟩,
   ⟨some 14, (Op.extract (Operand.tmp 10) 1), 23, none⟩,
   ⟨some 3, (Op.assign (Operand.tmp 13)), 35, none⟩,
   ⟨some 4, (Op.assign (Operand.tmp 14)), 23, none⟩]
def r27_3 : List VOp :=
  [⟨some 15, (Op.move (Operand.tmp 2)), 23, none⟩,
   ⟨some 16, (Op.binOp BinOp.eql 23 (Operand.tmp 15) (Operand.const (Value.int IntKind.i64 0)) 23), 4, none⟩,
   ⟨some 17, (Op.move (Operand.tmp 16)), 4, none⟩,
   ⟨some 18, (Op.move (Operand.tmp 4)), 23, some (17, true)⟩,
   ⟨some 19, (Op.binOp BinOp.eql 23 (Operand.tmp 18) (Operand.const (Value.int IntKind.i64 0)) 23), 4, some (17, true)⟩,
   ⟨some 20, (Op.pick (Operand.tmp 17) (Operand.tmp 19) (Operand.const (Value.bool false))), 4, none⟩,
   ⟨some 21, (Op.move (Operand.tmp 20)), 4, none⟩,
   ⟨some 22, (Op.move (Operand.tmp 1)), 36, some (21, true)⟩,
   ⟨some 23, (Op.convert 36 9 (Operand.tmp 22)), 9, some (21, true)⟩,
   ⟨some 24, (Op.binOp BinOp.eql 9 (Operand.tmp 23) (Operand.const (Value.string { data := #[8, 20, 4, 4, 49] })) 9), 4, some (21, true)⟩,
   ⟨some 25, (Op.pick (Operand.tmp 21) (Operand.tmp 24) (Operand.const (Value.bool false))), 4, none⟩,
   ⟨some 26, (Op.move (Operand.tmp 25)), 4, none⟩,
   ⟨some 27, (Op.move (Operand.tmp 3)), 35, some (26, true)⟩,
   ⟨some 28, (Op.call { callee := (Callee.builtin Builtin.len), args := #[(Operand.tmp 27)], argTypes := #[35] }), 3, some (26, true)⟩,
   ⟨some 29, (Op.binOp BinOp.eql 3 (Operand.tmp 28) (Operand.const (Value.int IntKind.i64 4)) 3), 4, some (26, true)⟩,
   ⟨some 30, (Op.pick (Operand.tmp 26) (Operand.tmp 29) (Operand.const (Value.bool false))), 4, none⟩,
   ⟨some 31, (Op.move (Operand.tmp 30)), 4, none⟩,
   ⟨some 32, (Op.move (Operand.tmp 3)), 35, some (31, true)⟩,
   ⟨some 33, (Op.indexAddr 35 (Operand.tmp 32) (Operand.const (Value.int IntKind.i64 3))), 0, some (31, true)⟩,
   ⟨some 34, (Op.load 3 (Operand.tmp 33)), 3, some (31, true)⟩,
   ⟨some 35, (Op.binOp BinOp.eql 3 (Operand.tmp 34) (Operand.const (Value.int IntKind.i64 20)) 3), 4, some (31, true)⟩,
   ⟨some 36, (Op.pick (Operand.tmp 31) (Operand.tmp 35) (Operand.const (Value.bool false))), 4, none⟩,
   ⟨some 37, (Op.move (Operand.tmp 36)), 4, none⟩,
   ⟨some 38, (Op.move (Operand.tmp 3)), 35, some (37, true)⟩,
   ⟨some 39, (Op.call { callee := (Callee.value (Operand.func 30)), args := #[(Operand.tmp 38)], argTypes := #[35] }), 4, some (37, true)⟩,
   ⟨some 40, (Op.pick (Operand.tmp 37) (Operand.tmp 39) (Operand.const (Value.bool false))), 4, none⟩,
   ⟨some 41, (Op.move (Operand.tmp 40)), 4, none⟩,
   ⟨some 42, (Op.buildSlice 35 2 #[(0, (Operand.const (Value.int IntKind.i64 2))), (1, (Operand.const (Value.int IntKind.i64 1)))]), 35, some (41, true)⟩,
   ⟨some 43, (Op.call { callee := (Callee.value (Operand.func 30)), args := #[(Operand.tmp 42)], argTypes := #[35] }), 4, some (41, true)⟩,
   ⟨some 44, (Op.unOp UnOp.not 4 (Operand.tmp 43)), 4, some (41, true)⟩,
   ⟨some 45, (Op.pick (Operand.tmp 41) (Operand.tmp 44) (Operand.const (Value.bool false))), 4, none⟩,
   ⟨some 0, (Op.assign (Operand.tmp 45)), 4, none⟩]
def B27 : VC :=
  (.seq (.region r27_0) (.seq (.region r27_1) (.seq (.region r27_2) (.seq (.region r27_3) .ret))))
theorem code27 : ∃ c, Try.f27.body = some c ∧ abs Try.f27.ntmps c = B27 := ⟨_, rfl, by kernel_rfl⟩
theorem hb27 : HasBody Try.prog 27 := hasBody_of Try.func27 (by kernel_rfl)
theorem res27 : Try.f27.results = #[(ResultVar.tmp 0)] := rfl
theorem enter27 {w : World} {R : Value → World → Prop} (h : vc Try.prog B27 (retK Try.prog #[(ResultVar.tmp 0)] R) [] (initEnv [] 0) w) : FnC Try.prog 27 #[] w R := by
  obtain ⟨c, h1, h2⟩ := code27
  exact hb27.fn (ret_of_vc mixed Try.func27 h1 (Nat.le_of_ble_eq_true rfl) B27 h2 h)
@[push_cast] theorem vr27_0 (Q : Post) (ds : List Deferred) (σ : Env) (w : World) : vc Try.prog (.region r27_0) Q ds σ w = vcOps Try.prog [⟨some 0, (Op.assign (Operand.const (Value.bool false))), 4, none⟩] (Q .normal ds) σ w := mk_eq rfl
@[push_cast] theorem vr27_1 (Q : Post) (ds : List Deferred) (σ : Env) (w : World) : vc Try.prog (.region r27_1) Q ds σ w = vcOps Try.prog [⟨some 6, (Op.buildSlice 35 4 #[(0, (Operand.const (Value.int IntKind.i64 10))), (1, (Operand.const (Value.int IntKind.i64 13))), (2, (Operand.const (Value.int IntKind.i64 15))), (3, (Operand.const (Value.int IntKind.i64 20)))]), 35, none⟩, ⟨some 7, (Op.call { callee := (Callee.value (Operand.func 28)), args := #[(Operand.tmp 6)], argTypes := #[35] }), 37, none⟩, ⟨some 5, (Op.move (Operand.tmp 7)), 37, none⟩, ⟨some 8, (Op.extract (Operand.tmp 5) 0), 36, none⟩, ⟨some 9, (Op.extract (Operand.tmp 5) 1), 23, none⟩, ⟨some 1, (Op.assign (Operand.tmp 8)), 36, none⟩, ⟨some 2, (Op.assign (Operand.tmp 9)), 23, none⟩] (Q .normal ds) σ w := mk_eq rfl
@[push_cast] theorem vr27_2 (Q : Post) (ds : List Deferred) (σ : Env) (w : World) : vc Try.prog (.region r27_2) Q ds σ w = vcOps Try.prog [⟨some 11, (Op.move (Operand.tmp 1)), 36, none⟩, ⟨some 12, (Op.call { callee := (Callee.value (Operand.func 31)), args := #[(Operand.tmp 11)], argTypes := #[36] }), 40, none⟩, ⟨some 10, (Op.move (Operand.tmp 12)), 40, none⟩, ⟨some 13, (Op.extract (Operand.tmp 10) 0), 35, none⟩, ⟨some 14, (Op.extract (Operand.tmp 10) 1), 23, none⟩, ⟨some 3, (Op.assign (Operand.tmp 13)), 35, none⟩, ⟨some 4, (Op.assign (Operand.tmp 14)), 23, none⟩] (Q .normal ds) σ w := mk_eq rfl
@[push_cast] theorem vr27_3 (Q : Post) (ds : List Deferred) (σ : Env) (w : World) : vc Try.prog (.region r27_3) Q ds σ w = vcOps Try.prog [⟨some 15, (Op.move (Operand.tmp 2)), 23, none⟩, ⟨some 16, (Op.binOp BinOp.eql 23 (Operand.tmp 15) (Operand.const (Value.int IntKind.i64 0)) 23), 4, none⟩, ⟨some 17, (Op.move (Operand.tmp 16)), 4, none⟩, ⟨some 18, (Op.move (Operand.tmp 4)), 23, some (17, true)⟩, ⟨some 19, (Op.binOp BinOp.eql 23 (Operand.tmp 18) (Operand.const (Value.int IntKind.i64 0)) 23), 4, some (17, true)⟩, ⟨some 20, (Op.pick (Operand.tmp 17) (Operand.tmp 19) (Operand.const (Value.bool false))), 4, none⟩, ⟨some 21, (Op.move (Operand.tmp 20)), 4, none⟩, ⟨some 22, (Op.move (Operand.tmp 1)), 36, some (21, true)⟩, ⟨some 23, (Op.convert 36 9 (Operand.tmp 22)), 9, some (21, true)⟩, ⟨some 24, (Op.binOp BinOp.eql 9 (Operand.tmp 23) (Operand.const (Value.string { data := #[8, 20, 4, 4, 49] })) 9), 4, some (21, true)⟩, ⟨some 25, (Op.pick (Operand.tmp 21) (Operand.tmp 24) (Operand.const (Value.bool false))), 4, none⟩, ⟨some 26, (Op.move (Operand.tmp 25)), 4, none⟩, ⟨some 27, (Op.move (Operand.tmp 3)), 35, some (26, true)⟩, ⟨some 28, (Op.call { callee := (Callee.builtin Builtin.len), args := #[(Operand.tmp 27)], argTypes := #[35] }), 3, some (26, true)⟩, ⟨some 29, (Op.binOp BinOp.eql 3 (Operand.tmp 28) (Operand.const (Value.int IntKind.i64 4)) 3), 4, some (26, true)⟩, ⟨some 30, (Op.pick (Operand.tmp 26) (Operand.tmp 29) (Operand.const (Value.bool false))), 4, none⟩, ⟨some 31, (Op.move (Operand.tmp 30)), 4, none⟩, ⟨some 32, (Op.move (Operand.tmp 3)), 35, some (31, true)⟩, ⟨some 33, (Op.indexAddr 35 (Operand.tmp 32) (Operand.const (Value.int IntKind.i64 3))), 0, some (31, true)⟩, ⟨some 34, (Op.load 3 (Operand.tmp 33)), 3, some (31, true)⟩, ⟨some 35, (Op.binOp BinOp.eql 3 (Operand.tmp 34) (Operand.const (Value.int IntKind.i64 20)) 3), 4, some (31, true)⟩, ⟨some 36, (Op.pick (Operand.tmp 31) (Operand.tmp 35) (Operand.const (Value.bool false))), 4, none⟩, ⟨some 37, (Op.move (Operand.tmp 36)), 4, none⟩, ⟨some 38, (Op.move (Operand.tmp 3)), 35, some (37, true)⟩, ⟨some 39, (Op.call { callee := (Callee.value (Operand.func 30)), args := #[(Operand.tmp 38)], argTypes := #[35] }), 4, some (37, true)⟩, ⟨some 40, (Op.pick (Operand.tmp 37) (Operand.tmp 39) (Operand.const (Value.bool false))), 4, none⟩, ⟨some 41, (Op.move (Operand.tmp 40)), 4, none⟩, ⟨some 42, (Op.buildSlice 35 2 #[(0, (Operand.const (Value.int IntKind.i64 2))), (1, (Operand.const (Value.int IntKind.i64 1)))]), 35, some (41, true)⟩, ⟨some 43, (Op.call { callee := (Callee.value (Operand.func 30)), args := #[(Operand.tmp 42)], argTypes := #[35] }), 4, some (41, true)⟩, ⟨some 44, (Op.unOp UnOp.not 4 (Operand.tmp 43)), 4, some (41, true)⟩, ⟨some 45, (Op.pick (Operand.tmp 41) (Operand.tmp 44) (Operand.const (Value.bool false))), 4, none⟩, ⟨some 0, (Op.assign (Operand.tmp 45)), 4, none⟩] (Q .normal ds) σ w := mk_eq rfl
@[push_cast] theorem bsl35_1_CodesDL {K : Value → World → Prop} {w : World} (x0 : Int) : vBuildSlice Try.prog 35 1 #[(0, (.int .i64 x0))] K w = K (.slice (some ⟨w.heap.size, 0, none⟩) 1 1) (w.alloc (.cells #[(.int .i64 x0)] 3)) :=
  vBuildSlice_ok Try.underlying35 ti3 (by kernel_rfl) (by decide)
@[push_cast] theorem bsl35_2_CodesDL {K : Value → World → Prop} {w : World} (x0 : Int) (x1 : Int) : vBuildSlice Try.prog 35 2 #[(0, (.int .i64 x0)), (1, (.int .i64 x1))] K w = K (.slice (some ⟨w.heap.size, 0, none⟩) 2 2) (w.alloc (.cells #[(.int .i64 x0), (.int .i64 x1)] 3)) :=
  vBuildSlice_ok Try.underlying35 ti3 (by kernel_rfl) (by decide)
@[push_cast] theorem bsl35_4_CodesDL {K : Value → World → Prop} {w : World} (x0 : Int) (x1 : Int) (x2 : Int) (x3 : Int) : vBuildSlice Try.prog 35 4 #[(0, (.int .i64 x0)), (1, (.int .i64 x1)), (2, (.int .i64 x2)), (3, (.int .i64 x3))] K w = K (.slice (some ⟨w.heap.size, 0, none⟩) 4 4) (w.alloc (.cells #[(.int .i64 x0), (.int .i64 x1), (.int .i64 x2), (.int .i64 x3)] 3)) :=
  vBuildSlice_ok Try.underlying35 ti3 (by kernel_rfl) (by decide)
end Go.Proofs.Ytdfdohajjgjbdaa
