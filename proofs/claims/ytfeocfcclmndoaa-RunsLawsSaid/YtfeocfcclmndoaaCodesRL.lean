/- The functions' code in the generator's form. Written by a program (codes.py) out of Lean's own print of the loaded translation. -/
import Derived.Test.YtfeocfcclmndoaaTypes
namespace Go.Proofs.Ytfeocfcclmndoaa
open Go.Vc
set_option maxRecDepth 100000
/-! 5 columbary/columbarylaw04.RunsRank (params #[22, 3, 3], results #[(ResultVar.tmp 6)], 85 slots) -/
def r5_0 : List VOp :=
  [⟨some 6, (Op.assign (Operand.const (Value.bool false))), 4, none⟩]
def r5_1 : List VOp :=
  [⟨some 11, (Op.move (Operand.tmp 0)), 22, none⟩,
   ⟨some 12, (Op.call { callee := (Callee.value (Operand.func 15)), args := #[(Operand.tmp 11)], argTypes := #[22] }), 4, none⟩,
   ⟨some 7, (Op.assign (Operand.tmp 12)), 4, none⟩]
def r5_2 : List VOp :=
  [⟨some 13, (Op.move (Operand.tmp 7)), 4, none⟩,
   ⟨some 14, (Op.unOp UnOp.not 4 (Operand.tmp 13)), 4, none⟩]
def r5_3 : List VOp :=
  [⟨some 15, (Op.call { callee := (Callee.value (Operand.func 30)), args := #[], argTypes := #[] }), 4, none⟩,
   ⟨some 6, (Op.assign (Operand.tmp 15)), 4, none⟩]
def r5_4 : List VOp :=
  [⟨some 17, (Op.move (Operand.tmp 0)), 22, none⟩,
   ⟨some 18, (Op.move (Operand.tmp 1)), 3, none⟩,
   ⟨some 19, (Op.call { callee := (Callee.value (Operand.func 31)), args := #[(Operand.tmp 17), (Operand.tmp 18)], argTypes := #[22, 3] }), 44, none⟩,
   ⟨some 16, (Op.move (Operand.tmp 19)), 44, none⟩,
   ⟨some 20, (Op.extract (Operand.tmp 16) 0), 3, none⟩,
   ⟨some 21, (Op.extract (Operand.tmp 16) 1), 4, none⟩,
   ⟨some 8, (Op.assign (Operand.tmp 20)), 3, none⟩,
   ⟨some 9, (Op.assign (Operand.tmp 21)), 4, none⟩]
def r5_5 : List VOp :=
  [⟨some 22, (Op.move (Operand.tmp 9)), 4, none⟩,
   ⟨some 23, (Op.move (Operand.tmp 1)), 3, none⟩,
   ⟨some 24, (Op.binOp BinOp.geq 3 (Operand.tmp 23) (Operand.const (Value.int IntKind.i64 0)) 3), 4, none⟩,
   ⟨some 25, (Op.move (Operand.tmp 24)), 4, none⟩,
   ⟨some 26, (Op.move (Operand.tmp 1)), 3, some (25, true)⟩,
   ⟨some 27, (Op.move (Operand.tmp 0)), 22, some (25, true)⟩,
   ⟨some 28, (Op.call { callee := (Callee.value (Operand.func 32)), args := #[(Operand.tmp 27)], argTypes := #[22] }), 3, some (25, true)⟩,
   ⟨some 29, (Op.binOp BinOp.lss 3 (Operand.tmp 26) (Operand.tmp 28) 3), 4, some (25, true)⟩,
   ⟨some 30, (Op.pick (Operand.tmp 25) (Operand.tmp 29) (Operand.const (Value.bool false))), 4, none⟩,
   ⟨some 31, (Op.binOp BinOp.neq 4 (Operand.tmp 22) (Operand.tmp 30) 4), 4, none⟩,
   ⟨some 32, (Op.move (Operand.tmp 31)), 4, none⟩,
   ⟨some 33, (Op.move (Operand.tmp 9)), 4, some (32, false)⟩,
   ⟨some 34, (Op.move (Operand.tmp 33)), 4, some (32, false)⟩,
   ⟨some 35, (Op.move (Operand.tmp 0)), 22, some (34, true)⟩,
   ⟨some 36, (Op.move (Operand.tmp 8)), 3, some (34, true)⟩,
   ⟨some 37, (Op.call { callee := (Callee.value (Operand.func 33)), args := #[(Operand.tmp 35), (Operand.tmp 36)], argTypes := #[22, 3] }), 4, some (34, true)⟩,
   ⟨some 38, (Op.unOp UnOp.not 4 (Operand.tmp 37)), 4, some (34, true)⟩,
   ⟨some 39, (Op.move (Operand.tmp 38)), 4, some (34, true)⟩,
   ⟨some 40, (Op.move (Operand.tmp 0)), 22, some (39, false)⟩,
   ⟨some 41, (Op.move (Operand.tmp 8)), 3, some (39, false)⟩,
   ⟨some 42, (Op.call { callee := (Callee.value (Operand.func 34)), args := #[(Operand.tmp 40), (Operand.tmp 41)], argTypes := #[22, 3] }), 3, some (39, false)⟩,
   ⟨some 43, (Op.move (Operand.tmp 1)), 3, some (39, false)⟩,
   ⟨some 44, (Op.binOp BinOp.neq 3 (Operand.tmp 42) (Operand.tmp 43) 3), 4, some (39, false)⟩,
   ⟨some 45, (Op.pick (Operand.tmp 39) (Operand.const (Value.bool true)) (Operand.tmp 44)), 4, some (34, true)⟩,
   ⟨some 46, (Op.pick (Operand.tmp 34) (Operand.tmp 45) (Operand.const (Value.bool false))), 4, some (32, false)⟩,
   ⟨some 47, (Op.pick (Operand.tmp 32) (Operand.const (Value.bool true)) (Operand.tmp 46)), 4, none⟩]
def r5_6 : List VOp :=
  [⟨some 6, (Op.assign (Operand.const (Value.bool false))), 4, none⟩]
def r5_7 : List VOp :=
  [⟨some 48, (Op.move (Operand.tmp 0)), 22, none⟩,
   ⟨some 49, (Op.move (Operand.tmp 2)), 3, none⟩,
   ⟨some 50, (Op.call { callee := (Callee.value (Operand.func 36)), args := #[(Operand.tmp 49)], argTypes := #[3] }), 22, none⟩,
   ⟨some 51, (Op.call { callee := (Callee.value (Operand.func 35)), args := #[(Operand.tmp 48), (Operand.tmp 50)], argTypes := #[22, 22] }), 22, none⟩,
   ⟨some 10, (Op.assign (Operand.tmp 51)), 22, none⟩]
def r5_8 : List VOp :=
  [⟨some 52, (Op.call { callee := (Callee.value (Operand.func 30)), args := #[], argTypes := #[] }), 4, none⟩,
   ⟨some 53, (Op.move (Operand.tmp 52)), 4, none⟩,
   ⟨some 54, (Op.move (Operand.tmp 0)), 22, some (53, true)⟩,
   ⟨some 55, (Op.move (Operand.tmp 2)), 3, some (53, true)⟩,
   ⟨some 56, (Op.call { callee := (Callee.value (Operand.func 34)), args := #[(Operand.tmp 54), (Operand.tmp 55)], argTypes := #[22, 3] }), 3, some (53, true)⟩,
   ⟨some 57, (Op.move (Operand.tmp 10)), 22, some (53, true)⟩,
   ⟨some 58, (Op.call { callee := (Callee.value (Operand.func 32)), args := #[(Operand.tmp 57)], argTypes := #[22] }), 3, some (53, true)⟩,
   ⟨some 59, (Op.binOp BinOp.eql 3 (Operand.tmp 56) (Operand.tmp 58) 3), 4, some (53, true)⟩,
   ⟨some 60, (Op.pick (Operand.tmp 53) (Operand.tmp 59) (Operand.const (Value.bool false))), 4, none⟩,
   ⟨some 61, (Op.move (Operand.tmp 60)), 4, none⟩,
   ⟨some 62, (Op.move (Operand.tmp 0)), 22, some (61, true)⟩,
   ⟨some 63, (Op.move (Operand.tmp 2)), 3, some (61, true)⟩,
   ⟨some 64, (Op.call { callee := (Callee.value (Operand.func 33)), args := #[(Operand.tmp 62), (Operand.tmp 63)], argTypes := #[22, 3] }), 4, some (61, true)⟩,
   ⟨some 65, (Op.move (Operand.tmp 0)), 22, some (61, true)⟩,
   ⟨some 66, (Op.move (Operand.tmp 2)), 3, some (61, true)⟩,
   ⟨some 67, (Op.call { callee := (Callee.builtin Builtin.min), args := #[(Operand.tmp 66), (Operand.const (Value.int IntKind.i64 65536))], argTypes := #[3, 3] }), 3, some (61, true)⟩,
   ⟨some 68, (Op.binOp BinOp.add 3 (Operand.tmp 67) (Operand.const (Value.int IntKind.i64 1)) 3), 3, some (61, true)⟩,
   ⟨some 69, (Op.call { callee := (Callee.value (Operand.func 34)), args := #[(Operand.tmp 65), (Operand.tmp 68)], argTypes := #[22, 3] }), 3, some (61, true)⟩,
   ⟨some 70, (Op.move (Operand.tmp 0)), 22, some (61, true)⟩,
   ⟨some 71, (Op.move (Operand.tmp 2)), 3, some (61, true)⟩,
   ⟨some 72, (Op.call { callee := (Callee.value (Operand.func 34)), args := #[(Operand.tmp 70), (Operand.tmp 71)], argTypes := #[22, 3] }), 3, some (61, true)⟩,
   ⟨some 73, (Op.binOp BinOp.add 3 (Operand.tmp 72) (Operand.const (Value.int IntKind.i64 1)) 3), 3, some (61, true)⟩,
   ⟨some 74, (Op.binOp BinOp.eql 3 (Operand.tmp 69) (Operand.tmp 73) 3), 4, some (61, true)⟩,
   ⟨some 75, (Op.move (Operand.tmp 74)), 4, some (61, true)⟩,
   ⟨some 76, (Op.move (Operand.tmp 2)), 3, some (75, true)⟩,
   ⟨some 77, (Op.binOp BinOp.geq 3 (Operand.tmp 76) (Operand.const (Value.int IntKind.i64 0)) 3), 4, some (75, true)⟩,
   ⟨some 78, (Op.pick (Operand.tmp 75) (Operand.tmp 77) (Operand.const (Value.bool false))), 4, some (61, true)⟩,
   ⟨some 79, (Op.move (Operand.tmp 78)), 4, some (61, true)⟩,
   ⟨some 80, (Op.move (Operand.tmp 2)), 3, some (79, true)⟩,
   ⟨some 81, (Op.binOp BinOp.lss 3 (Operand.tmp 80) (Operand.const (Value.int IntKind.i64 65536)) 3), 4, some (79, true)⟩,
   ⟨some 82, (Op.pick (Operand.tmp 79) (Operand.tmp 81) (Operand.const (Value.bool false))), 4, some (61, true)⟩,
   ⟨some 83, (Op.binOp BinOp.eql 4 (Operand.tmp 64) (Operand.tmp 82) 4), 4, some (61, true)⟩,
   ⟨some 84, (Op.pick (Operand.tmp 61) (Operand.tmp 83) (Operand.const (Value.bool false))), 4, none⟩,
   ⟨some 6, (Op.assign (Operand.tmp 84)), 4, none⟩]
def B5 : VC :=
  (.seq (.region r5_0) (.seq (.region r5_1) (.seq (.seq (.region r5_2) (.cond (Operand.tmp 14) (.seq (.region r5_3) .ret) .skip)) (.seq (.region r5_4) (.seq (.seq (.region r5_5) (.cond (Operand.tmp 47) (.seq (.region r5_6) .ret) .skip)) (.seq (.region r5_7) (.seq (.region r5_8) .ret)))))))
theorem code5 : ∃ c, Try.f5.body = some c ∧ abs Try.f5.ntmps c = B5 := ⟨_, rfl, by kernel_rfl⟩
theorem hb5 : HasBody Try.prog 5 := hasBody_of Try.func5 (by kernel_rfl)
theorem res5 : Try.f5.results = #[(ResultVar.tmp 6)] := rfl
theorem enter5 {w : World} {R : Value → World → Prop} (x0 x1 x2 : Value) (h : vc Try.prog B5 (retK Try.prog #[(ResultVar.tmp 6)] R) [] (initEnv [x0, x1, x2] 0) w) : FnC Try.prog 5 #[x0, x1, x2] w R := by
  obtain ⟨c, h1, h2⟩ := code5
  exact hb5.fn (ret_of_vc mixed Try.func5 h1 (Nat.le_of_ble_eq_true rfl) B5 h2 h)
@[push_cast] theorem vr5_0 (Q : Post) (ds : List Deferred) (σ : Env) (w : World) : vc Try.prog (.region r5_0) Q ds σ w = vcOps Try.prog [⟨some 6, (Op.assign (Operand.const (Value.bool false))), 4, none⟩] (Q .normal ds) σ w := mk_eq rfl
@[push_cast] theorem vr5_1 (Q : Post) (ds : List Deferred) (σ : Env) (w : World) : vc Try.prog (.region r5_1) Q ds σ w = vcOps Try.prog [⟨some 11, (Op.move (Operand.tmp 0)), 22, none⟩, ⟨some 12, (Op.call { callee := (Callee.value (Operand.func 15)), args := #[(Operand.tmp 11)], argTypes := #[22] }), 4, none⟩, ⟨some 7, (Op.assign (Operand.tmp 12)), 4, none⟩] (Q .normal ds) σ w := mk_eq rfl
@[push_cast] theorem vr5_2 (Q : Post) (ds : List Deferred) (σ : Env) (w : World) : vc Try.prog (.region r5_2) Q ds σ w = vcOps Try.prog [⟨some 13, (Op.move (Operand.tmp 7)), 4, none⟩, ⟨some 14, (Op.unOp UnOp.not 4 (Operand.tmp 13)), 4, none⟩] (Q .normal ds) σ w := mk_eq rfl
@[push_cast] theorem vr5_3 (Q : Post) (ds : List Deferred) (σ : Env) (w : World) : vc Try.prog (.region r5_3) Q ds σ w = vcOps Try.prog [⟨some 15, (Op.call { callee := (Callee.value (Operand.func 30)), args := #[], argTypes := #[] }), 4, none⟩, ⟨some 6, (Op.assign (Operand.tmp 15)), 4, none⟩] (Q .normal ds) σ w := mk_eq rfl
@[push_cast] theorem vr5_4 (Q : Post) (ds : List Deferred) (σ : Env) (w : World) : vc Try.prog (.region r5_4) Q ds σ w = vcOps Try.prog [⟨some 17, (Op.move (Operand.tmp 0)), 22, none⟩, ⟨some 18, (Op.move (Operand.tmp 1)), 3, none⟩, ⟨some 19, (Op.call { callee := (Callee.value (Operand.func 31)), args := #[(Operand.tmp 17), (Operand.tmp 18)], argTypes := #[22, 3] }), 44, none⟩, ⟨some 16, (Op.move (Operand.tmp 19)), 44, none⟩, ⟨some 20, (Op.extract (Operand.tmp 16) 0), 3, none⟩, ⟨some 21, (Op.extract (Operand.tmp 16) 1), 4, none⟩, ⟨some 8, (Op.assign (Operand.tmp 20)), 3, none⟩, ⟨some 9, (Op.assign (Operand.tmp 21)), 4, none⟩] (Q .normal ds) σ w := mk_eq rfl
@[push_cast] theorem vr5_5 (Q : Post) (ds : List Deferred) (σ : Env) (w : World) : vc Try.prog (.region r5_5) Q ds σ w = vcOps Try.prog [⟨some 22, (Op.move (Operand.tmp 9)), 4, none⟩, ⟨some 23, (Op.move (Operand.tmp 1)), 3, none⟩, ⟨some 24, (Op.binOp BinOp.geq 3 (Operand.tmp 23) (Operand.const (Value.int IntKind.i64 0)) 3), 4, none⟩, ⟨some 25, (Op.move (Operand.tmp 24)), 4, none⟩, ⟨some 26, (Op.move (Operand.tmp 1)), 3, some (25, true)⟩, ⟨some 27, (Op.move (Operand.tmp 0)), 22, some (25, true)⟩, ⟨some 28, (Op.call { callee := (Callee.value (Operand.func 32)), args := #[(Operand.tmp 27)], argTypes := #[22] }), 3, some (25, true)⟩, ⟨some 29, (Op.binOp BinOp.lss 3 (Operand.tmp 26) (Operand.tmp 28) 3), 4, some (25, true)⟩, ⟨some 30, (Op.pick (Operand.tmp 25) (Operand.tmp 29) (Operand.const (Value.bool false))), 4, none⟩, ⟨some 31, (Op.binOp BinOp.neq 4 (Operand.tmp 22) (Operand.tmp 30) 4), 4, none⟩, ⟨some 32, (Op.move (Operand.tmp 31)), 4, none⟩, ⟨some 33, (Op.move (Operand.tmp 9)), 4, some (32, false)⟩, ⟨some 34, (Op.move (Operand.tmp 33)), 4, some (32, false)⟩, ⟨some 35, (Op.move (Operand.tmp 0)), 22, some (34, true)⟩, ⟨some 36, (Op.move (Operand.tmp 8)), 3, some (34, true)⟩, ⟨some 37, (Op.call { callee := (Callee.value (Operand.func 33)), args := #[(Operand.tmp 35), (Operand.tmp 36)], argTypes := #[22, 3] }), 4, some (34, true)⟩, ⟨some 38, (Op.unOp UnOp.not 4 (Operand.tmp 37)), 4, some (34, true)⟩, ⟨some 39, (Op.move (Operand.tmp 38)), 4, some (34, true)⟩, ⟨some 40, (Op.move (Operand.tmp 0)), 22, some (39, false)⟩, ⟨some 41, (Op.move (Operand.tmp 8)), 3, some (39, false)⟩, ⟨some 42, (Op.call { callee := (Callee.value (Operand.func 34)), args := #[(Operand.tmp 40), (Operand.tmp 41)], argTypes := #[22, 3] }), 3, some (39, false)⟩, ⟨some 43, (Op.move (Operand.tmp 1)), 3, some (39, false)⟩, ⟨some 44, (Op.binOp BinOp.neq 3 (Operand.tmp 42) (Operand.tmp 43) 3), 4, some (39, false)⟩, ⟨some 45, (Op.pick (Operand.tmp 39) (Operand.const (Value.bool true)) (Operand.tmp 44)), 4, some (34, true)⟩, ⟨some 46, (Op.pick (Operand.tmp 34) (Operand.tmp 45) (Operand.const (Value.bool false))), 4, some (32, false)⟩, ⟨some 47, (Op.pick (Operand.tmp 32) (Operand.const (Value.bool true)) (Operand.tmp 46)), 4, none⟩] (Q .normal ds) σ w := mk_eq rfl
@[push_cast] theorem vr5_6 (Q : Post) (ds : List Deferred) (σ : Env) (w : World) : vc Try.prog (.region r5_6) Q ds σ w = vcOps Try.prog [⟨some 6, (Op.assign (Operand.const (Value.bool false))), 4, none⟩] (Q .normal ds) σ w := mk_eq rfl
@[push_cast] theorem vr5_7 (Q : Post) (ds : List Deferred) (σ : Env) (w : World) : vc Try.prog (.region r5_7) Q ds σ w = vcOps Try.prog [⟨some 48, (Op.move (Operand.tmp 0)), 22, none⟩, ⟨some 49, (Op.move (Operand.tmp 2)), 3, none⟩, ⟨some 50, (Op.call { callee := (Callee.value (Operand.func 36)), args := #[(Operand.tmp 49)], argTypes := #[3] }), 22, none⟩, ⟨some 51, (Op.call { callee := (Callee.value (Operand.func 35)), args := #[(Operand.tmp 48), (Operand.tmp 50)], argTypes := #[22, 22] }), 22, none⟩, ⟨some 10, (Op.assign (Operand.tmp 51)), 22, none⟩] (Q .normal ds) σ w := mk_eq rfl
@[push_cast] theorem vr5_8 (Q : Post) (ds : List Deferred) (σ : Env) (w : World) : vc Try.prog (.region r5_8) Q ds σ w = vcOps Try.prog [⟨some 52, (Op.call { callee := (Callee.value (Operand.func 30)), args := #[], argTypes := #[] }), 4, none⟩, ⟨some 53, (Op.move (Operand.tmp 52)), 4, none⟩, ⟨some 54, (Op.move (Operand.tmp 0)), 22, some (53, true)⟩, ⟨some 55, (Op.move (Operand.tmp 2)), 3, some (53, true)⟩, ⟨some 56, (Op.call { callee := (Callee.value (Operand.func 34)), args := #[(Operand.tmp 54), (Operand.tmp 55)], argTypes := #[22, 3] }), 3, some (53, true)⟩, ⟨some 57, (Op.move (Operand.tmp 10)), 22, some (53, true)⟩, ⟨some 58, (Op.call { callee := (Callee.value (Operand.func 32)), args := #[(Operand.tmp 57)], argTypes := #[22] }), 3, some (53, true)⟩, ⟨some 59, (Op.binOp BinOp.eql 3 (Operand.tmp 56) (Operand.tmp 58) 3), 4, some (53, true)⟩, ⟨some 60, (Op.pick (Operand.tmp 53) (Operand.tmp 59) (Operand.const (Value.bool false))), 4, none⟩, ⟨some 61, (Op.move (Operand.tmp 60)), 4, none⟩, ⟨some 62, (Op.move (Operand.tmp 0)), 22, some (61, true)⟩, ⟨some 63, (Op.move (Operand.tmp 2)), 3, some (61, true)⟩, ⟨some 64, (Op.call { callee := (Callee.value (Operand.func 33)), args := #[(Operand.tmp 62), (Operand.tmp 63)], argTypes := #[22, 3] }), 4, some (61, true)⟩, ⟨some 65, (Op.move (Operand.tmp 0)), 22, some (61, true)⟩, ⟨some 66, (Op.move (Operand.tmp 2)), 3, some (61, true)⟩, ⟨some 67, (Op.call { callee := (Callee.builtin Builtin.min), args := #[(Operand.tmp 66), (Operand.const (Value.int IntKind.i64 65536))], argTypes := #[3, 3] }), 3, some (61, true)⟩, ⟨some 68, (Op.binOp BinOp.add 3 (Operand.tmp 67) (Operand.const (Value.int IntKind.i64 1)) 3), 3, some (61, true)⟩, ⟨some 69, (Op.call { callee := (Callee.value (Operand.func 34)), args := #[(Operand.tmp 65), (Operand.tmp 68)], argTypes := #[22, 3] }), 3, some (61, true)⟩, ⟨some 70, (Op.move (Operand.tmp 0)), 22, some (61, true)⟩, ⟨some 71, (Op.move (Operand.tmp 2)), 3, some (61, true)⟩, ⟨some 72, (Op.call { callee := (Callee.value (Operand.func 34)), args := #[(Operand.tmp 70), (Operand.tmp 71)], argTypes := #[22, 3] }), 3, some (61, true)⟩, ⟨some 73, (Op.binOp BinOp.add 3 (Operand.tmp 72) (Operand.const (Value.int IntKind.i64 1)) 3), 3, some (61, true)⟩, ⟨some 74, (Op.binOp BinOp.eql 3 (Operand.tmp 69) (Operand.tmp 73) 3), 4, some (61, true)⟩, ⟨some 75, (Op.move (Operand.tmp 74)), 4, some (61, true)⟩, ⟨some 76, (Op.move (Operand.tmp 2)), 3, some (75, true)⟩, ⟨some 77, (Op.binOp BinOp.geq 3 (Operand.tmp 76) (Operand.const (Value.int IntKind.i64 0)) 3), 4, some (75, true)⟩, ⟨some 78, (Op.pick (Operand.tmp 75) (Operand.tmp 77) (Operand.const (Value.bool false))), 4, some (61, true)⟩, ⟨some 79, (Op.move (Operand.tmp 78)), 4, some (61, true)⟩, ⟨some 80, (Op.move (Operand.tmp 2)), 3, some (79, true)⟩, ⟨some 81, (Op.binOp BinOp.lss 3 (Operand.tmp 80) (Operand.const (Value.int IntKind.i64 65536)) 3), 4, some (79, true)⟩, ⟨some 82, (Op.pick (Operand.tmp 79) (Operand.tmp 81) (Operand.const (Value.bool false))), 4, some (61, true)⟩, ⟨some 83, (Op.binOp BinOp.eql 4 (Operand.tmp 64) (Operand.tmp 82) 4), 4, some (61, true)⟩, ⟨some 84, (Op.pick (Operand.tmp 61) (Operand.tmp 83) (Operand.const (Value.bool false))), 4, none⟩, ⟨some 6, (Op.assign (Operand.tmp 84)), 4, none⟩] (Q .normal ds) σ w := mk_eq rfl
/-! 6 columbary/columbarylaw04.RunsBoth (params #[22, 22], results #[(ResultVar.tmp 4)], 70 slots) -/
def r6_0 : List VOp :=
  [⟨some 4, (Op.assign (Operand.const (Value.bool false))), 4, none⟩]
def r6_1 : List VOp :=
  [⟨some 12, (Op.move (Operand.tmp 0)), 22, none⟩,
   ⟨some 13, (Op.call { callee := (Callee.value (Operand.func 15)), args := #[(Operand.tmp 12)], argTypes := #[22] }), 4, none⟩,
   ⟨some 5, (Op.assign (Operand.tmp 13)), 4, none⟩]
def r6_2 : List VOp :=
  [⟨some 14, (Op.move (Operand.tmp 1)), 22, none⟩,
   ⟨some 15, (Op.call { callee := (Callee.value (Operand.func 15)), args := #[(Operand.tmp 14)], argTypes := #[22] }), 4, none⟩,
   ⟨some 6, (Op.assign (Operand.tmp 15)), 4, none⟩]
def r6_3 : List VOp :=
  [⟨some 16, (Op.move (Operand.tmp 5)), 4, none⟩,
   ⟨some 17, (Op.unOp UnOp.not 4 (Operand.tmp 16)), 4, none⟩,
   ⟨some 18, (Op.move (Operand.tmp 17)), 4, none⟩,
   ⟨some 19, (Op.move (Operand.tmp 6)), 4, some (18, false)⟩,
   ⟨some 20, (Op.unOp UnOp.not 4 (Operand.tmp 19)), 4, some (18, false)⟩,
   ⟨some 21, (Op.pick (Operand.tmp 18) (Operand.const (Value.bool true)) (Operand.tmp 20)), 4, none⟩]
def r6_4 : List VOp :=
  [⟨some 22, (Op.call { callee := (Callee.value (Operand.func 30)), args := #[], argTypes := #[] }), 4, none⟩,
   ⟨some 4, (Op.assign (Operand.tmp 22)), 4, none⟩]
def r6_5 : List VOp :=
  [⟨some 23, (Op.buildSlice 22 0 #[]), 22, none⟩,
   ⟨some 24, (Op.move (Operand.tmp 0)), 22, none⟩,
   ⟨some 25, (Op.call { callee := (Callee.builtin Builtin.append), args := #[(Operand.tmp 23), (Operand.tmp 24)], argTypes := #[22, 22] }), 22, none⟩,
   ⟨some 7, (Op.assign (Operand.tmp 25)), 22, none⟩]
def r6_6 : List VOp :=
  [⟨some 26, (Op.buildSlice 22 0 #[]), 22, none⟩,
   ⟨some 27, (Op.move (Operand.tmp 1)), 22, none⟩,
   ⟨some 28, (Op.call { callee := (Callee.builtin Builtin.append), args := #[(Operand.tmp 26), (Operand.tmp 27)], argTypes := #[22, 22] }), 22, none⟩,
   ⟨some 8, (Op.assign (Operand.tmp 28)), 22, none⟩]
def r6_7 : List VOp :=
  [⟨some 29, (Op.move (Operand.tmp 0)), 22, none⟩,
   ⟨some 30, (Op.move (Operand.tmp 1)), 22, none⟩,
   ⟨some 31, (Op.call { callee := (Callee.value (Operand.func 35)), args := #[(Operand.tmp 29), (Operand.tmp 30)], argTypes := #[22, 22] }), 22, none⟩,
   ⟨some 32, (Op.move (Operand.tmp 0)), 22, none⟩,
   ⟨some 33, (Op.move (Operand.tmp 1)), 22, none⟩,
   ⟨some 34, (Op.call { callee := (Callee.value (Operand.func 37)), args := #[(Operand.tmp 32), (Operand.tmp 33)], argTypes := #[22, 22] }), 22, none⟩,
   ⟨some 35, (Op.call { callee := (Callee.value (Operand.func 16)), args := #[(Operand.tmp 31), (Operand.tmp 34)], argTypes := #[22, 22] }), 4, none⟩,
   ⟨some 9, (Op.assign (Operand.tmp 35)), 4, none⟩]
def r6_8 : List VOp :=
  [⟨some 36, (Op.move (Operand.tmp 0)), 22, none⟩,
   ⟨some 37, (Op.move (Operand.tmp 1)), 22, none⟩,
   ⟨some 38, (Op.call { callee := (Callee.value (Operand.func 38)), args := #[(Operand.tmp 36), (Operand.tmp 37)], argTypes := #[22, 22] }), 22, none⟩,
   ⟨some 39, (Op.move (Operand.tmp 0)), 22, none⟩,
   ⟨some 40, (Op.move (Operand.tmp 1)), 22, none⟩,
   ⟨some 41, (Op.call { callee := (Callee.value (Operand.func 39)), args := #[(Operand.tmp 39), (Operand.tmp 40)], argTypes := #[22, 22] }), 22, none⟩,
   ⟨some 42, (Op.call { callee := (Callee.value (Operand.func 16)), args := #[(Operand.tmp 38), (Operand.tmp 41)], argTypes := #[22, 22] }), 4, none⟩,
   ⟨some 10, (Op.assign (Operand.tmp 42)), 4, none⟩]
def r6_9 : List VOp :=
  [⟨some 43, (Op.move (Operand.tmp 0)), 22, none⟩,
   ⟨some 44, (Op.move (Operand.tmp 1)), 22, none⟩,
   ⟨some 45, (Op.call { callee := (Callee.value (Operand.func 40)), args := #[(Operand.tmp 43), (Operand.tmp 44)], argTypes := #[22, 22] }), 22, none⟩,
   ⟨some 46, (Op.move (Operand.tmp 0)), 22, none⟩,
   ⟨some 47, (Op.move (Operand.tmp 1)), 22, none⟩,
   ⟨some 48, (Op.call { callee := (Callee.value (Operand.func 41)), args := #[(Operand.tmp 46), (Operand.tmp 47)], argTypes := #[22, 22] }), 22, none⟩,
   ⟨some 49, (Op.call { callee := (Callee.value (Operand.func 16)), args := #[(Operand.tmp 45), (Operand.tmp 48)], argTypes := #[22, 22] }), 4, none⟩,
   ⟨some 11, (Op.assign (Operand.tmp 49)), 4, none⟩]
def r6_10 : List VOp :=
  [⟨some 50, (Op.call { callee := (Callee.value (Operand.func 30)), args := #[], argTypes := #[] }), 4, none⟩,
   ⟨some 51, (Op.move (Operand.tmp 50)), 4, none⟩,
   ⟨some 52, (Op.move (Operand.tmp 9)), 4, some (51, true)⟩,
   ⟨some 53, (Op.pick (Operand.tmp 51) (Operand.tmp 52) (Operand.const (Value.bool false))), 4, none⟩,
   ⟨some 54, (Op.move (Operand.tmp 53)), 4, none⟩,
   ⟨some 55, (Op.move (Operand.tmp 10)), 4, some (54, true)⟩,
   ⟨some 56, (Op.pick (Operand.tmp 54) (Operand.tmp 55) (Operand.const (Value.bool false))), 4, none⟩,
   ⟨some 57, (Op.move (Operand.tmp 56)), 4, none⟩,
   ⟨some 58, (Op.move (Operand.tmp 11)), 4, some (57, true)⟩,
   ⟨some 59, (Op.pick (Operand.tmp 57) (Operand.tmp 58) (Operand.const (Value.bool false))), 4, none⟩,
   ⟨some 60, (Op.move (Operand.tmp 59)), 4, none⟩,
   ⟨some 61, (Op.move (Operand.tmp 0)), 22, some (60, true)⟩,
   ⟨some 62, (Op.move (Operand.tmp 7)), 22, some (60, true)⟩,
   ⟨some 63, (Op.call { callee := (Callee.value (Operand.func 16)), args := #[(Operand.tmp 61), (Operand.tmp 62)], argTypes := #[22, 22] }), 4, some (60, true)⟩,
   ⟨some 64, (Op.pick (Operand.tmp 60) (Operand.tmp 63) (Operand.const (Value.bool false))), 4, none⟩,
   ⟨some 65, (Op.move (Operand.tmp 64)), 4, none⟩,
   ⟨some 66, (Op.move (Operand.tmp 1)), 22, some (65, true)⟩,
   ⟨some 67, (Op.move (Operand.tmp 8)), 22, some (65, true)⟩,
   ⟨some 68, (Op.call { callee := (Callee.value (Operand.func 16)), args := #[(Operand.tmp 66), (Operand.tmp 67)], argTypes := #[22, 22] }), 4, some (65, true)⟩,
   ⟨some 69, (Op.pick (Operand.tmp 65) (Operand.tmp 68) (Operand.const (Value.bool false))), 4, none⟩,
   ⟨some 4, (Op.assign (Operand.tmp 69)), 4, none⟩]
def B6 : VC :=
  (.seq (.region r6_0) (.seq (.region r6_1) (.seq (.region r6_2) (.seq (.seq (.region r6_3) (.cond (Operand.tmp 21) (.seq (.region r6_4) .ret) .skip)) (.seq (.region r6_5) (.seq (.region r6_6) (.seq (.region r6_7) (.seq (.region r6_8) (.seq (.region r6_9) (.seq (.region r6_10) .ret))))))))))
theorem code6 : ∃ c, Try.f6.body = some c ∧ abs Try.f6.ntmps c = B6 := ⟨_, rfl, by kernel_rfl⟩
theorem hb6 : HasBody Try.prog 6 := hasBody_of Try.func6 (by kernel_rfl)
theorem res6 : Try.f6.results = #[(ResultVar.tmp 4)] := rfl
theorem enter6 {w : World} {R : Value → World → Prop} (x0 x1 : Value) (h : vc Try.prog B6 (retK Try.prog #[(ResultVar.tmp 4)] R) [] (initEnv [x0, x1] 0) w) : FnC Try.prog 6 #[x0, x1] w R := by
  obtain ⟨c, h1, h2⟩ := code6
  exact hb6.fn (ret_of_vc mixed Try.func6 h1 (Nat.le_of_ble_eq_true rfl) B6 h2 h)
@[push_cast] theorem vr6_0 (Q : Post) (ds : List Deferred) (σ : Env) (w : World) : vc Try.prog (.region r6_0) Q ds σ w = vcOps Try.prog [⟨some 4, (Op.assign (Operand.const (Value.bool false))), 4, none⟩] (Q .normal ds) σ w := mk_eq rfl
@[push_cast] theorem vr6_1 (Q : Post) (ds : List Deferred) (σ : Env) (w : World) : vc Try.prog (.region r6_1) Q ds σ w = vcOps Try.prog [⟨some 12, (Op.move (Operand.tmp 0)), 22, none⟩, ⟨some 13, (Op.call { callee := (Callee.value (Operand.func 15)), args := #[(Operand.tmp 12)], argTypes := #[22] }), 4, none⟩, ⟨some 5, (Op.assign (Operand.tmp 13)), 4, none⟩] (Q .normal ds) σ w := mk_eq rfl
@[push_cast] theorem vr6_2 (Q : Post) (ds : List Deferred) (σ : Env) (w : World) : vc Try.prog (.region r6_2) Q ds σ w = vcOps Try.prog [⟨some 14, (Op.move (Operand.tmp 1)), 22, none⟩, ⟨some 15, (Op.call { callee := (Callee.value (Operand.func 15)), args := #[(Operand.tmp 14)], argTypes := #[22] }), 4, none⟩, ⟨some 6, (Op.assign (Operand.tmp 15)), 4, none⟩] (Q .normal ds) σ w := mk_eq rfl
@[push_cast] theorem vr6_3 (Q : Post) (ds : List Deferred) (σ : Env) (w : World) : vc Try.prog (.region r6_3) Q ds σ w = vcOps Try.prog [⟨some 16, (Op.move (Operand.tmp 5)), 4, none⟩, ⟨some 17, (Op.unOp UnOp.not 4 (Operand.tmp 16)), 4, none⟩, ⟨some 18, (Op.move (Operand.tmp 17)), 4, none⟩, ⟨some 19, (Op.move (Operand.tmp 6)), 4, some (18, false)⟩, ⟨some 20, (Op.unOp UnOp.not 4 (Operand.tmp 19)), 4, some (18, false)⟩, ⟨some 21, (Op.pick (Operand.tmp 18) (Operand.const (Value.bool true)) (Operand.tmp 20)), 4, none⟩] (Q .normal ds) σ w := mk_eq rfl
@[push_cast] theorem vr6_4 (Q : Post) (ds : List Deferred) (σ : Env) (w : World) : vc Try.prog (.region r6_4) Q ds σ w = vcOps Try.prog [⟨some 22, (Op.call { callee := (Callee.value (Operand.func 30)), args := #[], argTypes := #[] }), 4, none⟩, ⟨some 4, (Op.assign (Operand.tmp 22)), 4, none⟩] (Q .normal ds) σ w := mk_eq rfl
@[push_cast] theorem vr6_5 (Q : Post) (ds : List Deferred) (σ : Env) (w : World) : vc Try.prog (.region r6_5) Q ds σ w = vcOps Try.prog [⟨some 23, (Op.buildSlice 22 0 #[]), 22, none⟩, ⟨some 24, (Op.move (Operand.tmp 0)), 22, none⟩, ⟨some 25, (Op.call { callee := (Callee.builtin Builtin.append), args := #[(Operand.tmp 23), (Operand.tmp 24)], argTypes := #[22, 22] }), 22, none⟩, ⟨some 7, (Op.assign (Operand.tmp 25)), 22, none⟩] (Q .normal ds) σ w := mk_eq rfl
@[push_cast] theorem vr6_6 (Q : Post) (ds : List Deferred) (σ : Env) (w : World) : vc Try.prog (.region r6_6) Q ds σ w = vcOps Try.prog [⟨some 26, (Op.buildSlice 22 0 #[]), 22, none⟩, ⟨some 27, (Op.move (Operand.tmp 1)), 22, none⟩, ⟨some 28, (Op.call { callee := (Callee.builtin Builtin.append), args := #[(Operand.tmp 26), (Operand.tmp 27)], argTypes := #[22, 22] }), 22, none⟩, ⟨some 8, (Op.assign (Operand.tmp 28)), 22, none⟩] (Q .normal ds) σ w := mk_eq rfl
@[push_cast] theorem vr6_7 (Q : Post) (ds : List Deferred) (σ : Env) (w : World) : vc Try.prog (.region r6_7) Q ds σ w = vcOps Try.prog [⟨some 29, (Op.move (Operand.tmp 0)), 22, none⟩, ⟨some 30, (Op.move (Operand.tmp 1)), 22, none⟩, ⟨some 31, (Op.call { callee := (Callee.value (Operand.func 35)), args := #[(Operand.tmp 29), (Operand.tmp 30)], argTypes := #[22, 22] }), 22, none⟩, ⟨some 32, (Op.move (Operand.tmp 0)), 22, none⟩, ⟨some 33, (Op.move (Operand.tmp 1)), 22, none⟩, ⟨some 34, (Op.call { callee := (Callee.value (Operand.func 37)), args := #[(Operand.tmp 32), (Operand.tmp 33)], argTypes := #[22, 22] }), 22, none⟩, ⟨some 35, (Op.call { callee := (Callee.value (Operand.func 16)), args := #[(Operand.tmp 31), (Operand.tmp 34)], argTypes := #[22, 22] }), 4, none⟩, ⟨some 9, (Op.assign (Operand.tmp 35)), 4, none⟩] (Q .normal ds) σ w := mk_eq rfl
@[push_cast] theorem vr6_8 (Q : Post) (ds : List Deferred) (σ : Env) (w : World) : vc Try.prog (.region r6_8) Q ds σ w = vcOps Try.prog [⟨some 36, (Op.move (Operand.tmp 0)), 22, none⟩, ⟨some 37, (Op.move (Operand.tmp 1)), 22, none⟩, ⟨some 38, (Op.call { callee := (Callee.value (Operand.func 38)), args := #[(Operand.tmp 36), (Operand.tmp 37)], argTypes := #[22, 22] }), 22, none⟩, ⟨some 39, (Op.move (Operand.tmp 0)), 22, none⟩, ⟨some 40, (Op.move (Operand.tmp 1)), 22, none⟩, ⟨some 41, (Op.call { callee := (Callee.value (Operand.func 39)), args := #[(Operand.tmp 39), (Operand.tmp 40)], argTypes := #[22, 22] }), 22, none⟩, ⟨some 42, (Op.call { callee := (Callee.value (Operand.func 16)), args := #[(Operand.tmp 38), (Operand.tmp 41)], argTypes := #[22, 22] }), 4, none⟩, ⟨some 10, (Op.assign (Operand.tmp 42)), 4, none⟩] (Q .normal ds) σ w := mk_eq rfl
@[push_cast] theorem vr6_9 (Q : Post) (ds : List Deferred) (σ : Env) (w : World) : vc Try.prog (.region r6_9) Q ds σ w = vcOps Try.prog [⟨some 43, (Op.move (Operand.tmp 0)), 22, none⟩, ⟨some 44, (Op.move (Operand.tmp 1)), 22, none⟩, ⟨some 45, (Op.call { callee := (Callee.value (Operand.func 40)), args := #[(Operand.tmp 43), (Operand.tmp 44)], argTypes := #[22, 22] }), 22, none⟩, ⟨some 46, (Op.move (Operand.tmp 0)), 22, none⟩, ⟨some 47, (Op.move (Operand.tmp 1)), 22, none⟩, ⟨some 48, (Op.call { callee := (Callee.value (Operand.func 41)), args := #[(Operand.tmp 46), (Operand.tmp 47)], argTypes := #[22, 22] }), 22, none⟩, ⟨some 49, (Op.call { callee := (Callee.value (Operand.func 16)), args := #[(Operand.tmp 45), (Operand.tmp 48)], argTypes := #[22, 22] }), 4, none⟩, ⟨some 11, (Op.assign (Operand.tmp 49)), 4, none⟩] (Q .normal ds) σ w := mk_eq rfl
@[push_cast] theorem vr6_10 (Q : Post) (ds : List Deferred) (σ : Env) (w : World) : vc Try.prog (.region r6_10) Q ds σ w = vcOps Try.prog [⟨some 50, (Op.call { callee := (Callee.value (Operand.func 30)), args := #[], argTypes := #[] }), 4, none⟩, ⟨some 51, (Op.move (Operand.tmp 50)), 4, none⟩, ⟨some 52, (Op.move (Operand.tmp 9)), 4, some (51, true)⟩, ⟨some 53, (Op.pick (Operand.tmp 51) (Operand.tmp 52) (Operand.const (Value.bool false))), 4, none⟩, ⟨some 54, (Op.move (Operand.tmp 53)), 4, none⟩, ⟨some 55, (Op.move (Operand.tmp 10)), 4, some (54, true)⟩, ⟨some 56, (Op.pick (Operand.tmp 54) (Operand.tmp 55) (Operand.const (Value.bool false))), 4, none⟩, ⟨some 57, (Op.move (Operand.tmp 56)), 4, none⟩, ⟨some 58, (Op.move (Operand.tmp 11)), 4, some (57, true)⟩, ⟨some 59, (Op.pick (Operand.tmp 57) (Operand.tmp 58) (Operand.const (Value.bool false))), 4, none⟩, ⟨some 60, (Op.move (Operand.tmp 59)), 4, none⟩, ⟨some 61, (Op.move (Operand.tmp 0)), 22, some (60, true)⟩, ⟨some 62, (Op.move (Operand.tmp 7)), 22, some (60, true)⟩, ⟨some 63, (Op.call { callee := (Callee.value (Operand.func 16)), args := #[(Operand.tmp 61), (Operand.tmp 62)], argTypes := #[22, 22] }), 4, some (60, true)⟩, ⟨some 64, (Op.pick (Operand.tmp 60) (Operand.tmp 63) (Operand.const (Value.bool false))), 4, none⟩, ⟨some 65, (Op.move (Operand.tmp 64)), 4, none⟩, ⟨some 66, (Op.move (Operand.tmp 1)), 22, some (65, true)⟩, ⟨some 67, (Op.move (Operand.tmp 8)), 22, some (65, true)⟩, ⟨some 68, (Op.call { callee := (Callee.value (Operand.func 16)), args := #[(Operand.tmp 66), (Operand.tmp 67)], argTypes := #[22, 22] }), 4, some (65, true)⟩, ⟨some 69, (Op.pick (Operand.tmp 65) (Operand.tmp 68) (Operand.const (Value.bool false))), 4, none⟩, ⟨some 4, (Op.assign (Operand.tmp 69)), 4, none⟩] (Q .normal ds) σ w := mk_eq rfl
/-! 7 columbary/columbarylaw04.RunsOf (params #[49], results #[(ResultVar.tmp 2)], 52 slots) -/
def r7_0 : List VOp :=
  [⟨some 2, (Op.assign (Operand.const (Value.bool false))), 4, none⟩]
def r7_1 : List VOp :=
  [⟨some 8, (Op.move (Operand.tmp 0)), 49, none⟩,
   ⟨some 9, (Op.call { callee := (Callee.builtin Builtin.len), args := #[(Operand.tmp 8)], argTypes := #[49] }), 3, none⟩,
   ⟨some 10, (Op.binOp BinOp.gtr 3 (Operand.tmp 9) (Operand.const (Value.int IntKind.i64 300)) 3), 4, none⟩]
def r7_2 : List VOp :=
  [⟨some 11, (Op.call { callee := (Callee.value (Operand.func 30)), args := #[], argTypes := #[] }), 4, none⟩,
   ⟨some 2, (Op.assign (Operand.tmp 11)), 4, none⟩]
def r7_3 : List VOp :=
  [⟨some 12, (Op.buildSlice 49 0 #[]), 49, none⟩,
   ⟨some 13, (Op.move (Operand.tmp 0)), 49, none⟩,
   ⟨some 14, (Op.call { callee := (Callee.builtin Builtin.append), args := #[(Operand.tmp 12), (Operand.tmp 13)], argTypes := #[49, 49] }), 49, none⟩,
   ⟨some 3, (Op.assign (Operand.tmp 14)), 49, none⟩]
def r7_4 : List VOp :=
  [⟨some 16, (Op.move (Operand.tmp 0)), 49, none⟩,
   ⟨some 17, (Op.call { callee := (Callee.value (Operand.func 42)), args := #[(Operand.tmp 16)], argTypes := #[49] }), 50, none⟩,
   ⟨some 15, (Op.move (Operand.tmp 17)), 50, none⟩,
   ⟨some 18, (Op.extract (Operand.tmp 15) 0), 22, none⟩,
   ⟨some 19, (Op.extract (Operand.tmp 15) 1), 24, none⟩,
   ⟨some 4, (Op.assign (Operand.tmp 18)), 22, none⟩,
   ⟨some 5, (Op.assign (Operand.tmp 19)), 24, none⟩]
def r7_5 : List VOp :=
  [⟨some 21, (Op.move (Operand.tmp 0)), 49, none⟩,
   ⟨some 22, (Op.call { callee := (Callee.value (Operand.func 43)), args := #[(Operand.tmp 21)], argTypes := #[49] }), 50, none⟩,
   ⟨some 20, (Op.move (Operand.tmp 22)), 50, none⟩,
   ⟨some 23, (Op.extract (Operand.tmp 20) 0), 22, none⟩,
   ⟨some 24, (Op.extract (Operand.tmp 20) 1), 24, none⟩,
   ⟨some 6, (Op.assign (Operand.tmp 23)), 22, none⟩,
   ⟨some 7, (Op.assign (Operand.tmp 24)), 24, none⟩]
def r7_6 : List VOp :=
  [⟨some 25, (Op.move (Operand.tmp 5)), 24, none⟩,
   ⟨some 26, (Op.move (Operand.tmp 7)), 24, none⟩,
   ⟨some 27, (Op.binOp BinOp.neq 24 (Operand.tmp 25) (Operand.tmp 26) 24), 4, none⟩,
   ⟨some 28, (Op.move (Operand.tmp 27)), 4, none⟩,
   ⟨some 29, (Op.move (Operand.tmp 4)), 22, some (28, false)⟩,
   ⟨some 30, (Op.move (Operand.tmp 6)), 22, some (28, false)⟩,
   ⟨some 31, (Op.call { callee := (Callee.value (Operand.func 16)), args := #[(Operand.tmp 29), (Operand.tmp 30)], argTypes := #[22, 22] }), 4, some (28, false)⟩,
   ⟨some 32, (Op.unOp UnOp.not 4 (Operand.tmp 31)), 4, some (28, false)⟩,
   ⟨some 33, (Op.pick (Operand.tmp 28) (Operand.const (Value.bool true)) (Operand.tmp 32)), 4, none⟩,
   ⟨some 34, (Op.move (Operand.tmp 33)), 4, none⟩,
   ⟨some 35, (Op.move (Operand.tmp 0)), 49, some (34, false)⟩,
   ⟨some 36, (Op.move (Operand.tmp 3)), 49, some (34, false)⟩,
   ⟨some 37, (Op.call { callee := (Callee.value (Operand.func 44)), args := #[(Operand.tmp 35), (Operand.tmp 36)], argTypes := #[49, 49] }), 4, some (34, false)⟩,
   ⟨some 38, (Op.unOp UnOp.not 4 (Operand.tmp 37)), 4, some (34, false)⟩,
   ⟨some 39, (Op.pick (Operand.tmp 34) (Operand.const (Value.bool true)) (Operand.tmp 38)), 4, none⟩]
def r7_7 : List VOp :=
  [⟨some 2, (Op.assign (Operand.const (Value.bool false))), 4, none⟩]
def r7_8 : List VOp :=
  [⟨some 40, (Op.call { callee := (Callee.value (Operand.func 30)), args := #[], argTypes := #[] }), 4, none⟩,
   ⟨some 41, (Op.move (Operand.tmp 40)), 4, none⟩,
   ⟨some 42, (Op.move (Operand.tmp 7)), 24, some (41, true)⟩,
   ⟨some 43, (Op.binOp BinOp.neq 24 (Operand.tmp 42) (Operand.const (Value.int IntKind.i64 0)) 24), 4, some (41, true)⟩,
   ⟨some 44, (Op.move (Operand.tmp 43)), 4, some (41, true)⟩,
   ⟨some 45, (Op.move (Operand.tmp 4)), 22, some (44, false)⟩,
   ⟨some 46, (Op.call { callee := (Callee.value (Operand.func 45)), args := #[(Operand.tmp 45)], argTypes := #[22] }), 49, some (44, false)⟩,
   ⟨some 47, (Op.move (Operand.tmp 0)), 49, some (44, false)⟩,
   ⟨some 48, (Op.call { callee := (Callee.value (Operand.func 46)), args := #[(Operand.tmp 47)], argTypes := #[49] }), 49, some (44, false)⟩,
   ⟨some 49, (Op.call { callee := (Callee.value (Operand.func 44)), args := #[(Operand.tmp 46), (Operand.tmp 48)], argTypes := #[49, 49] }), 4, some (44, false)⟩,
   ⟨some 50, (Op.pick (Operand.tmp 44) (Operand.const (Value.bool true)) (Operand.tmp 49)), 4, some (41, true)⟩,
   ⟨some 51, (Op.pick (Operand.tmp 41) (Operand.tmp 50) (Operand.const (Value.bool false))), 4, none⟩,
   ⟨some 2, (Op.assign (Operand.tmp 51)), 4, none⟩]
def B7 : VC :=
  (.seq (.region r7_0) (.seq (.seq (.region r7_1) (.cond (Operand.tmp 10) (.seq (.region r7_2) .ret) .skip)) (.seq (.region r7_3) (.seq (.region r7_4) (.seq (.region r7_5) (.seq (.seq (.region r7_6) (.cond (Operand.tmp 39) (.seq (.region r7_7) .ret) .skip)) (.seq (.region r7_8) .ret)))))))
theorem code7 : ∃ c, Try.f7.body = some c ∧ abs Try.f7.ntmps c = B7 := ⟨_, rfl, by kernel_rfl⟩
theorem hb7 : HasBody Try.prog 7 := hasBody_of Try.func7 (by kernel_rfl)
theorem res7 : Try.f7.results = #[(ResultVar.tmp 2)] := rfl
theorem enter7 {w : World} {R : Value → World → Prop} (x0 : Value) (h : vc Try.prog B7 (retK Try.prog #[(ResultVar.tmp 2)] R) [] (initEnv [x0] 0) w) : FnC Try.prog 7 #[x0] w R := by
  obtain ⟨c, h1, h2⟩ := code7
  exact hb7.fn (ret_of_vc mixed Try.func7 h1 (Nat.le_of_ble_eq_true rfl) B7 h2 h)
@[push_cast] theorem vr7_0 (Q : Post) (ds : List Deferred) (σ : Env) (w : World) : vc Try.prog (.region r7_0) Q ds σ w = vcOps Try.prog [⟨some 2, (Op.assign (Operand.const (Value.bool false))), 4, none⟩] (Q .normal ds) σ w := mk_eq rfl
@[push_cast] theorem vr7_1 (Q : Post) (ds : List Deferred) (σ : Env) (w : World) : vc Try.prog (.region r7_1) Q ds σ w = vcOps Try.prog [⟨some 8, (Op.move (Operand.tmp 0)), 49, none⟩, ⟨some 9, (Op.call { callee := (Callee.builtin Builtin.len), args := #[(Operand.tmp 8)], argTypes := #[49] }), 3, none⟩, ⟨some 10, (Op.binOp BinOp.gtr 3 (Operand.tmp 9) (Operand.const (Value.int IntKind.i64 300)) 3), 4, none⟩] (Q .normal ds) σ w := mk_eq rfl
@[push_cast] theorem vr7_2 (Q : Post) (ds : List Deferred) (σ : Env) (w : World) : vc Try.prog (.region r7_2) Q ds σ w = vcOps Try.prog [⟨some 11, (Op.call { callee := (Callee.value (Operand.func 30)), args := #[], argTypes := #[] }), 4, none⟩, ⟨some 2, (Op.assign (Operand.tmp 11)), 4, none⟩] (Q .normal ds) σ w := mk_eq rfl
@[push_cast] theorem vr7_3 (Q : Post) (ds : List Deferred) (σ : Env) (w : World) : vc Try.prog (.region r7_3) Q ds σ w = vcOps Try.prog [⟨some 12, (Op.buildSlice 49 0 #[]), 49, none⟩, ⟨some 13, (Op.move (Operand.tmp 0)), 49, none⟩, ⟨some 14, (Op.call { callee := (Callee.builtin Builtin.append), args := #[(Operand.tmp 12), (Operand.tmp 13)], argTypes := #[49, 49] }), 49, none⟩, ⟨some 3, (Op.assign (Operand.tmp 14)), 49, none⟩] (Q .normal ds) σ w := mk_eq rfl
@[push_cast] theorem vr7_4 (Q : Post) (ds : List Deferred) (σ : Env) (w : World) : vc Try.prog (.region r7_4) Q ds σ w = vcOps Try.prog [⟨some 16, (Op.move (Operand.tmp 0)), 49, none⟩, ⟨some 17, (Op.call { callee := (Callee.value (Operand.func 42)), args := #[(Operand.tmp 16)], argTypes := #[49] }), 50, none⟩, ⟨some 15, (Op.move (Operand.tmp 17)), 50, none⟩, ⟨some 18, (Op.extract (Operand.tmp 15) 0), 22, none⟩, ⟨some 19, (Op.extract (Operand.tmp 15) 1), 24, none⟩, ⟨some 4, (Op.assign (Operand.tmp 18)), 22, none⟩, ⟨some 5, (Op.assign (Operand.tmp 19)), 24, none⟩] (Q .normal ds) σ w := mk_eq rfl
@[push_cast] theorem vr7_5 (Q : Post) (ds : List Deferred) (σ : Env) (w : World) : vc Try.prog (.region r7_5) Q ds σ w = vcOps Try.prog [⟨some 21, (Op.move (Operand.tmp 0)), 49, none⟩, ⟨some 22, (Op.call { callee := (Callee.value (Operand.func 43)), args := #[(Operand.tmp 21)], argTypes := #[49] }), 50, none⟩, ⟨some 20, (Op.move (Operand.tmp 22)), 50, none⟩, ⟨some 23, (Op.extract (Operand.tmp 20) 0), 22, none⟩, ⟨some 24, (Op.extract (Operand.tmp 20) 1), 24, none⟩, ⟨some 6, (Op.assign (Operand.tmp 23)), 22, none⟩, ⟨some 7, (Op.assign (Operand.tmp 24)), 24, none⟩] (Q .normal ds) σ w := mk_eq rfl
@[push_cast] theorem vr7_6 (Q : Post) (ds : List Deferred) (σ : Env) (w : World) : vc Try.prog (.region r7_6) Q ds σ w = vcOps Try.prog [⟨some 25, (Op.move (Operand.tmp 5)), 24, none⟩, ⟨some 26, (Op.move (Operand.tmp 7)), 24, none⟩, ⟨some 27, (Op.binOp BinOp.neq 24 (Operand.tmp 25) (Operand.tmp 26) 24), 4, none⟩, ⟨some 28, (Op.move (Operand.tmp 27)), 4, none⟩, ⟨some 29, (Op.move (Operand.tmp 4)), 22, some (28, false)⟩, ⟨some 30, (Op.move (Operand.tmp 6)), 22, some (28, false)⟩, ⟨some 31, (Op.call { callee := (Callee.value (Operand.func 16)), args := #[(Operand.tmp 29), (Operand.tmp 30)], argTypes := #[22, 22] }), 4, some (28, false)⟩, ⟨some 32, (Op.unOp UnOp.not 4 (Operand.tmp 31)), 4, some (28, false)⟩, ⟨some 33, (Op.pick (Operand.tmp 28) (Operand.const (Value.bool true)) (Operand.tmp 32)), 4, none⟩, ⟨some 34, (Op.move (Operand.tmp 33)), 4, none⟩, ⟨some 35, (Op.move (Operand.tmp 0)), 49, some (34, false)⟩, ⟨some 36, (Op.move (Operand.tmp 3)), 49, some (34, false)⟩, ⟨some 37, (Op.call { callee := (Callee.value (Operand.func 44)), args := #[(Operand.tmp 35), (Operand.tmp 36)], argTypes := #[49, 49] }), 4, some (34, false)⟩, ⟨some 38, (Op.unOp UnOp.not 4 (Operand.tmp 37)), 4, some (34, false)⟩, ⟨some 39, (Op.pick (Operand.tmp 34) (Operand.const (Value.bool true)) (Operand.tmp 38)), 4, none⟩] (Q .normal ds) σ w := mk_eq rfl
@[push_cast] theorem vr7_7 (Q : Post) (ds : List Deferred) (σ : Env) (w : World) : vc Try.prog (.region r7_7) Q ds σ w = vcOps Try.prog [⟨some 2, (Op.assign (Operand.const (Value.bool false))), 4, none⟩] (Q .normal ds) σ w := mk_eq rfl
@[push_cast] theorem vr7_8 (Q : Post) (ds : List Deferred) (σ : Env) (w : World) : vc Try.prog (.region r7_8) Q ds σ w = vcOps Try.prog [⟨some 40, (Op.call { callee := (Callee.value (Operand.func 30)), args := #[], argTypes := #[] }), 4, none⟩, ⟨some 41, (Op.move (Operand.tmp 40)), 4, none⟩, ⟨some 42, (Op.move (Operand.tmp 7)), 24, some (41, true)⟩, ⟨some 43, (Op.binOp BinOp.neq 24 (Operand.tmp 42) (Operand.const (Value.int IntKind.i64 0)) 24), 4, some (41, true)⟩, ⟨some 44, (Op.move (Operand.tmp 43)), 4, some (41, true)⟩, ⟨some 45, (Op.move (Operand.tmp 4)), 22, some (44, false)⟩, ⟨some 46, (Op.call { callee := (Callee.value (Operand.func 45)), args := #[(Operand.tmp 45)], argTypes := #[22] }), 49, some (44, false)⟩, ⟨some 47, (Op.move (Operand.tmp 0)), 49, some (44, false)⟩, ⟨some 48, (Op.call { callee := (Callee.value (Operand.func 46)), args := #[(Operand.tmp 47)], argTypes := #[49] }), 49, some (44, false)⟩, ⟨some 49, (Op.call { callee := (Callee.value (Operand.func 44)), args := #[(Operand.tmp 46), (Operand.tmp 48)], argTypes := #[49, 49] }), 4, some (44, false)⟩, ⟨some 50, (Op.pick (Operand.tmp 44) (Operand.const (Value.bool true)) (Operand.tmp 49)), 4, some (41, true)⟩, ⟨some 51, (Op.pick (Operand.tmp 41) (Operand.tmp 50) (Operand.const (Value.bool false))), 4, none⟩, ⟨some 2, (Op.assign (Operand.tmp 51)), 4, none⟩] (Q .normal ds) σ w := mk_eq rfl
/-! 8 columbary/columbarylaw04.RunsList (params #[22, 22], results #[(ResultVar.tmp 4)], 68 slots) -/
def r8_0 : List VOp :=
  [⟨some 4, (Op.assign (Operand.const (Value.bool false))), 4, none⟩]
def r8_1 : List VOp :=
  [⟨some 10, (Op.move (Operand.tmp 0)), 22, none⟩,
   ⟨some 11, (Op.call { callee := (Callee.value (Operand.func 15)), args := #[(Operand.tmp 10)], argTypes := #[22] }), 4, none⟩,
   ⟨some 5, (Op.assign (Operand.tmp 11)), 4, none⟩]
def r8_2 : List VOp :=
  [⟨some 12, (Op.move (Operand.tmp 1)), 22, none⟩,
   ⟨some 13, (Op.call { callee := (Callee.value (Operand.func 15)), args := #[(Operand.tmp 12)], argTypes := #[22] }), 4, none⟩,
   ⟨some 6, (Op.assign (Operand.tmp 13)), 4, none⟩]
def r8_3 : List VOp :=
  [⟨some 14, (Op.move (Operand.tmp 5)), 4, none⟩,
   ⟨some 15, (Op.unOp UnOp.not 4 (Operand.tmp 14)), 4, none⟩,
   ⟨some 16, (Op.move (Operand.tmp 15)), 4, none⟩,
   ⟨some 17, (Op.move (Operand.tmp 6)), 4, some (16, false)⟩,
   ⟨some 18, (Op.unOp UnOp.not 4 (Operand.tmp 17)), 4, some (16, false)⟩,
   ⟨some 19, (Op.pick (Operand.tmp 16) (Operand.const (Value.bool true)) (Operand.tmp 18)), 4, none⟩,
   ⟨some 20, (Op.move (Operand.tmp 19)), 4, none⟩,
   ⟨some 21, (Op.move (Operand.tmp 0)), 22, some (20, false)⟩,
   ⟨some 22, (Op.call { callee := (Callee.value (Operand.func 32)), args := #[(Operand.tmp 21)], argTypes := #[22] }), 3, some (20, false)⟩,
   ⟨some 23, (Op.binOp BinOp.gtr 3 (Operand.tmp 22) (Operand.const (Value.int IntKind.i64 1000)) 3), 4, some (20, false)⟩,
   ⟨some 24, (Op.pick (Operand.tmp 20) (Operand.const (Value.bool true)) (Operand.tmp 23)), 4, none⟩]
def r8_4 : List VOp :=
  [⟨some 25, (Op.call { callee := (Callee.value (Operand.func 30)), args := #[], argTypes := #[] }), 4, none⟩,
   ⟨some 4, (Op.assign (Operand.tmp 25)), 4, none⟩]
def r8_5 : List VOp :=
  [⟨some 27, (Op.move (Operand.tmp 0)), 22, none⟩,
   ⟨some 28, (Op.call { callee := (Callee.value (Operand.func 45)), args := #[(Operand.tmp 27)], argTypes := #[22] }), 49, none⟩,
   ⟨some 29, (Op.call { callee := (Callee.value (Operand.func 42)), args := #[(Operand.tmp 28)], argTypes := #[49] }), 50, none⟩,
   ⟨some 26, (Op.move (Operand.tmp 29)), 50, none⟩,
   ⟨some 30, (Op.extract (Operand.tmp 26) 0), 22, none⟩,
   ⟨some 31, (Op.extract (Operand.tmp 26) 1), 24, none⟩,
   ⟨some 7, (Op.assign (Operand.tmp 30)), 22, none⟩,
   ⟨some 8, (Op.assign (Operand.tmp 31)), 24, none⟩]
def r8_6 : List VOp :=
  [⟨some 32, (Op.move (Operand.tmp 0)), 22, none⟩,
   ⟨some 33, (Op.move (Operand.tmp 1)), 22, none⟩,
   ⟨some 34, (Op.call { callee := (Callee.value (Operand.func 35)), args := #[(Operand.tmp 32), (Operand.tmp 33)], argTypes := #[22, 22] }), 22, none⟩,
   ⟨some 35, (Op.call { callee := (Callee.value (Operand.func 32)), args := #[(Operand.tmp 34)], argTypes := #[22] }), 3, none⟩,
   ⟨some 36, (Op.move (Operand.tmp 0)), 22, none⟩,
   ⟨some 37, (Op.move (Operand.tmp 1)), 22, none⟩,
   ⟨some 38, (Op.call { callee := (Callee.value (Operand.func 38)), args := #[(Operand.tmp 36), (Operand.tmp 37)], argTypes := #[22, 22] }), 22, none⟩,
   ⟨some 39, (Op.call { callee := (Callee.value (Operand.func 32)), args := #[(Operand.tmp 38)], argTypes := #[22] }), 3, none⟩,
   ⟨some 40, (Op.binOp BinOp.add 3 (Operand.tmp 35) (Operand.tmp 39) 3), 3, none⟩,
   ⟨some 9, (Op.assign (Operand.tmp 40)), 3, none⟩]
def r8_7 : List VOp :=
  [⟨some 41, (Op.call { callee := (Callee.value (Operand.func 30)), args := #[], argTypes := #[] }), 4, none⟩,
   ⟨some 42, (Op.move (Operand.tmp 41)), 4, none⟩,
   ⟨some 43, (Op.move (Operand.tmp 8)), 24, some (42, true)⟩,
   ⟨some 44, (Op.binOp BinOp.eql 24 (Operand.tmp 43) (Operand.const (Value.int IntKind.i64 0)) 24), 4, some (42, true)⟩,
   ⟨some 45, (Op.pick (Operand.tmp 42) (Operand.tmp 44) (Operand.const (Value.bool false))), 4, none⟩,
   ⟨some 46, (Op.move (Operand.tmp 45)), 4, none⟩,
   ⟨some 47, (Op.move (Operand.tmp 7)), 22, some (46, true)⟩,
   ⟨some 48, (Op.move (Operand.tmp 0)), 22, some (46, true)⟩,
   ⟨some 49, (Op.call { callee := (Callee.value (Operand.func 16)), args := #[(Operand.tmp 47), (Operand.tmp 48)], argTypes := #[22, 22] }), 4, some (46, true)⟩,
   ⟨some 50, (Op.pick (Operand.tmp 46) (Operand.tmp 49) (Operand.const (Value.bool false))), 4, none⟩,
   ⟨some 51, (Op.move (Operand.tmp 50)), 4, none⟩,
   ⟨some 52, (Op.move (Operand.tmp 0)), 22, some (51, true)⟩,
   ⟨some 53, (Op.call { callee := (Callee.value (Operand.func 45)), args := #[(Operand.tmp 52)], argTypes := #[22] }), 49, some (51, true)⟩,
   ⟨some 54, (Op.call { callee := (Callee.builtin Builtin.len), args := #[(Operand.tmp 53)], argTypes := #[49] }), 3, some (51, true)⟩,
   ⟨some 55, (Op.move (Operand.tmp 0)), 22, some (51, true)⟩,
   ⟨some 56, (Op.call { callee := (Callee.value (Operand.func 32)), args := #[(Operand.tmp 55)], argTypes := #[22] }), 3, some (51, true)⟩,
   ⟨some 57, (Op.binOp BinOp.eql 3 (Operand.tmp 54) (Operand.tmp 56) 3), 4, some (51, true)⟩,
   ⟨some 58, (Op.pick (Operand.tmp 51) (Operand.tmp 57) (Operand.const (Value.bool false))), 4, none⟩,
   ⟨some 59, (Op.move (Operand.tmp 58)), 4, none⟩,
   ⟨some 60, (Op.move (Operand.tmp 9)), 3, some (59, true)⟩,
   ⟨some 61, (Op.move (Operand.tmp 0)), 22, some (59, true)⟩,
   ⟨some 62, (Op.call { callee := (Callee.value (Operand.func 32)), args := #[(Operand.tmp 61)], argTypes := #[22] }), 3, some (59, true)⟩,
   ⟨some 63, (Op.move (Operand.tmp 1)), 22, some (59, true)⟩,
   ⟨some 64, (Op.call { callee := (Callee.value (Operand.func 32)), args := #[(Operand.tmp 63)], argTypes := #[22] }), 3, some (59, true)⟩,
   ⟨some 65, (Op.binOp BinOp.add 3 (Operand.tmp 62) (Operand.tmp 64) 3), 3, some (59, true)⟩,
   ⟨some 66, (Op.binOp BinOp.eql 3 (Operand.tmp 60) (Operand.tmp 65) 3), 4, some (59, true)⟩,
   ⟨some 67, (Op.pick (Operand.tmp 59) (Operand.tmp 66) (Operand.const (Value.bool false))), 4, none⟩,
   ⟨some 4, (Op.assign (Operand.tmp 67)), 4, none⟩]
def B8 : VC :=
  (.seq (.region r8_0) (.seq (.region r8_1) (.seq (.region r8_2) (.seq (.seq (.region r8_3) (.cond (Operand.tmp 24) (.seq (.region r8_4) .ret) .skip)) (.seq (.region r8_5) (.seq (.region r8_6) (.seq (.region r8_7) .ret)))))))
theorem code8 : ∃ c, Try.f8.body = some c ∧ abs Try.f8.ntmps c = B8 := ⟨_, rfl, by kernel_rfl⟩
theorem hb8 : HasBody Try.prog 8 := hasBody_of Try.func8 (by kernel_rfl)
theorem res8 : Try.f8.results = #[(ResultVar.tmp 4)] := rfl
theorem enter8 {w : World} {R : Value → World → Prop} (x0 x1 : Value) (h : vc Try.prog B8 (retK Try.prog #[(ResultVar.tmp 4)] R) [] (initEnv [x0, x1] 0) w) : FnC Try.prog 8 #[x0, x1] w R := by
  obtain ⟨c, h1, h2⟩ := code8
  exact hb8.fn (ret_of_vc mixed Try.func8 h1 (Nat.le_of_ble_eq_true rfl) B8 h2 h)
@[push_cast] theorem vr8_0 (Q : Post) (ds : List Deferred) (σ : Env) (w : World) : vc Try.prog (.region r8_0) Q ds σ w = vcOps Try.prog [⟨some 4, (Op.assign (Operand.const (Value.bool false))), 4, none⟩] (Q .normal ds) σ w := mk_eq rfl
@[push_cast] theorem vr8_1 (Q : Post) (ds : List Deferred) (σ : Env) (w : World) : vc Try.prog (.region r8_1) Q ds σ w = vcOps Try.prog [⟨some 10, (Op.move (Operand.tmp 0)), 22, none⟩, ⟨some 11, (Op.call { callee := (Callee.value (Operand.func 15)), args := #[(Operand.tmp 10)], argTypes := #[22] }), 4, none⟩, ⟨some 5, (Op.assign (Operand.tmp 11)), 4, none⟩] (Q .normal ds) σ w := mk_eq rfl
@[push_cast] theorem vr8_2 (Q : Post) (ds : List Deferred) (σ : Env) (w : World) : vc Try.prog (.region r8_2) Q ds σ w = vcOps Try.prog [⟨some 12, (Op.move (Operand.tmp 1)), 22, none⟩, ⟨some 13, (Op.call { callee := (Callee.value (Operand.func 15)), args := #[(Operand.tmp 12)], argTypes := #[22] }), 4, none⟩, ⟨some 6, (Op.assign (Operand.tmp 13)), 4, none⟩] (Q .normal ds) σ w := mk_eq rfl
@[push_cast] theorem vr8_3 (Q : Post) (ds : List Deferred) (σ : Env) (w : World) : vc Try.prog (.region r8_3) Q ds σ w = vcOps Try.prog [⟨some 14, (Op.move (Operand.tmp 5)), 4, none⟩, ⟨some 15, (Op.unOp UnOp.not 4 (Operand.tmp 14)), 4, none⟩, ⟨some 16, (Op.move (Operand.tmp 15)), 4, none⟩, ⟨some 17, (Op.move (Operand.tmp 6)), 4, some (16, false)⟩, ⟨some 18, (Op.unOp UnOp.not 4 (Operand.tmp 17)), 4, some (16, false)⟩, ⟨some 19, (Op.pick (Operand.tmp 16) (Operand.const (Value.bool true)) (Operand.tmp 18)), 4, none⟩, ⟨some 20, (Op.move (Operand.tmp 19)), 4, none⟩, ⟨some 21, (Op.move (Operand.tmp 0)), 22, some (20, false)⟩, ⟨some 22, (Op.call { callee := (Callee.value (Operand.func 32)), args := #[(Operand.tmp 21)], argTypes := #[22] }), 3, some (20, false)⟩, ⟨some 23, (Op.binOp BinOp.gtr 3 (Operand.tmp 22) (Operand.const (Value.int IntKind.i64 1000)) 3), 4, some (20, false)⟩, ⟨some 24, (Op.pick (Operand.tmp 20) (Operand.const (Value.bool true)) (Operand.tmp 23)), 4, none⟩] (Q .normal ds) σ w := mk_eq rfl
@[push_cast] theorem vr8_4 (Q : Post) (ds : List Deferred) (σ : Env) (w : World) : vc Try.prog (.region r8_4) Q ds σ w = vcOps Try.prog [⟨some 25, (Op.call { callee := (Callee.value (Operand.func 30)), args := #[], argTypes := #[] }), 4, none⟩, ⟨some 4, (Op.assign (Operand.tmp 25)), 4, none⟩] (Q .normal ds) σ w := mk_eq rfl
@[push_cast] theorem vr8_5 (Q : Post) (ds : List Deferred) (σ : Env) (w : World) : vc Try.prog (.region r8_5) Q ds σ w = vcOps Try.prog [⟨some 27, (Op.move (Operand.tmp 0)), 22, none⟩, ⟨some 28, (Op.call { callee := (Callee.value (Operand.func 45)), args := #[(Operand.tmp 27)], argTypes := #[22] }), 49, none⟩, ⟨some 29, (Op.call { callee := (Callee.value (Operand.func 42)), args := #[(Operand.tmp 28)], argTypes := #[49] }), 50, none⟩, ⟨some 26, (Op.move (Operand.tmp 29)), 50, none⟩, ⟨some 30, (Op.extract (Operand.tmp 26) 0), 22, none⟩, ⟨some 31, (Op.extract (Operand.tmp 26) 1), 24, none⟩, ⟨some 7, (Op.assign (Operand.tmp 30)), 22, none⟩, ⟨some 8, (Op.assign (Operand.tmp 31)), 24, none⟩] (Q .normal ds) σ w := mk_eq rfl
@[push_cast] theorem vr8_6 (Q : Post) (ds : List Deferred) (σ : Env) (w : World) : vc Try.prog (.region r8_6) Q ds σ w = vcOps Try.prog [⟨some 32, (Op.move (Operand.tmp 0)), 22, none⟩, ⟨some 33, (Op.move (Operand.tmp 1)), 22, none⟩, ⟨some 34, (Op.call { callee := (Callee.value (Operand.func 35)), args := #[(Operand.tmp 32), (Operand.tmp 33)], argTypes := #[22, 22] }), 22, none⟩, ⟨some 35, (Op.call { callee := (Callee.value (Operand.func 32)), args := #[(Operand.tmp 34)], argTypes := #[22] }), 3, none⟩, ⟨some 36, (Op.move (Operand.tmp 0)), 22, none⟩, ⟨some 37, (Op.move (Operand.tmp 1)), 22, none⟩, ⟨some 38, (Op.call { callee := (Callee.value (Operand.func 38)), args := #[(Operand.tmp 36), (Operand.tmp 37)], argTypes := #[22, 22] }), 22, none⟩, ⟨some 39, (Op.call { callee := (Callee.value (Operand.func 32)), args := #[(Operand.tmp 38)], argTypes := #[22] }), 3, none⟩, ⟨some 40, (Op.binOp BinOp.add 3 (Operand.tmp 35) (Operand.tmp 39) 3), 3, none⟩, ⟨some 9, (Op.assign (Operand.tmp 40)), 3, none⟩] (Q .normal ds) σ w := mk_eq rfl
@[push_cast] theorem vr8_7 (Q : Post) (ds : List Deferred) (σ : Env) (w : World) : vc Try.prog (.region r8_7) Q ds σ w = vcOps Try.prog [⟨some 41, (Op.call { callee := (Callee.value (Operand.func 30)), args := #[], argTypes := #[] }), 4, none⟩, ⟨some 42, (Op.move (Operand.tmp 41)), 4, none⟩, ⟨some 43, (Op.move (Operand.tmp 8)), 24, some (42, true)⟩, ⟨some 44, (Op.binOp BinOp.eql 24 (Operand.tmp 43) (Operand.const (Value.int IntKind.i64 0)) 24), 4, some (42, true)⟩, ⟨some 45, (Op.pick (Operand.tmp 42) (Operand.tmp 44) (Operand.const (Value.bool false))), 4, none⟩, ⟨some 46, (Op.move (Operand.tmp 45)), 4, none⟩, ⟨some 47, (Op.move (Operand.tmp 7)), 22, some (46, true)⟩, ⟨some 48, (Op.move (Operand.tmp 0)), 22, some (46, true)⟩, ⟨some 49, (Op.call { callee := (Callee.value (Operand.func 16)), args := #[(Operand.tmp 47), (Operand.tmp 48)], argTypes := #[22, 22] }), 4, some (46, true)⟩, ⟨some 50, (Op.pick (Operand.tmp 46) (Operand.tmp 49) (Operand.const (Value.bool false))), 4, none⟩, ⟨some 51, (Op.move (Operand.tmp 50)), 4, none⟩, ⟨some 52, (Op.move (Operand.tmp 0)), 22, some (51, true)⟩, ⟨some 53, (Op.call { callee := (Callee.value (Operand.func 45)), args := #[(Operand.tmp 52)], argTypes := #[22] }), 49, some (51, true)⟩, ⟨some 54, (Op.call { callee := (Callee.builtin Builtin.len), args := #[(Operand.tmp 53)], argTypes := #[49] }), 3, some (51, true)⟩, ⟨some 55, (Op.move (Operand.tmp 0)), 22, some (51, true)⟩, ⟨some 56, (Op.call { callee := (Callee.value (Operand.func 32)), args := #[(Operand.tmp 55)], argTypes := #[22] }), 3, some (51, true)⟩, ⟨some 57, (Op.binOp BinOp.eql 3 (Operand.tmp 54) (Operand.tmp 56) 3), 4, some (51, true)⟩, ⟨some 58, (Op.pick (Operand.tmp 51) (Operand.tmp 57) (Operand.const (Value.bool false))), 4, none⟩, ⟨some 59, (Op.move (Operand.tmp 58)), 4, none⟩, ⟨some 60, (Op.move (Operand.tmp 9)), 3, some (59, true)⟩, ⟨some 61, (Op.move (Operand.tmp 0)), 22, some (59, true)⟩, ⟨some 62, (Op.call { callee := (Callee.value (Operand.func 32)), args := #[(Operand.tmp 61)], argTypes := #[22] }), 3, some (59, true)⟩, ⟨some 63, (Op.move (Operand.tmp 1)), 22, some (59, true)⟩, ⟨some 64, (Op.call { callee := (Callee.value (Operand.func 32)), args := #[(Operand.tmp 63)], argTypes := #[22] }), 3, some (59, true)⟩, ⟨some 65, (Op.binOp BinOp.add 3 (Operand.tmp 62) (Operand.tmp 64) 3), 3, some (59, true)⟩, ⟨some 66, (Op.binOp BinOp.eql 3 (Operand.tmp 60) (Operand.tmp 65) 3), 4, some (59, true)⟩, ⟨some 67, (Op.pick (Operand.tmp 59) (Operand.tmp 66) (Operand.const (Value.bool false))), 4, none⟩, ⟨some 4, (Op.assign (Operand.tmp 67)), 4, none⟩] (Q .normal ds) σ w := mk_eq rfl
/-! 9 columbary/columbarylaw04.RunsUpto (params #[3, 3], results #[(ResultVar.tmp 4)], 38 slots) -/
def r9_0 : List VOp :=
  [⟨some 4, (Op.assign (Operand.const (Value.bool false))), 4, none⟩]
def r9_1 : List VOp :=
  [⟨some 6, (Op.move (Operand.tmp 0)), 3, none⟩,
   ⟨some 7, (Op.call { callee := (Callee.value (Operand.func 36)), args := #[(Operand.tmp 6)], argTypes := #[3] }), 22, none⟩,
   ⟨some 5, (Op.assign (Operand.tmp 7)), 22, none⟩]
def r9_2 : List VOp :=
  [⟨some 8, (Op.call { callee := (Callee.value (Operand.func 30)), args := #[], argTypes := #[] }), 4, none⟩,
   ⟨some 9, (Op.move (Operand.tmp 8)), 4, none⟩,
   ⟨some 10, (Op.move (Operand.tmp 5)), 22, some (9, true)⟩,
   ⟨some 11, (Op.call { callee := (Callee.value (Operand.func 47)), args := #[(Operand.tmp 10)], argTypes := #[22] }), 4, some (9, true)⟩,
   ⟨some 12, (Op.pick (Operand.tmp 9) (Operand.tmp 11) (Operand.const (Value.bool false))), 4, none⟩,
   ⟨some 13, (Op.move (Operand.tmp 12)), 4, none⟩,
   ⟨some 14, (Op.move (Operand.tmp 5)), 22, some (13, true)⟩,
   ⟨some 15, (Op.call { callee := (Callee.value (Operand.func 32)), args := #[(Operand.tmp 14)], argTypes := #[22] }), 3, some (13, true)⟩,
   ⟨some 16, (Op.move (Operand.tmp 0)), 3, some (13, true)⟩,
   ⟨some 17, (Op.call { callee := (Callee.builtin Builtin.max), args := #[(Operand.tmp 16), (Operand.const (Value.int IntKind.i64 0))], argTypes := #[3, 3] }), 3, some (13, true)⟩,
   ⟨some 18, (Op.call { callee := (Callee.builtin Builtin.min), args := #[(Operand.tmp 17), (Operand.const (Value.int IntKind.i64 65536))], argTypes := #[3, 3] }), 3, some (13, true)⟩,
   ⟨some 19, (Op.binOp BinOp.eql 3 (Operand.tmp 15) (Operand.tmp 18) 3), 4, some (13, true)⟩,
   ⟨some 20, (Op.pick (Operand.tmp 13) (Operand.tmp 19) (Operand.const (Value.bool false))), 4, none⟩,
   ⟨some 21, (Op.move (Operand.tmp 20)), 4, none⟩,
   ⟨some 22, (Op.move (Operand.tmp 5)), 22, some (21, true)⟩,
   ⟨some 23, (Op.move (Operand.tmp 1)), 3, some (21, true)⟩,
   ⟨some 24, (Op.call { callee := (Callee.value (Operand.func 33)), args := #[(Operand.tmp 22), (Operand.tmp 23)], argTypes := #[22, 3] }), 4, some (21, true)⟩,
   ⟨some 25, (Op.move (Operand.tmp 1)), 3, some (21, true)⟩,
   ⟨some 26, (Op.binOp BinOp.geq 3 (Operand.tmp 25) (Operand.const (Value.int IntKind.i64 0)) 3), 4, some (21, true)⟩,
   ⟨some 27, (Op.move (Operand.tmp 26)), 4, some (21, true)⟩,
   ⟨some 28, (Op.move (Operand.tmp 1)), 3, some (27, true)⟩,
   ⟨some 29, (Op.move (Operand.tmp 0)), 3, some (27, true)⟩,
   ⟨some 30, (Op.binOp BinOp.lss 3 (Operand.tmp 28) (Operand.tmp 29) 3), 4, some (27, true)⟩,
   ⟨some 31, (Op.pick (Operand.tmp 27) (Operand.tmp 30) (Operand.const (Value.bool false))), 4, some (21, true)⟩,
   ⟨some 32, (Op.move (Operand.tmp 31)), 4, some (21, true)⟩,
   ⟨some 33, (Op.move (Operand.tmp 1)), 3, some (32, true)⟩,
   ⟨some 34, (Op.binOp BinOp.lss 3 (Operand.tmp 33) (Operand.const (Value.int IntKind.i64 65536)) 3), 4, some (32, true)⟩,
   ⟨some 35, (Op.pick (Operand.tmp 32) (Operand.tmp 34) (Operand.const (Value.bool false))), 4, some (21, true)⟩,
   ⟨some 36, (Op.binOp BinOp.eql 4 (Operand.tmp 24) (Operand.tmp 35) 4), 4, some (21, true)⟩,
   ⟨some 37, (Op.pick (Operand.tmp 21) (Operand.tmp 36) (Operand.const (Value.bool false))), 4, none⟩,
   ⟨some 4, (Op.assign (Operand.tmp 37)), 4, none⟩]
def B9 : VC :=
  (.seq (.region r9_0) (.seq (.region r9_1) (.seq (.region r9_2) .ret)))
theorem code9 : ∃ c, Try.f9.body = some c ∧ abs Try.f9.ntmps c = B9 := ⟨_, rfl, by kernel_rfl⟩
theorem hb9 : HasBody Try.prog 9 := hasBody_of Try.func9 (by kernel_rfl)
theorem res9 : Try.f9.results = #[(ResultVar.tmp 4)] := rfl
theorem enter9 {w : World} {R : Value → World → Prop} (x0 x1 : Value) (h : vc Try.prog B9 (retK Try.prog #[(ResultVar.tmp 4)] R) [] (initEnv [x0, x1] 0) w) : FnC Try.prog 9 #[x0, x1] w R := by
  obtain ⟨c, h1, h2⟩ := code9
  exact hb9.fn (ret_of_vc mixed Try.func9 h1 (Nat.le_of_ble_eq_true rfl) B9 h2 h)
@[push_cast] theorem vr9_0 (Q : Post) (ds : List Deferred) (σ : Env) (w : World) : vc Try.prog (.region r9_0) Q ds σ w = vcOps Try.prog [⟨some 4, (Op.assign (Operand.const (Value.bool false))), 4, none⟩] (Q .normal ds) σ w := mk_eq rfl
@[push_cast] theorem vr9_1 (Q : Post) (ds : List Deferred) (σ : Env) (w : World) : vc Try.prog (.region r9_1) Q ds σ w = vcOps Try.prog [⟨some 6, (Op.move (Operand.tmp 0)), 3, none⟩, ⟨some 7, (Op.call { callee := (Callee.value (Operand.func 36)), args := #[(Operand.tmp 6)], argTypes := #[3] }), 22, none⟩, ⟨some 5, (Op.assign (Operand.tmp 7)), 22, none⟩] (Q .normal ds) σ w := mk_eq rfl
@[push_cast] theorem vr9_2 (Q : Post) (ds : List Deferred) (σ : Env) (w : World) : vc Try.prog (.region r9_2) Q ds σ w = vcOps Try.prog [⟨some 8, (Op.call { callee := (Callee.value (Operand.func 30)), args := #[], argTypes := #[] }), 4, none⟩, ⟨some 9, (Op.move (Operand.tmp 8)), 4, none⟩, ⟨some 10, (Op.move (Operand.tmp 5)), 22, some (9, true)⟩, ⟨some 11, (Op.call { callee := (Callee.value (Operand.func 47)), args := #[(Operand.tmp 10)], argTypes := #[22] }), 4, some (9, true)⟩, ⟨some 12, (Op.pick (Operand.tmp 9) (Operand.tmp 11) (Operand.const (Value.bool false))), 4, none⟩, ⟨some 13, (Op.move (Operand.tmp 12)), 4, none⟩, ⟨some 14, (Op.move (Operand.tmp 5)), 22, some (13, true)⟩, ⟨some 15, (Op.call { callee := (Callee.value (Operand.func 32)), args := #[(Operand.tmp 14)], argTypes := #[22] }), 3, some (13, true)⟩, ⟨some 16, (Op.move (Operand.tmp 0)), 3, some (13, true)⟩, ⟨some 17, (Op.call { callee := (Callee.builtin Builtin.max), args := #[(Operand.tmp 16), (Operand.const (Value.int IntKind.i64 0))], argTypes := #[3, 3] }), 3, some (13, true)⟩, ⟨some 18, (Op.call { callee := (Callee.builtin Builtin.min), args := #[(Operand.tmp 17), (Operand.const (Value.int IntKind.i64 65536))], argTypes := #[3, 3] }), 3, some (13, true)⟩, ⟨some 19, (Op.binOp BinOp.eql 3 (Operand.tmp 15) (Operand.tmp 18) 3), 4, some (13, true)⟩, ⟨some 20, (Op.pick (Operand.tmp 13) (Operand.tmp 19) (Operand.const (Value.bool false))), 4, none⟩, ⟨some 21, (Op.move (Operand.tmp 20)), 4, none⟩, ⟨some 22, (Op.move (Operand.tmp 5)), 22, some (21, true)⟩, ⟨some 23, (Op.move (Operand.tmp 1)), 3, some (21, true)⟩, ⟨some 24, (Op.call { callee := (Callee.value (Operand.func 33)), args := #[(Operand.tmp 22), (Operand.tmp 23)], argTypes := #[22, 3] }), 4, some (21, true)⟩, ⟨some 25, (Op.move (Operand.tmp 1)), 3, some (21, true)⟩, ⟨some 26, (Op.binOp BinOp.geq 3 (Operand.tmp 25) (Operand.const (Value.int IntKind.i64 0)) 3), 4, some (21, true)⟩, ⟨some 27, (Op.move (Operand.tmp 26)), 4, some (21, true)⟩, ⟨some 28, (Op.move (Operand.tmp 1)), 3, some (27, true)⟩, ⟨some 29, (Op.move (Operand.tmp 0)), 3, some (27, true)⟩, ⟨some 30, (Op.binOp BinOp.lss 3 (Operand.tmp 28) (Operand.tmp 29) 3), 4, some (27, true)⟩, ⟨some 31, (Op.pick (Operand.tmp 27) (Operand.tmp 30) (Operand.const (Value.bool false))), 4, some (21, true)⟩, ⟨some 32, (Op.move (Operand.tmp 31)), 4, some (21, true)⟩, ⟨some 33, (Op.move (Operand.tmp 1)), 3, some (32, true)⟩, ⟨some 34, (Op.binOp BinOp.lss 3 (Operand.tmp 33) (Operand.const (Value.int IntKind.i64 65536)) 3), 4, some (32, true)⟩, ⟨some 35, (Op.pick (Operand.tmp 32) (Operand.tmp 34) (Operand.const (Value.bool false))), 4, some (21, true)⟩, ⟨some 36, (Op.binOp BinOp.eql 4 (Operand.tmp 24) (Operand.tmp 35) 4), 4, some (21, true)⟩, ⟨some 37, (Op.pick (Operand.tmp 21) (Operand.tmp 36) (Operand.const (Value.bool false))), 4, none⟩, ⟨some 4, (Op.assign (Operand.tmp 37)), 4, none⟩] (Q .normal ds) σ w := mk_eq rfl
/-! 10 columbary/columbarylaw04.RunsLaws (params #[22, 22, 22], results #[(ResultVar.tmp 6)], 141 slots) -/
def r10_0 : List VOp :=
  [⟨some 6, (Op.assign (Operand.const (Value.bool false))), 4, none⟩]
def r10_1 : List VOp :=
  [⟨some 16, (Op.move (Operand.tmp 0)), 22, none⟩,
   ⟨some 17, (Op.call { callee := (Callee.value (Operand.func 15)), args := #[(Operand.tmp 16)], argTypes := #[22] }), 4, none⟩,
   ⟨some 7, (Op.assign (Operand.tmp 17)), 4, none⟩]
def r10_2 : List VOp :=
  [⟨some 18, (Op.move (Operand.tmp 1)), 22, none⟩,
   ⟨some 19, (Op.call { callee := (Callee.value (Operand.func 15)), args := #[(Operand.tmp 18)], argTypes := #[22] }), 4, none⟩,
   ⟨some 8, (Op.assign (Operand.tmp 19)), 4, none⟩]
def r10_3 : List VOp :=
  [⟨some 20, (Op.move (Operand.tmp 2)), 22, none⟩,
   ⟨some 21, (Op.call { callee := (Callee.value (Operand.func 15)), args := #[(Operand.tmp 20)], argTypes := #[22] }), 4, none⟩,
   ⟨some 9, (Op.assign (Operand.tmp 21)), 4, none⟩]
def r10_4 : List VOp :=
  [⟨some 22, (Op.move (Operand.tmp 7)), 4, none⟩,
   ⟨some 23, (Op.unOp UnOp.not 4 (Operand.tmp 22)), 4, none⟩,
   ⟨some 24, (Op.move (Operand.tmp 23)), 4, none⟩,
   ⟨some 25, (Op.move (Operand.tmp 8)), 4, some (24, false)⟩,
   ⟨some 26, (Op.unOp UnOp.not 4 (Operand.tmp 25)), 4, some (24, false)⟩,
   ⟨some 27, (Op.pick (Operand.tmp 24) (Operand.const (Value.bool true)) (Operand.tmp 26)), 4, none⟩,
   ⟨some 28, (Op.move (Operand.tmp 27)), 4, none⟩,
   ⟨some 29, (Op.move (Operand.tmp 9)), 4, some (28, false)⟩,
   ⟨some 30, (Op.unOp UnOp.not 4 (Operand.tmp 29)), 4, some (28, false)⟩,
   ⟨some 31, (Op.pick (Operand.tmp 28) (Operand.const (Value.bool true)) (Operand.tmp 30)), 4, none⟩]
def r10_5 : List VOp :=
  [⟨some 32, (Op.call { callee := (Callee.value (Operand.func 30)), args := #[], argTypes := #[] }), 4, none⟩,
   ⟨some 6, (Op.assign (Operand.tmp 32)), 4, none⟩]
def r10_6 : List VOp :=
  [⟨some 33, (Op.move (Operand.tmp 0)), 22, none⟩,
   ⟨some 34, (Op.move (Operand.tmp 1)), 22, none⟩,
   ⟨some 35, (Op.call { callee := (Callee.value (Operand.func 35)), args := #[(Operand.tmp 33), (Operand.tmp 34)], argTypes := #[22, 22] }), 22, none⟩,
   ⟨some 36, (Op.move (Operand.tmp 1)), 22, none⟩,
   ⟨some 37, (Op.move (Operand.tmp 0)), 22, none⟩,
   ⟨some 38, (Op.call { callee := (Callee.value (Operand.func 35)), args := #[(Operand.tmp 36), (Operand.tmp 37)], argTypes := #[22, 22] }), 22, none⟩,
   ⟨some 39, (Op.call { callee := (Callee.value (Operand.func 16)), args := #[(Operand.tmp 35), (Operand.tmp 38)], argTypes := #[22, 22] }), 4, none⟩,
   ⟨some 40, (Op.move (Operand.tmp 39)), 4, none⟩,
   ⟨some 41, (Op.move (Operand.tmp 0)), 22, some (40, true)⟩,
   ⟨some 42, (Op.move (Operand.tmp 1)), 22, some (40, true)⟩,
   ⟨some 43, (Op.call { callee := (Callee.value (Operand.func 38)), args := #[(Operand.tmp 41), (Operand.tmp 42)], argTypes := #[22, 22] }), 22, some (40, true)⟩,
   ⟨some 44, (Op.move (Operand.tmp 1)), 22, some (40, true)⟩,
   ⟨some 45, (Op.move (Operand.tmp 0)), 22, some (40, true)⟩,
   ⟨some 46, (Op.call { callee := (Callee.value (Operand.func 38)), args := #[(Operand.tmp 44), (Operand.tmp 45)], argTypes := #[22, 22] }), 22, some (40, true)⟩,
   ⟨some 47, (Op.call { callee := (Callee.value (Operand.func 16)), args := #[(Operand.tmp 43), (Operand.tmp 46)], argTypes := #[22, 22] }), 4, some (40, true)⟩,
   ⟨some 48, (Op.pick (Operand.tmp 40) (Operand.tmp 47) (Operand.const (Value.bool false))), 4, none⟩,
   ⟨some 10, (Op.assign (Operand.tmp 48)), 4, none⟩]
def r10_7 : List VOp :=
  [⟨some 49, (Op.move (Operand.tmp 0)), 22, none⟩,
   ⟨some 50, (Op.move (Operand.tmp 1)), 22, none⟩,
   ⟨some 51, (Op.move (Operand.tmp 2)), 22, none⟩,
   ⟨some 52, (Op.call { callee := (Callee.value (Operand.func 38)), args := #[(Operand.tmp 50), (Operand.tmp 51)], argTypes := #[22, 22] }), 22, none⟩,
   ⟨some 53, (Op.call { callee := (Callee.value (Operand.func 35)), args := #[(Operand.tmp 49), (Operand.tmp 52)], argTypes := #[22, 22] }), 22, none⟩,
   ⟨some 54, (Op.move (Operand.tmp 0)), 22, none⟩,
   ⟨some 55, (Op.move (Operand.tmp 1)), 22, none⟩,
   ⟨some 56, (Op.call { callee := (Callee.value (Operand.func 35)), args := #[(Operand.tmp 54), (Operand.tmp 55)], argTypes := #[22, 22] }), 22, none⟩,
   ⟨some 57, (Op.move (Operand.tmp 0)), 22, none⟩,
   ⟨some 58, (Op.move (Operand.tmp 2)), 22, none⟩,
   ⟨some 59, (Op.call { callee := (Callee.value (Operand.func 35)), args := #[(Operand.tmp 57), (Operand.tmp 58)], argTypes := #[22, 22] }), 22, none⟩,
   ⟨some 60, (Op.call { callee := (Callee.value (Operand.func 38)), args := #[(Operand.tmp 56), (Operand.tmp 59)], argTypes := #[22, 22] }), 22, none⟩,
   ⟨some 61, (Op.call { callee := (Callee.value (Operand.func 16)), args := #[(Operand.tmp 53), (Operand.tmp 60)], argTypes := #[22, 22] }), 4, none⟩,
   ⟨some 11, (Op.assign (Operand.tmp 61)), 4, none⟩]
def r10_8 : List VOp :=
  [⟨some 62, (Op.move (Operand.tmp 0)), 22, none⟩,
   ⟨some 63, (Op.move (Operand.tmp 1)), 22, none⟩,
   ⟨some 64, (Op.call { callee := (Callee.value (Operand.func 40)), args := #[(Operand.tmp 62), (Operand.tmp 63)], argTypes := #[22, 22] }), 22, none⟩,
   ⟨some 65, (Op.move (Operand.tmp 0)), 22, none⟩,
   ⟨some 66, (Op.move (Operand.tmp 1)), 22, none⟩,
   ⟨some 67, (Op.call { callee := (Callee.value (Operand.func 35)), args := #[(Operand.tmp 65), (Operand.tmp 66)], argTypes := #[22, 22] }), 22, none⟩,
   ⟨some 68, (Op.call { callee := (Callee.value (Operand.func 38)), args := #[(Operand.tmp 64), (Operand.tmp 67)], argTypes := #[22, 22] }), 22, none⟩,
   ⟨some 69, (Op.move (Operand.tmp 0)), 22, none⟩,
   ⟨some 70, (Op.call { callee := (Callee.value (Operand.func 16)), args := #[(Operand.tmp 68), (Operand.tmp 69)], argTypes := #[22, 22] }), 4, none⟩,
   ⟨some 12, (Op.assign (Operand.tmp 70)), 4, none⟩]
def r10_9 : List VOp :=
  [⟨some 71, (Op.move (Operand.tmp 0)), 22, none⟩,
   ⟨some 72, (Op.move (Operand.tmp 0)), 22, none⟩,
   ⟨some 73, (Op.call { callee := (Callee.value (Operand.func 40)), args := #[(Operand.tmp 71), (Operand.tmp 72)], argTypes := #[22, 22] }), 22, none⟩,
   ⟨some 74, (Op.call { callee := (Callee.builtin Builtin.len), args := #[(Operand.tmp 73)], argTypes := #[22] }), 3, none⟩,
   ⟨some 75, (Op.binOp BinOp.eql 3 (Operand.tmp 74) (Operand.const (Value.int IntKind.i64 0)) 3), 4, none⟩,
   ⟨some 76, (Op.move (Operand.tmp 75)), 4, none⟩,
   ⟨some 77, (Op.move (Operand.tmp 0)), 22, some (76, true)⟩,
   ⟨some 78, (Op.move (Operand.tmp 0)), 22, some (76, true)⟩,
   ⟨some 79, (Op.call { callee := (Callee.value (Operand.func 35)), args := #[(Operand.tmp 77), (Operand.tmp 78)], argTypes := #[22, 22] }), 22, some (76, true)⟩,
   ⟨some 80, (Op.move (Operand.tmp 0)), 22, some (76, true)⟩,
   ⟨some 81, (Op.call { callee := (Callee.value (Operand.func 16)), args := #[(Operand.tmp 79), (Operand.tmp 80)], argTypes := #[22, 22] }), 4, some (76, true)⟩,
   ⟨some 82, (Op.pick (Operand.tmp 76) (Operand.tmp 81) (Operand.const (Value.bool false))), 4, none⟩,
   ⟨some 83, (Op.move (Operand.tmp 82)), 4, none⟩,
   ⟨some 84, (Op.move (Operand.tmp 0)), 22, some (83, true)⟩,
   ⟨some 85, (Op.move (Operand.tmp 0)), 22, some (83, true)⟩,
   ⟨some 86, (Op.call { callee := (Callee.value (Operand.func 38)), args := #[(Operand.tmp 84), (Operand.tmp 85)], argTypes := #[22, 22] }), 22, some (83, true)⟩,
   ⟨some 87, (Op.move (Operand.tmp 0)), 22, some (83, true)⟩,
   ⟨some 88, (Op.call { callee := (Callee.value (Operand.func 16)), args := #[(Operand.tmp 86), (Operand.tmp 87)], argTypes := #[22, 22] }), 4, some (83, true)⟩,
   ⟨some 89, (Op.pick (Operand.tmp 83) (Operand.tmp 88) (Operand.const (Value.bool false))), 4, none⟩,
   ⟨some 13, (Op.assign (Operand.tmp 89)), 4, none⟩]
def r10_10 : List VOp :=
  [⟨some 90, (Op.call { callee := (Callee.value (Operand.func 36)), args := #[(Operand.const (Value.int IntKind.i64 65536))], argTypes := #[3] }), 22, none⟩,
   ⟨some 14, (Op.assign (Operand.tmp 90)), 22, none⟩]
def r10_11 : List VOp :=
  [⟨some 91, (Op.move (Operand.tmp 14)), 22, none⟩,
   ⟨some 92, (Op.move (Operand.tmp 0)), 22, none⟩,
   ⟨some 93, (Op.move (Operand.tmp 1)), 22, none⟩,
   ⟨some 94, (Op.call { callee := (Callee.value (Operand.func 38)), args := #[(Operand.tmp 92), (Operand.tmp 93)], argTypes := #[22, 22] }), 22, none⟩,
   ⟨some 95, (Op.call { callee := (Callee.value (Operand.func 40)), args := #[(Operand.tmp 91), (Operand.tmp 94)], argTypes := #[22, 22] }), 22, none⟩,
   ⟨some 96, (Op.move (Operand.tmp 14)), 22, none⟩,
   ⟨some 97, (Op.move (Operand.tmp 0)), 22, none⟩,
   ⟨some 98, (Op.call { callee := (Callee.value (Operand.func 40)), args := #[(Operand.tmp 96), (Operand.tmp 97)], argTypes := #[22, 22] }), 22, none⟩,
   ⟨some 99, (Op.move (Operand.tmp 14)), 22, none⟩,
   ⟨some 100, (Op.move (Operand.tmp 1)), 22, none⟩,
   ⟨some 101, (Op.call { callee := (Callee.value (Operand.func 40)), args := #[(Operand.tmp 99), (Operand.tmp 100)], argTypes := #[22, 22] }), 22, none⟩,
   ⟨some 102, (Op.call { callee := (Callee.value (Operand.func 35)), args := #[(Operand.tmp 98), (Operand.tmp 101)], argTypes := #[22, 22] }), 22, none⟩,
   ⟨some 103, (Op.call { callee := (Callee.value (Operand.func 16)), args := #[(Operand.tmp 95), (Operand.tmp 102)], argTypes := #[22, 22] }), 4, none⟩,
   ⟨some 104, (Op.move (Operand.tmp 103)), 4, none⟩,
   ⟨some 105, (Op.move (Operand.tmp 14)), 22, some (104, true)⟩,
   ⟨some 106, (Op.move (Operand.tmp 14)), 22, some (104, true)⟩,
   ⟨some 107, (Op.move (Operand.tmp 0)), 22, some (104, true)⟩,
   ⟨some 108, (Op.call { callee := (Callee.value (Operand.func 40)), args := #[(Operand.tmp 106), (Operand.tmp 107)], argTypes := #[22, 22] }), 22, some (104, true)⟩,
   ⟨some 109, (Op.call { callee := (Callee.value (Operand.func 40)), args := #[(Operand.tmp 105), (Operand.tmp 108)], argTypes := #[22, 22] }), 22, some (104, true)⟩,
   ⟨some 110, (Op.move (Operand.tmp 0)), 22, some (104, true)⟩,
   ⟨some 111, (Op.call { callee := (Callee.value (Operand.func 16)), args := #[(Operand.tmp 109), (Operand.tmp 110)], argTypes := #[22, 22] }), 4, some (104, true)⟩,
   ⟨some 112, (Op.pick (Operand.tmp 104) (Operand.tmp 111) (Operand.const (Value.bool false))), 4, none⟩,
   ⟨some 15, (Op.assign (Operand.tmp 112)), 4, none⟩]
def r10_12 : List VOp :=
  [⟨some 113, (Op.call { callee := (Callee.value (Operand.func 30)), args := #[], argTypes := #[] }), 4, none⟩,
   ⟨some 114, (Op.move (Operand.tmp 113)), 4, none⟩,
   ⟨some 115, (Op.move (Operand.tmp 10)), 4, some (114, true)⟩,
   ⟨some 116, (Op.pick (Operand.tmp 114) (Operand.tmp 115) (Operand.const (Value.bool false))), 4, none⟩,
   ⟨some 117, (Op.move (Operand.tmp 116)), 4, none⟩,
   ⟨some 118, (Op.move (Operand.tmp 11)), 4, some (117, true)⟩,
   ⟨some 119, (Op.pick (Operand.tmp 117) (Operand.tmp 118) (Operand.const (Value.bool false))), 4, none⟩,
   ⟨some 120, (Op.move (Operand.tmp 119)), 4, none⟩,
   ⟨some 121, (Op.move (Operand.tmp 12)), 4, some (120, true)⟩,
   ⟨some 122, (Op.pick (Operand.tmp 120) (Operand.tmp 121) (Operand.const (Value.bool false))), 4, none⟩,
   ⟨some 123, (Op.move (Operand.tmp 122)), 4, none⟩,
   ⟨some 124, (Op.move (Operand.tmp 13)), 4, some (123, true)⟩,
   ⟨some 125, (Op.pick (Operand.tmp 123) (Operand.tmp 124) (Operand.const (Value.bool false))), 4, none⟩,
   ⟨some 126, (Op.move (Operand.tmp 125)), 4, none⟩,
   ⟨some 127, (Op.move (Operand.tmp 15)), 4, some (126, true)⟩,
   ⟨some 128, (Op.pick (Operand.tmp 126) (Operand.tmp 127) (Operand.const (Value.bool false))), 4, none⟩,
   ⟨some 129, (Op.move (Operand.tmp 128)), 4, none⟩,
   ⟨some 130, (Op.move (Operand.tmp 0)), 22, some (129, true)⟩,
   ⟨some 131, (Op.move (Operand.tmp 1)), 22, some (129, true)⟩,
   ⟨some 132, (Op.call { callee := (Callee.value (Operand.func 38)), args := #[(Operand.tmp 130), (Operand.tmp 131)], argTypes := #[22, 22] }), 22, some (129, true)⟩,
   ⟨some 133, (Op.call { callee := (Callee.value (Operand.func 47)), args := #[(Operand.tmp 132)], argTypes := #[22] }), 4, some (129, true)⟩,
   ⟨some 134, (Op.pick (Operand.tmp 129) (Operand.tmp 133) (Operand.const (Value.bool false))), 4, none⟩,
   ⟨some 135, (Op.move (Operand.tmp 134)), 4, none⟩,
   ⟨some 136, (Op.move (Operand.tmp 14)), 22, some (135, true)⟩,
   ⟨some 137, (Op.move (Operand.tmp 0)), 22, some (135, true)⟩,
   ⟨some 138, (Op.call { callee := (Callee.value (Operand.func 40)), args := #[(Operand.tmp 136), (Operand.tmp 137)], argTypes := #[22, 22] }), 22, some (135, true)⟩,
   ⟨some 139, (Op.call { callee := (Callee.value (Operand.func 47)), args := #[(Operand.tmp 138)], argTypes := #[22] }), 4, some (135, true)⟩,
   ⟨some 140, (Op.pick (Operand.tmp 135) (Operand.tmp 139) (Operand.const (Value.bool false))), 4, none⟩,
   ⟨some 6, (Op.assign (Operand.tmp 140)), 4, none⟩]
def B10 : VC :=
  (.seq (.region r10_0) (.seq (.region r10_1) (.seq (.region r10_2) (.seq (.region r10_3) (.seq (.seq (.region r10_4) (.cond (Operand.tmp 31) (.seq (.region r10_5) .ret) .skip)) (.seq (.region r10_6) (.seq (.region r10_7) (.seq (.region r10_8) (.seq (.region r10_9) (.seq (.region r10_10) (.seq (.region r10_11) (.seq (.region r10_12) .ret))))))))))))
theorem code10 : ∃ c, Try.f10.body = some c ∧ abs Try.f10.ntmps c = B10 := ⟨_, rfl, by kernel_rfl⟩
theorem hb10 : HasBody Try.prog 10 := hasBody_of Try.func10 (by kernel_rfl)
theorem res10 : Try.f10.results = #[(ResultVar.tmp 6)] := rfl
theorem enter10 {w : World} {R : Value → World → Prop} (x0 x1 x2 : Value) (h : vc Try.prog B10 (retK Try.prog #[(ResultVar.tmp 6)] R) [] (initEnv [x0, x1, x2] 0) w) : FnC Try.prog 10 #[x0, x1, x2] w R := by
  obtain ⟨c, h1, h2⟩ := code10
  exact hb10.fn (ret_of_vc mixed Try.func10 h1 (Nat.le_of_ble_eq_true rfl) B10 h2 h)
@[push_cast] theorem vr10_0 (Q : Post) (ds : List Deferred) (σ : Env) (w : World) : vc Try.prog (.region r10_0) Q ds σ w = vcOps Try.prog [⟨some 6, (Op.assign (Operand.const (Value.bool false))), 4, none⟩] (Q .normal ds) σ w := mk_eq rfl
@[push_cast] theorem vr10_1 (Q : Post) (ds : List Deferred) (σ : Env) (w : World) : vc Try.prog (.region r10_1) Q ds σ w = vcOps Try.prog [⟨some 16, (Op.move (Operand.tmp 0)), 22, none⟩, ⟨some 17, (Op.call { callee := (Callee.value (Operand.func 15)), args := #[(Operand.tmp 16)], argTypes := #[22] }), 4, none⟩, ⟨some 7, (Op.assign (Operand.tmp 17)), 4, none⟩] (Q .normal ds) σ w := mk_eq rfl
@[push_cast] theorem vr10_2 (Q : Post) (ds : List Deferred) (σ : Env) (w : World) : vc Try.prog (.region r10_2) Q ds σ w = vcOps Try.prog [⟨some 18, (Op.move (Operand.tmp 1)), 22, none⟩, ⟨some 19, (Op.call { callee := (Callee.value (Operand.func 15)), args := #[(Operand.tmp 18)], argTypes := #[22] }), 4, none⟩, ⟨some 8, (Op.assign (Operand.tmp 19)), 4, none⟩] (Q .normal ds) σ w := mk_eq rfl
@[push_cast] theorem vr10_3 (Q : Post) (ds : List Deferred) (σ : Env) (w : World) : vc Try.prog (.region r10_3) Q ds σ w = vcOps Try.prog [⟨some 20, (Op.move (Operand.tmp 2)), 22, none⟩, ⟨some 21, (Op.call { callee := (Callee.value (Operand.func 15)), args := #[(Operand.tmp 20)], argTypes := #[22] }), 4, none⟩, ⟨some 9, (Op.assign (Operand.tmp 21)), 4, none⟩] (Q .normal ds) σ w := mk_eq rfl
@[push_cast] theorem vr10_4 (Q : Post) (ds : List Deferred) (σ : Env) (w : World) : vc Try.prog (.region r10_4) Q ds σ w = vcOps Try.prog [⟨some 22, (Op.move (Operand.tmp 7)), 4, none⟩, ⟨some 23, (Op.unOp UnOp.not 4 (Operand.tmp 22)), 4, none⟩, ⟨some 24, (Op.move (Operand.tmp 23)), 4, none⟩, ⟨some 25, (Op.move (Operand.tmp 8)), 4, some (24, false)⟩, ⟨some 26, (Op.unOp UnOp.not 4 (Operand.tmp 25)), 4, some (24, false)⟩, ⟨some 27, (Op.pick (Operand.tmp 24) (Operand.const (Value.bool true)) (Operand.tmp 26)), 4, none⟩, ⟨some 28, (Op.move (Operand.tmp 27)), 4, none⟩, ⟨some 29, (Op.move (Operand.tmp 9)), 4, some (28, false)⟩, ⟨some 30, (Op.unOp UnOp.not 4 (Operand.tmp 29)), 4, some (28, false)⟩, ⟨some 31, (Op.pick (Operand.tmp 28) (Operand.const (Value.bool true)) (Operand.tmp 30)), 4, none⟩] (Q .normal ds) σ w := mk_eq rfl
@[push_cast] theorem vr10_5 (Q : Post) (ds : List Deferred) (σ : Env) (w : World) : vc Try.prog (.region r10_5) Q ds σ w = vcOps Try.prog [⟨some 32, (Op.call { callee := (Callee.value (Operand.func 30)), args := #[], argTypes := #[] }), 4, none⟩, ⟨some 6, (Op.assign (Operand.tmp 32)), 4, none⟩] (Q .normal ds) σ w := mk_eq rfl
@[push_cast] theorem vr10_6 (Q : Post) (ds : List Deferred) (σ : Env) (w : World) : vc Try.prog (.region r10_6) Q ds σ w = vcOps Try.prog [⟨some 33, (Op.move (Operand.tmp 0)), 22, none⟩, ⟨some 34, (Op.move (Operand.tmp 1)), 22, none⟩, ⟨some 35, (Op.call { callee := (Callee.value (Operand.func 35)), args := #[(Operand.tmp 33), (Operand.tmp 34)], argTypes := #[22, 22] }), 22, none⟩, ⟨some 36, (Op.move (Operand.tmp 1)), 22, none⟩, ⟨some 37, (Op.move (Operand.tmp 0)), 22, none⟩, ⟨some 38, (Op.call { callee := (Callee.value (Operand.func 35)), args := #[(Operand.tmp 36), (Operand.tmp 37)], argTypes := #[22, 22] }), 22, none⟩, ⟨some 39, (Op.call { callee := (Callee.value (Operand.func 16)), args := #[(Operand.tmp 35), (Operand.tmp 38)], argTypes := #[22, 22] }), 4, none⟩, ⟨some 40, (Op.move (Operand.tmp 39)), 4, none⟩, ⟨some 41, (Op.move (Operand.tmp 0)), 22, some (40, true)⟩, ⟨some 42, (Op.move (Operand.tmp 1)), 22, some (40, true)⟩, ⟨some 43, (Op.call { callee := (Callee.value (Operand.func 38)), args := #[(Operand.tmp 41), (Operand.tmp 42)], argTypes := #[22, 22] }), 22, some (40, true)⟩, ⟨some 44, (Op.move (Operand.tmp 1)), 22, some (40, true)⟩, ⟨some 45, (Op.move (Operand.tmp 0)), 22, some (40, true)⟩, ⟨some 46, (Op.call { callee := (Callee.value (Operand.func 38)), args := #[(Operand.tmp 44), (Operand.tmp 45)], argTypes := #[22, 22] }), 22, some (40, true)⟩, ⟨some 47, (Op.call { callee := (Callee.value (Operand.func 16)), args := #[(Operand.tmp 43), (Operand.tmp 46)], argTypes := #[22, 22] }), 4, some (40, true)⟩, ⟨some 48, (Op.pick (Operand.tmp 40) (Operand.tmp 47) (Operand.const (Value.bool false))), 4, none⟩, ⟨some 10, (Op.assign (Operand.tmp 48)), 4, none⟩] (Q .normal ds) σ w := mk_eq rfl
@[push_cast] theorem vr10_7 (Q : Post) (ds : List Deferred) (σ : Env) (w : World) : vc Try.prog (.region r10_7) Q ds σ w = vcOps Try.prog [⟨some 49, (Op.move (Operand.tmp 0)), 22, none⟩, ⟨some 50, (Op.move (Operand.tmp 1)), 22, none⟩, ⟨some 51, (Op.move (Operand.tmp 2)), 22, none⟩, ⟨some 52, (Op.call { callee := (Callee.value (Operand.func 38)), args := #[(Operand.tmp 50), (Operand.tmp 51)], argTypes := #[22, 22] }), 22, none⟩, ⟨some 53, (Op.call { callee := (Callee.value (Operand.func 35)), args := #[(Operand.tmp 49), (Operand.tmp 52)], argTypes := #[22, 22] }), 22, none⟩, ⟨some 54, (Op.move (Operand.tmp 0)), 22, none⟩, ⟨some 55, (Op.move (Operand.tmp 1)), 22, none⟩, ⟨some 56, (Op.call { callee := (Callee.value (Operand.func 35)), args := #[(Operand.tmp 54), (Operand.tmp 55)], argTypes := #[22, 22] }), 22, none⟩, ⟨some 57, (Op.move (Operand.tmp 0)), 22, none⟩, ⟨some 58, (Op.move (Operand.tmp 2)), 22, none⟩, ⟨some 59, (Op.call { callee := (Callee.value (Operand.func 35)), args := #[(Operand.tmp 57), (Operand.tmp 58)], argTypes := #[22, 22] }), 22, none⟩, ⟨some 60, (Op.call { callee := (Callee.value (Operand.func 38)), args := #[(Operand.tmp 56), (Operand.tmp 59)], argTypes := #[22, 22] }), 22, none⟩, ⟨some 61, (Op.call { callee := (Callee.value (Operand.func 16)), args := #[(Operand.tmp 53), (Operand.tmp 60)], argTypes := #[22, 22] }), 4, none⟩, ⟨some 11, (Op.assign (Operand.tmp 61)), 4, none⟩] (Q .normal ds) σ w := mk_eq rfl
@[push_cast] theorem vr10_8 (Q : Post) (ds : List Deferred) (σ : Env) (w : World) : vc Try.prog (.region r10_8) Q ds σ w = vcOps Try.prog [⟨some 62, (Op.move (Operand.tmp 0)), 22, none⟩, ⟨some 63, (Op.move (Operand.tmp 1)), 22, none⟩, ⟨some 64, (Op.call { callee := (Callee.value (Operand.func 40)), args := #[(Operand.tmp 62), (Operand.tmp 63)], argTypes := #[22, 22] }), 22, none⟩, ⟨some 65, (Op.move (Operand.tmp 0)), 22, none⟩, ⟨some 66, (Op.move (Operand.tmp 1)), 22, none⟩, ⟨some 67, (Op.call { callee := (Callee.value (Operand.func 35)), args := #[(Operand.tmp 65), (Operand.tmp 66)], argTypes := #[22, 22] }), 22, none⟩, ⟨some 68, (Op.call { callee := (Callee.value (Operand.func 38)), args := #[(Operand.tmp 64), (Operand.tmp 67)], argTypes := #[22, 22] }), 22, none⟩, ⟨some 69, (Op.move (Operand.tmp 0)), 22, none⟩, ⟨some 70, (Op.call { callee := (Callee.value (Operand.func 16)), args := #[(Operand.tmp 68), (Operand.tmp 69)], argTypes := #[22, 22] }), 4, none⟩, ⟨some 12, (Op.assign (Operand.tmp 70)), 4, none⟩] (Q .normal ds) σ w := mk_eq rfl
@[push_cast] theorem vr10_9 (Q : Post) (ds : List Deferred) (σ : Env) (w : World) : vc Try.prog (.region r10_9) Q ds σ w = vcOps Try.prog [⟨some 71, (Op.move (Operand.tmp 0)), 22, none⟩, ⟨some 72, (Op.move (Operand.tmp 0)), 22, none⟩, ⟨some 73, (Op.call { callee := (Callee.value (Operand.func 40)), args := #[(Operand.tmp 71), (Operand.tmp 72)], argTypes := #[22, 22] }), 22, none⟩, ⟨some 74, (Op.call { callee := (Callee.builtin Builtin.len), args := #[(Operand.tmp 73)], argTypes := #[22] }), 3, none⟩, ⟨some 75, (Op.binOp BinOp.eql 3 (Operand.tmp 74) (Operand.const (Value.int IntKind.i64 0)) 3), 4, none⟩, ⟨some 76, (Op.move (Operand.tmp 75)), 4, none⟩, ⟨some 77, (Op.move (Operand.tmp 0)), 22, some (76, true)⟩, ⟨some 78, (Op.move (Operand.tmp 0)), 22, some (76, true)⟩, ⟨some 79, (Op.call { callee := (Callee.value (Operand.func 35)), args := #[(Operand.tmp 77), (Operand.tmp 78)], argTypes := #[22, 22] }), 22, some (76, true)⟩, ⟨some 80, (Op.move (Operand.tmp 0)), 22, some (76, true)⟩, ⟨some 81, (Op.call { callee := (Callee.value (Operand.func 16)), args := #[(Operand.tmp 79), (Operand.tmp 80)], argTypes := #[22, 22] }), 4, some (76, true)⟩, ⟨some 82, (Op.pick (Operand.tmp 76) (Operand.tmp 81) (Operand.const (Value.bool false))), 4, none⟩, ⟨some 83, (Op.move (Operand.tmp 82)), 4, none⟩, ⟨some 84, (Op.move (Operand.tmp 0)), 22, some (83, true)⟩, ⟨some 85, (Op.move (Operand.tmp 0)), 22, some (83, true)⟩, ⟨some 86, (Op.call { callee := (Callee.value (Operand.func 38)), args := #[(Operand.tmp 84), (Operand.tmp 85)], argTypes := #[22, 22] }), 22, some (83, true)⟩, ⟨some 87, (Op.move (Operand.tmp 0)), 22, some (83, true)⟩, ⟨some 88, (Op.call { callee := (Callee.value (Operand.func 16)), args := #[(Operand.tmp 86), (Operand.tmp 87)], argTypes := #[22, 22] }), 4, some (83, true)⟩, ⟨some 89, (Op.pick (Operand.tmp 83) (Operand.tmp 88) (Operand.const (Value.bool false))), 4, none⟩, ⟨some 13, (Op.assign (Operand.tmp 89)), 4, none⟩] (Q .normal ds) σ w := mk_eq rfl
@[push_cast] theorem vr10_10 (Q : Post) (ds : List Deferred) (σ : Env) (w : World) : vc Try.prog (.region r10_10) Q ds σ w = vcOps Try.prog [⟨some 90, (Op.call { callee := (Callee.value (Operand.func 36)), args := #[(Operand.const (Value.int IntKind.i64 65536))], argTypes := #[3] }), 22, none⟩, ⟨some 14, (Op.assign (Operand.tmp 90)), 22, none⟩] (Q .normal ds) σ w := mk_eq rfl
@[push_cast] theorem vr10_11 (Q : Post) (ds : List Deferred) (σ : Env) (w : World) : vc Try.prog (.region r10_11) Q ds σ w = vcOps Try.prog [⟨some 91, (Op.move (Operand.tmp 14)), 22, none⟩, ⟨some 92, (Op.move (Operand.tmp 0)), 22, none⟩, ⟨some 93, (Op.move (Operand.tmp 1)), 22, none⟩, ⟨some 94, (Op.call { callee := (Callee.value (Operand.func 38)), args := #[(Operand.tmp 92), (Operand.tmp 93)], argTypes := #[22, 22] }), 22, none⟩, ⟨some 95, (Op.call { callee := (Callee.value (Operand.func 40)), args := #[(Operand.tmp 91), (Operand.tmp 94)], argTypes := #[22, 22] }), 22, none⟩, ⟨some 96, (Op.move (Operand.tmp 14)), 22, none⟩, ⟨some 97, (Op.move (Operand.tmp 0)), 22, none⟩, ⟨some 98, (Op.call { callee := (Callee.value (Operand.func 40)), args := #[(Operand.tmp 96), (Operand.tmp 97)], argTypes := #[22, 22] }), 22, none⟩, ⟨some 99, (Op.move (Operand.tmp 14)), 22, none⟩, ⟨some 100, (Op.move (Operand.tmp 1)), 22, none⟩, ⟨some 101, (Op.call { callee := (Callee.value (Operand.func 40)), args := #[(Operand.tmp 99), (Operand.tmp 100)], argTypes := #[22, 22] }), 22, none⟩, ⟨some 102, (Op.call { callee := (Callee.value (Operand.func 35)), args := #[(Operand.tmp 98), (Operand.tmp 101)], argTypes := #[22, 22] }), 22, none⟩, ⟨some 103, (Op.call { callee := (Callee.value (Operand.func 16)), args := #[(Operand.tmp 95), (Operand.tmp 102)], argTypes := #[22, 22] }), 4, none⟩, ⟨some 104, (Op.move (Operand.tmp 103)), 4, none⟩, ⟨some 105, (Op.move (Operand.tmp 14)), 22, some (104, true)⟩, ⟨some 106, (Op.move (Operand.tmp 14)), 22, some (104, true)⟩, ⟨some 107, (Op.move (Operand.tmp 0)), 22, some (104, true)⟩, ⟨some 108, (Op.call { callee := (Callee.value (Operand.func 40)), args := #[(Operand.tmp 106), (Operand.tmp 107)], argTypes := #[22, 22] }), 22, some (104, true)⟩, ⟨some 109, (Op.call { callee := (Callee.value (Operand.func 40)), args := #[(Operand.tmp 105), (Operand.tmp 108)], argTypes := #[22, 22] }), 22, some (104, true)⟩, ⟨some 110, (Op.move (Operand.tmp 0)), 22, some (104, true)⟩, ⟨some 111, (Op.call { callee := (Callee.value (Operand.func 16)), args := #[(Operand.tmp 109), (Operand.tmp 110)], argTypes := #[22, 22] }), 4, some (104, true)⟩, ⟨some 112, (Op.pick (Operand.tmp 104) (Operand.tmp 111) (Operand.const (Value.bool false))), 4, none⟩, ⟨some 15, (Op.assign (Operand.tmp 112)), 4, none⟩] (Q .normal ds) σ w := mk_eq rfl
@[push_cast] theorem vr10_12 (Q : Post) (ds : List Deferred) (σ : Env) (w : World) : vc Try.prog (.region r10_12) Q ds σ w = vcOps Try.prog [⟨some 113, (Op.call { callee := (Callee.value (Operand.func 30)), args := #[], argTypes := #[] }), 4, none⟩, ⟨some 114, (Op.move (Operand.tmp 113)), 4, none⟩, ⟨some 115, (Op.move (Operand.tmp 10)), 4, some (114, true)⟩, ⟨some 116, (Op.pick (Operand.tmp 114) (Operand.tmp 115) (Operand.const (Value.bool false))), 4, none⟩, ⟨some 117, (Op.move (Operand.tmp 116)), 4, none⟩, ⟨some 118, (Op.move (Operand.tmp 11)), 4, some (117, true)⟩, ⟨some 119, (Op.pick (Operand.tmp 117) (Operand.tmp 118) (Operand.const (Value.bool false))), 4, none⟩, ⟨some 120, (Op.move (Operand.tmp 119)), 4, none⟩, ⟨some 121, (Op.move (Operand.tmp 12)), 4, some (120, true)⟩, ⟨some 122, (Op.pick (Operand.tmp 120) (Operand.tmp 121) (Operand.const (Value.bool false))), 4, none⟩, ⟨some 123, (Op.move (Operand.tmp 122)), 4, none⟩, ⟨some 124, (Op.move (Operand.tmp 13)), 4, some (123, true)⟩, ⟨some 125, (Op.pick (Operand.tmp 123) (Operand.tmp 124) (Operand.const (Value.bool false))), 4, none⟩, ⟨some 126, (Op.move (Operand.tmp 125)), 4, none⟩, ⟨some 127, (Op.move (Operand.tmp 15)), 4, some (126, true)⟩, ⟨some 128, (Op.pick (Operand.tmp 126) (Operand.tmp 127) (Operand.const (Value.bool false))), 4, none⟩, ⟨some 129, (Op.move (Operand.tmp 128)), 4, none⟩, ⟨some 130, (Op.move (Operand.tmp 0)), 22, some (129, true)⟩, ⟨some 131, (Op.move (Operand.tmp 1)), 22, some (129, true)⟩, ⟨some 132, (Op.call { callee := (Callee.value (Operand.func 38)), args := #[(Operand.tmp 130), (Operand.tmp 131)], argTypes := #[22, 22] }), 22, some (129, true)⟩, ⟨some 133, (Op.call { callee := (Callee.value (Operand.func 47)), args := #[(Operand.tmp 132)], argTypes := #[22] }), 4, some (129, true)⟩, ⟨some 134, (Op.pick (Operand.tmp 129) (Operand.tmp 133) (Operand.const (Value.bool false))), 4, none⟩, ⟨some 135, (Op.move (Operand.tmp 134)), 4, none⟩, ⟨some 136, (Op.move (Operand.tmp 14)), 22, some (135, true)⟩, ⟨some 137, (Op.move (Operand.tmp 0)), 22, some (135, true)⟩, ⟨some 138, (Op.call { callee := (Callee.value (Operand.func 40)), args := #[(Operand.tmp 136), (Operand.tmp 137)], argTypes := #[22, 22] }), 22, some (135, true)⟩, ⟨some 139, (Op.call { callee := (Callee.value (Operand.func 47)), args := #[(Operand.tmp 138)], argTypes := #[22] }), 4, some (135, true)⟩, ⟨some 140, (Op.pick (Operand.tmp 135) (Operand.tmp 139) (Operand.const (Value.bool false))), 4, none⟩, ⟨some 6, (Op.assign (Operand.tmp 140)), 4, none⟩] (Q .normal ds) σ w := mk_eq rfl
/-! 11 columbary/columbarylaw04.RunsTells (params #[22, 3, 3], results #[(ResultVar.tmp 6)], 83 slots) -/
def r11_0 : List VOp :=
  [⟨some 6, (Op.assign (Operand.const (Value.bool false))), 4, none⟩]
def r11_1 : List VOp :=
  [⟨some 13, (Op.move (Operand.tmp 0)), 22, none⟩,
   ⟨some 14, (Op.call { callee := (Callee.builtin Builtin.len), args := #[(Operand.tmp 13)], argTypes := #[22] }), 3, none⟩,
   ⟨some 15, (Op.binOp BinOp.gtr 3 (Operand.tmp 14) (Operand.const (Value.int IntKind.i64 3000)) 3), 4, none⟩]
def r11_2 : List VOp :=
  [⟨some 16, (Op.call { callee := (Callee.value (Operand.func 30)), args := #[], argTypes := #[] }), 4, none⟩,
   ⟨some 6, (Op.assign (Operand.tmp 16)), 4, none⟩]
def r11_3 : List VOp :=
  [⟨some 17, (Op.move (Operand.tmp 0)), 22, none⟩,
   ⟨some 18, (Op.call { callee := (Callee.value (Operand.func 47)), args := #[(Operand.tmp 17)], argTypes := #[22] }), 4, none⟩,
   ⟨some 19, (Op.move (Operand.tmp 0)), 22, none⟩,
   ⟨some 20, (Op.call { callee := (Callee.value (Operand.func 13)), args := #[(Operand.tmp 19)], argTypes := #[22] }), 4, none⟩,
   ⟨some 21, (Op.binOp BinOp.neq 4 (Operand.tmp 18) (Operand.tmp 20) 4), 4, none⟩]
def r11_4 : List VOp :=
  [⟨some 6, (Op.assign (Operand.const (Value.bool false))), 4, none⟩]
def r11_5 : List VOp :=
  [⟨some 22, (Op.move (Operand.tmp 0)), 22, none⟩,
   ⟨some 23, (Op.call { callee := (Callee.value (Operand.func 15)), args := #[(Operand.tmp 22)], argTypes := #[22] }), 4, none⟩,
   ⟨some 7, (Op.assign (Operand.tmp 23)), 4, none⟩]
def r11_6 : List VOp :=
  [⟨some 24, (Op.move (Operand.tmp 7)), 4, none⟩,
   ⟨some 25, (Op.unOp UnOp.not 4 (Operand.tmp 24)), 4, none⟩]
def r11_7 : List VOp :=
  [⟨some 26, (Op.call { callee := (Callee.value (Operand.func 30)), args := #[], argTypes := #[] }), 4, none⟩,
   ⟨some 6, (Op.assign (Operand.tmp 26)), 4, none⟩]
def r11_8 : List VOp :=
  [⟨some 28, (Op.move (Operand.tmp 0)), 22, none⟩,
   ⟨some 29, (Op.move (Operand.tmp 2)), 3, none⟩,
   ⟨some 30, (Op.call { callee := (Callee.value (Operand.func 31)), args := #[(Operand.tmp 28), (Operand.tmp 29)], argTypes := #[22, 3] }), 44, none⟩,
   ⟨some 27, (Op.move (Operand.tmp 30)), 44, none⟩,
   ⟨some 31, (Op.extract (Operand.tmp 27) 0), 3, none⟩,
   ⟨some 32, (Op.extract (Operand.tmp 27) 1), 4, none⟩,
   ⟨some 8, (Op.assign (Operand.tmp 31)), 3, none⟩,
   ⟨some 9, (Op.assign (Operand.tmp 32)), 4, none⟩]
def r11_9 : List VOp :=
  [⟨some 34, (Op.move (Operand.tmp 0)), 22, none⟩,
   ⟨some 35, (Op.move (Operand.tmp 2)), 3, none⟩,
   ⟨some 36, (Op.call { callee := (Callee.value (Operand.func 48)), args := #[(Operand.tmp 34), (Operand.tmp 35)], argTypes := #[22, 3] }), 44, none⟩,
   ⟨some 33, (Op.move (Operand.tmp 36)), 44, none⟩,
   ⟨some 37, (Op.extract (Operand.tmp 33) 0), 3, none⟩,
   ⟨some 38, (Op.extract (Operand.tmp 33) 1), 4, none⟩,
   ⟨some 10, (Op.assign (Operand.tmp 37)), 3, none⟩,
   ⟨some 11, (Op.assign (Operand.tmp 38)), 4, none⟩]
def r11_10 : List VOp :=
  [⟨some 39, (Op.move (Operand.tmp 0)), 22, none⟩,
   ⟨some 40, (Op.call { callee := (Callee.value (Operand.func 49)), args := #[(Operand.tmp 39)], argTypes := #[22] }), 49, none⟩,
   ⟨some 12, (Op.assign (Operand.tmp 40)), 49, none⟩]
def r11_11 : List VOp :=
  [⟨some 41, (Op.call { callee := (Callee.value (Operand.func 30)), args := #[], argTypes := #[] }), 4, none⟩,
   ⟨some 42, (Op.move (Operand.tmp 41)), 4, none⟩,
   ⟨some 43, (Op.move (Operand.tmp 0)), 22, some (42, true)⟩,
   ⟨some 44, (Op.call { callee := (Callee.value (Operand.func 45)), args := #[(Operand.tmp 43)], argTypes := #[22] }), 49, some (42, true)⟩,
   ⟨some 45, (Op.move (Operand.tmp 12)), 49, some (42, true)⟩,
   ⟨some 46, (Op.call { callee := (Callee.value (Operand.func 44)), args := #[(Operand.tmp 44), (Operand.tmp 45)], argTypes := #[49, 49] }), 4, some (42, true)⟩,
   ⟨some 47, (Op.pick (Operand.tmp 42) (Operand.tmp 46) (Operand.const (Value.bool false))), 4, none⟩,
   ⟨some 48, (Op.move (Operand.tmp 47)), 4, none⟩,
   ⟨some 49, (Op.move (Operand.tmp 0)), 22, some (48, true)⟩,
   ⟨some 50, (Op.call { callee := (Callee.value (Operand.func 32)), args := #[(Operand.tmp 49)], argTypes := #[22] }), 3, some (48, true)⟩,
   ⟨some 51, (Op.move (Operand.tmp 12)), 49, some (48, true)⟩,
   ⟨some 52, (Op.call { callee := (Callee.builtin Builtin.len), args := #[(Operand.tmp 51)], argTypes := #[49] }), 3, some (48, true)⟩,
   ⟨some 53, (Op.binOp BinOp.eql 3 (Operand.tmp 50) (Operand.tmp 52) 3), 4, some (48, true)⟩,
   ⟨some 54, (Op.pick (Operand.tmp 48) (Operand.tmp 53) (Operand.const (Value.bool false))), 4, none⟩,
   ⟨some 55, (Op.move (Operand.tmp 54)), 4, none⟩,
   ⟨some 56, (Op.move (Operand.tmp 0)), 22, some (55, true)⟩,
   ⟨some 57, (Op.move (Operand.tmp 1)), 3, some (55, true)⟩,
   ⟨some 58, (Op.call { callee := (Callee.value (Operand.func 33)), args := #[(Operand.tmp 56), (Operand.tmp 57)], argTypes := #[22, 3] }), 4, some (55, true)⟩,
   ⟨some 59, (Op.move (Operand.tmp 0)), 22, some (55, true)⟩,
   ⟨some 60, (Op.move (Operand.tmp 1)), 3, some (55, true)⟩,
   ⟨some 61, (Op.call { callee := (Callee.value (Operand.func 21)), args := #[(Operand.tmp 59), (Operand.tmp 60)], argTypes := #[22, 3] }), 4, some (55, true)⟩,
   ⟨some 62, (Op.binOp BinOp.eql 4 (Operand.tmp 58) (Operand.tmp 61) 4), 4, some (55, true)⟩,
   ⟨some 63, (Op.pick (Operand.tmp 55) (Operand.tmp 62) (Operand.const (Value.bool false))), 4, none⟩,
   ⟨some 64, (Op.move (Operand.tmp 63)), 4, none⟩,
   ⟨some 65, (Op.move (Operand.tmp 0)), 22, some (64, true)⟩,
   ⟨some 66, (Op.move (Operand.tmp 1)), 3, some (64, true)⟩,
   ⟨some 67, (Op.call { callee := (Callee.value (Operand.func 34)), args := #[(Operand.tmp 65), (Operand.tmp 66)], argTypes := #[22, 3] }), 3, some (64, true)⟩,
   ⟨some 68, (Op.move (Operand.tmp 0)), 22, some (64, true)⟩,
   ⟨some 69, (Op.move (Operand.tmp 1)), 3, some (64, true)⟩,
   ⟨some 70, (Op.call { callee := (Callee.value (Operand.func 19)), args := #[(Operand.tmp 68), (Operand.tmp 69)], argTypes := #[22, 3] }), 3, some (64, true)⟩,
   ⟨some 71, (Op.binOp BinOp.eql 3 (Operand.tmp 67) (Operand.tmp 70) 3), 4, some (64, true)⟩,
   ⟨some 72, (Op.pick (Operand.tmp 64) (Operand.tmp 71) (Operand.const (Value.bool false))), 4, none⟩,
   ⟨some 73, (Op.move (Operand.tmp 72)), 4, none⟩,
   ⟨some 74, (Op.move (Operand.tmp 8)), 3, some (73, true)⟩,
   ⟨some 75, (Op.move (Operand.tmp 10)), 3, some (73, true)⟩,
   ⟨some 76, (Op.binOp BinOp.eql 3 (Operand.tmp 74) (Operand.tmp 75) 3), 4, some (73, true)⟩,
   ⟨some 77, (Op.pick (Operand.tmp 73) (Operand.tmp 76) (Operand.const (Value.bool false))), 4, none⟩,
   ⟨some 78, (Op.move (Operand.tmp 77)), 4, none⟩,
   ⟨some 79, (Op.move (Operand.tmp 9)), 4, some (78, true)⟩,
   ⟨some 80, (Op.move (Operand.tmp 11)), 4, some (78, true)⟩,
   ⟨some 81, (Op.binOp BinOp.eql 4 (Operand.tmp 79) (Operand.tmp 80) 4), 4, some (78, true)⟩,
   ⟨some 82, (Op.pick (Operand.tmp 78) (Operand.tmp 81) (Operand.const (Value.bool false))), 4, none⟩,
   ⟨some 6, (Op.assign (Operand.tmp 82)), 4, none⟩]
def B11 : VC :=
  (.seq (.region r11_0) (.seq (.seq (.region r11_1) (.cond (Operand.tmp 15) (.seq (.region r11_2) .ret) .skip)) (.seq (.seq (.region r11_3) (.cond (Operand.tmp 21) (.seq (.region r11_4) .ret) .skip)) (.seq (.region r11_5) (.seq (.seq (.region r11_6) (.cond (Operand.tmp 25) (.seq (.region r11_7) .ret) .skip)) (.seq (.region r11_8) (.seq (.region r11_9) (.seq (.region r11_10) (.seq (.region r11_11) .ret)))))))))
theorem code11 : ∃ c, Try.f11.body = some c ∧ abs Try.f11.ntmps c = B11 := ⟨_, rfl, by kernel_rfl⟩
theorem hb11 : HasBody Try.prog 11 := hasBody_of Try.func11 (by kernel_rfl)
theorem res11 : Try.f11.results = #[(ResultVar.tmp 6)] := rfl
theorem enter11 {w : World} {R : Value → World → Prop} (x0 x1 x2 : Value) (h : vc Try.prog B11 (retK Try.prog #[(ResultVar.tmp 6)] R) [] (initEnv [x0, x1, x2] 0) w) : FnC Try.prog 11 #[x0, x1, x2] w R := by
  obtain ⟨c, h1, h2⟩ := code11
  exact hb11.fn (ret_of_vc mixed Try.func11 h1 (Nat.le_of_ble_eq_true rfl) B11 h2 h)
@[push_cast] theorem vr11_0 (Q : Post) (ds : List Deferred) (σ : Env) (w : World) : vc Try.prog (.region r11_0) Q ds σ w = vcOps Try.prog [⟨some 6, (Op.assign (Operand.const (Value.bool false))), 4, none⟩] (Q .normal ds) σ w := mk_eq rfl
@[push_cast] theorem vr11_1 (Q : Post) (ds : List Deferred) (σ : Env) (w : World) : vc Try.prog (.region r11_1) Q ds σ w = vcOps Try.prog [⟨some 13, (Op.move (Operand.tmp 0)), 22, none⟩, ⟨some 14, (Op.call { callee := (Callee.builtin Builtin.len), args := #[(Operand.tmp 13)], argTypes := #[22] }), 3, none⟩, ⟨some 15, (Op.binOp BinOp.gtr 3 (Operand.tmp 14) (Operand.const (Value.int IntKind.i64 3000)) 3), 4, none⟩] (Q .normal ds) σ w := mk_eq rfl
@[push_cast] theorem vr11_2 (Q : Post) (ds : List Deferred) (σ : Env) (w : World) : vc Try.prog (.region r11_2) Q ds σ w = vcOps Try.prog [⟨some 16, (Op.call { callee := (Callee.value (Operand.func 30)), args := #[], argTypes := #[] }), 4, none⟩, ⟨some 6, (Op.assign (Operand.tmp 16)), 4, none⟩] (Q .normal ds) σ w := mk_eq rfl
@[push_cast] theorem vr11_3 (Q : Post) (ds : List Deferred) (σ : Env) (w : World) : vc Try.prog (.region r11_3) Q ds σ w = vcOps Try.prog [⟨some 17, (Op.move (Operand.tmp 0)), 22, none⟩, ⟨some 18, (Op.call { callee := (Callee.value (Operand.func 47)), args := #[(Operand.tmp 17)], argTypes := #[22] }), 4, none⟩, ⟨some 19, (Op.move (Operand.tmp 0)), 22, none⟩, ⟨some 20, (Op.call { callee := (Callee.value (Operand.func 13)), args := #[(Operand.tmp 19)], argTypes := #[22] }), 4, none⟩, ⟨some 21, (Op.binOp BinOp.neq 4 (Operand.tmp 18) (Operand.tmp 20) 4), 4, none⟩] (Q .normal ds) σ w := mk_eq rfl
@[push_cast] theorem vr11_4 (Q : Post) (ds : List Deferred) (σ : Env) (w : World) : vc Try.prog (.region r11_4) Q ds σ w = vcOps Try.prog [⟨some 6, (Op.assign (Operand.const (Value.bool false))), 4, none⟩] (Q .normal ds) σ w := mk_eq rfl
@[push_cast] theorem vr11_5 (Q : Post) (ds : List Deferred) (σ : Env) (w : World) : vc Try.prog (.region r11_5) Q ds σ w = vcOps Try.prog [⟨some 22, (Op.move (Operand.tmp 0)), 22, none⟩, ⟨some 23, (Op.call { callee := (Callee.value (Operand.func 15)), args := #[(Operand.tmp 22)], argTypes := #[22] }), 4, none⟩, ⟨some 7, (Op.assign (Operand.tmp 23)), 4, none⟩] (Q .normal ds) σ w := mk_eq rfl
@[push_cast] theorem vr11_6 (Q : Post) (ds : List Deferred) (σ : Env) (w : World) : vc Try.prog (.region r11_6) Q ds σ w = vcOps Try.prog [⟨some 24, (Op.move (Operand.tmp 7)), 4, none⟩, ⟨some 25, (Op.unOp UnOp.not 4 (Operand.tmp 24)), 4, none⟩] (Q .normal ds) σ w := mk_eq rfl
@[push_cast] theorem vr11_7 (Q : Post) (ds : List Deferred) (σ : Env) (w : World) : vc Try.prog (.region r11_7) Q ds σ w = vcOps Try.prog [⟨some 26, (Op.call { callee := (Callee.value (Operand.func 30)), args := #[], argTypes := #[] }), 4, none⟩, ⟨some 6, (Op.assign (Operand.tmp 26)), 4, none⟩] (Q .normal ds) σ w := mk_eq rfl
@[push_cast] theorem vr11_8 (Q : Post) (ds : List Deferred) (σ : Env) (w : World) : vc Try.prog (.region r11_8) Q ds σ w = vcOps Try.prog [⟨some 28, (Op.move (Operand.tmp 0)), 22, none⟩, ⟨some 29, (Op.move (Operand.tmp 2)), 3, none⟩, ⟨some 30, (Op.call { callee := (Callee.value (Operand.func 31)), args := #[(Operand.tmp 28), (Operand.tmp 29)], argTypes := #[22, 3] }), 44, none⟩, ⟨some 27, (Op.move (Operand.tmp 30)), 44, none⟩, ⟨some 31, (Op.extract (Operand.tmp 27) 0), 3, none⟩, ⟨some 32, (Op.extract (Operand.tmp 27) 1), 4, none⟩, ⟨some 8, (Op.assign (Operand.tmp 31)), 3, none⟩, ⟨some 9, (Op.assign (Operand.tmp 32)), 4, none⟩] (Q .normal ds) σ w := mk_eq rfl
@[push_cast] theorem vr11_9 (Q : Post) (ds : List Deferred) (σ : Env) (w : World) : vc Try.prog (.region r11_9) Q ds σ w = vcOps Try.prog [⟨some 34, (Op.move (Operand.tmp 0)), 22, none⟩, ⟨some 35, (Op.move (Operand.tmp 2)), 3, none⟩, ⟨some 36, (Op.call { callee := (Callee.value (Operand.func 48)), args := #[(Operand.tmp 34), (Operand.tmp 35)], argTypes := #[22, 3] }), 44, none⟩, ⟨some 33, (Op.move (Operand.tmp 36)), 44, none⟩, ⟨some 37, (Op.extract (Operand.tmp 33) 0), 3, none⟩, ⟨some 38, (Op.extract (Operand.tmp 33) 1), 4, none⟩, ⟨some 10, (Op.assign (Operand.tmp 37)), 3, none⟩, ⟨some 11, (Op.assign (Operand.tmp 38)), 4, none⟩] (Q .normal ds) σ w := mk_eq rfl
@[push_cast] theorem vr11_10 (Q : Post) (ds : List Deferred) (σ : Env) (w : World) : vc Try.prog (.region r11_10) Q ds σ w = vcOps Try.prog [⟨some 39, (Op.move (Operand.tmp 0)), 22, none⟩, ⟨some 40, (Op.call { callee := (Callee.value (Operand.func 49)), args := #[(Operand.tmp 39)], argTypes := #[22] }), 49, none⟩, ⟨some 12, (Op.assign (Operand.tmp 40)), 49, none⟩] (Q .normal ds) σ w := mk_eq rfl
@[push_cast] theorem vr11_11 (Q : Post) (ds : List Deferred) (σ : Env) (w : World) : vc Try.prog (.region r11_11) Q ds σ w = vcOps Try.prog [⟨some 41, (Op.call { callee := (Callee.value (Operand.func 30)), args := #[], argTypes := #[] }), 4, none⟩, ⟨some 42, (Op.move (Operand.tmp 41)), 4, none⟩, ⟨some 43, (Op.move (Operand.tmp 0)), 22, some (42, true)⟩, ⟨some 44, (Op.call { callee := (Callee.value (Operand.func 45)), args := #[(Operand.tmp 43)], argTypes := #[22] }), 49, some (42, true)⟩, ⟨some 45, (Op.move (Operand.tmp 12)), 49, some (42, true)⟩, ⟨some 46, (Op.call { callee := (Callee.value (Operand.func 44)), args := #[(Operand.tmp 44), (Operand.tmp 45)], argTypes := #[49, 49] }), 4, some (42, true)⟩, ⟨some 47, (Op.pick (Operand.tmp 42) (Operand.tmp 46) (Operand.const (Value.bool false))), 4, none⟩, ⟨some 48, (Op.move (Operand.tmp 47)), 4, none⟩, ⟨some 49, (Op.move (Operand.tmp 0)), 22, some (48, true)⟩, ⟨some 50, (Op.call { callee := (Callee.value (Operand.func 32)), args := #[(Operand.tmp 49)], argTypes := #[22] }), 3, some (48, true)⟩, ⟨some 51, (Op.move (Operand.tmp 12)), 49, some (48, true)⟩, ⟨some 52, (Op.call { callee := (Callee.builtin Builtin.len), args := #[(Operand.tmp 51)], argTypes := #[49] }), 3, some (48, true)⟩, ⟨some 53, (Op.binOp BinOp.eql 3 (Operand.tmp 50) (Operand.tmp 52) 3), 4, some (48, true)⟩, ⟨some 54, (Op.pick (Operand.tmp 48) (Operand.tmp 53) (Operand.const (Value.bool false))), 4, none⟩, ⟨some 55, (Op.move (Operand.tmp 54)), 4, none⟩, ⟨some 56, (Op.move (Operand.tmp 0)), 22, some (55, true)⟩, ⟨some 57, (Op.move (Operand.tmp 1)), 3, some (55, true)⟩, ⟨some 58, (Op.call { callee := (Callee.value (Operand.func 33)), args := #[(Operand.tmp 56), (Operand.tmp 57)], argTypes := #[22, 3] }), 4, some (55, true)⟩, ⟨some 59, (Op.move (Operand.tmp 0)), 22, some (55, true)⟩, ⟨some 60, (Op.move (Operand.tmp 1)), 3, some (55, true)⟩, ⟨some 61, (Op.call { callee := (Callee.value (Operand.func 21)), args := #[(Operand.tmp 59), (Operand.tmp 60)], argTypes := #[22, 3] }), 4, some (55, true)⟩, ⟨some 62, (Op.binOp BinOp.eql 4 (Operand.tmp 58) (Operand.tmp 61) 4), 4, some (55, true)⟩, ⟨some 63, (Op.pick (Operand.tmp 55) (Operand.tmp 62) (Operand.const (Value.bool false))), 4, none⟩, ⟨some 64, (Op.move (Operand.tmp 63)), 4, none⟩, ⟨some 65, (Op.move (Operand.tmp 0)), 22, some (64, true)⟩, ⟨some 66, (Op.move (Operand.tmp 1)), 3, some (64, true)⟩, ⟨some 67, (Op.call { callee := (Callee.value (Operand.func 34)), args := #[(Operand.tmp 65), (Operand.tmp 66)], argTypes := #[22, 3] }), 3, some (64, true)⟩, ⟨some 68, (Op.move (Operand.tmp 0)), 22, some (64, true)⟩, ⟨some 69, (Op.move (Operand.tmp 1)), 3, some (64, true)⟩, ⟨some 70, (Op.call { callee := (Callee.value (Operand.func 19)), args := #[(Operand.tmp 68), (Operand.tmp 69)], argTypes := #[22, 3] }), 3, some (64, true)⟩, ⟨some 71, (Op.binOp BinOp.eql 3 (Operand.tmp 67) (Operand.tmp 70) 3), 4, some (64, true)⟩, ⟨some 72, (Op.pick (Operand.tmp 64) (Operand.tmp 71) (Operand.const (Value.bool false))), 4, none⟩, ⟨some 73, (Op.move (Operand.tmp 72)), 4, none⟩, ⟨some 74, (Op.move (Operand.tmp 8)), 3, some (73, true)⟩, ⟨some 75, (Op.move (Operand.tmp 10)), 3, some (73, true)⟩, ⟨some 76, (Op.binOp BinOp.eql 3 (Operand.tmp 74) (Operand.tmp 75) 3), 4, some (73, true)⟩, ⟨some 77, (Op.pick (Operand.tmp 73) (Operand.tmp 76) (Operand.const (Value.bool false))), 4, none⟩, ⟨some 78, (Op.move (Operand.tmp 77)), 4, none⟩, ⟨some 79, (Op.move (Operand.tmp 9)), 4, some (78, true)⟩, ⟨some 80, (Op.move (Operand.tmp 11)), 4, some (78, true)⟩, ⟨some 81, (Op.binOp BinOp.eql 4 (Operand.tmp 79) (Operand.tmp 80) 4), 4, some (78, true)⟩, ⟨some 82, (Op.pick (Operand.tmp 78) (Operand.tmp 81) (Operand.const (Value.bool false))), 4, none⟩, ⟨some 6, (Op.assign (Operand.tmp 82)), 4, none⟩] (Q .normal ds) σ w := mk_eq rfl
/-! 30 columbary/columbarylaw04.alive (params #[], results #[(ResultVar.tmp 0)], 44 slots) -/
def r30_0 : List VOp :=
  [⟨some 0, (Op.assign (Operand.const (Value.bool false))), 4, none⟩]
def r30_1 : List VOp :=
  [⟨some 6, (Op.buildSlice 49 5 #[(0, (Operand.const (Value.int IntKind.i64 5))), (1, (Operand.const (Value.int IntKind.i64 3))), (2, (Operand.const (Value.int IntKind.i64 4))), (3, (Operand.const (Value.int IntKind.i64 9))), (4, (Operand.const (Value.int IntKind.i64 3)))]), 49, none⟩,
   ⟨some 7, (Op.call { callee := (Callee.value (Operand.func 42)), args := #[(Operand.tmp 6)], argTypes := #[49] }), 50, none⟩,
   ⟨some 5, (Op.move (Operand.tmp 7)), 50, none⟩,
   ⟨some 8, (Op.extract (Operand.tmp 5) 0), 22, none⟩,
   ⟨some 9, (Op.extract (Operand.tmp 5) 1), 24, none⟩,
   ⟨some 1, (Op.assign (Operand.tmp 8)), 22, none⟩,
   ⟨some 2, (Op.assign (Operand.tmp 9)), 24, none⟩]
def r30_2 : List VOp :=
  [⟨some 11, (Op.move (Operand.tmp 1)), 22, none⟩,
   ⟨some 12, (Op.call { callee := (Callee.value (Operand.func 31)), args := #[(Operand.tmp 11), (Operand.const (Value.int IntKind.i64 3))], argTypes := #[22, 3] }), 44, none⟩,
   ⟨some 10, (Op.move (Operand.tmp 12)), 44, none⟩,
   ⟨some 13, (Op.extract (Operand.tmp 10) 0), 3, none⟩,
   ⟨some 14, (Op.extract (Operand.tmp 10) 1), 4, none⟩,
   ⟨some 3, (Op.assign (Operand.tmp 13)), 3, none⟩,
   ⟨some 4, (Op.assign (Operand.tmp 14)), 4, none⟩]
def r30_3 : List VOp :=
  [⟨some 15, (Op.move (Operand.tmp 2)), 24, none⟩,
   ⟨some 16, (Op.binOp BinOp.eql 24 (Operand.tmp 15) (Operand.const (Value.int IntKind.i64 0)) 24), 4, none⟩,
   ⟨some 17, (Op.move (Operand.tmp 16)), 4, none⟩,
   ⟨some 18, (Op.move (Operand.tmp 1)), 22, some (17, true)⟩,
   ⟨some 19, (Op.build 63 #[(0, (Operand.const (Value.int IntKind.i64 3))), (1, (Operand.const (Value.int IntKind.i64 6)))]), 63, some (17, true)⟩,
   ⟨some 20, (Op.build 63 #[(0, (Operand.const (Value.int IntKind.i64 9))), (1, (Operand.const (Value.int IntKind.i64 10)))]), 63, some (17, true)⟩,
   ⟨some 21, (Op.buildSlice 22 2 #[(0, (Operand.tmp 19)), (1, (Operand.tmp 20))]), 22, some (17, true)⟩,
   ⟨some 22, (Op.call { callee := (Callee.value (Operand.func 16)), args := #[(Operand.tmp 18), (Operand.tmp 21)], argTypes := #[22, 22] }), 4, some (17, true)⟩,
   ⟨some 23, (Op.pick (Operand.tmp 17) (Operand.tmp 22) (Operand.const (Value.bool false))), 4, none⟩,
   ⟨some 24, (Op.move (Operand.tmp 23)), 4, none⟩,
   ⟨some 25, (Op.move (Operand.tmp 1)), 22, some (24, true)⟩,
   ⟨some 26, (Op.call { callee := (Callee.value (Operand.func 34)), args := #[(Operand.tmp 25), (Operand.const (Value.int IntKind.i64 5))], argTypes := #[22, 3] }), 3, some (24, true)⟩,
   ⟨some 27, (Op.binOp BinOp.eql 3 (Operand.tmp 26) (Operand.const (Value.int IntKind.i64 2)) 3), 4, some (24, true)⟩,
   ⟨some 28, (Op.pick (Operand.tmp 24) (Operand.tmp 27) (Operand.const (Value.bool false))), 4, none⟩,
   ⟨some 29, (Op.move (Operand.tmp 28)), 4, none⟩,
   ⟨some 30, (Op.move (Operand.tmp 4)), 4, some (29, true)⟩,
   ⟨some 31, (Op.pick (Operand.tmp 29) (Operand.tmp 30) (Operand.const (Value.bool false))), 4, none⟩,
   ⟨some 32, (Op.move (Operand.tmp 31)), 4, none⟩,
   ⟨some 33, (Op.move (Operand.tmp 3)), 3, some (32, true)⟩,
   ⟨some 34, (Op.binOp BinOp.eql 3 (Operand.tmp 33) (Operand.const (Value.int IntKind.i64 9)) 3), 4, some (32, true)⟩,
   ⟨some 35, (Op.pick (Operand.tmp 32) (Operand.tmp 34) (Operand.const (Value.bool false))), 4, none⟩,
   ⟨some 36, (Op.move (Operand.tmp 35)), 4, none⟩,
   ⟨some 37, (Op.move (Operand.tmp 1)), 22, some (36, true)⟩,
   ⟨some 38, (Op.call { callee := (Callee.value (Operand.func 36)), args := #[(Operand.const (Value.int IntKind.i64 4))], argTypes := #[3] }), 22, some (36, true)⟩,
   ⟨some 39, (Op.call { callee := (Callee.value (Operand.func 35)), args := #[(Operand.tmp 37), (Operand.tmp 38)], argTypes := #[22, 22] }), 22, some (36, true)⟩,
   ⟨some 40, (Op.build 63 #[(0, (Operand.const (Value.int IntKind.i64 3))), (1, (Operand.const (Value.int IntKind.i64 4)))]), 63, some (36, true)⟩,
   ⟨some 41, (Op.buildSlice 22 1 #[(0, (Operand.tmp 40))]), 22, some (36, true)⟩,
   ⟨some 42, (Op.call { callee := (Callee.value (Operand.func 16)), args := #[(Operand.tmp 39), (Operand.tmp 41)], argTypes := #[22, 22] }), 4, some (36, true)⟩,
   ⟨some 43, (Op.pick (Operand.tmp 36) (Operand.tmp 42) (Operand.const (Value.bool false))), 4, none⟩,
   ⟨some 0, (Op.assign (Operand.tmp 43)), 4, none⟩]
def B30 : VC :=
  (.seq (.region r30_0) (.seq (.region r30_1) (.seq (.region r30_2) (.seq (.region r30_3) .ret))))
theorem code30 : ∃ c, Try.f30.body = some c ∧ abs Try.f30.ntmps c = B30 := ⟨_, rfl, by kernel_rfl⟩
theorem hb30 : HasBody Try.prog 30 := hasBody_of Try.func30 (by kernel_rfl)
theorem res30 : Try.f30.results = #[(ResultVar.tmp 0)] := rfl
theorem enter30 {w : World} {R : Value → World → Prop} (h : vc Try.prog B30 (retK Try.prog #[(ResultVar.tmp 0)] R) [] (initEnv [] 0) w) : FnC Try.prog 30 #[] w R := by
  obtain ⟨c, h1, h2⟩ := code30
  exact hb30.fn (ret_of_vc mixed Try.func30 h1 (Nat.le_of_ble_eq_true rfl) B30 h2 h)
@[push_cast] theorem vr30_0 (Q : Post) (ds : List Deferred) (σ : Env) (w : World) : vc Try.prog (.region r30_0) Q ds σ w = vcOps Try.prog [⟨some 0, (Op.assign (Operand.const (Value.bool false))), 4, none⟩] (Q .normal ds) σ w := mk_eq rfl
@[push_cast] theorem vr30_1 (Q : Post) (ds : List Deferred) (σ : Env) (w : World) : vc Try.prog (.region r30_1) Q ds σ w = vcOps Try.prog [⟨some 6, (Op.buildSlice 49 5 #[(0, (Operand.const (Value.int IntKind.i64 5))), (1, (Operand.const (Value.int IntKind.i64 3))), (2, (Operand.const (Value.int IntKind.i64 4))), (3, (Operand.const (Value.int IntKind.i64 9))), (4, (Operand.const (Value.int IntKind.i64 3)))]), 49, none⟩, ⟨some 7, (Op.call { callee := (Callee.value (Operand.func 42)), args := #[(Operand.tmp 6)], argTypes := #[49] }), 50, none⟩, ⟨some 5, (Op.move (Operand.tmp 7)), 50, none⟩, ⟨some 8, (Op.extract (Operand.tmp 5) 0), 22, none⟩, ⟨some 9, (Op.extract (Operand.tmp 5) 1), 24, none⟩, ⟨some 1, (Op.assign (Operand.tmp 8)), 22, none⟩, ⟨some 2, (Op.assign (Operand.tmp 9)), 24, none⟩] (Q .normal ds) σ w := mk_eq rfl
@[push_cast] theorem vr30_2 (Q : Post) (ds : List Deferred) (σ : Env) (w : World) : vc Try.prog (.region r30_2) Q ds σ w = vcOps Try.prog [⟨some 11, (Op.move (Operand.tmp 1)), 22, none⟩, ⟨some 12, (Op.call { callee := (Callee.value (Operand.func 31)), args := #[(Operand.tmp 11), (Operand.const (Value.int IntKind.i64 3))], argTypes := #[22, 3] }), 44, none⟩, ⟨some 10, (Op.move (Operand.tmp 12)), 44, none⟩, ⟨some 13, (Op.extract (Operand.tmp 10) 0), 3, none⟩, ⟨some 14, (Op.extract (Operand.tmp 10) 1), 4, none⟩, ⟨some 3, (Op.assign (Operand.tmp 13)), 3, none⟩, ⟨some 4, (Op.assign (Operand.tmp 14)), 4, none⟩] (Q .normal ds) σ w := mk_eq rfl
@[push_cast] theorem vr30_3 (Q : Post) (ds : List Deferred) (σ : Env) (w : World) : vc Try.prog (.region r30_3) Q ds σ w = vcOps Try.prog [⟨some 15, (Op.move (Operand.tmp 2)), 24, none⟩, ⟨some 16, (Op.binOp BinOp.eql 24 (Operand.tmp 15) (Operand.const (Value.int IntKind.i64 0)) 24), 4, none⟩, ⟨some 17, (Op.move (Operand.tmp 16)), 4, none⟩, ⟨some 18, (Op.move (Operand.tmp 1)), 22, some (17, true)⟩, ⟨some 19, (Op.build 63 #[(0, (Operand.const (Value.int IntKind.i64 3))), (1, (Operand.const (Value.int IntKind.i64 6)))]), 63, some (17, true)⟩, ⟨some 20, (Op.build 63 #[(0, (Operand.const (Value.int IntKind.i64 9))), (1, (Operand.const (Value.int IntKind.i64 10)))]), 63, some (17, true)⟩, ⟨some 21, (Op.buildSlice 22 2 #[(0, (Operand.tmp 19)), (1, (Operand.tmp 20))]), 22, some (17, true)⟩, ⟨some 22, (Op.call { callee := (Callee.value (Operand.func 16)), args := #[(Operand.tmp 18), (Operand.tmp 21)], argTypes := #[22, 22] }), 4, some (17, true)⟩, ⟨some 23, (Op.pick (Operand.tmp 17) (Operand.tmp 22) (Operand.const (Value.bool false))), 4, none⟩, ⟨some 24, (Op.move (Operand.tmp 23)), 4, none⟩, ⟨some 25, (Op.move (Operand.tmp 1)), 22, some (24, true)⟩, ⟨some 26, (Op.call { callee := (Callee.value (Operand.func 34)), args := #[(Operand.tmp 25), (Operand.const (Value.int IntKind.i64 5))], argTypes := #[22, 3] }), 3, some (24, true)⟩, ⟨some 27, (Op.binOp BinOp.eql 3 (Operand.tmp 26) (Operand.const (Value.int IntKind.i64 2)) 3), 4, some (24, true)⟩, ⟨some 28, (Op.pick (Operand.tmp 24) (Operand.tmp 27) (Operand.const (Value.bool false))), 4, none⟩, ⟨some 29, (Op.move (Operand.tmp 28)), 4, none⟩, ⟨some 30, (Op.move (Operand.tmp 4)), 4, some (29, true)⟩, ⟨some 31, (Op.pick (Operand.tmp 29) (Operand.tmp 30) (Operand.const (Value.bool false))), 4, none⟩, ⟨some 32, (Op.move (Operand.tmp 31)), 4, none⟩, ⟨some 33, (Op.move (Operand.tmp 3)), 3, some (32, true)⟩, ⟨some 34, (Op.binOp BinOp.eql 3 (Operand.tmp 33) (Operand.const (Value.int IntKind.i64 9)) 3), 4, some (32, true)⟩, ⟨some 35, (Op.pick (Operand.tmp 32) (Operand.tmp 34) (Operand.const (Value.bool false))), 4, none⟩, ⟨some 36, (Op.move (Operand.tmp 35)), 4, none⟩, ⟨some 37, (Op.move (Operand.tmp 1)), 22, some (36, true)⟩, ⟨some 38, (Op.call { callee := (Callee.value (Operand.func 36)), args := #[(Operand.const (Value.int IntKind.i64 4))], argTypes := #[3] }), 22, some (36, true)⟩, ⟨some 39, (Op.call { callee := (Callee.value (Operand.func 35)), args := #[(Operand.tmp 37), (Operand.tmp 38)], argTypes := #[22, 22] }), 22, some (36, true)⟩, ⟨some 40, (Op.build 63 #[(0, (Operand.const (Value.int IntKind.i64 3))), (1, (Operand.const (Value.int IntKind.i64 4)))]), 63, some (36, true)⟩, ⟨some 41, (Op.buildSlice 22 1 #[(0, (Operand.tmp 40))]), 22, some (36, true)⟩, ⟨some 42, (Op.call { callee := (Callee.value (Operand.func 16)), args := #[(Operand.tmp 39), (Operand.tmp 41)], argTypes := #[22, 22] }), 4, some (36, true)⟩, ⟨some 43, (Op.pick (Operand.tmp 36) (Operand.tmp 42) (Operand.const (Value.bool false))), 4, none⟩, ⟨some 0, (Op.assign (Operand.tmp 43)), 4, none⟩] (Q .normal ds) σ w := mk_eq rfl
@[push_cast] theorem bsl22_0_CodesRL {K : Value → World → Prop} {w : World}  : vBuildSlice Try.prog 22 0 #[] K w = K (.slice (some ⟨w.heap.size, 0, none⟩) 0 0) (w.alloc (.cells #[] 63)) :=
  vBuildSlice_ok Try.underlying22 ti63 (by kernel_rfl) (by decide)
@[push_cast] theorem bsl22_1_CodesRL {K : Value → World → Prop} {w : World} (x00 x01 : Value) : vBuildSlice Try.prog 22 1 #[(0, (.agg #[x00, x01]))] K w = K (.slice (some ⟨w.heap.size, 0, none⟩) 1 1) (w.alloc (.cells #[x00, x01] 63)) :=
  vBuildSlice_ok Try.underlying22 ti63 (by kernel_rfl) (by decide)
@[push_cast] theorem bsl22_2_CodesRL {K : Value → World → Prop} {w : World} (x00 x01 : Value) (x10 x11 : Value) : vBuildSlice Try.prog 22 2 #[(0, (.agg #[x00, x01])), (1, (.agg #[x10, x11]))] K w = K (.slice (some ⟨w.heap.size, 0, none⟩) 2 2) (w.alloc (.cells #[x00, x01, x10, x11] 63)) :=
  vBuildSlice_ok Try.underlying22 ti63 (by kernel_rfl) (by decide)
@[push_cast] theorem bsl49_0_CodesRL {K : Value → World → Prop} {w : World}  : vBuildSlice Try.prog 49 0 #[] K w = K (.slice (some ⟨w.heap.size, 0, none⟩) 0 0) (w.alloc (.cells #[] 3)) :=
  vBuildSlice_ok Try.underlying49 ti3 (by kernel_rfl) (by decide)
@[push_cast] theorem bsl49_5_CodesRL {K : Value → World → Prop} {w : World} (x0 : Int) (x1 : Int) (x2 : Int) (x3 : Int) (x4 : Int) : vBuildSlice Try.prog 49 5 #[(0, (.int .i64 x0)), (1, (.int .i64 x1)), (2, (.int .i64 x2)), (3, (.int .i64 x3)), (4, (.int .i64 x4))] K w = K (.slice (some ⟨w.heap.size, 0, none⟩) 5 5) (w.alloc (.cells #[(.int .i64 x0), (.int .i64 x1), (.int .i64 x2), (.int .i64 x3), (.int .i64 x4)] 3)) :=
  vBuildSlice_ok Try.underlying49 ti3 (by kernel_rfl) (by decide)
@[push_cast] theorem bld63_0_1_CodesRL {K : Value → World → Prop} {w : World} (x0 : Int) (x1 : Int) : vBuild Try.prog 63 #[(0, (.int .i64 x0)), (1, (.int .i64 x1))] K w = K (.agg #[(.int .i64 x0), (.int .i64 x1)]) w :=
  vBuild_ok (by kernel_rfl)
end Go.Proofs.Ytfeocfcclmndoaa
