/- The functions' code in the generator's form. Written by a program (codes.py) out of Lean's own print of the loaded translation. -/
import Derived.Test.YtkchefbnamiikaaTypes
namespace Go.Proofs.Ytkchefbnamiikaa
open Go.Vc
/-! 8 columbary/columbarylaw02.CheckTurned (params #[24, 35, 43], results #[(ResultVar.tmp 6)], 125 slots) -/
def W8_0 : List Nat := [14, 15, 79, 80, 81, 82, 83, 84, 85, 86, 87, 88, 89, 90, 91, 92, 93, 94, 95, 96, 97, 98, 99, 100, 101, 102, 103, 104, 105, 106, 107, 108, 109]
@[push_cast] theorem W8_0_def : W8_0 = [14, 15, 79, 80, 81, 82, 83, 84, 85, 86, 87, 88, 89, 90, 91, 92, 93, 94, 95, 96, 97, 98, 99, 100, 101, 102, 103, 104, 105, 106, 107, 108, 109] := mk_eq rfl
def r8_0 : List VOp :=
  [⟨some 4, (Op.box 35 (Operand.tmp 1)), 0, none⟩,
   ⟨some 6, (Op.assign (Operand.const (Value.bool false))), 4, none⟩]
def r8_1 : List VOp :=
  [⟨some 20, (Op.move (Operand.tmp 0)), 24, none⟩,
   ⟨some 21, (Op.call { callee := (Callee.value (Operand.func 25)), args := #[(Operand.tmp 20)], argTypes := #[24] }), 26, none⟩,
   ⟨some 19, (Op.move (Operand.tmp 21)), 26, none⟩,
   ⟨some 22, (Op.extract (Operand.tmp 19) 0), 24, none⟩,
   ⟨some 23, (Op.extract (Operand.tmp 19) 1), 25, none⟩,
   ⟨some 7, (Op.assign (Operand.tmp 22)), 24, none⟩,
   ⟨some 8, (Op.assign (Operand.tmp 23)), 25, none⟩]
def r8_2 : List VOp :=
  [⟨some 24, (Op.move (Operand.tmp 0)), 24, none⟩,
   ⟨some 25, (Op.call { callee := (Callee.builtin Builtin.len), args := #[(Operand.tmp 24)], argTypes := #[24] }), 3, none⟩,
   ⟨some 26, (Op.binOp BinOp.gtr 3 (Operand.tmp 25) (Operand.const (Value.int IntKind.i64 400)) 3), 4, none⟩,
   ⟨some 27, (Op.move (Operand.tmp 26)), 4, none⟩,
   ⟨some 28, (Op.move (Operand.tmp 8)), 25, some (27, false)⟩,
   ⟨some 29, (Op.binOp BinOp.neq 25 (Operand.tmp 28) (Operand.const (Value.int IntKind.i64 0)) 25), 4, some (27, false)⟩,
   ⟨some 30, (Op.pick (Operand.tmp 27) (Operand.const (Value.bool true)) (Operand.tmp 29)), 4, none⟩]
def r8_3 : List VOp :=
  [⟨some 31, (Op.call { callee := (Callee.value (Operand.func 26)), args := #[], argTypes := #[] }), 4, none⟩,
   ⟨some 6, (Op.assign (Operand.tmp 31)), 4, none⟩]
def r8_4 : List VOp :=
  [⟨some 32, (Op.move (Operand.tmp 7)), 24, none⟩,
   ⟨some 33, (Op.call { callee := (Callee.builtin Builtin.len), args := #[(Operand.tmp 32)], argTypes := #[24] }), 3, none⟩,
   ⟨some 34, (Op.binOp BinOp.sub 3 (Operand.tmp 33) (Operand.const (Value.int IntKind.i64 4)) 3), 3, none⟩,
   ⟨some 35, (Op.move (Operand.tmp 0)), 24, none⟩,
   ⟨some 36, (Op.call { callee := (Callee.builtin Builtin.len), args := #[(Operand.tmp 35)], argTypes := #[24] }), 3, none⟩,
   ⟨some 37, (Op.binOp BinOp.sub 3 (Operand.tmp 34) (Operand.tmp 36) 3), 3, none⟩,
   ⟨some 9, (Op.assign (Operand.tmp 37)), 3, none⟩]
def r8_5 : List VOp :=
  [⟨some 38, (Op.move (Operand.tmp 9)), 3, none⟩,
   ⟨some 39, (Op.binOp BinOp.lss 3 (Operand.tmp 38) (Operand.const (Value.int IntKind.i64 1)) 3), 4, none⟩]
def r8_6 : List VOp :=
  [⟨some 6, (Op.assign (Operand.const (Value.bool false))), 4, none⟩]
def r8_7 : List VOp :=
  [⟨some 40, (Op.move (Operand.tmp 7)), 24, none⟩,
   ⟨some 41, (Op.call { callee := (Callee.builtin Builtin.len), args := #[(Operand.tmp 40)], argTypes := #[24] }), 3, none⟩,
   ⟨some 42, (Op.binOp BinOp.eql 3 (Operand.tmp 41) (Operand.const (Value.int IntKind.i64 0)) 3), 4, none⟩]
def r8_8 : List VOp :=
  [⟨some 6, (Op.assign (Operand.const (Value.bool false))), 4, none⟩]
def r8_9 : List VOp :=
  [⟨some 43, (Op.indexAddr 35 (Operand.tmp 4) (Operand.const (Value.int IntKind.i64 1))), 0, none⟩,
   ⟨some 44, (Op.load 3 (Operand.tmp 43)), 3, none⟩,
   ⟨some 45, (Op.move (Operand.tmp 7)), 24, none⟩,
   ⟨some 46, (Op.call { callee := (Callee.builtin Builtin.len), args := #[(Operand.tmp 45)], argTypes := #[24] }), 3, none⟩,
   ⟨some 47, (Op.binOp BinOp.rem 3 (Operand.tmp 44) (Operand.tmp 46) 3), 3, none⟩,
   ⟨some 10, (Op.assign (Operand.tmp 47)), 3, none⟩]
def r8_10 : List VOp :=
  [⟨some 48, (Op.move (Operand.tmp 10)), 3, none⟩,
   ⟨some 49, (Op.binOp BinOp.lss 3 (Operand.tmp 48) (Operand.const (Value.int IntKind.i64 0)) 3), 4, none⟩]
def r8_11 : List VOp :=
  [⟨some 50, (Op.move (Operand.tmp 10)), 3, none⟩,
   ⟨some 51, (Op.unOp UnOp.neg 3 (Operand.tmp 50)), 3, none⟩,
   ⟨some 10, (Op.assign (Operand.tmp 51)), 3, none⟩]
def r8_12 : List VOp :=
  [⟨some 53, (Op.move (Operand.tmp 7)), 24, none⟩,
   ⟨some 54, (Op.move (Operand.tmp 10)), 3, none⟩,
   ⟨some 55, (Op.slice 24 (Operand.tmp 53) none (some (Operand.tmp 54)) none), 24, none⟩,
   ⟨some 56, (Op.call { callee := (Callee.value (Operand.func 27)), args := #[(Operand.tmp 55)], argTypes := #[24] }), 45, none⟩,
   ⟨some 52, (Op.move (Operand.tmp 56)), 45, none⟩,
   ⟨some 57, (Op.extract (Operand.tmp 52) 0), 24, none⟩,
   ⟨some 58, (Op.extract (Operand.tmp 52) 1), 3, none⟩,
   ⟨some 59, (Op.extract (Operand.tmp 52) 2), 25, none⟩,
   ⟨some 11, (Op.assign (Operand.tmp 57)), 24, none⟩,
   ⟨some 12, (Op.assign (Operand.tmp 58)), 3, none⟩,
   ⟨some 13, (Op.assign (Operand.tmp 59)), 25, none⟩]
def r8_13 : List VOp :=
  [⟨some 60, (Op.move (Operand.tmp 13)), 25, none⟩,
   ⟨some 61, (Op.binOp BinOp.neq 25 (Operand.tmp 60) (Operand.const (Value.int IntKind.i64 21)) 25), 4, none⟩]
def r8_14 : List VOp :=
  [⟨some 6, (Op.assign (Operand.const (Value.bool false))), 4, none⟩]
def r8_15 : List VOp :=
  [⟨some 62, (Op.move (Operand.tmp 2)), 43, none⟩,
   ⟨some 63, (Op.binOp BinOp.eql 43 (Operand.tmp 62) (Operand.const (Value.int IntKind.u32 0)) 43), 4, none⟩,
   ⟨some 64, (Op.move (Operand.tmp 63)), 4, none⟩,
   ⟨some 65, (Op.indexAddr 35 (Operand.tmp 4) (Operand.const (Value.int IntKind.i64 0))), 0, some (64, false)⟩,
   ⟨some 66, (Op.load 3 (Operand.tmp 65)), 3, some (64, false)⟩,
   ⟨some 67, (Op.binOp BinOp.lss 3 (Operand.tmp 66) (Operand.const (Value.int IntKind.i64 0)) 3), 4, some (64, false)⟩,
   ⟨some 68, (Op.pick (Operand.tmp 64) (Operand.const (Value.bool true)) (Operand.tmp 67)), 4, none⟩,
   ⟨some 69, (Op.move (Operand.tmp 68)), 4, none⟩,
   ⟨some 70, (Op.indexAddr 35 (Operand.tmp 4) (Operand.const (Value.int IntKind.i64 0))), 0, some (69, false)⟩,
   ⟨some 71, (Op.load 3 (Operand.tmp 70)), 3, some (69, false)⟩,
   ⟨some 72, (Op.move (Operand.tmp 0)), 24, some (69, false)⟩,
   ⟨some 73, (Op.call { callee := (Callee.builtin Builtin.len), args := #[(Operand.tmp 72)], argTypes := #[24] }), 3, some (69, false)⟩,
   ⟨some 74, (Op.binOp BinOp.mul 3 (Operand.const (Value.int IntKind.i64 8)) (Operand.tmp 73) 3), 3, some (69, false)⟩,
   ⟨some 75, (Op.binOp BinOp.sub 3 (Operand.tmp 74) (Operand.const (Value.int IntKind.i64 32)) 3), 3, some (69, false)⟩,
   ⟨some 76, (Op.binOp BinOp.gtr 3 (Operand.tmp 71) (Operand.tmp 75) 3), 4, some (69, false)⟩,
   ⟨some 77, (Op.pick (Operand.tmp 69) (Operand.const (Value.bool true)) (Operand.tmp 76)), 4, none⟩]
def r8_16 : List VOp :=
  [⟨some 78, (Op.call { callee := (Callee.value (Operand.func 26)), args := #[], argTypes := #[] }), 4, none⟩,
   ⟨some 6, (Op.assign (Operand.tmp 78)), 4, none⟩]
def r8_17 : List VOp :=
  [⟨some 14, (Op.assign (Operand.const (Value.int IntKind.i64 0))), 3, none⟩]
def r8_18 : List VOp :=
  [⟨some 79, (Op.move (Operand.tmp 14)), 3, none⟩,
   ⟨some 80, (Op.binOp BinOp.lss 3 (Operand.tmp 79) (Operand.const (Value.int IntKind.i64 32)) 3), 4, none⟩]
def r8_20 : List VOp :=
  [⟨some 83, (Op.move (Operand.tmp 2)), 43, none⟩,
   ⟨some 84, (Op.move (Operand.tmp 14)), 3, none⟩,
   ⟨some 85, (Op.convert 3 33 (Operand.tmp 84)), 33, none⟩,
   ⟨some 86, (Op.binOp BinOp.shr 43 (Operand.tmp 83) (Operand.tmp 85) 33), 43, none⟩,
   ⟨some 87, (Op.binOp BinOp.rem 43 (Operand.tmp 86) (Operand.const (Value.int IntKind.u32 2)) 43), 43, none⟩,
   ⟨some 88, (Op.binOp BinOp.eql 43 (Operand.tmp 87) (Operand.const (Value.int IntKind.u32 1)) 43), 4, none⟩]
def r8_21 : List VOp :=
  [⟨some 89, (Op.move (Operand.tmp 9)), 3, none⟩,
   ⟨some 90, (Op.binOp BinOp.mul 3 (Operand.const (Value.int IntKind.i64 8)) (Operand.tmp 89) 3), 3, none⟩,
   ⟨some 91, (Op.indexAddr 35 (Operand.tmp 4) (Operand.const (Value.int IntKind.i64 0))), 0, none⟩,
   ⟨some 92, (Op.load 3 (Operand.tmp 91)), 3, none⟩,
   ⟨some 93, (Op.binOp BinOp.add 3 (Operand.tmp 90) (Operand.tmp 92) 3), 3, none⟩,
   ⟨some 94, (Op.move (Operand.tmp 14)), 3, none⟩,
   ⟨some 95, (Op.binOp BinOp.add 3 (Operand.tmp 93) (Operand.tmp 94) 3), 3, none⟩,
   ⟨some 15, (Op.assign (Operand.tmp 95)), 3, none⟩]
def r8_22 : List VOp :=
  [⟨some 96, (Op.move (Operand.tmp 7)), 24, none⟩,
   ⟨some 97, (Op.move (Operand.tmp 15)), 3, none⟩,
   ⟨some 98, (Op.binOp BinOp.quo 3 (Operand.tmp 97) (Operand.const (Value.int IntKind.i64 8)) 3), 3, none⟩,
   ⟨some 99, (Op.move (Operand.tmp 7)), 24, none⟩,
   ⟨some 100, (Op.move (Operand.tmp 15)), 3, none⟩,
   ⟨some 101, (Op.binOp BinOp.quo 3 (Operand.tmp 100) (Operand.const (Value.int IntKind.i64 8)) 3), 3, none⟩,
   ⟨some 102, (Op.indexAddr 24 (Operand.tmp 99) (Operand.tmp 101)), 0, none⟩,
   ⟨some 103, (Op.load 5 (Operand.tmp 102)), 5, none⟩,
   ⟨some 104, (Op.move (Operand.tmp 15)), 3, none⟩,
   ⟨some 105, (Op.binOp BinOp.rem 3 (Operand.tmp 104) (Operand.const (Value.int IntKind.i64 8)) 3), 3, none⟩,
   ⟨some 106, (Op.convert 3 33 (Operand.tmp 105)), 33, none⟩,
   ⟨some 107, (Op.binOp BinOp.shl 5 (Operand.const (Value.int IntKind.u8 1)) (Operand.tmp 106) 33), 5, none⟩,
   ⟨some 108, (Op.binOp BinOp.xor 5 (Operand.tmp 103) (Operand.tmp 107) 5), 5, none⟩,
   ⟨some 109, (Op.indexAddr 24 (Operand.tmp 96) (Operand.tmp 98)), 0, none⟩,
   ⟨none, (Op.store 5 (Operand.tmp 109) (Operand.tmp 108)), 0, none⟩]
def r8_19 : List VOp :=
  [⟨some 81, (Op.move (Operand.tmp 14)), 3, none⟩,
   ⟨some 82, (Op.binOp BinOp.add 3 (Operand.tmp 81) (Operand.const (Value.int IntKind.i64 1)) 3), 3, none⟩,
   ⟨some 14, (Op.assign (Operand.tmp 82)), 3, none⟩]
def r8_23 : List VOp :=
  [⟨some 111, (Op.move (Operand.tmp 7)), 24, none⟩,
   ⟨some 112, (Op.call { callee := (Callee.value (Operand.func 27)), args := #[(Operand.tmp 111)], argTypes := #[24] }), 45, none⟩,
   ⟨some 110, (Op.move (Operand.tmp 112)), 45, none⟩,
   ⟨some 113, (Op.extract (Operand.tmp 110) 0), 24, none⟩,
   ⟨some 114, (Op.extract (Operand.tmp 110) 1), 3, none⟩,
   ⟨some 115, (Op.extract (Operand.tmp 110) 2), 25, none⟩,
   ⟨some 16, (Op.assign (Operand.tmp 113)), 24, none⟩,
   ⟨some 17, (Op.assign (Operand.tmp 114)), 3, none⟩,
   ⟨some 18, (Op.assign (Operand.tmp 115)), 25, none⟩]
def r8_24 : List VOp :=
  [⟨some 116, (Op.call { callee := (Callee.value (Operand.func 26)), args := #[], argTypes := #[] }), 4, none⟩,
   ⟨some 117, (Op.move (Operand.tmp 116)), 4, none⟩,
   ⟨some 118, (Op.move (Operand.tmp 18)), 25, some (117, true)⟩,
   ⟨some 119, (Op.binOp BinOp.eql 25 (Operand.tmp 118) (Operand.const (Value.int IntKind.i64 21)) 25), 4, some (117, true)⟩,
   ⟨some 120, (Op.pick (Operand.tmp 117) (Operand.tmp 119) (Operand.const (Value.bool false))), 4, none⟩,
   ⟨some 121, (Op.move (Operand.tmp 120)), 4, none⟩,
   ⟨some 122, (Op.move (Operand.tmp 17)), 3, some (121, true)⟩,
   ⟨some 123, (Op.binOp BinOp.eql 3 (Operand.tmp 122) (Operand.const (Value.int IntKind.i64 0)) 3), 4, some (121, true)⟩,
   ⟨some 124, (Op.pick (Operand.tmp 121) (Operand.tmp 123) (Operand.const (Value.bool false))), 4, none⟩,
   ⟨some 6, (Op.assign (Operand.tmp 124)), 4, none⟩]
def B8 : VC :=
  (.seq (.region r8_0) (.seq (.region r8_1) (.seq (.seq (.region r8_2) (.cond (Operand.tmp 30) (.seq (.region r8_3) .ret) .skip)) (.seq (.region r8_4) (.seq (.seq (.region r8_5) (.cond (Operand.tmp 39) (.seq (.region r8_6) .ret) .skip)) (.seq (.seq (.region r8_7) (.cond (Operand.tmp 42) (.seq (.region r8_8) .ret) .skip)) (.seq (.region r8_9) (.seq (.seq (.region r8_10) (.cond (Operand.tmp 49) (.region r8_11) .skip)) (.seq (.region r8_12) (.seq (.seq (.region r8_13) (.cond (Operand.tmp 61) (.seq (.region r8_14) .ret) .skip)) (.seq (.seq (.region r8_15) (.cond (Operand.tmp 77) (.seq (.region r8_16) .ret) .skip)) (.seq (.seq (.region r8_17) (.block 0 (.loop (.seq (.seq (.region r8_18) (.cond (Operand.tmp 80) .skip (.exit 0))) (.seq (.block 1 (.seq (.region r8_20) (.cond (Operand.tmp 88) (.seq (.region r8_21) (.region r8_22)) .skip))) (.region r8_19)))))) (.seq (.region r8_23) (.seq (.region r8_24) .ret))))))))))))))
theorem code8 : ∃ c, Try.f8.body = some c ∧ abs Try.f8.ntmps c = B8 := ⟨_, rfl, by kernel_rfl⟩
theorem hb8 : HasBody Try.prog 8 := hasBody_of Try.func8 (by kernel_rfl)
theorem res8 : Try.f8.results = #[(ResultVar.tmp 6)] := rfl
theorem enter8 {w : World} {R : Value → World → Prop} (x0 x1 x2 : Value) (h : vc Try.prog B8 (retK Try.prog #[(ResultVar.tmp 6)] R) [] (initEnv [x0, x1, x2] 0) w) : FnC Try.prog 8 #[x0, x1, x2] w R := by
  obtain ⟨c, h1, h2⟩ := code8
  exact hb8.fn (ret_of_vc mixed Try.func8 h1 (Nat.le_of_ble_eq_true rfl) B8 h2 h)
@[push_cast] theorem vr8_0 (Q : Post) (ds : List Deferred) (σ : Env) (w : World) : vc Try.prog (.region r8_0) Q ds σ w = vcOps Try.prog [⟨some 4, (Op.box 35 (Operand.tmp 1)), 0, none⟩, ⟨some 6, (Op.assign (Operand.const (Value.bool false))), 4, none⟩] (Q .normal ds) σ w := mk_eq rfl
@[push_cast] theorem vr8_1 (Q : Post) (ds : List Deferred) (σ : Env) (w : World) : vc Try.prog (.region r8_1) Q ds σ w = vcOps Try.prog [⟨some 20, (Op.move (Operand.tmp 0)), 24, none⟩, ⟨some 21, (Op.call { callee := (Callee.value (Operand.func 25)), args := #[(Operand.tmp 20)], argTypes := #[24] }), 26, none⟩, ⟨some 19, (Op.move (Operand.tmp 21)), 26, none⟩, ⟨some 22, (Op.extract (Operand.tmp 19) 0), 24, none⟩, ⟨some 23, (Op.extract (Operand.tmp 19) 1), 25, none⟩, ⟨some 7, (Op.assign (Operand.tmp 22)), 24, none⟩, ⟨some 8, (Op.assign (Operand.tmp 23)), 25, none⟩] (Q .normal ds) σ w := mk_eq rfl
@[push_cast] theorem vr8_2 (Q : Post) (ds : List Deferred) (σ : Env) (w : World) : vc Try.prog (.region r8_2) Q ds σ w = vcOps Try.prog [⟨some 24, (Op.move (Operand.tmp 0)), 24, none⟩, ⟨some 25, (Op.call { callee := (Callee.builtin Builtin.len), args := #[(Operand.tmp 24)], argTypes := #[24] }), 3, none⟩, ⟨some 26, (Op.binOp BinOp.gtr 3 (Operand.tmp 25) (Operand.const (Value.int IntKind.i64 400)) 3), 4, none⟩, ⟨some 27, (Op.move (Operand.tmp 26)), 4, none⟩, ⟨some 28, (Op.move (Operand.tmp 8)), 25, some (27, false)⟩, ⟨some 29, (Op.binOp BinOp.neq 25 (Operand.tmp 28) (Operand.const (Value.int IntKind.i64 0)) 25), 4, some (27, false)⟩, ⟨some 30, (Op.pick (Operand.tmp 27) (Operand.const (Value.bool true)) (Operand.tmp 29)), 4, none⟩] (Q .normal ds) σ w := mk_eq rfl
@[push_cast] theorem vr8_3 (Q : Post) (ds : List Deferred) (σ : Env) (w : World) : vc Try.prog (.region r8_3) Q ds σ w = vcOps Try.prog [⟨some 31, (Op.call { callee := (Callee.value (Operand.func 26)), args := #[], argTypes := #[] }), 4, none⟩, ⟨some 6, (Op.assign (Operand.tmp 31)), 4, none⟩] (Q .normal ds) σ w := mk_eq rfl
@[push_cast] theorem vr8_4 (Q : Post) (ds : List Deferred) (σ : Env) (w : World) : vc Try.prog (.region r8_4) Q ds σ w = vcOps Try.prog [⟨some 32, (Op.move (Operand.tmp 7)), 24, none⟩, ⟨some 33, (Op.call { callee := (Callee.builtin Builtin.len), args := #[(Operand.tmp 32)], argTypes := #[24] }), 3, none⟩, ⟨some 34, (Op.binOp BinOp.sub 3 (Operand.tmp 33) (Operand.const (Value.int IntKind.i64 4)) 3), 3, none⟩, ⟨some 35, (Op.move (Operand.tmp 0)), 24, none⟩, ⟨some 36, (Op.call { callee := (Callee.builtin Builtin.len), args := #[(Operand.tmp 35)], argTypes := #[24] }), 3, none⟩, ⟨some 37, (Op.binOp BinOp.sub 3 (Operand.tmp 34) (Operand.tmp 36) 3), 3, none⟩, ⟨some 9, (Op.assign (Operand.tmp 37)), 3, none⟩] (Q .normal ds) σ w := mk_eq rfl
@[push_cast] theorem vr8_5 (Q : Post) (ds : List Deferred) (σ : Env) (w : World) : vc Try.prog (.region r8_5) Q ds σ w = vcOps Try.prog [⟨some 38, (Op.move (Operand.tmp 9)), 3, none⟩, ⟨some 39, (Op.binOp BinOp.lss 3 (Operand.tmp 38) (Operand.const (Value.int IntKind.i64 1)) 3), 4, none⟩] (Q .normal ds) σ w := mk_eq rfl
@[push_cast] theorem vr8_6 (Q : Post) (ds : List Deferred) (σ : Env) (w : World) : vc Try.prog (.region r8_6) Q ds σ w = vcOps Try.prog [⟨some 6, (Op.assign (Operand.const (Value.bool false))), 4, none⟩] (Q .normal ds) σ w := mk_eq rfl
@[push_cast] theorem vr8_7 (Q : Post) (ds : List Deferred) (σ : Env) (w : World) : vc Try.prog (.region r8_7) Q ds σ w = vcOps Try.prog [⟨some 40, (Op.move (Operand.tmp 7)), 24, none⟩, ⟨some 41, (Op.call { callee := (Callee.builtin Builtin.len), args := #[(Operand.tmp 40)], argTypes := #[24] }), 3, none⟩, ⟨some 42, (Op.binOp BinOp.eql 3 (Operand.tmp 41) (Operand.const (Value.int IntKind.i64 0)) 3), 4, none⟩] (Q .normal ds) σ w := mk_eq rfl
@[push_cast] theorem vr8_8 (Q : Post) (ds : List Deferred) (σ : Env) (w : World) : vc Try.prog (.region r8_8) Q ds σ w = vcOps Try.prog [⟨some 6, (Op.assign (Operand.const (Value.bool false))), 4, none⟩] (Q .normal ds) σ w := mk_eq rfl
@[push_cast] theorem vr8_9 (Q : Post) (ds : List Deferred) (σ : Env) (w : World) : vc Try.prog (.region r8_9) Q ds σ w = vcOps Try.prog [⟨some 43, (Op.indexAddr 35 (Operand.tmp 4) (Operand.const (Value.int IntKind.i64 1))), 0, none⟩, ⟨some 44, (Op.load 3 (Operand.tmp 43)), 3, none⟩, ⟨some 45, (Op.move (Operand.tmp 7)), 24, none⟩, ⟨some 46, (Op.call { callee := (Callee.builtin Builtin.len), args := #[(Operand.tmp 45)], argTypes := #[24] }), 3, none⟩, ⟨some 47, (Op.binOp BinOp.rem 3 (Operand.tmp 44) (Operand.tmp 46) 3), 3, none⟩, ⟨some 10, (Op.assign (Operand.tmp 47)), 3, none⟩] (Q .normal ds) σ w := mk_eq rfl
@[push_cast] theorem vr8_10 (Q : Post) (ds : List Deferred) (σ : Env) (w : World) : vc Try.prog (.region r8_10) Q ds σ w = vcOps Try.prog [⟨some 48, (Op.move (Operand.tmp 10)), 3, none⟩, ⟨some 49, (Op.binOp BinOp.lss 3 (Operand.tmp 48) (Operand.const (Value.int IntKind.i64 0)) 3), 4, none⟩] (Q .normal ds) σ w := mk_eq rfl
@[push_cast] theorem vr8_11 (Q : Post) (ds : List Deferred) (σ : Env) (w : World) : vc Try.prog (.region r8_11) Q ds σ w = vcOps Try.prog [⟨some 50, (Op.move (Operand.tmp 10)), 3, none⟩, ⟨some 51, (Op.unOp UnOp.neg 3 (Operand.tmp 50)), 3, none⟩, ⟨some 10, (Op.assign (Operand.tmp 51)), 3, none⟩] (Q .normal ds) σ w := mk_eq rfl
@[push_cast] theorem vr8_12 (Q : Post) (ds : List Deferred) (σ : Env) (w : World) : vc Try.prog (.region r8_12) Q ds σ w = vcOps Try.prog [⟨some 53, (Op.move (Operand.tmp 7)), 24, none⟩, ⟨some 54, (Op.move (Operand.tmp 10)), 3, none⟩, ⟨some 55, (Op.slice 24 (Operand.tmp 53) none (some (Operand.tmp 54)) none), 24, none⟩, ⟨some 56, (Op.call { callee := (Callee.value (Operand.func 27)), args := #[(Operand.tmp 55)], argTypes := #[24] }), 45, none⟩, ⟨some 52, (Op.move (Operand.tmp 56)), 45, none⟩, ⟨some 57, (Op.extract (Operand.tmp 52) 0), 24, none⟩, ⟨some 58, (Op.extract (Operand.tmp 52) 1), 3, none⟩, ⟨some 59, (Op.extract (Operand.tmp 52) 2), 25, none⟩, ⟨some 11, (Op.assign (Operand.tmp 57)), 24, none⟩, ⟨some 12, (Op.assign (Operand.tmp 58)), 3, none⟩, ⟨some 13, (Op.assign (Operand.tmp 59)), 25, none⟩] (Q .normal ds) σ w := mk_eq rfl
@[push_cast] theorem vr8_13 (Q : Post) (ds : List Deferred) (σ : Env) (w : World) : vc Try.prog (.region r8_13) Q ds σ w = vcOps Try.prog [⟨some 60, (Op.move (Operand.tmp 13)), 25, none⟩, ⟨some 61, (Op.binOp BinOp.neq 25 (Operand.tmp 60) (Operand.const (Value.int IntKind.i64 21)) 25), 4, none⟩] (Q .normal ds) σ w := mk_eq rfl
@[push_cast] theorem vr8_14 (Q : Post) (ds : List Deferred) (σ : Env) (w : World) : vc Try.prog (.region r8_14) Q ds σ w = vcOps Try.prog [⟨some 6, (Op.assign (Operand.const (Value.bool false))), 4, none⟩] (Q .normal ds) σ w := mk_eq rfl
@[push_cast] theorem vr8_15 (Q : Post) (ds : List Deferred) (σ : Env) (w : World) : vc Try.prog (.region r8_15) Q ds σ w = vcOps Try.prog [⟨some 62, (Op.move (Operand.tmp 2)), 43, none⟩, ⟨some 63, (Op.binOp BinOp.eql 43 (Operand.tmp 62) (Operand.const (Value.int IntKind.u32 0)) 43), 4, none⟩, ⟨some 64, (Op.move (Operand.tmp 63)), 4, none⟩, ⟨some 65, (Op.indexAddr 35 (Operand.tmp 4) (Operand.const (Value.int IntKind.i64 0))), 0, some (64, false)⟩, ⟨some 66, (Op.load 3 (Operand.tmp 65)), 3, some (64, false)⟩, ⟨some 67, (Op.binOp BinOp.lss 3 (Operand.tmp 66) (Operand.const (Value.int IntKind.i64 0)) 3), 4, some (64, false)⟩, ⟨some 68, (Op.pick (Operand.tmp 64) (Operand.const (Value.bool true)) (Operand.tmp 67)), 4, none⟩, ⟨some 69, (Op.move (Operand.tmp 68)), 4, none⟩, ⟨some 70, (Op.indexAddr 35 (Operand.tmp 4) (Operand.const (Value.int IntKind.i64 0))), 0, some (69, false)⟩, ⟨some 71, (Op.load 3 (Operand.tmp 70)), 3, some (69, false)⟩, ⟨some 72, (Op.move (Operand.tmp 0)), 24, some (69, false)⟩, ⟨some 73, (Op.call { callee := (Callee.builtin Builtin.len), args := #[(Operand.tmp 72)], argTypes := #[24] }), 3, some (69, false)⟩, ⟨some 74, (Op.binOp BinOp.mul 3 (Operand.const (Value.int IntKind.i64 8)) (Operand.tmp 73) 3), 3, some (69, false)⟩, ⟨some 75, (Op.binOp BinOp.sub 3 (Operand.tmp 74) (Operand.const (Value.int IntKind.i64 32)) 3), 3, some (69, false)⟩, ⟨some 76, (Op.binOp BinOp.gtr 3 (Operand.tmp 71) (Operand.tmp 75) 3), 4, some (69, false)⟩, ⟨some 77, (Op.pick (Operand.tmp 69) (Operand.const (Value.bool true)) (Operand.tmp 76)), 4, none⟩] (Q .normal ds) σ w := mk_eq rfl
@[push_cast] theorem vr8_16 (Q : Post) (ds : List Deferred) (σ : Env) (w : World) : vc Try.prog (.region r8_16) Q ds σ w = vcOps Try.prog [⟨some 78, (Op.call { callee := (Callee.value (Operand.func 26)), args := #[], argTypes := #[] }), 4, none⟩, ⟨some 6, (Op.assign (Operand.tmp 78)), 4, none⟩] (Q .normal ds) σ w := mk_eq rfl
@[push_cast] theorem vr8_17 (Q : Post) (ds : List Deferred) (σ : Env) (w : World) : vc Try.prog (.region r8_17) Q ds σ w = vcOps Try.prog [⟨some 14, (Op.assign (Operand.const (Value.int IntKind.i64 0))), 3, none⟩] (Q .normal ds) σ w := mk_eq rfl
@[push_cast] theorem vr8_18 (Q : Post) (ds : List Deferred) (σ : Env) (w : World) : vc Try.prog (.region r8_18) Q ds σ w = vcOps Try.prog [⟨some 79, (Op.move (Operand.tmp 14)), 3, none⟩, ⟨some 80, (Op.binOp BinOp.lss 3 (Operand.tmp 79) (Operand.const (Value.int IntKind.i64 32)) 3), 4, none⟩] (Q .normal ds) σ w := mk_eq rfl
@[push_cast] theorem vr8_20 (Q : Post) (ds : List Deferred) (σ : Env) (w : World) : vc Try.prog (.region r8_20) Q ds σ w = vcOps Try.prog [⟨some 83, (Op.move (Operand.tmp 2)), 43, none⟩, ⟨some 84, (Op.move (Operand.tmp 14)), 3, none⟩, ⟨some 85, (Op.convert 3 33 (Operand.tmp 84)), 33, none⟩, ⟨some 86, (Op.binOp BinOp.shr 43 (Operand.tmp 83) (Operand.tmp 85) 33), 43, none⟩, ⟨some 87, (Op.binOp BinOp.rem 43 (Operand.tmp 86) (Operand.const (Value.int IntKind.u32 2)) 43), 43, none⟩, ⟨some 88, (Op.binOp BinOp.eql 43 (Operand.tmp 87) (Operand.const (Value.int IntKind.u32 1)) 43), 4, none⟩] (Q .normal ds) σ w := mk_eq rfl
@[push_cast] theorem vr8_21 (Q : Post) (ds : List Deferred) (σ : Env) (w : World) : vc Try.prog (.region r8_21) Q ds σ w = vcOps Try.prog [⟨some 89, (Op.move (Operand.tmp 9)), 3, none⟩, ⟨some 90, (Op.binOp BinOp.mul 3 (Operand.const (Value.int IntKind.i64 8)) (Operand.tmp 89) 3), 3, none⟩, ⟨some 91, (Op.indexAddr 35 (Operand.tmp 4) (Operand.const (Value.int IntKind.i64 0))), 0, none⟩, ⟨some 92, (Op.load 3 (Operand.tmp 91)), 3, none⟩, ⟨some 93, (Op.binOp BinOp.add 3 (Operand.tmp 90) (Operand.tmp 92) 3), 3, none⟩, ⟨some 94, (Op.move (Operand.tmp 14)), 3, none⟩, ⟨some 95, (Op.binOp BinOp.add 3 (Operand.tmp 93) (Operand.tmp 94) 3), 3, none⟩, ⟨some 15, (Op.assign (Operand.tmp 95)), 3, none⟩] (Q .normal ds) σ w := mk_eq rfl
@[push_cast] theorem vr8_22 (Q : Post) (ds : List Deferred) (σ : Env) (w : World) : vc Try.prog (.region r8_22) Q ds σ w = vcOps Try.prog [⟨some 96, (Op.move (Operand.tmp 7)), 24, none⟩, ⟨some 97, (Op.move (Operand.tmp 15)), 3, none⟩, ⟨some 98, (Op.binOp BinOp.quo 3 (Operand.tmp 97) (Operand.const (Value.int IntKind.i64 8)) 3), 3, none⟩, ⟨some 99, (Op.move (Operand.tmp 7)), 24, none⟩, ⟨some 100, (Op.move (Operand.tmp 15)), 3, none⟩, ⟨some 101, (Op.binOp BinOp.quo 3 (Operand.tmp 100) (Operand.const (Value.int IntKind.i64 8)) 3), 3, none⟩, ⟨some 102, (Op.indexAddr 24 (Operand.tmp 99) (Operand.tmp 101)), 0, none⟩, ⟨some 103, (Op.load 5 (Operand.tmp 102)), 5, none⟩, ⟨some 104, (Op.move (Operand.tmp 15)), 3, none⟩, ⟨some 105, (Op.binOp BinOp.rem 3 (Operand.tmp 104) (Operand.const (Value.int IntKind.i64 8)) 3), 3, none⟩, ⟨some 106, (Op.convert 3 33 (Operand.tmp 105)), 33, none⟩, ⟨some 107, (Op.binOp BinOp.shl 5 (Operand.const (Value.int IntKind.u8 1)) (Operand.tmp 106) 33), 5, none⟩, ⟨some 108, (Op.binOp BinOp.xor 5 (Operand.tmp 103) (Operand.tmp 107) 5), 5, none⟩, ⟨some 109, (Op.indexAddr 24 (Operand.tmp 96) (Operand.tmp 98)), 0, none⟩, ⟨none, (Op.store 5 (Operand.tmp 109) (Operand.tmp 108)), 0, none⟩] (Q .normal ds) σ w := mk_eq rfl
@[push_cast] theorem vr8_19 (Q : Post) (ds : List Deferred) (σ : Env) (w : World) : vc Try.prog (.region r8_19) Q ds σ w = vcOps Try.prog [⟨some 81, (Op.move (Operand.tmp 14)), 3, none⟩, ⟨some 82, (Op.binOp BinOp.add 3 (Operand.tmp 81) (Operand.const (Value.int IntKind.i64 1)) 3), 3, none⟩, ⟨some 14, (Op.assign (Operand.tmp 82)), 3, none⟩] (Q .normal ds) σ w := mk_eq rfl
@[push_cast] theorem vr8_23 (Q : Post) (ds : List Deferred) (σ : Env) (w : World) : vc Try.prog (.region r8_23) Q ds σ w = vcOps Try.prog [⟨some 111, (Op.move (Operand.tmp 7)), 24, none⟩, ⟨some 112, (Op.call { callee := (Callee.value (Operand.func 27)), args := #[(Operand.tmp 111)], argTypes := #[24] }), 45, none⟩, ⟨some 110, (Op.move (Operand.tmp 112)), 45, none⟩, ⟨some 113, (Op.extract (Operand.tmp 110) 0), 24, none⟩, ⟨some 114, (Op.extract (Operand.tmp 110) 1), 3, none⟩, ⟨some 115, (Op.extract (Operand.tmp 110) 2), 25, none⟩, ⟨some 16, (Op.assign (Operand.tmp 113)), 24, none⟩, ⟨some 17, (Op.assign (Operand.tmp 114)), 3, none⟩, ⟨some 18, (Op.assign (Operand.tmp 115)), 25, none⟩] (Q .normal ds) σ w := mk_eq rfl
@[push_cast] theorem vr8_24 (Q : Post) (ds : List Deferred) (σ : Env) (w : World) : vc Try.prog (.region r8_24) Q ds σ w = vcOps Try.prog [⟨some 116, (Op.call { callee := (Callee.value (Operand.func 26)), args := #[], argTypes := #[] }), 4, none⟩, ⟨some 117, (Op.move (Operand.tmp 116)), 4, none⟩, ⟨some 118, (Op.move (Operand.tmp 18)), 25, some (117, true)⟩, ⟨some 119, (Op.binOp BinOp.eql 25 (Operand.tmp 118) (Operand.const (Value.int IntKind.i64 21)) 25), 4, some (117, true)⟩, ⟨some 120, (Op.pick (Operand.tmp 117) (Operand.tmp 119) (Operand.const (Value.bool false))), 4, none⟩, ⟨some 121, (Op.move (Operand.tmp 120)), 4, none⟩, ⟨some 122, (Op.move (Operand.tmp 17)), 3, some (121, true)⟩, ⟨some 123, (Op.binOp BinOp.eql 3 (Operand.tmp 122) (Operand.const (Value.int IntKind.i64 0)) 3), 4, some (121, true)⟩, ⟨some 124, (Op.pick (Operand.tmp 121) (Operand.tmp 123) (Operand.const (Value.bool false))), 4, none⟩, ⟨some 6, (Op.assign (Operand.tmp 124)), 4, none⟩] (Q .normal ds) σ w := mk_eq rfl
/-! 9 columbary/columbarylaw02.CheckOwn (params #[24, 24], results #[(ResultVar.tmp 4)], 96 slots) -/
def W9_0 : List Nat := [12, 51, 52, 53, 54, 55, 56, 57, 58, 59, 60, 61, 62, 63, 64]
@[push_cast] theorem W9_0_def : W9_0 = [12, 51, 52, 53, 54, 55, 56, 57, 58, 59, 60, 61, 62, 63, 64] := mk_eq rfl
def r9_0 : List VOp :=
  [⟨some 4, (Op.assign (Operand.const (Value.bool false))), 4, none⟩]
def r9_1 : List VOp :=
  [⟨some 16, (Op.move (Operand.tmp 0)), 24, none⟩,
   ⟨some 17, (Op.call { callee := (Callee.builtin Builtin.len), args := #[(Operand.tmp 16)], argTypes := #[24] }), 3, none⟩,
   ⟨some 18, (Op.binOp BinOp.gtr 3 (Operand.tmp 17) (Operand.const (Value.int IntKind.i64 400)) 3), 4, none⟩,
   ⟨some 19, (Op.move (Operand.tmp 18)), 4, none⟩,
   ⟨some 20, (Op.move (Operand.tmp 1)), 24, some (19, false)⟩,
   ⟨some 21, (Op.call { callee := (Callee.builtin Builtin.len), args := #[(Operand.tmp 20)], argTypes := #[24] }), 3, some (19, false)⟩,
   ⟨some 22, (Op.binOp BinOp.gtr 3 (Operand.tmp 21) (Operand.const (Value.int IntKind.i64 400)) 3), 4, some (19, false)⟩,
   ⟨some 23, (Op.pick (Operand.tmp 19) (Operand.const (Value.bool true)) (Operand.tmp 22)), 4, none⟩]
def r9_2 : List VOp :=
  [⟨some 24, (Op.call { callee := (Callee.value (Operand.func 26)), args := #[], argTypes := #[] }), 4, none⟩,
   ⟨some 4, (Op.assign (Operand.tmp 24)), 4, none⟩]
def r9_3 : List VOp :=
  [⟨some 26, (Op.move (Operand.tmp 0)), 24, none⟩,
   ⟨some 27, (Op.call { callee := (Callee.value (Operand.func 25)), args := #[(Operand.tmp 26)], argTypes := #[24] }), 26, none⟩,
   ⟨some 25, (Op.move (Operand.tmp 27)), 26, none⟩,
   ⟨some 28, (Op.extract (Operand.tmp 25) 0), 24, none⟩,
   ⟨some 29, (Op.extract (Operand.tmp 25) 1), 25, none⟩,
   ⟨some 5, (Op.assign (Operand.tmp 28)), 24, none⟩,
   ⟨some 6, (Op.assign (Operand.tmp 29)), 25, none⟩]
def r9_4 : List VOp :=
  [⟨some 31, (Op.move (Operand.tmp 1)), 24, none⟩,
   ⟨some 32, (Op.call { callee := (Callee.value (Operand.func 25)), args := #[(Operand.tmp 31)], argTypes := #[24] }), 26, none⟩,
   ⟨some 30, (Op.move (Operand.tmp 32)), 26, none⟩,
   ⟨some 33, (Op.extract (Operand.tmp 30) 0), 24, none⟩,
   ⟨some 34, (Op.extract (Operand.tmp 30) 1), 25, none⟩,
   ⟨some 7, (Op.assign (Operand.tmp 33)), 24, none⟩,
   ⟨some 8, (Op.assign (Operand.tmp 34)), 25, none⟩]
def r9_5 : List VOp :=
  [⟨some 36, (Op.move (Operand.tmp 5)), 24, none⟩,
   ⟨some 37, (Op.call { callee := (Callee.value (Operand.func 27)), args := #[(Operand.tmp 36)], argTypes := #[24] }), 45, none⟩,
   ⟨some 35, (Op.move (Operand.tmp 37)), 45, none⟩,
   ⟨some 38, (Op.extract (Operand.tmp 35) 0), 24, none⟩,
   ⟨some 39, (Op.extract (Operand.tmp 35) 1), 3, none⟩,
   ⟨some 40, (Op.extract (Operand.tmp 35) 2), 25, none⟩,
   ⟨some 9, (Op.assign (Operand.tmp 38)), 24, none⟩,
   ⟨some 10, (Op.assign (Operand.tmp 39)), 3, none⟩,
   ⟨some 11, (Op.assign (Operand.tmp 40)), 25, none⟩]
def r9_6 : List VOp :=
  [⟨some 41, (Op.move (Operand.tmp 6)), 25, none⟩,
   ⟨some 42, (Op.binOp BinOp.neq 25 (Operand.tmp 41) (Operand.const (Value.int IntKind.i64 0)) 25), 4, none⟩,
   ⟨some 43, (Op.move (Operand.tmp 42)), 4, none⟩,
   ⟨some 44, (Op.move (Operand.tmp 8)), 25, some (43, false)⟩,
   ⟨some 45, (Op.binOp BinOp.neq 25 (Operand.tmp 44) (Operand.const (Value.int IntKind.i64 0)) 25), 4, some (43, false)⟩,
   ⟨some 46, (Op.pick (Operand.tmp 43) (Operand.const (Value.bool true)) (Operand.tmp 45)), 4, none⟩,
   ⟨some 47, (Op.move (Operand.tmp 46)), 4, none⟩,
   ⟨some 48, (Op.move (Operand.tmp 11)), 25, some (47, false)⟩,
   ⟨some 49, (Op.binOp BinOp.neq 25 (Operand.tmp 48) (Operand.const (Value.int IntKind.i64 0)) 25), 4, some (47, false)⟩,
   ⟨some 50, (Op.pick (Operand.tmp 47) (Operand.const (Value.bool true)) (Operand.tmp 49)), 4, none⟩]
def r9_7 : List VOp :=
  [⟨some 4, (Op.assign (Operand.const (Value.bool false))), 4, none⟩]
def r9_8 : List VOp :=
  [⟨some 12, (Op.assign (Operand.const (Value.int IntKind.i64 0))), 3, none⟩]
def r9_9 : List VOp :=
  [⟨some 51, (Op.move (Operand.tmp 12)), 3, none⟩,
   ⟨some 52, (Op.move (Operand.tmp 9)), 24, none⟩,
   ⟨some 53, (Op.call { callee := (Callee.builtin Builtin.len), args := #[(Operand.tmp 52)], argTypes := #[24] }), 3, none⟩,
   ⟨some 54, (Op.binOp BinOp.lss 3 (Operand.tmp 51) (Operand.tmp 53) 3), 4, none⟩]
def r9_11 : List VOp :=
  [⟨some 57, (Op.move (Operand.tmp 9)), 24, none⟩,
   ⟨some 58, (Op.move (Operand.tmp 12)), 3, none⟩,
   ⟨some 59, (Op.move (Operand.tmp 9)), 24, none⟩,
   ⟨some 60, (Op.move (Operand.tmp 12)), 3, none⟩,
   ⟨some 61, (Op.indexAddr 24 (Operand.tmp 59) (Operand.tmp 60)), 0, none⟩,
   ⟨some 62, (Op.load 5 (Operand.tmp 61)), 5, none⟩,
   ⟨some 63, (Op.binOp BinOp.add 5 (Operand.tmp 62) (Operand.const (Value.int IntKind.u8 1)) 5), 5, none⟩,
   ⟨some 64, (Op.indexAddr 24 (Operand.tmp 57) (Operand.tmp 58)), 0, none⟩,
   ⟨none, (Op.store 5 (Operand.tmp 64) (Operand.tmp 63)), 0, none⟩]
def r9_10 : List VOp :=
  [⟨some 55, (Op.move (Operand.tmp 12)), 3, none⟩,
   ⟨some 56, (Op.binOp BinOp.add 3 (Operand.tmp 55) (Operand.const (Value.int IntKind.i64 1)) 3), 3, none⟩,
   ⟨some 12, (Op.assign (Operand.tmp 56)), 3, none⟩]
def r9_12 : List VOp :=
  [⟨some 66, (Op.move (Operand.tmp 5)), 24, none⟩,
   ⟨some 67, (Op.call { callee := (Callee.value (Operand.func 27)), args := #[(Operand.tmp 66)], argTypes := #[24] }), 45, none⟩,
   ⟨some 65, (Op.move (Operand.tmp 67)), 45, none⟩,
   ⟨some 68, (Op.extract (Operand.tmp 65) 0), 24, none⟩,
   ⟨some 69, (Op.extract (Operand.tmp 65) 1), 3, none⟩,
   ⟨some 70, (Op.extract (Operand.tmp 65) 2), 25, none⟩,
   ⟨some 13, (Op.assign (Operand.tmp 68)), 24, none⟩,
   ⟨some 14, (Op.assign (Operand.tmp 69)), 3, none⟩,
   ⟨some 15, (Op.assign (Operand.tmp 70)), 25, none⟩]
def r9_13 : List VOp :=
  [⟨some 71, (Op.call { callee := (Callee.value (Operand.func 26)), args := #[], argTypes := #[] }), 4, none⟩,
   ⟨some 72, (Op.move (Operand.tmp 71)), 4, none⟩,
   ⟨some 73, (Op.move (Operand.tmp 15)), 25, some (72, true)⟩,
   ⟨some 74, (Op.binOp BinOp.eql 25 (Operand.tmp 73) (Operand.const (Value.int IntKind.i64 0)) 25), 4, some (72, true)⟩,
   ⟨some 75, (Op.pick (Operand.tmp 72) (Operand.tmp 74) (Operand.const (Value.bool false))), 4, none⟩,
   ⟨some 76, (Op.move (Operand.tmp 75)), 4, none⟩,
   ⟨some 77, (Op.move (Operand.tmp 13)), 24, some (76, true)⟩,
   ⟨some 78, (Op.convert 24 9 (Operand.tmp 77)), 9, some (76, true)⟩,
   ⟨some 79, (Op.move (Operand.tmp 0)), 24, some (76, true)⟩,
   ⟨some 80, (Op.convert 24 9 (Operand.tmp 79)), 9, some (76, true)⟩,
   ⟨some 81, (Op.binOp BinOp.eql 9 (Operand.tmp 78) (Operand.tmp 80) 9), 4, some (76, true)⟩,
   ⟨some 82, (Op.pick (Operand.tmp 76) (Operand.tmp 81) (Operand.const (Value.bool false))), 4, none⟩,
   ⟨some 83, (Op.move (Operand.tmp 82)), 4, none⟩,
   ⟨some 84, (Op.move (Operand.tmp 5)), 24, some (83, true)⟩,
   ⟨some 85, (Op.convert 24 9 (Operand.tmp 84)), 9, some (83, true)⟩,
   ⟨some 86, (Op.move (Operand.tmp 7)), 24, some (83, true)⟩,
   ⟨some 87, (Op.convert 24 9 (Operand.tmp 86)), 9, some (83, true)⟩,
   ⟨some 88, (Op.binOp BinOp.eql 9 (Operand.tmp 85) (Operand.tmp 87) 9), 4, some (83, true)⟩,
   ⟨some 89, (Op.move (Operand.tmp 0)), 24, some (83, true)⟩,
   ⟨some 90, (Op.convert 24 9 (Operand.tmp 89)), 9, some (83, true)⟩,
   ⟨some 91, (Op.move (Operand.tmp 1)), 24, some (83, true)⟩,
   ⟨some 92, (Op.convert 24 9 (Operand.tmp 91)), 9, some (83, true)⟩,
   ⟨some 93, (Op.binOp BinOp.eql 9 (Operand.tmp 90) (Operand.tmp 92) 9), 4, some (83, true)⟩,
   ⟨some 94, (Op.binOp BinOp.eql 4 (Operand.tmp 88) (Operand.tmp 93) 4), 4, some (83, true)⟩,
   ⟨some 95, (Op.pick (Operand.tmp 83) (Operand.tmp 94) (Operand.const (Value.bool false))), 4, none⟩,
   ⟨some 4, (Op.assign (Operand.tmp 95)), 4, none⟩]
def B9 : VC :=
  (.seq (.region r9_0) (.seq (.seq (.region r9_1) (.cond (Operand.tmp 23) (.seq (.region r9_2) .ret) .skip)) (.seq (.region r9_3) (.seq (.region r9_4) (.seq (.region r9_5) (.seq (.seq (.region r9_6) (.cond (Operand.tmp 50) (.seq (.region r9_7) .ret) .skip)) (.seq (.seq (.region r9_8) (.block 0 (.loop (.seq (.seq (.region r9_9) (.cond (Operand.tmp 54) .skip (.exit 0))) (.seq (.block 1 (.region r9_11)) (.region r9_10)))))) (.seq (.region r9_12) (.seq (.region r9_13) .ret)))))))))
theorem code9 : ∃ c, Try.f9.body = some c ∧ abs Try.f9.ntmps c = B9 := ⟨_, rfl, by kernel_rfl⟩
theorem hb9 : HasBody Try.prog 9 := hasBody_of Try.func9 (by kernel_rfl)
theorem res9 : Try.f9.results = #[(ResultVar.tmp 4)] := rfl
theorem enter9 {w : World} {R : Value → World → Prop} (x0 x1 : Value) (h : vc Try.prog B9 (retK Try.prog #[(ResultVar.tmp 4)] R) [] (initEnv [x0, x1] 0) w) : FnC Try.prog 9 #[x0, x1] w R := by
  obtain ⟨c, h1, h2⟩ := code9
  exact hb9.fn (ret_of_vc mixed Try.func9 h1 (Nat.le_of_ble_eq_true rfl) B9 h2 h)
@[push_cast] theorem vr9_0 (Q : Post) (ds : List Deferred) (σ : Env) (w : World) : vc Try.prog (.region r9_0) Q ds σ w = vcOps Try.prog [⟨some 4, (Op.assign (Operand.const (Value.bool false))), 4, none⟩] (Q .normal ds) σ w := mk_eq rfl
@[push_cast] theorem vr9_1 (Q : Post) (ds : List Deferred) (σ : Env) (w : World) : vc Try.prog (.region r9_1) Q ds σ w = vcOps Try.prog [⟨some 16, (Op.move (Operand.tmp 0)), 24, none⟩, ⟨some 17, (Op.call { callee := (Callee.builtin Builtin.len), args := #[(Operand.tmp 16)], argTypes := #[24] }), 3, none⟩, ⟨some 18, (Op.binOp BinOp.gtr 3 (Operand.tmp 17) (Operand.const (Value.int IntKind.i64 400)) 3), 4, none⟩, ⟨some 19, (Op.move (Operand.tmp 18)), 4, none⟩, ⟨some 20, (Op.move (Operand.tmp 1)), 24, some (19, false)⟩, ⟨some 21, (Op.call { callee := (Callee.builtin Builtin.len), args := #[(Operand.tmp 20)], argTypes := #[24] }), 3, some (19, false)⟩, ⟨some 22, (Op.binOp BinOp.gtr 3 (Operand.tmp 21) (Operand.const (Value.int IntKind.i64 400)) 3), 4, some (19, false)⟩, ⟨some 23, (Op.pick (Operand.tmp 19) (Operand.const (Value.bool true)) (Operand.tmp 22)), 4, none⟩] (Q .normal ds) σ w := mk_eq rfl
@[push_cast] theorem vr9_2 (Q : Post) (ds : List Deferred) (σ : Env) (w : World) : vc Try.prog (.region r9_2) Q ds σ w = vcOps Try.prog [⟨some 24, (Op.call { callee := (Callee.value (Operand.func 26)), args := #[], argTypes := #[] }), 4, none⟩, ⟨some 4, (Op.assign (Operand.tmp 24)), 4, none⟩] (Q .normal ds) σ w := mk_eq rfl
@[push_cast] theorem vr9_3 (Q : Post) (ds : List Deferred) (σ : Env) (w : World) : vc Try.prog (.region r9_3) Q ds σ w = vcOps Try.prog [⟨some 26, (Op.move (Operand.tmp 0)), 24, none⟩, ⟨some 27, (Op.call { callee := (Callee.value (Operand.func 25)), args := #[(Operand.tmp 26)], argTypes := #[24] }), 26, none⟩, ⟨some 25, (Op.move (Operand.tmp 27)), 26, none⟩, ⟨some 28, (Op.extract (Operand.tmp 25) 0), 24, none⟩, ⟨some 29, (Op.extract (Operand.tmp 25) 1), 25, none⟩, ⟨some 5, (Op.assign (Operand.tmp 28)), 24, none⟩, ⟨some 6, (Op.assign (Operand.tmp 29)), 25, none⟩] (Q .normal ds) σ w := mk_eq rfl
@[push_cast] theorem vr9_4 (Q : Post) (ds : List Deferred) (σ : Env) (w : World) : vc Try.prog (.region r9_4) Q ds σ w = vcOps Try.prog [⟨some 31, (Op.move (Operand.tmp 1)), 24, none⟩, ⟨some 32, (Op.call { callee := (Callee.value (Operand.func 25)), args := #[(Operand.tmp 31)], argTypes := #[24] }), 26, none⟩, ⟨some 30, (Op.move (Operand.tmp 32)), 26, none⟩, ⟨some 33, (Op.extract (Operand.tmp 30) 0), 24, none⟩, ⟨some 34, (Op.extract (Operand.tmp 30) 1), 25, none⟩, ⟨some 7, (Op.assign (Operand.tmp 33)), 24, none⟩, ⟨some 8, (Op.assign (Operand.tmp 34)), 25, none⟩] (Q .normal ds) σ w := mk_eq rfl
@[push_cast] theorem vr9_5 (Q : Post) (ds : List Deferred) (σ : Env) (w : World) : vc Try.prog (.region r9_5) Q ds σ w = vcOps Try.prog [⟨some 36, (Op.move (Operand.tmp 5)), 24, none⟩, ⟨some 37, (Op.call { callee := (Callee.value (Operand.func 27)), args := #[(Operand.tmp 36)], argTypes := #[24] }), 45, none⟩, ⟨some 35, (Op.move (Operand.tmp 37)), 45, none⟩, ⟨some 38, (Op.extract (Operand.tmp 35) 0), 24, none⟩, ⟨some 39, (Op.extract (Operand.tmp 35) 1), 3, none⟩, ⟨some 40, (Op.extract (Operand.tmp 35) 2), 25, none⟩, ⟨some 9, (Op.assign (Operand.tmp 38)), 24, none⟩, ⟨some 10, (Op.assign (Operand.tmp 39)), 3, none⟩, ⟨some 11, (Op.assign (Operand.tmp 40)), 25, none⟩] (Q .normal ds) σ w := mk_eq rfl
@[push_cast] theorem vr9_6 (Q : Post) (ds : List Deferred) (σ : Env) (w : World) : vc Try.prog (.region r9_6) Q ds σ w = vcOps Try.prog [⟨some 41, (Op.move (Operand.tmp 6)), 25, none⟩, ⟨some 42, (Op.binOp BinOp.neq 25 (Operand.tmp 41) (Operand.const (Value.int IntKind.i64 0)) 25), 4, none⟩, ⟨some 43, (Op.move (Operand.tmp 42)), 4, none⟩, ⟨some 44, (Op.move (Operand.tmp 8)), 25, some (43, false)⟩, ⟨some 45, (Op.binOp BinOp.neq 25 (Operand.tmp 44) (Operand.const (Value.int IntKind.i64 0)) 25), 4, some (43, false)⟩, ⟨some 46, (Op.pick (Operand.tmp 43) (Operand.const (Value.bool true)) (Operand.tmp 45)), 4, none⟩, ⟨some 47, (Op.move (Operand.tmp 46)), 4, none⟩, ⟨some 48, (Op.move (Operand.tmp 11)), 25, some (47, false)⟩, ⟨some 49, (Op.binOp BinOp.neq 25 (Operand.tmp 48) (Operand.const (Value.int IntKind.i64 0)) 25), 4, some (47, false)⟩, ⟨some 50, (Op.pick (Operand.tmp 47) (Operand.const (Value.bool true)) (Operand.tmp 49)), 4, none⟩] (Q .normal ds) σ w := mk_eq rfl
@[push_cast] theorem vr9_7 (Q : Post) (ds : List Deferred) (σ : Env) (w : World) : vc Try.prog (.region r9_7) Q ds σ w = vcOps Try.prog [⟨some 4, (Op.assign (Operand.const (Value.bool false))), 4, none⟩] (Q .normal ds) σ w := mk_eq rfl
@[push_cast] theorem vr9_8 (Q : Post) (ds : List Deferred) (σ : Env) (w : World) : vc Try.prog (.region r9_8) Q ds σ w = vcOps Try.prog [⟨some 12, (Op.assign (Operand.const (Value.int IntKind.i64 0))), 3, none⟩] (Q .normal ds) σ w := mk_eq rfl
@[push_cast] theorem vr9_9 (Q : Post) (ds : List Deferred) (σ : Env) (w : World) : vc Try.prog (.region r9_9) Q ds σ w = vcOps Try.prog [⟨some 51, (Op.move (Operand.tmp 12)), 3, none⟩, ⟨some 52, (Op.move (Operand.tmp 9)), 24, none⟩, ⟨some 53, (Op.call { callee := (Callee.builtin Builtin.len), args := #[(Operand.tmp 52)], argTypes := #[24] }), 3, none⟩, ⟨some 54, (Op.binOp BinOp.lss 3 (Operand.tmp 51) (Operand.tmp 53) 3), 4, none⟩] (Q .normal ds) σ w := mk_eq rfl
@[push_cast] theorem vr9_11 (Q : Post) (ds : List Deferred) (σ : Env) (w : World) : vc Try.prog (.region r9_11) Q ds σ w = vcOps Try.prog [⟨some 57, (Op.move (Operand.tmp 9)), 24, none⟩, ⟨some 58, (Op.move (Operand.tmp 12)), 3, none⟩, ⟨some 59, (Op.move (Operand.tmp 9)), 24, none⟩, ⟨some 60, (Op.move (Operand.tmp 12)), 3, none⟩, ⟨some 61, (Op.indexAddr 24 (Operand.tmp 59) (Operand.tmp 60)), 0, none⟩, ⟨some 62, (Op.load 5 (Operand.tmp 61)), 5, none⟩, ⟨some 63, (Op.binOp BinOp.add 5 (Operand.tmp 62) (Operand.const (Value.int IntKind.u8 1)) 5), 5, none⟩, ⟨some 64, (Op.indexAddr 24 (Operand.tmp 57) (Operand.tmp 58)), 0, none⟩, ⟨none, (Op.store 5 (Operand.tmp 64) (Operand.tmp 63)), 0, none⟩] (Q .normal ds) σ w := mk_eq rfl
@[push_cast] theorem vr9_10 (Q : Post) (ds : List Deferred) (σ : Env) (w : World) : vc Try.prog (.region r9_10) Q ds σ w = vcOps Try.prog [⟨some 55, (Op.move (Operand.tmp 12)), 3, none⟩, ⟨some 56, (Op.binOp BinOp.add 3 (Operand.tmp 55) (Operand.const (Value.int IntKind.i64 1)) 3), 3, none⟩, ⟨some 12, (Op.assign (Operand.tmp 56)), 3, none⟩] (Q .normal ds) σ w := mk_eq rfl
@[push_cast] theorem vr9_12 (Q : Post) (ds : List Deferred) (σ : Env) (w : World) : vc Try.prog (.region r9_12) Q ds σ w = vcOps Try.prog [⟨some 66, (Op.move (Operand.tmp 5)), 24, none⟩, ⟨some 67, (Op.call { callee := (Callee.value (Operand.func 27)), args := #[(Operand.tmp 66)], argTypes := #[24] }), 45, none⟩, ⟨some 65, (Op.move (Operand.tmp 67)), 45, none⟩, ⟨some 68, (Op.extract (Operand.tmp 65) 0), 24, none⟩, ⟨some 69, (Op.extract (Operand.tmp 65) 1), 3, none⟩, ⟨some 70, (Op.extract (Operand.tmp 65) 2), 25, none⟩, ⟨some 13, (Op.assign (Operand.tmp 68)), 24, none⟩, ⟨some 14, (Op.assign (Operand.tmp 69)), 3, none⟩, ⟨some 15, (Op.assign (Operand.tmp 70)), 25, none⟩] (Q .normal ds) σ w := mk_eq rfl
@[push_cast] theorem vr9_13 (Q : Post) (ds : List Deferred) (σ : Env) (w : World) : vc Try.prog (.region r9_13) Q ds σ w = vcOps Try.prog [⟨some 71, (Op.call { callee := (Callee.value (Operand.func 26)), args := #[], argTypes := #[] }), 4, none⟩, ⟨some 72, (Op.move (Operand.tmp 71)), 4, none⟩, ⟨some 73, (Op.move (Operand.tmp 15)), 25, some (72, true)⟩, ⟨some 74, (Op.binOp BinOp.eql 25 (Operand.tmp 73) (Operand.const (Value.int IntKind.i64 0)) 25), 4, some (72, true)⟩, ⟨some 75, (Op.pick (Operand.tmp 72) (Operand.tmp 74) (Operand.const (Value.bool false))), 4, none⟩, ⟨some 76, (Op.move (Operand.tmp 75)), 4, none⟩, ⟨some 77, (Op.move (Operand.tmp 13)), 24, some (76, true)⟩, ⟨some 78, (Op.convert 24 9 (Operand.tmp 77)), 9, some (76, true)⟩, ⟨some 79, (Op.move (Operand.tmp 0)), 24, some (76, true)⟩, ⟨some 80, (Op.convert 24 9 (Operand.tmp 79)), 9, some (76, true)⟩, ⟨some 81, (Op.binOp BinOp.eql 9 (Operand.tmp 78) (Operand.tmp 80) 9), 4, some (76, true)⟩, ⟨some 82, (Op.pick (Operand.tmp 76) (Operand.tmp 81) (Operand.const (Value.bool false))), 4, none⟩, ⟨some 83, (Op.move (Operand.tmp 82)), 4, none⟩, ⟨some 84, (Op.move (Operand.tmp 5)), 24, some (83, true)⟩, ⟨some 85, (Op.convert 24 9 (Operand.tmp 84)), 9, some (83, true)⟩, ⟨some 86, (Op.move (Operand.tmp 7)), 24, some (83, true)⟩, ⟨some 87, (Op.convert 24 9 (Operand.tmp 86)), 9, some (83, true)⟩, ⟨some 88, (Op.binOp BinOp.eql 9 (Operand.tmp 85) (Operand.tmp 87) 9), 4, some (83, true)⟩, ⟨some 89, (Op.move (Operand.tmp 0)), 24, some (83, true)⟩, ⟨some 90, (Op.convert 24 9 (Operand.tmp 89)), 9, some (83, true)⟩, ⟨some 91, (Op.move (Operand.tmp 1)), 24, some (83, true)⟩, ⟨some 92, (Op.convert 24 9 (Operand.tmp 91)), 9, some (83, true)⟩, ⟨some 93, (Op.binOp BinOp.eql 9 (Operand.tmp 90) (Operand.tmp 92) 9), 4, some (83, true)⟩, ⟨some 94, (Op.binOp BinOp.eql 4 (Operand.tmp 88) (Operand.tmp 93) 4), 4, some (83, true)⟩, ⟨some 95, (Op.pick (Operand.tmp 83) (Operand.tmp 94) (Operand.const (Value.bool false))), 4, none⟩, ⟨some 4, (Op.assign (Operand.tmp 95)), 4, none⟩] (Q .normal ds) σ w := mk_eq rfl
/-! 10 columbary/columbarylaw02.CheckLinear (params #[24, 24, 24], results #[(ResultVar.tmp 6)], 59 slots) -/
def W10_0 : List Nat := [8, 9, 17, 18, 19, 20, 21, 22, 23, 24, 25, 26, 27, 28, 29, 30, 31, 32, 33, 34, 35, 36, 37, 38]
@[push_cast] theorem W10_0_def : W10_0 = [8, 9, 17, 18, 19, 20, 21, 22, 23, 24, 25, 26, 27, 28, 29, 30, 31, 32, 33, 34, 35, 36, 37, 38] := mk_eq rfl
def r10_0 : List VOp :=
  [⟨some 6, (Op.assign (Operand.const (Value.bool false))), 4, none⟩]
def r10_1 : List VOp :=
  [⟨some 10, (Op.move (Operand.tmp 0)), 24, none⟩,
   ⟨some 11, (Op.call { callee := (Callee.builtin Builtin.len), args := #[(Operand.tmp 10)], argTypes := #[24] }), 3, none⟩,
   ⟨some 12, (Op.move (Operand.tmp 1)), 24, none⟩,
   ⟨some 13, (Op.call { callee := (Callee.builtin Builtin.len), args := #[(Operand.tmp 12)], argTypes := #[24] }), 3, none⟩,
   ⟨some 14, (Op.move (Operand.tmp 2)), 24, none⟩,
   ⟨some 15, (Op.call { callee := (Callee.builtin Builtin.len), args := #[(Operand.tmp 14)], argTypes := #[24] }), 3, none⟩,
   ⟨some 16, (Op.call { callee := (Callee.builtin Builtin.min), args := #[(Operand.tmp 11), (Operand.tmp 13), (Operand.tmp 15), (Operand.const (Value.int IntKind.i64 400))], argTypes := #[3, 3, 3, 3] }), 3, none⟩,
   ⟨some 7, (Op.assign (Operand.tmp 16)), 3, none⟩]
def r10_2 : List VOp :=
  [⟨some 8, (Op.assign (Operand.const (Value.slice none 0 0))), 24, none⟩]
def r10_3 : List VOp :=
  [⟨some 9, (Op.assign (Operand.const (Value.int IntKind.i64 0))), 3, none⟩]
def r10_4 : List VOp :=
  [⟨some 17, (Op.move (Operand.tmp 9)), 3, none⟩,
   ⟨some 18, (Op.move (Operand.tmp 7)), 3, none⟩,
   ⟨some 19, (Op.binOp BinOp.lss 3 (Operand.tmp 17) (Operand.tmp 18) 3), 4, none⟩]
def r10_6 : List VOp :=
  [⟨some 22, (Op.move (Operand.tmp 8)), 24, none⟩,
   ⟨some 23, (Op.move (Operand.tmp 0)), 24, none⟩,
   ⟨some 24, (Op.move (Operand.tmp 9)), 3, none⟩,
   ⟨some 25, (Op.indexAddr 24 (Operand.tmp 23) (Operand.tmp 24)), 0, none⟩,
   ⟨some 26, (Op.load 5 (Operand.tmp 25)), 5, none⟩,
   ⟨some 27, (Op.move (Operand.tmp 1)), 24, none⟩,
   ⟨some 28, (Op.move (Operand.tmp 9)), 3, none⟩,
   ⟨some 29, (Op.indexAddr 24 (Operand.tmp 27) (Operand.tmp 28)), 0, none⟩,
   ⟨some 30, (Op.load 5 (Operand.tmp 29)), 5, none⟩,
   ⟨some 31, (Op.binOp BinOp.xor 5 (Operand.tmp 26) (Operand.tmp 30) 5), 5, none⟩,
   ⟨some 32, (Op.move (Operand.tmp 2)), 24, none⟩,
   ⟨some 33, (Op.move (Operand.tmp 9)), 3, none⟩,
   ⟨some 34, (Op.indexAddr 24 (Operand.tmp 32) (Operand.tmp 33)), 0, none⟩,
   ⟨some 35, (Op.load 5 (Operand.tmp 34)), 5, none⟩,
   ⟨some 36, (Op.binOp BinOp.xor 5 (Operand.tmp 31) (Operand.tmp 35) 5), 5, none⟩,
   ⟨some 37, (Op.buildSlice 24 1 #[(0, (Operand.tmp 36))]), 24, none⟩,
   ⟨some 38, (Op.call { callee := (Callee.builtin Builtin.append), args := #[(Operand.tmp 22), (Operand.tmp 37)], argTypes := #[24, 24] }), 24, none⟩,
   ⟨some 8, (Op.assign (Operand.tmp 38)), 24, none⟩]
def r10_5 : List VOp :=
  [⟨some 20, (Op.move (Operand.tmp 9)), 3, none⟩,
   ⟨some 21, (Op.binOp BinOp.add 3 (Operand.tmp 20) (Operand.const (Value.int IntKind.i64 1)) 3), 3, none⟩,
   ⟨some 9, (Op.assign (Operand.tmp 21)), 3, none⟩]
def r10_7 : List VOp :=
  [⟨some 39, (Op.call { callee := (Callee.value (Operand.func 26)), args := #[], argTypes := #[] }), 4, none⟩,
   ⟨some 40, (Op.move (Operand.tmp 39)), 4, none⟩,
   ⟨some 41, (Op.move (Operand.tmp 8)), 24, some (40, true)⟩,
   ⟨some 42, (Op.call { callee := (Callee.value (Operand.func 28)), args := #[(Operand.tmp 41)], argTypes := #[24] }), 43, some (40, true)⟩,
   ⟨some 43, (Op.move (Operand.tmp 0)), 24, some (40, true)⟩,
   ⟨some 44, (Op.move (Operand.tmp 7)), 3, some (40, true)⟩,
   ⟨some 45, (Op.slice 24 (Operand.tmp 43) none (some (Operand.tmp 44)) none), 24, some (40, true)⟩,
   ⟨some 46, (Op.call { callee := (Callee.value (Operand.func 28)), args := #[(Operand.tmp 45)], argTypes := #[24] }), 43, some (40, true)⟩,
   ⟨some 47, (Op.move (Operand.tmp 1)), 24, some (40, true)⟩,
   ⟨some 48, (Op.move (Operand.tmp 7)), 3, some (40, true)⟩,
   ⟨some 49, (Op.slice 24 (Operand.tmp 47) none (some (Operand.tmp 48)) none), 24, some (40, true)⟩,
   ⟨some 50, (Op.call { callee := (Callee.value (Operand.func 28)), args := #[(Operand.tmp 49)], argTypes := #[24] }), 43, some (40, true)⟩,
   ⟨some 51, (Op.binOp BinOp.xor 43 (Operand.tmp 46) (Operand.tmp 50) 43), 43, some (40, true)⟩,
   ⟨some 52, (Op.move (Operand.tmp 2)), 24, some (40, true)⟩,
   ⟨some 53, (Op.move (Operand.tmp 7)), 3, some (40, true)⟩,
   ⟨some 54, (Op.slice 24 (Operand.tmp 52) none (some (Operand.tmp 53)) none), 24, some (40, true)⟩,
   ⟨some 55, (Op.call { callee := (Callee.value (Operand.func 28)), args := #[(Operand.tmp 54)], argTypes := #[24] }), 43, some (40, true)⟩,
   ⟨some 56, (Op.binOp BinOp.xor 43 (Operand.tmp 51) (Operand.tmp 55) 43), 43, some (40, true)⟩,
   ⟨some 57, (Op.binOp BinOp.eql 43 (Operand.tmp 42) (Operand.tmp 56) 43), 4, some (40, true)⟩,
   ⟨some 58, (Op.pick (Operand.tmp 40) (Operand.tmp 57) (Operand.const (Value.bool false))), 4, none⟩,
   ⟨some 6, (Op.assign (Operand.tmp 58)), 4, none⟩]
def B10 : VC :=
  (.seq (.region r10_0) (.seq (.region r10_1) (.seq (.region r10_2) (.seq (.seq (.region r10_3) (.block 0 (.loop (.seq (.seq (.region r10_4) (.cond (Operand.tmp 19) .skip (.exit 0))) (.seq (.block 1 (.draw r10_6 3)) (.region r10_5)))))) (.seq (.draw r10_7 5) .ret)))))
theorem code10 : ∃ c, Try.f10.body = some c ∧ abs Try.f10.ntmps c = B10 := ⟨_, rfl, by kernel_rfl⟩
theorem hb10 : HasBody Try.prog 10 := hasBody_of Try.func10 (by kernel_rfl)
theorem res10 : Try.f10.results = #[(ResultVar.tmp 6)] := rfl
theorem enter10 {w : World} {R : Value → World → Prop} (x0 x1 x2 : Value) (h : vc Try.prog B10 (retK Try.prog #[(ResultVar.tmp 6)] R) [] (initEnv [x0, x1, x2] 0) w) : FnC Try.prog 10 #[x0, x1, x2] w R := by
  obtain ⟨c, h1, h2⟩ := code10
  exact hb10.fn (ret_of_vc mixed Try.func10 h1 (Nat.le_of_ble_eq_true rfl) B10 h2 h)
@[push_cast] theorem vr10_0 (Q : Post) (ds : List Deferred) (σ : Env) (w : World) : vc Try.prog (.region r10_0) Q ds σ w = vcOps Try.prog [⟨some 6, (Op.assign (Operand.const (Value.bool false))), 4, none⟩] (Q .normal ds) σ w := mk_eq rfl
@[push_cast] theorem vr10_1 (Q : Post) (ds : List Deferred) (σ : Env) (w : World) : vc Try.prog (.region r10_1) Q ds σ w = vcOps Try.prog [⟨some 10, (Op.move (Operand.tmp 0)), 24, none⟩, ⟨some 11, (Op.call { callee := (Callee.builtin Builtin.len), args := #[(Operand.tmp 10)], argTypes := #[24] }), 3, none⟩, ⟨some 12, (Op.move (Operand.tmp 1)), 24, none⟩, ⟨some 13, (Op.call { callee := (Callee.builtin Builtin.len), args := #[(Operand.tmp 12)], argTypes := #[24] }), 3, none⟩, ⟨some 14, (Op.move (Operand.tmp 2)), 24, none⟩, ⟨some 15, (Op.call { callee := (Callee.builtin Builtin.len), args := #[(Operand.tmp 14)], argTypes := #[24] }), 3, none⟩, ⟨some 16, (Op.call { callee := (Callee.builtin Builtin.min), args := #[(Operand.tmp 11), (Operand.tmp 13), (Operand.tmp 15), (Operand.const (Value.int IntKind.i64 400))], argTypes := #[3, 3, 3, 3] }), 3, none⟩, ⟨some 7, (Op.assign (Operand.tmp 16)), 3, none⟩] (Q .normal ds) σ w := mk_eq rfl
@[push_cast] theorem vr10_2 (Q : Post) (ds : List Deferred) (σ : Env) (w : World) : vc Try.prog (.region r10_2) Q ds σ w = vcOps Try.prog [⟨some 8, (Op.assign (Operand.const (Value.slice none 0 0))), 24, none⟩] (Q .normal ds) σ w := mk_eq rfl
@[push_cast] theorem vr10_3 (Q : Post) (ds : List Deferred) (σ : Env) (w : World) : vc Try.prog (.region r10_3) Q ds σ w = vcOps Try.prog [⟨some 9, (Op.assign (Operand.const (Value.int IntKind.i64 0))), 3, none⟩] (Q .normal ds) σ w := mk_eq rfl
@[push_cast] theorem vr10_4 (Q : Post) (ds : List Deferred) (σ : Env) (w : World) : vc Try.prog (.region r10_4) Q ds σ w = vcOps Try.prog [⟨some 17, (Op.move (Operand.tmp 9)), 3, none⟩, ⟨some 18, (Op.move (Operand.tmp 7)), 3, none⟩, ⟨some 19, (Op.binOp BinOp.lss 3 (Operand.tmp 17) (Operand.tmp 18) 3), 4, none⟩] (Q .normal ds) σ w := mk_eq rfl
@[push_cast] theorem vr10_6 (Q : Post) (ds : List Deferred) (σ : Env) (w : World) : vc Try.prog (.draw r10_6 3) Q ds σ w = drawn Try.prog [(⟨some 22, (Op.move (Operand.tmp 8)), 24, none⟩, [8]), (⟨some 23, (Op.move (Operand.tmp 0)), 24, none⟩, [0]), (⟨some 24, (Op.move (Operand.tmp 9)), 3, none⟩, [9]), (⟨some 25, (Op.indexAddr 24 (Operand.tmp 23) (Operand.tmp 24)), 0, none⟩, [23, 24]), (⟨some 26, (Op.load 5 (Operand.tmp 25)), 5, none⟩, [25]), (⟨some 27, (Op.move (Operand.tmp 1)), 24, none⟩, [1]), (⟨some 28, (Op.move (Operand.tmp 9)), 3, none⟩, [9]), (⟨some 29, (Op.indexAddr 24 (Operand.tmp 27) (Operand.tmp 28)), 0, none⟩, [27, 28]), (⟨some 30, (Op.load 5 (Operand.tmp 29)), 5, none⟩, [29]), (⟨some 31, (Op.binOp BinOp.xor 5 (Operand.tmp 26) (Operand.tmp 30) 5), 5, none⟩, [26, 30]), (⟨some 32, (Op.move (Operand.tmp 2)), 24, none⟩, [2]), (⟨some 33, (Op.move (Operand.tmp 9)), 3, none⟩, [9]), (⟨some 34, (Op.indexAddr 24 (Operand.tmp 32) (Operand.tmp 33)), 0, none⟩, [32, 33]), (⟨some 35, (Op.load 5 (Operand.tmp 34)), 5, none⟩, [34]), (⟨some 36, (Op.binOp BinOp.xor 5 (Operand.tmp 31) (Operand.tmp 35) 5), 5, none⟩, [31, 35]), (⟨some 37, (Op.buildSlice 24 1 #[(0, (Operand.tmp 36))]), 24, none⟩, [36]), (⟨some 38, (Op.call { callee := (Callee.builtin Builtin.append), args := #[(Operand.tmp 22), (Operand.tmp 37)], argTypes := #[24, 24] }), 24, none⟩, [22, 37]), (⟨some 8, (Op.assign (Operand.tmp 38)), 24, none⟩, [38])] 3 (Q .normal ds) σ w := mk_eq rfl
@[push_cast] theorem vr10_5 (Q : Post) (ds : List Deferred) (σ : Env) (w : World) : vc Try.prog (.region r10_5) Q ds σ w = vcOps Try.prog [⟨some 20, (Op.move (Operand.tmp 9)), 3, none⟩, ⟨some 21, (Op.binOp BinOp.add 3 (Operand.tmp 20) (Operand.const (Value.int IntKind.i64 1)) 3), 3, none⟩, ⟨some 9, (Op.assign (Operand.tmp 21)), 3, none⟩] (Q .normal ds) σ w := mk_eq rfl
@[push_cast] theorem vr10_7 (Q : Post) (ds : List Deferred) (σ : Env) (w : World) : vc Try.prog (.draw r10_7 5) Q ds σ w = drawn Try.prog [(⟨some 39, (Op.call { callee := (Callee.value (Operand.func 26)), args := #[], argTypes := #[] }), 4, none⟩, []), (⟨some 40, (Op.move (Operand.tmp 39)), 4, none⟩, [39]), (⟨some 41, (Op.move (Operand.tmp 8)), 24, some (40, true)⟩, [8, 40]), (⟨some 42, (Op.call { callee := (Callee.value (Operand.func 28)), args := #[(Operand.tmp 41)], argTypes := #[24] }), 43, some (40, true)⟩, [41, 40]), (⟨some 43, (Op.move (Operand.tmp 0)), 24, some (40, true)⟩, [0, 40]), (⟨some 44, (Op.move (Operand.tmp 7)), 3, some (40, true)⟩, [7, 40]), (⟨some 45, (Op.slice 24 (Operand.tmp 43) none (some (Operand.tmp 44)) none), 24, some (40, true)⟩, [43, 44, 40]), (⟨some 46, (Op.call { callee := (Callee.value (Operand.func 28)), args := #[(Operand.tmp 45)], argTypes := #[24] }), 43, some (40, true)⟩, [45, 40]), (⟨some 47, (Op.move (Operand.tmp 1)), 24, some (40, true)⟩, [1, 40]), (⟨some 48, (Op.move (Operand.tmp 7)), 3, some (40, true)⟩, [7, 40]), (⟨some 49, (Op.slice 24 (Operand.tmp 47) none (some (Operand.tmp 48)) none), 24, some (40, true)⟩, [47, 48, 40]), (⟨some 50, (Op.call { callee := (Callee.value (Operand.func 28)), args := #[(Operand.tmp 49)], argTypes := #[24] }), 43, some (40, true)⟩, [49, 40]), (⟨some 51, (Op.binOp BinOp.xor 43 (Operand.tmp 46) (Operand.tmp 50) 43), 43, some (40, true)⟩, [46, 50, 40]), (⟨some 52, (Op.move (Operand.tmp 2)), 24, some (40, true)⟩, [2, 40]), (⟨some 53, (Op.move (Operand.tmp 7)), 3, some (40, true)⟩, [7, 40]), (⟨some 54, (Op.slice 24 (Operand.tmp 52) none (some (Operand.tmp 53)) none), 24, some (40, true)⟩, [52, 53, 40]), (⟨some 55, (Op.call { callee := (Callee.value (Operand.func 28)), args := #[(Operand.tmp 54)], argTypes := #[24] }), 43, some (40, true)⟩, [54, 40]), (⟨some 56, (Op.binOp BinOp.xor 43 (Operand.tmp 51) (Operand.tmp 55) 43), 43, some (40, true)⟩, [51, 55, 40]), (⟨some 57, (Op.binOp BinOp.eql 43 (Operand.tmp 42) (Operand.tmp 56) 43), 4, some (40, true)⟩, [42, 56, 40]), (⟨some 58, (Op.pick (Operand.tmp 40) (Operand.tmp 57) (Operand.const (Value.bool false))), 4, none⟩, [40, 57]), (⟨some 6, (Op.assign (Operand.tmp 58)), 4, none⟩, [58])] 5 (Q .normal ds) σ w := mk_eq rfl
/-! 11 columbary/columbarylaw02.CheckTells (params #[24], results #[(ResultVar.tmp 2)], 100 slots) -/
def r11_0 : List VOp :=
  [⟨some 2, (Op.assign (Operand.const (Value.bool false))), 4, none⟩]
def r11_1 : List VOp :=
  [⟨some 17, (Op.move (Operand.tmp 0)), 24, none⟩,
   ⟨some 18, (Op.call { callee := (Callee.builtin Builtin.len), args := #[(Operand.tmp 17)], argTypes := #[24] }), 3, none⟩,
   ⟨some 19, (Op.binOp BinOp.gtr 3 (Operand.tmp 18) (Operand.const (Value.int IntKind.i64 400)) 3), 4, none⟩]
def r11_2 : List VOp :=
  [⟨some 20, (Op.call { callee := (Callee.value (Operand.func 26)), args := #[], argTypes := #[] }), 4, none⟩,
   ⟨some 2, (Op.assign (Operand.tmp 20)), 4, none⟩]
def r11_3 : List VOp :=
  [⟨some 22, (Op.move (Operand.tmp 0)), 24, none⟩,
   ⟨some 23, (Op.call { callee := (Callee.value (Operand.func 25)), args := #[(Operand.tmp 22)], argTypes := #[24] }), 26, none⟩,
   ⟨some 21, (Op.move (Operand.tmp 23)), 26, none⟩,
   ⟨some 24, (Op.extract (Operand.tmp 21) 0), 24, none⟩,
   ⟨some 25, (Op.extract (Operand.tmp 21) 1), 25, none⟩,
   ⟨some 3, (Op.assign (Operand.tmp 24)), 24, none⟩,
   ⟨some 4, (Op.assign (Operand.tmp 25)), 25, none⟩]
def r11_4 : List VOp :=
  [⟨some 27, (Op.move (Operand.tmp 0)), 24, none⟩,
   ⟨some 28, (Op.call { callee := (Callee.value (Operand.func 29)), args := #[(Operand.tmp 27)], argTypes := #[24] }), 26, none⟩,
   ⟨some 26, (Op.move (Operand.tmp 28)), 26, none⟩,
   ⟨some 29, (Op.extract (Operand.tmp 26) 0), 24, none⟩,
   ⟨some 30, (Op.extract (Operand.tmp 26) 1), 25, none⟩,
   ⟨some 5, (Op.assign (Operand.tmp 29)), 24, none⟩,
   ⟨some 6, (Op.assign (Operand.tmp 30)), 25, none⟩]
def r11_5 : List VOp :=
  [⟨some 32, (Op.move (Operand.tmp 0)), 24, none⟩,
   ⟨some 33, (Op.call { callee := (Callee.value (Operand.func 27)), args := #[(Operand.tmp 32)], argTypes := #[24] }), 45, none⟩,
   ⟨some 31, (Op.move (Operand.tmp 33)), 45, none⟩,
   ⟨some 34, (Op.extract (Operand.tmp 31) 0), 24, none⟩,
   ⟨some 35, (Op.extract (Operand.tmp 31) 1), 3, none⟩,
   ⟨some 36, (Op.extract (Operand.tmp 31) 2), 25, none⟩,
   ⟨some 7, (Op.assign (Operand.tmp 34)), 24, none⟩,
   ⟨some 8, (Op.assign (Operand.tmp 35)), 3, none⟩,
   ⟨some 9, (Op.assign (Operand.tmp 36)), 25, none⟩]
def r11_6 : List VOp :=
  [⟨some 38, (Op.move (Operand.tmp 0)), 24, none⟩,
   ⟨some 39, (Op.call { callee := (Callee.value (Operand.func 30)), args := #[(Operand.tmp 38)], argTypes := #[24] }), 45, none⟩,
   ⟨some 37, (Op.move (Operand.tmp 39)), 45, none⟩,
   ⟨some 40, (Op.extract (Operand.tmp 37) 0), 24, none⟩,
   ⟨some 41, (Op.extract (Operand.tmp 37) 1), 3, none⟩,
   ⟨some 42, (Op.extract (Operand.tmp 37) 2), 25, none⟩,
   ⟨some 10, (Op.assign (Operand.tmp 40)), 24, none⟩,
   ⟨some 11, (Op.assign (Operand.tmp 41)), 3, none⟩,
   ⟨some 12, (Op.assign (Operand.tmp 42)), 25, none⟩]
def r11_7 : List VOp :=
  [⟨some 44, (Op.move (Operand.tmp 0)), 24, none⟩,
   ⟨some 45, (Op.call { callee := (Callee.value (Operand.func 31)), args := #[(Operand.tmp 44)], argTypes := #[24] }), 52, none⟩,
   ⟨some 43, (Op.move (Operand.tmp 45)), 52, none⟩,
   ⟨some 46, (Op.extract (Operand.tmp 43) 0), 51, none⟩,
   ⟨some 47, (Op.extract (Operand.tmp 43) 1), 3, none⟩,
   ⟨some 13, (Op.assign (Operand.tmp 46)), 51, none⟩,
   ⟨some 14, (Op.assign (Operand.tmp 47)), 3, none⟩]
def r11_8 : List VOp :=
  [⟨some 49, (Op.move (Operand.tmp 0)), 24, none⟩,
   ⟨some 50, (Op.call { callee := (Callee.value (Operand.func 32)), args := #[(Operand.tmp 49)], argTypes := #[24] }), 52, none⟩,
   ⟨some 48, (Op.move (Operand.tmp 50)), 52, none⟩,
   ⟨some 51, (Op.extract (Operand.tmp 48) 0), 51, none⟩,
   ⟨some 52, (Op.extract (Operand.tmp 48) 1), 3, none⟩,
   ⟨some 15, (Op.assign (Operand.tmp 51)), 51, none⟩,
   ⟨some 16, (Op.assign (Operand.tmp 52)), 3, none⟩]
def r11_9 : List VOp :=
  [⟨some 53, (Op.call { callee := (Callee.value (Operand.func 26)), args := #[], argTypes := #[] }), 4, none⟩,
   ⟨some 54, (Op.move (Operand.tmp 53)), 4, none⟩,
   ⟨some 55, (Op.move (Operand.tmp 0)), 24, some (54, true)⟩,
   ⟨some 56, (Op.call { callee := (Callee.value (Operand.func 28)), args := #[(Operand.tmp 55)], argTypes := #[24] }), 43, some (54, true)⟩,
   ⟨some 57, (Op.move (Operand.tmp 0)), 24, some (54, true)⟩,
   ⟨some 58, (Op.call { callee := (Callee.value (Operand.func 33)), args := #[(Operand.tmp 57)], argTypes := #[24] }), 43, some (54, true)⟩,
   ⟨some 59, (Op.binOp BinOp.eql 43 (Operand.tmp 56) (Operand.tmp 58) 43), 4, some (54, true)⟩,
   ⟨some 60, (Op.pick (Operand.tmp 54) (Operand.tmp 59) (Operand.const (Value.bool false))), 4, none⟩,
   ⟨some 61, (Op.move (Operand.tmp 60)), 4, none⟩,
   ⟨some 62, (Op.move (Operand.tmp 3)), 24, some (61, true)⟩,
   ⟨some 63, (Op.convert 24 9 (Operand.tmp 62)), 9, some (61, true)⟩,
   ⟨some 64, (Op.move (Operand.tmp 5)), 24, some (61, true)⟩,
   ⟨some 65, (Op.convert 24 9 (Operand.tmp 64)), 9, some (61, true)⟩,
   ⟨some 66, (Op.binOp BinOp.eql 9 (Operand.tmp 63) (Operand.tmp 65) 9), 4, some (61, true)⟩,
   ⟨some 67, (Op.pick (Operand.tmp 61) (Operand.tmp 66) (Operand.const (Value.bool false))), 4, none⟩,
   ⟨some 68, (Op.move (Operand.tmp 67)), 4, none⟩,
   ⟨some 69, (Op.move (Operand.tmp 4)), 25, some (68, true)⟩,
   ⟨some 70, (Op.move (Operand.tmp 6)), 25, some (68, true)⟩,
   ⟨some 71, (Op.binOp BinOp.eql 25 (Operand.tmp 69) (Operand.tmp 70) 25), 4, some (68, true)⟩,
   ⟨some 72, (Op.pick (Operand.tmp 68) (Operand.tmp 71) (Operand.const (Value.bool false))), 4, none⟩,
   ⟨some 73, (Op.move (Operand.tmp 72)), 4, none⟩,
   ⟨some 74, (Op.move (Operand.tmp 7)), 24, some (73, true)⟩,
   ⟨some 75, (Op.convert 24 9 (Operand.tmp 74)), 9, some (73, true)⟩,
   ⟨some 76, (Op.move (Operand.tmp 10)), 24, some (73, true)⟩,
   ⟨some 77, (Op.convert 24 9 (Operand.tmp 76)), 9, some (73, true)⟩,
   ⟨some 78, (Op.binOp BinOp.eql 9 (Operand.tmp 75) (Operand.tmp 77) 9), 4, some (73, true)⟩,
   ⟨some 79, (Op.pick (Operand.tmp 73) (Operand.tmp 78) (Operand.const (Value.bool false))), 4, none⟩,
   ⟨some 80, (Op.move (Operand.tmp 79)), 4, none⟩,
   ⟨some 81, (Op.move (Operand.tmp 8)), 3, some (80, true)⟩,
   ⟨some 82, (Op.move (Operand.tmp 11)), 3, some (80, true)⟩,
   ⟨some 83, (Op.binOp BinOp.eql 3 (Operand.tmp 81) (Operand.tmp 82) 3), 4, some (80, true)⟩,
   ⟨some 84, (Op.pick (Operand.tmp 80) (Operand.tmp 83) (Operand.const (Value.bool false))), 4, none⟩,
   ⟨some 85, (Op.move (Operand.tmp 84)), 4, none⟩,
   ⟨some 86, (Op.move (Operand.tmp 9)), 25, some (85, true)⟩,
   ⟨some 87, (Op.move (Operand.tmp 12)), 25, some (85, true)⟩,
   ⟨some 88, (Op.binOp BinOp.eql 25 (Operand.tmp 86) (Operand.tmp 87) 25), 4, some (85, true)⟩,
   ⟨some 89, (Op.pick (Operand.tmp 85) (Operand.tmp 88) (Operand.const (Value.bool false))), 4, none⟩,
   ⟨some 90, (Op.move (Operand.tmp 89)), 4, none⟩,
   ⟨some 91, (Op.move (Operand.tmp 14)), 3, some (90, true)⟩,
   ⟨some 92, (Op.move (Operand.tmp 16)), 3, some (90, true)⟩,
   ⟨some 93, (Op.binOp BinOp.eql 3 (Operand.tmp 91) (Operand.tmp 92) 3), 4, some (90, true)⟩,
   ⟨some 94, (Op.pick (Operand.tmp 90) (Operand.tmp 93) (Operand.const (Value.bool false))), 4, none⟩,
   ⟨some 95, (Op.move (Operand.tmp 94)), 4, none⟩,
   ⟨some 96, (Op.move (Operand.tmp 13)), 51, some (95, true)⟩,
   ⟨some 97, (Op.move (Operand.tmp 15)), 51, some (95, true)⟩,
   ⟨some 98, (Op.call { callee := (Callee.value (Operand.func 34)), args := #[(Operand.tmp 96), (Operand.tmp 97)], argTypes := #[51, 51] }), 4, some (95, true)⟩,
   ⟨some 99, (Op.pick (Operand.tmp 95) (Operand.tmp 98) (Operand.const (Value.bool false))), 4, none⟩,
   ⟨some 2, (Op.assign (Operand.tmp 99)), 4, none⟩]
def B11 : VC :=
  (.seq (.region r11_0) (.seq (.seq (.region r11_1) (.cond (Operand.tmp 19) (.seq (.region r11_2) .ret) .skip)) (.seq (.region r11_3) (.seq (.region r11_4) (.seq (.region r11_5) (.seq (.region r11_6) (.seq (.region r11_7) (.seq (.region r11_8) (.seq (.region r11_9) .ret)))))))))
theorem code11 : ∃ c, Try.f11.body = some c ∧ abs Try.f11.ntmps c = B11 := ⟨_, rfl, by kernel_rfl⟩
theorem hb11 : HasBody Try.prog 11 := hasBody_of Try.func11 (by kernel_rfl)
theorem res11 : Try.f11.results = #[(ResultVar.tmp 2)] := rfl
theorem enter11 {w : World} {R : Value → World → Prop} (x0 : Value) (h : vc Try.prog B11 (retK Try.prog #[(ResultVar.tmp 2)] R) [] (initEnv [x0] 0) w) : FnC Try.prog 11 #[x0] w R := by
  obtain ⟨c, h1, h2⟩ := code11
  exact hb11.fn (ret_of_vc mixed Try.func11 h1 (Nat.le_of_ble_eq_true rfl) B11 h2 h)
@[push_cast] theorem vr11_0 (Q : Post) (ds : List Deferred) (σ : Env) (w : World) : vc Try.prog (.region r11_0) Q ds σ w = vcOps Try.prog [⟨some 2, (Op.assign (Operand.const (Value.bool false))), 4, none⟩] (Q .normal ds) σ w := mk_eq rfl
@[push_cast] theorem vr11_1 (Q : Post) (ds : List Deferred) (σ : Env) (w : World) : vc Try.prog (.region r11_1) Q ds σ w = vcOps Try.prog [⟨some 17, (Op.move (Operand.tmp 0)), 24, none⟩, ⟨some 18, (Op.call { callee := (Callee.builtin Builtin.len), args := #[(Operand.tmp 17)], argTypes := #[24] }), 3, none⟩, ⟨some 19, (Op.binOp BinOp.gtr 3 (Operand.tmp 18) (Operand.const (Value.int IntKind.i64 400)) 3), 4, none⟩] (Q .normal ds) σ w := mk_eq rfl
@[push_cast] theorem vr11_2 (Q : Post) (ds : List Deferred) (σ : Env) (w : World) : vc Try.prog (.region r11_2) Q ds σ w = vcOps Try.prog [⟨some 20, (Op.call { callee := (Callee.value (Operand.func 26)), args := #[], argTypes := #[] }), 4, none⟩, ⟨some 2, (Op.assign (Operand.tmp 20)), 4, none⟩] (Q .normal ds) σ w := mk_eq rfl
@[push_cast] theorem vr11_3 (Q : Post) (ds : List Deferred) (σ : Env) (w : World) : vc Try.prog (.region r11_3) Q ds σ w = vcOps Try.prog [⟨some 22, (Op.move (Operand.tmp 0)), 24, none⟩, ⟨some 23, (Op.call { callee := (Callee.value (Operand.func 25)), args := #[(Operand.tmp 22)], argTypes := #[24] }), 26, none⟩, ⟨some 21, (Op.move (Operand.tmp 23)), 26, none⟩, ⟨some 24, (Op.extract (Operand.tmp 21) 0), 24, none⟩, ⟨some 25, (Op.extract (Operand.tmp 21) 1), 25, none⟩, ⟨some 3, (Op.assign (Operand.tmp 24)), 24, none⟩, ⟨some 4, (Op.assign (Operand.tmp 25)), 25, none⟩] (Q .normal ds) σ w := mk_eq rfl
@[push_cast] theorem vr11_4 (Q : Post) (ds : List Deferred) (σ : Env) (w : World) : vc Try.prog (.region r11_4) Q ds σ w = vcOps Try.prog [⟨some 27, (Op.move (Operand.tmp 0)), 24, none⟩, ⟨some 28, (Op.call { callee := (Callee.value (Operand.func 29)), args := #[(Operand.tmp 27)], argTypes := #[24] }), 26, none⟩, ⟨some 26, (Op.move (Operand.tmp 28)), 26, none⟩, ⟨some 29, (Op.extract (Operand.tmp 26) 0), 24, none⟩, ⟨some 30, (Op.extract (Operand.tmp 26) 1), 25, none⟩, ⟨some 5, (Op.assign (Operand.tmp 29)), 24, none⟩, ⟨some 6, (Op.assign (Operand.tmp 30)), 25, none⟩] (Q .normal ds) σ w := mk_eq rfl
@[push_cast] theorem vr11_5 (Q : Post) (ds : List Deferred) (σ : Env) (w : World) : vc Try.prog (.region r11_5) Q ds σ w = vcOps Try.prog [⟨some 32, (Op.move (Operand.tmp 0)), 24, none⟩, ⟨some 33, (Op.call { callee := (Callee.value (Operand.func 27)), args := #[(Operand.tmp 32)], argTypes := #[24] }), 45, none⟩, ⟨some 31, (Op.move (Operand.tmp 33)), 45, none⟩, ⟨some 34, (Op.extract (Operand.tmp 31) 0), 24, none⟩, ⟨some 35, (Op.extract (Operand.tmp 31) 1), 3, none⟩, ⟨some 36, (Op.extract (Operand.tmp 31) 2), 25, none⟩, ⟨some 7, (Op.assign (Operand.tmp 34)), 24, none⟩, ⟨some 8, (Op.assign (Operand.tmp 35)), 3, none⟩, ⟨some 9, (Op.assign (Operand.tmp 36)), 25, none⟩] (Q .normal ds) σ w := mk_eq rfl
@[push_cast] theorem vr11_6 (Q : Post) (ds : List Deferred) (σ : Env) (w : World) : vc Try.prog (.region r11_6) Q ds σ w = vcOps Try.prog [⟨some 38, (Op.move (Operand.tmp 0)), 24, none⟩, ⟨some 39, (Op.call { callee := (Callee.value (Operand.func 30)), args := #[(Operand.tmp 38)], argTypes := #[24] }), 45, none⟩, ⟨some 37, (Op.move (Operand.tmp 39)), 45, none⟩, ⟨some 40, (Op.extract (Operand.tmp 37) 0), 24, none⟩, ⟨some 41, (Op.extract (Operand.tmp 37) 1), 3, none⟩, ⟨some 42, (Op.extract (Operand.tmp 37) 2), 25, none⟩, ⟨some 10, (Op.assign (Operand.tmp 40)), 24, none⟩, ⟨some 11, (Op.assign (Operand.tmp 41)), 3, none⟩, ⟨some 12, (Op.assign (Operand.tmp 42)), 25, none⟩] (Q .normal ds) σ w := mk_eq rfl
@[push_cast] theorem vr11_7 (Q : Post) (ds : List Deferred) (σ : Env) (w : World) : vc Try.prog (.region r11_7) Q ds σ w = vcOps Try.prog [⟨some 44, (Op.move (Operand.tmp 0)), 24, none⟩, ⟨some 45, (Op.call { callee := (Callee.value (Operand.func 31)), args := #[(Operand.tmp 44)], argTypes := #[24] }), 52, none⟩, ⟨some 43, (Op.move (Operand.tmp 45)), 52, none⟩, ⟨some 46, (Op.extract (Operand.tmp 43) 0), 51, none⟩, ⟨some 47, (Op.extract (Operand.tmp 43) 1), 3, none⟩, ⟨some 13, (Op.assign (Operand.tmp 46)), 51, none⟩, ⟨some 14, (Op.assign (Operand.tmp 47)), 3, none⟩] (Q .normal ds) σ w := mk_eq rfl
@[push_cast] theorem vr11_8 (Q : Post) (ds : List Deferred) (σ : Env) (w : World) : vc Try.prog (.region r11_8) Q ds σ w = vcOps Try.prog [⟨some 49, (Op.move (Operand.tmp 0)), 24, none⟩, ⟨some 50, (Op.call { callee := (Callee.value (Operand.func 32)), args := #[(Operand.tmp 49)], argTypes := #[24] }), 52, none⟩, ⟨some 48, (Op.move (Operand.tmp 50)), 52, none⟩, ⟨some 51, (Op.extract (Operand.tmp 48) 0), 51, none⟩, ⟨some 52, (Op.extract (Operand.tmp 48) 1), 3, none⟩, ⟨some 15, (Op.assign (Operand.tmp 51)), 51, none⟩, ⟨some 16, (Op.assign (Operand.tmp 52)), 3, none⟩] (Q .normal ds) σ w := mk_eq rfl
@[push_cast] theorem vr11_9 (Q : Post) (ds : List Deferred) (σ : Env) (w : World) : vc Try.prog (.region r11_9) Q ds σ w = vcOps Try.prog [⟨some 53, (Op.call { callee := (Callee.value (Operand.func 26)), args := #[], argTypes := #[] }), 4, none⟩, ⟨some 54, (Op.move (Operand.tmp 53)), 4, none⟩, ⟨some 55, (Op.move (Operand.tmp 0)), 24, some (54, true)⟩, ⟨some 56, (Op.call { callee := (Callee.value (Operand.func 28)), args := #[(Operand.tmp 55)], argTypes := #[24] }), 43, some (54, true)⟩, ⟨some 57, (Op.move (Operand.tmp 0)), 24, some (54, true)⟩, ⟨some 58, (Op.call { callee := (Callee.value (Operand.func 33)), args := #[(Operand.tmp 57)], argTypes := #[24] }), 43, some (54, true)⟩, ⟨some 59, (Op.binOp BinOp.eql 43 (Operand.tmp 56) (Operand.tmp 58) 43), 4, some (54, true)⟩, ⟨some 60, (Op.pick (Operand.tmp 54) (Operand.tmp 59) (Operand.const (Value.bool false))), 4, none⟩, ⟨some 61, (Op.move (Operand.tmp 60)), 4, none⟩, ⟨some 62, (Op.move (Operand.tmp 3)), 24, some (61, true)⟩, ⟨some 63, (Op.convert 24 9 (Operand.tmp 62)), 9, some (61, true)⟩, ⟨some 64, (Op.move (Operand.tmp 5)), 24, some (61, true)⟩, ⟨some 65, (Op.convert 24 9 (Operand.tmp 64)), 9, some (61, true)⟩, ⟨some 66, (Op.binOp BinOp.eql 9 (Operand.tmp 63) (Operand.tmp 65) 9), 4, some (61, true)⟩, ⟨some 67, (Op.pick (Operand.tmp 61) (Operand.tmp 66) (Operand.const (Value.bool false))), 4, none⟩, ⟨some 68, (Op.move (Operand.tmp 67)), 4, none⟩, ⟨some 69, (Op.move (Operand.tmp 4)), 25, some (68, true)⟩, ⟨some 70, (Op.move (Operand.tmp 6)), 25, some (68, true)⟩, ⟨some 71, (Op.binOp BinOp.eql 25 (Operand.tmp 69) (Operand.tmp 70) 25), 4, some (68, true)⟩, ⟨some 72, (Op.pick (Operand.tmp 68) (Operand.tmp 71) (Operand.const (Value.bool false))), 4, none⟩, ⟨some 73, (Op.move (Operand.tmp 72)), 4, none⟩, ⟨some 74, (Op.move (Operand.tmp 7)), 24, some (73, true)⟩, ⟨some 75, (Op.convert 24 9 (Operand.tmp 74)), 9, some (73, true)⟩, ⟨some 76, (Op.move (Operand.tmp 10)), 24, some (73, true)⟩, ⟨some 77, (Op.convert 24 9 (Operand.tmp 76)), 9, some (73, true)⟩, ⟨some 78, (Op.binOp BinOp.eql 9 (Operand.tmp 75) (Operand.tmp 77) 9), 4, some (73, true)⟩, ⟨some 79, (Op.pick (Operand.tmp 73) (Operand.tmp 78) (Operand.const (Value.bool false))), 4, none⟩, ⟨some 80, (Op.move (Operand.tmp 79)), 4, none⟩, ⟨some 81, (Op.move (Operand.tmp 8)), 3, some (80, true)⟩, ⟨some 82, (Op.move (Operand.tmp 11)), 3, some (80, true)⟩, ⟨some 83, (Op.binOp BinOp.eql 3 (Operand.tmp 81) (Operand.tmp 82) 3), 4, some (80, true)⟩, ⟨some 84, (Op.pick (Operand.tmp 80) (Operand.tmp 83) (Operand.const (Value.bool false))), 4, none⟩, ⟨some 85, (Op.move (Operand.tmp 84)), 4, none⟩, ⟨some 86, (Op.move (Operand.tmp 9)), 25, some (85, true)⟩, ⟨some 87, (Op.move (Operand.tmp 12)), 25, some (85, true)⟩, ⟨some 88, (Op.binOp BinOp.eql 25 (Operand.tmp 86) (Operand.tmp 87) 25), 4, some (85, true)⟩, ⟨some 89, (Op.pick (Operand.tmp 85) (Operand.tmp 88) (Operand.const (Value.bool false))), 4, none⟩, ⟨some 90, (Op.move (Operand.tmp 89)), 4, none⟩, ⟨some 91, (Op.move (Operand.tmp 14)), 3, some (90, true)⟩, ⟨some 92, (Op.move (Operand.tmp 16)), 3, some (90, true)⟩, ⟨some 93, (Op.binOp BinOp.eql 3 (Operand.tmp 91) (Operand.tmp 92) 3), 4, some (90, true)⟩, ⟨some 94, (Op.pick (Operand.tmp 90) (Operand.tmp 93) (Operand.const (Value.bool false))), 4, none⟩, ⟨some 95, (Op.move (Operand.tmp 94)), 4, none⟩, ⟨some 96, (Op.move (Operand.tmp 13)), 51, some (95, true)⟩, ⟨some 97, (Op.move (Operand.tmp 15)), 51, some (95, true)⟩, ⟨some 98, (Op.call { callee := (Callee.value (Operand.func 34)), args := #[(Operand.tmp 96), (Operand.tmp 97)], argTypes := #[51, 51] }), 4, some (95, true)⟩, ⟨some 99, (Op.pick (Operand.tmp 95) (Operand.tmp 98) (Operand.const (Value.bool false))), 4, none⟩, ⟨some 2, (Op.assign (Operand.tmp 99)), 4, none⟩] (Q .normal ds) σ w := mk_eq rfl
/-! 12 columbary/columbarylaw02.CheckBack (params #[51, 24], results #[(ResultVar.tmp 4)], 128 slots) -/
def W12_0 : List Nat := [4, 5, 6, 7, 8, 9, 10, 11, 12, 17, 18, 19, 20, 21, 22, 23, 24, 25, 26, 27, 28, 29, 30, 31, 32, 33, 34, 35, 36, 37, 38, 39, 40, 41, 42, 43, 44, 45, 46, 47, 48, 49, 50, 51, 52, 53, 54, 55, 56, 57, 58, 59, 60, 61, 62, 63, 64, 65, 66, 67, 68, 69, 70, 71, 72, 73, 74, 75, 76, 77, 78]
@[push_cast] theorem W12_0_def : W12_0 = [4, 5, 6, 7, 8, 9, 10, 11, 12, 17, 18, 19, 20, 21, 22, 23, 24, 25, 26, 27, 28, 29, 30, 31, 32, 33, 34, 35, 36, 37, 38, 39, 40, 41, 42, 43, 44, 45, 46, 47, 48, 49, 50, 51, 52, 53, 54, 55, 56, 57, 58, 59, 60, 61, 62, 63, 64, 65, 66, 67, 68, 69, 70, 71, 72, 73, 74, 75, 76, 77, 78] := mk_eq rfl
def r12_0 : List VOp :=
  [⟨some 4, (Op.assign (Operand.const (Value.bool false))), 4, none⟩]
def r12_1 : List VOp :=
  [⟨some 5, (Op.assign (Operand.const (Value.slice none 0 0))), 24, none⟩]
def r12_2 : List VOp :=
  [⟨some 6, (Op.assign (Operand.const (Value.slice none 0 0))), 51, none⟩]
def r12_3 : List VOp :=
  [⟨some 7, (Op.assign (Operand.const (Value.int IntKind.i64 0))), 3, none⟩]
def r12_4 : List VOp :=
  [⟨some 17, (Op.move (Operand.tmp 7)), 3, none⟩,
   ⟨some 18, (Op.move (Operand.tmp 0)), 51, none⟩,
   ⟨some 19, (Op.call { callee := (Callee.builtin Builtin.len), args := #[(Operand.tmp 18)], argTypes := #[51] }), 3, none⟩,
   ⟨some 20, (Op.binOp BinOp.lss 3 (Operand.tmp 17) (Operand.tmp 19) 3), 4, none⟩,
   ⟨some 21, (Op.move (Operand.tmp 20)), 4, none⟩,
   ⟨some 22, (Op.move (Operand.tmp 7)), 3, some (21, true)⟩,
   ⟨some 23, (Op.binOp BinOp.lss 3 (Operand.tmp 22) (Operand.const (Value.int IntKind.i64 20)) 3), 4, some (21, true)⟩,
   ⟨some 24, (Op.pick (Operand.tmp 21) (Operand.tmp 23) (Operand.const (Value.bool false))), 4, none⟩]
def r12_6 : List VOp :=
  [⟨some 27, (Op.move (Operand.tmp 0)), 51, none⟩,
   ⟨some 28, (Op.move (Operand.tmp 7)), 3, none⟩,
   ⟨some 29, (Op.indexAddr 51 (Operand.tmp 27) (Operand.tmp 28)), 0, none⟩,
   ⟨some 30, (Op.load 24 (Operand.tmp 29)), 24, none⟩,
   ⟨some 31, (Op.call { callee := (Callee.builtin Builtin.len), args := #[(Operand.tmp 30)], argTypes := #[24] }), 3, none⟩,
   ⟨some 32, (Op.binOp BinOp.gtr 3 (Operand.tmp 31) (Operand.const (Value.int IntKind.i64 400)) 3), 4, none⟩]
def r12_7 : List VOp :=
  [⟨some 34, (Op.move (Operand.tmp 0)), 51, none⟩,
   ⟨some 35, (Op.move (Operand.tmp 7)), 3, none⟩,
   ⟨some 36, (Op.indexAddr 51 (Operand.tmp 34) (Operand.tmp 35)), 0, none⟩,
   ⟨some 37, (Op.load 24 (Operand.tmp 36)), 24, none⟩,
   ⟨some 38, (Op.call { callee := (Callee.value (Operand.func 25)), args := #[(Operand.tmp 37)], argTypes := #[24] }), 26, none⟩,
   ⟨some 33, (Op.move (Operand.tmp 38)), 26, none⟩,
   ⟨some 39, (Op.extract (Operand.tmp 33) 0), 24, none⟩,
   ⟨some 40, (Op.extract (Operand.tmp 33) 1), 25, none⟩,
   ⟨some 8, (Op.assign (Operand.tmp 39)), 24, none⟩,
   ⟨some 9, (Op.assign (Operand.tmp 40)), 25, none⟩]
def r12_8 : List VOp :=
  [⟨some 42, (Op.move (Operand.tmp 8)), 24, none⟩,
   ⟨some 43, (Op.call { callee := (Callee.value (Operand.func 27)), args := #[(Operand.tmp 42)], argTypes := #[24] }), 45, none⟩,
   ⟨some 41, (Op.move (Operand.tmp 43)), 45, none⟩,
   ⟨some 44, (Op.extract (Operand.tmp 41) 0), 24, none⟩,
   ⟨some 45, (Op.extract (Operand.tmp 41) 1), 3, none⟩,
   ⟨some 46, (Op.extract (Operand.tmp 41) 2), 25, none⟩,
   ⟨some 10, (Op.assign (Operand.tmp 44)), 24, none⟩,
   ⟨some 11, (Op.assign (Operand.tmp 45)), 3, none⟩,
   ⟨some 12, (Op.assign (Operand.tmp 46)), 25, none⟩]
def r12_9 : List VOp :=
  [⟨some 47, (Op.move (Operand.tmp 9)), 25, none⟩,
   ⟨some 48, (Op.binOp BinOp.neq 25 (Operand.tmp 47) (Operand.const (Value.int IntKind.i64 0)) 25), 4, none⟩,
   ⟨some 49, (Op.move (Operand.tmp 48)), 4, none⟩,
   ⟨some 50, (Op.move (Operand.tmp 12)), 25, some (49, false)⟩,
   ⟨some 51, (Op.binOp BinOp.neq 25 (Operand.tmp 50) (Operand.const (Value.int IntKind.i64 0)) 25), 4, some (49, false)⟩,
   ⟨some 52, (Op.pick (Operand.tmp 49) (Operand.const (Value.bool true)) (Operand.tmp 51)), 4, none⟩,
   ⟨some 53, (Op.move (Operand.tmp 52)), 4, none⟩,
   ⟨some 54, (Op.move (Operand.tmp 11)), 3, some (53, false)⟩,
   ⟨some 55, (Op.move (Operand.tmp 8)), 24, some (53, false)⟩,
   ⟨some 56, (Op.call { callee := (Callee.builtin Builtin.len), args := #[(Operand.tmp 55)], argTypes := #[24] }), 3, some (53, false)⟩,
   ⟨some 57, (Op.binOp BinOp.neq 3 (Operand.tmp 54) (Operand.tmp 56) 3), 4, some (53, false)⟩,
   ⟨some 58, (Op.pick (Operand.tmp 53) (Operand.const (Value.bool true)) (Operand.tmp 57)), 4, none⟩,
   ⟨some 59, (Op.move (Operand.tmp 58)), 4, none⟩,
   ⟨some 60, (Op.move (Operand.tmp 10)), 24, some (59, false)⟩,
   ⟨some 61, (Op.convert 24 9 (Operand.tmp 60)), 9, some (59, false)⟩,
   ⟨some 62, (Op.move (Operand.tmp 0)), 51, some (59, false)⟩,
   ⟨some 63, (Op.move (Operand.tmp 7)), 3, some (59, false)⟩,
   ⟨some 64, (Op.indexAddr 51 (Operand.tmp 62) (Operand.tmp 63)), 0, some (59, false)⟩,
   ⟨some 65, (Op.load 24 (Operand.tmp 64)), 24, some (59, false)⟩,
   ⟨some 66, (Op.convert 24 9 (Operand.tmp 65)), 9, some (59, false)⟩,
   ⟨some 67, (Op.binOp BinOp.neq 9 (Operand.tmp 61) (Operand.tmp 66) 9), 4, some (59, false)⟩,
   ⟨some 68, (Op.pick (Operand.tmp 59) (Operand.const (Value.bool true)) (Operand.tmp 67)), 4, none⟩]
def r12_10 : List VOp :=
  [⟨some 4, (Op.assign (Operand.const (Value.bool false))), 4, none⟩]
def r12_11 : List VOp :=
  [⟨some 69, (Op.move (Operand.tmp 5)), 24, none⟩,
   ⟨some 70, (Op.move (Operand.tmp 8)), 24, none⟩,
   ⟨some 71, (Op.call { callee := (Callee.builtin Builtin.append), args := #[(Operand.tmp 69), (Operand.tmp 70)], argTypes := #[24, 24] }), 24, none⟩,
   ⟨some 5, (Op.assign (Operand.tmp 71)), 24, none⟩]
def r12_12 : List VOp :=
  [⟨some 72, (Op.move (Operand.tmp 6)), 51, none⟩,
   ⟨some 73, (Op.move (Operand.tmp 0)), 51, none⟩,
   ⟨some 74, (Op.move (Operand.tmp 7)), 3, none⟩,
   ⟨some 75, (Op.indexAddr 51 (Operand.tmp 73) (Operand.tmp 74)), 0, none⟩,
   ⟨some 76, (Op.load 24 (Operand.tmp 75)), 24, none⟩,
   ⟨some 77, (Op.buildSlice 51 1 #[(0, (Operand.tmp 76))]), 51, none⟩,
   ⟨some 78, (Op.call { callee := (Callee.builtin Builtin.append), args := #[(Operand.tmp 72), (Operand.tmp 77)], argTypes := #[51, 51] }), 51, none⟩,
   ⟨some 6, (Op.assign (Operand.tmp 78)), 51, none⟩]
def r12_5 : List VOp :=
  [⟨some 25, (Op.move (Operand.tmp 7)), 3, none⟩,
   ⟨some 26, (Op.binOp BinOp.add 3 (Operand.tmp 25) (Operand.const (Value.int IntKind.i64 1)) 3), 3, none⟩,
   ⟨some 7, (Op.assign (Operand.tmp 26)), 3, none⟩]
def r12_13 : List VOp :=
  [⟨some 80, (Op.move (Operand.tmp 5)), 24, none⟩,
   ⟨some 81, (Op.call { callee := (Callee.value (Operand.func 31)), args := #[(Operand.tmp 80)], argTypes := #[24] }), 52, none⟩,
   ⟨some 79, (Op.move (Operand.tmp 81)), 52, none⟩,
   ⟨some 82, (Op.extract (Operand.tmp 79) 0), 51, none⟩,
   ⟨some 83, (Op.extract (Operand.tmp 79) 1), 3, none⟩,
   ⟨some 13, (Op.assign (Operand.tmp 82)), 51, none⟩,
   ⟨some 14, (Op.assign (Operand.tmp 83)), 3, none⟩]
def r12_14 : List VOp :=
  [⟨some 84, (Op.move (Operand.tmp 13)), 51, none⟩,
   ⟨some 85, (Op.move (Operand.tmp 6)), 51, none⟩,
   ⟨some 86, (Op.call { callee := (Callee.value (Operand.func 34)), args := #[(Operand.tmp 84), (Operand.tmp 85)], argTypes := #[51, 51] }), 4, none⟩,
   ⟨some 87, (Op.unOp UnOp.not 4 (Operand.tmp 86)), 4, none⟩,
   ⟨some 88, (Op.move (Operand.tmp 87)), 4, none⟩,
   ⟨some 89, (Op.move (Operand.tmp 14)), 3, some (88, false)⟩,
   ⟨some 90, (Op.move (Operand.tmp 5)), 24, some (88, false)⟩,
   ⟨some 91, (Op.call { callee := (Callee.builtin Builtin.len), args := #[(Operand.tmp 90)], argTypes := #[24] }), 3, some (88, false)⟩,
   ⟨some 92, (Op.binOp BinOp.neq 3 (Operand.tmp 89) (Operand.tmp 91) 3), 4, some (88, false)⟩,
   ⟨some 93, (Op.pick (Operand.tmp 88) (Operand.const (Value.bool true)) (Operand.tmp 92)), 4, none⟩]
def r12_15 : List VOp :=
  [⟨some 4, (Op.assign (Operand.const (Value.bool false))), 4, none⟩]
def r12_16 : List VOp :=
  [⟨some 94, (Op.move (Operand.tmp 1)), 24, none⟩,
   ⟨some 95, (Op.call { callee := (Callee.builtin Builtin.len), args := #[(Operand.tmp 94)], argTypes := #[24] }), 3, none⟩,
   ⟨some 96, (Op.binOp BinOp.gtr 3 (Operand.tmp 95) (Operand.const (Value.int IntKind.i64 400)) 3), 4, none⟩]
def r12_17 : List VOp :=
  [⟨some 97, (Op.call { callee := (Callee.value (Operand.func 26)), args := #[], argTypes := #[] }), 4, none⟩,
   ⟨some 4, (Op.assign (Operand.tmp 97)), 4, none⟩]
def r12_18 : List VOp :=
  [⟨some 99, (Op.buildSlice 24 0 #[]), 24, none⟩,
   ⟨some 100, (Op.move (Operand.tmp 5)), 24, none⟩,
   ⟨some 101, (Op.call { callee := (Callee.builtin Builtin.append), args := #[(Operand.tmp 99), (Operand.tmp 100)], argTypes := #[24, 24] }), 24, none⟩,
   ⟨some 102, (Op.move (Operand.tmp 1)), 24, none⟩,
   ⟨some 103, (Op.call { callee := (Callee.builtin Builtin.append), args := #[(Operand.tmp 101), (Operand.tmp 102)], argTypes := #[24, 24] }), 24, none⟩,
   ⟨some 104, (Op.call { callee := (Callee.value (Operand.func 31)), args := #[(Operand.tmp 103)], argTypes := #[24] }), 52, none⟩,
   ⟨some 98, (Op.move (Operand.tmp 104)), 52, none⟩,
   ⟨some 105, (Op.extract (Operand.tmp 98) 0), 51, none⟩,
   ⟨some 106, (Op.extract (Operand.tmp 98) 1), 3, none⟩,
   ⟨some 15, (Op.assign (Operand.tmp 105)), 51, none⟩,
   ⟨some 16, (Op.assign (Operand.tmp 106)), 3, none⟩]
def r12_19 : List VOp :=
  [⟨some 107, (Op.call { callee := (Callee.value (Operand.func 26)), args := #[], argTypes := #[] }), 4, none⟩,
   ⟨some 108, (Op.move (Operand.tmp 107)), 4, none⟩,
   ⟨some 109, (Op.move (Operand.tmp 15)), 51, some (108, true)⟩,
   ⟨some 110, (Op.call { callee := (Callee.builtin Builtin.len), args := #[(Operand.tmp 109)], argTypes := #[51] }), 3, some (108, true)⟩,
   ⟨some 111, (Op.move (Operand.tmp 6)), 51, some (108, true)⟩,
   ⟨some 112, (Op.call { callee := (Callee.builtin Builtin.len), args := #[(Operand.tmp 111)], argTypes := #[51] }), 3, some (108, true)⟩,
   ⟨some 113, (Op.binOp BinOp.geq 3 (Operand.tmp 110) (Operand.tmp 112) 3), 4, some (108, true)⟩,
   ⟨some 114, (Op.pick (Operand.tmp 108) (Operand.tmp 113) (Operand.const (Value.bool false))), 4, none⟩,
   ⟨some 115, (Op.move (Operand.tmp 114)), 4, none⟩,
   ⟨some 116, (Op.move (Operand.tmp 16)), 3, some (115, true)⟩,
   ⟨some 117, (Op.move (Operand.tmp 14)), 3, some (115, true)⟩,
   ⟨some 118, (Op.binOp BinOp.geq 3 (Operand.tmp 116) (Operand.tmp 117) 3), 4, some (115, true)⟩,
   ⟨some 119, (Op.pick (Operand.tmp 115) (Operand.tmp 118) (Operand.const (Value.bool false))), 4, none⟩,
   ⟨some 120, (Op.move (Operand.tmp 119)), 4, none⟩,
   ⟨some 121, (Op.move (Operand.tmp 15)), 51, some (120, true)⟩,
   ⟨some 122, (Op.move (Operand.tmp 6)), 51, some (120, true)⟩,
   ⟨some 123, (Op.call { callee := (Callee.builtin Builtin.len), args := #[(Operand.tmp 122)], argTypes := #[51] }), 3, some (120, true)⟩,
   ⟨some 124, (Op.slice 51 (Operand.tmp 121) none (some (Operand.tmp 123)) none), 51, some (120, true)⟩,
   ⟨some 125, (Op.move (Operand.tmp 6)), 51, some (120, true)⟩,
   ⟨some 126, (Op.call { callee := (Callee.value (Operand.func 34)), args := #[(Operand.tmp 124), (Operand.tmp 125)], argTypes := #[51, 51] }), 4, some (120, true)⟩,
   ⟨some 127, (Op.pick (Operand.tmp 120) (Operand.tmp 126) (Operand.const (Value.bool false))), 4, none⟩,
   ⟨some 4, (Op.assign (Operand.tmp 127)), 4, none⟩]
def B12 : VC :=
  (.seq (.region r12_0) (.seq (.region r12_1) (.seq (.region r12_2) (.seq (.seq (.region r12_3) (.block 0 (.loop (.seq (.seq (.region r12_4) (.cond (Operand.tmp 24) .skip (.exit 0))) (.seq (.block 1 (.seq (.seq (.region r12_6) (.cond (Operand.tmp 32) (.exit 1) .skip)) (.seq (.region r12_7) (.seq (.region r12_8) (.seq (.seq (.draw r12_9 3) (.cond (Operand.tmp 68) (.seq (.region r12_10) .ret) .skip)) (.seq (.region r12_11) (.region r12_12))))))) (.region r12_5)))))) (.seq (.region r12_13) (.seq (.seq (.region r12_14) (.cond (Operand.tmp 93) (.seq (.region r12_15) .ret) .skip)) (.seq (.seq (.region r12_16) (.cond (Operand.tmp 96) (.seq (.region r12_17) .ret) .skip)) (.seq (.region r12_18) (.seq (.region r12_19) .ret)))))))))
theorem code12 : ∃ c, Try.f12.body = some c ∧ abs Try.f12.ntmps c = B12 := ⟨_, rfl, by kernel_rfl⟩
theorem hb12 : HasBody Try.prog 12 := hasBody_of Try.func12 (by kernel_rfl)
theorem res12 : Try.f12.results = #[(ResultVar.tmp 4)] := rfl
theorem enter12 {w : World} {R : Value → World → Prop} (x0 x1 : Value) (h : vc Try.prog B12 (retK Try.prog #[(ResultVar.tmp 4)] R) [] (initEnv [x0, x1] 0) w) : FnC Try.prog 12 #[x0, x1] w R := by
  obtain ⟨c, h1, h2⟩ := code12
  exact hb12.fn (ret_of_vc mixed Try.func12 h1 (Nat.le_of_ble_eq_true rfl) B12 h2 h)
@[push_cast] theorem vr12_0 (Q : Post) (ds : List Deferred) (σ : Env) (w : World) : vc Try.prog (.region r12_0) Q ds σ w = vcOps Try.prog [⟨some 4, (Op.assign (Operand.const (Value.bool false))), 4, none⟩] (Q .normal ds) σ w := mk_eq rfl
@[push_cast] theorem vr12_1 (Q : Post) (ds : List Deferred) (σ : Env) (w : World) : vc Try.prog (.region r12_1) Q ds σ w = vcOps Try.prog [⟨some 5, (Op.assign (Operand.const (Value.slice none 0 0))), 24, none⟩] (Q .normal ds) σ w := mk_eq rfl
@[push_cast] theorem vr12_2 (Q : Post) (ds : List Deferred) (σ : Env) (w : World) : vc Try.prog (.region r12_2) Q ds σ w = vcOps Try.prog [⟨some 6, (Op.assign (Operand.const (Value.slice none 0 0))), 51, none⟩] (Q .normal ds) σ w := mk_eq rfl
@[push_cast] theorem vr12_3 (Q : Post) (ds : List Deferred) (σ : Env) (w : World) : vc Try.prog (.region r12_3) Q ds σ w = vcOps Try.prog [⟨some 7, (Op.assign (Operand.const (Value.int IntKind.i64 0))), 3, none⟩] (Q .normal ds) σ w := mk_eq rfl
@[push_cast] theorem vr12_4 (Q : Post) (ds : List Deferred) (σ : Env) (w : World) : vc Try.prog (.region r12_4) Q ds σ w = vcOps Try.prog [⟨some 17, (Op.move (Operand.tmp 7)), 3, none⟩, ⟨some 18, (Op.move (Operand.tmp 0)), 51, none⟩, ⟨some 19, (Op.call { callee := (Callee.builtin Builtin.len), args := #[(Operand.tmp 18)], argTypes := #[51] }), 3, none⟩, ⟨some 20, (Op.binOp BinOp.lss 3 (Operand.tmp 17) (Operand.tmp 19) 3), 4, none⟩, ⟨some 21, (Op.move (Operand.tmp 20)), 4, none⟩, ⟨some 22, (Op.move (Operand.tmp 7)), 3, some (21, true)⟩, ⟨some 23, (Op.binOp BinOp.lss 3 (Operand.tmp 22) (Operand.const (Value.int IntKind.i64 20)) 3), 4, some (21, true)⟩, ⟨some 24, (Op.pick (Operand.tmp 21) (Operand.tmp 23) (Operand.const (Value.bool false))), 4, none⟩] (Q .normal ds) σ w := mk_eq rfl
@[push_cast] theorem vr12_6 (Q : Post) (ds : List Deferred) (σ : Env) (w : World) : vc Try.prog (.region r12_6) Q ds σ w = vcOps Try.prog [⟨some 27, (Op.move (Operand.tmp 0)), 51, none⟩, ⟨some 28, (Op.move (Operand.tmp 7)), 3, none⟩, ⟨some 29, (Op.indexAddr 51 (Operand.tmp 27) (Operand.tmp 28)), 0, none⟩, ⟨some 30, (Op.load 24 (Operand.tmp 29)), 24, none⟩, ⟨some 31, (Op.call { callee := (Callee.builtin Builtin.len), args := #[(Operand.tmp 30)], argTypes := #[24] }), 3, none⟩, ⟨some 32, (Op.binOp BinOp.gtr 3 (Operand.tmp 31) (Operand.const (Value.int IntKind.i64 400)) 3), 4, none⟩] (Q .normal ds) σ w := mk_eq rfl
@[push_cast] theorem vr12_7 (Q : Post) (ds : List Deferred) (σ : Env) (w : World) : vc Try.prog (.region r12_7) Q ds σ w = vcOps Try.prog [⟨some 34, (Op.move (Operand.tmp 0)), 51, none⟩, ⟨some 35, (Op.move (Operand.tmp 7)), 3, none⟩, ⟨some 36, (Op.indexAddr 51 (Operand.tmp 34) (Operand.tmp 35)), 0, none⟩, ⟨some 37, (Op.load 24 (Operand.tmp 36)), 24, none⟩, ⟨some 38, (Op.call { callee := (Callee.value (Operand.func 25)), args := #[(Operand.tmp 37)], argTypes := #[24] }), 26, none⟩, ⟨some 33, (Op.move (Operand.tmp 38)), 26, none⟩, ⟨some 39, (Op.extract (Operand.tmp 33) 0), 24, none⟩, ⟨some 40, (Op.extract (Operand.tmp 33) 1), 25, none⟩, ⟨some 8, (Op.assign (Operand.tmp 39)), 24, none⟩, ⟨some 9, (Op.assign (Operand.tmp 40)), 25, none⟩] (Q .normal ds) σ w := mk_eq rfl
@[push_cast] theorem vr12_8 (Q : Post) (ds : List Deferred) (σ : Env) (w : World) : vc Try.prog (.region r12_8) Q ds σ w = vcOps Try.prog [⟨some 42, (Op.move (Operand.tmp 8)), 24, none⟩, ⟨some 43, (Op.call { callee := (Callee.value (Operand.func 27)), args := #[(Operand.tmp 42)], argTypes := #[24] }), 45, none⟩, ⟨some 41, (Op.move (Operand.tmp 43)), 45, none⟩, ⟨some 44, (Op.extract (Operand.tmp 41) 0), 24, none⟩, ⟨some 45, (Op.extract (Operand.tmp 41) 1), 3, none⟩, ⟨some 46, (Op.extract (Operand.tmp 41) 2), 25, none⟩, ⟨some 10, (Op.assign (Operand.tmp 44)), 24, none⟩, ⟨some 11, (Op.assign (Operand.tmp 45)), 3, none⟩, ⟨some 12, (Op.assign (Operand.tmp 46)), 25, none⟩] (Q .normal ds) σ w := mk_eq rfl
@[push_cast] theorem vr12_9 (Q : Post) (ds : List Deferred) (σ : Env) (w : World) : vc Try.prog (.draw r12_9 3) Q ds σ w = drawn Try.prog [(⟨some 47, (Op.move (Operand.tmp 9)), 25, none⟩, [9]), (⟨some 48, (Op.binOp BinOp.neq 25 (Operand.tmp 47) (Operand.const (Value.int IntKind.i64 0)) 25), 4, none⟩, [47]), (⟨some 49, (Op.move (Operand.tmp 48)), 4, none⟩, [48]), (⟨some 50, (Op.move (Operand.tmp 12)), 25, some (49, false)⟩, [12, 49]), (⟨some 51, (Op.binOp BinOp.neq 25 (Operand.tmp 50) (Operand.const (Value.int IntKind.i64 0)) 25), 4, some (49, false)⟩, [50, 49]), (⟨some 52, (Op.pick (Operand.tmp 49) (Operand.const (Value.bool true)) (Operand.tmp 51)), 4, none⟩, [49, 51]), (⟨some 53, (Op.move (Operand.tmp 52)), 4, none⟩, [52]), (⟨some 54, (Op.move (Operand.tmp 11)), 3, some (53, false)⟩, [11, 53]), (⟨some 55, (Op.move (Operand.tmp 8)), 24, some (53, false)⟩, [8, 53]), (⟨some 56, (Op.call { callee := (Callee.builtin Builtin.len), args := #[(Operand.tmp 55)], argTypes := #[24] }), 3, some (53, false)⟩, [55, 53]), (⟨some 57, (Op.binOp BinOp.neq 3 (Operand.tmp 54) (Operand.tmp 56) 3), 4, some (53, false)⟩, [54, 56, 53]), (⟨some 58, (Op.pick (Operand.tmp 53) (Operand.const (Value.bool true)) (Operand.tmp 57)), 4, none⟩, [53, 57]), (⟨some 59, (Op.move (Operand.tmp 58)), 4, none⟩, [58]), (⟨some 60, (Op.move (Operand.tmp 10)), 24, some (59, false)⟩, [10, 59]), (⟨some 61, (Op.convert 24 9 (Operand.tmp 60)), 9, some (59, false)⟩, [60, 59]), (⟨some 62, (Op.move (Operand.tmp 0)), 51, some (59, false)⟩, [0, 59]), (⟨some 63, (Op.move (Operand.tmp 7)), 3, some (59, false)⟩, [7, 59]), (⟨some 64, (Op.indexAddr 51 (Operand.tmp 62) (Operand.tmp 63)), 0, some (59, false)⟩, [62, 63, 59]), (⟨some 65, (Op.load 24 (Operand.tmp 64)), 24, some (59, false)⟩, [64, 59]), (⟨some 66, (Op.convert 24 9 (Operand.tmp 65)), 9, some (59, false)⟩, [65, 59]), (⟨some 67, (Op.binOp BinOp.neq 9 (Operand.tmp 61) (Operand.tmp 66) 9), 4, some (59, false)⟩, [61, 66, 59]), (⟨some 68, (Op.pick (Operand.tmp 59) (Operand.const (Value.bool true)) (Operand.tmp 67)), 4, none⟩, [59, 67])] 3 (Q .normal ds) σ w := mk_eq rfl
@[push_cast] theorem vr12_10 (Q : Post) (ds : List Deferred) (σ : Env) (w : World) : vc Try.prog (.region r12_10) Q ds σ w = vcOps Try.prog [⟨some 4, (Op.assign (Operand.const (Value.bool false))), 4, none⟩] (Q .normal ds) σ w := mk_eq rfl
@[push_cast] theorem vr12_11 (Q : Post) (ds : List Deferred) (σ : Env) (w : World) : vc Try.prog (.region r12_11) Q ds σ w = vcOps Try.prog [⟨some 69, (Op.move (Operand.tmp 5)), 24, none⟩, ⟨some 70, (Op.move (Operand.tmp 8)), 24, none⟩, ⟨some 71, (Op.call { callee := (Callee.builtin Builtin.append), args := #[(Operand.tmp 69), (Operand.tmp 70)], argTypes := #[24, 24] }), 24, none⟩, ⟨some 5, (Op.assign (Operand.tmp 71)), 24, none⟩] (Q .normal ds) σ w := mk_eq rfl
@[push_cast] theorem vr12_12 (Q : Post) (ds : List Deferred) (σ : Env) (w : World) : vc Try.prog (.region r12_12) Q ds σ w = vcOps Try.prog [⟨some 72, (Op.move (Operand.tmp 6)), 51, none⟩, ⟨some 73, (Op.move (Operand.tmp 0)), 51, none⟩, ⟨some 74, (Op.move (Operand.tmp 7)), 3, none⟩, ⟨some 75, (Op.indexAddr 51 (Operand.tmp 73) (Operand.tmp 74)), 0, none⟩, ⟨some 76, (Op.load 24 (Operand.tmp 75)), 24, none⟩, ⟨some 77, (Op.buildSlice 51 1 #[(0, (Operand.tmp 76))]), 51, none⟩, ⟨some 78, (Op.call { callee := (Callee.builtin Builtin.append), args := #[(Operand.tmp 72), (Operand.tmp 77)], argTypes := #[51, 51] }), 51, none⟩, ⟨some 6, (Op.assign (Operand.tmp 78)), 51, none⟩] (Q .normal ds) σ w := mk_eq rfl
@[push_cast] theorem vr12_5 (Q : Post) (ds : List Deferred) (σ : Env) (w : World) : vc Try.prog (.region r12_5) Q ds σ w = vcOps Try.prog [⟨some 25, (Op.move (Operand.tmp 7)), 3, none⟩, ⟨some 26, (Op.binOp BinOp.add 3 (Operand.tmp 25) (Operand.const (Value.int IntKind.i64 1)) 3), 3, none⟩, ⟨some 7, (Op.assign (Operand.tmp 26)), 3, none⟩] (Q .normal ds) σ w := mk_eq rfl
@[push_cast] theorem vr12_13 (Q : Post) (ds : List Deferred) (σ : Env) (w : World) : vc Try.prog (.region r12_13) Q ds σ w = vcOps Try.prog [⟨some 80, (Op.move (Operand.tmp 5)), 24, none⟩, ⟨some 81, (Op.call { callee := (Callee.value (Operand.func 31)), args := #[(Operand.tmp 80)], argTypes := #[24] }), 52, none⟩, ⟨some 79, (Op.move (Operand.tmp 81)), 52, none⟩, ⟨some 82, (Op.extract (Operand.tmp 79) 0), 51, none⟩, ⟨some 83, (Op.extract (Operand.tmp 79) 1), 3, none⟩, ⟨some 13, (Op.assign (Operand.tmp 82)), 51, none⟩, ⟨some 14, (Op.assign (Operand.tmp 83)), 3, none⟩] (Q .normal ds) σ w := mk_eq rfl
@[push_cast] theorem vr12_14 (Q : Post) (ds : List Deferred) (σ : Env) (w : World) : vc Try.prog (.region r12_14) Q ds σ w = vcOps Try.prog [⟨some 84, (Op.move (Operand.tmp 13)), 51, none⟩, ⟨some 85, (Op.move (Operand.tmp 6)), 51, none⟩, ⟨some 86, (Op.call { callee := (Callee.value (Operand.func 34)), args := #[(Operand.tmp 84), (Operand.tmp 85)], argTypes := #[51, 51] }), 4, none⟩, ⟨some 87, (Op.unOp UnOp.not 4 (Operand.tmp 86)), 4, none⟩, ⟨some 88, (Op.move (Operand.tmp 87)), 4, none⟩, ⟨some 89, (Op.move (Operand.tmp 14)), 3, some (88, false)⟩, ⟨some 90, (Op.move (Operand.tmp 5)), 24, some (88, false)⟩, ⟨some 91, (Op.call { callee := (Callee.builtin Builtin.len), args := #[(Operand.tmp 90)], argTypes := #[24] }), 3, some (88, false)⟩, ⟨some 92, (Op.binOp BinOp.neq 3 (Operand.tmp 89) (Operand.tmp 91) 3), 4, some (88, false)⟩, ⟨some 93, (Op.pick (Operand.tmp 88) (Operand.const (Value.bool true)) (Operand.tmp 92)), 4, none⟩] (Q .normal ds) σ w := mk_eq rfl
@[push_cast] theorem vr12_15 (Q : Post) (ds : List Deferred) (σ : Env) (w : World) : vc Try.prog (.region r12_15) Q ds σ w = vcOps Try.prog [⟨some 4, (Op.assign (Operand.const (Value.bool false))), 4, none⟩] (Q .normal ds) σ w := mk_eq rfl
@[push_cast] theorem vr12_16 (Q : Post) (ds : List Deferred) (σ : Env) (w : World) : vc Try.prog (.region r12_16) Q ds σ w = vcOps Try.prog [⟨some 94, (Op.move (Operand.tmp 1)), 24, none⟩, ⟨some 95, (Op.call { callee := (Callee.builtin Builtin.len), args := #[(Operand.tmp 94)], argTypes := #[24] }), 3, none⟩, ⟨some 96, (Op.binOp BinOp.gtr 3 (Operand.tmp 95) (Operand.const (Value.int IntKind.i64 400)) 3), 4, none⟩] (Q .normal ds) σ w := mk_eq rfl
@[push_cast] theorem vr12_17 (Q : Post) (ds : List Deferred) (σ : Env) (w : World) : vc Try.prog (.region r12_17) Q ds σ w = vcOps Try.prog [⟨some 97, (Op.call { callee := (Callee.value (Operand.func 26)), args := #[], argTypes := #[] }), 4, none⟩, ⟨some 4, (Op.assign (Operand.tmp 97)), 4, none⟩] (Q .normal ds) σ w := mk_eq rfl
@[push_cast] theorem vr12_18 (Q : Post) (ds : List Deferred) (σ : Env) (w : World) : vc Try.prog (.region r12_18) Q ds σ w = vcOps Try.prog [⟨some 99, (Op.buildSlice 24 0 #[]), 24, none⟩, ⟨some 100, (Op.move (Operand.tmp 5)), 24, none⟩, ⟨some 101, (Op.call { callee := (Callee.builtin Builtin.append), args := #[(Operand.tmp 99), (Operand.tmp 100)], argTypes := #[24, 24] }), 24, none⟩, ⟨some 102, (Op.move (Operand.tmp 1)), 24, none⟩, ⟨some 103, (Op.call { callee := (Callee.builtin Builtin.append), args := #[(Operand.tmp 101), (Operand.tmp 102)], argTypes := #[24, 24] }), 24, none⟩, ⟨some 104, (Op.call { callee := (Callee.value (Operand.func 31)), args := #[(Operand.tmp 103)], argTypes := #[24] }), 52, none⟩, ⟨some 98, (Op.move (Operand.tmp 104)), 52, none⟩, ⟨some 105, (Op.extract (Operand.tmp 98) 0), 51, none⟩, ⟨some 106, (Op.extract (Operand.tmp 98) 1), 3, none⟩, ⟨some 15, (Op.assign (Operand.tmp 105)), 51, none⟩, ⟨some 16, (Op.assign (Operand.tmp 106)), 3, none⟩] (Q .normal ds) σ w := mk_eq rfl
@[push_cast] theorem vr12_19 (Q : Post) (ds : List Deferred) (σ : Env) (w : World) : vc Try.prog (.region r12_19) Q ds σ w = vcOps Try.prog [⟨some 107, (Op.call { callee := (Callee.value (Operand.func 26)), args := #[], argTypes := #[] }), 4, none⟩, ⟨some 108, (Op.move (Operand.tmp 107)), 4, none⟩, ⟨some 109, (Op.move (Operand.tmp 15)), 51, some (108, true)⟩, ⟨some 110, (Op.call { callee := (Callee.builtin Builtin.len), args := #[(Operand.tmp 109)], argTypes := #[51] }), 3, some (108, true)⟩, ⟨some 111, (Op.move (Operand.tmp 6)), 51, some (108, true)⟩, ⟨some 112, (Op.call { callee := (Callee.builtin Builtin.len), args := #[(Operand.tmp 111)], argTypes := #[51] }), 3, some (108, true)⟩, ⟨some 113, (Op.binOp BinOp.geq 3 (Operand.tmp 110) (Operand.tmp 112) 3), 4, some (108, true)⟩, ⟨some 114, (Op.pick (Operand.tmp 108) (Operand.tmp 113) (Operand.const (Value.bool false))), 4, none⟩, ⟨some 115, (Op.move (Operand.tmp 114)), 4, none⟩, ⟨some 116, (Op.move (Operand.tmp 16)), 3, some (115, true)⟩, ⟨some 117, (Op.move (Operand.tmp 14)), 3, some (115, true)⟩, ⟨some 118, (Op.binOp BinOp.geq 3 (Operand.tmp 116) (Operand.tmp 117) 3), 4, some (115, true)⟩, ⟨some 119, (Op.pick (Operand.tmp 115) (Operand.tmp 118) (Operand.const (Value.bool false))), 4, none⟩, ⟨some 120, (Op.move (Operand.tmp 119)), 4, none⟩, ⟨some 121, (Op.move (Operand.tmp 15)), 51, some (120, true)⟩, ⟨some 122, (Op.move (Operand.tmp 6)), 51, some (120, true)⟩, ⟨some 123, (Op.call { callee := (Callee.builtin Builtin.len), args := #[(Operand.tmp 122)], argTypes := #[51] }), 3, some (120, true)⟩, ⟨some 124, (Op.slice 51 (Operand.tmp 121) none (some (Operand.tmp 123)) none), 51, some (120, true)⟩, ⟨some 125, (Op.move (Operand.tmp 6)), 51, some (120, true)⟩, ⟨some 126, (Op.call { callee := (Callee.value (Operand.func 34)), args := #[(Operand.tmp 124), (Operand.tmp 125)], argTypes := #[51, 51] }), 4, some (120, true)⟩, ⟨some 127, (Op.pick (Operand.tmp 120) (Operand.tmp 126) (Operand.const (Value.bool false))), 4, none⟩, ⟨some 4, (Op.assign (Operand.tmp 127)), 4, none⟩] (Q .normal ds) σ w := mk_eq rfl
@[push_cast] theorem bsl24_0_CodesCL {K : Value → World → Prop} {w : World}  : vBuildSlice Try.prog 24 0 #[] K w = K (.slice (some ⟨w.heap.size, 0, none⟩) 0 0) (w.alloc (.cells #[] 5)) :=
  vBuildSlice_ok Try.underlying24 ti5 (by kernel_rfl) (by decide)
@[push_cast] theorem bsl24_1_CodesCL {K : Value → World → Prop} {w : World} (x0 : Int) : vBuildSlice Try.prog 24 1 #[(0, (.int .u8 x0))] K w = K (.slice (some ⟨w.heap.size, 0, none⟩) 1 1) (w.alloc (.cells #[(.int .u8 x0)] 5)) :=
  vBuildSlice_ok Try.underlying24 ti5 (by kernel_rfl) (by decide)
@[push_cast] theorem bsl51_1_CodesCL {K : Value → World → Prop} {w : World} (x0o : Option Addr) (x0n x0c : Nat) : vBuildSlice Try.prog 51 1 #[(0, (.slice x0o x0n x0c))] K w = K (.slice (some ⟨w.heap.size, 0, none⟩) 1 1) (w.alloc (.cells #[(.slice x0o x0n x0c)] 24)) :=
  vBuildSlice_ok Try.underlying51 ti24 (by kernel_rfl) (by decide)
end Go.Proofs.Ytkchefbnamiikaa
