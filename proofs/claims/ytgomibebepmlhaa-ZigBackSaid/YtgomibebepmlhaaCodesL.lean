/- The functions' code in the generator's form. Written by a program (codes.py) out of Lean's own print of the loaded translation. -/
import Derived.Test.YtgomibebepmlhaaTypes
namespace Go.Proofs.Ytgomibebepmlhaa
open Go.Vc
/-! 8 columbary/columbarylaw01.ZigFolds (params #[3, 35], results #[(ResultVar.tmp 4)], 34 slots) -/
def r8_0 : List VOp :=
  [⟨some 4, (Op.assign (Operand.const (Value.bool false))), 4, none⟩]
def r8_1 : List VOp :=
  [⟨some 5, (Op.call { callee := (Callee.value (Operand.func 29)), args := #[], argTypes := #[] }), 4, none⟩,
   ⟨some 6, (Op.move (Operand.tmp 5)), 4, none⟩,
   ⟨some 7, (Op.move (Operand.tmp 0)), 3, some (6, true)⟩,
   ⟨some 8, (Op.call { callee := (Callee.value (Operand.func 30)), args := #[(Operand.tmp 7)], argTypes := #[3] }), 35, some (6, true)⟩,
   ⟨some 9, (Op.move (Operand.tmp 0)), 3, some (6, true)⟩,
   ⟨some 10, (Op.call { callee := (Callee.value (Operand.func 31)), args := #[(Operand.tmp 9)], argTypes := #[3] }), 35, some (6, true)⟩,
   ⟨some 11, (Op.binOp BinOp.eql 35 (Operand.tmp 8) (Operand.tmp 10) 35), 4, some (6, true)⟩,
   ⟨some 12, (Op.pick (Operand.tmp 6) (Operand.tmp 11) (Operand.const (Value.bool false))), 4, none⟩,
   ⟨some 13, (Op.move (Operand.tmp 12)), 4, none⟩,
   ⟨some 14, (Op.move (Operand.tmp 1)), 35, some (13, true)⟩,
   ⟨some 15, (Op.call { callee := (Callee.value (Operand.func 32)), args := #[(Operand.tmp 14)], argTypes := #[35] }), 3, some (13, true)⟩,
   ⟨some 16, (Op.move (Operand.tmp 1)), 35, some (13, true)⟩,
   ⟨some 17, (Op.call { callee := (Callee.value (Operand.func 33)), args := #[(Operand.tmp 16)], argTypes := #[35] }), 3, some (13, true)⟩,
   ⟨some 18, (Op.binOp BinOp.eql 3 (Operand.tmp 15) (Operand.tmp 17) 3), 4, some (13, true)⟩,
   ⟨some 19, (Op.pick (Operand.tmp 13) (Operand.tmp 18) (Operand.const (Value.bool false))), 4, none⟩,
   ⟨some 20, (Op.move (Operand.tmp 19)), 4, none⟩,
   ⟨some 21, (Op.move (Operand.tmp 0)), 3, some (20, true)⟩,
   ⟨some 22, (Op.call { callee := (Callee.value (Operand.func 30)), args := #[(Operand.tmp 21)], argTypes := #[3] }), 35, some (20, true)⟩,
   ⟨some 23, (Op.call { callee := (Callee.value (Operand.func 32)), args := #[(Operand.tmp 22)], argTypes := #[35] }), 3, some (20, true)⟩,
   ⟨some 24, (Op.move (Operand.tmp 0)), 3, some (20, true)⟩,
   ⟨some 25, (Op.binOp BinOp.eql 3 (Operand.tmp 23) (Operand.tmp 24) 3), 4, some (20, true)⟩,
   ⟨some 26, (Op.pick (Operand.tmp 20) (Operand.tmp 25) (Operand.const (Value.bool false))), 4, none⟩,
   ⟨some 27, (Op.move (Operand.tmp 26)), 4, none⟩,
   ⟨some 28, (Op.move (Operand.tmp 1)), 35, some (27, true)⟩,
   ⟨some 29, (Op.call { callee := (Callee.value (Operand.func 32)), args := #[(Operand.tmp 28)], argTypes := #[35] }), 3, some (27, true)⟩,
   ⟨some 30, (Op.call { callee := (Callee.value (Operand.func 30)), args := #[(Operand.tmp 29)], argTypes := #[3] }), 35, some (27, true)⟩,
   ⟨some 31, (Op.move (Operand.tmp 1)), 35, some (27, true)⟩,
   ⟨some 32, (Op.binOp BinOp.eql 35 (Operand.tmp 30) (Operand.tmp 31) 35), 4, some (27, true)⟩,
   ⟨some 33, (Op.pick (Operand.tmp 27) (Operand.tmp 32) (Operand.const (Value.bool false))), 4, none⟩,
   ⟨some 4, (Op.assign (Operand.tmp 33)), 4, none⟩]
def B8 : VC :=
  (.seq (.region r8_0) (.seq (.region r8_1) .ret))
theorem code8 : ∃ c, Try.f8.body = some c ∧ abs Try.f8.ntmps c = B8 := ⟨_, rfl, by kernel_rfl⟩
theorem hb8 : HasBody Try.prog 8 := hasBody_of Try.func8 (by kernel_rfl)
theorem res8 : Try.f8.results = #[(ResultVar.tmp 4)] := rfl
theorem enter8 {w : World} {R : Value → World → Prop} (x0 x1 : Value) (h : vc Try.prog B8 (retK Try.prog #[(ResultVar.tmp 4)] R) [] (initEnv [x0, x1] 0) w) : FnC Try.prog 8 #[x0, x1] w R := by
  obtain ⟨c, h1, h2⟩ := code8
  exact hb8.fn (ret_of_vc mixed Try.func8 h1 (Nat.le_of_ble_eq_true rfl) B8 h2 h)
@[push_cast] theorem vr8_0 (Q : Post) (ds : List Deferred) (σ : Env) (w : World) : vc Try.prog (.region r8_0) Q ds σ w = vcOps Try.prog [⟨some 4, (Op.assign (Operand.const (Value.bool false))), 4, none⟩] (Q .normal ds) σ w := mk_eq rfl
@[push_cast] theorem vr8_1 (Q : Post) (ds : List Deferred) (σ : Env) (w : World) : vc Try.prog (.region r8_1) Q ds σ w = vcOps Try.prog [⟨some 5, (Op.call { callee := (Callee.value (Operand.func 29)), args := #[], argTypes := #[] }), 4, none⟩, ⟨some 6, (Op.move (Operand.tmp 5)), 4, none⟩, ⟨some 7, (Op.move (Operand.tmp 0)), 3, some (6, true)⟩, ⟨some 8, (Op.call { callee := (Callee.value (Operand.func 30)), args := #[(Operand.tmp 7)], argTypes := #[3] }), 35, some (6, true)⟩, ⟨some 9, (Op.move (Operand.tmp 0)), 3, some (6, true)⟩, ⟨some 10, (Op.call { callee := (Callee.value (Operand.func 31)), args := #[(Operand.tmp 9)], argTypes := #[3] }), 35, some (6, true)⟩, ⟨some 11, (Op.binOp BinOp.eql 35 (Operand.tmp 8) (Operand.tmp 10) 35), 4, some (6, true)⟩, ⟨some 12, (Op.pick (Operand.tmp 6) (Operand.tmp 11) (Operand.const (Value.bool false))), 4, none⟩, ⟨some 13, (Op.move (Operand.tmp 12)), 4, none⟩, ⟨some 14, (Op.move (Operand.tmp 1)), 35, some (13, true)⟩, ⟨some 15, (Op.call { callee := (Callee.value (Operand.func 32)), args := #[(Operand.tmp 14)], argTypes := #[35] }), 3, some (13, true)⟩, ⟨some 16, (Op.move (Operand.tmp 1)), 35, some (13, true)⟩, ⟨some 17, (Op.call { callee := (Callee.value (Operand.func 33)), args := #[(Operand.tmp 16)], argTypes := #[35] }), 3, some (13, true)⟩, ⟨some 18, (Op.binOp BinOp.eql 3 (Operand.tmp 15) (Operand.tmp 17) 3), 4, some (13, true)⟩, ⟨some 19, (Op.pick (Operand.tmp 13) (Operand.tmp 18) (Operand.const (Value.bool false))), 4, none⟩, ⟨some 20, (Op.move (Operand.tmp 19)), 4, none⟩, ⟨some 21, (Op.move (Operand.tmp 0)), 3, some (20, true)⟩, ⟨some 22, (Op.call { callee := (Callee.value (Operand.func 30)), args := #[(Operand.tmp 21)], argTypes := #[3] }), 35, some (20, true)⟩, ⟨some 23, (Op.call { callee := (Callee.value (Operand.func 32)), args := #[(Operand.tmp 22)], argTypes := #[35] }), 3, some (20, true)⟩, ⟨some 24, (Op.move (Operand.tmp 0)), 3, some (20, true)⟩, ⟨some 25, (Op.binOp BinOp.eql 3 (Operand.tmp 23) (Operand.tmp 24) 3), 4, some (20, true)⟩, ⟨some 26, (Op.pick (Operand.tmp 20) (Operand.tmp 25) (Operand.const (Value.bool false))), 4, none⟩, ⟨some 27, (Op.move (Operand.tmp 26)), 4, none⟩, ⟨some 28, (Op.move (Operand.tmp 1)), 35, some (27, true)⟩, ⟨some 29, (Op.call { callee := (Callee.value (Operand.func 32)), args := #[(Operand.tmp 28)], argTypes := #[35] }), 3, some (27, true)⟩, ⟨some 30, (Op.call { callee := (Callee.value (Operand.func 30)), args := #[(Operand.tmp 29)], argTypes := #[3] }), 35, some (27, true)⟩, ⟨some 31, (Op.move (Operand.tmp 1)), 35, some (27, true)⟩, ⟨some 32, (Op.binOp BinOp.eql 35 (Operand.tmp 30) (Operand.tmp 31) 35), 4, some (27, true)⟩, ⟨some 33, (Op.pick (Operand.tmp 27) (Operand.tmp 32) (Operand.const (Value.bool false))), 4, none⟩, ⟨some 4, (Op.assign (Operand.tmp 33)), 4, none⟩] (Q .normal ds) σ w := mk_eq rfl
/-! 9 columbary/columbarylaw01.ZigWrites (params #[39], results #[(ResultVar.tmp 2)], 90 slots) -/
def W9_0 : List Nat := [2, 3, 4, 5, 6, 7, 8, 9, 10, 11, 12, 13, 14, 15, 16, 17, 18, 19, 20, 21, 22, 23, 24, 25, 26, 27, 28, 29, 30, 31, 32, 33, 34, 35, 36, 37, 38, 39, 40, 41, 42, 43, 44, 45, 46, 47, 48, 49, 50, 51, 52, 53, 54, 55, 56, 57, 58, 59, 60, 61, 62, 63, 64, 65, 66, 67, 68, 69, 70, 71, 72, 73, 74, 75, 76, 77, 78, 79, 80, 81]
@[push_cast] theorem W9_0_def : W9_0 = [2, 3, 4, 5, 6, 7, 8, 9, 10, 11, 12, 13, 14, 15, 16, 17, 18, 19, 20, 21, 22, 23, 24, 25, 26, 27, 28, 29, 30, 31, 32, 33, 34, 35, 36, 37, 38, 39, 40, 41, 42, 43, 44, 45, 46, 47, 48, 49, 50, 51, 52, 53, 54, 55, 56, 57, 58, 59, 60, 61, 62, 63, 64, 65, 66, 67, 68, 69, 70, 71, 72, 73, 74, 75, 76, 77, 78, 79, 80, 81] := mk_eq rfl
def r9_0 : List VOp :=
  [⟨some 2, (Op.assign (Operand.const (Value.bool false))), 4, none⟩]
def r9_1 : List VOp :=
  [⟨some 3, (Op.assign (Operand.const (Value.slice none 0 0))), 40, none⟩,
   ⟨some 4, (Op.assign (Operand.const (Value.slice none 0 0))), 40, none⟩]
def r9_2 : List VOp :=
  [⟨some 5, (Op.assign (Operand.const (Value.int IntKind.i64 0))), 3, none⟩]
def r9_3 : List VOp :=
  [⟨some 10, (Op.move (Operand.tmp 5)), 3, none⟩,
   ⟨some 11, (Op.move (Operand.tmp 0)), 39, none⟩,
   ⟨some 12, (Op.call { callee := (Callee.builtin Builtin.len), args := #[(Operand.tmp 11)], argTypes := #[39] }), 3, none⟩,
   ⟨some 13, (Op.binOp BinOp.lss 3 (Operand.tmp 10) (Operand.tmp 12) 3), 4, none⟩,
   ⟨some 14, (Op.move (Operand.tmp 13)), 4, none⟩,
   ⟨some 15, (Op.move (Operand.tmp 5)), 3, some (14, true)⟩,
   ⟨some 16, (Op.binOp BinOp.lss 3 (Operand.tmp 15) (Operand.const (Value.int IntKind.i64 60)) 3), 4, some (14, true)⟩,
   ⟨some 17, (Op.pick (Operand.tmp 14) (Operand.tmp 16) (Operand.const (Value.bool false))), 4, none⟩]
def r9_5 : List VOp :=
  [⟨some 20, (Op.move (Operand.tmp 0)), 39, none⟩,
   ⟨some 21, (Op.move (Operand.tmp 5)), 3, none⟩,
   ⟨some 22, (Op.indexAddr 39 (Operand.tmp 20) (Operand.tmp 21)), 0, none⟩,
   ⟨some 23, (Op.load 42 (Operand.tmp 22)), 42, none⟩,
   ⟨some 6, (Op.alloc 42), 0, none⟩,
   ⟨none, (Op.store 42 (Operand.tmp 6) (Operand.tmp 23)), 0, none⟩]
def r9_6 : List VOp :=
  [⟨some 24, (Op.fieldAddr 42 (Operand.tmp 6) 4), 0, none⟩,
   ⟨some 25, (Op.load 9 (Operand.tmp 24)), 9, none⟩,
   ⟨some 26, (Op.call { callee := (Callee.builtin Builtin.len), args := #[(Operand.tmp 25)], argTypes := #[9] }), 3, none⟩,
   ⟨some 27, (Op.binOp BinOp.gtr 3 (Operand.tmp 26) (Operand.const (Value.int IntKind.i64 400)) 3), 4, none⟩]
def r9_7 : List VOp :=
  [⟨some 28, (Op.move (Operand.tmp 3)), 40, none⟩,
   ⟨some 29, (Op.convert 40 9 (Operand.tmp 28)), 9, none⟩,
   ⟨some 7, (Op.assign (Operand.tmp 29)), 9, none⟩]
def r9_8 : List VOp :=
  [⟨some 30, (Op.move (Operand.tmp 3)), 40, none⟩,
   ⟨some 31, (Op.fieldAddr 42 (Operand.tmp 6) 1), 0, none⟩,
   ⟨some 32, (Op.load 3 (Operand.tmp 31)), 3, none⟩,
   ⟨some 33, (Op.call { callee := (Callee.value (Operand.func 34)), args := #[(Operand.tmp 30), (Operand.tmp 32)], argTypes := #[40, 3] }), 40, none⟩,
   ⟨some 8, (Op.assign (Operand.tmp 33)), 40, none⟩]
def r9_9 : List VOp :=
  [⟨some 34, (Op.move (Operand.tmp 3)), 40, none⟩,
   ⟨some 35, (Op.fieldAddr 42 (Operand.tmp 6) 4), 0, none⟩,
   ⟨some 36, (Op.load 9 (Operand.tmp 35)), 9, none⟩,
   ⟨some 37, (Op.call { callee := (Callee.value (Operand.func 35)), args := #[(Operand.tmp 34), (Operand.tmp 36)], argTypes := #[40, 9] }), 40, none⟩,
   ⟨some 9, (Op.assign (Operand.tmp 37)), 40, none⟩]
def r9_10 : List VOp :=
  [⟨some 38, (Op.move (Operand.tmp 3)), 40, none⟩,
   ⟨some 39, (Op.convert 40 9 (Operand.tmp 38)), 9, none⟩,
   ⟨some 40, (Op.move (Operand.tmp 7)), 9, none⟩,
   ⟨some 41, (Op.binOp BinOp.neq 9 (Operand.tmp 39) (Operand.tmp 40) 9), 4, none⟩,
   ⟨some 42, (Op.move (Operand.tmp 41)), 4, none⟩,
   ⟨some 43, (Op.move (Operand.tmp 8)), 40, some (42, false)⟩,
   ⟨some 44, (Op.convert 40 9 (Operand.tmp 43)), 9, some (42, false)⟩,
   ⟨some 45, (Op.move (Operand.tmp 7)), 9, some (42, false)⟩,
   ⟨some 46, (Op.fieldAddr 42 (Operand.tmp 6) 1), 0, some (42, false)⟩,
   ⟨some 47, (Op.load 3 (Operand.tmp 46)), 3, some (42, false)⟩,
   ⟨some 48, (Op.call { callee := (Callee.value (Operand.func 36)), args := #[(Operand.tmp 47)], argTypes := #[3] }), 40, some (42, false)⟩,
   ⟨some 49, (Op.convert 40 9 (Operand.tmp 48)), 9, some (42, false)⟩,
   ⟨some 50, (Op.binOp BinOp.add 9 (Operand.tmp 45) (Operand.tmp 49) 9), 9, some (42, false)⟩,
   ⟨some 51, (Op.binOp BinOp.neq 9 (Operand.tmp 44) (Operand.tmp 50) 9), 4, some (42, false)⟩,
   ⟨some 52, (Op.pick (Operand.tmp 42) (Operand.const (Value.bool true)) (Operand.tmp 51)), 4, none⟩,
   ⟨some 53, (Op.move (Operand.tmp 52)), 4, none⟩,
   ⟨some 54, (Op.move (Operand.tmp 9)), 40, some (53, false)⟩,
   ⟨some 55, (Op.convert 40 9 (Operand.tmp 54)), 9, some (53, false)⟩,
   ⟨some 56, (Op.move (Operand.tmp 7)), 9, some (53, false)⟩,
   ⟨some 57, (Op.fieldAddr 42 (Operand.tmp 6) 4), 0, some (53, false)⟩,
   ⟨some 58, (Op.load 9 (Operand.tmp 57)), 9, some (53, false)⟩,
   ⟨some 59, (Op.call { callee := (Callee.value (Operand.func 37)), args := #[(Operand.tmp 58)], argTypes := #[9] }), 40, some (53, false)⟩,
   ⟨some 60, (Op.convert 40 9 (Operand.tmp 59)), 9, some (53, false)⟩,
   ⟨some 61, (Op.binOp BinOp.add 9 (Operand.tmp 56) (Operand.tmp 60) 9), 9, some (53, false)⟩,
   ⟨some 62, (Op.binOp BinOp.neq 9 (Operand.tmp 55) (Operand.tmp 61) 9), 4, some (53, false)⟩,
   ⟨some 63, (Op.pick (Operand.tmp 53) (Operand.const (Value.bool true)) (Operand.tmp 62)), 4, none⟩]
def r9_11 : List VOp :=
  [⟨some 2, (Op.assign (Operand.const (Value.bool false))), 4, none⟩]
def r9_12 : List VOp :=
  [⟨some 64, (Op.move (Operand.tmp 8)), 40, none⟩,
   ⟨some 3, (Op.assign (Operand.tmp 64)), 40, none⟩]
def r9_13 : List VOp :=
  [⟨some 65, (Op.move (Operand.tmp 4)), 40, none⟩,
   ⟨some 66, (Op.fieldAddr 42 (Operand.tmp 6) 1), 0, none⟩,
   ⟨some 67, (Op.load 3 (Operand.tmp 66)), 3, none⟩,
   ⟨some 68, (Op.call { callee := (Callee.value (Operand.func 36)), args := #[(Operand.tmp 67)], argTypes := #[3] }), 40, none⟩,
   ⟨some 69, (Op.call { callee := (Callee.builtin Builtin.append), args := #[(Operand.tmp 65), (Operand.tmp 68)], argTypes := #[40, 40] }), 40, none⟩,
   ⟨some 4, (Op.assign (Operand.tmp 69)), 40, none⟩]
def r9_14 : List VOp :=
  [⟨some 70, (Op.fieldAddr 42 (Operand.tmp 6) 0), 0, none⟩,
   ⟨some 71, (Op.load 3 (Operand.tmp 70)), 3, none⟩,
   ⟨some 72, (Op.binOp BinOp.eql 3 (Operand.tmp 71) (Operand.const (Value.int IntKind.i64 2)) 3), 4, none⟩]
def r9_15 : List VOp :=
  [⟨some 73, (Op.move (Operand.tmp 3)), 40, none⟩,
   ⟨some 74, (Op.fieldAddr 42 (Operand.tmp 6) 4), 0, none⟩,
   ⟨some 75, (Op.load 9 (Operand.tmp 74)), 9, none⟩,
   ⟨some 76, (Op.call { callee := (Callee.value (Operand.func 35)), args := #[(Operand.tmp 73), (Operand.tmp 75)], argTypes := #[40, 9] }), 40, none⟩,
   ⟨some 3, (Op.assign (Operand.tmp 76)), 40, none⟩]
def r9_16 : List VOp :=
  [⟨some 77, (Op.move (Operand.tmp 4)), 40, none⟩,
   ⟨some 78, (Op.fieldAddr 42 (Operand.tmp 6) 4), 0, none⟩,
   ⟨some 79, (Op.load 9 (Operand.tmp 78)), 9, none⟩,
   ⟨some 80, (Op.call { callee := (Callee.value (Operand.func 37)), args := #[(Operand.tmp 79)], argTypes := #[9] }), 40, none⟩,
   ⟨some 81, (Op.call { callee := (Callee.builtin Builtin.append), args := #[(Operand.tmp 77), (Operand.tmp 80)], argTypes := #[40, 40] }), 40, none⟩,
   ⟨some 4, (Op.assign (Operand.tmp 81)), 40, none⟩]
def r9_4 : List VOp :=
  [⟨some 18, (Op.move (Operand.tmp 5)), 3, none⟩,
   ⟨some 19, (Op.binOp BinOp.add 3 (Operand.tmp 18) (Operand.const (Value.int IntKind.i64 1)) 3), 3, none⟩,
   ⟨some 5, (Op.assign (Operand.tmp 19)), 3, none⟩]
def r9_17 : List VOp :=
  [⟨some 82, (Op.call { callee := (Callee.value (Operand.func 29)), args := #[], argTypes := #[] }), 4, none⟩,
   ⟨some 83, (Op.move (Operand.tmp 82)), 4, none⟩,
   ⟨some 84, (Op.move (Operand.tmp 3)), 40, some (83, true)⟩,
   ⟨some 85, (Op.convert 40 9 (Operand.tmp 84)), 9, some (83, true)⟩,
   ⟨some 86, (Op.move (Operand.tmp 4)), 40, some (83, true)⟩,
   ⟨some 87, (Op.convert 40 9 (Operand.tmp 86)), 9, some (83, true)⟩,
   ⟨some 88, (Op.binOp BinOp.eql 9 (Operand.tmp 85) (Operand.tmp 87) 9), 4, some (83, true)⟩,
   ⟨some 89, (Op.pick (Operand.tmp 83) (Operand.tmp 88) (Operand.const (Value.bool false))), 4, none⟩,
   ⟨some 2, (Op.assign (Operand.tmp 89)), 4, none⟩]
def B9 : VC :=
  (.seq (.region r9_0) (.seq (.region r9_1) (.seq (.seq (.region r9_2) (.block 0 (.loop (.seq (.seq (.region r9_3) (.cond (Operand.tmp 17) .skip (.exit 0))) (.seq (.block 1 (.seq (.region r9_5) (.seq (.seq (.region r9_6) (.cond (Operand.tmp 27) (.exit 1) .skip)) (.seq (.region r9_7) (.seq (.region r9_8) (.seq (.region r9_9) (.seq (.seq (.draw r9_10 true) (.cond (Operand.tmp 63) (.seq (.region r9_11) .ret) .skip)) (.seq (.region r9_12) (.seq (.region r9_13) (.seq (.region r9_14) (.cond (Operand.tmp 72) (.seq (.region r9_15) (.region r9_16)) .skip))))))))))) (.region r9_4)))))) (.seq (.region r9_17) .ret))))
theorem code9 : ∃ c, Try.f9.body = some c ∧ abs Try.f9.ntmps c = B9 := ⟨_, rfl, by kernel_rfl⟩
theorem hb9 : HasBody Try.prog 9 := hasBody_of Try.func9 (by kernel_rfl)
theorem res9 : Try.f9.results = #[(ResultVar.tmp 2)] := rfl
theorem enter9 {w : World} {R : Value → World → Prop} (x0 : Value) (h : vc Try.prog B9 (retK Try.prog #[(ResultVar.tmp 2)] R) [] (initEnv [x0] 0) w) : FnC Try.prog 9 #[x0] w R := by
  obtain ⟨c, h1, h2⟩ := code9
  exact hb9.fn (ret_of_vc mixed Try.func9 h1 (Nat.le_of_ble_eq_true rfl) B9 h2 h)
@[push_cast] theorem vr9_0 (Q : Post) (ds : List Deferred) (σ : Env) (w : World) : vc Try.prog (.region r9_0) Q ds σ w = vcOps Try.prog [⟨some 2, (Op.assign (Operand.const (Value.bool false))), 4, none⟩] (Q .normal ds) σ w := mk_eq rfl
@[push_cast] theorem vr9_1 (Q : Post) (ds : List Deferred) (σ : Env) (w : World) : vc Try.prog (.region r9_1) Q ds σ w = vcOps Try.prog [⟨some 3, (Op.assign (Operand.const (Value.slice none 0 0))), 40, none⟩, ⟨some 4, (Op.assign (Operand.const (Value.slice none 0 0))), 40, none⟩] (Q .normal ds) σ w := mk_eq rfl
@[push_cast] theorem vr9_2 (Q : Post) (ds : List Deferred) (σ : Env) (w : World) : vc Try.prog (.region r9_2) Q ds σ w = vcOps Try.prog [⟨some 5, (Op.assign (Operand.const (Value.int IntKind.i64 0))), 3, none⟩] (Q .normal ds) σ w := mk_eq rfl
@[push_cast] theorem vr9_3 (Q : Post) (ds : List Deferred) (σ : Env) (w : World) : vc Try.prog (.region r9_3) Q ds σ w = vcOps Try.prog [⟨some 10, (Op.move (Operand.tmp 5)), 3, none⟩, ⟨some 11, (Op.move (Operand.tmp 0)), 39, none⟩, ⟨some 12, (Op.call { callee := (Callee.builtin Builtin.len), args := #[(Operand.tmp 11)], argTypes := #[39] }), 3, none⟩, ⟨some 13, (Op.binOp BinOp.lss 3 (Operand.tmp 10) (Operand.tmp 12) 3), 4, none⟩, ⟨some 14, (Op.move (Operand.tmp 13)), 4, none⟩, ⟨some 15, (Op.move (Operand.tmp 5)), 3, some (14, true)⟩, ⟨some 16, (Op.binOp BinOp.lss 3 (Operand.tmp 15) (Operand.const (Value.int IntKind.i64 60)) 3), 4, some (14, true)⟩, ⟨some 17, (Op.pick (Operand.tmp 14) (Operand.tmp 16) (Operand.const (Value.bool false))), 4, none⟩] (Q .normal ds) σ w := mk_eq rfl
@[push_cast] theorem vr9_5 (Q : Post) (ds : List Deferred) (σ : Env) (w : World) : vc Try.prog (.region r9_5) Q ds σ w = vcOps Try.prog [⟨some 20, (Op.move (Operand.tmp 0)), 39, none⟩, ⟨some 21, (Op.move (Operand.tmp 5)), 3, none⟩, ⟨some 22, (Op.indexAddr 39 (Operand.tmp 20) (Operand.tmp 21)), 0, none⟩, ⟨some 23, (Op.load 42 (Operand.tmp 22)), 42, none⟩, ⟨some 6, (Op.alloc 42), 0, none⟩, ⟨none, (Op.store 42 (Operand.tmp 6) (Operand.tmp 23)), 0, none⟩] (Q .normal ds) σ w := mk_eq rfl
@[push_cast] theorem vr9_6 (Q : Post) (ds : List Deferred) (σ : Env) (w : World) : vc Try.prog (.region r9_6) Q ds σ w = vcOps Try.prog [⟨some 24, (Op.fieldAddr 42 (Operand.tmp 6) 4), 0, none⟩, ⟨some 25, (Op.load 9 (Operand.tmp 24)), 9, none⟩, ⟨some 26, (Op.call { callee := (Callee.builtin Builtin.len), args := #[(Operand.tmp 25)], argTypes := #[9] }), 3, none⟩, ⟨some 27, (Op.binOp BinOp.gtr 3 (Operand.tmp 26) (Operand.const (Value.int IntKind.i64 400)) 3), 4, none⟩] (Q .normal ds) σ w := mk_eq rfl
@[push_cast] theorem vr9_7 (Q : Post) (ds : List Deferred) (σ : Env) (w : World) : vc Try.prog (.region r9_7) Q ds σ w = vcOps Try.prog [⟨some 28, (Op.move (Operand.tmp 3)), 40, none⟩, ⟨some 29, (Op.convert 40 9 (Operand.tmp 28)), 9, none⟩, ⟨some 7, (Op.assign (Operand.tmp 29)), 9, none⟩] (Q .normal ds) σ w := mk_eq rfl
@[push_cast] theorem vr9_8 (Q : Post) (ds : List Deferred) (σ : Env) (w : World) : vc Try.prog (.region r9_8) Q ds σ w = vcOps Try.prog [⟨some 30, (Op.move (Operand.tmp 3)), 40, none⟩, ⟨some 31, (Op.fieldAddr 42 (Operand.tmp 6) 1), 0, none⟩, ⟨some 32, (Op.load 3 (Operand.tmp 31)), 3, none⟩, ⟨some 33, (Op.call { callee := (Callee.value (Operand.func 34)), args := #[(Operand.tmp 30), (Operand.tmp 32)], argTypes := #[40, 3] }), 40, none⟩, ⟨some 8, (Op.assign (Operand.tmp 33)), 40, none⟩] (Q .normal ds) σ w := mk_eq rfl
@[push_cast] theorem vr9_9 (Q : Post) (ds : List Deferred) (σ : Env) (w : World) : vc Try.prog (.region r9_9) Q ds σ w = vcOps Try.prog [⟨some 34, (Op.move (Operand.tmp 3)), 40, none⟩, ⟨some 35, (Op.fieldAddr 42 (Operand.tmp 6) 4), 0, none⟩, ⟨some 36, (Op.load 9 (Operand.tmp 35)), 9, none⟩, ⟨some 37, (Op.call { callee := (Callee.value (Operand.func 35)), args := #[(Operand.tmp 34), (Operand.tmp 36)], argTypes := #[40, 9] }), 40, none⟩, ⟨some 9, (Op.assign (Operand.tmp 37)), 40, none⟩] (Q .normal ds) σ w := mk_eq rfl
@[push_cast] theorem vr9_10 (Q : Post) (ds : List Deferred) (σ : Env) (w : World) : vc Try.prog (.draw r9_10 true) Q ds σ w = drawn Try.prog [(⟨some 38, (Op.move (Operand.tmp 3)), 40, none⟩, [3]), (⟨some 39, (Op.convert 40 9 (Operand.tmp 38)), 9, none⟩, [38]), (⟨some 40, (Op.move (Operand.tmp 7)), 9, none⟩, [7]), (⟨some 41, (Op.binOp BinOp.neq 9 (Operand.tmp 39) (Operand.tmp 40) 9), 4, none⟩, [39, 40]), (⟨some 42, (Op.move (Operand.tmp 41)), 4, none⟩, [41]), (⟨some 43, (Op.move (Operand.tmp 8)), 40, some (42, false)⟩, [8, 42]), (⟨some 44, (Op.convert 40 9 (Operand.tmp 43)), 9, some (42, false)⟩, [43, 42]), (⟨some 45, (Op.move (Operand.tmp 7)), 9, some (42, false)⟩, [7, 42]), (⟨some 46, (Op.fieldAddr 42 (Operand.tmp 6) 1), 0, some (42, false)⟩, [6, 42]), (⟨some 47, (Op.load 3 (Operand.tmp 46)), 3, some (42, false)⟩, [46, 42]), (⟨some 48, (Op.call { callee := (Callee.value (Operand.func 36)), args := #[(Operand.tmp 47)], argTypes := #[3] }), 40, some (42, false)⟩, [47, 42]), (⟨some 49, (Op.convert 40 9 (Operand.tmp 48)), 9, some (42, false)⟩, [48, 42]), (⟨some 50, (Op.binOp BinOp.add 9 (Operand.tmp 45) (Operand.tmp 49) 9), 9, some (42, false)⟩, [45, 49, 42]), (⟨some 51, (Op.binOp BinOp.neq 9 (Operand.tmp 44) (Operand.tmp 50) 9), 4, some (42, false)⟩, [44, 50, 42]), (⟨some 52, (Op.pick (Operand.tmp 42) (Operand.const (Value.bool true)) (Operand.tmp 51)), 4, none⟩, [42, 51]), (⟨some 53, (Op.move (Operand.tmp 52)), 4, none⟩, [52]), (⟨some 54, (Op.move (Operand.tmp 9)), 40, some (53, false)⟩, [9, 53]), (⟨some 55, (Op.convert 40 9 (Operand.tmp 54)), 9, some (53, false)⟩, [54, 53]), (⟨some 56, (Op.move (Operand.tmp 7)), 9, some (53, false)⟩, [7, 53]), (⟨some 57, (Op.fieldAddr 42 (Operand.tmp 6) 4), 0, some (53, false)⟩, [6, 53]), (⟨some 58, (Op.load 9 (Operand.tmp 57)), 9, some (53, false)⟩, [57, 53]), (⟨some 59, (Op.call { callee := (Callee.value (Operand.func 37)), args := #[(Operand.tmp 58)], argTypes := #[9] }), 40, some (53, false)⟩, [58, 53]), (⟨some 60, (Op.convert 40 9 (Operand.tmp 59)), 9, some (53, false)⟩, [59, 53]), (⟨some 61, (Op.binOp BinOp.add 9 (Operand.tmp 56) (Operand.tmp 60) 9), 9, some (53, false)⟩, [56, 60, 53]), (⟨some 62, (Op.binOp BinOp.neq 9 (Operand.tmp 55) (Operand.tmp 61) 9), 4, some (53, false)⟩, [55, 61, 53]), (⟨some 63, (Op.pick (Operand.tmp 53) (Operand.const (Value.bool true)) (Operand.tmp 62)), 4, none⟩, [53, 62])] true (Q .normal ds) σ w := mk_eq rfl
@[push_cast] theorem vr9_11 (Q : Post) (ds : List Deferred) (σ : Env) (w : World) : vc Try.prog (.region r9_11) Q ds σ w = vcOps Try.prog [⟨some 2, (Op.assign (Operand.const (Value.bool false))), 4, none⟩] (Q .normal ds) σ w := mk_eq rfl
@[push_cast] theorem vr9_12 (Q : Post) (ds : List Deferred) (σ : Env) (w : World) : vc Try.prog (.region r9_12) Q ds σ w = vcOps Try.prog [⟨some 64, (Op.move (Operand.tmp 8)), 40, none⟩, ⟨some 3, (Op.assign (Operand.tmp 64)), 40, none⟩] (Q .normal ds) σ w := mk_eq rfl
@[push_cast] theorem vr9_13 (Q : Post) (ds : List Deferred) (σ : Env) (w : World) : vc Try.prog (.region r9_13) Q ds σ w = vcOps Try.prog [⟨some 65, (Op.move (Operand.tmp 4)), 40, none⟩, ⟨some 66, (Op.fieldAddr 42 (Operand.tmp 6) 1), 0, none⟩, ⟨some 67, (Op.load 3 (Operand.tmp 66)), 3, none⟩, ⟨some 68, (Op.call { callee := (Callee.value (Operand.func 36)), args := #[(Operand.tmp 67)], argTypes := #[3] }), 40, none⟩, ⟨some 69, (Op.call { callee := (Callee.builtin Builtin.append), args := #[(Operand.tmp 65), (Operand.tmp 68)], argTypes := #[40, 40] }), 40, none⟩, ⟨some 4, (Op.assign (Operand.tmp 69)), 40, none⟩] (Q .normal ds) σ w := mk_eq rfl
@[push_cast] theorem vr9_14 (Q : Post) (ds : List Deferred) (σ : Env) (w : World) : vc Try.prog (.region r9_14) Q ds σ w = vcOps Try.prog [⟨some 70, (Op.fieldAddr 42 (Operand.tmp 6) 0), 0, none⟩, ⟨some 71, (Op.load 3 (Operand.tmp 70)), 3, none⟩, ⟨some 72, (Op.binOp BinOp.eql 3 (Operand.tmp 71) (Operand.const (Value.int IntKind.i64 2)) 3), 4, none⟩] (Q .normal ds) σ w := mk_eq rfl
@[push_cast] theorem vr9_15 (Q : Post) (ds : List Deferred) (σ : Env) (w : World) : vc Try.prog (.region r9_15) Q ds σ w = vcOps Try.prog [⟨some 73, (Op.move (Operand.tmp 3)), 40, none⟩, ⟨some 74, (Op.fieldAddr 42 (Operand.tmp 6) 4), 0, none⟩, ⟨some 75, (Op.load 9 (Operand.tmp 74)), 9, none⟩, ⟨some 76, (Op.call { callee := (Callee.value (Operand.func 35)), args := #[(Operand.tmp 73), (Operand.tmp 75)], argTypes := #[40, 9] }), 40, none⟩, ⟨some 3, (Op.assign (Operand.tmp 76)), 40, none⟩] (Q .normal ds) σ w := mk_eq rfl
@[push_cast] theorem vr9_16 (Q : Post) (ds : List Deferred) (σ : Env) (w : World) : vc Try.prog (.region r9_16) Q ds σ w = vcOps Try.prog [⟨some 77, (Op.move (Operand.tmp 4)), 40, none⟩, ⟨some 78, (Op.fieldAddr 42 (Operand.tmp 6) 4), 0, none⟩, ⟨some 79, (Op.load 9 (Operand.tmp 78)), 9, none⟩, ⟨some 80, (Op.call { callee := (Callee.value (Operand.func 37)), args := #[(Operand.tmp 79)], argTypes := #[9] }), 40, none⟩, ⟨some 81, (Op.call { callee := (Callee.builtin Builtin.append), args := #[(Operand.tmp 77), (Operand.tmp 80)], argTypes := #[40, 40] }), 40, none⟩, ⟨some 4, (Op.assign (Operand.tmp 81)), 40, none⟩] (Q .normal ds) σ w := mk_eq rfl
@[push_cast] theorem vr9_4 (Q : Post) (ds : List Deferred) (σ : Env) (w : World) : vc Try.prog (.region r9_4) Q ds σ w = vcOps Try.prog [⟨some 18, (Op.move (Operand.tmp 5)), 3, none⟩, ⟨some 19, (Op.binOp BinOp.add 3 (Operand.tmp 18) (Operand.const (Value.int IntKind.i64 1)) 3), 3, none⟩, ⟨some 5, (Op.assign (Operand.tmp 19)), 3, none⟩] (Q .normal ds) σ w := mk_eq rfl
@[push_cast] theorem vr9_17 (Q : Post) (ds : List Deferred) (σ : Env) (w : World) : vc Try.prog (.region r9_17) Q ds σ w = vcOps Try.prog [⟨some 82, (Op.call { callee := (Callee.value (Operand.func 29)), args := #[], argTypes := #[] }), 4, none⟩, ⟨some 83, (Op.move (Operand.tmp 82)), 4, none⟩, ⟨some 84, (Op.move (Operand.tmp 3)), 40, some (83, true)⟩, ⟨some 85, (Op.convert 40 9 (Operand.tmp 84)), 9, some (83, true)⟩, ⟨some 86, (Op.move (Operand.tmp 4)), 40, some (83, true)⟩, ⟨some 87, (Op.convert 40 9 (Operand.tmp 86)), 9, some (83, true)⟩, ⟨some 88, (Op.binOp BinOp.eql 9 (Operand.tmp 85) (Operand.tmp 87) 9), 4, some (83, true)⟩, ⟨some 89, (Op.pick (Operand.tmp 83) (Operand.tmp 88) (Operand.const (Value.bool false))), 4, none⟩, ⟨some 2, (Op.assign (Operand.tmp 89)), 4, none⟩] (Q .normal ds) σ w := mk_eq rfl
/-! 10 columbary/columbarylaw01.ZigBack (params #[39, 40], results #[(ResultVar.tmp 4)], 148 slots) -/
def W10_0 : List Nat := [5, 6, 7, 19, 20, 21, 22, 23, 24, 25, 26, 27, 28, 29, 30, 31, 32, 33, 34, 35, 36, 37, 38, 39, 40, 41, 42, 43, 44, 45, 46, 47, 48, 49, 50]
@[push_cast] theorem W10_0_def : W10_0 = [5, 6, 7, 19, 20, 21, 22, 23, 24, 25, 26, 27, 28, 29, 30, 31, 32, 33, 34, 35, 36, 37, 38, 39, 40, 41, 42, 43, 44, 45, 46, 47, 48, 49, 50] := mk_eq rfl
def W10_1 : List Nat := [4, 9, 10, 11, 12, 13, 14, 53, 54, 55, 56, 57, 58, 59, 60, 61, 62, 63, 64, 65, 66, 67, 68, 69, 70, 71, 72, 73, 74, 75, 76, 77, 78, 79, 80, 81, 82, 83, 84, 85, 86, 87, 88, 89, 90, 91, 92, 93, 94, 95, 96, 97, 98, 99, 100]
@[push_cast] theorem W10_1_def : W10_1 = [4, 9, 10, 11, 12, 13, 14, 53, 54, 55, 56, 57, 58, 59, 60, 61, 62, 63, 64, 65, 66, 67, 68, 69, 70, 71, 72, 73, 74, 75, 76, 77, 78, 79, 80, 81, 82, 83, 84, 85, 86, 87, 88, 89, 90, 91, 92, 93, 94, 95, 96, 97, 98, 99, 100] := mk_eq rfl
def r10_0 : List VOp :=
  [⟨some 4, (Op.assign (Operand.const (Value.bool false))), 4, none⟩]
def r10_1 : List VOp :=
  [⟨some 5, (Op.assign (Operand.const (Value.slice none 0 0))), 40, none⟩]
def r10_2 : List VOp :=
  [⟨some 6, (Op.assign (Operand.const (Value.int IntKind.i64 0))), 3, none⟩]
def r10_3 : List VOp :=
  [⟨some 7, (Op.assign (Operand.const (Value.int IntKind.i64 0))), 3, none⟩]
def r10_4 : List VOp :=
  [⟨some 19, (Op.move (Operand.tmp 7)), 3, none⟩,
   ⟨some 20, (Op.move (Operand.tmp 0)), 39, none⟩,
   ⟨some 21, (Op.call { callee := (Callee.builtin Builtin.len), args := #[(Operand.tmp 20)], argTypes := #[39] }), 3, none⟩,
   ⟨some 22, (Op.binOp BinOp.lss 3 (Operand.tmp 19) (Operand.tmp 21) 3), 4, none⟩,
   ⟨some 23, (Op.move (Operand.tmp 22)), 4, none⟩,
   ⟨some 24, (Op.move (Operand.tmp 7)), 3, some (23, true)⟩,
   ⟨some 25, (Op.binOp BinOp.lss 3 (Operand.tmp 24) (Operand.const (Value.int IntKind.i64 60)) 3), 4, some (23, true)⟩,
   ⟨some 26, (Op.pick (Operand.tmp 23) (Operand.tmp 25) (Operand.const (Value.bool false))), 4, none⟩]
def r10_6 : List VOp :=
  [⟨some 29, (Op.move (Operand.tmp 0)), 39, none⟩,
   ⟨some 30, (Op.move (Operand.tmp 7)), 3, none⟩,
   ⟨some 31, (Op.indexAddr 39 (Operand.tmp 29) (Operand.tmp 30)), 0, none⟩,
   ⟨some 32, (Op.fieldAddr 42 (Operand.tmp 31) 4), 0, none⟩,
   ⟨some 33, (Op.load 9 (Operand.tmp 32)), 9, none⟩,
   ⟨some 34, (Op.call { callee := (Callee.builtin Builtin.len), args := #[(Operand.tmp 33)], argTypes := #[9] }), 3, none⟩,
   ⟨some 35, (Op.binOp BinOp.leq 3 (Operand.tmp 34) (Operand.const (Value.int IntKind.i64 400)) 3), 4, none⟩]
def r10_7 : List VOp :=
  [⟨some 36, (Op.move (Operand.tmp 5)), 40, none⟩,
   ⟨some 37, (Op.move (Operand.tmp 0)), 39, none⟩,
   ⟨some 38, (Op.move (Operand.tmp 7)), 3, none⟩,
   ⟨some 39, (Op.indexAddr 39 (Operand.tmp 37) (Operand.tmp 38)), 0, none⟩,
   ⟨some 40, (Op.fieldAddr 42 (Operand.tmp 39) 1), 0, none⟩,
   ⟨some 41, (Op.load 3 (Operand.tmp 40)), 3, none⟩,
   ⟨some 42, (Op.call { callee := (Callee.value (Operand.func 34)), args := #[(Operand.tmp 36), (Operand.tmp 41)], argTypes := #[40, 3] }), 40, none⟩,
   ⟨some 43, (Op.move (Operand.tmp 0)), 39, none⟩,
   ⟨some 44, (Op.move (Operand.tmp 7)), 3, none⟩,
   ⟨some 45, (Op.indexAddr 39 (Operand.tmp 43) (Operand.tmp 44)), 0, none⟩,
   ⟨some 46, (Op.fieldAddr 42 (Operand.tmp 45) 4), 0, none⟩,
   ⟨some 47, (Op.load 9 (Operand.tmp 46)), 9, none⟩,
   ⟨some 48, (Op.call { callee := (Callee.value (Operand.func 35)), args := #[(Operand.tmp 42), (Operand.tmp 47)], argTypes := #[40, 9] }), 40, none⟩,
   ⟨some 5, (Op.assign (Operand.tmp 48)), 40, none⟩]
def r10_8 : List VOp :=
  [⟨some 49, (Op.move (Operand.tmp 7)), 3, none⟩,
   ⟨some 50, (Op.binOp BinOp.add 3 (Operand.tmp 49) (Operand.const (Value.int IntKind.i64 1)) 3), 3, none⟩,
   ⟨some 6, (Op.assign (Operand.tmp 50)), 3, none⟩]
def r10_5 : List VOp :=
  [⟨some 27, (Op.move (Operand.tmp 7)), 3, none⟩,
   ⟨some 28, (Op.binOp BinOp.add 3 (Operand.tmp 27) (Operand.const (Value.int IntKind.i64 1)) 3), 3, none⟩,
   ⟨some 7, (Op.assign (Operand.tmp 28)), 3, none⟩]
def r10_9 : List VOp :=
  [⟨some 51, (Op.move (Operand.tmp 5)), 40, none⟩,
   ⟨some 52, (Op.call { callee := (Callee.value (Operand.func 38)), args := #[(Operand.tmp 51)], argTypes := #[40] }), 48, none⟩,
   ⟨some 8, (Op.assign (Operand.tmp 52)), 48, none⟩]
def r10_10 : List VOp :=
  [⟨some 9, (Op.assign (Operand.const (Value.int IntKind.i64 0))), 3, none⟩]
def r10_11 : List VOp :=
  [⟨some 53, (Op.move (Operand.tmp 9)), 3, none⟩,
   ⟨some 54, (Op.move (Operand.tmp 6)), 3, none⟩,
   ⟨some 55, (Op.binOp BinOp.lss 3 (Operand.tmp 53) (Operand.tmp 54) 3), 4, none⟩]
def r10_13 : List VOp :=
  [⟨some 58, (Op.move (Operand.tmp 0)), 39, none⟩,
   ⟨some 59, (Op.move (Operand.tmp 9)), 3, none⟩,
   ⟨some 60, (Op.indexAddr 39 (Operand.tmp 58) (Operand.tmp 59)), 0, none⟩,
   ⟨some 61, (Op.load 42 (Operand.tmp 60)), 42, none⟩,
   ⟨some 10, (Op.alloc 42), 0, none⟩,
   ⟨none, (Op.store 42 (Operand.tmp 10) (Operand.tmp 61)), 0, none⟩]
def r10_14 : List VOp :=
  [⟨some 62, (Op.fieldAddr 42 (Operand.tmp 10) 4), 0, none⟩,
   ⟨some 63, (Op.load 9 (Operand.tmp 62)), 9, none⟩,
   ⟨some 64, (Op.call { callee := (Callee.builtin Builtin.len), args := #[(Operand.tmp 63)], argTypes := #[9] }), 3, none⟩,
   ⟨some 65, (Op.binOp BinOp.gtr 3 (Operand.tmp 64) (Operand.const (Value.int IntKind.i64 400)) 3), 4, none⟩]
def r10_15 : List VOp :=
  [⟨some 67, (Op.move (Operand.tmp 8)), 48, none⟩,
   ⟨some 68, (Op.fieldAddr 42 (Operand.tmp 10) 1), 0, none⟩,
   ⟨some 69, (Op.load 3 (Operand.tmp 68)), 3, none⟩,
   ⟨some 70, (Op.fieldAddr 42 (Operand.tmp 10) 1), 0, none⟩,
   ⟨some 71, (Op.load 3 (Operand.tmp 70)), 3, none⟩,
   ⟨some 72, (Op.call { callee := (Callee.value (Operand.func 39)), args := #[(Operand.tmp 67), (Operand.tmp 69), (Operand.tmp 71)], argTypes := #[48, 3, 3] }), 30, none⟩,
   ⟨some 66, (Op.move (Operand.tmp 72)), 30, none⟩,
   ⟨some 73, (Op.extract (Operand.tmp 66) 0), 3, none⟩,
   ⟨some 74, (Op.extract (Operand.tmp 66) 1), 23, none⟩,
   ⟨some 11, (Op.assign (Operand.tmp 73)), 3, none⟩,
   ⟨some 12, (Op.assign (Operand.tmp 74)), 23, none⟩]
def r10_16 : List VOp :=
  [⟨some 76, (Op.move (Operand.tmp 8)), 48, none⟩,
   ⟨some 77, (Op.fieldAddr 42 (Operand.tmp 10) 4), 0, none⟩,
   ⟨some 78, (Op.load 9 (Operand.tmp 77)), 9, none⟩,
   ⟨some 79, (Op.call { callee := (Callee.builtin Builtin.len), args := #[(Operand.tmp 78)], argTypes := #[9] }), 3, none⟩,
   ⟨some 80, (Op.call { callee := (Callee.value (Operand.func 40)), args := #[(Operand.tmp 76), (Operand.tmp 79)], argTypes := #[48, 3] }), 50, none⟩,
   ⟨some 75, (Op.move (Operand.tmp 80)), 50, none⟩,
   ⟨some 81, (Op.extract (Operand.tmp 75) 0), 9, none⟩,
   ⟨some 82, (Op.extract (Operand.tmp 75) 1), 23, none⟩,
   ⟨some 13, (Op.assign (Operand.tmp 81)), 9, none⟩,
   ⟨some 14, (Op.assign (Operand.tmp 82)), 23, none⟩]
def r10_17 : List VOp :=
  [⟨some 83, (Op.move (Operand.tmp 12)), 23, none⟩,
   ⟨some 84, (Op.binOp BinOp.neq 23 (Operand.tmp 83) (Operand.const (Value.int IntKind.i64 0)) 23), 4, none⟩,
   ⟨some 85, (Op.move (Operand.tmp 84)), 4, none⟩,
   ⟨some 86, (Op.move (Operand.tmp 14)), 23, some (85, false)⟩,
   ⟨some 87, (Op.binOp BinOp.neq 23 (Operand.tmp 86) (Operand.const (Value.int IntKind.i64 0)) 23), 4, some (85, false)⟩,
   ⟨some 88, (Op.pick (Operand.tmp 85) (Operand.const (Value.bool true)) (Operand.tmp 87)), 4, none⟩,
   ⟨some 89, (Op.move (Operand.tmp 88)), 4, none⟩,
   ⟨some 90, (Op.move (Operand.tmp 11)), 3, some (89, false)⟩,
   ⟨some 91, (Op.fieldAddr 42 (Operand.tmp 10) 1), 0, some (89, false)⟩,
   ⟨some 92, (Op.load 3 (Operand.tmp 91)), 3, some (89, false)⟩,
   ⟨some 93, (Op.binOp BinOp.neq 3 (Operand.tmp 90) (Operand.tmp 92) 3), 4, some (89, false)⟩,
   ⟨some 94, (Op.pick (Operand.tmp 89) (Operand.const (Value.bool true)) (Operand.tmp 93)), 4, none⟩,
   ⟨some 95, (Op.move (Operand.tmp 94)), 4, none⟩,
   ⟨some 96, (Op.move (Operand.tmp 13)), 9, some (95, false)⟩,
   ⟨some 97, (Op.fieldAddr 42 (Operand.tmp 10) 4), 0, some (95, false)⟩,
   ⟨some 98, (Op.load 9 (Operand.tmp 97)), 9, some (95, false)⟩,
   ⟨some 99, (Op.binOp BinOp.neq 9 (Operand.tmp 96) (Operand.tmp 98) 9), 4, some (95, false)⟩,
   ⟨some 100, (Op.pick (Operand.tmp 95) (Operand.const (Value.bool true)) (Operand.tmp 99)), 4, none⟩]
def r10_18 : List VOp :=
  [⟨some 4, (Op.assign (Operand.const (Value.bool false))), 4, none⟩]
def r10_12 : List VOp :=
  [⟨some 56, (Op.move (Operand.tmp 9)), 3, none⟩,
   ⟨some 57, (Op.binOp BinOp.add 3 (Operand.tmp 56) (Operand.const (Value.int IntKind.i64 1)) 3), 3, none⟩,
   ⟨some 9, (Op.assign (Operand.tmp 57)), 3, none⟩]
def r10_19 : List VOp :=
  [⟨some 101, (Op.move (Operand.tmp 8)), 48, none⟩,
   ⟨some 102, (Op.call { callee := (Callee.value (Operand.func 41)), args := #[(Operand.tmp 101)], argTypes := #[48] }), 3, none⟩,
   ⟨some 103, (Op.binOp BinOp.neq 3 (Operand.tmp 102) (Operand.const (Value.int IntKind.i64 0)) 3), 4, none⟩]
def r10_20 : List VOp :=
  [⟨some 4, (Op.assign (Operand.const (Value.bool false))), 4, none⟩]
def r10_21 : List VOp :=
  [⟨some 104, (Op.move (Operand.tmp 1)), 40, none⟩,
   ⟨some 105, (Op.call { callee := (Callee.builtin Builtin.len), args := #[(Operand.tmp 104)], argTypes := #[40] }), 3, none⟩,
   ⟨some 106, (Op.binOp BinOp.gtr 3 (Operand.tmp 105) (Operand.const (Value.int IntKind.i64 400)) 3), 4, none⟩]
def r10_22 : List VOp :=
  [⟨some 107, (Op.call { callee := (Callee.value (Operand.func 29)), args := #[], argTypes := #[] }), 4, none⟩,
   ⟨some 4, (Op.assign (Operand.tmp 107)), 4, none⟩]
def r10_23 : List VOp :=
  [⟨some 108, (Op.move (Operand.tmp 1)), 40, none⟩,
   ⟨some 109, (Op.call { callee := (Callee.value (Operand.func 38)), args := #[(Operand.tmp 108)], argTypes := #[40] }), 48, none⟩,
   ⟨some 15, (Op.assign (Operand.tmp 109)), 48, none⟩]
def r10_24 : List VOp :=
  [⟨some 111, (Op.move (Operand.tmp 15)), 48, none⟩,
   ⟨some 112, (Op.call { callee := (Callee.value (Operand.func 39)), args := #[(Operand.tmp 111), (Operand.const (Value.int IntKind.i64 (-9223372036854775808))), (Operand.const (Value.int IntKind.i64 9223372036854775807))], argTypes := #[48, 3, 3] }), 30, none⟩,
   ⟨some 110, (Op.move (Operand.tmp 112)), 30, none⟩,
   ⟨some 113, (Op.extract (Operand.tmp 110) 0), 3, none⟩,
   ⟨some 114, (Op.extract (Operand.tmp 110) 1), 23, none⟩,
   ⟨some 16, (Op.assign (Operand.tmp 113)), 3, none⟩,
   ⟨some 17, (Op.assign (Operand.tmp 114)), 23, none⟩]
def r10_25 : List VOp :=
  [⟨some 115, (Op.move (Operand.tmp 17)), 23, none⟩,
   ⟨some 116, (Op.binOp BinOp.neq 23 (Operand.tmp 115) (Operand.const (Value.int IntKind.i64 0)) 23), 4, none⟩]
def r10_26 : List VOp :=
  [⟨some 117, (Op.call { callee := (Callee.value (Operand.func 29)), args := #[], argTypes := #[] }), 4, none⟩,
   ⟨some 118, (Op.move (Operand.tmp 117)), 4, none⟩,
   ⟨some 119, (Op.move (Operand.tmp 15)), 48, some (118, true)⟩,
   ⟨some 120, (Op.call { callee := (Callee.value (Operand.func 41)), args := #[(Operand.tmp 119)], argTypes := #[48] }), 3, some (118, true)⟩,
   ⟨some 121, (Op.move (Operand.tmp 1)), 40, some (118, true)⟩,
   ⟨some 122, (Op.call { callee := (Callee.builtin Builtin.len), args := #[(Operand.tmp 121)], argTypes := #[40] }), 3, some (118, true)⟩,
   ⟨some 123, (Op.binOp BinOp.eql 3 (Operand.tmp 120) (Operand.tmp 122) 3), 4, some (118, true)⟩,
   ⟨some 124, (Op.pick (Operand.tmp 118) (Operand.tmp 123) (Operand.const (Value.bool false))), 4, none⟩,
   ⟨some 4, (Op.assign (Operand.tmp 124)), 4, none⟩]
def r10_27 : List VOp :=
  [⟨some 125, (Op.move (Operand.tmp 16)), 3, none⟩,
   ⟨some 126, (Op.call { callee := (Callee.value (Operand.func 34)), args := #[(Operand.const (Value.slice none 0 0)), (Operand.tmp 125)], argTypes := #[40, 3] }), 40, none⟩,
   ⟨some 18, (Op.assign (Operand.tmp 126)), 40, none⟩]
def r10_28 : List VOp :=
  [⟨some 127, (Op.call { callee := (Callee.value (Operand.func 29)), args := #[], argTypes := #[] }), 4, none⟩,
   ⟨some 128, (Op.move (Operand.tmp 127)), 4, none⟩,
   ⟨some 129, (Op.move (Operand.tmp 18)), 40, some (128, true)⟩,
   ⟨some 130, (Op.call { callee := (Callee.builtin Builtin.len), args := #[(Operand.tmp 129)], argTypes := #[40] }), 3, some (128, true)⟩,
   ⟨some 131, (Op.move (Operand.tmp 1)), 40, some (128, true)⟩,
   ⟨some 132, (Op.call { callee := (Callee.builtin Builtin.len), args := #[(Operand.tmp 131)], argTypes := #[40] }), 3, some (128, true)⟩,
   ⟨some 133, (Op.move (Operand.tmp 15)), 48, some (128, true)⟩,
   ⟨some 134, (Op.call { callee := (Callee.value (Operand.func 41)), args := #[(Operand.tmp 133)], argTypes := #[48] }), 3, some (128, true)⟩,
   ⟨some 135, (Op.binOp BinOp.sub 3 (Operand.tmp 132) (Operand.tmp 134) 3), 3, some (128, true)⟩,
   ⟨some 136, (Op.binOp BinOp.eql 3 (Operand.tmp 130) (Operand.tmp 135) 3), 4, some (128, true)⟩,
   ⟨some 137, (Op.pick (Operand.tmp 128) (Operand.tmp 136) (Operand.const (Value.bool false))), 4, none⟩,
   ⟨some 138, (Op.move (Operand.tmp 137)), 4, none⟩,
   ⟨some 139, (Op.move (Operand.tmp 18)), 40, some (138, true)⟩,
   ⟨some 140, (Op.convert 40 9 (Operand.tmp 139)), 9, some (138, true)⟩,
   ⟨some 141, (Op.move (Operand.tmp 1)), 40, some (138, true)⟩,
   ⟨some 142, (Op.move (Operand.tmp 18)), 40, some (138, true)⟩,
   ⟨some 143, (Op.call { callee := (Callee.builtin Builtin.len), args := #[(Operand.tmp 142)], argTypes := #[40] }), 3, some (138, true)⟩,
   ⟨some 144, (Op.slice 40 (Operand.tmp 141) none (some (Operand.tmp 143)) none), 40, some (138, true)⟩,
   ⟨some 145, (Op.convert 40 9 (Operand.tmp 144)), 9, some (138, true)⟩,
   ⟨some 146, (Op.binOp BinOp.eql 9 (Operand.tmp 140) (Operand.tmp 145) 9), 4, some (138, true)⟩,
   ⟨some 147, (Op.pick (Operand.tmp 138) (Operand.tmp 146) (Operand.const (Value.bool false))), 4, none⟩,
   ⟨some 4, (Op.assign (Operand.tmp 147)), 4, none⟩]
def B10 : VC :=
  (.seq (.region r10_0) (.seq (.region r10_1) (.seq (.region r10_2) (.seq (.seq (.region r10_3) (.block 0 (.loop (.seq (.seq (.region r10_4) (.cond (Operand.tmp 26) .skip (.exit 0))) (.seq (.block 1 (.seq (.region r10_6) (.cond (Operand.tmp 35) (.seq (.draw r10_7 true) (.region r10_8)) .skip))) (.region r10_5)))))) (.seq (.region r10_9) (.seq (.seq (.region r10_10) (.block 2 (.loop (.seq (.seq (.region r10_11) (.cond (Operand.tmp 55) .skip (.exit 2))) (.seq (.block 3 (.seq (.region r10_13) (.seq (.seq (.region r10_14) (.cond (Operand.tmp 65) (.exit 3) .skip)) (.seq (.region r10_15) (.seq (.region r10_16) (.seq (.region r10_17) (.cond (Operand.tmp 100) (.seq (.region r10_18) .ret) .skip))))))) (.region r10_12)))))) (.seq (.seq (.region r10_19) (.cond (Operand.tmp 103) (.seq (.region r10_20) .ret) .skip)) (.seq (.seq (.region r10_21) (.cond (Operand.tmp 106) (.seq (.region r10_22) .ret) .skip)) (.seq (.region r10_23) (.seq (.region r10_24) (.seq (.seq (.region r10_25) (.cond (Operand.tmp 116) (.seq (.region r10_26) .ret) .skip)) (.seq (.region r10_27) (.seq (.draw r10_28 true) .ret)))))))))))))
theorem code10 : ∃ c, Try.f10.body = some c ∧ abs Try.f10.ntmps c = B10 := ⟨_, rfl, by kernel_rfl⟩
theorem hb10 : HasBody Try.prog 10 := hasBody_of Try.func10 (by kernel_rfl)
theorem res10 : Try.f10.results = #[(ResultVar.tmp 4)] := rfl
theorem enter10 {w : World} {R : Value → World → Prop} (x0 x1 : Value) (h : vc Try.prog B10 (retK Try.prog #[(ResultVar.tmp 4)] R) [] (initEnv [x0, x1] 0) w) : FnC Try.prog 10 #[x0, x1] w R := by
  obtain ⟨c, h1, h2⟩ := code10
  exact hb10.fn (ret_of_vc mixed Try.func10 h1 (Nat.le_of_ble_eq_true rfl) B10 h2 h)
@[push_cast] theorem vr10_0 (Q : Post) (ds : List Deferred) (σ : Env) (w : World) : vc Try.prog (.region r10_0) Q ds σ w = vcOps Try.prog [⟨some 4, (Op.assign (Operand.const (Value.bool false))), 4, none⟩] (Q .normal ds) σ w := mk_eq rfl
@[push_cast] theorem vr10_1 (Q : Post) (ds : List Deferred) (σ : Env) (w : World) : vc Try.prog (.region r10_1) Q ds σ w = vcOps Try.prog [⟨some 5, (Op.assign (Operand.const (Value.slice none 0 0))), 40, none⟩] (Q .normal ds) σ w := mk_eq rfl
@[push_cast] theorem vr10_2 (Q : Post) (ds : List Deferred) (σ : Env) (w : World) : vc Try.prog (.region r10_2) Q ds σ w = vcOps Try.prog [⟨some 6, (Op.assign (Operand.const (Value.int IntKind.i64 0))), 3, none⟩] (Q .normal ds) σ w := mk_eq rfl
@[push_cast] theorem vr10_3 (Q : Post) (ds : List Deferred) (σ : Env) (w : World) : vc Try.prog (.region r10_3) Q ds σ w = vcOps Try.prog [⟨some 7, (Op.assign (Operand.const (Value.int IntKind.i64 0))), 3, none⟩] (Q .normal ds) σ w := mk_eq rfl
@[push_cast] theorem vr10_4 (Q : Post) (ds : List Deferred) (σ : Env) (w : World) : vc Try.prog (.region r10_4) Q ds σ w = vcOps Try.prog [⟨some 19, (Op.move (Operand.tmp 7)), 3, none⟩, ⟨some 20, (Op.move (Operand.tmp 0)), 39, none⟩, ⟨some 21, (Op.call { callee := (Callee.builtin Builtin.len), args := #[(Operand.tmp 20)], argTypes := #[39] }), 3, none⟩, ⟨some 22, (Op.binOp BinOp.lss 3 (Operand.tmp 19) (Operand.tmp 21) 3), 4, none⟩, ⟨some 23, (Op.move (Operand.tmp 22)), 4, none⟩, ⟨some 24, (Op.move (Operand.tmp 7)), 3, some (23, true)⟩, ⟨some 25, (Op.binOp BinOp.lss 3 (Operand.tmp 24) (Operand.const (Value.int IntKind.i64 60)) 3), 4, some (23, true)⟩, ⟨some 26, (Op.pick (Operand.tmp 23) (Operand.tmp 25) (Operand.const (Value.bool false))), 4, none⟩] (Q .normal ds) σ w := mk_eq rfl
@[push_cast] theorem vr10_6 (Q : Post) (ds : List Deferred) (σ : Env) (w : World) : vc Try.prog (.region r10_6) Q ds σ w = vcOps Try.prog [⟨some 29, (Op.move (Operand.tmp 0)), 39, none⟩, ⟨some 30, (Op.move (Operand.tmp 7)), 3, none⟩, ⟨some 31, (Op.indexAddr 39 (Operand.tmp 29) (Operand.tmp 30)), 0, none⟩, ⟨some 32, (Op.fieldAddr 42 (Operand.tmp 31) 4), 0, none⟩, ⟨some 33, (Op.load 9 (Operand.tmp 32)), 9, none⟩, ⟨some 34, (Op.call { callee := (Callee.builtin Builtin.len), args := #[(Operand.tmp 33)], argTypes := #[9] }), 3, none⟩, ⟨some 35, (Op.binOp BinOp.leq 3 (Operand.tmp 34) (Operand.const (Value.int IntKind.i64 400)) 3), 4, none⟩] (Q .normal ds) σ w := mk_eq rfl
@[push_cast] theorem vr10_7 (Q : Post) (ds : List Deferred) (σ : Env) (w : World) : vc Try.prog (.draw r10_7 true) Q ds σ w = drawn Try.prog [(⟨some 36, (Op.move (Operand.tmp 5)), 40, none⟩, [5]), (⟨some 37, (Op.move (Operand.tmp 0)), 39, none⟩, [0]), (⟨some 38, (Op.move (Operand.tmp 7)), 3, none⟩, [7]), (⟨some 39, (Op.indexAddr 39 (Operand.tmp 37) (Operand.tmp 38)), 0, none⟩, [37, 38]), (⟨some 40, (Op.fieldAddr 42 (Operand.tmp 39) 1), 0, none⟩, [39]), (⟨some 41, (Op.load 3 (Operand.tmp 40)), 3, none⟩, [40]), (⟨some 42, (Op.call { callee := (Callee.value (Operand.func 34)), args := #[(Operand.tmp 36), (Operand.tmp 41)], argTypes := #[40, 3] }), 40, none⟩, [36, 41]), (⟨some 43, (Op.move (Operand.tmp 0)), 39, none⟩, [0]), (⟨some 44, (Op.move (Operand.tmp 7)), 3, none⟩, [7]), (⟨some 45, (Op.indexAddr 39 (Operand.tmp 43) (Operand.tmp 44)), 0, none⟩, [43, 44]), (⟨some 46, (Op.fieldAddr 42 (Operand.tmp 45) 4), 0, none⟩, [45]), (⟨some 47, (Op.load 9 (Operand.tmp 46)), 9, none⟩, [46]), (⟨some 48, (Op.call { callee := (Callee.value (Operand.func 35)), args := #[(Operand.tmp 42), (Operand.tmp 47)], argTypes := #[40, 9] }), 40, none⟩, [42, 47]), (⟨some 5, (Op.assign (Operand.tmp 48)), 40, none⟩, [48])] true (Q .normal ds) σ w := mk_eq rfl
@[push_cast] theorem vr10_8 (Q : Post) (ds : List Deferred) (σ : Env) (w : World) : vc Try.prog (.region r10_8) Q ds σ w = vcOps Try.prog [⟨some 49, (Op.move (Operand.tmp 7)), 3, none⟩, ⟨some 50, (Op.binOp BinOp.add 3 (Operand.tmp 49) (Operand.const (Value.int IntKind.i64 1)) 3), 3, none⟩, ⟨some 6, (Op.assign (Operand.tmp 50)), 3, none⟩] (Q .normal ds) σ w := mk_eq rfl
@[push_cast] theorem vr10_5 (Q : Post) (ds : List Deferred) (σ : Env) (w : World) : vc Try.prog (.region r10_5) Q ds σ w = vcOps Try.prog [⟨some 27, (Op.move (Operand.tmp 7)), 3, none⟩, ⟨some 28, (Op.binOp BinOp.add 3 (Operand.tmp 27) (Operand.const (Value.int IntKind.i64 1)) 3), 3, none⟩, ⟨some 7, (Op.assign (Operand.tmp 28)), 3, none⟩] (Q .normal ds) σ w := mk_eq rfl
@[push_cast] theorem vr10_9 (Q : Post) (ds : List Deferred) (σ : Env) (w : World) : vc Try.prog (.region r10_9) Q ds σ w = vcOps Try.prog [⟨some 51, (Op.move (Operand.tmp 5)), 40, none⟩, ⟨some 52, (Op.call { callee := (Callee.value (Operand.func 38)), args := #[(Operand.tmp 51)], argTypes := #[40] }), 48, none⟩, ⟨some 8, (Op.assign (Operand.tmp 52)), 48, none⟩] (Q .normal ds) σ w := mk_eq rfl
@[push_cast] theorem vr10_10 (Q : Post) (ds : List Deferred) (σ : Env) (w : World) : vc Try.prog (.region r10_10) Q ds σ w = vcOps Try.prog [⟨some 9, (Op.assign (Operand.const (Value.int IntKind.i64 0))), 3, none⟩] (Q .normal ds) σ w := mk_eq rfl
@[push_cast] theorem vr10_11 (Q : Post) (ds : List Deferred) (σ : Env) (w : World) : vc Try.prog (.region r10_11) Q ds σ w = vcOps Try.prog [⟨some 53, (Op.move (Operand.tmp 9)), 3, none⟩, ⟨some 54, (Op.move (Operand.tmp 6)), 3, none⟩, ⟨some 55, (Op.binOp BinOp.lss 3 (Operand.tmp 53) (Operand.tmp 54) 3), 4, none⟩] (Q .normal ds) σ w := mk_eq rfl
@[push_cast] theorem vr10_13 (Q : Post) (ds : List Deferred) (σ : Env) (w : World) : vc Try.prog (.region r10_13) Q ds σ w = vcOps Try.prog [⟨some 58, (Op.move (Operand.tmp 0)), 39, none⟩, ⟨some 59, (Op.move (Operand.tmp 9)), 3, none⟩, ⟨some 60, (Op.indexAddr 39 (Operand.tmp 58) (Operand.tmp 59)), 0, none⟩, ⟨some 61, (Op.load 42 (Operand.tmp 60)), 42, none⟩, ⟨some 10, (Op.alloc 42), 0, none⟩, ⟨none, (Op.store 42 (Operand.tmp 10) (Operand.tmp 61)), 0, none⟩] (Q .normal ds) σ w := mk_eq rfl
@[push_cast] theorem vr10_14 (Q : Post) (ds : List Deferred) (σ : Env) (w : World) : vc Try.prog (.region r10_14) Q ds σ w = vcOps Try.prog [⟨some 62, (Op.fieldAddr 42 (Operand.tmp 10) 4), 0, none⟩, ⟨some 63, (Op.load 9 (Operand.tmp 62)), 9, none⟩, ⟨some 64, (Op.call { callee := (Callee.builtin Builtin.len), args := #[(Operand.tmp 63)], argTypes := #[9] }), 3, none⟩, ⟨some 65, (Op.binOp BinOp.gtr 3 (Operand.tmp 64) (Operand.const (Value.int IntKind.i64 400)) 3), 4, none⟩] (Q .normal ds) σ w := mk_eq rfl
@[push_cast] theorem vr10_15 (Q : Post) (ds : List Deferred) (σ : Env) (w : World) : vc Try.prog (.region r10_15) Q ds σ w = vcOps Try.prog [⟨some 67, (Op.move (Operand.tmp 8)), 48, none⟩, ⟨some 68, (Op.fieldAddr 42 (Operand.tmp 10) 1), 0, none⟩, ⟨some 69, (Op.load 3 (Operand.tmp 68)), 3, none⟩, ⟨some 70, (Op.fieldAddr 42 (Operand.tmp 10) 1), 0, none⟩, ⟨some 71, (Op.load 3 (Operand.tmp 70)), 3, none⟩, ⟨some 72, (Op.call { callee := (Callee.value (Operand.func 39)), args := #[(Operand.tmp 67), (Operand.tmp 69), (Operand.tmp 71)], argTypes := #[48, 3, 3] }), 30, none⟩, ⟨some 66, (Op.move (Operand.tmp 72)), 30, none⟩, ⟨some 73, (Op.extract (Operand.tmp 66) 0), 3, none⟩, ⟨some 74, (Op.extract (Operand.tmp 66) 1), 23, none⟩, ⟨some 11, (Op.assign (Operand.tmp 73)), 3, none⟩, ⟨some 12, (Op.assign (Operand.tmp 74)), 23, none⟩] (Q .normal ds) σ w := mk_eq rfl
@[push_cast] theorem vr10_16 (Q : Post) (ds : List Deferred) (σ : Env) (w : World) : vc Try.prog (.region r10_16) Q ds σ w = vcOps Try.prog [⟨some 76, (Op.move (Operand.tmp 8)), 48, none⟩, ⟨some 77, (Op.fieldAddr 42 (Operand.tmp 10) 4), 0, none⟩, ⟨some 78, (Op.load 9 (Operand.tmp 77)), 9, none⟩, ⟨some 79, (Op.call { callee := (Callee.builtin Builtin.len), args := #[(Operand.tmp 78)], argTypes := #[9] }), 3, none⟩, ⟨some 80, (Op.call { callee := (Callee.value (Operand.func 40)), args := #[(Operand.tmp 76), (Operand.tmp 79)], argTypes := #[48, 3] }), 50, none⟩, ⟨some 75, (Op.move (Operand.tmp 80)), 50, none⟩, ⟨some 81, (Op.extract (Operand.tmp 75) 0), 9, none⟩, ⟨some 82, (Op.extract (Operand.tmp 75) 1), 23, none⟩, ⟨some 13, (Op.assign (Operand.tmp 81)), 9, none⟩, ⟨some 14, (Op.assign (Operand.tmp 82)), 23, none⟩] (Q .normal ds) σ w := mk_eq rfl
@[push_cast] theorem vr10_17 (Q : Post) (ds : List Deferred) (σ : Env) (w : World) : vc Try.prog (.region r10_17) Q ds σ w = vcOps Try.prog [⟨some 83, (Op.move (Operand.tmp 12)), 23, none⟩, ⟨some 84, (Op.binOp BinOp.neq 23 (Operand.tmp 83) (Operand.const (Value.int IntKind.i64 0)) 23), 4, none⟩, ⟨some 85, (Op.move (Operand.tmp 84)), 4, none⟩, ⟨some 86, (Op.move (Operand.tmp 14)), 23, some (85, false)⟩, ⟨some 87, (Op.binOp BinOp.neq 23 (Operand.tmp 86) (Operand.const (Value.int IntKind.i64 0)) 23), 4, some (85, false)⟩, ⟨some 88, (Op.pick (Operand.tmp 85) (Operand.const (Value.bool true)) (Operand.tmp 87)), 4, none⟩, ⟨some 89, (Op.move (Operand.tmp 88)), 4, none⟩, ⟨some 90, (Op.move (Operand.tmp 11)), 3, some (89, false)⟩, ⟨some 91, (Op.fieldAddr 42 (Operand.tmp 10) 1), 0, some (89, false)⟩, ⟨some 92, (Op.load 3 (Operand.tmp 91)), 3, some (89, false)⟩, ⟨some 93, (Op.binOp BinOp.neq 3 (Operand.tmp 90) (Operand.tmp 92) 3), 4, some (89, false)⟩, ⟨some 94, (Op.pick (Operand.tmp 89) (Operand.const (Value.bool true)) (Operand.tmp 93)), 4, none⟩, ⟨some 95, (Op.move (Operand.tmp 94)), 4, none⟩, ⟨some 96, (Op.move (Operand.tmp 13)), 9, some (95, false)⟩, ⟨some 97, (Op.fieldAddr 42 (Operand.tmp 10) 4), 0, some (95, false)⟩, ⟨some 98, (Op.load 9 (Operand.tmp 97)), 9, some (95, false)⟩, ⟨some 99, (Op.binOp BinOp.neq 9 (Operand.tmp 96) (Operand.tmp 98) 9), 4, some (95, false)⟩, ⟨some 100, (Op.pick (Operand.tmp 95) (Operand.const (Value.bool true)) (Operand.tmp 99)), 4, none⟩] (Q .normal ds) σ w := mk_eq rfl
@[push_cast] theorem vr10_18 (Q : Post) (ds : List Deferred) (σ : Env) (w : World) : vc Try.prog (.region r10_18) Q ds σ w = vcOps Try.prog [⟨some 4, (Op.assign (Operand.const (Value.bool false))), 4, none⟩] (Q .normal ds) σ w := mk_eq rfl
@[push_cast] theorem vr10_12 (Q : Post) (ds : List Deferred) (σ : Env) (w : World) : vc Try.prog (.region r10_12) Q ds σ w = vcOps Try.prog [⟨some 56, (Op.move (Operand.tmp 9)), 3, none⟩, ⟨some 57, (Op.binOp BinOp.add 3 (Operand.tmp 56) (Operand.const (Value.int IntKind.i64 1)) 3), 3, none⟩, ⟨some 9, (Op.assign (Operand.tmp 57)), 3, none⟩] (Q .normal ds) σ w := mk_eq rfl
@[push_cast] theorem vr10_19 (Q : Post) (ds : List Deferred) (σ : Env) (w : World) : vc Try.prog (.region r10_19) Q ds σ w = vcOps Try.prog [⟨some 101, (Op.move (Operand.tmp 8)), 48, none⟩, ⟨some 102, (Op.call { callee := (Callee.value (Operand.func 41)), args := #[(Operand.tmp 101)], argTypes := #[48] }), 3, none⟩, ⟨some 103, (Op.binOp BinOp.neq 3 (Operand.tmp 102) (Operand.const (Value.int IntKind.i64 0)) 3), 4, none⟩] (Q .normal ds) σ w := mk_eq rfl
@[push_cast] theorem vr10_20 (Q : Post) (ds : List Deferred) (σ : Env) (w : World) : vc Try.prog (.region r10_20) Q ds σ w = vcOps Try.prog [⟨some 4, (Op.assign (Operand.const (Value.bool false))), 4, none⟩] (Q .normal ds) σ w := mk_eq rfl
@[push_cast] theorem vr10_21 (Q : Post) (ds : List Deferred) (σ : Env) (w : World) : vc Try.prog (.region r10_21) Q ds σ w = vcOps Try.prog [⟨some 104, (Op.move (Operand.tmp 1)), 40, none⟩, ⟨some 105, (Op.call { callee := (Callee.builtin Builtin.len), args := #[(Operand.tmp 104)], argTypes := #[40] }), 3, none⟩, ⟨some 106, (Op.binOp BinOp.gtr 3 (Operand.tmp 105) (Operand.const (Value.int IntKind.i64 400)) 3), 4, none⟩] (Q .normal ds) σ w := mk_eq rfl
@[push_cast] theorem vr10_22 (Q : Post) (ds : List Deferred) (σ : Env) (w : World) : vc Try.prog (.region r10_22) Q ds σ w = vcOps Try.prog [⟨some 107, (Op.call { callee := (Callee.value (Operand.func 29)), args := #[], argTypes := #[] }), 4, none⟩, ⟨some 4, (Op.assign (Operand.tmp 107)), 4, none⟩] (Q .normal ds) σ w := mk_eq rfl
@[push_cast] theorem vr10_23 (Q : Post) (ds : List Deferred) (σ : Env) (w : World) : vc Try.prog (.region r10_23) Q ds σ w = vcOps Try.prog [⟨some 108, (Op.move (Operand.tmp 1)), 40, none⟩, ⟨some 109, (Op.call { callee := (Callee.value (Operand.func 38)), args := #[(Operand.tmp 108)], argTypes := #[40] }), 48, none⟩, ⟨some 15, (Op.assign (Operand.tmp 109)), 48, none⟩] (Q .normal ds) σ w := mk_eq rfl
@[push_cast] theorem vr10_24 (Q : Post) (ds : List Deferred) (σ : Env) (w : World) : vc Try.prog (.region r10_24) Q ds σ w = vcOps Try.prog [⟨some 111, (Op.move (Operand.tmp 15)), 48, none⟩, ⟨some 112, (Op.call { callee := (Callee.value (Operand.func 39)), args := #[(Operand.tmp 111), (Operand.const (Value.int IntKind.i64 (-9223372036854775808))), (Operand.const (Value.int IntKind.i64 9223372036854775807))], argTypes := #[48, 3, 3] }), 30, none⟩, ⟨some 110, (Op.move (Operand.tmp 112)), 30, none⟩, ⟨some 113, (Op.extract (Operand.tmp 110) 0), 3, none⟩, ⟨some 114, (Op.extract (Operand.tmp 110) 1), 23, none⟩, ⟨some 16, (Op.assign (Operand.tmp 113)), 3, none⟩, ⟨some 17, (Op.assign (Operand.tmp 114)), 23, none⟩] (Q .normal ds) σ w := mk_eq rfl
@[push_cast] theorem vr10_25 (Q : Post) (ds : List Deferred) (σ : Env) (w : World) : vc Try.prog (.region r10_25) Q ds σ w = vcOps Try.prog [⟨some 115, (Op.move (Operand.tmp 17)), 23, none⟩, ⟨some 116, (Op.binOp BinOp.neq 23 (Operand.tmp 115) (Operand.const (Value.int IntKind.i64 0)) 23), 4, none⟩] (Q .normal ds) σ w := mk_eq rfl
@[push_cast] theorem vr10_26 (Q : Post) (ds : List Deferred) (σ : Env) (w : World) : vc Try.prog (.region r10_26) Q ds σ w = vcOps Try.prog [⟨some 117, (Op.call { callee := (Callee.value (Operand.func 29)), args := #[], argTypes := #[] }), 4, none⟩, ⟨some 118, (Op.move (Operand.tmp 117)), 4, none⟩, ⟨some 119, (Op.move (Operand.tmp 15)), 48, some (118, true)⟩, ⟨some 120, (Op.call { callee := (Callee.value (Operand.func 41)), args := #[(Operand.tmp 119)], argTypes := #[48] }), 3, some (118, true)⟩, ⟨some 121, (Op.move (Operand.tmp 1)), 40, some (118, true)⟩, ⟨some 122, (Op.call { callee := (Callee.builtin Builtin.len), args := #[(Operand.tmp 121)], argTypes := #[40] }), 3, some (118, true)⟩, ⟨some 123, (Op.binOp BinOp.eql 3 (Operand.tmp 120) (Operand.tmp 122) 3), 4, some (118, true)⟩, ⟨some 124, (Op.pick (Operand.tmp 118) (Operand.tmp 123) (Operand.const (Value.bool false))), 4, none⟩, ⟨some 4, (Op.assign (Operand.tmp 124)), 4, none⟩] (Q .normal ds) σ w := mk_eq rfl
@[push_cast] theorem vr10_27 (Q : Post) (ds : List Deferred) (σ : Env) (w : World) : vc Try.prog (.region r10_27) Q ds σ w = vcOps Try.prog [⟨some 125, (Op.move (Operand.tmp 16)), 3, none⟩, ⟨some 126, (Op.call { callee := (Callee.value (Operand.func 34)), args := #[(Operand.const (Value.slice none 0 0)), (Operand.tmp 125)], argTypes := #[40, 3] }), 40, none⟩, ⟨some 18, (Op.assign (Operand.tmp 126)), 40, none⟩] (Q .normal ds) σ w := mk_eq rfl
@[push_cast] theorem vr10_28 (Q : Post) (ds : List Deferred) (σ : Env) (w : World) : vc Try.prog (.draw r10_28 true) Q ds σ w = drawn Try.prog [(⟨some 127, (Op.call { callee := (Callee.value (Operand.func 29)), args := #[], argTypes := #[] }), 4, none⟩, []), (⟨some 128, (Op.move (Operand.tmp 127)), 4, none⟩, [127]), (⟨some 129, (Op.move (Operand.tmp 18)), 40, some (128, true)⟩, [18, 128]), (⟨some 130, (Op.call { callee := (Callee.builtin Builtin.len), args := #[(Operand.tmp 129)], argTypes := #[40] }), 3, some (128, true)⟩, [129, 128]), (⟨some 131, (Op.move (Operand.tmp 1)), 40, some (128, true)⟩, [1, 128]), (⟨some 132, (Op.call { callee := (Callee.builtin Builtin.len), args := #[(Operand.tmp 131)], argTypes := #[40] }), 3, some (128, true)⟩, [131, 128]), (⟨some 133, (Op.move (Operand.tmp 15)), 48, some (128, true)⟩, [15, 128]), (⟨some 134, (Op.call { callee := (Callee.value (Operand.func 41)), args := #[(Operand.tmp 133)], argTypes := #[48] }), 3, some (128, true)⟩, [133, 128]), (⟨some 135, (Op.binOp BinOp.sub 3 (Operand.tmp 132) (Operand.tmp 134) 3), 3, some (128, true)⟩, [132, 134, 128]), (⟨some 136, (Op.binOp BinOp.eql 3 (Operand.tmp 130) (Operand.tmp 135) 3), 4, some (128, true)⟩, [130, 135, 128]), (⟨some 137, (Op.pick (Operand.tmp 128) (Operand.tmp 136) (Operand.const (Value.bool false))), 4, none⟩, [128, 136]), (⟨some 138, (Op.move (Operand.tmp 137)), 4, none⟩, [137]), (⟨some 139, (Op.move (Operand.tmp 18)), 40, some (138, true)⟩, [18, 138]), (⟨some 140, (Op.convert 40 9 (Operand.tmp 139)), 9, some (138, true)⟩, [139, 138]), (⟨some 141, (Op.move (Operand.tmp 1)), 40, some (138, true)⟩, [1, 138]), (⟨some 142, (Op.move (Operand.tmp 18)), 40, some (138, true)⟩, [18, 138]), (⟨some 143, (Op.call { callee := (Callee.builtin Builtin.len), args := #[(Operand.tmp 142)], argTypes := #[40] }), 3, some (138, true)⟩, [142, 138]), (⟨some 144, (Op.slice 40 (Operand.tmp 141) none (some (Operand.tmp 143)) none), 40, some (138, true)⟩, [141, 143, 138]), (⟨some 145, (Op.convert 40 9 (Operand.tmp 144)), 9, some (138, true)⟩, [144, 138]), (⟨some 146, (Op.binOp BinOp.eql 9 (Operand.tmp 140) (Operand.tmp 145) 9), 4, some (138, true)⟩, [140, 145, 138]), (⟨some 147, (Op.pick (Operand.tmp 138) (Operand.tmp 146) (Operand.const (Value.bool false))), 4, none⟩, [138, 146]), (⟨some 4, (Op.assign (Operand.tmp 147)), 4, none⟩, [147])] true (Q .normal ds) σ w := mk_eq rfl
/-! 11 columbary/columbarylaw01.ZigOrder (params #[3, 3], results #[(ResultVar.tmp 4)], 64 slots) -/
def r11_0 : List VOp :=
  [⟨some 4, (Op.assign (Operand.const (Value.bool false))), 4, none⟩]
def r11_1 : List VOp :=
  [⟨some 8, (Op.move (Operand.tmp 0)), 3, none⟩,
   ⟨some 9, (Op.binOp BinOp.lss 3 (Operand.tmp 8) (Operand.const (Value.int IntKind.i64 0)) 3), 4, none⟩,
   ⟨some 10, (Op.move (Operand.tmp 9)), 4, none⟩,
   ⟨some 11, (Op.move (Operand.tmp 1)), 3, some (10, false)⟩,
   ⟨some 12, (Op.binOp BinOp.lss 3 (Operand.tmp 11) (Operand.const (Value.int IntKind.i64 0)) 3), 4, some (10, false)⟩,
   ⟨some 13, (Op.pick (Operand.tmp 10) (Operand.const (Value.bool true)) (Operand.tmp 12)), 4, none⟩]
def r11_2 : List VOp :=
  [⟨some 14, (Op.call { callee := (Callee.value (Operand.func 29)), args := #[], argTypes := #[] }), 4, none⟩,
   ⟨some 4, (Op.assign (Operand.tmp 14)), 4, none⟩]
def r11_3 : List VOp :=
  [⟨some 15, (Op.move (Operand.tmp 0)), 3, none⟩,
   ⟨some 16, (Op.call { callee := (Callee.value (Operand.func 34)), args := #[(Operand.const (Value.slice none 0 0)), (Operand.tmp 15)], argTypes := #[40, 3] }), 40, none⟩,
   ⟨some 17, (Op.convert 40 9 (Operand.tmp 16)), 9, none⟩,
   ⟨some 5, (Op.assign (Operand.tmp 17)), 9, none⟩]
def r11_4 : List VOp :=
  [⟨some 18, (Op.move (Operand.tmp 1)), 3, none⟩,
   ⟨some 19, (Op.call { callee := (Callee.value (Operand.func 34)), args := #[(Operand.const (Value.slice none 0 0)), (Operand.tmp 18)], argTypes := #[40, 3] }), 40, none⟩,
   ⟨some 20, (Op.convert 40 9 (Operand.tmp 19)), 9, none⟩,
   ⟨some 6, (Op.assign (Operand.tmp 20)), 9, none⟩]
def r11_5 : List VOp :=
  [⟨some 21, (Op.move (Operand.tmp 5)), 9, none⟩,
   ⟨some 22, (Op.call { callee := (Callee.builtin Builtin.len), args := #[(Operand.tmp 21)], argTypes := #[9] }), 3, none⟩,
   ⟨some 23, (Op.move (Operand.tmp 6)), 9, none⟩,
   ⟨some 24, (Op.call { callee := (Callee.builtin Builtin.len), args := #[(Operand.tmp 23)], argTypes := #[9] }), 3, none⟩,
   ⟨some 25, (Op.call { callee := (Callee.builtin Builtin.min), args := #[(Operand.tmp 22), (Operand.tmp 24)], argTypes := #[3, 3] }), 3, none⟩,
   ⟨some 7, (Op.assign (Operand.tmp 25)), 3, none⟩]
def r11_6 : List VOp :=
  [⟨some 26, (Op.call { callee := (Callee.value (Operand.func 29)), args := #[], argTypes := #[] }), 4, none⟩,
   ⟨some 27, (Op.move (Operand.tmp 26)), 4, none⟩,
   ⟨some 28, (Op.move (Operand.tmp 5)), 9, some (27, true)⟩,
   ⟨some 29, (Op.move (Operand.tmp 7)), 3, some (27, true)⟩,
   ⟨some 30, (Op.slice 9 (Operand.tmp 28) none (some (Operand.tmp 29)) none), 9, some (27, true)⟩,
   ⟨some 31, (Op.move (Operand.tmp 6)), 9, some (27, true)⟩,
   ⟨some 32, (Op.move (Operand.tmp 7)), 3, some (27, true)⟩,
   ⟨some 33, (Op.slice 9 (Operand.tmp 31) none (some (Operand.tmp 32)) none), 9, some (27, true)⟩,
   ⟨some 34, (Op.binOp BinOp.eql 9 (Operand.tmp 30) (Operand.tmp 33) 9), 4, some (27, true)⟩,
   ⟨some 35, (Op.move (Operand.tmp 0)), 3, some (27, true)⟩,
   ⟨some 36, (Op.move (Operand.tmp 1)), 3, some (27, true)⟩,
   ⟨some 37, (Op.binOp BinOp.eql 3 (Operand.tmp 35) (Operand.tmp 36) 3), 4, some (27, true)⟩,
   ⟨some 38, (Op.binOp BinOp.eql 4 (Operand.tmp 34) (Operand.tmp 37) 4), 4, some (27, true)⟩,
   ⟨some 39, (Op.pick (Operand.tmp 27) (Operand.tmp 38) (Operand.const (Value.bool false))), 4, none⟩,
   ⟨some 40, (Op.move (Operand.tmp 39)), 4, none⟩,
   ⟨some 41, (Op.move (Operand.tmp 0)), 3, some (40, true)⟩,
   ⟨some 42, (Op.move (Operand.tmp 1)), 3, some (40, true)⟩,
   ⟨some 43, (Op.binOp BinOp.geq 3 (Operand.tmp 41) (Operand.tmp 42) 3), 4, some (40, true)⟩,
   ⟨some 44, (Op.move (Operand.tmp 43)), 4, some (40, true)⟩,
   ⟨some 45, (Op.move (Operand.tmp 5)), 9, some (44, false)⟩,
   ⟨some 46, (Op.call { callee := (Callee.builtin Builtin.len), args := #[(Operand.tmp 45)], argTypes := #[9] }), 3, some (44, false)⟩,
   ⟨some 47, (Op.move (Operand.tmp 6)), 9, some (44, false)⟩,
   ⟨some 48, (Op.call { callee := (Callee.builtin Builtin.len), args := #[(Operand.tmp 47)], argTypes := #[9] }), 3, some (44, false)⟩,
   ⟨some 49, (Op.binOp BinOp.lss 3 (Operand.tmp 46) (Operand.tmp 48) 3), 4, some (44, false)⟩,
   ⟨some 50, (Op.pick (Operand.tmp 44) (Operand.const (Value.bool true)) (Operand.tmp 49)), 4, some (40, true)⟩,
   ⟨some 51, (Op.move (Operand.tmp 50)), 4, some (40, true)⟩,
   ⟨some 52, (Op.move (Operand.tmp 5)), 9, some (51, false)⟩,
   ⟨some 53, (Op.call { callee := (Callee.builtin Builtin.len), args := #[(Operand.tmp 52)], argTypes := #[9] }), 3, some (51, false)⟩,
   ⟨some 54, (Op.move (Operand.tmp 6)), 9, some (51, false)⟩,
   ⟨some 55, (Op.call { callee := (Callee.builtin Builtin.len), args := #[(Operand.tmp 54)], argTypes := #[9] }), 3, some (51, false)⟩,
   ⟨some 56, (Op.binOp BinOp.eql 3 (Operand.tmp 53) (Operand.tmp 55) 3), 4, some (51, false)⟩,
   ⟨some 57, (Op.move (Operand.tmp 56)), 4, some (51, false)⟩,
   ⟨some 58, (Op.move (Operand.tmp 5)), 9, some (57, true)⟩,
   ⟨some 59, (Op.move (Operand.tmp 6)), 9, some (57, true)⟩,
   ⟨some 60, (Op.binOp BinOp.lss 9 (Operand.tmp 58) (Operand.tmp 59) 9), 4, some (57, true)⟩,
   ⟨some 61, (Op.pick (Operand.tmp 57) (Operand.tmp 60) (Operand.const (Value.bool false))), 4, some (51, false)⟩,
   ⟨some 62, (Op.pick (Operand.tmp 51) (Operand.const (Value.bool true)) (Operand.tmp 61)), 4, some (40, true)⟩,
   ⟨some 63, (Op.pick (Operand.tmp 40) (Operand.tmp 62) (Operand.const (Value.bool false))), 4, none⟩,
   ⟨some 4, (Op.assign (Operand.tmp 63)), 4, none⟩]
def B11 : VC :=
  (.seq (.region r11_0) (.seq (.seq (.region r11_1) (.cond (Operand.tmp 13) (.seq (.region r11_2) .ret) .skip)) (.seq (.region r11_3) (.seq (.region r11_4) (.seq (.region r11_5) (.seq (.draw r11_6 true) .ret))))))
theorem code11 : ∃ c, Try.f11.body = some c ∧ abs Try.f11.ntmps c = B11 := ⟨_, rfl, by kernel_rfl⟩
theorem hb11 : HasBody Try.prog 11 := hasBody_of Try.func11 (by kernel_rfl)
theorem res11 : Try.f11.results = #[(ResultVar.tmp 4)] := rfl
theorem enter11 {w : World} {R : Value → World → Prop} (x0 x1 : Value) (h : vc Try.prog B11 (retK Try.prog #[(ResultVar.tmp 4)] R) [] (initEnv [x0, x1] 0) w) : FnC Try.prog 11 #[x0, x1] w R := by
  obtain ⟨c, h1, h2⟩ := code11
  exact hb11.fn (ret_of_vc mixed Try.func11 h1 (Nat.le_of_ble_eq_true rfl) B11 h2 h)
@[push_cast] theorem vr11_0 (Q : Post) (ds : List Deferred) (σ : Env) (w : World) : vc Try.prog (.region r11_0) Q ds σ w = vcOps Try.prog [⟨some 4, (Op.assign (Operand.const (Value.bool false))), 4, none⟩] (Q .normal ds) σ w := mk_eq rfl
@[push_cast] theorem vr11_1 (Q : Post) (ds : List Deferred) (σ : Env) (w : World) : vc Try.prog (.region r11_1) Q ds σ w = vcOps Try.prog [⟨some 8, (Op.move (Operand.tmp 0)), 3, none⟩, ⟨some 9, (Op.binOp BinOp.lss 3 (Operand.tmp 8) (Operand.const (Value.int IntKind.i64 0)) 3), 4, none⟩, ⟨some 10, (Op.move (Operand.tmp 9)), 4, none⟩, ⟨some 11, (Op.move (Operand.tmp 1)), 3, some (10, false)⟩, ⟨some 12, (Op.binOp BinOp.lss 3 (Operand.tmp 11) (Operand.const (Value.int IntKind.i64 0)) 3), 4, some (10, false)⟩, ⟨some 13, (Op.pick (Operand.tmp 10) (Operand.const (Value.bool true)) (Operand.tmp 12)), 4, none⟩] (Q .normal ds) σ w := mk_eq rfl
@[push_cast] theorem vr11_2 (Q : Post) (ds : List Deferred) (σ : Env) (w : World) : vc Try.prog (.region r11_2) Q ds σ w = vcOps Try.prog [⟨some 14, (Op.call { callee := (Callee.value (Operand.func 29)), args := #[], argTypes := #[] }), 4, none⟩, ⟨some 4, (Op.assign (Operand.tmp 14)), 4, none⟩] (Q .normal ds) σ w := mk_eq rfl
@[push_cast] theorem vr11_3 (Q : Post) (ds : List Deferred) (σ : Env) (w : World) : vc Try.prog (.region r11_3) Q ds σ w = vcOps Try.prog [⟨some 15, (Op.move (Operand.tmp 0)), 3, none⟩, ⟨some 16, (Op.call { callee := (Callee.value (Operand.func 34)), args := #[(Operand.const (Value.slice none 0 0)), (Operand.tmp 15)], argTypes := #[40, 3] }), 40, none⟩, ⟨some 17, (Op.convert 40 9 (Operand.tmp 16)), 9, none⟩, ⟨some 5, (Op.assign (Operand.tmp 17)), 9, none⟩] (Q .normal ds) σ w := mk_eq rfl
@[push_cast] theorem vr11_4 (Q : Post) (ds : List Deferred) (σ : Env) (w : World) : vc Try.prog (.region r11_4) Q ds σ w = vcOps Try.prog [⟨some 18, (Op.move (Operand.tmp 1)), 3, none⟩, ⟨some 19, (Op.call { callee := (Callee.value (Operand.func 34)), args := #[(Operand.const (Value.slice none 0 0)), (Operand.tmp 18)], argTypes := #[40, 3] }), 40, none⟩, ⟨some 20, (Op.convert 40 9 (Operand.tmp 19)), 9, none⟩, ⟨some 6, (Op.assign (Operand.tmp 20)), 9, none⟩] (Q .normal ds) σ w := mk_eq rfl
@[push_cast] theorem vr11_5 (Q : Post) (ds : List Deferred) (σ : Env) (w : World) : vc Try.prog (.region r11_5) Q ds σ w = vcOps Try.prog [⟨some 21, (Op.move (Operand.tmp 5)), 9, none⟩, ⟨some 22, (Op.call { callee := (Callee.builtin Builtin.len), args := #[(Operand.tmp 21)], argTypes := #[9] }), 3, none⟩, ⟨some 23, (Op.move (Operand.tmp 6)), 9, none⟩, ⟨some 24, (Op.call { callee := (Callee.builtin Builtin.len), args := #[(Operand.tmp 23)], argTypes := #[9] }), 3, none⟩, ⟨some 25, (Op.call { callee := (Callee.builtin Builtin.min), args := #[(Operand.tmp 22), (Operand.tmp 24)], argTypes := #[3, 3] }), 3, none⟩, ⟨some 7, (Op.assign (Operand.tmp 25)), 3, none⟩] (Q .normal ds) σ w := mk_eq rfl
@[push_cast] theorem vr11_6 (Q : Post) (ds : List Deferred) (σ : Env) (w : World) : vc Try.prog (.draw r11_6 true) Q ds σ w = drawn Try.prog [(⟨some 26, (Op.call { callee := (Callee.value (Operand.func 29)), args := #[], argTypes := #[] }), 4, none⟩, []), (⟨some 27, (Op.move (Operand.tmp 26)), 4, none⟩, [26]), (⟨some 28, (Op.move (Operand.tmp 5)), 9, some (27, true)⟩, [5, 27]), (⟨some 29, (Op.move (Operand.tmp 7)), 3, some (27, true)⟩, [7, 27]), (⟨some 30, (Op.slice 9 (Operand.tmp 28) none (some (Operand.tmp 29)) none), 9, some (27, true)⟩, [28, 29, 27]), (⟨some 31, (Op.move (Operand.tmp 6)), 9, some (27, true)⟩, [6, 27]), (⟨some 32, (Op.move (Operand.tmp 7)), 3, some (27, true)⟩, [7, 27]), (⟨some 33, (Op.slice 9 (Operand.tmp 31) none (some (Operand.tmp 32)) none), 9, some (27, true)⟩, [31, 32, 27]), (⟨some 34, (Op.binOp BinOp.eql 9 (Operand.tmp 30) (Operand.tmp 33) 9), 4, some (27, true)⟩, [30, 33, 27]), (⟨some 35, (Op.move (Operand.tmp 0)), 3, some (27, true)⟩, [0, 27]), (⟨some 36, (Op.move (Operand.tmp 1)), 3, some (27, true)⟩, [1, 27]), (⟨some 37, (Op.binOp BinOp.eql 3 (Operand.tmp 35) (Operand.tmp 36) 3), 4, some (27, true)⟩, [35, 36, 27]), (⟨some 38, (Op.binOp BinOp.eql 4 (Operand.tmp 34) (Operand.tmp 37) 4), 4, some (27, true)⟩, [34, 37, 27]), (⟨some 39, (Op.pick (Operand.tmp 27) (Operand.tmp 38) (Operand.const (Value.bool false))), 4, none⟩, [27, 38]), (⟨some 40, (Op.move (Operand.tmp 39)), 4, none⟩, [39]), (⟨some 41, (Op.move (Operand.tmp 0)), 3, some (40, true)⟩, [0, 40]), (⟨some 42, (Op.move (Operand.tmp 1)), 3, some (40, true)⟩, [1, 40]), (⟨some 43, (Op.binOp BinOp.geq 3 (Operand.tmp 41) (Operand.tmp 42) 3), 4, some (40, true)⟩, [41, 42, 40]), (⟨some 44, (Op.move (Operand.tmp 43)), 4, some (40, true)⟩, [43, 40]), (⟨some 45, (Op.move (Operand.tmp 5)), 9, some (44, false)⟩, [5, 44]), (⟨some 46, (Op.call { callee := (Callee.builtin Builtin.len), args := #[(Operand.tmp 45)], argTypes := #[9] }), 3, some (44, false)⟩, [45, 44]), (⟨some 47, (Op.move (Operand.tmp 6)), 9, some (44, false)⟩, [6, 44]), (⟨some 48, (Op.call { callee := (Callee.builtin Builtin.len), args := #[(Operand.tmp 47)], argTypes := #[9] }), 3, some (44, false)⟩, [47, 44]), (⟨some 49, (Op.binOp BinOp.lss 3 (Operand.tmp 46) (Operand.tmp 48) 3), 4, some (44, false)⟩, [46, 48, 44]), (⟨some 50, (Op.pick (Operand.tmp 44) (Operand.const (Value.bool true)) (Operand.tmp 49)), 4, some (40, true)⟩, [44, 49, 40]), (⟨some 51, (Op.move (Operand.tmp 50)), 4, some (40, true)⟩, [50, 40]), (⟨some 52, (Op.move (Operand.tmp 5)), 9, some (51, false)⟩, [5, 51]), (⟨some 53, (Op.call { callee := (Callee.builtin Builtin.len), args := #[(Operand.tmp 52)], argTypes := #[9] }), 3, some (51, false)⟩, [52, 51]), (⟨some 54, (Op.move (Operand.tmp 6)), 9, some (51, false)⟩, [6, 51]), (⟨some 55, (Op.call { callee := (Callee.builtin Builtin.len), args := #[(Operand.tmp 54)], argTypes := #[9] }), 3, some (51, false)⟩, [54, 51]), (⟨some 56, (Op.binOp BinOp.eql 3 (Operand.tmp 53) (Operand.tmp 55) 3), 4, some (51, false)⟩, [53, 55, 51]), (⟨some 57, (Op.move (Operand.tmp 56)), 4, some (51, false)⟩, [56, 51]), (⟨some 58, (Op.move (Operand.tmp 5)), 9, some (57, true)⟩, [5, 57]), (⟨some 59, (Op.move (Operand.tmp 6)), 9, some (57, true)⟩, [6, 57]), (⟨some 60, (Op.binOp BinOp.lss 9 (Operand.tmp 58) (Operand.tmp 59) 9), 4, some (57, true)⟩, [58, 59, 57]), (⟨some 61, (Op.pick (Operand.tmp 57) (Operand.tmp 60) (Operand.const (Value.bool false))), 4, some (51, false)⟩, [57, 60, 51]), (⟨some 62, (Op.pick (Operand.tmp 51) (Operand.const (Value.bool true)) (Operand.tmp 61)), 4, some (40, true)⟩, [51, 61, 40]), (⟨some 63, (Op.pick (Operand.tmp 40) (Operand.tmp 62) (Operand.const (Value.bool false))), 4, none⟩, [40, 62]), (⟨some 4, (Op.assign (Operand.tmp 63)), 4, none⟩, [63])] true (Q .normal ds) σ w := mk_eq rfl
/-! 12 columbary/columbarylaw01.ZigLengths (params #[3, 9], results #[(ResultVar.tmp 4)], 63 slots) -/
def W12_0 : List Nat := [5, 6, 15, 16, 17, 18, 19, 20]
@[push_cast] theorem W12_0_def : W12_0 = [5, 6, 15, 16, 17, 18, 19, 20] := mk_eq rfl
def r12_0 : List VOp :=
  [⟨some 4, (Op.assign (Operand.const (Value.bool false))), 4, none⟩]
def r12_1 : List VOp :=
  [⟨some 9, (Op.move (Operand.tmp 1)), 9, none⟩,
   ⟨some 10, (Op.call { callee := (Callee.builtin Builtin.len), args := #[(Operand.tmp 9)], argTypes := #[9] }), 3, none⟩,
   ⟨some 11, (Op.binOp BinOp.gtr 3 (Operand.tmp 10) (Operand.const (Value.int IntKind.i64 400)) 3), 4, none⟩]
def r12_2 : List VOp :=
  [⟨some 12, (Op.call { callee := (Callee.value (Operand.func 29)), args := #[], argTypes := #[] }), 4, none⟩,
   ⟨some 4, (Op.assign (Operand.tmp 12)), 4, none⟩]
def r12_3 : List VOp :=
  [⟨some 5, (Op.assign (Operand.const (Value.int IntKind.i64 1))), 3, none⟩]
def r12_4 : List VOp :=
  [⟨some 13, (Op.move (Operand.tmp 0)), 3, none⟩,
   ⟨some 14, (Op.call { callee := (Callee.value (Operand.func 30)), args := #[(Operand.tmp 13)], argTypes := #[3] }), 35, none⟩,
   ⟨some 6, (Op.assign (Operand.tmp 14)), 35, none⟩]
def r12_5 : List VOp :=
  [⟨some 15, (Op.move (Operand.tmp 6)), 35, none⟩,
   ⟨some 16, (Op.binOp BinOp.geq 35 (Operand.tmp 15) (Operand.const (Value.int IntKind.u64 128)) 35), 4, none⟩]
def r12_7 : List VOp :=
  [⟨some 19, (Op.move (Operand.tmp 5)), 3, none⟩,
   ⟨some 20, (Op.binOp BinOp.add 3 (Operand.tmp 19) (Operand.const (Value.int IntKind.i64 1)) 3), 3, none⟩,
   ⟨some 5, (Op.assign (Operand.tmp 20)), 3, none⟩]
def r12_6 : List VOp :=
  [⟨some 17, (Op.move (Operand.tmp 6)), 35, none⟩,
   ⟨some 18, (Op.binOp BinOp.quo 35 (Operand.tmp 17) (Operand.const (Value.int IntKind.u64 128)) 35), 35, none⟩,
   ⟨some 6, (Op.assign (Operand.tmp 18)), 35, none⟩]
def r12_8 : List VOp :=
  [⟨some 21, (Op.move (Operand.tmp 1)), 9, none⟩,
   ⟨some 22, (Op.call { callee := (Callee.value (Operand.func 35)), args := #[(Operand.const (Value.slice none 0 0)), (Operand.tmp 21)], argTypes := #[40, 9] }), 40, none⟩,
   ⟨some 7, (Op.assign (Operand.tmp 22)), 40, none⟩]
def r12_9 : List VOp :=
  [⟨some 23, (Op.move (Operand.tmp 1)), 9, none⟩,
   ⟨some 24, (Op.call { callee := (Callee.builtin Builtin.len), args := #[(Operand.tmp 23)], argTypes := #[9] }), 3, none⟩,
   ⟨some 25, (Op.call { callee := (Callee.value (Operand.func 34)), args := #[(Operand.const (Value.slice none 0 0)), (Operand.tmp 24)], argTypes := #[40, 3] }), 40, none⟩,
   ⟨some 8, (Op.assign (Operand.tmp 25)), 40, none⟩]
def r12_10 : List VOp :=
  [⟨some 26, (Op.call { callee := (Callee.value (Operand.func 29)), args := #[], argTypes := #[] }), 4, none⟩,
   ⟨some 27, (Op.move (Operand.tmp 26)), 4, none⟩,
   ⟨some 28, (Op.move (Operand.tmp 0)), 3, some (27, true)⟩,
   ⟨some 29, (Op.call { callee := (Callee.value (Operand.func 34)), args := #[(Operand.const (Value.slice none 0 0)), (Operand.tmp 28)], argTypes := #[40, 3] }), 40, some (27, true)⟩,
   ⟨some 30, (Op.call { callee := (Callee.builtin Builtin.len), args := #[(Operand.tmp 29)], argTypes := #[40] }), 3, some (27, true)⟩,
   ⟨some 31, (Op.move (Operand.tmp 5)), 3, some (27, true)⟩,
   ⟨some 32, (Op.binOp BinOp.eql 3 (Operand.tmp 30) (Operand.tmp 31) 3), 4, some (27, true)⟩,
   ⟨some 33, (Op.pick (Operand.tmp 27) (Operand.tmp 32) (Operand.const (Value.bool false))), 4, none⟩,
   ⟨some 34, (Op.move (Operand.tmp 33)), 4, none⟩,
   ⟨some 35, (Op.move (Operand.tmp 7)), 40, some (34, true)⟩,
   ⟨some 36, (Op.call { callee := (Callee.builtin Builtin.len), args := #[(Operand.tmp 35)], argTypes := #[40] }), 3, some (34, true)⟩,
   ⟨some 37, (Op.move (Operand.tmp 8)), 40, some (34, true)⟩,
   ⟨some 38, (Op.call { callee := (Callee.builtin Builtin.len), args := #[(Operand.tmp 37)], argTypes := #[40] }), 3, some (34, true)⟩,
   ⟨some 39, (Op.move (Operand.tmp 1)), 9, some (34, true)⟩,
   ⟨some 40, (Op.call { callee := (Callee.builtin Builtin.len), args := #[(Operand.tmp 39)], argTypes := #[9] }), 3, some (34, true)⟩,
   ⟨some 41, (Op.binOp BinOp.add 3 (Operand.tmp 38) (Operand.tmp 40) 3), 3, some (34, true)⟩,
   ⟨some 42, (Op.binOp BinOp.eql 3 (Operand.tmp 36) (Operand.tmp 41) 3), 4, some (34, true)⟩,
   ⟨some 43, (Op.pick (Operand.tmp 34) (Operand.tmp 42) (Operand.const (Value.bool false))), 4, none⟩,
   ⟨some 44, (Op.move (Operand.tmp 43)), 4, none⟩,
   ⟨some 45, (Op.move (Operand.tmp 7)), 40, some (44, true)⟩,
   ⟨some 46, (Op.move (Operand.tmp 8)), 40, some (44, true)⟩,
   ⟨some 47, (Op.call { callee := (Callee.builtin Builtin.len), args := #[(Operand.tmp 46)], argTypes := #[40] }), 3, some (44, true)⟩,
   ⟨some 48, (Op.slice 40 (Operand.tmp 45) (some (Operand.tmp 47)) none none), 40, some (44, true)⟩,
   ⟨some 49, (Op.convert 40 9 (Operand.tmp 48)), 9, some (44, true)⟩,
   ⟨some 50, (Op.move (Operand.tmp 1)), 9, some (44, true)⟩,
   ⟨some 51, (Op.binOp BinOp.eql 9 (Operand.tmp 49) (Operand.tmp 50) 9), 4, some (44, true)⟩,
   ⟨some 52, (Op.pick (Operand.tmp 44) (Operand.tmp 51) (Operand.const (Value.bool false))), 4, none⟩,
   ⟨some 53, (Op.move (Operand.tmp 52)), 4, none⟩,
   ⟨some 54, (Op.move (Operand.tmp 7)), 40, some (53, true)⟩,
   ⟨some 55, (Op.move (Operand.tmp 8)), 40, some (53, true)⟩,
   ⟨some 56, (Op.call { callee := (Callee.builtin Builtin.len), args := #[(Operand.tmp 55)], argTypes := #[40] }), 3, some (53, true)⟩,
   ⟨some 57, (Op.slice 40 (Operand.tmp 54) none (some (Operand.tmp 56)) none), 40, some (53, true)⟩,
   ⟨some 58, (Op.convert 40 9 (Operand.tmp 57)), 9, some (53, true)⟩,
   ⟨some 59, (Op.move (Operand.tmp 8)), 40, some (53, true)⟩,
   ⟨some 60, (Op.convert 40 9 (Operand.tmp 59)), 9, some (53, true)⟩,
   ⟨some 61, (Op.binOp BinOp.eql 9 (Operand.tmp 58) (Operand.tmp 60) 9), 4, some (53, true)⟩,
   ⟨some 62, (Op.pick (Operand.tmp 53) (Operand.tmp 61) (Operand.const (Value.bool false))), 4, none⟩,
   ⟨some 4, (Op.assign (Operand.tmp 62)), 4, none⟩]
def B12 : VC :=
  (.seq (.region r12_0) (.seq (.seq (.region r12_1) (.cond (Operand.tmp 11) (.seq (.region r12_2) .ret) .skip)) (.seq (.region r12_3) (.seq (.seq (.region r12_4) (.block 0 (.loop (.seq (.seq (.region r12_5) (.cond (Operand.tmp 16) .skip (.exit 0))) (.seq (.block 1 (.region r12_7)) (.region r12_6)))))) (.seq (.region r12_8) (.seq (.region r12_9) (.seq (.draw r12_10 true) .ret)))))))
theorem code12 : ∃ c, Try.f12.body = some c ∧ abs Try.f12.ntmps c = B12 := ⟨_, rfl, by kernel_rfl⟩
theorem hb12 : HasBody Try.prog 12 := hasBody_of Try.func12 (by kernel_rfl)
theorem res12 : Try.f12.results = #[(ResultVar.tmp 4)] := rfl
theorem enter12 {w : World} {R : Value → World → Prop} (x0 x1 : Value) (h : vc Try.prog B12 (retK Try.prog #[(ResultVar.tmp 4)] R) [] (initEnv [x0, x1] 0) w) : FnC Try.prog 12 #[x0, x1] w R := by
  obtain ⟨c, h1, h2⟩ := code12
  exact hb12.fn (ret_of_vc mixed Try.func12 h1 (Nat.le_of_ble_eq_true rfl) B12 h2 h)
@[push_cast] theorem vr12_0 (Q : Post) (ds : List Deferred) (σ : Env) (w : World) : vc Try.prog (.region r12_0) Q ds σ w = vcOps Try.prog [⟨some 4, (Op.assign (Operand.const (Value.bool false))), 4, none⟩] (Q .normal ds) σ w := mk_eq rfl
@[push_cast] theorem vr12_1 (Q : Post) (ds : List Deferred) (σ : Env) (w : World) : vc Try.prog (.region r12_1) Q ds σ w = vcOps Try.prog [⟨some 9, (Op.move (Operand.tmp 1)), 9, none⟩, ⟨some 10, (Op.call { callee := (Callee.builtin Builtin.len), args := #[(Operand.tmp 9)], argTypes := #[9] }), 3, none⟩, ⟨some 11, (Op.binOp BinOp.gtr 3 (Operand.tmp 10) (Operand.const (Value.int IntKind.i64 400)) 3), 4, none⟩] (Q .normal ds) σ w := mk_eq rfl
@[push_cast] theorem vr12_2 (Q : Post) (ds : List Deferred) (σ : Env) (w : World) : vc Try.prog (.region r12_2) Q ds σ w = vcOps Try.prog [⟨some 12, (Op.call { callee := (Callee.value (Operand.func 29)), args := #[], argTypes := #[] }), 4, none⟩, ⟨some 4, (Op.assign (Operand.tmp 12)), 4, none⟩] (Q .normal ds) σ w := mk_eq rfl
@[push_cast] theorem vr12_3 (Q : Post) (ds : List Deferred) (σ : Env) (w : World) : vc Try.prog (.region r12_3) Q ds σ w = vcOps Try.prog [⟨some 5, (Op.assign (Operand.const (Value.int IntKind.i64 1))), 3, none⟩] (Q .normal ds) σ w := mk_eq rfl
@[push_cast] theorem vr12_4 (Q : Post) (ds : List Deferred) (σ : Env) (w : World) : vc Try.prog (.region r12_4) Q ds σ w = vcOps Try.prog [⟨some 13, (Op.move (Operand.tmp 0)), 3, none⟩, ⟨some 14, (Op.call { callee := (Callee.value (Operand.func 30)), args := #[(Operand.tmp 13)], argTypes := #[3] }), 35, none⟩, ⟨some 6, (Op.assign (Operand.tmp 14)), 35, none⟩] (Q .normal ds) σ w := mk_eq rfl
@[push_cast] theorem vr12_5 (Q : Post) (ds : List Deferred) (σ : Env) (w : World) : vc Try.prog (.region r12_5) Q ds σ w = vcOps Try.prog [⟨some 15, (Op.move (Operand.tmp 6)), 35, none⟩, ⟨some 16, (Op.binOp BinOp.geq 35 (Operand.tmp 15) (Operand.const (Value.int IntKind.u64 128)) 35), 4, none⟩] (Q .normal ds) σ w := mk_eq rfl
@[push_cast] theorem vr12_7 (Q : Post) (ds : List Deferred) (σ : Env) (w : World) : vc Try.prog (.region r12_7) Q ds σ w = vcOps Try.prog [⟨some 19, (Op.move (Operand.tmp 5)), 3, none⟩, ⟨some 20, (Op.binOp BinOp.add 3 (Operand.tmp 19) (Operand.const (Value.int IntKind.i64 1)) 3), 3, none⟩, ⟨some 5, (Op.assign (Operand.tmp 20)), 3, none⟩] (Q .normal ds) σ w := mk_eq rfl
@[push_cast] theorem vr12_6 (Q : Post) (ds : List Deferred) (σ : Env) (w : World) : vc Try.prog (.region r12_6) Q ds σ w = vcOps Try.prog [⟨some 17, (Op.move (Operand.tmp 6)), 35, none⟩, ⟨some 18, (Op.binOp BinOp.quo 35 (Operand.tmp 17) (Operand.const (Value.int IntKind.u64 128)) 35), 35, none⟩, ⟨some 6, (Op.assign (Operand.tmp 18)), 35, none⟩] (Q .normal ds) σ w := mk_eq rfl
@[push_cast] theorem vr12_8 (Q : Post) (ds : List Deferred) (σ : Env) (w : World) : vc Try.prog (.region r12_8) Q ds σ w = vcOps Try.prog [⟨some 21, (Op.move (Operand.tmp 1)), 9, none⟩, ⟨some 22, (Op.call { callee := (Callee.value (Operand.func 35)), args := #[(Operand.const (Value.slice none 0 0)), (Operand.tmp 21)], argTypes := #[40, 9] }), 40, none⟩, ⟨some 7, (Op.assign (Operand.tmp 22)), 40, none⟩] (Q .normal ds) σ w := mk_eq rfl
@[push_cast] theorem vr12_9 (Q : Post) (ds : List Deferred) (σ : Env) (w : World) : vc Try.prog (.region r12_9) Q ds σ w = vcOps Try.prog [⟨some 23, (Op.move (Operand.tmp 1)), 9, none⟩, ⟨some 24, (Op.call { callee := (Callee.builtin Builtin.len), args := #[(Operand.tmp 23)], argTypes := #[9] }), 3, none⟩, ⟨some 25, (Op.call { callee := (Callee.value (Operand.func 34)), args := #[(Operand.const (Value.slice none 0 0)), (Operand.tmp 24)], argTypes := #[40, 3] }), 40, none⟩, ⟨some 8, (Op.assign (Operand.tmp 25)), 40, none⟩] (Q .normal ds) σ w := mk_eq rfl
@[push_cast] theorem vr12_10 (Q : Post) (ds : List Deferred) (σ : Env) (w : World) : vc Try.prog (.draw r12_10 true) Q ds σ w = drawn Try.prog [(⟨some 26, (Op.call { callee := (Callee.value (Operand.func 29)), args := #[], argTypes := #[] }), 4, none⟩, []), (⟨some 27, (Op.move (Operand.tmp 26)), 4, none⟩, [26]), (⟨some 28, (Op.move (Operand.tmp 0)), 3, some (27, true)⟩, [0, 27]), (⟨some 29, (Op.call { callee := (Callee.value (Operand.func 34)), args := #[(Operand.const (Value.slice none 0 0)), (Operand.tmp 28)], argTypes := #[40, 3] }), 40, some (27, true)⟩, [28, 27]), (⟨some 30, (Op.call { callee := (Callee.builtin Builtin.len), args := #[(Operand.tmp 29)], argTypes := #[40] }), 3, some (27, true)⟩, [29, 27]), (⟨some 31, (Op.move (Operand.tmp 5)), 3, some (27, true)⟩, [5, 27]), (⟨some 32, (Op.binOp BinOp.eql 3 (Operand.tmp 30) (Operand.tmp 31) 3), 4, some (27, true)⟩, [30, 31, 27]), (⟨some 33, (Op.pick (Operand.tmp 27) (Operand.tmp 32) (Operand.const (Value.bool false))), 4, none⟩, [27, 32]), (⟨some 34, (Op.move (Operand.tmp 33)), 4, none⟩, [33]), (⟨some 35, (Op.move (Operand.tmp 7)), 40, some (34, true)⟩, [7, 34]), (⟨some 36, (Op.call { callee := (Callee.builtin Builtin.len), args := #[(Operand.tmp 35)], argTypes := #[40] }), 3, some (34, true)⟩, [35, 34]), (⟨some 37, (Op.move (Operand.tmp 8)), 40, some (34, true)⟩, [8, 34]), (⟨some 38, (Op.call { callee := (Callee.builtin Builtin.len), args := #[(Operand.tmp 37)], argTypes := #[40] }), 3, some (34, true)⟩, [37, 34]), (⟨some 39, (Op.move (Operand.tmp 1)), 9, some (34, true)⟩, [1, 34]), (⟨some 40, (Op.call { callee := (Callee.builtin Builtin.len), args := #[(Operand.tmp 39)], argTypes := #[9] }), 3, some (34, true)⟩, [39, 34]), (⟨some 41, (Op.binOp BinOp.add 3 (Operand.tmp 38) (Operand.tmp 40) 3), 3, some (34, true)⟩, [38, 40, 34]), (⟨some 42, (Op.binOp BinOp.eql 3 (Operand.tmp 36) (Operand.tmp 41) 3), 4, some (34, true)⟩, [36, 41, 34]), (⟨some 43, (Op.pick (Operand.tmp 34) (Operand.tmp 42) (Operand.const (Value.bool false))), 4, none⟩, [34, 42]), (⟨some 44, (Op.move (Operand.tmp 43)), 4, none⟩, [43]), (⟨some 45, (Op.move (Operand.tmp 7)), 40, some (44, true)⟩, [7, 44]), (⟨some 46, (Op.move (Operand.tmp 8)), 40, some (44, true)⟩, [8, 44]), (⟨some 47, (Op.call { callee := (Callee.builtin Builtin.len), args := #[(Operand.tmp 46)], argTypes := #[40] }), 3, some (44, true)⟩, [46, 44]), (⟨some 48, (Op.slice 40 (Operand.tmp 45) (some (Operand.tmp 47)) none none), 40, some (44, true)⟩, [45, 47, 44]), (⟨some 49, (Op.convert 40 9 (Operand.tmp 48)), 9, some (44, true)⟩, [48, 44]), (⟨some 50, (Op.move (Operand.tmp 1)), 9, some (44, true)⟩, [1, 44]), (⟨some 51, (Op.binOp BinOp.eql 9 (Operand.tmp 49) (Operand.tmp 50) 9), 4, some (44, true)⟩, [49, 50, 44]), (⟨some 52, (Op.pick (Operand.tmp 44) (Operand.tmp 51) (Operand.const (Value.bool false))), 4, none⟩, [44, 51]), (⟨some 53, (Op.move (Operand.tmp 52)), 4, none⟩, [52]), (⟨some 54, (Op.move (Operand.tmp 7)), 40, some (53, true)⟩, [7, 53]), (⟨some 55, (Op.move (Operand.tmp 8)), 40, some (53, true)⟩, [8, 53]), (⟨some 56, (Op.call { callee := (Callee.builtin Builtin.len), args := #[(Operand.tmp 55)], argTypes := #[40] }), 3, some (53, true)⟩, [55, 53]), (⟨some 57, (Op.slice 40 (Operand.tmp 54) none (some (Operand.tmp 56)) none), 40, some (53, true)⟩, [54, 56, 53]), (⟨some 58, (Op.convert 40 9 (Operand.tmp 57)), 9, some (53, true)⟩, [57, 53]), (⟨some 59, (Op.move (Operand.tmp 8)), 40, some (53, true)⟩, [8, 53]), (⟨some 60, (Op.convert 40 9 (Operand.tmp 59)), 9, some (53, true)⟩, [59, 53]), (⟨some 61, (Op.binOp BinOp.eql 9 (Operand.tmp 58) (Operand.tmp 60) 9), 4, some (53, true)⟩, [58, 60, 53]), (⟨some 62, (Op.pick (Operand.tmp 53) (Operand.tmp 61) (Operand.const (Value.bool false))), 4, none⟩, [53, 61]), (⟨some 4, (Op.assign (Operand.tmp 62)), 4, none⟩, [62])] true (Q .normal ds) σ w := mk_eq rfl
/-! 13 columbary/columbarylaw01.ZigReads (params #[40, 39], results #[(ResultVar.tmp 4)], 140 slots) -/
def W13_0 : List Nat := [4, 7, 8, 9, 10, 11, 12, 13, 14, 15, 16, 17, 18, 19, 20, 21, 31, 32, 33, 34, 35, 36, 37, 38, 39, 40, 41, 42, 43, 44, 45, 46, 47, 48, 49, 50, 51, 52, 53, 54, 55, 56, 57, 58, 59, 60, 61, 62, 63, 64, 65, 66, 67, 68, 69, 70, 71, 72, 73, 74, 75, 76, 77, 78, 79, 80, 81, 82, 83, 84, 85, 86, 87, 88, 89, 90, 91, 92, 93, 94, 95, 96, 97, 98, 99, 100, 101, 102, 103, 104, 105, 106, 107, 108, 109, 110, 111, 112, 113, 114, 115, 116, 117, 118, 119, 120, 121, 122, 123, 124, 125, 126, 127, 128, 129, 130, 131, 132, 133, 134, 135, 136, 137, 138]
@[push_cast] theorem W13_0_def : W13_0 = [4, 7, 8, 9, 10, 11, 12, 13, 14, 15, 16, 17, 18, 19, 20, 21, 31, 32, 33, 34, 35, 36, 37, 38, 39, 40, 41, 42, 43, 44, 45, 46, 47, 48, 49, 50, 51, 52, 53, 54, 55, 56, 57, 58, 59, 60, 61, 62, 63, 64, 65, 66, 67, 68, 69, 70, 71, 72, 73, 74, 75, 76, 77, 78, 79, 80, 81, 82, 83, 84, 85, 86, 87, 88, 89, 90, 91, 92, 93, 94, 95, 96, 97, 98, 99, 100, 101, 102, 103, 104, 105, 106, 107, 108, 109, 110, 111, 112, 113, 114, 115, 116, 117, 118, 119, 120, 121, 122, 123, 124, 125, 126, 127, 128, 129, 130, 131, 132, 133, 134, 135, 136, 137, 138] := mk_eq rfl
def r13_0 : List VOp :=
  [⟨some 4, (Op.assign (Operand.const (Value.bool false))), 4, none⟩]
def r13_1 : List VOp :=
  [⟨some 22, (Op.move (Operand.tmp 0)), 40, none⟩,
   ⟨some 23, (Op.call { callee := (Callee.builtin Builtin.len), args := #[(Operand.tmp 22)], argTypes := #[40] }), 3, none⟩,
   ⟨some 24, (Op.binOp BinOp.gtr 3 (Operand.tmp 23) (Operand.const (Value.int IntKind.i64 400)) 3), 4, none⟩]
def r13_2 : List VOp :=
  [⟨some 25, (Op.call { callee := (Callee.value (Operand.func 29)), args := #[], argTypes := #[] }), 4, none⟩,
   ⟨some 4, (Op.assign (Operand.tmp 25)), 4, none⟩]
def r13_3 : List VOp :=
  [⟨some 26, (Op.move (Operand.tmp 0)), 40, none⟩,
   ⟨some 27, (Op.call { callee := (Callee.value (Operand.func 38)), args := #[(Operand.tmp 26)], argTypes := #[40] }), 48, none⟩,
   ⟨some 5, (Op.assign (Operand.tmp 27)), 48, none⟩]
def r13_4 : List VOp :=
  [⟨some 28, (Op.move (Operand.tmp 0)), 40, none⟩,
   ⟨some 29, (Op.build 57 #[(0, (Operand.tmp 28))]), 57, none⟩,
   ⟨some 30, (Op.box 57 (Operand.tmp 29)), 55, none⟩,
   ⟨some 6, (Op.assign (Operand.tmp 30)), 55, none⟩]
def r13_5 : List VOp :=
  [⟨some 7, (Op.assign (Operand.const (Value.int IntKind.i64 0))), 3, none⟩]
def r13_6 : List VOp :=
  [⟨some 31, (Op.move (Operand.tmp 7)), 3, none⟩,
   ⟨some 32, (Op.move (Operand.tmp 1)), 39, none⟩,
   ⟨some 33, (Op.call { callee := (Callee.builtin Builtin.len), args := #[(Operand.tmp 32)], argTypes := #[39] }), 3, none⟩,
   ⟨some 34, (Op.binOp BinOp.lss 3 (Operand.tmp 31) (Operand.tmp 33) 3), 4, none⟩,
   ⟨some 35, (Op.move (Operand.tmp 34)), 4, none⟩,
   ⟨some 36, (Op.move (Operand.tmp 7)), 3, some (35, true)⟩,
   ⟨some 37, (Op.binOp BinOp.lss 3 (Operand.tmp 36) (Operand.const (Value.int IntKind.i64 60)) 3), 4, some (35, true)⟩,
   ⟨some 38, (Op.pick (Operand.tmp 35) (Operand.tmp 37) (Operand.const (Value.bool false))), 4, none⟩]
def r13_8 : List VOp :=
  [⟨some 41, (Op.move (Operand.tmp 1)), 39, none⟩,
   ⟨some 42, (Op.move (Operand.tmp 7)), 3, none⟩,
   ⟨some 43, (Op.indexAddr 39 (Operand.tmp 41) (Operand.tmp 42)), 0, none⟩,
   ⟨some 44, (Op.load 42 (Operand.tmp 43)), 42, none⟩,
   ⟨some 8, (Op.alloc 42), 0, none⟩,
   ⟨none, (Op.store 42 (Operand.tmp 8) (Operand.tmp 44)), 0, none⟩]
def r13_9 : List VOp :=
  [⟨some 9, (Op.assign (Operand.const (Value.bool true))), 4, none⟩]
def r13_10 : List VOp :=
  [⟨some 45, (Op.fieldAddr 42 (Operand.tmp 8) 0), 0, none⟩,
   ⟨some 46, (Op.load 3 (Operand.tmp 45)), 3, none⟩]
def r13_11 : List VOp :=
  [⟨some 48, (Op.binOp BinOp.eql 3 (Operand.tmp 46) (Operand.const (Value.int IntKind.i64 1)) 3), 4, none⟩,
   ⟨some 47, (Op.assign (Operand.tmp 48)), 4, none⟩]
def r13_12 : List VOp :=
  [⟨some 50, (Op.move (Operand.tmp 5)), 48, none⟩,
   ⟨some 51, (Op.fieldAddr 42 (Operand.tmp 8) 2), 0, none⟩,
   ⟨some 52, (Op.load 3 (Operand.tmp 51)), 3, none⟩,
   ⟨some 53, (Op.fieldAddr 42 (Operand.tmp 8) 3), 0, none⟩,
   ⟨some 54, (Op.load 3 (Operand.tmp 53)), 3, none⟩,
   ⟨some 55, (Op.call { callee := (Callee.value (Operand.func 39)), args := #[(Operand.tmp 50), (Operand.tmp 52), (Operand.tmp 54)], argTypes := #[48, 3, 3] }), 30, none⟩,
   ⟨some 49, (Op.move (Operand.tmp 55)), 30, none⟩,
   ⟨some 56, (Op.extract (Operand.tmp 49) 0), 3, none⟩,
   ⟨some 57, (Op.extract (Operand.tmp 49) 1), 23, none⟩,
   ⟨some 10, (Op.assign (Operand.tmp 56)), 3, none⟩,
   ⟨some 11, (Op.assign (Operand.tmp 57)), 23, none⟩]
def r13_13 : List VOp :=
  [⟨some 59, (Op.move (Operand.tmp 6)), 55, none⟩,
   ⟨some 60, (Op.fieldAddr 42 (Operand.tmp 8) 2), 0, none⟩,
   ⟨some 61, (Op.load 3 (Operand.tmp 60)), 3, none⟩,
   ⟨some 62, (Op.fieldAddr 42 (Operand.tmp 8) 3), 0, none⟩,
   ⟨some 63, (Op.load 3 (Operand.tmp 62)), 3, none⟩,
   ⟨some 64, (Op.call { callee := (Callee.value (Operand.func 42)), args := #[(Operand.tmp 59), (Operand.tmp 61), (Operand.tmp 63)], argTypes := #[55, 3, 3] }), 30, none⟩,
   ⟨some 58, (Op.move (Operand.tmp 64)), 30, none⟩,
   ⟨some 65, (Op.extract (Operand.tmp 58) 0), 3, none⟩,
   ⟨some 66, (Op.extract (Operand.tmp 58) 1), 23, none⟩,
   ⟨some 12, (Op.assign (Operand.tmp 65)), 3, none⟩,
   ⟨some 13, (Op.assign (Operand.tmp 66)), 23, none⟩]
def r13_14 : List VOp :=
  [⟨some 67, (Op.move (Operand.tmp 10)), 3, none⟩,
   ⟨some 68, (Op.move (Operand.tmp 12)), 3, none⟩,
   ⟨some 69, (Op.binOp BinOp.eql 3 (Operand.tmp 67) (Operand.tmp 68) 3), 4, none⟩,
   ⟨some 70, (Op.move (Operand.tmp 69)), 4, none⟩,
   ⟨some 71, (Op.move (Operand.tmp 11)), 23, some (70, true)⟩,
   ⟨some 72, (Op.move (Operand.tmp 13)), 23, some (70, true)⟩,
   ⟨some 73, (Op.binOp BinOp.eql 23 (Operand.tmp 71) (Operand.tmp 72) 23), 4, some (70, true)⟩,
   ⟨some 74, (Op.pick (Operand.tmp 70) (Operand.tmp 73) (Operand.const (Value.bool false))), 4, none⟩,
   ⟨some 9, (Op.assign (Operand.tmp 74)), 4, none⟩]
def r13_15 : List VOp :=
  [⟨some 76, (Op.binOp BinOp.eql 3 (Operand.tmp 46) (Operand.const (Value.int IntKind.i64 2)) 3), 4, none⟩,
   ⟨some 75, (Op.assign (Operand.tmp 76)), 4, none⟩]
def r13_16 : List VOp :=
  [⟨some 78, (Op.move (Operand.tmp 5)), 48, none⟩,
   ⟨some 79, (Op.fieldAddr 42 (Operand.tmp 8) 3), 0, none⟩,
   ⟨some 80, (Op.load 3 (Operand.tmp 79)), 3, none⟩,
   ⟨some 81, (Op.call { callee := (Callee.value (Operand.func 40)), args := #[(Operand.tmp 78), (Operand.tmp 80)], argTypes := #[48, 3] }), 50, none⟩,
   ⟨some 77, (Op.move (Operand.tmp 81)), 50, none⟩,
   ⟨some 82, (Op.extract (Operand.tmp 77) 0), 9, none⟩,
   ⟨some 83, (Op.extract (Operand.tmp 77) 1), 23, none⟩,
   ⟨some 14, (Op.assign (Operand.tmp 82)), 9, none⟩,
   ⟨some 15, (Op.assign (Operand.tmp 83)), 23, none⟩]
def r13_17 : List VOp :=
  [⟨some 85, (Op.move (Operand.tmp 6)), 55, none⟩,
   ⟨some 86, (Op.fieldAddr 42 (Operand.tmp 8) 3), 0, none⟩,
   ⟨some 87, (Op.load 3 (Operand.tmp 86)), 3, none⟩,
   ⟨some 88, (Op.call { callee := (Callee.value (Operand.func 43)), args := #[(Operand.tmp 85), (Operand.tmp 87)], argTypes := #[55, 3] }), 50, none⟩,
   ⟨some 84, (Op.move (Operand.tmp 88)), 50, none⟩,
   ⟨some 89, (Op.extract (Operand.tmp 84) 0), 9, none⟩,
   ⟨some 90, (Op.extract (Operand.tmp 84) 1), 23, none⟩,
   ⟨some 16, (Op.assign (Operand.tmp 89)), 9, none⟩,
   ⟨some 17, (Op.assign (Operand.tmp 90)), 23, none⟩]
def r13_18 : List VOp :=
  [⟨some 91, (Op.move (Operand.tmp 14)), 9, none⟩,
   ⟨some 92, (Op.move (Operand.tmp 16)), 9, none⟩,
   ⟨some 93, (Op.binOp BinOp.eql 9 (Operand.tmp 91) (Operand.tmp 92) 9), 4, none⟩,
   ⟨some 94, (Op.move (Operand.tmp 93)), 4, none⟩,
   ⟨some 95, (Op.move (Operand.tmp 15)), 23, some (94, true)⟩,
   ⟨some 96, (Op.move (Operand.tmp 17)), 23, some (94, true)⟩,
   ⟨some 97, (Op.binOp BinOp.eql 23 (Operand.tmp 95) (Operand.tmp 96) 23), 4, some (94, true)⟩,
   ⟨some 98, (Op.pick (Operand.tmp 94) (Operand.tmp 97) (Operand.const (Value.bool false))), 4, none⟩,
   ⟨some 9, (Op.assign (Operand.tmp 98)), 4, none⟩]
def r13_19 : List VOp :=
  [⟨some 100, (Op.binOp BinOp.eql 3 (Operand.tmp 46) (Operand.const (Value.int IntKind.i64 3)) 3), 4, none⟩,
   ⟨some 99, (Op.assign (Operand.tmp 100)), 4, none⟩]
def r13_20 : List VOp :=
  [⟨some 102, (Op.move (Operand.tmp 5)), 48, none⟩,
   ⟨some 103, (Op.fieldAddr 42 (Operand.tmp 8) 1), 0, none⟩,
   ⟨some 104, (Op.load 3 (Operand.tmp 103)), 3, none⟩,
   ⟨some 105, (Op.call { callee := (Callee.value (Operand.func 44)), args := #[(Operand.tmp 102), (Operand.tmp 104)], argTypes := #[48, 3] }), 58, none⟩,
   ⟨some 101, (Op.move (Operand.tmp 105)), 58, none⟩,
   ⟨some 106, (Op.extract (Operand.tmp 101) 0), 40, none⟩,
   ⟨some 107, (Op.extract (Operand.tmp 101) 1), 23, none⟩,
   ⟨some 18, (Op.assign (Operand.tmp 106)), 40, none⟩,
   ⟨some 19, (Op.assign (Operand.tmp 107)), 23, none⟩]
def r13_21 : List VOp :=
  [⟨some 109, (Op.move (Operand.tmp 6)), 55, none⟩,
   ⟨some 110, (Op.fieldAddr 42 (Operand.tmp 8) 1), 0, none⟩,
   ⟨some 111, (Op.load 3 (Operand.tmp 110)), 3, none⟩,
   ⟨some 112, (Op.call { callee := (Callee.value (Operand.func 45)), args := #[(Operand.tmp 109), (Operand.tmp 111)], argTypes := #[55, 3] }), 58, none⟩,
   ⟨some 108, (Op.move (Operand.tmp 112)), 58, none⟩,
   ⟨some 113, (Op.extract (Operand.tmp 108) 0), 40, none⟩,
   ⟨some 114, (Op.extract (Operand.tmp 108) 1), 23, none⟩,
   ⟨some 20, (Op.assign (Operand.tmp 113)), 40, none⟩,
   ⟨some 21, (Op.assign (Operand.tmp 114)), 23, none⟩]
def r13_22 : List VOp :=
  [⟨some 115, (Op.move (Operand.tmp 18)), 40, none⟩,
   ⟨some 116, (Op.convert 40 9 (Operand.tmp 115)), 9, none⟩,
   ⟨some 117, (Op.move (Operand.tmp 20)), 40, none⟩,
   ⟨some 118, (Op.convert 40 9 (Operand.tmp 117)), 9, none⟩,
   ⟨some 119, (Op.binOp BinOp.eql 9 (Operand.tmp 116) (Operand.tmp 118) 9), 4, none⟩,
   ⟨some 120, (Op.move (Operand.tmp 119)), 4, none⟩,
   ⟨some 121, (Op.move (Operand.tmp 19)), 23, some (120, true)⟩,
   ⟨some 122, (Op.move (Operand.tmp 21)), 23, some (120, true)⟩,
   ⟨some 123, (Op.binOp BinOp.eql 23 (Operand.tmp 121) (Operand.tmp 122) 23), 4, some (120, true)⟩,
   ⟨some 124, (Op.pick (Operand.tmp 120) (Operand.tmp 123) (Operand.const (Value.bool false))), 4, none⟩,
   ⟨some 9, (Op.assign (Operand.tmp 124)), 4, none⟩]
def r13_23 : List VOp :=
  [⟨some 125, (Op.move (Operand.tmp 9)), 4, none⟩,
   ⟨some 126, (Op.unOp UnOp.not 4 (Operand.tmp 125)), 4, none⟩,
   ⟨some 127, (Op.move (Operand.tmp 126)), 4, none⟩,
   ⟨some 128, (Op.move (Operand.tmp 5)), 48, some (127, false)⟩,
   ⟨some 129, (Op.call { callee := (Callee.value (Operand.func 41)), args := #[(Operand.tmp 128)], argTypes := #[48] }), 3, some (127, false)⟩,
   ⟨some 130, (Op.move (Operand.tmp 0)), 40, some (127, false)⟩,
   ⟨some 131, (Op.call { callee := (Callee.builtin Builtin.len), args := #[(Operand.tmp 130)], argTypes := #[40] }), 3, some (127, false)⟩,
   ⟨some 132, (Op.move (Operand.tmp 6)), 55, some (127, false)⟩,
   ⟨some 133, (Op.nilCheck (Operand.tmp 132)), 0, some (127, false)⟩,
   ⟨some 134, (Op.fieldAddr 57 (Operand.tmp 133) 1), 0, some (127, false)⟩,
   ⟨some 135, (Op.load 3 (Operand.tmp 134)), 3, some (127, false)⟩,
   ⟨some 136, (Op.binOp BinOp.sub 3 (Operand.tmp 131) (Operand.tmp 135) 3), 3, some (127, false)⟩,
   ⟨some 137, (Op.binOp BinOp.neq 3 (Operand.tmp 129) (Operand.tmp 136) 3), 4, some (127, false)⟩,
   ⟨some 138, (Op.pick (Operand.tmp 127) (Operand.const (Value.bool true)) (Operand.tmp 137)), 4, none⟩]
def r13_24 : List VOp :=
  [⟨some 4, (Op.assign (Operand.const (Value.bool false))), 4, none⟩]
def r13_7 : List VOp :=
  [⟨some 39, (Op.move (Operand.tmp 7)), 3, none⟩,
   ⟨some 40, (Op.binOp BinOp.add 3 (Operand.tmp 39) (Operand.const (Value.int IntKind.i64 1)) 3), 3, none⟩,
   ⟨some 7, (Op.assign (Operand.tmp 40)), 3, none⟩]
def r13_25 : List VOp :=
  [⟨some 139, (Op.call { callee := (Callee.value (Operand.func 29)), args := #[], argTypes := #[] }), 4, none⟩,
   ⟨some 4, (Op.assign (Operand.tmp 139)), 4, none⟩]
def B13 : VC :=
  (.seq (.region r13_0) (.seq (.seq (.region r13_1) (.cond (Operand.tmp 24) (.seq (.region r13_2) .ret) .skip)) (.seq (.region r13_3) (.seq (.region r13_4) (.seq (.seq (.region r13_5) (.block 0 (.loop (.seq (.seq (.region r13_6) (.cond (Operand.tmp 38) .skip (.exit 0))) (.seq (.block 1 (.seq (.region r13_8) (.seq (.region r13_9) (.seq (.seq (.region r13_10) (.block 2 (.seq (.region r13_11) (.cond (Operand.tmp 47) (.seq (.region r13_12) (.seq (.region r13_13) (.region r13_14))) (.seq (.region r13_15) (.cond (Operand.tmp 75) (.seq (.region r13_16) (.seq (.region r13_17) (.region r13_18))) (.seq (.region r13_19) (.cond (Operand.tmp 99) (.seq (.region r13_20) (.seq (.region r13_21) (.region r13_22))) .skip)))))))) (.seq (.draw r13_23 true) (.cond (Operand.tmp 138) (.seq (.region r13_24) .ret) .skip)))))) (.region r13_7)))))) (.seq (.region r13_25) .ret))))))
theorem code13 : ∃ c, Try.f13.body = some c ∧ abs Try.f13.ntmps c = B13 := ⟨_, rfl, by kernel_rfl⟩
theorem hb13 : HasBody Try.prog 13 := hasBody_of Try.func13 (by kernel_rfl)
theorem res13 : Try.f13.results = #[(ResultVar.tmp 4)] := rfl
theorem enter13 {w : World} {R : Value → World → Prop} (x0 x1 : Value) (h : vc Try.prog B13 (retK Try.prog #[(ResultVar.tmp 4)] R) [] (initEnv [x0, x1] 0) w) : FnC Try.prog 13 #[x0, x1] w R := by
  obtain ⟨c, h1, h2⟩ := code13
  exact hb13.fn (ret_of_vc mixed Try.func13 h1 (Nat.le_of_ble_eq_true rfl) B13 h2 h)
@[push_cast] theorem vr13_0 (Q : Post) (ds : List Deferred) (σ : Env) (w : World) : vc Try.prog (.region r13_0) Q ds σ w = vcOps Try.prog [⟨some 4, (Op.assign (Operand.const (Value.bool false))), 4, none⟩] (Q .normal ds) σ w := mk_eq rfl
@[push_cast] theorem vr13_1 (Q : Post) (ds : List Deferred) (σ : Env) (w : World) : vc Try.prog (.region r13_1) Q ds σ w = vcOps Try.prog [⟨some 22, (Op.move (Operand.tmp 0)), 40, none⟩, ⟨some 23, (Op.call { callee := (Callee.builtin Builtin.len), args := #[(Operand.tmp 22)], argTypes := #[40] }), 3, none⟩, ⟨some 24, (Op.binOp BinOp.gtr 3 (Operand.tmp 23) (Operand.const (Value.int IntKind.i64 400)) 3), 4, none⟩] (Q .normal ds) σ w := mk_eq rfl
@[push_cast] theorem vr13_2 (Q : Post) (ds : List Deferred) (σ : Env) (w : World) : vc Try.prog (.region r13_2) Q ds σ w = vcOps Try.prog [⟨some 25, (Op.call { callee := (Callee.value (Operand.func 29)), args := #[], argTypes := #[] }), 4, none⟩, ⟨some 4, (Op.assign (Operand.tmp 25)), 4, none⟩] (Q .normal ds) σ w := mk_eq rfl
@[push_cast] theorem vr13_3 (Q : Post) (ds : List Deferred) (σ : Env) (w : World) : vc Try.prog (.region r13_3) Q ds σ w = vcOps Try.prog [⟨some 26, (Op.move (Operand.tmp 0)), 40, none⟩, ⟨some 27, (Op.call { callee := (Callee.value (Operand.func 38)), args := #[(Operand.tmp 26)], argTypes := #[40] }), 48, none⟩, ⟨some 5, (Op.assign (Operand.tmp 27)), 48, none⟩] (Q .normal ds) σ w := mk_eq rfl
@[push_cast] theorem vr13_4 (Q : Post) (ds : List Deferred) (σ : Env) (w : World) : vc Try.prog (.region r13_4) Q ds σ w = vcOps Try.prog [⟨some 28, (Op.move (Operand.tmp 0)), 40, none⟩, ⟨some 29, (Op.build 57 #[(0, (Operand.tmp 28))]), 57, none⟩, ⟨some 30, (Op.box 57 (Operand.tmp 29)), 55, none⟩, ⟨some 6, (Op.assign (Operand.tmp 30)), 55, none⟩] (Q .normal ds) σ w := mk_eq rfl
@[push_cast] theorem vr13_5 (Q : Post) (ds : List Deferred) (σ : Env) (w : World) : vc Try.prog (.region r13_5) Q ds σ w = vcOps Try.prog [⟨some 7, (Op.assign (Operand.const (Value.int IntKind.i64 0))), 3, none⟩] (Q .normal ds) σ w := mk_eq rfl
@[push_cast] theorem vr13_6 (Q : Post) (ds : List Deferred) (σ : Env) (w : World) : vc Try.prog (.region r13_6) Q ds σ w = vcOps Try.prog [⟨some 31, (Op.move (Operand.tmp 7)), 3, none⟩, ⟨some 32, (Op.move (Operand.tmp 1)), 39, none⟩, ⟨some 33, (Op.call { callee := (Callee.builtin Builtin.len), args := #[(Operand.tmp 32)], argTypes := #[39] }), 3, none⟩, ⟨some 34, (Op.binOp BinOp.lss 3 (Operand.tmp 31) (Operand.tmp 33) 3), 4, none⟩, ⟨some 35, (Op.move (Operand.tmp 34)), 4, none⟩, ⟨some 36, (Op.move (Operand.tmp 7)), 3, some (35, true)⟩, ⟨some 37, (Op.binOp BinOp.lss 3 (Operand.tmp 36) (Operand.const (Value.int IntKind.i64 60)) 3), 4, some (35, true)⟩, ⟨some 38, (Op.pick (Operand.tmp 35) (Operand.tmp 37) (Operand.const (Value.bool false))), 4, none⟩] (Q .normal ds) σ w := mk_eq rfl
@[push_cast] theorem vr13_8 (Q : Post) (ds : List Deferred) (σ : Env) (w : World) : vc Try.prog (.region r13_8) Q ds σ w = vcOps Try.prog [⟨some 41, (Op.move (Operand.tmp 1)), 39, none⟩, ⟨some 42, (Op.move (Operand.tmp 7)), 3, none⟩, ⟨some 43, (Op.indexAddr 39 (Operand.tmp 41) (Operand.tmp 42)), 0, none⟩, ⟨some 44, (Op.load 42 (Operand.tmp 43)), 42, none⟩, ⟨some 8, (Op.alloc 42), 0, none⟩, ⟨none, (Op.store 42 (Operand.tmp 8) (Operand.tmp 44)), 0, none⟩] (Q .normal ds) σ w := mk_eq rfl
@[push_cast] theorem vr13_9 (Q : Post) (ds : List Deferred) (σ : Env) (w : World) : vc Try.prog (.region r13_9) Q ds σ w = vcOps Try.prog [⟨some 9, (Op.assign (Operand.const (Value.bool true))), 4, none⟩] (Q .normal ds) σ w := mk_eq rfl
@[push_cast] theorem vr13_10 (Q : Post) (ds : List Deferred) (σ : Env) (w : World) : vc Try.prog (.region r13_10) Q ds σ w = vcOps Try.prog [⟨some 45, (Op.fieldAddr 42 (Operand.tmp 8) 0), 0, none⟩, ⟨some 46, (Op.load 3 (Operand.tmp 45)), 3, none⟩] (Q .normal ds) σ w := mk_eq rfl
@[push_cast] theorem vr13_11 (Q : Post) (ds : List Deferred) (σ : Env) (w : World) : vc Try.prog (.region r13_11) Q ds σ w = vcOps Try.prog [⟨some 48, (Op.binOp BinOp.eql 3 (Operand.tmp 46) (Operand.const (Value.int IntKind.i64 1)) 3), 4, none⟩, ⟨some 47, (Op.assign (Operand.tmp 48)), 4, none⟩] (Q .normal ds) σ w := mk_eq rfl
@[push_cast] theorem vr13_12 (Q : Post) (ds : List Deferred) (σ : Env) (w : World) : vc Try.prog (.region r13_12) Q ds σ w = vcOps Try.prog [⟨some 50, (Op.move (Operand.tmp 5)), 48, none⟩, ⟨some 51, (Op.fieldAddr 42 (Operand.tmp 8) 2), 0, none⟩, ⟨some 52, (Op.load 3 (Operand.tmp 51)), 3, none⟩, ⟨some 53, (Op.fieldAddr 42 (Operand.tmp 8) 3), 0, none⟩, ⟨some 54, (Op.load 3 (Operand.tmp 53)), 3, none⟩, ⟨some 55, (Op.call { callee := (Callee.value (Operand.func 39)), args := #[(Operand.tmp 50), (Operand.tmp 52), (Operand.tmp 54)], argTypes := #[48, 3, 3] }), 30, none⟩, ⟨some 49, (Op.move (Operand.tmp 55)), 30, none⟩, ⟨some 56, (Op.extract (Operand.tmp 49) 0), 3, none⟩, ⟨some 57, (Op.extract (Operand.tmp 49) 1), 23, none⟩, ⟨some 10, (Op.assign (Operand.tmp 56)), 3, none⟩, ⟨some 11, (Op.assign (Operand.tmp 57)), 23, none⟩] (Q .normal ds) σ w := mk_eq rfl
@[push_cast] theorem vr13_13 (Q : Post) (ds : List Deferred) (σ : Env) (w : World) : vc Try.prog (.region r13_13) Q ds σ w = vcOps Try.prog [⟨some 59, (Op.move (Operand.tmp 6)), 55, none⟩, ⟨some 60, (Op.fieldAddr 42 (Operand.tmp 8) 2), 0, none⟩, ⟨some 61, (Op.load 3 (Operand.tmp 60)), 3, none⟩, ⟨some 62, (Op.fieldAddr 42 (Operand.tmp 8) 3), 0, none⟩, ⟨some 63, (Op.load 3 (Operand.tmp 62)), 3, none⟩, ⟨some 64, (Op.call { callee := (Callee.value (Operand.func 42)), args := #[(Operand.tmp 59), (Operand.tmp 61), (Operand.tmp 63)], argTypes := #[55, 3, 3] }), 30, none⟩, ⟨some 58, (Op.move (Operand.tmp 64)), 30, none⟩, ⟨some 65, (Op.extract (Operand.tmp 58) 0), 3, none⟩, ⟨some 66, (Op.extract (Operand.tmp 58) 1), 23, none⟩, ⟨some 12, (Op.assign (Operand.tmp 65)), 3, none⟩, ⟨some 13, (Op.assign (Operand.tmp 66)), 23, none⟩] (Q .normal ds) σ w := mk_eq rfl
@[push_cast] theorem vr13_14 (Q : Post) (ds : List Deferred) (σ : Env) (w : World) : vc Try.prog (.region r13_14) Q ds σ w = vcOps Try.prog [⟨some 67, (Op.move (Operand.tmp 10)), 3, none⟩, ⟨some 68, (Op.move (Operand.tmp 12)), 3, none⟩, ⟨some 69, (Op.binOp BinOp.eql 3 (Operand.tmp 67) (Operand.tmp 68) 3), 4, none⟩, ⟨some 70, (Op.move (Operand.tmp 69)), 4, none⟩, ⟨some 71, (Op.move (Operand.tmp 11)), 23, some (70, true)⟩, ⟨some 72, (Op.move (Operand.tmp 13)), 23, some (70, true)⟩, ⟨some 73, (Op.binOp BinOp.eql 23 (Operand.tmp 71) (Operand.tmp 72) 23), 4, some (70, true)⟩, ⟨some 74, (Op.pick (Operand.tmp 70) (Operand.tmp 73) (Operand.const (Value.bool false))), 4, none⟩, ⟨some 9, (Op.assign (Operand.tmp 74)), 4, none⟩] (Q .normal ds) σ w := mk_eq rfl
@[push_cast] theorem vr13_15 (Q : Post) (ds : List Deferred) (σ : Env) (w : World) : vc Try.prog (.region r13_15) Q ds σ w = vcOps Try.prog [⟨some 76, (Op.binOp BinOp.eql 3 (Operand.tmp 46) (Operand.const (Value.int IntKind.i64 2)) 3), 4, none⟩, ⟨some 75, (Op.assign (Operand.tmp 76)), 4, none⟩] (Q .normal ds) σ w := mk_eq rfl
@[push_cast] theorem vr13_16 (Q : Post) (ds : List Deferred) (σ : Env) (w : World) : vc Try.prog (.region r13_16) Q ds σ w = vcOps Try.prog [⟨some 78, (Op.move (Operand.tmp 5)), 48, none⟩, ⟨some 79, (Op.fieldAddr 42 (Operand.tmp 8) 3), 0, none⟩, ⟨some 80, (Op.load 3 (Operand.tmp 79)), 3, none⟩, ⟨some 81, (Op.call { callee := (Callee.value (Operand.func 40)), args := #[(Operand.tmp 78), (Operand.tmp 80)], argTypes := #[48, 3] }), 50, none⟩, ⟨some 77, (Op.move (Operand.tmp 81)), 50, none⟩, ⟨some 82, (Op.extract (Operand.tmp 77) 0), 9, none⟩, ⟨some 83, (Op.extract (Operand.tmp 77) 1), 23, none⟩, ⟨some 14, (Op.assign (Operand.tmp 82)), 9, none⟩, ⟨some 15, (Op.assign (Operand.tmp 83)), 23, none⟩] (Q .normal ds) σ w := mk_eq rfl
@[push_cast] theorem vr13_17 (Q : Post) (ds : List Deferred) (σ : Env) (w : World) : vc Try.prog (.region r13_17) Q ds σ w = vcOps Try.prog [⟨some 85, (Op.move (Operand.tmp 6)), 55, none⟩, ⟨some 86, (Op.fieldAddr 42 (Operand.tmp 8) 3), 0, none⟩, ⟨some 87, (Op.load 3 (Operand.tmp 86)), 3, none⟩, ⟨some 88, (Op.call { callee := (Callee.value (Operand.func 43)), args := #[(Operand.tmp 85), (Operand.tmp 87)], argTypes := #[55, 3] }), 50, none⟩, ⟨some 84, (Op.move (Operand.tmp 88)), 50, none⟩, ⟨some 89, (Op.extract (Operand.tmp 84) 0), 9, none⟩, ⟨some 90, (Op.extract (Operand.tmp 84) 1), 23, none⟩, ⟨some 16, (Op.assign (Operand.tmp 89)), 9, none⟩, ⟨some 17, (Op.assign (Operand.tmp 90)), 23, none⟩] (Q .normal ds) σ w := mk_eq rfl
@[push_cast] theorem vr13_18 (Q : Post) (ds : List Deferred) (σ : Env) (w : World) : vc Try.prog (.region r13_18) Q ds σ w = vcOps Try.prog [⟨some 91, (Op.move (Operand.tmp 14)), 9, none⟩, ⟨some 92, (Op.move (Operand.tmp 16)), 9, none⟩, ⟨some 93, (Op.binOp BinOp.eql 9 (Operand.tmp 91) (Operand.tmp 92) 9), 4, none⟩, ⟨some 94, (Op.move (Operand.tmp 93)), 4, none⟩, ⟨some 95, (Op.move (Operand.tmp 15)), 23, some (94, true)⟩, ⟨some 96, (Op.move (Operand.tmp 17)), 23, some (94, true)⟩, ⟨some 97, (Op.binOp BinOp.eql 23 (Operand.tmp 95) (Operand.tmp 96) 23), 4, some (94, true)⟩, ⟨some 98, (Op.pick (Operand.tmp 94) (Operand.tmp 97) (Operand.const (Value.bool false))), 4, none⟩, ⟨some 9, (Op.assign (Operand.tmp 98)), 4, none⟩] (Q .normal ds) σ w := mk_eq rfl
@[push_cast] theorem vr13_19 (Q : Post) (ds : List Deferred) (σ : Env) (w : World) : vc Try.prog (.region r13_19) Q ds σ w = vcOps Try.prog [⟨some 100, (Op.binOp BinOp.eql 3 (Operand.tmp 46) (Operand.const (Value.int IntKind.i64 3)) 3), 4, none⟩, ⟨some 99, (Op.assign (Operand.tmp 100)), 4, none⟩] (Q .normal ds) σ w := mk_eq rfl
@[push_cast] theorem vr13_20 (Q : Post) (ds : List Deferred) (σ : Env) (w : World) : vc Try.prog (.region r13_20) Q ds σ w = vcOps Try.prog [⟨some 102, (Op.move (Operand.tmp 5)), 48, none⟩, ⟨some 103, (Op.fieldAddr 42 (Operand.tmp 8) 1), 0, none⟩, ⟨some 104, (Op.load 3 (Operand.tmp 103)), 3, none⟩, ⟨some 105, (Op.call { callee := (Callee.value (Operand.func 44)), args := #[(Operand.tmp 102), (Operand.tmp 104)], argTypes := #[48, 3] }), 58, none⟩, ⟨some 101, (Op.move (Operand.tmp 105)), 58, none⟩, ⟨some 106, (Op.extract (Operand.tmp 101) 0), 40, none⟩, ⟨some 107, (Op.extract (Operand.tmp 101) 1), 23, none⟩, ⟨some 18, (Op.assign (Operand.tmp 106)), 40, none⟩, ⟨some 19, (Op.assign (Operand.tmp 107)), 23, none⟩] (Q .normal ds) σ w := mk_eq rfl
@[push_cast] theorem vr13_21 (Q : Post) (ds : List Deferred) (σ : Env) (w : World) : vc Try.prog (.region r13_21) Q ds σ w = vcOps Try.prog [⟨some 109, (Op.move (Operand.tmp 6)), 55, none⟩, ⟨some 110, (Op.fieldAddr 42 (Operand.tmp 8) 1), 0, none⟩, ⟨some 111, (Op.load 3 (Operand.tmp 110)), 3, none⟩, ⟨some 112, (Op.call { callee := (Callee.value (Operand.func 45)), args := #[(Operand.tmp 109), (Operand.tmp 111)], argTypes := #[55, 3] }), 58, none⟩, ⟨some 108, (Op.move (Operand.tmp 112)), 58, none⟩, ⟨some 113, (Op.extract (Operand.tmp 108) 0), 40, none⟩, ⟨some 114, (Op.extract (Operand.tmp 108) 1), 23, none⟩, ⟨some 20, (Op.assign (Operand.tmp 113)), 40, none⟩, ⟨some 21, (Op.assign (Operand.tmp 114)), 23, none⟩] (Q .normal ds) σ w := mk_eq rfl
@[push_cast] theorem vr13_22 (Q : Post) (ds : List Deferred) (σ : Env) (w : World) : vc Try.prog (.region r13_22) Q ds σ w = vcOps Try.prog [⟨some 115, (Op.move (Operand.tmp 18)), 40, none⟩, ⟨some 116, (Op.convert 40 9 (Operand.tmp 115)), 9, none⟩, ⟨some 117, (Op.move (Operand.tmp 20)), 40, none⟩, ⟨some 118, (Op.convert 40 9 (Operand.tmp 117)), 9, none⟩, ⟨some 119, (Op.binOp BinOp.eql 9 (Operand.tmp 116) (Operand.tmp 118) 9), 4, none⟩, ⟨some 120, (Op.move (Operand.tmp 119)), 4, none⟩, ⟨some 121, (Op.move (Operand.tmp 19)), 23, some (120, true)⟩, ⟨some 122, (Op.move (Operand.tmp 21)), 23, some (120, true)⟩, ⟨some 123, (Op.binOp BinOp.eql 23 (Operand.tmp 121) (Operand.tmp 122) 23), 4, some (120, true)⟩, ⟨some 124, (Op.pick (Operand.tmp 120) (Operand.tmp 123) (Operand.const (Value.bool false))), 4, none⟩, ⟨some 9, (Op.assign (Operand.tmp 124)), 4, none⟩] (Q .normal ds) σ w := mk_eq rfl
@[push_cast] theorem vr13_23 (Q : Post) (ds : List Deferred) (σ : Env) (w : World) : vc Try.prog (.draw r13_23 true) Q ds σ w = drawn Try.prog [(⟨some 125, (Op.move (Operand.tmp 9)), 4, none⟩, [9]), (⟨some 126, (Op.unOp UnOp.not 4 (Operand.tmp 125)), 4, none⟩, [125]), (⟨some 127, (Op.move (Operand.tmp 126)), 4, none⟩, [126]), (⟨some 128, (Op.move (Operand.tmp 5)), 48, some (127, false)⟩, [5, 127]), (⟨some 129, (Op.call { callee := (Callee.value (Operand.func 41)), args := #[(Operand.tmp 128)], argTypes := #[48] }), 3, some (127, false)⟩, [128, 127]), (⟨some 130, (Op.move (Operand.tmp 0)), 40, some (127, false)⟩, [0, 127]), (⟨some 131, (Op.call { callee := (Callee.builtin Builtin.len), args := #[(Operand.tmp 130)], argTypes := #[40] }), 3, some (127, false)⟩, [130, 127]), (⟨some 132, (Op.move (Operand.tmp 6)), 55, some (127, false)⟩, [6, 127]), (⟨some 133, (Op.nilCheck (Operand.tmp 132)), 0, some (127, false)⟩, [132, 127]), (⟨some 134, (Op.fieldAddr 57 (Operand.tmp 133) 1), 0, some (127, false)⟩, [133, 127]), (⟨some 135, (Op.load 3 (Operand.tmp 134)), 3, some (127, false)⟩, [134, 127]), (⟨some 136, (Op.binOp BinOp.sub 3 (Operand.tmp 131) (Operand.tmp 135) 3), 3, some (127, false)⟩, [131, 135, 127]), (⟨some 137, (Op.binOp BinOp.neq 3 (Operand.tmp 129) (Operand.tmp 136) 3), 4, some (127, false)⟩, [129, 136, 127]), (⟨some 138, (Op.pick (Operand.tmp 127) (Operand.const (Value.bool true)) (Operand.tmp 137)), 4, none⟩, [127, 137])] true (Q .normal ds) σ w := mk_eq rfl
@[push_cast] theorem vr13_24 (Q : Post) (ds : List Deferred) (σ : Env) (w : World) : vc Try.prog (.region r13_24) Q ds σ w = vcOps Try.prog [⟨some 4, (Op.assign (Operand.const (Value.bool false))), 4, none⟩] (Q .normal ds) σ w := mk_eq rfl
@[push_cast] theorem vr13_7 (Q : Post) (ds : List Deferred) (σ : Env) (w : World) : vc Try.prog (.region r13_7) Q ds σ w = vcOps Try.prog [⟨some 39, (Op.move (Operand.tmp 7)), 3, none⟩, ⟨some 40, (Op.binOp BinOp.add 3 (Operand.tmp 39) (Operand.const (Value.int IntKind.i64 1)) 3), 3, none⟩, ⟨some 7, (Op.assign (Operand.tmp 40)), 3, none⟩] (Q .normal ds) σ w := mk_eq rfl
@[push_cast] theorem vr13_25 (Q : Post) (ds : List Deferred) (σ : Env) (w : World) : vc Try.prog (.region r13_25) Q ds σ w = vcOps Try.prog [⟨some 139, (Op.call { callee := (Callee.value (Operand.func 29)), args := #[], argTypes := #[] }), 4, none⟩, ⟨some 4, (Op.assign (Operand.tmp 139)), 4, none⟩] (Q .normal ds) σ w := mk_eq rfl
/-! 14 columbary/columbarylaw01.ZigNil (params #[3], results #[(ResultVar.tmp 2)], 47 slots) -/
def r14_0 : List VOp :=
  [⟨some 2, (Op.assign (Operand.const (Value.bool false))), 4, none⟩]
def r14_1 : List VOp :=
  [⟨some 3, (Op.assign (Operand.const (Value.pointer none))), 48, none⟩]
def r14_2 : List VOp :=
  [⟨some 11, (Op.move (Operand.tmp 3)), 48, none⟩,
   ⟨some 12, (Op.move (Operand.tmp 0)), 3, none⟩,
   ⟨some 13, (Op.move (Operand.tmp 0)), 3, none⟩,
   ⟨some 14, (Op.call { callee := (Callee.value (Operand.func 39)), args := #[(Operand.tmp 11), (Operand.tmp 12), (Operand.tmp 13)], argTypes := #[48, 3, 3] }), 30, none⟩,
   ⟨some 10, (Op.move (Operand.tmp 14)), 30, none⟩,
   ⟨some 15, (Op.extract (Operand.tmp 10) 0), 3, none⟩,
   ⟨some 16, (Op.extract (Operand.tmp 10) 1), 23, none⟩,
   ⟨some 4, (Op.assign (Operand.tmp 15)), 3, none⟩,
   ⟨some 5, (Op.assign (Operand.tmp 16)), 23, none⟩]
def r14_3 : List VOp :=
  [⟨some 18, (Op.move (Operand.tmp 3)), 48, none⟩,
   ⟨some 19, (Op.move (Operand.tmp 0)), 3, none⟩,
   ⟨some 20, (Op.call { callee := (Callee.value (Operand.func 40)), args := #[(Operand.tmp 18), (Operand.tmp 19)], argTypes := #[48, 3] }), 50, none⟩,
   ⟨some 17, (Op.move (Operand.tmp 20)), 50, none⟩,
   ⟨some 21, (Op.extract (Operand.tmp 17) 0), 9, none⟩,
   ⟨some 22, (Op.extract (Operand.tmp 17) 1), 23, none⟩,
   ⟨some 6, (Op.assign (Operand.tmp 21)), 9, none⟩,
   ⟨some 7, (Op.assign (Operand.tmp 22)), 23, none⟩]
def r14_4 : List VOp :=
  [⟨some 24, (Op.move (Operand.tmp 3)), 48, none⟩,
   ⟨some 25, (Op.move (Operand.tmp 0)), 3, none⟩,
   ⟨some 26, (Op.call { callee := (Callee.value (Operand.func 44)), args := #[(Operand.tmp 24), (Operand.tmp 25)], argTypes := #[48, 3] }), 58, none⟩,
   ⟨some 23, (Op.move (Operand.tmp 26)), 58, none⟩,
   ⟨some 27, (Op.extract (Operand.tmp 23) 0), 40, none⟩,
   ⟨some 28, (Op.extract (Operand.tmp 23) 1), 23, none⟩,
   ⟨some 8, (Op.assign (Operand.tmp 27)), 40, none⟩,
   ⟨some 9, (Op.assign (Operand.tmp 28)), 23, none⟩]
def r14_5 : List VOp :=
  [⟨some 29, (Op.call { callee := (Callee.value (Operand.func 29)), args := #[], argTypes := #[] }), 4, none⟩,
   ⟨some 30, (Op.move (Operand.tmp 29)), 4, none⟩,
   ⟨some 31, (Op.move (Operand.tmp 5)), 23, some (30, true)⟩,
   ⟨some 32, (Op.binOp BinOp.eql 23 (Operand.tmp 31) (Operand.const (Value.int IntKind.i64 1)) 23), 4, some (30, true)⟩,
   ⟨some 33, (Op.pick (Operand.tmp 30) (Operand.tmp 32) (Operand.const (Value.bool false))), 4, none⟩,
   ⟨some 34, (Op.move (Operand.tmp 33)), 4, none⟩,
   ⟨some 35, (Op.move (Operand.tmp 7)), 23, some (34, true)⟩,
   ⟨some 36, (Op.binOp BinOp.eql 23 (Operand.tmp 35) (Operand.const (Value.int IntKind.i64 1)) 23), 4, some (34, true)⟩,
   ⟨some 37, (Op.pick (Operand.tmp 34) (Operand.tmp 36) (Operand.const (Value.bool false))), 4, none⟩,
   ⟨some 38, (Op.move (Operand.tmp 37)), 4, none⟩,
   ⟨some 39, (Op.move (Operand.tmp 9)), 23, some (38, true)⟩,
   ⟨some 40, (Op.binOp BinOp.eql 23 (Operand.tmp 39) (Operand.const (Value.int IntKind.i64 1)) 23), 4, some (38, true)⟩,
   ⟨some 41, (Op.pick (Operand.tmp 38) (Operand.tmp 40) (Operand.const (Value.bool false))), 4, none⟩,
   ⟨some 42, (Op.move (Operand.tmp 41)), 4, none⟩,
   ⟨some 43, (Op.move (Operand.tmp 3)), 48, some (42, true)⟩,
   ⟨some 44, (Op.call { callee := (Callee.value (Operand.func 41)), args := #[(Operand.tmp 43)], argTypes := #[48] }), 3, some (42, true)⟩,
   ⟨some 45, (Op.binOp BinOp.eql 3 (Operand.tmp 44) (Operand.const (Value.int IntKind.i64 0)) 3), 4, some (42, true)⟩,
   ⟨some 46, (Op.pick (Operand.tmp 42) (Operand.tmp 45) (Operand.const (Value.bool false))), 4, none⟩,
   ⟨some 2, (Op.assign (Operand.tmp 46)), 4, none⟩]
def B14 : VC :=
  (.seq (.region r14_0) (.seq (.region r14_1) (.seq (.region r14_2) (.seq (.region r14_3) (.seq (.region r14_4) (.seq (.region r14_5) .ret))))))
theorem code14 : ∃ c, Try.f14.body = some c ∧ abs Try.f14.ntmps c = B14 := ⟨_, rfl, by kernel_rfl⟩
theorem hb14 : HasBody Try.prog 14 := hasBody_of Try.func14 (by kernel_rfl)
theorem res14 : Try.f14.results = #[(ResultVar.tmp 2)] := rfl
theorem enter14 {w : World} {R : Value → World → Prop} (x0 : Value) (h : vc Try.prog B14 (retK Try.prog #[(ResultVar.tmp 2)] R) [] (initEnv [x0] 0) w) : FnC Try.prog 14 #[x0] w R := by
  obtain ⟨c, h1, h2⟩ := code14
  exact hb14.fn (ret_of_vc mixed Try.func14 h1 (Nat.le_of_ble_eq_true rfl) B14 h2 h)
@[push_cast] theorem vr14_0 (Q : Post) (ds : List Deferred) (σ : Env) (w : World) : vc Try.prog (.region r14_0) Q ds σ w = vcOps Try.prog [⟨some 2, (Op.assign (Operand.const (Value.bool false))), 4, none⟩] (Q .normal ds) σ w := mk_eq rfl
@[push_cast] theorem vr14_1 (Q : Post) (ds : List Deferred) (σ : Env) (w : World) : vc Try.prog (.region r14_1) Q ds σ w = vcOps Try.prog [⟨some 3, (Op.assign (Operand.const (Value.pointer none))), 48, none⟩] (Q .normal ds) σ w := mk_eq rfl
@[push_cast] theorem vr14_2 (Q : Post) (ds : List Deferred) (σ : Env) (w : World) : vc Try.prog (.region r14_2) Q ds σ w = vcOps Try.prog [⟨some 11, (Op.move (Operand.tmp 3)), 48, none⟩, ⟨some 12, (Op.move (Operand.tmp 0)), 3, none⟩, ⟨some 13, (Op.move (Operand.tmp 0)), 3, none⟩, ⟨some 14, (Op.call { callee := (Callee.value (Operand.func 39)), args := #[(Operand.tmp 11), (Operand.tmp 12), (Operand.tmp 13)], argTypes := #[48, 3, 3] }), 30, none⟩, ⟨some 10, (Op.move (Operand.tmp 14)), 30, none⟩, ⟨some 15, (Op.extract (Operand.tmp 10) 0), 3, none⟩, ⟨some 16, (Op.extract (Operand.tmp 10) 1), 23, none⟩, ⟨some 4, (Op.assign (Operand.tmp 15)), 3, none⟩, ⟨some 5, (Op.assign (Operand.tmp 16)), 23, none⟩] (Q .normal ds) σ w := mk_eq rfl
@[push_cast] theorem vr14_3 (Q : Post) (ds : List Deferred) (σ : Env) (w : World) : vc Try.prog (.region r14_3) Q ds σ w = vcOps Try.prog [⟨some 18, (Op.move (Operand.tmp 3)), 48, none⟩, ⟨some 19, (Op.move (Operand.tmp 0)), 3, none⟩, ⟨some 20, (Op.call { callee := (Callee.value (Operand.func 40)), args := #[(Operand.tmp 18), (Operand.tmp 19)], argTypes := #[48, 3] }), 50, none⟩, ⟨some 17, (Op.move (Operand.tmp 20)), 50, none⟩, ⟨some 21, (Op.extract (Operand.tmp 17) 0), 9, none⟩, ⟨some 22, (Op.extract (Operand.tmp 17) 1), 23, none⟩, ⟨some 6, (Op.assign (Operand.tmp 21)), 9, none⟩, ⟨some 7, (Op.assign (Operand.tmp 22)), 23, none⟩] (Q .normal ds) σ w := mk_eq rfl
@[push_cast] theorem vr14_4 (Q : Post) (ds : List Deferred) (σ : Env) (w : World) : vc Try.prog (.region r14_4) Q ds σ w = vcOps Try.prog [⟨some 24, (Op.move (Operand.tmp 3)), 48, none⟩, ⟨some 25, (Op.move (Operand.tmp 0)), 3, none⟩, ⟨some 26, (Op.call { callee := (Callee.value (Operand.func 44)), args := #[(Operand.tmp 24), (Operand.tmp 25)], argTypes := #[48, 3] }), 58, none⟩, ⟨some 23, (Op.move (Operand.tmp 26)), 58, none⟩, ⟨some 27, (Op.extract (Operand.tmp 23) 0), 40, none⟩, ⟨some 28, (Op.extract (Operand.tmp 23) 1), 23, none⟩, ⟨some 8, (Op.assign (Operand.tmp 27)), 40, none⟩, ⟨some 9, (Op.assign (Operand.tmp 28)), 23, none⟩] (Q .normal ds) σ w := mk_eq rfl
@[push_cast] theorem vr14_5 (Q : Post) (ds : List Deferred) (σ : Env) (w : World) : vc Try.prog (.region r14_5) Q ds σ w = vcOps Try.prog [⟨some 29, (Op.call { callee := (Callee.value (Operand.func 29)), args := #[], argTypes := #[] }), 4, none⟩, ⟨some 30, (Op.move (Operand.tmp 29)), 4, none⟩, ⟨some 31, (Op.move (Operand.tmp 5)), 23, some (30, true)⟩, ⟨some 32, (Op.binOp BinOp.eql 23 (Operand.tmp 31) (Operand.const (Value.int IntKind.i64 1)) 23), 4, some (30, true)⟩, ⟨some 33, (Op.pick (Operand.tmp 30) (Operand.tmp 32) (Operand.const (Value.bool false))), 4, none⟩, ⟨some 34, (Op.move (Operand.tmp 33)), 4, none⟩, ⟨some 35, (Op.move (Operand.tmp 7)), 23, some (34, true)⟩, ⟨some 36, (Op.binOp BinOp.eql 23 (Operand.tmp 35) (Operand.const (Value.int IntKind.i64 1)) 23), 4, some (34, true)⟩, ⟨some 37, (Op.pick (Operand.tmp 34) (Operand.tmp 36) (Operand.const (Value.bool false))), 4, none⟩, ⟨some 38, (Op.move (Operand.tmp 37)), 4, none⟩, ⟨some 39, (Op.move (Operand.tmp 9)), 23, some (38, true)⟩, ⟨some 40, (Op.binOp BinOp.eql 23 (Operand.tmp 39) (Operand.const (Value.int IntKind.i64 1)) 23), 4, some (38, true)⟩, ⟨some 41, (Op.pick (Operand.tmp 38) (Operand.tmp 40) (Operand.const (Value.bool false))), 4, none⟩, ⟨some 42, (Op.move (Operand.tmp 41)), 4, none⟩, ⟨some 43, (Op.move (Operand.tmp 3)), 48, some (42, true)⟩, ⟨some 44, (Op.call { callee := (Callee.value (Operand.func 41)), args := #[(Operand.tmp 43)], argTypes := #[48] }), 3, some (42, true)⟩, ⟨some 45, (Op.binOp BinOp.eql 3 (Operand.tmp 44) (Operand.const (Value.int IntKind.i64 0)) 3), 4, some (42, true)⟩, ⟨some 46, (Op.pick (Operand.tmp 42) (Operand.tmp 45) (Operand.const (Value.bool false))), 4, none⟩, ⟨some 2, (Op.assign (Operand.tmp 46)), 4, none⟩] (Q .normal ds) σ w := mk_eq rfl
@[push_cast] theorem bld57_0_CodesL {K : Value → World → Prop} {w : World} (x0o : Option Addr) (x0n x0c : Nat) : vBuild Try.prog 57 #[(0, (.slice x0o x0n x0c))] K w = K (.agg #[(.slice x0o x0n x0c), (.int .i64 0), (.bool false)]) w :=
  vBuild_ok (by kernel_rfl)
end Go.Proofs.Ytgomibebepmlhaa
