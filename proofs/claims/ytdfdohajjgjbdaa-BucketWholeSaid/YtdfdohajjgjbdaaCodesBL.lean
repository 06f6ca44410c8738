/- The functions' code in the generator's form. Written by a program (codes.py) out of Lean's own print of the loaded translation. -/
import Derived.Test.YtdfdohajjgjbdaaTypes
namespace Go.Proofs.Ytdfdohajjgjbdaa
open Go.Vc
/-! 3 columbary/columbarylaw11.BucketCuts (params #[3, 3, 3], results #[(ResultVar.tmp 6)], 36 slots) -/
def r3_0 : List VOp :=
  [⟨some 6, (Op.assign (Operand.const (Value.bool false))), 4, none⟩]
def r3_1 : List VOp :=
  [⟨some 12, (Op.move (Operand.tmp 0)), 3, none⟩,
   ⟨some 13, (Op.move (Operand.tmp 1)), 3, none⟩,
   ⟨some 14, (Op.move (Operand.tmp 2)), 3, none⟩,
   ⟨some 15, (Op.call { callee := (Callee.value (Operand.func 13)), args := #[(Operand.tmp 12), (Operand.tmp 13), (Operand.tmp 14)], argTypes := #[3, 3, 3] }), 24, none⟩,
   ⟨some 11, (Op.move (Operand.tmp 15)), 24, none⟩,
   ⟨some 16, (Op.extract (Operand.tmp 11) 0), 22, none⟩,
   ⟨some 17, (Op.extract (Operand.tmp 11) 1), 23, none⟩,
   ⟨some 7, (Op.assign (Operand.tmp 16)), 22, none⟩,
   ⟨some 8, (Op.assign (Operand.tmp 17)), 23, none⟩]
def r3_2 : List VOp :=
  [⟨some 19, (Op.move (Operand.tmp 0)), 3, none⟩,
   ⟨some 20, (Op.move (Operand.tmp 1)), 3, none⟩,
   ⟨some 21, (Op.move (Operand.tmp 2)), 3, none⟩,
   ⟨some 22, (Op.call { callee := (Callee.value (Operand.func 14)), args := #[(Operand.tmp 19), (Operand.tmp 20), (Operand.tmp 21)], argTypes := #[3, 3, 3] }), 24, none⟩,
   ⟨some 18, (Op.move (Operand.tmp 22)), 24, none⟩,
   ⟨some 23, (Op.extract (Operand.tmp 18) 0), 22, none⟩,
   ⟨some 24, (Op.extract (Operand.tmp 18) 1), 23, none⟩,
   ⟨some 9, (Op.assign (Operand.tmp 23)), 22, none⟩,
   ⟨some 10, (Op.assign (Operand.tmp 24)), 23, none⟩]
def r3_3 : List VOp :=
  [⟨some 25, (Op.call { callee := (Callee.value (Operand.func 15)), args := #[], argTypes := #[] }), 4, none⟩,
   ⟨some 26, (Op.move (Operand.tmp 25)), 4, none⟩,
   ⟨some 27, (Op.move (Operand.tmp 7)), 22, some (26, true)⟩,
   ⟨some 28, (Op.move (Operand.tmp 9)), 22, some (26, true)⟩,
   ⟨some 29, (Op.call { callee := (Callee.value (Operand.func 16)), args := #[(Operand.tmp 27), (Operand.tmp 28)], argTypes := #[22, 22] }), 4, some (26, true)⟩,
   ⟨some 30, (Op.pick (Operand.tmp 26) (Operand.tmp 29) (Operand.const (Value.bool false))), 4, none⟩,
   ⟨some 31, (Op.move (Operand.tmp 30)), 4, none⟩,
   ⟨some 32, (Op.move (Operand.tmp 8)), 23, some (31, true)⟩,
   ⟨some 33, (Op.move (Operand.tmp 10)), 23, some (31, true)⟩,
   ⟨some 34, (Op.binOp BinOp.eql 23 (Operand.tmp 32) (Operand.tmp 33) 23), 4, some (31, true)⟩,
   ⟨some 35, (Op.pick (Operand.tmp 31) (Operand.tmp 34) (Operand.const (Value.bool false))), 4, none⟩,
   ⟨some 6, (Op.assign (Operand.tmp 35)), 4, none⟩]
def B3 : VC :=
  (.seq (.region r3_0) (.seq (.region r3_1) (.seq (.region r3_2) (.seq (.region r3_3) .ret))))
theorem code3 : ∃ c, Try.f3.body = some c ∧ abs Try.f3.ntmps c = B3 := ⟨_, rfl, by kernel_rfl⟩
theorem hb3 : HasBody Try.prog 3 := hasBody_of Try.func3 (by kernel_rfl)
theorem res3 : Try.f3.results = #[(ResultVar.tmp 6)] := rfl
theorem enter3 {w : World} {R : Value → World → Prop} (x0 x1 x2 : Value) (h : vc Try.prog B3 (retK Try.prog #[(ResultVar.tmp 6)] R) [] (initEnv [x0, x1, x2] 0) w) : FnC Try.prog 3 #[x0, x1, x2] w R := by
  obtain ⟨c, h1, h2⟩ := code3
  exact hb3.fn (ret_of_vc mixed Try.func3 h1 (Nat.le_of_ble_eq_true rfl) B3 h2 h)
@[push_cast] theorem vr3_0 (Q : Post) (ds : List Deferred) (σ : Env) (w : World) : vc Try.prog (.region r3_0) Q ds σ w = vcOps Try.prog [⟨some 6, (Op.assign (Operand.const (Value.bool false))), 4, none⟩] (Q .normal ds) σ w := mk_eq rfl
@[push_cast] theorem vr3_1 (Q : Post) (ds : List Deferred) (σ : Env) (w : World) : vc Try.prog (.region r3_1) Q ds σ w = vcOps Try.prog [⟨some 12, (Op.move (Operand.tmp 0)), 3, none⟩, ⟨some 13, (Op.move (Operand.tmp 1)), 3, none⟩, ⟨some 14, (Op.move (Operand.tmp 2)), 3, none⟩, ⟨some 15, (Op.call { callee := (Callee.value (Operand.func 13)), args := #[(Operand.tmp 12), (Operand.tmp 13), (Operand.tmp 14)], argTypes := #[3, 3, 3] }), 24, none⟩, ⟨some 11, (Op.move (Operand.tmp 15)), 24, none⟩, ⟨some 16, (Op.extract (Operand.tmp 11) 0), 22, none⟩, ⟨some 17, (Op.extract (Operand.tmp 11) 1), 23, none⟩, ⟨some 7, (Op.assign (Operand.tmp 16)), 22, none⟩, ⟨some 8, (Op.assign (Operand.tmp 17)), 23, none⟩] (Q .normal ds) σ w := mk_eq rfl
@[push_cast] theorem vr3_2 (Q : Post) (ds : List Deferred) (σ : Env) (w : World) : vc Try.prog (.region r3_2) Q ds σ w = vcOps Try.prog [⟨some 19, (Op.move (Operand.tmp 0)), 3, none⟩, ⟨some 20, (Op.move (Operand.tmp 1)), 3, none⟩, ⟨some 21, (Op.move (Operand.tmp 2)), 3, none⟩, ⟨some 22, (Op.call { callee := (Callee.value (Operand.func 14)), args := #[(Operand.tmp 19), (Operand.tmp 20), (Operand.tmp 21)], argTypes := #[3, 3, 3] }), 24, none⟩, ⟨some 18, (Op.move (Operand.tmp 22)), 24, none⟩, ⟨some 23, (Op.extract (Operand.tmp 18) 0), 22, none⟩, ⟨some 24, (Op.extract (Operand.tmp 18) 1), 23, none⟩, ⟨some 9, (Op.assign (Operand.tmp 23)), 22, none⟩, ⟨some 10, (Op.assign (Operand.tmp 24)), 23, none⟩] (Q .normal ds) σ w := mk_eq rfl
@[push_cast] theorem vr3_3 (Q : Post) (ds : List Deferred) (σ : Env) (w : World) : vc Try.prog (.region r3_3) Q ds σ w = vcOps Try.prog [⟨some 25, (Op.call { callee := (Callee.value (Operand.func 15)), args := #[], argTypes := #[] }), 4, none⟩, ⟨some 26, (Op.move (Operand.tmp 25)), 4, none⟩, ⟨some 27, (Op.move (Operand.tmp 7)), 22, some (26, true)⟩, ⟨some 28, (Op.move (Operand.tmp 9)), 22, some (26, true)⟩, ⟨some 29, (Op.call { callee := (Callee.value (Operand.func 16)), args := #[(Operand.tmp 27), (Operand.tmp 28)], argTypes := #[22, 22] }), 4, some (26, true)⟩, ⟨some 30, (Op.pick (Operand.tmp 26) (Operand.tmp 29) (Operand.const (Value.bool false))), 4, none⟩, ⟨some 31, (Op.move (Operand.tmp 30)), 4, none⟩, ⟨some 32, (Op.move (Operand.tmp 8)), 23, some (31, true)⟩, ⟨some 33, (Op.move (Operand.tmp 10)), 23, some (31, true)⟩, ⟨some 34, (Op.binOp BinOp.eql 23 (Operand.tmp 32) (Operand.tmp 33) 23), 4, some (31, true)⟩, ⟨some 35, (Op.pick (Operand.tmp 31) (Operand.tmp 34) (Operand.const (Value.bool false))), 4, none⟩, ⟨some 6, (Op.assign (Operand.tmp 35)), 4, none⟩] (Q .normal ds) σ w := mk_eq rfl
/-! 4 columbary/columbarylaw11.BucketShift (params #[3, 3, 3], results #[(ResultVar.tmp 6)], 117 slots) -/
def r4_0 : List VOp :=
  [⟨some 6, (Op.assign (Operand.const (Value.bool false))), 4, none⟩]
def r4_1 : List VOp :=
  [⟨some 18, (Op.move (Operand.tmp 1)), 3, none⟩,
   ⟨some 19, (Op.call { callee := (Callee.value (Operand.func 17)), args := #[(Operand.tmp 18)], argTypes := #[3] }), 4, none⟩,
   ⟨some 20, (Op.unOp UnOp.not 4 (Operand.tmp 19)), 4, none⟩,
   ⟨some 21, (Op.move (Operand.tmp 20)), 4, none⟩,
   ⟨some 22, (Op.move (Operand.tmp 0)), 3, some (21, false)⟩,
   ⟨some 23, (Op.binOp BinOp.lss 3 (Operand.tmp 22) (Operand.const (Value.int IntKind.i64 (-1073741824))) 3), 4, some (21, false)⟩,
   ⟨some 24, (Op.pick (Operand.tmp 21) (Operand.const (Value.bool true)) (Operand.tmp 23)), 4, none⟩,
   ⟨some 25, (Op.move (Operand.tmp 24)), 4, none⟩,
   ⟨some 26, (Op.move (Operand.tmp 0)), 3, some (25, false)⟩,
   ⟨some 27, (Op.binOp BinOp.gtr 3 (Operand.tmp 26) (Operand.const (Value.int IntKind.i64 1073741824)) 3), 4, some (25, false)⟩,
   ⟨some 28, (Op.pick (Operand.tmp 25) (Operand.const (Value.bool true)) (Operand.tmp 27)), 4, none⟩]
def r4_2 : List VOp :=
  [⟨some 29, (Op.call { callee := (Callee.value (Operand.func 15)), args := #[], argTypes := #[] }), 4, none⟩,
   ⟨some 6, (Op.assign (Operand.tmp 29)), 4, none⟩]
def r4_3 : List VOp :=
  [⟨some 30, (Op.move (Operand.tmp 2)), 3, none⟩,
   ⟨some 31, (Op.binOp BinOp.and 3 (Operand.tmp 30) (Operand.const (Value.int IntKind.i64 1023)) 3), 3, none⟩,
   ⟨some 32, (Op.binOp BinOp.sub 3 (Operand.tmp 31) (Operand.const (Value.int IntKind.i64 500)) 3), 3, none⟩,
   ⟨some 7, (Op.assign (Operand.tmp 32)), 3, none⟩]
def r4_4 : List VOp :=
  [⟨some 34, (Op.move (Operand.tmp 0)), 3, none⟩,
   ⟨some 35, (Op.move (Operand.tmp 1)), 3, none⟩,
   ⟨some 36, (Op.call { callee := (Callee.value (Operand.func 18)), args := #[(Operand.tmp 34), (Operand.tmp 35)], argTypes := #[3, 3] }), 30, none⟩,
   ⟨some 33, (Op.move (Operand.tmp 36)), 30, none⟩,
   ⟨some 37, (Op.extract (Operand.tmp 33) 0), 3, none⟩,
   ⟨some 38, (Op.extract (Operand.tmp 33) 1), 23, none⟩,
   ⟨some 8, (Op.assign (Operand.tmp 37)), 3, none⟩,
   ⟨some 9, (Op.assign (Operand.tmp 38)), 23, none⟩]
def r4_5 : List VOp :=
  [⟨some 40, (Op.move (Operand.tmp 0)), 3, none⟩,
   ⟨some 41, (Op.move (Operand.tmp 7)), 3, none⟩,
   ⟨some 42, (Op.move (Operand.tmp 1)), 3, none⟩,
   ⟨some 43, (Op.binOp BinOp.mul 3 (Operand.tmp 41) (Operand.tmp 42) 3), 3, none⟩,
   ⟨some 44, (Op.binOp BinOp.add 3 (Operand.tmp 40) (Operand.tmp 43) 3), 3, none⟩,
   ⟨some 45, (Op.move (Operand.tmp 1)), 3, none⟩,
   ⟨some 46, (Op.call { callee := (Callee.value (Operand.func 18)), args := #[(Operand.tmp 44), (Operand.tmp 45)], argTypes := #[3, 3] }), 30, none⟩,
   ⟨some 39, (Op.move (Operand.tmp 46)), 30, none⟩,
   ⟨some 47, (Op.extract (Operand.tmp 39) 0), 3, none⟩,
   ⟨some 48, (Op.extract (Operand.tmp 39) 1), 23, none⟩,
   ⟨some 10, (Op.assign (Operand.tmp 47)), 3, none⟩,
   ⟨some 11, (Op.assign (Operand.tmp 48)), 23, none⟩]
def r4_6 : List VOp :=
  [⟨some 50, (Op.move (Operand.tmp 0)), 3, none⟩,
   ⟨some 51, (Op.move (Operand.tmp 1)), 3, none⟩,
   ⟨some 52, (Op.call { callee := (Callee.value (Operand.func 19)), args := #[(Operand.tmp 50), (Operand.tmp 51)], argTypes := #[3, 3] }), 30, none⟩,
   ⟨some 49, (Op.move (Operand.tmp 52)), 30, none⟩,
   ⟨some 53, (Op.extract (Operand.tmp 49) 0), 3, none⟩,
   ⟨some 54, (Op.extract (Operand.tmp 49) 1), 23, none⟩,
   ⟨some 12, (Op.assign (Operand.tmp 53)), 3, none⟩,
   ⟨some 13, (Op.assign (Operand.tmp 54)), 23, none⟩]
def r4_7 : List VOp :=
  [⟨some 56, (Op.move (Operand.tmp 0)), 3, none⟩,
   ⟨some 57, (Op.unOp UnOp.neg 3 (Operand.tmp 56)), 3, none⟩,
   ⟨some 58, (Op.move (Operand.tmp 1)), 3, none⟩,
   ⟨some 59, (Op.call { callee := (Callee.value (Operand.func 18)), args := #[(Operand.tmp 57), (Operand.tmp 58)], argTypes := #[3, 3] }), 30, none⟩,
   ⟨some 55, (Op.move (Operand.tmp 59)), 30, none⟩,
   ⟨some 60, (Op.extract (Operand.tmp 55) 0), 3, none⟩,
   ⟨some 61, (Op.extract (Operand.tmp 55) 1), 23, none⟩,
   ⟨some 14, (Op.assign (Operand.tmp 60)), 3, none⟩,
   ⟨some 15, (Op.assign (Operand.tmp 61)), 23, none⟩]
def r4_8 : List VOp :=
  [⟨some 63, (Op.move (Operand.tmp 8)), 3, none⟩,
   ⟨some 64, (Op.move (Operand.tmp 8)), 3, none⟩,
   ⟨some 65, (Op.move (Operand.tmp 1)), 3, none⟩,
   ⟨some 66, (Op.move (Operand.tmp 7)), 3, none⟩,
   ⟨some 67, (Op.call { callee := (Callee.builtin Builtin.max), args := #[(Operand.tmp 66), (Operand.const (Value.int IntKind.i64 0))], argTypes := #[3, 3] }), 3, none⟩,
   ⟨some 68, (Op.binOp BinOp.mul 3 (Operand.tmp 65) (Operand.tmp 67) 3), 3, none⟩,
   ⟨some 69, (Op.binOp BinOp.add 3 (Operand.tmp 64) (Operand.tmp 68) 3), 3, none⟩,
   ⟨some 70, (Op.move (Operand.tmp 1)), 3, none⟩,
   ⟨some 71, (Op.call { callee := (Callee.value (Operand.func 13)), args := #[(Operand.tmp 63), (Operand.tmp 69), (Operand.tmp 70)], argTypes := #[3, 3, 3] }), 24, none⟩,
   ⟨some 62, (Op.move (Operand.tmp 71)), 24, none⟩,
   ⟨some 72, (Op.extract (Operand.tmp 62) 0), 22, none⟩,
   ⟨some 73, (Op.extract (Operand.tmp 62) 1), 23, none⟩,
   ⟨some 16, (Op.assign (Operand.tmp 72)), 22, none⟩,
   ⟨some 17, (Op.assign (Operand.tmp 73)), 23, none⟩]
def r4_9 : List VOp :=
  [⟨some 74, (Op.call { callee := (Callee.value (Operand.func 15)), args := #[], argTypes := #[] }), 4, none⟩,
   ⟨some 75, (Op.move (Operand.tmp 74)), 4, none⟩,
   ⟨some 76, (Op.move (Operand.tmp 9)), 23, some (75, true)⟩,
   ⟨some 77, (Op.binOp BinOp.eql 23 (Operand.tmp 76) (Operand.const (Value.int IntKind.i64 0)) 23), 4, some (75, true)⟩,
   ⟨some 78, (Op.pick (Operand.tmp 75) (Operand.tmp 77) (Operand.const (Value.bool false))), 4, none⟩,
   ⟨some 79, (Op.move (Operand.tmp 78)), 4, none⟩,
   ⟨some 80, (Op.move (Operand.tmp 11)), 23, some (79, true)⟩,
   ⟨some 81, (Op.binOp BinOp.eql 23 (Operand.tmp 80) (Operand.const (Value.int IntKind.i64 0)) 23), 4, some (79, true)⟩,
   ⟨some 82, (Op.pick (Operand.tmp 79) (Operand.tmp 81) (Operand.const (Value.bool false))), 4, none⟩,
   ⟨some 83, (Op.move (Operand.tmp 82)), 4, none⟩,
   ⟨some 84, (Op.move (Operand.tmp 13)), 23, some (83, true)⟩,
   ⟨some 85, (Op.binOp BinOp.eql 23 (Operand.tmp 84) (Operand.const (Value.int IntKind.i64 0)) 23), 4, some (83, true)⟩,
   ⟨some 86, (Op.pick (Operand.tmp 83) (Operand.tmp 85) (Operand.const (Value.bool false))), 4, none⟩,
   ⟨some 87, (Op.move (Operand.tmp 86)), 4, none⟩,
   ⟨some 88, (Op.move (Operand.tmp 15)), 23, some (87, true)⟩,
   ⟨some 89, (Op.binOp BinOp.eql 23 (Operand.tmp 88) (Operand.const (Value.int IntKind.i64 0)) 23), 4, some (87, true)⟩,
   ⟨some 90, (Op.pick (Operand.tmp 87) (Operand.tmp 89) (Operand.const (Value.bool false))), 4, none⟩,
   ⟨some 91, (Op.move (Operand.tmp 90)), 4, none⟩,
   ⟨some 92, (Op.move (Operand.tmp 17)), 23, some (91, true)⟩,
   ⟨some 93, (Op.binOp BinOp.eql 23 (Operand.tmp 92) (Operand.const (Value.int IntKind.i64 0)) 23), 4, some (91, true)⟩,
   ⟨some 94, (Op.pick (Operand.tmp 91) (Operand.tmp 93) (Operand.const (Value.bool false))), 4, none⟩,
   ⟨some 95, (Op.move (Operand.tmp 94)), 4, none⟩,
   ⟨some 96, (Op.move (Operand.tmp 10)), 3, some (95, true)⟩,
   ⟨some 97, (Op.move (Operand.tmp 8)), 3, some (95, true)⟩,
   ⟨some 98, (Op.move (Operand.tmp 7)), 3, some (95, true)⟩,
   ⟨some 99, (Op.move (Operand.tmp 1)), 3, some (95, true)⟩,
   ⟨some 100, (Op.binOp BinOp.mul 3 (Operand.tmp 98) (Operand.tmp 99) 3), 3, some (95, true)⟩,
   ⟨some 101, (Op.binOp BinOp.add 3 (Operand.tmp 97) (Operand.tmp 100) 3), 3, some (95, true)⟩,
   ⟨some 102, (Op.binOp BinOp.eql 3 (Operand.tmp 96) (Operand.tmp 101) 3), 4, some (95, true)⟩,
   ⟨some 103, (Op.pick (Operand.tmp 95) (Operand.tmp 102) (Operand.const (Value.bool false))), 4, none⟩,
   ⟨some 104, (Op.move (Operand.tmp 103)), 4, none⟩,
   ⟨some 105, (Op.move (Operand.tmp 12)), 3, some (104, true)⟩,
   ⟨some 106, (Op.move (Operand.tmp 14)), 3, some (104, true)⟩,
   ⟨some 107, (Op.unOp UnOp.neg 3 (Operand.tmp 106)), 3, some (104, true)⟩,
   ⟨some 108, (Op.binOp BinOp.eql 3 (Operand.tmp 105) (Operand.tmp 107) 3), 4, some (104, true)⟩,
   ⟨some 109, (Op.pick (Operand.tmp 104) (Operand.tmp 108) (Operand.const (Value.bool false))), 4, none⟩,
   ⟨some 110, (Op.move (Operand.tmp 109)), 4, none⟩,
   ⟨some 111, (Op.move (Operand.tmp 16)), 22, some (110, true)⟩,
   ⟨some 112, (Op.call { callee := (Callee.builtin Builtin.len), args := #[(Operand.tmp 111)], argTypes := #[22] }), 3, some (110, true)⟩,
   ⟨some 113, (Op.move (Operand.tmp 7)), 3, some (110, true)⟩,
   ⟨some 114, (Op.call { callee := (Callee.builtin Builtin.max), args := #[(Operand.tmp 113), (Operand.const (Value.int IntKind.i64 0))], argTypes := #[3, 3] }), 3, some (110, true)⟩,
   ⟨some 115, (Op.binOp BinOp.eql 3 (Operand.tmp 112) (Operand.tmp 114) 3), 4, some (110, true)⟩,
   ⟨some 116, (Op.pick (Operand.tmp 110) (Operand.tmp 115) (Operand.const (Value.bool false))), 4, none⟩,
   ⟨some 6, (Op.assign (Operand.tmp 116)), 4, none⟩]
def B4 : VC :=
  (.seq (.region r4_0) (.seq (.seq (.region r4_1) (.cond (Operand.tmp 28) (.seq (.region r4_2) .ret) .skip)) (.seq (.region r4_3) (.seq (.region r4_4) (.seq (.region r4_5) (.seq (.region r4_6) (.seq (.region r4_7) (.seq (.region r4_8) (.seq (.region r4_9) .ret)))))))))
theorem code4 : ∃ c, Try.f4.body = some c ∧ abs Try.f4.ntmps c = B4 := ⟨_, rfl, by kernel_rfl⟩
theorem hb4 : HasBody Try.prog 4 := hasBody_of Try.func4 (by kernel_rfl)
theorem res4 : Try.f4.results = #[(ResultVar.tmp 6)] := rfl
theorem enter4 {w : World} {R : Value → World → Prop} (x0 x1 x2 : Value) (h : vc Try.prog B4 (retK Try.prog #[(ResultVar.tmp 6)] R) [] (initEnv [x0, x1, x2] 0) w) : FnC Try.prog 4 #[x0, x1, x2] w R := by
  obtain ⟨c, h1, h2⟩ := code4
  exact hb4.fn (ret_of_vc mixed Try.func4 h1 (Nat.le_of_ble_eq_true rfl) B4 h2 h)
@[push_cast] theorem vr4_0 (Q : Post) (ds : List Deferred) (σ : Env) (w : World) : vc Try.prog (.region r4_0) Q ds σ w = vcOps Try.prog [⟨some 6, (Op.assign (Operand.const (Value.bool false))), 4, none⟩] (Q .normal ds) σ w := mk_eq rfl
@[push_cast] theorem vr4_1 (Q : Post) (ds : List Deferred) (σ : Env) (w : World) : vc Try.prog (.region r4_1) Q ds σ w = vcOps Try.prog [⟨some 18, (Op.move (Operand.tmp 1)), 3, none⟩, ⟨some 19, (Op.call { callee := (Callee.value (Operand.func 17)), args := #[(Operand.tmp 18)], argTypes := #[3] }), 4, none⟩, ⟨some 20, (Op.unOp UnOp.not 4 (Operand.tmp 19)), 4, none⟩, ⟨some 21, (Op.move (Operand.tmp 20)), 4, none⟩, ⟨some 22, (Op.move (Operand.tmp 0)), 3, some (21, false)⟩, ⟨some 23, (Op.binOp BinOp.lss 3 (Operand.tmp 22) (Operand.const (Value.int IntKind.i64 (-1073741824))) 3), 4, some (21, false)⟩, ⟨some 24, (Op.pick (Operand.tmp 21) (Operand.const (Value.bool true)) (Operand.tmp 23)), 4, none⟩, ⟨some 25, (Op.move (Operand.tmp 24)), 4, none⟩, ⟨some 26, (Op.move (Operand.tmp 0)), 3, some (25, false)⟩, ⟨some 27, (Op.binOp BinOp.gtr 3 (Operand.tmp 26) (Operand.const (Value.int IntKind.i64 1073741824)) 3), 4, some (25, false)⟩, ⟨some 28, (Op.pick (Operand.tmp 25) (Operand.const (Value.bool true)) (Operand.tmp 27)), 4, none⟩] (Q .normal ds) σ w := mk_eq rfl
@[push_cast] theorem vr4_2 (Q : Post) (ds : List Deferred) (σ : Env) (w : World) : vc Try.prog (.region r4_2) Q ds σ w = vcOps Try.prog [⟨some 29, (Op.call { callee := (Callee.value (Operand.func 15)), args := #[], argTypes := #[] }), 4, none⟩, ⟨some 6, (Op.assign (Operand.tmp 29)), 4, none⟩] (Q .normal ds) σ w := mk_eq rfl
@[push_cast] theorem vr4_3 (Q : Post) (ds : List Deferred) (σ : Env) (w : World) : vc Try.prog (.region r4_3) Q ds σ w = vcOps Try.prog [⟨some 30, (Op.move (Operand.tmp 2)), 3, none⟩, ⟨some 31, (Op.binOp BinOp.and 3 (Operand.tmp 30) (Operand.const (Value.int IntKind.i64 1023)) 3), 3, none⟩, ⟨some 32, (Op.binOp BinOp.sub 3 (Operand.tmp 31) (Operand.const (Value.int IntKind.i64 500)) 3), 3, none⟩, ⟨some 7, (Op.assign (Operand.tmp 32)), 3, none⟩] (Q .normal ds) σ w := mk_eq rfl
@[push_cast] theorem vr4_4 (Q : Post) (ds : List Deferred) (σ : Env) (w : World) : vc Try.prog (.region r4_4) Q ds σ w = vcOps Try.prog [⟨some 34, (Op.move (Operand.tmp 0)), 3, none⟩, ⟨some 35, (Op.move (Operand.tmp 1)), 3, none⟩, ⟨some 36, (Op.call { callee := (Callee.value (Operand.func 18)), args := #[(Operand.tmp 34), (Operand.tmp 35)], argTypes := #[3, 3] }), 30, none⟩, ⟨some 33, (Op.move (Operand.tmp 36)), 30, none⟩, ⟨some 37, (Op.extract (Operand.tmp 33) 0), 3, none⟩, ⟨some 38, (Op.extract (Operand.tmp 33) 1), 23, none⟩, ⟨some 8, (Op.assign (Operand.tmp 37)), 3, none⟩, ⟨some 9, (Op.assign (Operand.tmp 38)), 23, none⟩] (Q .normal ds) σ w := mk_eq rfl
@[push_cast] theorem vr4_5 (Q : Post) (ds : List Deferred) (σ : Env) (w : World) : vc Try.prog (.region r4_5) Q ds σ w = vcOps Try.prog [⟨some 40, (Op.move (Operand.tmp 0)), 3, none⟩, ⟨some 41, (Op.move (Operand.tmp 7)), 3, none⟩, ⟨some 42, (Op.move (Operand.tmp 1)), 3, none⟩, ⟨some 43, (Op.binOp BinOp.mul 3 (Operand.tmp 41) (Operand.tmp 42) 3), 3, none⟩, ⟨some 44, (Op.binOp BinOp.add 3 (Operand.tmp 40) (Operand.tmp 43) 3), 3, none⟩, ⟨some 45, (Op.move (Operand.tmp 1)), 3, none⟩, ⟨some 46, (Op.call { callee := (Callee.value (Operand.func 18)), args := #[(Operand.tmp 44), (Operand.tmp 45)], argTypes := #[3, 3] }), 30, none⟩, ⟨some 39, (Op.move (Operand.tmp 46)), 30, none⟩, ⟨some 47, (Op.extract (Operand.tmp 39) 0), 3, none⟩, ⟨some 48, (Op.extract (Operand.tmp 39) 1), 23, none⟩, ⟨some 10, (Op.assign (Operand.tmp 47)), 3, none⟩, ⟨some 11, (Op.assign (Operand.tmp 48)), 23, none⟩] (Q .normal ds) σ w := mk_eq rfl
@[push_cast] theorem vr4_6 (Q : Post) (ds : List Deferred) (σ : Env) (w : World) : vc Try.prog (.region r4_6) Q ds σ w = vcOps Try.prog [⟨some 50, (Op.move (Operand.tmp 0)), 3, none⟩, ⟨some 51, (Op.move (Operand.tmp 1)), 3, none⟩, ⟨some 52, (Op.call { callee := (Callee.value (Operand.func 19)), args := #[(Operand.tmp 50), (Operand.tmp 51)], argTypes := #[3, 3] }), 30, none⟩, ⟨some 49, (Op.move (Operand.tmp 52)), 30, none⟩, ⟨some 53, (Op.extract (Operand.tmp 49) 0), 3, none⟩, ⟨some 54, (Op.extract (Operand.tmp 49) 1), 23, none⟩, ⟨some 12, (Op.assign (Operand.tmp 53)), 3, none⟩, ⟨some 13, (Op.assign (Operand.tmp 54)), 23, none⟩] (Q .normal ds) σ w := mk_eq rfl
@[push_cast] theorem vr4_7 (Q : Post) (ds : List Deferred) (σ : Env) (w : World) : vc Try.prog (.region r4_7) Q ds σ w = vcOps Try.prog [⟨some 56, (Op.move (Operand.tmp 0)), 3, none⟩, ⟨some 57, (Op.unOp UnOp.neg 3 (Operand.tmp 56)), 3, none⟩, ⟨some 58, (Op.move (Operand.tmp 1)), 3, none⟩, ⟨some 59, (Op.call { callee := (Callee.value (Operand.func 18)), args := #[(Operand.tmp 57), (Operand.tmp 58)], argTypes := #[3, 3] }), 30, none⟩, ⟨some 55, (Op.move (Operand.tmp 59)), 30, none⟩, ⟨some 60, (Op.extract (Operand.tmp 55) 0), 3, none⟩, ⟨some 61, (Op.extract (Operand.tmp 55) 1), 23, none⟩, ⟨some 14, (Op.assign (Operand.tmp 60)), 3, none⟩, ⟨some 15, (Op.assign (Operand.tmp 61)), 23, none⟩] (Q .normal ds) σ w := mk_eq rfl
@[push_cast] theorem vr4_8 (Q : Post) (ds : List Deferred) (σ : Env) (w : World) : vc Try.prog (.region r4_8) Q ds σ w = vcOps Try.prog [⟨some 63, (Op.move (Operand.tmp 8)), 3, none⟩, ⟨some 64, (Op.move (Operand.tmp 8)), 3, none⟩, ⟨some 65, (Op.move (Operand.tmp 1)), 3, none⟩, ⟨some 66, (Op.move (Operand.tmp 7)), 3, none⟩, ⟨some 67, (Op.call { callee := (Callee.builtin Builtin.max), args := #[(Operand.tmp 66), (Operand.const (Value.int IntKind.i64 0))], argTypes := #[3, 3] }), 3, none⟩, ⟨some 68, (Op.binOp BinOp.mul 3 (Operand.tmp 65) (Operand.tmp 67) 3), 3, none⟩, ⟨some 69, (Op.binOp BinOp.add 3 (Operand.tmp 64) (Operand.tmp 68) 3), 3, none⟩, ⟨some 70, (Op.move (Operand.tmp 1)), 3, none⟩, ⟨some 71, (Op.call { callee := (Callee.value (Operand.func 13)), args := #[(Operand.tmp 63), (Operand.tmp 69), (Operand.tmp 70)], argTypes := #[3, 3, 3] }), 24, none⟩, ⟨some 62, (Op.move (Operand.tmp 71)), 24, none⟩, ⟨some 72, (Op.extract (Operand.tmp 62) 0), 22, none⟩, ⟨some 73, (Op.extract (Operand.tmp 62) 1), 23, none⟩, ⟨some 16, (Op.assign (Operand.tmp 72)), 22, none⟩, ⟨some 17, (Op.assign (Operand.tmp 73)), 23, none⟩] (Q .normal ds) σ w := mk_eq rfl
@[push_cast] theorem vr4_9 (Q : Post) (ds : List Deferred) (σ : Env) (w : World) : vc Try.prog (.region r4_9) Q ds σ w = vcOps Try.prog [⟨some 74, (Op.call { callee := (Callee.value (Operand.func 15)), args := #[], argTypes := #[] }), 4, none⟩, ⟨some 75, (Op.move (Operand.tmp 74)), 4, none⟩, ⟨some 76, (Op.move (Operand.tmp 9)), 23, some (75, true)⟩, ⟨some 77, (Op.binOp BinOp.eql 23 (Operand.tmp 76) (Operand.const (Value.int IntKind.i64 0)) 23), 4, some (75, true)⟩, ⟨some 78, (Op.pick (Operand.tmp 75) (Operand.tmp 77) (Operand.const (Value.bool false))), 4, none⟩, ⟨some 79, (Op.move (Operand.tmp 78)), 4, none⟩, ⟨some 80, (Op.move (Operand.tmp 11)), 23, some (79, true)⟩, ⟨some 81, (Op.binOp BinOp.eql 23 (Operand.tmp 80) (Operand.const (Value.int IntKind.i64 0)) 23), 4, some (79, true)⟩, ⟨some 82, (Op.pick (Operand.tmp 79) (Operand.tmp 81) (Operand.const (Value.bool false))), 4, none⟩, ⟨some 83, (Op.move (Operand.tmp 82)), 4, none⟩, ⟨some 84, (Op.move (Operand.tmp 13)), 23, some (83, true)⟩, ⟨some 85, (Op.binOp BinOp.eql 23 (Operand.tmp 84) (Operand.const (Value.int IntKind.i64 0)) 23), 4, some (83, true)⟩, ⟨some 86, (Op.pick (Operand.tmp 83) (Operand.tmp 85) (Operand.const (Value.bool false))), 4, none⟩, ⟨some 87, (Op.move (Operand.tmp 86)), 4, none⟩, ⟨some 88, (Op.move (Operand.tmp 15)), 23, some (87, true)⟩, ⟨some 89, (Op.binOp BinOp.eql 23 (Operand.tmp 88) (Operand.const (Value.int IntKind.i64 0)) 23), 4, some (87, true)⟩, ⟨some 90, (Op.pick (Operand.tmp 87) (Operand.tmp 89) (Operand.const (Value.bool false))), 4, none⟩, ⟨some 91, (Op.move (Operand.tmp 90)), 4, none⟩, ⟨some 92, (Op.move (Operand.tmp 17)), 23, some (91, true)⟩, ⟨some 93, (Op.binOp BinOp.eql 23 (Operand.tmp 92) (Operand.const (Value.int IntKind.i64 0)) 23), 4, some (91, true)⟩, ⟨some 94, (Op.pick (Operand.tmp 91) (Operand.tmp 93) (Operand.const (Value.bool false))), 4, none⟩, ⟨some 95, (Op.move (Operand.tmp 94)), 4, none⟩, ⟨some 96, (Op.move (Operand.tmp 10)), 3, some (95, true)⟩, ⟨some 97, (Op.move (Operand.tmp 8)), 3, some (95, true)⟩, ⟨some 98, (Op.move (Operand.tmp 7)), 3, some (95, true)⟩, ⟨some 99, (Op.move (Operand.tmp 1)), 3, some (95, true)⟩, ⟨some 100, (Op.binOp BinOp.mul 3 (Operand.tmp 98) (Operand.tmp 99) 3), 3, some (95, true)⟩, ⟨some 101, (Op.binOp BinOp.add 3 (Operand.tmp 97) (Operand.tmp 100) 3), 3, some (95, true)⟩, ⟨some 102, (Op.binOp BinOp.eql 3 (Operand.tmp 96) (Operand.tmp 101) 3), 4, some (95, true)⟩, ⟨some 103, (Op.pick (Operand.tmp 95) (Operand.tmp 102) (Operand.const (Value.bool false))), 4, none⟩, ⟨some 104, (Op.move (Operand.tmp 103)), 4, none⟩, ⟨some 105, (Op.move (Operand.tmp 12)), 3, some (104, true)⟩, ⟨some 106, (Op.move (Operand.tmp 14)), 3, some (104, true)⟩, ⟨some 107, (Op.unOp UnOp.neg 3 (Operand.tmp 106)), 3, some (104, true)⟩, ⟨some 108, (Op.binOp BinOp.eql 3 (Operand.tmp 105) (Operand.tmp 107) 3), 4, some (104, true)⟩, ⟨some 109, (Op.pick (Operand.tmp 104) (Operand.tmp 108) (Operand.const (Value.bool false))), 4, none⟩, ⟨some 110, (Op.move (Operand.tmp 109)), 4, none⟩, ⟨some 111, (Op.move (Operand.tmp 16)), 22, some (110, true)⟩, ⟨some 112, (Op.call { callee := (Callee.builtin Builtin.len), args := #[(Operand.tmp 111)], argTypes := #[22] }), 3, some (110, true)⟩, ⟨some 113, (Op.move (Operand.tmp 7)), 3, some (110, true)⟩, ⟨some 114, (Op.call { callee := (Callee.builtin Builtin.max), args := #[(Operand.tmp 113), (Operand.const (Value.int IntKind.i64 0))], argTypes := #[3, 3] }), 3, some (110, true)⟩, ⟨some 115, (Op.binOp BinOp.eql 3 (Operand.tmp 112) (Operand.tmp 114) 3), 4, some (110, true)⟩, ⟨some 116, (Op.pick (Operand.tmp 110) (Operand.tmp 115) (Operand.const (Value.bool false))), 4, none⟩, ⟨some 6, (Op.assign (Operand.tmp 116)), 4, none⟩] (Q .normal ds) σ w := mk_eq rfl
/-! 5 columbary/columbarylaw11.BucketTells (params #[3, 3, 3], results #[(ResultVar.tmp 6)], 85 slots) -/
def r5_0 : List VOp :=
  [⟨some 6, (Op.assign (Operand.const (Value.bool false))), 4, none⟩]
def r5_1 : List VOp :=
  [⟨some 16, (Op.move (Operand.tmp 0)), 3, none⟩,
   ⟨some 17, (Op.move (Operand.tmp 1)), 3, none⟩,
   ⟨some 18, (Op.call { callee := (Callee.value (Operand.func 18)), args := #[(Operand.tmp 16), (Operand.tmp 17)], argTypes := #[3, 3] }), 30, none⟩,
   ⟨some 15, (Op.move (Operand.tmp 18)), 30, none⟩,
   ⟨some 19, (Op.extract (Operand.tmp 15) 0), 3, none⟩,
   ⟨some 20, (Op.extract (Operand.tmp 15) 1), 23, none⟩,
   ⟨some 7, (Op.assign (Operand.tmp 19)), 3, none⟩,
   ⟨some 8, (Op.assign (Operand.tmp 20)), 23, none⟩]
def r5_2 : List VOp :=
  [⟨some 22, (Op.move (Operand.tmp 0)), 3, none⟩,
   ⟨some 23, (Op.move (Operand.tmp 1)), 3, none⟩,
   ⟨some 24, (Op.call { callee := (Callee.value (Operand.func 20)), args := #[(Operand.tmp 22), (Operand.tmp 23)], argTypes := #[3, 3] }), 30, none⟩,
   ⟨some 21, (Op.move (Operand.tmp 24)), 30, none⟩,
   ⟨some 25, (Op.extract (Operand.tmp 21) 0), 3, none⟩,
   ⟨some 26, (Op.extract (Operand.tmp 21) 1), 23, none⟩,
   ⟨some 9, (Op.assign (Operand.tmp 25)), 3, none⟩,
   ⟨some 10, (Op.assign (Operand.tmp 26)), 23, none⟩]
def r5_3 : List VOp :=
  [⟨some 28, (Op.move (Operand.tmp 0)), 3, none⟩,
   ⟨some 29, (Op.move (Operand.tmp 1)), 3, none⟩,
   ⟨some 30, (Op.call { callee := (Callee.value (Operand.func 19)), args := #[(Operand.tmp 28), (Operand.tmp 29)], argTypes := #[3, 3] }), 30, none⟩,
   ⟨some 27, (Op.move (Operand.tmp 30)), 30, none⟩,
   ⟨some 31, (Op.extract (Operand.tmp 27) 0), 3, none⟩,
   ⟨some 32, (Op.extract (Operand.tmp 27) 1), 23, none⟩,
   ⟨some 11, (Op.assign (Operand.tmp 31)), 3, none⟩,
   ⟨some 12, (Op.assign (Operand.tmp 32)), 23, none⟩]
def r5_4 : List VOp :=
  [⟨some 34, (Op.move (Operand.tmp 0)), 3, none⟩,
   ⟨some 35, (Op.move (Operand.tmp 1)), 3, none⟩,
   ⟨some 36, (Op.call { callee := (Callee.value (Operand.func 21)), args := #[(Operand.tmp 34), (Operand.tmp 35)], argTypes := #[3, 3] }), 30, none⟩,
   ⟨some 33, (Op.move (Operand.tmp 36)), 30, none⟩,
   ⟨some 37, (Op.extract (Operand.tmp 33) 0), 3, none⟩,
   ⟨some 38, (Op.extract (Operand.tmp 33) 1), 23, none⟩,
   ⟨some 13, (Op.assign (Operand.tmp 37)), 3, none⟩,
   ⟨some 14, (Op.assign (Operand.tmp 38)), 23, none⟩]
def r5_5 : List VOp :=
  [⟨some 39, (Op.call { callee := (Callee.value (Operand.func 15)), args := #[], argTypes := #[] }), 4, none⟩,
   ⟨some 40, (Op.move (Operand.tmp 39)), 4, none⟩,
   ⟨some 41, (Op.move (Operand.tmp 7)), 3, some (40, true)⟩,
   ⟨some 42, (Op.move (Operand.tmp 9)), 3, some (40, true)⟩,
   ⟨some 43, (Op.binOp BinOp.eql 3 (Operand.tmp 41) (Operand.tmp 42) 3), 4, some (40, true)⟩,
   ⟨some 44, (Op.pick (Operand.tmp 40) (Operand.tmp 43) (Operand.const (Value.bool false))), 4, none⟩,
   ⟨some 45, (Op.move (Operand.tmp 44)), 4, none⟩,
   ⟨some 46, (Op.move (Operand.tmp 8)), 23, some (45, true)⟩,
   ⟨some 47, (Op.move (Operand.tmp 10)), 23, some (45, true)⟩,
   ⟨some 48, (Op.binOp BinOp.eql 23 (Operand.tmp 46) (Operand.tmp 47) 23), 4, some (45, true)⟩,
   ⟨some 49, (Op.pick (Operand.tmp 45) (Operand.tmp 48) (Operand.const (Value.bool false))), 4, none⟩,
   ⟨some 50, (Op.move (Operand.tmp 49)), 4, none⟩,
   ⟨some 51, (Op.move (Operand.tmp 11)), 3, some (50, true)⟩,
   ⟨some 52, (Op.move (Operand.tmp 13)), 3, some (50, true)⟩,
   ⟨some 53, (Op.binOp BinOp.eql 3 (Operand.tmp 51) (Operand.tmp 52) 3), 4, some (50, true)⟩,
   ⟨some 54, (Op.pick (Operand.tmp 50) (Operand.tmp 53) (Operand.const (Value.bool false))), 4, none⟩,
   ⟨some 55, (Op.move (Operand.tmp 54)), 4, none⟩,
   ⟨some 56, (Op.move (Operand.tmp 12)), 23, some (55, true)⟩,
   ⟨some 57, (Op.move (Operand.tmp 14)), 23, some (55, true)⟩,
   ⟨some 58, (Op.binOp BinOp.eql 23 (Operand.tmp 56) (Operand.tmp 57) 23), 4, some (55, true)⟩,
   ⟨some 59, (Op.pick (Operand.tmp 55) (Operand.tmp 58) (Operand.const (Value.bool false))), 4, none⟩,
   ⟨some 60, (Op.move (Operand.tmp 59)), 4, none⟩,
   ⟨some 61, (Op.move (Operand.tmp 0)), 3, some (60, true)⟩,
   ⟨some 62, (Op.move (Operand.tmp 1)), 3, some (60, true)⟩,
   ⟨some 63, (Op.call { callee := (Callee.value (Operand.func 22)), args := #[(Operand.tmp 61), (Operand.tmp 62)], argTypes := #[3, 3] }), 4, some (60, true)⟩,
   ⟨some 64, (Op.move (Operand.tmp 0)), 3, some (60, true)⟩,
   ⟨some 65, (Op.move (Operand.tmp 1)), 3, some (60, true)⟩,
   ⟨some 66, (Op.call { callee := (Callee.value (Operand.func 23)), args := #[(Operand.tmp 64), (Operand.tmp 65)], argTypes := #[3, 3] }), 4, some (60, true)⟩,
   ⟨some 67, (Op.binOp BinOp.eql 4 (Operand.tmp 63) (Operand.tmp 66) 4), 4, some (60, true)⟩,
   ⟨some 68, (Op.pick (Operand.tmp 60) (Operand.tmp 67) (Operand.const (Value.bool false))), 4, none⟩,
   ⟨some 69, (Op.move (Operand.tmp 68)), 4, none⟩,
   ⟨some 70, (Op.move (Operand.tmp 1)), 3, some (69, true)⟩,
   ⟨some 71, (Op.move (Operand.tmp 2)), 3, some (69, true)⟩,
   ⟨some 72, (Op.call { callee := (Callee.value (Operand.func 24)), args := #[(Operand.tmp 70), (Operand.tmp 71)], argTypes := #[3, 3] }), 4, some (69, true)⟩,
   ⟨some 73, (Op.move (Operand.tmp 1)), 3, some (69, true)⟩,
   ⟨some 74, (Op.move (Operand.tmp 2)), 3, some (69, true)⟩,
   ⟨some 75, (Op.call { callee := (Callee.value (Operand.func 25)), args := #[(Operand.tmp 73), (Operand.tmp 74)], argTypes := #[3, 3] }), 4, some (69, true)⟩,
   ⟨some 76, (Op.binOp BinOp.eql 4 (Operand.tmp 72) (Operand.tmp 75) 4), 4, some (69, true)⟩,
   ⟨some 77, (Op.pick (Operand.tmp 69) (Operand.tmp 76) (Operand.const (Value.bool false))), 4, none⟩,
   ⟨some 78, (Op.move (Operand.tmp 77)), 4, none⟩,
   ⟨some 79, (Op.move (Operand.tmp 1)), 3, some (78, true)⟩,
   ⟨some 80, (Op.call { callee := (Callee.value (Operand.func 17)), args := #[(Operand.tmp 79)], argTypes := #[3] }), 4, some (78, true)⟩,
   ⟨some 81, (Op.move (Operand.tmp 1)), 3, some (78, true)⟩,
   ⟨some 82, (Op.call { callee := (Callee.value (Operand.func 26)), args := #[(Operand.tmp 81)], argTypes := #[3] }), 4, some (78, true)⟩,
   ⟨some 83, (Op.binOp BinOp.eql 4 (Operand.tmp 80) (Operand.tmp 82) 4), 4, some (78, true)⟩,
   ⟨some 84, (Op.pick (Operand.tmp 78) (Operand.tmp 83) (Operand.const (Value.bool false))), 4, none⟩,
   ⟨some 6, (Op.assign (Operand.tmp 84)), 4, none⟩]
def B5 : VC :=
  (.seq (.region r5_0) (.seq (.region r5_1) (.seq (.region r5_2) (.seq (.region r5_3) (.seq (.region r5_4) (.seq (.region r5_5) .ret))))))
theorem code5 : ∃ c, Try.f5.body = some c ∧ abs Try.f5.ntmps c = B5 := ⟨_, rfl, by kernel_rfl⟩
theorem hb5 : HasBody Try.prog 5 := hasBody_of Try.func5 (by kernel_rfl)
theorem res5 : Try.f5.results = #[(ResultVar.tmp 6)] := rfl
theorem enter5 {w : World} {R : Value → World → Prop} (x0 x1 x2 : Value) (h : vc Try.prog B5 (retK Try.prog #[(ResultVar.tmp 6)] R) [] (initEnv [x0, x1, x2] 0) w) : FnC Try.prog 5 #[x0, x1, x2] w R := by
  obtain ⟨c, h1, h2⟩ := code5
  exact hb5.fn (ret_of_vc mixed Try.func5 h1 (Nat.le_of_ble_eq_true rfl) B5 h2 h)
@[push_cast] theorem vr5_0 (Q : Post) (ds : List Deferred) (σ : Env) (w : World) : vc Try.prog (.region r5_0) Q ds σ w = vcOps Try.prog [⟨some 6, (Op.assign (Operand.const (Value.bool false))), 4, none⟩] (Q .normal ds) σ w := mk_eq rfl
@[push_cast] theorem vr5_1 (Q : Post) (ds : List Deferred) (σ : Env) (w : World) : vc Try.prog (.region r5_1) Q ds σ w = vcOps Try.prog [⟨some 16, (Op.move (Operand.tmp 0)), 3, none⟩, ⟨some 17, (Op.move (Operand.tmp 1)), 3, none⟩, ⟨some 18, (Op.call { callee := (Callee.value (Operand.func 18)), args := #[(Operand.tmp 16), (Operand.tmp 17)], argTypes := #[3, 3] }), 30, none⟩, ⟨some 15, (Op.move (Operand.tmp 18)), 30, none⟩, ⟨some 19, (Op.extract (Operand.tmp 15) 0), 3, none⟩, ⟨some 20, (Op.extract (Operand.tmp 15) 1), 23, none⟩, ⟨some 7, (Op.assign (Operand.tmp 19)), 3, none⟩, ⟨some 8, (Op.assign (Operand.tmp 20)), 23, none⟩] (Q .normal ds) σ w := mk_eq rfl
@[push_cast] theorem vr5_2 (Q : Post) (ds : List Deferred) (σ : Env) (w : World) : vc Try.prog (.region r5_2) Q ds σ w = vcOps Try.prog [⟨some 22, (Op.move (Operand.tmp 0)), 3, none⟩, ⟨some 23, (Op.move (Operand.tmp 1)), 3, none⟩, ⟨some 24, (Op.call { callee := (Callee.value (Operand.func 20)), args := #[(Operand.tmp 22), (Operand.tmp 23)], argTypes := #[3, 3] }), 30, none⟩, ⟨some 21, (Op.move (Operand.tmp 24)), 30, none⟩, ⟨some 25, (Op.extract (Operand.tmp 21) 0), 3, none⟩, ⟨some 26, (Op.extract (Operand.tmp 21) 1), 23, none⟩, ⟨some 9, (Op.assign (Operand.tmp 25)), 3, none⟩, ⟨some 10, (Op.assign (Operand.tmp 26)), 23, none⟩] (Q .normal ds) σ w := mk_eq rfl
@[push_cast] theorem vr5_3 (Q : Post) (ds : List Deferred) (σ : Env) (w : World) : vc Try.prog (.region r5_3) Q ds σ w = vcOps Try.prog [⟨some 28, (Op.move (Operand.tmp 0)), 3, none⟩, ⟨some 29, (Op.move (Operand.tmp 1)), 3, none⟩, ⟨some 30, (Op.call { callee := (Callee.value (Operand.func 19)), args := #[(Operand.tmp 28), (Operand.tmp 29)], argTypes := #[3, 3] }), 30, none⟩, ⟨some 27, (Op.move (Operand.tmp 30)), 30, none⟩, ⟨some 31, (Op.extract (Operand.tmp 27) 0), 3, none⟩, ⟨some 32, (Op.extract (Operand.tmp 27) 1), 23, none⟩, ⟨some 11, (Op.assign (Operand.tmp 31)), 3, none⟩, ⟨some 12, (Op.assign (Operand.tmp 32)), 23, none⟩] (Q .normal ds) σ w := mk_eq rfl
@[push_cast] theorem vr5_4 (Q : Post) (ds : List Deferred) (σ : Env) (w : World) : vc Try.prog (.region r5_4) Q ds σ w = vcOps Try.prog [⟨some 34, (Op.move (Operand.tmp 0)), 3, none⟩, ⟨some 35, (Op.move (Operand.tmp 1)), 3, none⟩, ⟨some 36, (Op.call { callee := (Callee.value (Operand.func 21)), args := #[(Operand.tmp 34), (Operand.tmp 35)], argTypes := #[3, 3] }), 30, none⟩, ⟨some 33, (Op.move (Operand.tmp 36)), 30, none⟩, ⟨some 37, (Op.extract (Operand.tmp 33) 0), 3, none⟩, ⟨some 38, (Op.extract (Operand.tmp 33) 1), 23, none⟩, ⟨some 13, (Op.assign (Operand.tmp 37)), 3, none⟩, ⟨some 14, (Op.assign (Operand.tmp 38)), 23, none⟩] (Q .normal ds) σ w := mk_eq rfl
@[push_cast] theorem vr5_5 (Q : Post) (ds : List Deferred) (σ : Env) (w : World) : vc Try.prog (.region r5_5) Q ds σ w = vcOps Try.prog [⟨some 39, (Op.call { callee := (Callee.value (Operand.func 15)), args := #[], argTypes := #[] }), 4, none⟩, ⟨some 40, (Op.move (Operand.tmp 39)), 4, none⟩, ⟨some 41, (Op.move (Operand.tmp 7)), 3, some (40, true)⟩, ⟨some 42, (Op.move (Operand.tmp 9)), 3, some (40, true)⟩, ⟨some 43, (Op.binOp BinOp.eql 3 (Operand.tmp 41) (Operand.tmp 42) 3), 4, some (40, true)⟩, ⟨some 44, (Op.pick (Operand.tmp 40) (Operand.tmp 43) (Operand.const (Value.bool false))), 4, none⟩, ⟨some 45, (Op.move (Operand.tmp 44)), 4, none⟩, ⟨some 46, (Op.move (Operand.tmp 8)), 23, some (45, true)⟩, ⟨some 47, (Op.move (Operand.tmp 10)), 23, some (45, true)⟩, ⟨some 48, (Op.binOp BinOp.eql 23 (Operand.tmp 46) (Operand.tmp 47) 23), 4, some (45, true)⟩, ⟨some 49, (Op.pick (Operand.tmp 45) (Operand.tmp 48) (Operand.const (Value.bool false))), 4, none⟩, ⟨some 50, (Op.move (Operand.tmp 49)), 4, none⟩, ⟨some 51, (Op.move (Operand.tmp 11)), 3, some (50, true)⟩, ⟨some 52, (Op.move (Operand.tmp 13)), 3, some (50, true)⟩, ⟨some 53, (Op.binOp BinOp.eql 3 (Operand.tmp 51) (Operand.tmp 52) 3), 4, some (50, true)⟩, ⟨some 54, (Op.pick (Operand.tmp 50) (Operand.tmp 53) (Operand.const (Value.bool false))), 4, none⟩, ⟨some 55, (Op.move (Operand.tmp 54)), 4, none⟩, ⟨some 56, (Op.move (Operand.tmp 12)), 23, some (55, true)⟩, ⟨some 57, (Op.move (Operand.tmp 14)), 23, some (55, true)⟩, ⟨some 58, (Op.binOp BinOp.eql 23 (Operand.tmp 56) (Operand.tmp 57) 23), 4, some (55, true)⟩, ⟨some 59, (Op.pick (Operand.tmp 55) (Operand.tmp 58) (Operand.const (Value.bool false))), 4, none⟩, ⟨some 60, (Op.move (Operand.tmp 59)), 4, none⟩, ⟨some 61, (Op.move (Operand.tmp 0)), 3, some (60, true)⟩, ⟨some 62, (Op.move (Operand.tmp 1)), 3, some (60, true)⟩, ⟨some 63, (Op.call { callee := (Callee.value (Operand.func 22)), args := #[(Operand.tmp 61), (Operand.tmp 62)], argTypes := #[3, 3] }), 4, some (60, true)⟩, ⟨some 64, (Op.move (Operand.tmp 0)), 3, some (60, true)⟩, ⟨some 65, (Op.move (Operand.tmp 1)), 3, some (60, true)⟩, ⟨some 66, (Op.call { callee := (Callee.value (Operand.func 23)), args := #[(Operand.tmp 64), (Operand.tmp 65)], argTypes := #[3, 3] }), 4, some (60, true)⟩, ⟨some 67, (Op.binOp BinOp.eql 4 (Operand.tmp 63) (Operand.tmp 66) 4), 4, some (60, true)⟩, ⟨some 68, (Op.pick (Operand.tmp 60) (Operand.tmp 67) (Operand.const (Value.bool false))), 4, none⟩, ⟨some 69, (Op.move (Operand.tmp 68)), 4, none⟩, ⟨some 70, (Op.move (Operand.tmp 1)), 3, some (69, true)⟩, ⟨some 71, (Op.move (Operand.tmp 2)), 3, some (69, true)⟩, ⟨some 72, (Op.call { callee := (Callee.value (Operand.func 24)), args := #[(Operand.tmp 70), (Operand.tmp 71)], argTypes := #[3, 3] }), 4, some (69, true)⟩, ⟨some 73, (Op.move (Operand.tmp 1)), 3, some (69, true)⟩, ⟨some 74, (Op.move (Operand.tmp 2)), 3, some (69, true)⟩, ⟨some 75, (Op.call { callee := (Callee.value (Operand.func 25)), args := #[(Operand.tmp 73), (Operand.tmp 74)], argTypes := #[3, 3] }), 4, some (69, true)⟩, ⟨some 76, (Op.binOp BinOp.eql 4 (Operand.tmp 72) (Operand.tmp 75) 4), 4, some (69, true)⟩, ⟨some 77, (Op.pick (Operand.tmp 69) (Operand.tmp 76) (Operand.const (Value.bool false))), 4, none⟩, ⟨some 78, (Op.move (Operand.tmp 77)), 4, none⟩, ⟨some 79, (Op.move (Operand.tmp 1)), 3, some (78, true)⟩, ⟨some 80, (Op.call { callee := (Callee.value (Operand.func 17)), args := #[(Operand.tmp 79)], argTypes := #[3] }), 4, some (78, true)⟩, ⟨some 81, (Op.move (Operand.tmp 1)), 3, some (78, true)⟩, ⟨some 82, (Op.call { callee := (Callee.value (Operand.func 26)), args := #[(Operand.tmp 81)], argTypes := #[3] }), 4, some (78, true)⟩, ⟨some 83, (Op.binOp BinOp.eql 4 (Operand.tmp 80) (Operand.tmp 82) 4), 4, some (78, true)⟩, ⟨some 84, (Op.pick (Operand.tmp 78) (Operand.tmp 83) (Operand.const (Value.bool false))), 4, none⟩, ⟨some 6, (Op.assign (Operand.tmp 84)), 4, none⟩] (Q .normal ds) σ w := mk_eq rfl
/-! 6 columbary/columbarylaw11.BucketWithin (params #[3, 3, 3], results #[(ResultVar.tmp 6)], 141 slots) -/
def r6_0 : List VOp :=
  [⟨some 6, (Op.assign (Operand.const (Value.bool false))), 4, none⟩]
def r6_1 : List VOp :=
  [⟨some 17, (Op.move (Operand.tmp 0)), 3, none⟩,
   ⟨some 18, (Op.move (Operand.tmp 1)), 3, none⟩,
   ⟨some 19, (Op.call { callee := (Callee.value (Operand.func 18)), args := #[(Operand.tmp 17), (Operand.tmp 18)], argTypes := #[3, 3] }), 30, none⟩,
   ⟨some 16, (Op.move (Operand.tmp 19)), 30, none⟩,
   ⟨some 20, (Op.extract (Operand.tmp 16) 0), 3, none⟩,
   ⟨some 21, (Op.extract (Operand.tmp 16) 1), 23, none⟩,
   ⟨some 7, (Op.assign (Operand.tmp 20)), 3, none⟩,
   ⟨some 8, (Op.assign (Operand.tmp 21)), 23, none⟩]
def r6_2 : List VOp :=
  [⟨some 23, (Op.move (Operand.tmp 0)), 3, none⟩,
   ⟨some 24, (Op.move (Operand.tmp 1)), 3, none⟩,
   ⟨some 25, (Op.call { callee := (Callee.value (Operand.func 19)), args := #[(Operand.tmp 23), (Operand.tmp 24)], argTypes := #[3, 3] }), 30, none⟩,
   ⟨some 22, (Op.move (Operand.tmp 25)), 30, none⟩,
   ⟨some 26, (Op.extract (Operand.tmp 22) 0), 3, none⟩,
   ⟨some 27, (Op.extract (Operand.tmp 22) 1), 23, none⟩,
   ⟨some 9, (Op.assign (Operand.tmp 26)), 3, none⟩,
   ⟨some 10, (Op.assign (Operand.tmp 27)), 23, none⟩]
def r6_3 : List VOp :=
  [⟨some 28, (Op.move (Operand.tmp 8)), 23, none⟩,
   ⟨some 29, (Op.binOp BinOp.neq 23 (Operand.tmp 28) (Operand.const (Value.int IntKind.i64 0)) 23), 4, none⟩,
   ⟨some 30, (Op.move (Operand.tmp 29)), 4, none⟩,
   ⟨some 31, (Op.move (Operand.tmp 10)), 23, some (30, false)⟩,
   ⟨some 32, (Op.binOp BinOp.neq 23 (Operand.tmp 31) (Operand.const (Value.int IntKind.i64 0)) 23), 4, some (30, false)⟩,
   ⟨some 33, (Op.pick (Operand.tmp 30) (Operand.const (Value.bool true)) (Operand.tmp 32)), 4, none⟩]
def r6_4 : List VOp :=
  [⟨some 34, (Op.call { callee := (Callee.value (Operand.func 15)), args := #[], argTypes := #[] }), 4, none⟩,
   ⟨some 35, (Op.move (Operand.tmp 34)), 4, none⟩,
   ⟨some 36, (Op.move (Operand.tmp 8)), 23, some (35, true)⟩,
   ⟨some 37, (Op.move (Operand.tmp 10)), 23, some (35, true)⟩,
   ⟨some 38, (Op.binOp BinOp.eql 23 (Operand.tmp 36) (Operand.tmp 37) 23), 4, some (35, true)⟩,
   ⟨some 39, (Op.pick (Operand.tmp 35) (Operand.tmp 38) (Operand.const (Value.bool false))), 4, none⟩,
   ⟨some 40, (Op.move (Operand.tmp 39)), 4, none⟩,
   ⟨some 41, (Op.move (Operand.tmp 1)), 3, some (40, true)⟩,
   ⟨some 42, (Op.call { callee := (Callee.value (Operand.func 17)), args := #[(Operand.tmp 41)], argTypes := #[3] }), 4, some (40, true)⟩,
   ⟨some 43, (Op.unOp UnOp.not 4 (Operand.tmp 42)), 4, some (40, true)⟩,
   ⟨some 44, (Op.move (Operand.tmp 43)), 4, some (40, true)⟩,
   ⟨some 45, (Op.move (Operand.tmp 0)), 3, some (44, false)⟩,
   ⟨some 46, (Op.binOp BinOp.lss 3 (Operand.tmp 45) (Operand.const (Value.int IntKind.i64 (-1099511627776))) 3), 4, some (44, false)⟩,
   ⟨some 47, (Op.pick (Operand.tmp 44) (Operand.const (Value.bool true)) (Operand.tmp 46)), 4, some (40, true)⟩,
   ⟨some 48, (Op.move (Operand.tmp 47)), 4, some (40, true)⟩,
   ⟨some 49, (Op.move (Operand.tmp 0)), 3, some (48, false)⟩,
   ⟨some 50, (Op.binOp BinOp.gtr 3 (Operand.tmp 49) (Operand.const (Value.int IntKind.i64 1099511627776)) 3), 4, some (48, false)⟩,
   ⟨some 51, (Op.pick (Operand.tmp 48) (Operand.const (Value.bool true)) (Operand.tmp 50)), 4, some (40, true)⟩,
   ⟨some 52, (Op.pick (Operand.tmp 40) (Operand.tmp 51) (Operand.const (Value.bool false))), 4, none⟩,
   ⟨some 6, (Op.assign (Operand.tmp 52)), 4, none⟩]
def r6_5 : List VOp :=
  [⟨some 53, (Op.move (Operand.tmp 7)), 3, none⟩,
   ⟨some 54, (Op.move (Operand.tmp 0)), 3, none⟩,
   ⟨some 55, (Op.binOp BinOp.gtr 3 (Operand.tmp 53) (Operand.tmp 54) 3), 4, none⟩,
   ⟨some 56, (Op.move (Operand.tmp 55)), 4, none⟩,
   ⟨some 57, (Op.move (Operand.tmp 0)), 3, some (56, false)⟩,
   ⟨some 58, (Op.move (Operand.tmp 7)), 3, some (56, false)⟩,
   ⟨some 59, (Op.binOp BinOp.sub 3 (Operand.tmp 57) (Operand.tmp 58) 3), 3, some (56, false)⟩,
   ⟨some 60, (Op.move (Operand.tmp 1)), 3, some (56, false)⟩,
   ⟨some 61, (Op.binOp BinOp.geq 3 (Operand.tmp 59) (Operand.tmp 60) 3), 4, some (56, false)⟩,
   ⟨some 62, (Op.pick (Operand.tmp 56) (Operand.const (Value.bool true)) (Operand.tmp 61)), 4, none⟩,
   ⟨some 63, (Op.move (Operand.tmp 62)), 4, none⟩,
   ⟨some 64, (Op.move (Operand.tmp 9)), 3, some (63, false)⟩,
   ⟨some 65, (Op.move (Operand.tmp 0)), 3, some (63, false)⟩,
   ⟨some 66, (Op.binOp BinOp.lss 3 (Operand.tmp 64) (Operand.tmp 65) 3), 4, some (63, false)⟩,
   ⟨some 67, (Op.pick (Operand.tmp 63) (Operand.const (Value.bool true)) (Operand.tmp 66)), 4, none⟩,
   ⟨some 68, (Op.move (Operand.tmp 67)), 4, none⟩,
   ⟨some 69, (Op.move (Operand.tmp 9)), 3, some (68, false)⟩,
   ⟨some 70, (Op.move (Operand.tmp 0)), 3, some (68, false)⟩,
   ⟨some 71, (Op.binOp BinOp.sub 3 (Operand.tmp 69) (Operand.tmp 70) 3), 3, some (68, false)⟩,
   ⟨some 72, (Op.move (Operand.tmp 1)), 3, some (68, false)⟩,
   ⟨some 73, (Op.binOp BinOp.geq 3 (Operand.tmp 71) (Operand.tmp 72) 3), 4, some (68, false)⟩,
   ⟨some 74, (Op.pick (Operand.tmp 68) (Operand.const (Value.bool true)) (Operand.tmp 73)), 4, none⟩,
   ⟨some 75, (Op.move (Operand.tmp 74)), 4, none⟩,
   ⟨some 76, (Op.move (Operand.tmp 7)), 3, some (75, false)⟩,
   ⟨some 77, (Op.move (Operand.tmp 1)), 3, some (75, false)⟩,
   ⟨some 78, (Op.call { callee := (Callee.value (Operand.func 22)), args := #[(Operand.tmp 76), (Operand.tmp 77)], argTypes := #[3, 3] }), 4, some (75, false)⟩,
   ⟨some 79, (Op.unOp UnOp.not 4 (Operand.tmp 78)), 4, some (75, false)⟩,
   ⟨some 80, (Op.pick (Operand.tmp 75) (Operand.const (Value.bool true)) (Operand.tmp 79)), 4, none⟩,
   ⟨some 81, (Op.move (Operand.tmp 80)), 4, none⟩,
   ⟨some 82, (Op.move (Operand.tmp 9)), 3, some (81, false)⟩,
   ⟨some 83, (Op.move (Operand.tmp 1)), 3, some (81, false)⟩,
   ⟨some 84, (Op.call { callee := (Callee.value (Operand.func 22)), args := #[(Operand.tmp 82), (Operand.tmp 83)], argTypes := #[3, 3] }), 4, some (81, false)⟩,
   ⟨some 85, (Op.unOp UnOp.not 4 (Operand.tmp 84)), 4, some (81, false)⟩,
   ⟨some 86, (Op.pick (Operand.tmp 81) (Operand.const (Value.bool true)) (Operand.tmp 85)), 4, none⟩]
def r6_6 : List VOp :=
  [⟨some 6, (Op.assign (Operand.const (Value.bool false))), 4, none⟩]
def r6_7 : List VOp :=
  [⟨some 87, (Op.move (Operand.tmp 1)), 3, none⟩,
   ⟨some 88, (Op.move (Operand.tmp 2)), 3, none⟩,
   ⟨some 89, (Op.binOp BinOp.and 3 (Operand.tmp 88) (Operand.const (Value.int IntKind.i64 15)) 3), 3, none⟩,
   ⟨some 90, (Op.binOp BinOp.add 3 (Operand.const (Value.int IntKind.i64 1)) (Operand.tmp 89) 3), 3, none⟩,
   ⟨some 91, (Op.binOp BinOp.mul 3 (Operand.tmp 87) (Operand.tmp 90) 3), 3, none⟩,
   ⟨some 11, (Op.assign (Operand.tmp 91)), 3, none⟩]
def r6_8 : List VOp :=
  [⟨some 92, (Op.move (Operand.tmp 11)), 3, none⟩,
   ⟨some 93, (Op.call { callee := (Callee.value (Operand.func 17)), args := #[(Operand.tmp 92)], argTypes := #[3] }), 4, none⟩,
   ⟨some 94, (Op.unOp UnOp.not 4 (Operand.tmp 93)), 4, none⟩,
   ⟨some 95, (Op.move (Operand.tmp 94)), 4, none⟩,
   ⟨some 96, (Op.move (Operand.tmp 7)), 3, some (95, false)⟩,
   ⟨some 97, (Op.binOp BinOp.lss 3 (Operand.tmp 96) (Operand.const (Value.int IntKind.i64 (-1099511627776))) 3), 4, some (95, false)⟩,
   ⟨some 98, (Op.pick (Operand.tmp 95) (Operand.const (Value.bool true)) (Operand.tmp 97)), 4, none⟩,
   ⟨some 99, (Op.move (Operand.tmp 98)), 4, none⟩,
   ⟨some 100, (Op.move (Operand.tmp 7)), 3, some (99, false)⟩,
   ⟨some 101, (Op.move (Operand.tmp 1)), 3, some (99, false)⟩,
   ⟨some 102, (Op.binOp BinOp.add 3 (Operand.tmp 100) (Operand.tmp 101) 3), 3, some (99, false)⟩,
   ⟨some 103, (Op.binOp BinOp.sub 3 (Operand.tmp 102) (Operand.const (Value.int IntKind.i64 1)) 3), 3, some (99, false)⟩,
   ⟨some 104, (Op.binOp BinOp.gtr 3 (Operand.tmp 103) (Operand.const (Value.int IntKind.i64 1099511627776)) 3), 4, some (99, false)⟩,
   ⟨some 105, (Op.pick (Operand.tmp 99) (Operand.const (Value.bool true)) (Operand.tmp 104)), 4, none⟩]
def r6_9 : List VOp :=
  [⟨some 106, (Op.call { callee := (Callee.value (Operand.func 15)), args := #[], argTypes := #[] }), 4, none⟩,
   ⟨some 6, (Op.assign (Operand.tmp 106)), 4, none⟩]
def r6_10 : List VOp :=
  [⟨some 108, (Op.move (Operand.tmp 7)), 3, none⟩,
   ⟨some 109, (Op.move (Operand.tmp 11)), 3, none⟩,
   ⟨some 110, (Op.call { callee := (Callee.value (Operand.func 18)), args := #[(Operand.tmp 108), (Operand.tmp 109)], argTypes := #[3, 3] }), 30, none⟩,
   ⟨some 107, (Op.move (Operand.tmp 110)), 30, none⟩,
   ⟨some 111, (Op.extract (Operand.tmp 107) 0), 3, none⟩,
   ⟨some 112, (Op.extract (Operand.tmp 107) 1), 23, none⟩,
   ⟨some 12, (Op.assign (Operand.tmp 111)), 3, none⟩,
   ⟨some 13, (Op.assign (Operand.tmp 112)), 23, none⟩]
def r6_11 : List VOp :=
  [⟨some 114, (Op.move (Operand.tmp 7)), 3, none⟩,
   ⟨some 115, (Op.move (Operand.tmp 1)), 3, none⟩,
   ⟨some 116, (Op.binOp BinOp.add 3 (Operand.tmp 114) (Operand.tmp 115) 3), 3, none⟩,
   ⟨some 117, (Op.binOp BinOp.sub 3 (Operand.tmp 116) (Operand.const (Value.int IntKind.i64 1)) 3), 3, none⟩,
   ⟨some 118, (Op.move (Operand.tmp 11)), 3, none⟩,
   ⟨some 119, (Op.call { callee := (Callee.value (Operand.func 18)), args := #[(Operand.tmp 117), (Operand.tmp 118)], argTypes := #[3, 3] }), 30, none⟩,
   ⟨some 113, (Op.move (Operand.tmp 119)), 30, none⟩,
   ⟨some 120, (Op.extract (Operand.tmp 113) 0), 3, none⟩,
   ⟨some 121, (Op.extract (Operand.tmp 113) 1), 23, none⟩,
   ⟨some 14, (Op.assign (Operand.tmp 120)), 3, none⟩,
   ⟨some 15, (Op.assign (Operand.tmp 121)), 23, none⟩]
def r6_12 : List VOp :=
  [⟨some 122, (Op.call { callee := (Callee.value (Operand.func 15)), args := #[], argTypes := #[] }), 4, none⟩,
   ⟨some 123, (Op.move (Operand.tmp 122)), 4, none⟩,
   ⟨some 124, (Op.move (Operand.tmp 13)), 23, some (123, true)⟩,
   ⟨some 125, (Op.binOp BinOp.eql 23 (Operand.tmp 124) (Operand.const (Value.int IntKind.i64 0)) 23), 4, some (123, true)⟩,
   ⟨some 126, (Op.pick (Operand.tmp 123) (Operand.tmp 125) (Operand.const (Value.bool false))), 4, none⟩,
   ⟨some 127, (Op.move (Operand.tmp 126)), 4, none⟩,
   ⟨some 128, (Op.move (Operand.tmp 15)), 23, some (127, true)⟩,
   ⟨some 129, (Op.binOp BinOp.eql 23 (Operand.tmp 128) (Operand.const (Value.int IntKind.i64 0)) 23), 4, some (127, true)⟩,
   ⟨some 130, (Op.pick (Operand.tmp 127) (Operand.tmp 129) (Operand.const (Value.bool false))), 4, none⟩,
   ⟨some 131, (Op.move (Operand.tmp 130)), 4, none⟩,
   ⟨some 132, (Op.move (Operand.tmp 12)), 3, some (131, true)⟩,
   ⟨some 133, (Op.move (Operand.tmp 14)), 3, some (131, true)⟩,
   ⟨some 134, (Op.binOp BinOp.eql 3 (Operand.tmp 132) (Operand.tmp 133) 3), 4, some (131, true)⟩,
   ⟨some 135, (Op.pick (Operand.tmp 131) (Operand.tmp 134) (Operand.const (Value.bool false))), 4, none⟩,
   ⟨some 136, (Op.move (Operand.tmp 135)), 4, none⟩,
   ⟨some 137, (Op.move (Operand.tmp 11)), 3, some (136, true)⟩,
   ⟨some 138, (Op.move (Operand.tmp 1)), 3, some (136, true)⟩,
   ⟨some 139, (Op.call { callee := (Callee.value (Operand.func 24)), args := #[(Operand.tmp 137), (Operand.tmp 138)], argTypes := #[3, 3] }), 4, some (136, true)⟩,
   ⟨some 140, (Op.pick (Operand.tmp 136) (Operand.tmp 139) (Operand.const (Value.bool false))), 4, none⟩,
   ⟨some 6, (Op.assign (Operand.tmp 140)), 4, none⟩]
def B6 : VC :=
  (.seq (.region r6_0) (.seq (.region r6_1) (.seq (.region r6_2) (.seq (.seq (.region r6_3) (.cond (Operand.tmp 33) (.seq (.region r6_4) .ret) .skip)) (.seq (.seq (.region r6_5) (.cond (Operand.tmp 86) (.seq (.region r6_6) .ret) .skip)) (.seq (.region r6_7) (.seq (.seq (.region r6_8) (.cond (Operand.tmp 105) (.seq (.region r6_9) .ret) .skip)) (.seq (.region r6_10) (.seq (.region r6_11) (.seq (.region r6_12) .ret))))))))))
theorem code6 : ∃ c, Try.f6.body = some c ∧ abs Try.f6.ntmps c = B6 := ⟨_, rfl, by kernel_rfl⟩
theorem hb6 : HasBody Try.prog 6 := hasBody_of Try.func6 (by kernel_rfl)
theorem res6 : Try.f6.results = #[(ResultVar.tmp 6)] := rfl
theorem enter6 {w : World} {R : Value → World → Prop} (x0 x1 x2 : Value) (h : vc Try.prog B6 (retK Try.prog #[(ResultVar.tmp 6)] R) [] (initEnv [x0, x1, x2] 0) w) : FnC Try.prog 6 #[x0, x1, x2] w R := by
  obtain ⟨c, h1, h2⟩ := code6
  exact hb6.fn (ret_of_vc mixed Try.func6 h1 (Nat.le_of_ble_eq_true rfl) B6 h2 h)
@[push_cast] theorem vr6_0 (Q : Post) (ds : List Deferred) (σ : Env) (w : World) : vc Try.prog (.region r6_0) Q ds σ w = vcOps Try.prog [⟨some 6, (Op.assign (Operand.const (Value.bool false))), 4, none⟩] (Q .normal ds) σ w := mk_eq rfl
@[push_cast] theorem vr6_1 (Q : Post) (ds : List Deferred) (σ : Env) (w : World) : vc Try.prog (.region r6_1) Q ds σ w = vcOps Try.prog [⟨some 17, (Op.move (Operand.tmp 0)), 3, none⟩, ⟨some 18, (Op.move (Operand.tmp 1)), 3, none⟩, ⟨some 19, (Op.call { callee := (Callee.value (Operand.func 18)), args := #[(Operand.tmp 17), (Operand.tmp 18)], argTypes := #[3, 3] }), 30, none⟩, ⟨some 16, (Op.move (Operand.tmp 19)), 30, none⟩, ⟨some 20, (Op.extract (Operand.tmp 16) 0), 3, none⟩, ⟨some 21, (Op.extract (Operand.tmp 16) 1), 23, none⟩, ⟨some 7, (Op.assign (Operand.tmp 20)), 3, none⟩, ⟨some 8, (Op.assign (Operand.tmp 21)), 23, none⟩] (Q .normal ds) σ w := mk_eq rfl
@[push_cast] theorem vr6_2 (Q : Post) (ds : List Deferred) (σ : Env) (w : World) : vc Try.prog (.region r6_2) Q ds σ w = vcOps Try.prog [⟨some 23, (Op.move (Operand.tmp 0)), 3, none⟩, ⟨some 24, (Op.move (Operand.tmp 1)), 3, none⟩, ⟨some 25, (Op.call { callee := (Callee.value (Operand.func 19)), args := #[(Operand.tmp 23), (Operand.tmp 24)], argTypes := #[3, 3] }), 30, none⟩, ⟨some 22, (Op.move (Operand.tmp 25)), 30, none⟩, ⟨some 26, (Op.extract (Operand.tmp 22) 0), 3, none⟩, ⟨some 27, (Op.extract (Operand.tmp 22) 1), 23, none⟩, ⟨some 9, (Op.assign (Operand.tmp 26)), 3, none⟩, ⟨some 10, (Op.assign (Operand.tmp 27)), 23, none⟩] (Q .normal ds) σ w := mk_eq rfl
@[push_cast] theorem vr6_3 (Q : Post) (ds : List Deferred) (σ : Env) (w : World) : vc Try.prog (.region r6_3) Q ds σ w = vcOps Try.prog [⟨some 28, (Op.move (Operand.tmp 8)), 23, none⟩, ⟨some 29, (Op.binOp BinOp.neq 23 (Operand.tmp 28) (Operand.const (Value.int IntKind.i64 0)) 23), 4, none⟩, ⟨some 30, (Op.move (Operand.tmp 29)), 4, none⟩, ⟨some 31, (Op.move (Operand.tmp 10)), 23, some (30, false)⟩, ⟨some 32, (Op.binOp BinOp.neq 23 (Operand.tmp 31) (Operand.const (Value.int IntKind.i64 0)) 23), 4, some (30, false)⟩, ⟨some 33, (Op.pick (Operand.tmp 30) (Operand.const (Value.bool true)) (Operand.tmp 32)), 4, none⟩] (Q .normal ds) σ w := mk_eq rfl
@[push_cast] theorem vr6_4 (Q : Post) (ds : List Deferred) (σ : Env) (w : World) : vc Try.prog (.region r6_4) Q ds σ w = vcOps Try.prog [⟨some 34, (Op.call { callee := (Callee.value (Operand.func 15)), args := #[], argTypes := #[] }), 4, none⟩, ⟨some 35, (Op.move (Operand.tmp 34)), 4, none⟩, ⟨some 36, (Op.move (Operand.tmp 8)), 23, some (35, true)⟩, ⟨some 37, (Op.move (Operand.tmp 10)), 23, some (35, true)⟩, ⟨some 38, (Op.binOp BinOp.eql 23 (Operand.tmp 36) (Operand.tmp 37) 23), 4, some (35, true)⟩, ⟨some 39, (Op.pick (Operand.tmp 35) (Operand.tmp 38) (Operand.const (Value.bool false))), 4, none⟩, ⟨some 40, (Op.move (Operand.tmp 39)), 4, none⟩, ⟨some 41, (Op.move (Operand.tmp 1)), 3, some (40, true)⟩, ⟨some 42, (Op.call { callee := (Callee.value (Operand.func 17)), args := #[(Operand.tmp 41)], argTypes := #[3] }), 4, some (40, true)⟩, ⟨some 43, (Op.unOp UnOp.not 4 (Operand.tmp 42)), 4, some (40, true)⟩, ⟨some 44, (Op.move (Operand.tmp 43)), 4, some (40, true)⟩, ⟨some 45, (Op.move (Operand.tmp 0)), 3, some (44, false)⟩, ⟨some 46, (Op.binOp BinOp.lss 3 (Operand.tmp 45) (Operand.const (Value.int IntKind.i64 (-1099511627776))) 3), 4, some (44, false)⟩, ⟨some 47, (Op.pick (Operand.tmp 44) (Operand.const (Value.bool true)) (Operand.tmp 46)), 4, some (40, true)⟩, ⟨some 48, (Op.move (Operand.tmp 47)), 4, some (40, true)⟩, ⟨some 49, (Op.move (Operand.tmp 0)), 3, some (48, false)⟩, ⟨some 50, (Op.binOp BinOp.gtr 3 (Operand.tmp 49) (Operand.const (Value.int IntKind.i64 1099511627776)) 3), 4, some (48, false)⟩, ⟨some 51, (Op.pick (Operand.tmp 48) (Operand.const (Value.bool true)) (Operand.tmp 50)), 4, some (40, true)⟩, ⟨some 52, (Op.pick (Operand.tmp 40) (Operand.tmp 51) (Operand.const (Value.bool false))), 4, none⟩, ⟨some 6, (Op.assign (Operand.tmp 52)), 4, none⟩] (Q .normal ds) σ w := mk_eq rfl
@[push_cast] theorem vr6_5 (Q : Post) (ds : List Deferred) (σ : Env) (w : World) : vc Try.prog (.region r6_5) Q ds σ w = vcOps Try.prog [⟨some 53, (Op.move (Operand.tmp 7)), 3, none⟩, ⟨some 54, (Op.move (Operand.tmp 0)), 3, none⟩, ⟨some 55, (Op.binOp BinOp.gtr 3 (Operand.tmp 53) (Operand.tmp 54) 3), 4, none⟩, ⟨some 56, (Op.move (Operand.tmp 55)), 4, none⟩, ⟨some 57, (Op.move (Operand.tmp 0)), 3, some (56, false)⟩, ⟨some 58, (Op.move (Operand.tmp 7)), 3, some (56, false)⟩, ⟨some 59, (Op.binOp BinOp.sub 3 (Operand.tmp 57) (Operand.tmp 58) 3), 3, some (56, false)⟩, ⟨some 60, (Op.move (Operand.tmp 1)), 3, some (56, false)⟩, ⟨some 61, (Op.binOp BinOp.geq 3 (Operand.tmp 59) (Operand.tmp 60) 3), 4, some (56, false)⟩, ⟨some 62, (Op.pick (Operand.tmp 56) (Operand.const (Value.bool true)) (Operand.tmp 61)), 4, none⟩, ⟨some 63, (Op.move (Operand.tmp 62)), 4, none⟩, ⟨some 64, (Op.move (Operand.tmp 9)), 3, some (63, false)⟩, ⟨some 65, (Op.move (Operand.tmp 0)), 3, some (63, false)⟩, ⟨some 66, (Op.binOp BinOp.lss 3 (Operand.tmp 64) (Operand.tmp 65) 3), 4, some (63, false)⟩, ⟨some 67, (Op.pick (Operand.tmp 63) (Operand.const (Value.bool true)) (Operand.tmp 66)), 4, none⟩, ⟨some 68, (Op.move (Operand.tmp 67)), 4, none⟩, ⟨some 69, (Op.move (Operand.tmp 9)), 3, some (68, false)⟩, ⟨some 70, (Op.move (Operand.tmp 0)), 3, some (68, false)⟩, ⟨some 71, (Op.binOp BinOp.sub 3 (Operand.tmp 69) (Operand.tmp 70) 3), 3, some (68, false)⟩, ⟨some 72, (Op.move (Operand.tmp 1)), 3, some (68, false)⟩, ⟨some 73, (Op.binOp BinOp.geq 3 (Operand.tmp 71) (Operand.tmp 72) 3), 4, some (68, false)⟩, ⟨some 74, (Op.pick (Operand.tmp 68) (Operand.const (Value.bool true)) (Operand.tmp 73)), 4, none⟩, ⟨some 75, (Op.move (Operand.tmp 74)), 4, none⟩, ⟨some 76, (Op.move (Operand.tmp 7)), 3, some (75, false)⟩, ⟨some 77, (Op.move (Operand.tmp 1)), 3, some (75, false)⟩, ⟨some 78, (Op.call { callee := (Callee.value (Operand.func 22)), args := #[(Operand.tmp 76), (Operand.tmp 77)], argTypes := #[3, 3] }), 4, some (75, false)⟩, ⟨some 79, (Op.unOp UnOp.not 4 (Operand.tmp 78)), 4, some (75, false)⟩, ⟨some 80, (Op.pick (Operand.tmp 75) (Operand.const (Value.bool true)) (Operand.tmp 79)), 4, none⟩, ⟨some 81, (Op.move (Operand.tmp 80)), 4, none⟩, ⟨some 82, (Op.move (Operand.tmp 9)), 3, some (81, false)⟩, ⟨some 83, (Op.move (Operand.tmp 1)), 3, some (81, false)⟩, ⟨some 84, (Op.call { callee := (Callee.value (Operand.func 22)), args := #[(Operand.tmp 82), (Operand.tmp 83)], argTypes := #[3, 3] }), 4, some (81, false)⟩, ⟨some 85, (Op.unOp UnOp.not 4 (Operand.tmp 84)), 4, some (81, false)⟩, ⟨some 86, (Op.pick (Operand.tmp 81) (Operand.const (Value.bool true)) (Operand.tmp 85)), 4, none⟩] (Q .normal ds) σ w := mk_eq rfl
@[push_cast] theorem vr6_6 (Q : Post) (ds : List Deferred) (σ : Env) (w : World) : vc Try.prog (.region r6_6) Q ds σ w = vcOps Try.prog [⟨some 6, (Op.assign (Operand.const (Value.bool false))), 4, none⟩] (Q .normal ds) σ w := mk_eq rfl
@[push_cast] theorem vr6_7 (Q : Post) (ds : List Deferred) (σ : Env) (w : World) : vc Try.prog (.region r6_7) Q ds σ w = vcOps Try.prog [⟨some 87, (Op.move (Operand.tmp 1)), 3, none⟩, ⟨some 88, (Op.move (Operand.tmp 2)), 3, none⟩, ⟨some 89, (Op.binOp BinOp.and 3 (Operand.tmp 88) (Operand.const (Value.int IntKind.i64 15)) 3), 3, none⟩, ⟨some 90, (Op.binOp BinOp.add 3 (Operand.const (Value.int IntKind.i64 1)) (Operand.tmp 89) 3), 3, none⟩, ⟨some 91, (Op.binOp BinOp.mul 3 (Operand.tmp 87) (Operand.tmp 90) 3), 3, none⟩, ⟨some 11, (Op.assign (Operand.tmp 91)), 3, none⟩] (Q .normal ds) σ w := mk_eq rfl
@[push_cast] theorem vr6_8 (Q : Post) (ds : List Deferred) (σ : Env) (w : World) : vc Try.prog (.region r6_8) Q ds σ w = vcOps Try.prog [⟨some 92, (Op.move (Operand.tmp 11)), 3, none⟩, ⟨some 93, (Op.call { callee := (Callee.value (Operand.func 17)), args := #[(Operand.tmp 92)], argTypes := #[3] }), 4, none⟩, ⟨some 94, (Op.unOp UnOp.not 4 (Operand.tmp 93)), 4, none⟩, ⟨some 95, (Op.move (Operand.tmp 94)), 4, none⟩, ⟨some 96, (Op.move (Operand.tmp 7)), 3, some (95, false)⟩, ⟨some 97, (Op.binOp BinOp.lss 3 (Operand.tmp 96) (Operand.const (Value.int IntKind.i64 (-1099511627776))) 3), 4, some (95, false)⟩, ⟨some 98, (Op.pick (Operand.tmp 95) (Operand.const (Value.bool true)) (Operand.tmp 97)), 4, none⟩, ⟨some 99, (Op.move (Operand.tmp 98)), 4, none⟩, ⟨some 100, (Op.move (Operand.tmp 7)), 3, some (99, false)⟩, ⟨some 101, (Op.move (Operand.tmp 1)), 3, some (99, false)⟩, ⟨some 102, (Op.binOp BinOp.add 3 (Operand.tmp 100) (Operand.tmp 101) 3), 3, some (99, false)⟩, ⟨some 103, (Op.binOp BinOp.sub 3 (Operand.tmp 102) (Operand.const (Value.int IntKind.i64 1)) 3), 3, some (99, false)⟩, ⟨some 104, (Op.binOp BinOp.gtr 3 (Operand.tmp 103) (Operand.const (Value.int IntKind.i64 1099511627776)) 3), 4, some (99, false)⟩, ⟨some 105, (Op.pick (Operand.tmp 99) (Operand.const (Value.bool true)) (Operand.tmp 104)), 4, none⟩] (Q .normal ds) σ w := mk_eq rfl
@[push_cast] theorem vr6_9 (Q : Post) (ds : List Deferred) (σ : Env) (w : World) : vc Try.prog (.region r6_9) Q ds σ w = vcOps Try.prog [⟨some 106, (Op.call { callee := (Callee.value (Operand.func 15)), args := #[], argTypes := #[] }), 4, none⟩, ⟨some 6, (Op.assign (Operand.tmp 106)), 4, none⟩] (Q .normal ds) σ w := mk_eq rfl
@[push_cast] theorem vr6_10 (Q : Post) (ds : List Deferred) (σ : Env) (w : World) : vc Try.prog (.region r6_10) Q ds σ w = vcOps Try.prog [⟨some 108, (Op.move (Operand.tmp 7)), 3, none⟩, ⟨some 109, (Op.move (Operand.tmp 11)), 3, none⟩, ⟨some 110, (Op.call { callee := (Callee.value (Operand.func 18)), args := #[(Operand.tmp 108), (Operand.tmp 109)], argTypes := #[3, 3] }), 30, none⟩, ⟨some 107, (Op.move (Operand.tmp 110)), 30, none⟩, ⟨some 111, (Op.extract (Operand.tmp 107) 0), 3, none⟩, ⟨some 112, (Op.extract (Operand.tmp 107) 1), 23, none⟩, ⟨some 12, (Op.assign (Operand.tmp 111)), 3, none⟩, ⟨some 13, (Op.assign (Operand.tmp 112)), 23, none⟩] (Q .normal ds) σ w := mk_eq rfl
@[push_cast] theorem vr6_11 (Q : Post) (ds : List Deferred) (σ : Env) (w : World) : vc Try.prog (.region r6_11) Q ds σ w = vcOps Try.prog [⟨some 114, (Op.move (Operand.tmp 7)), 3, none⟩, ⟨some 115, (Op.move (Operand.tmp 1)), 3, none⟩, ⟨some 116, (Op.binOp BinOp.add 3 (Operand.tmp 114) (Operand.tmp 115) 3), 3, none⟩, ⟨some 117, (Op.binOp BinOp.sub 3 (Operand.tmp 116) (Operand.const (Value.int IntKind.i64 1)) 3), 3, none⟩, ⟨some 118, (Op.move (Operand.tmp 11)), 3, none⟩, ⟨some 119, (Op.call { callee := (Callee.value (Operand.func 18)), args := #[(Operand.tmp 117), (Operand.tmp 118)], argTypes := #[3, 3] }), 30, none⟩, ⟨some 113, (Op.move (Operand.tmp 119)), 30, none⟩, ⟨some 120, (Op.extract (Operand.tmp 113) 0), 3, none⟩, ⟨some 121, (Op.extract (Operand.tmp 113) 1), 23, none⟩, ⟨some 14, (Op.assign (Operand.tmp 120)), 3, none⟩, ⟨some 15, (Op.assign (Operand.tmp 121)), 23, none⟩] (Q .normal ds) σ w := mk_eq rfl
@[push_cast] theorem vr6_12 (Q : Post) (ds : List Deferred) (σ : Env) (w : World) : vc Try.prog (.region r6_12) Q ds σ w = vcOps Try.prog [⟨some 122, (Op.call { callee := (Callee.value (Operand.func 15)), args := #[], argTypes := #[] }), 4, none⟩, ⟨some 123, (Op.move (Operand.tmp 122)), 4, none⟩, ⟨some 124, (Op.move (Operand.tmp 13)), 23, some (123, true)⟩, ⟨some 125, (Op.binOp BinOp.eql 23 (Operand.tmp 124) (Operand.const (Value.int IntKind.i64 0)) 23), 4, some (123, true)⟩, ⟨some 126, (Op.pick (Operand.tmp 123) (Operand.tmp 125) (Operand.const (Value.bool false))), 4, none⟩, ⟨some 127, (Op.move (Operand.tmp 126)), 4, none⟩, ⟨some 128, (Op.move (Operand.tmp 15)), 23, some (127, true)⟩, ⟨some 129, (Op.binOp BinOp.eql 23 (Operand.tmp 128) (Operand.const (Value.int IntKind.i64 0)) 23), 4, some (127, true)⟩, ⟨some 130, (Op.pick (Operand.tmp 127) (Operand.tmp 129) (Operand.const (Value.bool false))), 4, none⟩, ⟨some 131, (Op.move (Operand.tmp 130)), 4, none⟩, ⟨some 132, (Op.move (Operand.tmp 12)), 3, some (131, true)⟩, ⟨some 133, (Op.move (Operand.tmp 14)), 3, some (131, true)⟩, ⟨some 134, (Op.binOp BinOp.eql 3 (Operand.tmp 132) (Operand.tmp 133) 3), 4, some (131, true)⟩, ⟨some 135, (Op.pick (Operand.tmp 131) (Operand.tmp 134) (Operand.const (Value.bool false))), 4, none⟩, ⟨some 136, (Op.move (Operand.tmp 135)), 4, none⟩, ⟨some 137, (Op.move (Operand.tmp 11)), 3, some (136, true)⟩, ⟨some 138, (Op.move (Operand.tmp 1)), 3, some (136, true)⟩, ⟨some 139, (Op.call { callee := (Callee.value (Operand.func 24)), args := #[(Operand.tmp 137), (Operand.tmp 138)], argTypes := #[3, 3] }), 4, some (136, true)⟩, ⟨some 140, (Op.pick (Operand.tmp 136) (Operand.tmp 139) (Operand.const (Value.bool false))), 4, none⟩, ⟨some 6, (Op.assign (Operand.tmp 140)), 4, none⟩] (Q .normal ds) σ w := mk_eq rfl
/-! 7 columbary/columbarylaw11.BucketWhole (params #[3, 3, 3], results #[(ResultVar.tmp 6)], 143 slots) -/
def W7_0 : List Nat := [6, 9, 10, 11, 12, 13, 14, 35, 36, 37, 38, 39, 40, 41, 42, 43, 44, 45, 46, 47, 48, 49, 50, 51, 52, 53, 54, 55, 56, 57, 58, 59, 60, 61, 62, 63, 64, 65, 66, 67, 68, 69, 70, 71, 72, 73, 74, 75, 76, 77, 78, 79, 80, 81, 82, 83, 84, 85, 86, 87, 88, 89, 90, 91, 92, 93, 94, 95, 96, 97, 98, 99, 100, 101, 102, 103, 104, 105, 106, 107, 108, 109, 110, 111, 112, 113, 114, 115, 116, 117, 118, 119, 120]
@[push_cast] theorem W7_0_def : W7_0 = [6, 9, 10, 11, 12, 13, 14, 35, 36, 37, 38, 39, 40, 41, 42, 43, 44, 45, 46, 47, 48, 49, 50, 51, 52, 53, 54, 55, 56, 57, 58, 59, 60, 61, 62, 63, 64, 65, 66, 67, 68, 69, 70, 71, 72, 73, 74, 75, 76, 77, 78, 79, 80, 81, 82, 83, 84, 85, 86, 87, 88, 89, 90, 91, 92, 93, 94, 95, 96, 97, 98, 99, 100, 101, 102, 103, 104, 105, 106, 107, 108, 109, 110, 111, 112, 113, 114, 115, 116, 117, 118, 119, 120] := mk_eq rfl
def r7_0 : List VOp :=
  [⟨some 6, (Op.assign (Operand.const (Value.bool false))), 4, none⟩]
def r7_1 : List VOp :=
  [⟨some 16, (Op.move (Operand.tmp 0)), 3, none⟩,
   ⟨some 17, (Op.move (Operand.tmp 1)), 3, none⟩,
   ⟨some 18, (Op.move (Operand.tmp 2)), 3, none⟩,
   ⟨some 19, (Op.call { callee := (Callee.value (Operand.func 13)), args := #[(Operand.tmp 16), (Operand.tmp 17), (Operand.tmp 18)], argTypes := #[3, 3, 3] }), 24, none⟩,
   ⟨some 15, (Op.move (Operand.tmp 19)), 24, none⟩,
   ⟨some 20, (Op.extract (Operand.tmp 15) 0), 22, none⟩,
   ⟨some 21, (Op.extract (Operand.tmp 15) 1), 23, none⟩,
   ⟨some 7, (Op.assign (Operand.tmp 20)), 22, none⟩,
   ⟨some 8, (Op.assign (Operand.tmp 21)), 23, none⟩]
def r7_2 : List VOp :=
  [⟨some 22, (Op.move (Operand.tmp 8)), 23, none⟩,
   ⟨some 23, (Op.binOp BinOp.neq 23 (Operand.tmp 22) (Operand.const (Value.int IntKind.i64 0)) 23), 4, none⟩]
def r7_3 : List VOp :=
  [⟨some 24, (Op.call { callee := (Callee.value (Operand.func 15)), args := #[], argTypes := #[] }), 4, none⟩,
   ⟨some 25, (Op.move (Operand.tmp 24)), 4, none⟩,
   ⟨some 26, (Op.move (Operand.tmp 8)), 23, some (25, true)⟩,
   ⟨some 27, (Op.binOp BinOp.eql 23 (Operand.tmp 26) (Operand.const (Value.int IntKind.i64 111)) 23), 4, some (25, true)⟩,
   ⟨some 28, (Op.pick (Operand.tmp 25) (Operand.tmp 27) (Operand.const (Value.bool false))), 4, none⟩,
   ⟨some 29, (Op.move (Operand.tmp 28)), 4, none⟩,
   ⟨some 30, (Op.move (Operand.tmp 7)), 22, some (29, true)⟩,
   ⟨some 31, (Op.call { callee := (Callee.builtin Builtin.len), args := #[(Operand.tmp 30)], argTypes := #[22] }), 3, some (29, true)⟩,
   ⟨some 32, (Op.binOp BinOp.eql 3 (Operand.tmp 31) (Operand.const (Value.int IntKind.i64 0)) 3), 4, some (29, true)⟩,
   ⟨some 33, (Op.pick (Operand.tmp 29) (Operand.tmp 32) (Operand.const (Value.bool false))), 4, none⟩,
   ⟨some 6, (Op.assign (Operand.tmp 33)), 4, none⟩]
def r7_4 : List VOp :=
  [⟨some 34, (Op.move (Operand.tmp 0)), 3, none⟩,
   ⟨some 9, (Op.assign (Operand.tmp 34)), 3, none⟩]
def r7_5 : List VOp :=
  [⟨some 10, (Op.assign (Operand.const (Value.int IntKind.i64 0))), 3, none⟩]
def r7_6 : List VOp :=
  [⟨some 35, (Op.move (Operand.tmp 10)), 3, none⟩,
   ⟨some 36, (Op.move (Operand.tmp 7)), 22, none⟩,
   ⟨some 37, (Op.call { callee := (Callee.builtin Builtin.len), args := #[(Operand.tmp 36)], argTypes := #[22] }), 3, none⟩,
   ⟨some 38, (Op.binOp BinOp.lss 3 (Operand.tmp 35) (Operand.tmp 37) 3), 4, none⟩]
def r7_8 : List VOp :=
  [⟨some 42, (Op.move (Operand.tmp 7)), 22, none⟩,
   ⟨some 43, (Op.move (Operand.tmp 10)), 3, none⟩,
   ⟨some 44, (Op.indexAddr 22 (Operand.tmp 42) (Operand.tmp 43)), 0, none⟩,
   ⟨some 45, (Op.fieldAddr 34 (Operand.tmp 44) 0), 0, none⟩,
   ⟨some 46, (Op.load 3 (Operand.tmp 45)), 3, none⟩,
   ⟨some 47, (Op.move (Operand.tmp 2)), 3, none⟩,
   ⟨some 48, (Op.call { callee := (Callee.value (Operand.func 18)), args := #[(Operand.tmp 46), (Operand.tmp 47)], argTypes := #[3, 3] }), 30, none⟩,
   ⟨some 41, (Op.move (Operand.tmp 48)), 30, none⟩,
   ⟨some 49, (Op.extract (Operand.tmp 41) 0), 3, none⟩,
   ⟨some 50, (Op.extract (Operand.tmp 41) 1), 23, none⟩,
   ⟨some 11, (Op.assign (Operand.tmp 49)), 3, none⟩,
   ⟨some 12, (Op.assign (Operand.tmp 50)), 23, none⟩]
def r7_9 : List VOp :=
  [⟨some 52, (Op.move (Operand.tmp 7)), 22, none⟩,
   ⟨some 53, (Op.move (Operand.tmp 10)), 3, none⟩,
   ⟨some 54, (Op.indexAddr 22 (Operand.tmp 52) (Operand.tmp 53)), 0, none⟩,
   ⟨some 55, (Op.fieldAddr 34 (Operand.tmp 54) 1), 0, none⟩,
   ⟨some 56, (Op.load 3 (Operand.tmp 55)), 3, none⟩,
   ⟨some 57, (Op.binOp BinOp.sub 3 (Operand.tmp 56) (Operand.const (Value.int IntKind.i64 1)) 3), 3, none⟩,
   ⟨some 58, (Op.move (Operand.tmp 2)), 3, none⟩,
   ⟨some 59, (Op.call { callee := (Callee.value (Operand.func 18)), args := #[(Operand.tmp 57), (Operand.tmp 58)], argTypes := #[3, 3] }), 30, none⟩,
   ⟨some 51, (Op.move (Operand.tmp 59)), 30, none⟩,
   ⟨some 60, (Op.extract (Operand.tmp 51) 0), 3, none⟩,
   ⟨some 61, (Op.extract (Operand.tmp 51) 1), 23, none⟩,
   ⟨some 13, (Op.assign (Operand.tmp 60)), 3, none⟩,
   ⟨some 14, (Op.assign (Operand.tmp 61)), 23, none⟩]
def r7_10 : List VOp :=
  [⟨some 62, (Op.move (Operand.tmp 7)), 22, none⟩,
   ⟨some 63, (Op.move (Operand.tmp 10)), 3, none⟩,
   ⟨some 64, (Op.indexAddr 22 (Operand.tmp 62) (Operand.tmp 63)), 0, none⟩,
   ⟨some 65, (Op.fieldAddr 34 (Operand.tmp 64) 0), 0, none⟩,
   ⟨some 66, (Op.load 3 (Operand.tmp 65)), 3, none⟩,
   ⟨some 67, (Op.move (Operand.tmp 9)), 3, none⟩,
   ⟨some 68, (Op.binOp BinOp.neq 3 (Operand.tmp 66) (Operand.tmp 67) 3), 4, none⟩,
   ⟨some 69, (Op.move (Operand.tmp 68)), 4, none⟩,
   ⟨some 70, (Op.move (Operand.tmp 7)), 22, some (69, false)⟩,
   ⟨some 71, (Op.move (Operand.tmp 10)), 3, some (69, false)⟩,
   ⟨some 72, (Op.indexAddr 22 (Operand.tmp 70) (Operand.tmp 71)), 0, some (69, false)⟩,
   ⟨some 73, (Op.fieldAddr 34 (Operand.tmp 72) 1), 0, some (69, false)⟩,
   ⟨some 74, (Op.load 3 (Operand.tmp 73)), 3, some (69, false)⟩,
   ⟨some 75, (Op.move (Operand.tmp 7)), 22, some (69, false)⟩,
   ⟨some 76, (Op.move (Operand.tmp 10)), 3, some (69, false)⟩,
   ⟨some 77, (Op.indexAddr 22 (Operand.tmp 75) (Operand.tmp 76)), 0, some (69, false)⟩,
   ⟨some 78, (Op.fieldAddr 34 (Operand.tmp 77) 0), 0, some (69, false)⟩,
   ⟨some 79, (Op.load 3 (Operand.tmp 78)), 3, some (69, false)⟩,
   ⟨some 80, (Op.binOp BinOp.leq 3 (Operand.tmp 74) (Operand.tmp 79) 3), 4, some (69, false)⟩,
   ⟨some 81, (Op.pick (Operand.tmp 69) (Operand.const (Value.bool true)) (Operand.tmp 80)), 4, none⟩,
   ⟨some 82, (Op.move (Operand.tmp 81)), 4, none⟩,
   ⟨some 83, (Op.move (Operand.tmp 7)), 22, some (82, false)⟩,
   ⟨some 84, (Op.move (Operand.tmp 10)), 3, some (82, false)⟩,
   ⟨some 85, (Op.indexAddr 22 (Operand.tmp 83) (Operand.tmp 84)), 0, some (82, false)⟩,
   ⟨some 86, (Op.fieldAddr 34 (Operand.tmp 85) 1), 0, some (82, false)⟩,
   ⟨some 87, (Op.load 3 (Operand.tmp 86)), 3, some (82, false)⟩,
   ⟨some 88, (Op.move (Operand.tmp 7)), 22, some (82, false)⟩,
   ⟨some 89, (Op.move (Operand.tmp 10)), 3, some (82, false)⟩,
   ⟨some 90, (Op.indexAddr 22 (Operand.tmp 88) (Operand.tmp 89)), 0, some (82, false)⟩,
   ⟨some 91, (Op.fieldAddr 34 (Operand.tmp 90) 0), 0, some (82, false)⟩,
   ⟨some 92, (Op.load 3 (Operand.tmp 91)), 3, some (82, false)⟩,
   ⟨some 93, (Op.binOp BinOp.sub 3 (Operand.tmp 87) (Operand.tmp 92) 3), 3, some (82, false)⟩,
   ⟨some 94, (Op.move (Operand.tmp 2)), 3, some (82, false)⟩,
   ⟨some 95, (Op.binOp BinOp.gtr 3 (Operand.tmp 93) (Operand.tmp 94) 3), 4, some (82, false)⟩,
   ⟨some 96, (Op.pick (Operand.tmp 82) (Operand.const (Value.bool true)) (Operand.tmp 95)), 4, none⟩,
   ⟨some 97, (Op.move (Operand.tmp 96)), 4, none⟩,
   ⟨some 98, (Op.move (Operand.tmp 11)), 3, some (97, false)⟩,
   ⟨some 99, (Op.move (Operand.tmp 13)), 3, some (97, false)⟩,
   ⟨some 100, (Op.binOp BinOp.neq 3 (Operand.tmp 98) (Operand.tmp 99) 3), 4, some (97, false)⟩,
   ⟨some 101, (Op.pick (Operand.tmp 97) (Operand.const (Value.bool true)) (Operand.tmp 100)), 4, none⟩,
   ⟨some 102, (Op.move (Operand.tmp 101)), 4, none⟩,
   ⟨some 103, (Op.move (Operand.tmp 10)), 3, some (102, false)⟩,
   ⟨some 104, (Op.binOp BinOp.gtr 3 (Operand.tmp 103) (Operand.const (Value.int IntKind.i64 0)) 3), 4, some (102, false)⟩,
   ⟨some 105, (Op.move (Operand.tmp 104)), 4, some (102, false)⟩,
   ⟨some 106, (Op.move (Operand.tmp 7)), 22, some (105, true)⟩,
   ⟨some 107, (Op.move (Operand.tmp 10)), 3, some (105, true)⟩,
   ⟨some 108, (Op.indexAddr 22 (Operand.tmp 106) (Operand.tmp 107)), 0, some (105, true)⟩,
   ⟨some 109, (Op.fieldAddr 34 (Operand.tmp 108) 0), 0, some (105, true)⟩,
   ⟨some 110, (Op.load 3 (Operand.tmp 109)), 3, some (105, true)⟩,
   ⟨some 111, (Op.move (Operand.tmp 2)), 3, some (105, true)⟩,
   ⟨some 112, (Op.call { callee := (Callee.value (Operand.func 22)), args := #[(Operand.tmp 110), (Operand.tmp 111)], argTypes := #[3, 3] }), 4, some (105, true)⟩,
   ⟨some 113, (Op.unOp UnOp.not 4 (Operand.tmp 112)), 4, some (105, true)⟩,
   ⟨some 114, (Op.pick (Operand.tmp 105) (Operand.tmp 113) (Operand.const (Value.bool false))), 4, some (102, false)⟩,
   ⟨some 115, (Op.pick (Operand.tmp 102) (Operand.const (Value.bool true)) (Operand.tmp 114)), 4, none⟩]
def r7_11 : List VOp :=
  [⟨some 6, (Op.assign (Operand.const (Value.bool false))), 4, none⟩]
def r7_12 : List VOp :=
  [⟨some 116, (Op.move (Operand.tmp 7)), 22, none⟩,
   ⟨some 117, (Op.move (Operand.tmp 10)), 3, none⟩,
   ⟨some 118, (Op.indexAddr 22 (Operand.tmp 116) (Operand.tmp 117)), 0, none⟩,
   ⟨some 119, (Op.fieldAddr 34 (Operand.tmp 118) 1), 0, none⟩,
   ⟨some 120, (Op.load 3 (Operand.tmp 119)), 3, none⟩,
   ⟨some 9, (Op.assign (Operand.tmp 120)), 3, none⟩]
def r7_7 : List VOp :=
  [⟨some 39, (Op.move (Operand.tmp 10)), 3, none⟩,
   ⟨some 40, (Op.binOp BinOp.add 3 (Operand.tmp 39) (Operand.const (Value.int IntKind.i64 1)) 3), 3, none⟩,
   ⟨some 10, (Op.assign (Operand.tmp 40)), 3, none⟩]
def r7_13 : List VOp :=
  [⟨some 121, (Op.call { callee := (Callee.value (Operand.func 15)), args := #[], argTypes := #[] }), 4, none⟩,
   ⟨some 122, (Op.move (Operand.tmp 121)), 4, none⟩,
   ⟨some 123, (Op.move (Operand.tmp 7)), 22, some (122, true)⟩,
   ⟨some 124, (Op.call { callee := (Callee.builtin Builtin.len), args := #[(Operand.tmp 123)], argTypes := #[22] }), 3, some (122, true)⟩,
   ⟨some 125, (Op.binOp BinOp.eql 3 (Operand.tmp 124) (Operand.const (Value.int IntKind.i64 1000)) 3), 4, some (122, true)⟩,
   ⟨some 126, (Op.move (Operand.tmp 125)), 4, some (122, true)⟩,
   ⟨some 127, (Op.move (Operand.tmp 9)), 3, some (126, false)⟩,
   ⟨some 128, (Op.move (Operand.tmp 0)), 3, some (126, false)⟩,
   ⟨some 129, (Op.move (Operand.tmp 1)), 3, some (126, false)⟩,
   ⟨some 130, (Op.call { callee := (Callee.builtin Builtin.max), args := #[(Operand.tmp 128), (Operand.tmp 129)], argTypes := #[3, 3] }), 3, some (126, false)⟩,
   ⟨some 131, (Op.binOp BinOp.eql 3 (Operand.tmp 127) (Operand.tmp 130) 3), 4, some (126, false)⟩,
   ⟨some 132, (Op.pick (Operand.tmp 126) (Operand.const (Value.bool true)) (Operand.tmp 131)), 4, some (122, true)⟩,
   ⟨some 133, (Op.pick (Operand.tmp 122) (Operand.tmp 132) (Operand.const (Value.bool false))), 4, none⟩,
   ⟨some 134, (Op.move (Operand.tmp 133)), 4, none⟩,
   ⟨some 135, (Op.move (Operand.tmp 7)), 22, some (134, true)⟩,
   ⟨some 136, (Op.call { callee := (Callee.builtin Builtin.len), args := #[(Operand.tmp 135)], argTypes := #[22] }), 3, some (134, true)⟩,
   ⟨some 137, (Op.binOp BinOp.gtr 3 (Operand.tmp 136) (Operand.const (Value.int IntKind.i64 0)) 3), 4, some (134, true)⟩,
   ⟨some 138, (Op.move (Operand.tmp 1)), 3, some (134, true)⟩,
   ⟨some 139, (Op.move (Operand.tmp 0)), 3, some (134, true)⟩,
   ⟨some 140, (Op.binOp BinOp.gtr 3 (Operand.tmp 138) (Operand.tmp 139) 3), 4, some (134, true)⟩,
   ⟨some 141, (Op.binOp BinOp.eql 4 (Operand.tmp 137) (Operand.tmp 140) 4), 4, some (134, true)⟩,
   ⟨some 142, (Op.pick (Operand.tmp 134) (Operand.tmp 141) (Operand.const (Value.bool false))), 4, none⟩,
   ⟨some 6, (Op.assign (Operand.tmp 142)), 4, none⟩]
def B7 : VC :=
  (.seq (.region r7_0) (.seq (.region r7_1) (.seq (.seq (.region r7_2) (.cond (Operand.tmp 23) (.seq (.region r7_3) .ret) .skip)) (.seq (.region r7_4) (.seq (.seq (.region r7_5) (.block 0 (.loop (.seq (.seq (.region r7_6) (.cond (Operand.tmp 38) .skip (.exit 0))) (.seq (.block 1 (.seq (.region r7_8) (.seq (.region r7_9) (.seq (.seq (.draw r7_10 5) (.cond (Operand.tmp 115) (.seq (.region r7_11) .ret) .skip)) (.region r7_12))))) (.region r7_7)))))) (.seq (.region r7_13) .ret))))))
theorem code7 : ∃ c, Try.f7.body = some c ∧ abs Try.f7.ntmps c = B7 := ⟨_, rfl, by kernel_rfl⟩
theorem hb7 : HasBody Try.prog 7 := hasBody_of Try.func7 (by kernel_rfl)
theorem res7 : Try.f7.results = #[(ResultVar.tmp 6)] := rfl
theorem enter7 {w : World} {R : Value → World → Prop} (x0 x1 x2 : Value) (h : vc Try.prog B7 (retK Try.prog #[(ResultVar.tmp 6)] R) [] (initEnv [x0, x1, x2] 0) w) : FnC Try.prog 7 #[x0, x1, x2] w R := by
  obtain ⟨c, h1, h2⟩ := code7
  exact hb7.fn (ret_of_vc mixed Try.func7 h1 (Nat.le_of_ble_eq_true rfl) B7 h2 h)
@[push_cast] theorem vr7_0 (Q : Post) (ds : List Deferred) (σ : Env) (w : World) : vc Try.prog (.region r7_0) Q ds σ w = vcOps Try.prog [⟨some 6, (Op.assign (Operand.const (Value.bool false))), 4, none⟩] (Q .normal ds) σ w := mk_eq rfl
@[push_cast] theorem vr7_1 (Q : Post) (ds : List Deferred) (σ : Env) (w : World) : vc Try.prog (.region r7_1) Q ds σ w = vcOps Try.prog [⟨some 16, (Op.move (Operand.tmp 0)), 3, none⟩, ⟨some 17, (Op.move (Operand.tmp 1)), 3, none⟩, ⟨some 18, (Op.move (Operand.tmp 2)), 3, none⟩, ⟨some 19, (Op.call { callee := (Callee.value (Operand.func 13)), args := #[(Operand.tmp 16), (Operand.tmp 17), (Operand.tmp 18)], argTypes := #[3, 3, 3] }), 24, none⟩, ⟨some 15, (Op.move (Operand.tmp 19)), 24, none⟩, ⟨some 20, (Op.extract (Operand.tmp 15) 0), 22, none⟩, ⟨some 21, (Op.extract (Operand.tmp 15) 1), 23, none⟩, ⟨some 7, (Op.assign (Operand.tmp 20)), 22, none⟩, ⟨some 8, (Op.assign (Operand.tmp 21)), 23, none⟩] (Q .normal ds) σ w := mk_eq rfl
@[push_cast] theorem vr7_2 (Q : Post) (ds : List Deferred) (σ : Env) (w : World) : vc Try.prog (.region r7_2) Q ds σ w = vcOps Try.prog [⟨some 22, (Op.move (Operand.tmp 8)), 23, none⟩, ⟨some 23, (Op.binOp BinOp.neq 23 (Operand.tmp 22) (Operand.const (Value.int IntKind.i64 0)) 23), 4, none⟩] (Q .normal ds) σ w := mk_eq rfl
@[push_cast] theorem vr7_3 (Q : Post) (ds : List Deferred) (σ : Env) (w : World) : vc Try.prog (.region r7_3) Q ds σ w = vcOps Try.prog [⟨some 24, (Op.call { callee := (Callee.value (Operand.func 15)), args := #[], argTypes := #[] }), 4, none⟩, ⟨some 25, (Op.move (Operand.tmp 24)), 4, none⟩, ⟨some 26, (Op.move (Operand.tmp 8)), 23, some (25, true)⟩, ⟨some 27, (Op.binOp BinOp.eql 23 (Operand.tmp 26) (Operand.const (Value.int IntKind.i64 111)) 23), 4, some (25, true)⟩, ⟨some 28, (Op.pick (Operand.tmp 25) (Operand.tmp 27) (Operand.const (Value.bool false))), 4, none⟩, ⟨some 29, (Op.move (Operand.tmp 28)), 4, none⟩, ⟨some 30, (Op.move (Operand.tmp 7)), 22, some (29, true)⟩, ⟨some 31, (Op.call { callee := (Callee.builtin Builtin.len), args := #[(Operand.tmp 30)], argTypes := #[22] }), 3, some (29, true)⟩, ⟨some 32, (Op.binOp BinOp.eql 3 (Operand.tmp 31) (Operand.const (Value.int IntKind.i64 0)) 3), 4, some (29, true)⟩, ⟨some 33, (Op.pick (Operand.tmp 29) (Operand.tmp 32) (Operand.const (Value.bool false))), 4, none⟩, ⟨some 6, (Op.assign (Operand.tmp 33)), 4, none⟩] (Q .normal ds) σ w := mk_eq rfl
@[push_cast] theorem vr7_4 (Q : Post) (ds : List Deferred) (σ : Env) (w : World) : vc Try.prog (.region r7_4) Q ds σ w = vcOps Try.prog [⟨some 34, (Op.move (Operand.tmp 0)), 3, none⟩, ⟨some 9, (Op.assign (Operand.tmp 34)), 3, none⟩] (Q .normal ds) σ w := mk_eq rfl
@[push_cast] theorem vr7_5 (Q : Post) (ds : List Deferred) (σ : Env) (w : World) : vc Try.prog (.region r7_5) Q ds σ w = vcOps Try.prog [⟨some 10, (Op.assign (Operand.const (Value.int IntKind.i64 0))), 3, none⟩] (Q .normal ds) σ w := mk_eq rfl
@[push_cast] theorem vr7_6 (Q : Post) (ds : List Deferred) (σ : Env) (w : World) : vc Try.prog (.region r7_6) Q ds σ w = vcOps Try.prog [⟨some 35, (Op.move (Operand.tmp 10)), 3, none⟩, ⟨some 36, (Op.move (Operand.tmp 7)), 22, none⟩, ⟨some 37, (Op.call { callee := (Callee.builtin Builtin.len), args := #[(Operand.tmp 36)], argTypes := #[22] }), 3, none⟩, ⟨some 38, (Op.binOp BinOp.lss 3 (Operand.tmp 35) (Operand.tmp 37) 3), 4, none⟩] (Q .normal ds) σ w := mk_eq rfl
@[push_cast] theorem vr7_8 (Q : Post) (ds : List Deferred) (σ : Env) (w : World) : vc Try.prog (.region r7_8) Q ds σ w = vcOps Try.prog [⟨some 42, (Op.move (Operand.tmp 7)), 22, none⟩, ⟨some 43, (Op.move (Operand.tmp 10)), 3, none⟩, ⟨some 44, (Op.indexAddr 22 (Operand.tmp 42) (Operand.tmp 43)), 0, none⟩, ⟨some 45, (Op.fieldAddr 34 (Operand.tmp 44) 0), 0, none⟩, ⟨some 46, (Op.load 3 (Operand.tmp 45)), 3, none⟩, ⟨some 47, (Op.move (Operand.tmp 2)), 3, none⟩, ⟨some 48, (Op.call { callee := (Callee.value (Operand.func 18)), args := #[(Operand.tmp 46), (Operand.tmp 47)], argTypes := #[3, 3] }), 30, none⟩, ⟨some 41, (Op.move (Operand.tmp 48)), 30, none⟩, ⟨some 49, (Op.extract (Operand.tmp 41) 0), 3, none⟩, ⟨some 50, (Op.extract (Operand.tmp 41) 1), 23, none⟩, ⟨some 11, (Op.assign (Operand.tmp 49)), 3, none⟩, ⟨some 12, (Op.assign (Operand.tmp 50)), 23, none⟩] (Q .normal ds) σ w := mk_eq rfl
@[push_cast] theorem vr7_9 (Q : Post) (ds : List Deferred) (σ : Env) (w : World) : vc Try.prog (.region r7_9) Q ds σ w = vcOps Try.prog [⟨some 52, (Op.move (Operand.tmp 7)), 22, none⟩, ⟨some 53, (Op.move (Operand.tmp 10)), 3, none⟩, ⟨some 54, (Op.indexAddr 22 (Operand.tmp 52) (Operand.tmp 53)), 0, none⟩, ⟨some 55, (Op.fieldAddr 34 (Operand.tmp 54) 1), 0, none⟩, ⟨some 56, (Op.load 3 (Operand.tmp 55)), 3, none⟩, ⟨some 57, (Op.binOp BinOp.sub 3 (Operand.tmp 56) (Operand.const (Value.int IntKind.i64 1)) 3), 3, none⟩, ⟨some 58, (Op.move (Operand.tmp 2)), 3, none⟩, ⟨some 59, (Op.call { callee := (Callee.value (Operand.func 18)), args := #[(Operand.tmp 57), (Operand.tmp 58)], argTypes := #[3, 3] }), 30, none⟩, ⟨some 51, (Op.move (Operand.tmp 59)), 30, none⟩, ⟨some 60, (Op.extract (Operand.tmp 51) 0), 3, none⟩, ⟨some 61, (Op.extract (Operand.tmp 51) 1), 23, none⟩, ⟨some 13, (Op.assign (Operand.tmp 60)), 3, none⟩, ⟨some 14, (Op.assign (Operand.tmp 61)), 23, none⟩] (Q .normal ds) σ w := mk_eq rfl
@[push_cast] theorem vr7_10 (Q : Post) (ds : List Deferred) (σ : Env) (w : World) : vc Try.prog (.draw r7_10 5) Q ds σ w = drawn Try.prog [(⟨some 62, (Op.move (Operand.tmp 7)), 22, none⟩, [7]), (⟨some 63, (Op.move (Operand.tmp 10)), 3, none⟩, [10]), (⟨some 64, (Op.indexAddr 22 (Operand.tmp 62) (Operand.tmp 63)), 0, none⟩, [62, 63]), (⟨some 65, (Op.fieldAddr 34 (Operand.tmp 64) 0), 0, none⟩, [64]), (⟨some 66, (Op.load 3 (Operand.tmp 65)), 3, none⟩, [65]), (⟨some 67, (Op.move (Operand.tmp 9)), 3, none⟩, [9]), (⟨some 68, (Op.binOp BinOp.neq 3 (Operand.tmp 66) (Operand.tmp 67) 3), 4, none⟩, [66, 67]), (⟨some 69, (Op.move (Operand.tmp 68)), 4, none⟩, [68]), (⟨some 70, (Op.move (Operand.tmp 7)), 22, some (69, false)⟩, [7, 69]), (⟨some 71, (Op.move (Operand.tmp 10)), 3, some (69, false)⟩, [10, 69]), (⟨some 72, (Op.indexAddr 22 (Operand.tmp 70) (Operand.tmp 71)), 0, some (69, false)⟩, [70, 71, 69]), (⟨some 73, (Op.fieldAddr 34 (Operand.tmp 72) 1), 0, some (69, false)⟩, [72, 69]), (⟨some 74, (Op.load 3 (Operand.tmp 73)), 3, some (69, false)⟩, [73, 69]), (⟨some 75, (Op.move (Operand.tmp 7)), 22, some (69, false)⟩, [7, 69]), (⟨some 76, (Op.move (Operand.tmp 10)), 3, some (69, false)⟩, [10, 69]), (⟨some 77, (Op.indexAddr 22 (Operand.tmp 75) (Operand.tmp 76)), 0, some (69, false)⟩, [75, 76, 69]), (⟨some 78, (Op.fieldAddr 34 (Operand.tmp 77) 0), 0, some (69, false)⟩, [77, 69]), (⟨some 79, (Op.load 3 (Operand.tmp 78)), 3, some (69, false)⟩, [78, 69]), (⟨some 80, (Op.binOp BinOp.leq 3 (Operand.tmp 74) (Operand.tmp 79) 3), 4, some (69, false)⟩, [74, 79, 69]), (⟨some 81, (Op.pick (Operand.tmp 69) (Operand.const (Value.bool true)) (Operand.tmp 80)), 4, none⟩, [69, 80]), (⟨some 82, (Op.move (Operand.tmp 81)), 4, none⟩, [81]), (⟨some 83, (Op.move (Operand.tmp 7)), 22, some (82, false)⟩, [7, 82]), (⟨some 84, (Op.move (Operand.tmp 10)), 3, some (82, false)⟩, [10, 82]), (⟨some 85, (Op.indexAddr 22 (Operand.tmp 83) (Operand.tmp 84)), 0, some (82, false)⟩, [83, 84, 82]), (⟨some 86, (Op.fieldAddr 34 (Operand.tmp 85) 1), 0, some (82, false)⟩, [85, 82]), (⟨some 87, (Op.load 3 (Operand.tmp 86)), 3, some (82, false)⟩, [86, 82]), (⟨some 88, (Op.move (Operand.tmp 7)), 22, some (82, false)⟩, [7, 82]), (⟨some 89, (Op.move (Operand.tmp 10)), 3, some (82, false)⟩, [10, 82]), (⟨some 90, (Op.indexAddr 22 (Operand.tmp 88) (Operand.tmp 89)), 0, some (82, false)⟩, [88, 89, 82]), (⟨some 91, (Op.fieldAddr 34 (Operand.tmp 90) 0), 0, some (82, false)⟩, [90, 82]), (⟨some 92, (Op.load 3 (Operand.tmp 91)), 3, some (82, false)⟩, [91, 82]), (⟨some 93, (Op.binOp BinOp.sub 3 (Operand.tmp 87) (Operand.tmp 92) 3), 3, some (82, false)⟩, [87, 92, 82]), (⟨some 94, (Op.move (Operand.tmp 2)), 3, some (82, false)⟩, [2, 82]), (⟨some 95, (Op.binOp BinOp.gtr 3 (Operand.tmp 93) (Operand.tmp 94) 3), 4, some (82, false)⟩, [93, 94, 82]), (⟨some 96, (Op.pick (Operand.tmp 82) (Operand.const (Value.bool true)) (Operand.tmp 95)), 4, none⟩, [82, 95]), (⟨some 97, (Op.move (Operand.tmp 96)), 4, none⟩, [96]), (⟨some 98, (Op.move (Operand.tmp 11)), 3, some (97, false)⟩, [11, 97]), (⟨some 99, (Op.move (Operand.tmp 13)), 3, some (97, false)⟩, [13, 97]), (⟨some 100, (Op.binOp BinOp.neq 3 (Operand.tmp 98) (Operand.tmp 99) 3), 4, some (97, false)⟩, [98, 99, 97]), (⟨some 101, (Op.pick (Operand.tmp 97) (Operand.const (Value.bool true)) (Operand.tmp 100)), 4, none⟩, [97, 100]), (⟨some 102, (Op.move (Operand.tmp 101)), 4, none⟩, [101]), (⟨some 103, (Op.move (Operand.tmp 10)), 3, some (102, false)⟩, [10, 102]), (⟨some 104, (Op.binOp BinOp.gtr 3 (Operand.tmp 103) (Operand.const (Value.int IntKind.i64 0)) 3), 4, some (102, false)⟩, [103, 102]), (⟨some 105, (Op.move (Operand.tmp 104)), 4, some (102, false)⟩, [104, 102]), (⟨some 106, (Op.move (Operand.tmp 7)), 22, some (105, true)⟩, [7, 105]), (⟨some 107, (Op.move (Operand.tmp 10)), 3, some (105, true)⟩, [10, 105]), (⟨some 108, (Op.indexAddr 22 (Operand.tmp 106) (Operand.tmp 107)), 0, some (105, true)⟩, [106, 107, 105]), (⟨some 109, (Op.fieldAddr 34 (Operand.tmp 108) 0), 0, some (105, true)⟩, [108, 105]), (⟨some 110, (Op.load 3 (Operand.tmp 109)), 3, some (105, true)⟩, [109, 105]), (⟨some 111, (Op.move (Operand.tmp 2)), 3, some (105, true)⟩, [2, 105]), (⟨some 112, (Op.call { callee := (Callee.value (Operand.func 22)), args := #[(Operand.tmp 110), (Operand.tmp 111)], argTypes := #[3, 3] }), 4, some (105, true)⟩, [110, 111, 105]), (⟨some 113, (Op.unOp UnOp.not 4 (Operand.tmp 112)), 4, some (105, true)⟩, [112, 105]), (⟨some 114, (Op.pick (Operand.tmp 105) (Operand.tmp 113) (Operand.const (Value.bool false))), 4, some (102, false)⟩, [105, 113, 102]), (⟨some 115, (Op.pick (Operand.tmp 102) (Operand.const (Value.bool true)) (Operand.tmp 114)), 4, none⟩, [102, 114])] 5 (Q .normal ds) σ w := mk_eq rfl
@[push_cast] theorem vr7_11 (Q : Post) (ds : List Deferred) (σ : Env) (w : World) : vc Try.prog (.region r7_11) Q ds σ w = vcOps Try.prog [⟨some 6, (Op.assign (Operand.const (Value.bool false))), 4, none⟩] (Q .normal ds) σ w := mk_eq rfl
@[push_cast] theorem vr7_12 (Q : Post) (ds : List Deferred) (σ : Env) (w : World) : vc Try.prog (.region r7_12) Q ds σ w = vcOps Try.prog [⟨some 116, (Op.move (Operand.tmp 7)), 22, none⟩, ⟨some 117, (Op.move (Operand.tmp 10)), 3, none⟩, ⟨some 118, (Op.indexAddr 22 (Operand.tmp 116) (Operand.tmp 117)), 0, none⟩, ⟨some 119, (Op.fieldAddr 34 (Operand.tmp 118) 1), 0, none⟩, ⟨some 120, (Op.load 3 (Operand.tmp 119)), 3, none⟩, ⟨some 9, (Op.assign (Operand.tmp 120)), 3, none⟩] (Q .normal ds) σ w := mk_eq rfl
@[push_cast] theorem vr7_7 (Q : Post) (ds : List Deferred) (σ : Env) (w : World) : vc Try.prog (.region r7_7) Q ds σ w = vcOps Try.prog [⟨some 39, (Op.move (Operand.tmp 10)), 3, none⟩, ⟨some 40, (Op.binOp BinOp.add 3 (Operand.tmp 39) (Operand.const (Value.int IntKind.i64 1)) 3), 3, none⟩, ⟨some 10, (Op.assign (Operand.tmp 40)), 3, none⟩] (Q .normal ds) σ w := mk_eq rfl
@[push_cast] theorem vr7_13 (Q : Post) (ds : List Deferred) (σ : Env) (w : World) : vc Try.prog (.region r7_13) Q ds σ w = vcOps Try.prog [⟨some 121, (Op.call { callee := (Callee.value (Operand.func 15)), args := #[], argTypes := #[] }), 4, none⟩, ⟨some 122, (Op.move (Operand.tmp 121)), 4, none⟩, ⟨some 123, (Op.move (Operand.tmp 7)), 22, some (122, true)⟩, ⟨some 124, (Op.call { callee := (Callee.builtin Builtin.len), args := #[(Operand.tmp 123)], argTypes := #[22] }), 3, some (122, true)⟩, ⟨some 125, (Op.binOp BinOp.eql 3 (Operand.tmp 124) (Operand.const (Value.int IntKind.i64 1000)) 3), 4, some (122, true)⟩, ⟨some 126, (Op.move (Operand.tmp 125)), 4, some (122, true)⟩, ⟨some 127, (Op.move (Operand.tmp 9)), 3, some (126, false)⟩, ⟨some 128, (Op.move (Operand.tmp 0)), 3, some (126, false)⟩, ⟨some 129, (Op.move (Operand.tmp 1)), 3, some (126, false)⟩, ⟨some 130, (Op.call { callee := (Callee.builtin Builtin.max), args := #[(Operand.tmp 128), (Operand.tmp 129)], argTypes := #[3, 3] }), 3, some (126, false)⟩, ⟨some 131, (Op.binOp BinOp.eql 3 (Operand.tmp 127) (Operand.tmp 130) 3), 4, some (126, false)⟩, ⟨some 132, (Op.pick (Operand.tmp 126) (Operand.const (Value.bool true)) (Operand.tmp 131)), 4, some (122, true)⟩, ⟨some 133, (Op.pick (Operand.tmp 122) (Operand.tmp 132) (Operand.const (Value.bool false))), 4, none⟩, ⟨some 134, (Op.move (Operand.tmp 133)), 4, none⟩, ⟨some 135, (Op.move (Operand.tmp 7)), 22, some (134, true)⟩, ⟨some 136, (Op.call { callee := (Callee.builtin Builtin.len), args := #[(Operand.tmp 135)], argTypes := #[22] }), 3, some (134, true)⟩, ⟨some 137, (Op.binOp BinOp.gtr 3 (Operand.tmp 136) (Operand.const (Value.int IntKind.i64 0)) 3), 4, some (134, true)⟩, ⟨some 138, (Op.move (Operand.tmp 1)), 3, some (134, true)⟩, ⟨some 139, (Op.move (Operand.tmp 0)), 3, some (134, true)⟩, ⟨some 140, (Op.binOp BinOp.gtr 3 (Operand.tmp 138) (Operand.tmp 139) 3), 4, some (134, true)⟩, ⟨some 141, (Op.binOp BinOp.eql 4 (Operand.tmp 137) (Operand.tmp 140) 4), 4, some (134, true)⟩, ⟨some 142, (Op.pick (Operand.tmp 134) (Operand.tmp 141) (Operand.const (Value.bool false))), 4, none⟩, ⟨some 6, (Op.assign (Operand.tmp 142)), 4, none⟩] (Q .normal ds) σ w := mk_eq rfl
/-! 15 columbary/columbarylaw11.alive (params #[], results #[(ResultVar.tmp 0)], 48 slots) -/
def r15_0 : List VOp :=
  [⟨some 0, (Op.assign (Operand.const (Value.bool false))), 4, none⟩]
def r15_1 : List VOp :=
  [⟨some 8, (Op.call { callee := (Callee.value (Operand.func 18)), args := #[(Operand.const (Value.int IntKind.i64 (-7))), (Operand.const (Value.int IntKind.i64 5))], argTypes := #[3, 3] }), 30, none⟩,
   ⟨some 7, (Op.move (Operand.tmp 8)), 30, none⟩,
   ⟨some 9, (Op.extract (Operand.tmp 7) 0), 3, none⟩,
   ⟨some 10, (Op.extract (Operand.tmp 7) 1), 23, none⟩,
   ⟨some 1, (Op.assign (Operand.tmp 9)), 3, none⟩,
   ⟨some 2, (Op.assign (Operand.tmp 10)), 23, none⟩]
def r15_2 : List VOp :=
  [⟨some 12, (Op.call { callee := (Callee.value (Operand.func 19)), args := #[(Operand.const (Value.int IntKind.i64 (-7))), (Operand.const (Value.int IntKind.i64 5))], argTypes := #[3, 3] }), 30, none⟩,
   ⟨some 11, (Op.move (Operand.tmp 12)), 30, none⟩,
   ⟨some 13, (Op.extract (Operand.tmp 11) 0), 3, none⟩,
   ⟨some 14, (Op.extract (Operand.tmp 11) 1), 23, none⟩,
   ⟨some 3, (Op.assign (Operand.tmp 13)), 3, none⟩,
   ⟨some 4, (Op.assign (Operand.tmp 14)), 23, none⟩]
def r15_3 : List VOp :=
  [⟨some 16, (Op.call { callee := (Callee.value (Operand.func 13)), args := #[(Operand.const (Value.int IntKind.i64 3)), (Operand.const (Value.int IntKind.i64 11)), (Operand.const (Value.int IntKind.i64 5))], argTypes := #[3, 3, 3] }), 24, none⟩,
   ⟨some 15, (Op.move (Operand.tmp 16)), 24, none⟩,
   ⟨some 17, (Op.extract (Operand.tmp 15) 0), 22, none⟩,
   ⟨some 18, (Op.extract (Operand.tmp 15) 1), 23, none⟩,
   ⟨some 5, (Op.assign (Operand.tmp 17)), 22, none⟩,
   ⟨some 6, (Op.assign (Operand.tmp 18)), 23, none⟩]
def r15_4 : List VOp :=
  [⟨some 19, (Op.move (Operand.tmp 2)), 23, none⟩,
   ⟨some 20, (Op.binOp BinOp.eql 23 (Operand.tmp 19) (Operand.const (Value.int IntKind.i64 0)) 23), 4, none⟩,
   ⟨some 21, (Op.move (Operand.tmp 20)), 4, none⟩,
   ⟨some 22, (Op.move (Operand.tmp 4)), 23, some (21, true)⟩,
   ⟨some 23, (Op.binOp BinOp.eql 23 (Operand.tmp 22) (Operand.const (Value.int IntKind.i64 0)) 23), 4, some (21, true)⟩,
   ⟨some 24, (Op.pick (Operand.tmp 21) (Operand.tmp 23) (Operand.const (Value.bool false))), 4, none⟩,
   ⟨some 25, (Op.move (Operand.tmp 24)), 4, none⟩,
   ⟨some 26, (Op.move (Operand.tmp 6)), 23, some (25, true)⟩,
   ⟨some 27, (Op.binOp BinOp.eql 23 (Operand.tmp 26) (Operand.const (Value.int IntKind.i64 0)) 23), 4, some (25, true)⟩,
   ⟨some 28, (Op.pick (Operand.tmp 25) (Operand.tmp 27) (Operand.const (Value.bool false))), 4, none⟩,
   ⟨some 29, (Op.move (Operand.tmp 28)), 4, none⟩,
   ⟨some 30, (Op.move (Operand.tmp 1)), 3, some (29, true)⟩,
   ⟨some 31, (Op.binOp BinOp.eql 3 (Operand.tmp 30) (Operand.const (Value.int IntKind.i64 (-10))) 3), 4, some (29, true)⟩,
   ⟨some 32, (Op.pick (Operand.tmp 29) (Operand.tmp 31) (Operand.const (Value.bool false))), 4, none⟩,
   ⟨some 33, (Op.move (Operand.tmp 32)), 4, none⟩,
   ⟨some 34, (Op.move (Operand.tmp 3)), 3, some (33, true)⟩,
   ⟨some 35, (Op.binOp BinOp.eql 3 (Operand.tmp 34) (Operand.const (Value.int IntKind.i64 (-5))) 3), 4, some (33, true)⟩,
   ⟨some 36, (Op.pick (Operand.tmp 33) (Operand.tmp 35) (Operand.const (Value.bool false))), 4, none⟩,
   ⟨some 37, (Op.move (Operand.tmp 36)), 4, none⟩,
   ⟨some 38, (Op.move (Operand.tmp 5)), 22, some (37, true)⟩,
   ⟨some 39, (Op.build 34 #[(0, (Operand.const (Value.int IntKind.i64 3))), (1, (Operand.const (Value.int IntKind.i64 5)))]), 34, some (37, true)⟩,
   ⟨some 40, (Op.build 34 #[(0, (Operand.const (Value.int IntKind.i64 5))), (1, (Operand.const (Value.int IntKind.i64 10)))]), 34, some (37, true)⟩,
   ⟨some 41, (Op.build 34 #[(0, (Operand.const (Value.int IntKind.i64 10))), (1, (Operand.const (Value.int IntKind.i64 11)))]), 34, some (37, true)⟩,
   ⟨some 42, (Op.buildSlice 22 3 #[(0, (Operand.tmp 39)), (1, (Operand.tmp 40)), (2, (Operand.tmp 41))]), 22, some (37, true)⟩,
   ⟨some 43, (Op.call { callee := (Callee.value (Operand.func 16)), args := #[(Operand.tmp 38), (Operand.tmp 42)], argTypes := #[22, 22] }), 4, some (37, true)⟩,
   ⟨some 44, (Op.pick (Operand.tmp 37) (Operand.tmp 43) (Operand.const (Value.bool false))), 4, none⟩,
   ⟨some 45, (Op.move (Operand.tmp 44)), 4, none⟩,
   ⟨some 46, (Op.call { callee := (Callee.value (Operand.func 24)), args := #[(Operand.const (Value.int IntKind.i64 10)), (Operand.const (Value.int IntKind.i64 5))], argTypes := #[3, 3] }), 4, some (45, true)⟩,
   ⟨some 47, (Op.pick (Operand.tmp 45) (Operand.tmp 46) (Operand.const (Value.bool false))), 4, none⟩,
   ⟨some 0, (Op.assign (Operand.tmp 47)), 4, none⟩]
def B15 : VC :=
  (.seq (.region r15_0) (.seq (.region r15_1) (.seq (.region r15_2) (.seq (.region r15_3) (.seq (.region r15_4) .ret)))))
theorem code15 : ∃ c, Try.f15.body = some c ∧ abs Try.f15.ntmps c = B15 := ⟨_, rfl, by kernel_rfl⟩
theorem hb15 : HasBody Try.prog 15 := hasBody_of Try.func15 (by kernel_rfl)
theorem res15 : Try.f15.results = #[(ResultVar.tmp 0)] := rfl
theorem enter15 {w : World} {R : Value → World → Prop} (h : vc Try.prog B15 (retK Try.prog #[(ResultVar.tmp 0)] R) [] (initEnv [] 0) w) : FnC Try.prog 15 #[] w R := by
  obtain ⟨c, h1, h2⟩ := code15
  exact hb15.fn (ret_of_vc mixed Try.func15 h1 (Nat.le_of_ble_eq_true rfl) B15 h2 h)
@[push_cast] theorem vr15_0 (Q : Post) (ds : List Deferred) (σ : Env) (w : World) : vc Try.prog (.region r15_0) Q ds σ w = vcOps Try.prog [⟨some 0, (Op.assign (Operand.const (Value.bool false))), 4, none⟩] (Q .normal ds) σ w := mk_eq rfl
@[push_cast] theorem vr15_1 (Q : Post) (ds : List Deferred) (σ : Env) (w : World) : vc Try.prog (.region r15_1) Q ds σ w = vcOps Try.prog [⟨some 8, (Op.call { callee := (Callee.value (Operand.func 18)), args := #[(Operand.const (Value.int IntKind.i64 (-7))), (Operand.const (Value.int IntKind.i64 5))], argTypes := #[3, 3] }), 30, none⟩, ⟨some 7, (Op.move (Operand.tmp 8)), 30, none⟩, ⟨some 9, (Op.extract (Operand.tmp 7) 0), 3, none⟩, ⟨some 10, (Op.extract (Operand.tmp 7) 1), 23, none⟩, ⟨some 1, (Op.assign (Operand.tmp 9)), 3, none⟩, ⟨some 2, (Op.assign (Operand.tmp 10)), 23, none⟩] (Q .normal ds) σ w := mk_eq rfl
@[push_cast] theorem vr15_2 (Q : Post) (ds : List Deferred) (σ : Env) (w : World) : vc Try.prog (.region r15_2) Q ds σ w = vcOps Try.prog [⟨some 12, (Op.call { callee := (Callee.value (Operand.func 19)), args := #[(Operand.const (Value.int IntKind.i64 (-7))), (Operand.const (Value.int IntKind.i64 5))], argTypes := #[3, 3] }), 30, none⟩, ⟨some 11, (Op.move (Operand.tmp 12)), 30, none⟩, ⟨some 13, (Op.extract (Operand.tmp 11) 0), 3, none⟩, ⟨some 14, (Op.extract (Operand.tmp 11) 1), 23, none⟩, ⟨some 3, (Op.assign (Operand.tmp 13)), 3, none⟩, ⟨some 4, (Op.assign (Operand.tmp 14)), 23, none⟩] (Q .normal ds) σ w := mk_eq rfl
@[push_cast] theorem vr15_3 (Q : Post) (ds : List Deferred) (σ : Env) (w : World) : vc Try.prog (.region r15_3) Q ds σ w = vcOps Try.prog [⟨some 16, (Op.call { callee := (Callee.value (Operand.func 13)), args := #[(Operand.const (Value.int IntKind.i64 3)), (Operand.const (Value.int IntKind.i64 11)), (Operand.const (Value.int IntKind.i64 5))], argTypes := #[3, 3, 3] }), 24, none⟩, ⟨some 15, (Op.move (Operand.tmp 16)), 24, none⟩, ⟨some 17, (Op.extract (Operand.tmp 15) 0), 22, none⟩, ⟨some 18, (Op.extract (Operand.tmp 15) 1), 23, none⟩, ⟨some 5, (Op.assign (Operand.tmp 17)), 22, none⟩, ⟨some 6, (Op.assign (Operand.tmp 18)), 23, none⟩] (Q .normal ds) σ w := mk_eq rfl
@[push_cast] theorem vr15_4 (Q : Post) (ds : List Deferred) (σ : Env) (w : World) : vc Try.prog (.region r15_4) Q ds σ w = vcOps Try.prog [⟨some 19, (Op.move (Operand.tmp 2)), 23, none⟩, ⟨some 20, (Op.binOp BinOp.eql 23 (Operand.tmp 19) (Operand.const (Value.int IntKind.i64 0)) 23), 4, none⟩, ⟨some 21, (Op.move (Operand.tmp 20)), 4, none⟩, ⟨some 22, (Op.move (Operand.tmp 4)), 23, some (21, true)⟩, ⟨some 23, (Op.binOp BinOp.eql 23 (Operand.tmp 22) (Operand.const (Value.int IntKind.i64 0)) 23), 4, some (21, true)⟩, ⟨some 24, (Op.pick (Operand.tmp 21) (Operand.tmp 23) (Operand.const (Value.bool false))), 4, none⟩, ⟨some 25, (Op.move (Operand.tmp 24)), 4, none⟩, ⟨some 26, (Op.move (Operand.tmp 6)), 23, some (25, true)⟩, ⟨some 27, (Op.binOp BinOp.eql 23 (Operand.tmp 26) (Operand.const (Value.int IntKind.i64 0)) 23), 4, some (25, true)⟩, ⟨some 28, (Op.pick (Operand.tmp 25) (Operand.tmp 27) (Operand.const (Value.bool false))), 4, none⟩, ⟨some 29, (Op.move (Operand.tmp 28)), 4, none⟩, ⟨some 30, (Op.move (Operand.tmp 1)), 3, some (29, true)⟩, ⟨some 31, (Op.binOp BinOp.eql 3 (Operand.tmp 30) (Operand.const (Value.int IntKind.i64 (-10))) 3), 4, some (29, true)⟩, ⟨some 32, (Op.pick (Operand.tmp 29) (Operand.tmp 31) (Operand.const (Value.bool false))), 4, none⟩, ⟨some 33, (Op.move (Operand.tmp 32)), 4, none⟩, ⟨some 34, (Op.move (Operand.tmp 3)), 3, some (33, true)⟩, ⟨some 35, (Op.binOp BinOp.eql 3 (Operand.tmp 34) (Operand.const (Value.int IntKind.i64 (-5))) 3), 4, some (33, true)⟩, ⟨some 36, (Op.pick (Operand.tmp 33) (Operand.tmp 35) (Operand.const (Value.bool false))), 4, none⟩, ⟨some 37, (Op.move (Operand.tmp 36)), 4, none⟩, ⟨some 38, (Op.move (Operand.tmp 5)), 22, some (37, true)⟩, ⟨some 39, (Op.build 34 #[(0, (Operand.const (Value.int IntKind.i64 3))), (1, (Operand.const (Value.int IntKind.i64 5)))]), 34, some (37, true)⟩, ⟨some 40, (Op.build 34 #[(0, (Operand.const (Value.int IntKind.i64 5))), (1, (Operand.const (Value.int IntKind.i64 10)))]), 34, some (37, true)⟩, ⟨some 41, (Op.build 34 #[(0, (Operand.const (Value.int IntKind.i64 10))), (1, (Operand.const (Value.int IntKind.i64 11)))]), 34, some (37, true)⟩, ⟨some 42, (Op.buildSlice 22 3 #[(0, (Operand.tmp 39)), (1, (Operand.tmp 40)), (2, (Operand.tmp 41))]), 22, some (37, true)⟩, ⟨some 43, (Op.call { callee := (Callee.value (Operand.func 16)), args := #[(Operand.tmp 38), (Operand.tmp 42)], argTypes := #[22, 22] }), 4, some (37, true)⟩, ⟨some 44, (Op.pick (Operand.tmp 37) (Operand.tmp 43) (Operand.const (Value.bool false))), 4, none⟩, ⟨some 45, (Op.move (Operand.tmp 44)), 4, none⟩, ⟨some 46, (Op.call { callee := (Callee.value (Operand.func 24)), args := #[(Operand.const (Value.int IntKind.i64 10)), (Operand.const (Value.int IntKind.i64 5))], argTypes := #[3, 3] }), 4, some (45, true)⟩, ⟨some 47, (Op.pick (Operand.tmp 45) (Operand.tmp 46) (Operand.const (Value.bool false))), 4, none⟩, ⟨some 0, (Op.assign (Operand.tmp 47)), 4, none⟩] (Q .normal ds) σ w := mk_eq rfl
@[push_cast] theorem bsl22_3_CodesBL {K : Value → World → Prop} {w : World} (x00 x01 : Value) (x10 x11 : Value) (x20 x21 : Value) : vBuildSlice Try.prog 22 3 #[(0, (.agg #[x00, x01])), (1, (.agg #[x10, x11])), (2, (.agg #[x20, x21]))] K w = K (.slice (some ⟨w.heap.size, 0, none⟩) 3 3) (w.alloc (.cells #[x00, x01, x10, x11, x20, x21] 34)) :=
  vBuildSlice_ok Try.underlying22 ti34 (by kernel_rfl) (by decide)
@[push_cast] theorem bld34_0_1_CodesBL {K : Value → World → Prop} {w : World} (x0 : Int) (x1 : Int) : vBuild Try.prog 34 #[(0, (.int .i64 x0)), (1, (.int .i64 x1))] K w = K (.agg #[(.int .i64 x0), (.int .i64 x1)]) w :=
  vBuild_ok (by kernel_rfl)
end Go.Proofs.Ytdfdohajjgjbdaa
