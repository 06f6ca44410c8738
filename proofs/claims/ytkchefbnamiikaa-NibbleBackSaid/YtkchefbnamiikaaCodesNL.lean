/- The functions' code in the generator's form. Written by a program (codes.py) out of Lean's own print of the loaded translation. -/
import Derived.Test.YtkchefbnamiikaaTypes
namespace Go.Proofs.Ytkchefbnamiikaa
open Go.Vc
/-! 3 columbary/columbarylaw07.NibbleTells (params #[22, 3, 3], results #[(ResultVar.tmp 6)], 73 slots) -/
def r3_0 : List VOp :=
  [⟨some 6, (Op.assign (Operand.const (Value.bool false))), 4, none⟩]
def r3_1 : List VOp :=
  [⟨some 15, (Op.move (Operand.tmp 0)), 22, none⟩,
   ⟨some 16, (Op.call { callee := (Callee.builtin Builtin.len), args := #[(Operand.tmp 15)], argTypes := #[22] }), 3, none⟩,
   ⟨some 17, (Op.binOp BinOp.gtr 3 (Operand.tmp 16) (Operand.const (Value.int IntKind.i64 300)) 3), 4, none⟩]
def r3_2 : List VOp :=
  [⟨some 18, (Op.call { callee := (Callee.value (Operand.func 13)), args := #[], argTypes := #[] }), 4, none⟩,
   ⟨some 6, (Op.assign (Operand.tmp 18)), 4, none⟩]
def r3_3 : List VOp :=
  [⟨some 20, (Op.move (Operand.tmp 0)), 22, none⟩,
   ⟨some 21, (Op.move (Operand.tmp 1)), 3, none⟩,
   ⟨some 22, (Op.call { callee := (Callee.value (Operand.func 14)), args := #[(Operand.tmp 20), (Operand.tmp 21)], argTypes := #[22, 3] }), 26, none⟩,
   ⟨some 19, (Op.move (Operand.tmp 22)), 26, none⟩,
   ⟨some 23, (Op.extract (Operand.tmp 19) 0), 24, none⟩,
   ⟨some 24, (Op.extract (Operand.tmp 19) 1), 25, none⟩,
   ⟨some 7, (Op.assign (Operand.tmp 23)), 24, none⟩,
   ⟨some 8, (Op.assign (Operand.tmp 24)), 25, none⟩]
def r3_4 : List VOp :=
  [⟨some 26, (Op.move (Operand.tmp 0)), 22, none⟩,
   ⟨some 27, (Op.move (Operand.tmp 1)), 3, none⟩,
   ⟨some 28, (Op.call { callee := (Callee.value (Operand.func 15)), args := #[(Operand.tmp 26), (Operand.tmp 27)], argTypes := #[22, 3] }), 26, none⟩,
   ⟨some 25, (Op.move (Operand.tmp 28)), 26, none⟩,
   ⟨some 29, (Op.extract (Operand.tmp 25) 0), 24, none⟩,
   ⟨some 30, (Op.extract (Operand.tmp 25) 1), 25, none⟩,
   ⟨some 9, (Op.assign (Operand.tmp 29)), 24, none⟩,
   ⟨some 10, (Op.assign (Operand.tmp 30)), 25, none⟩]
def r3_5 : List VOp :=
  [⟨some 32, (Op.move (Operand.tmp 2)), 3, none⟩,
   ⟨some 33, (Op.move (Operand.tmp 1)), 3, none⟩,
   ⟨some 34, (Op.call { callee := (Callee.value (Operand.func 16)), args := #[(Operand.tmp 32), (Operand.tmp 33)], argTypes := #[3, 3] }), 28, none⟩,
   ⟨some 31, (Op.move (Operand.tmp 34)), 28, none⟩,
   ⟨some 35, (Op.extract (Operand.tmp 31) 0), 3, none⟩,
   ⟨some 36, (Op.extract (Operand.tmp 31) 1), 25, none⟩,
   ⟨some 11, (Op.assign (Operand.tmp 35)), 3, none⟩,
   ⟨some 12, (Op.assign (Operand.tmp 36)), 25, none⟩]
def r3_6 : List VOp :=
  [⟨some 38, (Op.move (Operand.tmp 2)), 3, none⟩,
   ⟨some 39, (Op.move (Operand.tmp 1)), 3, none⟩,
   ⟨some 40, (Op.call { callee := (Callee.value (Operand.func 17)), args := #[(Operand.tmp 38), (Operand.tmp 39)], argTypes := #[3, 3] }), 28, none⟩,
   ⟨some 37, (Op.move (Operand.tmp 40)), 28, none⟩,
   ⟨some 41, (Op.extract (Operand.tmp 37) 0), 3, none⟩,
   ⟨some 42, (Op.extract (Operand.tmp 37) 1), 25, none⟩,
   ⟨some 13, (Op.assign (Operand.tmp 41)), 3, none⟩,
   ⟨some 14, (Op.assign (Operand.tmp 42)), 25, none⟩]
def r3_7 : List VOp :=
  [⟨some 43, (Op.call { callee := (Callee.value (Operand.func 13)), args := #[], argTypes := #[] }), 4, none⟩,
   ⟨some 44, (Op.move (Operand.tmp 43)), 4, none⟩,
   ⟨some 45, (Op.move (Operand.tmp 0)), 22, some (44, true)⟩,
   ⟨some 46, (Op.call { callee := (Callee.value (Operand.func 18)), args := #[(Operand.tmp 45)], argTypes := #[22] }), 3, some (44, true)⟩,
   ⟨some 47, (Op.move (Operand.tmp 0)), 22, some (44, true)⟩,
   ⟨some 48, (Op.call { callee := (Callee.value (Operand.func 19)), args := #[(Operand.tmp 47)], argTypes := #[22] }), 3, some (44, true)⟩,
   ⟨some 49, (Op.binOp BinOp.eql 3 (Operand.tmp 46) (Operand.tmp 48) 3), 4, some (44, true)⟩,
   ⟨some 50, (Op.pick (Operand.tmp 44) (Operand.tmp 49) (Operand.const (Value.bool false))), 4, none⟩,
   ⟨some 51, (Op.move (Operand.tmp 50)), 4, none⟩,
   ⟨some 52, (Op.move (Operand.tmp 7)), 24, some (51, true)⟩,
   ⟨some 53, (Op.convert 24 9 (Operand.tmp 52)), 9, some (51, true)⟩,
   ⟨some 54, (Op.move (Operand.tmp 9)), 24, some (51, true)⟩,
   ⟨some 55, (Op.convert 24 9 (Operand.tmp 54)), 9, some (51, true)⟩,
   ⟨some 56, (Op.binOp BinOp.eql 9 (Operand.tmp 53) (Operand.tmp 55) 9), 4, some (51, true)⟩,
   ⟨some 57, (Op.pick (Operand.tmp 51) (Operand.tmp 56) (Operand.const (Value.bool false))), 4, none⟩,
   ⟨some 58, (Op.move (Operand.tmp 57)), 4, none⟩,
   ⟨some 59, (Op.move (Operand.tmp 8)), 25, some (58, true)⟩,
   ⟨some 60, (Op.move (Operand.tmp 10)), 25, some (58, true)⟩,
   ⟨some 61, (Op.binOp BinOp.eql 25 (Operand.tmp 59) (Operand.tmp 60) 25), 4, some (58, true)⟩,
   ⟨some 62, (Op.pick (Operand.tmp 58) (Operand.tmp 61) (Operand.const (Value.bool false))), 4, none⟩,
   ⟨some 63, (Op.move (Operand.tmp 62)), 4, none⟩,
   ⟨some 64, (Op.move (Operand.tmp 11)), 3, some (63, true)⟩,
   ⟨some 65, (Op.move (Operand.tmp 13)), 3, some (63, true)⟩,
   ⟨some 66, (Op.binOp BinOp.eql 3 (Operand.tmp 64) (Operand.tmp 65) 3), 4, some (63, true)⟩,
   ⟨some 67, (Op.pick (Operand.tmp 63) (Operand.tmp 66) (Operand.const (Value.bool false))), 4, none⟩,
   ⟨some 68, (Op.move (Operand.tmp 67)), 4, none⟩,
   ⟨some 69, (Op.move (Operand.tmp 12)), 25, some (68, true)⟩,
   ⟨some 70, (Op.move (Operand.tmp 14)), 25, some (68, true)⟩,
   ⟨some 71, (Op.binOp BinOp.eql 25 (Operand.tmp 69) (Operand.tmp 70) 25), 4, some (68, true)⟩,
   ⟨some 72, (Op.pick (Operand.tmp 68) (Operand.tmp 71) (Operand.const (Value.bool false))), 4, none⟩,
   ⟨some 6, (Op.assign (Operand.tmp 72)), 4, none⟩]
def B3 : VC :=
  (.seq (.region r3_0) (.seq (.seq (.region r3_1) (.cond (Operand.tmp 17) (.seq (.region r3_2) .ret) .skip)) (.seq (.region r3_3) (.seq (.region r3_4) (.seq (.region r3_5) (.seq (.region r3_6) (.seq (.region r3_7) .ret)))))))
theorem code3 : ∃ c, Try.f3.body = some c ∧ abs Try.f3.ntmps c = B3 := ⟨_, rfl, by kernel_rfl⟩
theorem hb3 : HasBody Try.prog 3 := hasBody_of Try.func3 (by kernel_rfl)
theorem res3 : Try.f3.results = #[(ResultVar.tmp 6)] := rfl
theorem enter3 {w : World} {R : Value → World → Prop} (x0 x1 x2 : Value) (h : vc Try.prog B3 (retK Try.prog #[(ResultVar.tmp 6)] R) [] (initEnv [x0, x1, x2] 0) w) : FnC Try.prog 3 #[x0, x1, x2] w R := by
  obtain ⟨c, h1, h2⟩ := code3
  exact hb3.fn (ret_of_vc mixed Try.func3 h1 (Nat.le_of_ble_eq_true rfl) B3 h2 h)
@[push_cast] theorem vr3_0 (Q : Post) (ds : List Deferred) (σ : Env) (w : World) : vc Try.prog (.region r3_0) Q ds σ w = vcOps Try.prog [⟨some 6, (Op.assign (Operand.const (Value.bool false))), 4, none⟩] (Q .normal ds) σ w := mk_eq rfl
@[push_cast] theorem vr3_1 (Q : Post) (ds : List Deferred) (σ : Env) (w : World) : vc Try.prog (.region r3_1) Q ds σ w = vcOps Try.prog [⟨some 15, (Op.move (Operand.tmp 0)), 22, none⟩, ⟨some 16, (Op.call { callee := (Callee.builtin Builtin.len), args := #[(Operand.tmp 15)], argTypes := #[22] }), 3, none⟩, ⟨some 17, (Op.binOp BinOp.gtr 3 (Operand.tmp 16) (Operand.const (Value.int IntKind.i64 300)) 3), 4, none⟩] (Q .normal ds) σ w := mk_eq rfl
@[push_cast] theorem vr3_2 (Q : Post) (ds : List Deferred) (σ : Env) (w : World) : vc Try.prog (.region r3_2) Q ds σ w = vcOps Try.prog [⟨some 18, (Op.call { callee := (Callee.value (Operand.func 13)), args := #[], argTypes := #[] }), 4, none⟩, ⟨some 6, (Op.assign (Operand.tmp 18)), 4, none⟩] (Q .normal ds) σ w := mk_eq rfl
@[push_cast] theorem vr3_3 (Q : Post) (ds : List Deferred) (σ : Env) (w : World) : vc Try.prog (.region r3_3) Q ds σ w = vcOps Try.prog [⟨some 20, (Op.move (Operand.tmp 0)), 22, none⟩, ⟨some 21, (Op.move (Operand.tmp 1)), 3, none⟩, ⟨some 22, (Op.call { callee := (Callee.value (Operand.func 14)), args := #[(Operand.tmp 20), (Operand.tmp 21)], argTypes := #[22, 3] }), 26, none⟩, ⟨some 19, (Op.move (Operand.tmp 22)), 26, none⟩, ⟨some 23, (Op.extract (Operand.tmp 19) 0), 24, none⟩, ⟨some 24, (Op.extract (Operand.tmp 19) 1), 25, none⟩, ⟨some 7, (Op.assign (Operand.tmp 23)), 24, none⟩, ⟨some 8, (Op.assign (Operand.tmp 24)), 25, none⟩] (Q .normal ds) σ w := mk_eq rfl
@[push_cast] theorem vr3_4 (Q : Post) (ds : List Deferred) (σ : Env) (w : World) : vc Try.prog (.region r3_4) Q ds σ w = vcOps Try.prog [⟨some 26, (Op.move (Operand.tmp 0)), 22, none⟩, ⟨some 27, (Op.move (Operand.tmp 1)), 3, none⟩, ⟨some 28, (Op.call { callee := (Callee.value (Operand.func 15)), args := #[(Operand.tmp 26), (Operand.tmp 27)], argTypes := #[22, 3] }), 26, none⟩, ⟨some 25, (Op.move (Operand.tmp 28)), 26, none⟩, ⟨some 29, (Op.extract (Operand.tmp 25) 0), 24, none⟩, ⟨some 30, (Op.extract (Operand.tmp 25) 1), 25, none⟩, ⟨some 9, (Op.assign (Operand.tmp 29)), 24, none⟩, ⟨some 10, (Op.assign (Operand.tmp 30)), 25, none⟩] (Q .normal ds) σ w := mk_eq rfl
@[push_cast] theorem vr3_5 (Q : Post) (ds : List Deferred) (σ : Env) (w : World) : vc Try.prog (.region r3_5) Q ds σ w = vcOps Try.prog [⟨some 32, (Op.move (Operand.tmp 2)), 3, none⟩, ⟨some 33, (Op.move (Operand.tmp 1)), 3, none⟩, ⟨some 34, (Op.call { callee := (Callee.value (Operand.func 16)), args := #[(Operand.tmp 32), (Operand.tmp 33)], argTypes := #[3, 3] }), 28, none⟩, ⟨some 31, (Op.move (Operand.tmp 34)), 28, none⟩, ⟨some 35, (Op.extract (Operand.tmp 31) 0), 3, none⟩, ⟨some 36, (Op.extract (Operand.tmp 31) 1), 25, none⟩, ⟨some 11, (Op.assign (Operand.tmp 35)), 3, none⟩, ⟨some 12, (Op.assign (Operand.tmp 36)), 25, none⟩] (Q .normal ds) σ w := mk_eq rfl
@[push_cast] theorem vr3_6 (Q : Post) (ds : List Deferred) (σ : Env) (w : World) : vc Try.prog (.region r3_6) Q ds σ w = vcOps Try.prog [⟨some 38, (Op.move (Operand.tmp 2)), 3, none⟩, ⟨some 39, (Op.move (Operand.tmp 1)), 3, none⟩, ⟨some 40, (Op.call { callee := (Callee.value (Operand.func 17)), args := #[(Operand.tmp 38), (Operand.tmp 39)], argTypes := #[3, 3] }), 28, none⟩, ⟨some 37, (Op.move (Operand.tmp 40)), 28, none⟩, ⟨some 41, (Op.extract (Operand.tmp 37) 0), 3, none⟩, ⟨some 42, (Op.extract (Operand.tmp 37) 1), 25, none⟩, ⟨some 13, (Op.assign (Operand.tmp 41)), 3, none⟩, ⟨some 14, (Op.assign (Operand.tmp 42)), 25, none⟩] (Q .normal ds) σ w := mk_eq rfl
@[push_cast] theorem vr3_7 (Q : Post) (ds : List Deferred) (σ : Env) (w : World) : vc Try.prog (.region r3_7) Q ds σ w = vcOps Try.prog [⟨some 43, (Op.call { callee := (Callee.value (Operand.func 13)), args := #[], argTypes := #[] }), 4, none⟩, ⟨some 44, (Op.move (Operand.tmp 43)), 4, none⟩, ⟨some 45, (Op.move (Operand.tmp 0)), 22, some (44, true)⟩, ⟨some 46, (Op.call { callee := (Callee.value (Operand.func 18)), args := #[(Operand.tmp 45)], argTypes := #[22] }), 3, some (44, true)⟩, ⟨some 47, (Op.move (Operand.tmp 0)), 22, some (44, true)⟩, ⟨some 48, (Op.call { callee := (Callee.value (Operand.func 19)), args := #[(Operand.tmp 47)], argTypes := #[22] }), 3, some (44, true)⟩, ⟨some 49, (Op.binOp BinOp.eql 3 (Operand.tmp 46) (Operand.tmp 48) 3), 4, some (44, true)⟩, ⟨some 50, (Op.pick (Operand.tmp 44) (Operand.tmp 49) (Operand.const (Value.bool false))), 4, none⟩, ⟨some 51, (Op.move (Operand.tmp 50)), 4, none⟩, ⟨some 52, (Op.move (Operand.tmp 7)), 24, some (51, true)⟩, ⟨some 53, (Op.convert 24 9 (Operand.tmp 52)), 9, some (51, true)⟩, ⟨some 54, (Op.move (Operand.tmp 9)), 24, some (51, true)⟩, ⟨some 55, (Op.convert 24 9 (Operand.tmp 54)), 9, some (51, true)⟩, ⟨some 56, (Op.binOp BinOp.eql 9 (Operand.tmp 53) (Operand.tmp 55) 9), 4, some (51, true)⟩, ⟨some 57, (Op.pick (Operand.tmp 51) (Operand.tmp 56) (Operand.const (Value.bool false))), 4, none⟩, ⟨some 58, (Op.move (Operand.tmp 57)), 4, none⟩, ⟨some 59, (Op.move (Operand.tmp 8)), 25, some (58, true)⟩, ⟨some 60, (Op.move (Operand.tmp 10)), 25, some (58, true)⟩, ⟨some 61, (Op.binOp BinOp.eql 25 (Operand.tmp 59) (Operand.tmp 60) 25), 4, some (58, true)⟩, ⟨some 62, (Op.pick (Operand.tmp 58) (Operand.tmp 61) (Operand.const (Value.bool false))), 4, none⟩, ⟨some 63, (Op.move (Operand.tmp 62)), 4, none⟩, ⟨some 64, (Op.move (Operand.tmp 11)), 3, some (63, true)⟩, ⟨some 65, (Op.move (Operand.tmp 13)), 3, some (63, true)⟩, ⟨some 66, (Op.binOp BinOp.eql 3 (Operand.tmp 64) (Operand.tmp 65) 3), 4, some (63, true)⟩, ⟨some 67, (Op.pick (Operand.tmp 63) (Operand.tmp 66) (Operand.const (Value.bool false))), 4, none⟩, ⟨some 68, (Op.move (Operand.tmp 67)), 4, none⟩, ⟨some 69, (Op.move (Operand.tmp 12)), 25, some (68, true)⟩, ⟨some 70, (Op.move (Operand.tmp 14)), 25, some (68, true)⟩, ⟨some 71, (Op.binOp BinOp.eql 25 (Operand.tmp 69) (Operand.tmp 70) 25), 4, some (68, true)⟩, ⟨some 72, (Op.pick (Operand.tmp 68) (Operand.tmp 71) (Operand.const (Value.bool false))), 4, none⟩, ⟨some 6, (Op.assign (Operand.tmp 72)), 4, none⟩] (Q .normal ds) σ w := mk_eq rfl
/-! 4 columbary/columbarylaw07.NibbleWidth (params #[22, 3], results #[(ResultVar.tmp 4)], 74 slots) -/
def W4_0 : List Nat := [9, 10, 31, 32, 33, 34, 35, 36, 37, 38, 39, 40, 41, 42]
@[push_cast] theorem W4_0_def : W4_0 = [9, 10, 31, 32, 33, 34, 35, 36, 37, 38, 39, 40, 41, 42] := mk_eq rfl
def r4_0 : List VOp :=
  [⟨some 4, (Op.assign (Operand.const (Value.bool false))), 4, none⟩]
def r4_1 : List VOp :=
  [⟨some 11, (Op.move (Operand.tmp 0)), 22, none⟩,
   ⟨some 12, (Op.call { callee := (Callee.builtin Builtin.len), args := #[(Operand.tmp 11)], argTypes := #[22] }), 3, none⟩,
   ⟨some 13, (Op.binOp BinOp.gtr 3 (Operand.tmp 12) (Operand.const (Value.int IntKind.i64 300)) 3), 4, none⟩]
def r4_2 : List VOp :=
  [⟨some 14, (Op.call { callee := (Callee.value (Operand.func 13)), args := #[], argTypes := #[] }), 4, none⟩,
   ⟨some 4, (Op.assign (Operand.tmp 14)), 4, none⟩]
def r4_3 : List VOp :=
  [⟨some 15, (Op.move (Operand.tmp 0)), 22, none⟩,
   ⟨some 16, (Op.call { callee := (Callee.value (Operand.func 18)), args := #[(Operand.tmp 15)], argTypes := #[22] }), 3, none⟩,
   ⟨some 5, (Op.assign (Operand.tmp 16)), 3, none⟩]
def r4_4 : List VOp :=
  [⟨some 18, (Op.move (Operand.tmp 0)), 22, none⟩,
   ⟨some 19, (Op.move (Operand.tmp 1)), 3, none⟩,
   ⟨some 20, (Op.call { callee := (Callee.value (Operand.func 14)), args := #[(Operand.tmp 18), (Operand.tmp 19)], argTypes := #[22, 3] }), 26, none⟩,
   ⟨some 17, (Op.move (Operand.tmp 20)), 26, none⟩,
   ⟨some 21, (Op.extract (Operand.tmp 17) 0), 24, none⟩,
   ⟨some 22, (Op.extract (Operand.tmp 17) 1), 25, none⟩,
   ⟨some 6, (Op.assign (Operand.tmp 21)), 24, none⟩,
   ⟨some 7, (Op.assign (Operand.tmp 22)), 25, none⟩]
def r4_5 : List VOp :=
  [⟨some 23, (Op.move (Operand.tmp 0)), 22, none⟩,
   ⟨some 24, (Op.call { callee := (Callee.builtin Builtin.len), args := #[(Operand.tmp 23)], argTypes := #[22] }), 3, none⟩,
   ⟨some 25, (Op.binOp BinOp.gtr 3 (Operand.tmp 24) (Operand.const (Value.int IntKind.i64 0)) 3), 4, none⟩,
   ⟨some 26, (Op.move (Operand.tmp 25)), 4, none⟩,
   ⟨some 27, (Op.move (Operand.tmp 5)), 3, some (26, true)⟩,
   ⟨some 28, (Op.binOp BinOp.gtr 3 (Operand.tmp 27) (Operand.const (Value.int IntKind.i64 0)) 3), 4, some (26, true)⟩,
   ⟨some 29, (Op.pick (Operand.tmp 26) (Operand.tmp 28) (Operand.const (Value.bool false))), 4, none⟩,
   ⟨some 8, (Op.assign (Operand.tmp 29)), 4, none⟩]
def r4_6 : List VOp :=
  [⟨some 30, (Op.move (Operand.tmp 8)), 4, none⟩]
def r4_7 : List VOp :=
  [⟨some 9, (Op.assign (Operand.const (Value.int IntKind.u64 0))), 32, none⟩]
def r4_8 : List VOp :=
  [⟨some 10, (Op.assign (Operand.const (Value.int IntKind.i64 0))), 3, none⟩]
def r4_9 : List VOp :=
  [⟨some 31, (Op.move (Operand.tmp 10)), 3, none⟩,
   ⟨some 32, (Op.move (Operand.tmp 0)), 22, none⟩,
   ⟨some 33, (Op.call { callee := (Callee.builtin Builtin.len), args := #[(Operand.tmp 32)], argTypes := #[22] }), 3, none⟩,
   ⟨some 34, (Op.binOp BinOp.lss 3 (Operand.tmp 31) (Operand.tmp 33) 3), 4, none⟩]
def r4_11 : List VOp :=
  [⟨some 37, (Op.move (Operand.tmp 9)), 32, none⟩,
   ⟨some 38, (Op.move (Operand.tmp 0)), 22, none⟩,
   ⟨some 39, (Op.move (Operand.tmp 10)), 3, none⟩,
   ⟨some 40, (Op.indexAddr 22 (Operand.tmp 38) (Operand.tmp 39)), 0, none⟩,
   ⟨some 41, (Op.load 32 (Operand.tmp 40)), 32, none⟩,
   ⟨some 42, (Op.call { callee := (Callee.builtin Builtin.max), args := #[(Operand.tmp 37), (Operand.tmp 41)], argTypes := #[32, 32] }), 32, none⟩,
   ⟨some 9, (Op.assign (Operand.tmp 42)), 32, none⟩]
def r4_10 : List VOp :=
  [⟨some 35, (Op.move (Operand.tmp 10)), 3, none⟩,
   ⟨some 36, (Op.binOp BinOp.add 3 (Operand.tmp 35) (Operand.const (Value.int IntKind.i64 1)) 3), 3, none⟩,
   ⟨some 10, (Op.assign (Operand.tmp 36)), 3, none⟩]
def r4_12 : List VOp :=
  [⟨some 43, (Op.move (Operand.tmp 9)), 32, none⟩,
   ⟨some 44, (Op.move (Operand.tmp 5)), 3, none⟩,
   ⟨some 45, (Op.binOp BinOp.sub 3 (Operand.tmp 44) (Operand.const (Value.int IntKind.i64 1)) 3), 3, none⟩,
   ⟨some 46, (Op.convert 3 33 (Operand.tmp 45)), 33, none⟩,
   ⟨some 47, (Op.binOp BinOp.shr 32 (Operand.tmp 43) (Operand.tmp 46) 33), 32, none⟩,
   ⟨some 48, (Op.binOp BinOp.neq 32 (Operand.tmp 47) (Operand.const (Value.int IntKind.u64 1)) 32), 4, none⟩]
def r4_13 : List VOp :=
  [⟨some 4, (Op.assign (Operand.const (Value.bool false))), 4, none⟩]
def r4_14 : List VOp :=
  [⟨some 49, (Op.call { callee := (Callee.value (Operand.func 13)), args := #[], argTypes := #[] }), 4, none⟩,
   ⟨some 50, (Op.move (Operand.tmp 49)), 4, none⟩,
   ⟨some 51, (Op.move (Operand.tmp 7)), 25, some (50, true)⟩,
   ⟨some 52, (Op.binOp BinOp.eql 25 (Operand.tmp 51) (Operand.const (Value.int IntKind.i64 0)) 25), 4, some (50, true)⟩,
   ⟨some 53, (Op.move (Operand.tmp 1)), 3, some (50, true)⟩,
   ⟨some 54, (Op.move (Operand.tmp 5)), 3, some (50, true)⟩,
   ⟨some 55, (Op.binOp BinOp.geq 3 (Operand.tmp 53) (Operand.tmp 54) 3), 4, some (50, true)⟩,
   ⟨some 56, (Op.move (Operand.tmp 55)), 4, some (50, true)⟩,
   ⟨some 57, (Op.move (Operand.tmp 1)), 3, some (56, true)⟩,
   ⟨some 58, (Op.binOp BinOp.geq 3 (Operand.tmp 57) (Operand.const (Value.int IntKind.i64 0)) 3), 4, some (56, true)⟩,
   ⟨some 59, (Op.pick (Operand.tmp 56) (Operand.tmp 58) (Operand.const (Value.bool false))), 4, some (50, true)⟩,
   ⟨some 60, (Op.move (Operand.tmp 59)), 4, some (50, true)⟩,
   ⟨some 61, (Op.move (Operand.tmp 1)), 3, some (60, true)⟩,
   ⟨some 62, (Op.binOp BinOp.leq 3 (Operand.tmp 61) (Operand.const (Value.int IntKind.i64 64)) 3), 4, some (60, true)⟩,
   ⟨some 63, (Op.pick (Operand.tmp 60) (Operand.tmp 62) (Operand.const (Value.bool false))), 4, some (50, true)⟩,
   ⟨some 64, (Op.binOp BinOp.eql 4 (Operand.tmp 52) (Operand.tmp 63) 4), 4, some (50, true)⟩,
   ⟨some 65, (Op.pick (Operand.tmp 50) (Operand.tmp 64) (Operand.const (Value.bool false))), 4, none⟩,
   ⟨some 66, (Op.move (Operand.tmp 65)), 4, none⟩,
   ⟨some 67, (Op.move (Operand.tmp 5)), 3, some (66, true)⟩,
   ⟨some 68, (Op.binOp BinOp.gtr 3 (Operand.tmp 67) (Operand.const (Value.int IntKind.i64 0)) 3), 4, some (66, true)⟩,
   ⟨some 69, (Op.move (Operand.tmp 68)), 4, some (66, true)⟩,
   ⟨some 70, (Op.move (Operand.tmp 8)), 4, some (69, false)⟩,
   ⟨some 71, (Op.unOp UnOp.not 4 (Operand.tmp 70)), 4, some (69, false)⟩,
   ⟨some 72, (Op.pick (Operand.tmp 69) (Operand.const (Value.bool true)) (Operand.tmp 71)), 4, some (66, true)⟩,
   ⟨some 73, (Op.pick (Operand.tmp 66) (Operand.tmp 72) (Operand.const (Value.bool false))), 4, none⟩,
   ⟨some 4, (Op.assign (Operand.tmp 73)), 4, none⟩]
def B4 : VC :=
  (.seq (.region r4_0) (.seq (.seq (.region r4_1) (.cond (Operand.tmp 13) (.seq (.region r4_2) .ret) .skip)) (.seq (.region r4_3) (.seq (.region r4_4) (.seq (.region r4_5) (.seq (.seq (.region r4_6) (.cond (Operand.tmp 30) (.seq (.region r4_7) (.seq (.seq (.region r4_8) (.block 0 (.loop (.seq (.seq (.region r4_9) (.cond (Operand.tmp 34) .skip (.exit 0))) (.seq (.block 1 (.region r4_11)) (.region r4_10)))))) (.seq (.region r4_12) (.cond (Operand.tmp 48) (.seq (.region r4_13) .ret) .skip)))) .skip)) (.seq (.region r4_14) .ret)))))))
theorem code4 : ∃ c, Try.f4.body = some c ∧ abs Try.f4.ntmps c = B4 := ⟨_, rfl, by kernel_rfl⟩
theorem hb4 : HasBody Try.prog 4 := hasBody_of Try.func4 (by kernel_rfl)
theorem res4 : Try.f4.results = #[(ResultVar.tmp 4)] := rfl
theorem enter4 {w : World} {R : Value → World → Prop} (x0 x1 : Value) (h : vc Try.prog B4 (retK Try.prog #[(ResultVar.tmp 4)] R) [] (initEnv [x0, x1] 0) w) : FnC Try.prog 4 #[x0, x1] w R := by
  obtain ⟨c, h1, h2⟩ := code4
  exact hb4.fn (ret_of_vc mixed Try.func4 h1 (Nat.le_of_ble_eq_true rfl) B4 h2 h)
@[push_cast] theorem vr4_0 (Q : Post) (ds : List Deferred) (σ : Env) (w : World) : vc Try.prog (.region r4_0) Q ds σ w = vcOps Try.prog [⟨some 4, (Op.assign (Operand.const (Value.bool false))), 4, none⟩] (Q .normal ds) σ w := mk_eq rfl
@[push_cast] theorem vr4_1 (Q : Post) (ds : List Deferred) (σ : Env) (w : World) : vc Try.prog (.region r4_1) Q ds σ w = vcOps Try.prog [⟨some 11, (Op.move (Operand.tmp 0)), 22, none⟩, ⟨some 12, (Op.call { callee := (Callee.builtin Builtin.len), args := #[(Operand.tmp 11)], argTypes := #[22] }), 3, none⟩, ⟨some 13, (Op.binOp BinOp.gtr 3 (Operand.tmp 12) (Operand.const (Value.int IntKind.i64 300)) 3), 4, none⟩] (Q .normal ds) σ w := mk_eq rfl
@[push_cast] theorem vr4_2 (Q : Post) (ds : List Deferred) (σ : Env) (w : World) : vc Try.prog (.region r4_2) Q ds σ w = vcOps Try.prog [⟨some 14, (Op.call { callee := (Callee.value (Operand.func 13)), args := #[], argTypes := #[] }), 4, none⟩, ⟨some 4, (Op.assign (Operand.tmp 14)), 4, none⟩] (Q .normal ds) σ w := mk_eq rfl
@[push_cast] theorem vr4_3 (Q : Post) (ds : List Deferred) (σ : Env) (w : World) : vc Try.prog (.region r4_3) Q ds σ w = vcOps Try.prog [⟨some 15, (Op.move (Operand.tmp 0)), 22, none⟩, ⟨some 16, (Op.call { callee := (Callee.value (Operand.func 18)), args := #[(Operand.tmp 15)], argTypes := #[22] }), 3, none⟩, ⟨some 5, (Op.assign (Operand.tmp 16)), 3, none⟩] (Q .normal ds) σ w := mk_eq rfl
@[push_cast] theorem vr4_4 (Q : Post) (ds : List Deferred) (σ : Env) (w : World) : vc Try.prog (.region r4_4) Q ds σ w = vcOps Try.prog [⟨some 18, (Op.move (Operand.tmp 0)), 22, none⟩, ⟨some 19, (Op.move (Operand.tmp 1)), 3, none⟩, ⟨some 20, (Op.call { callee := (Callee.value (Operand.func 14)), args := #[(Operand.tmp 18), (Operand.tmp 19)], argTypes := #[22, 3] }), 26, none⟩, ⟨some 17, (Op.move (Operand.tmp 20)), 26, none⟩, ⟨some 21, (Op.extract (Operand.tmp 17) 0), 24, none⟩, ⟨some 22, (Op.extract (Operand.tmp 17) 1), 25, none⟩, ⟨some 6, (Op.assign (Operand.tmp 21)), 24, none⟩, ⟨some 7, (Op.assign (Operand.tmp 22)), 25, none⟩] (Q .normal ds) σ w := mk_eq rfl
@[push_cast] theorem vr4_5 (Q : Post) (ds : List Deferred) (σ : Env) (w : World) : vc Try.prog (.region r4_5) Q ds σ w = vcOps Try.prog [⟨some 23, (Op.move (Operand.tmp 0)), 22, none⟩, ⟨some 24, (Op.call { callee := (Callee.builtin Builtin.len), args := #[(Operand.tmp 23)], argTypes := #[22] }), 3, none⟩, ⟨some 25, (Op.binOp BinOp.gtr 3 (Operand.tmp 24) (Operand.const (Value.int IntKind.i64 0)) 3), 4, none⟩, ⟨some 26, (Op.move (Operand.tmp 25)), 4, none⟩, ⟨some 27, (Op.move (Operand.tmp 5)), 3, some (26, true)⟩, ⟨some 28, (Op.binOp BinOp.gtr 3 (Operand.tmp 27) (Operand.const (Value.int IntKind.i64 0)) 3), 4, some (26, true)⟩, ⟨some 29, (Op.pick (Operand.tmp 26) (Operand.tmp 28) (Operand.const (Value.bool false))), 4, none⟩, ⟨some 8, (Op.assign (Operand.tmp 29)), 4, none⟩] (Q .normal ds) σ w := mk_eq rfl
@[push_cast] theorem vr4_6 (Q : Post) (ds : List Deferred) (σ : Env) (w : World) : vc Try.prog (.region r4_6) Q ds σ w = vcOps Try.prog [⟨some 30, (Op.move (Operand.tmp 8)), 4, none⟩] (Q .normal ds) σ w := mk_eq rfl
@[push_cast] theorem vr4_7 (Q : Post) (ds : List Deferred) (σ : Env) (w : World) : vc Try.prog (.region r4_7) Q ds σ w = vcOps Try.prog [⟨some 9, (Op.assign (Operand.const (Value.int IntKind.u64 0))), 32, none⟩] (Q .normal ds) σ w := mk_eq rfl
@[push_cast] theorem vr4_8 (Q : Post) (ds : List Deferred) (σ : Env) (w : World) : vc Try.prog (.region r4_8) Q ds σ w = vcOps Try.prog [⟨some 10, (Op.assign (Operand.const (Value.int IntKind.i64 0))), 3, none⟩] (Q .normal ds) σ w := mk_eq rfl
@[push_cast] theorem vr4_9 (Q : Post) (ds : List Deferred) (σ : Env) (w : World) : vc Try.prog (.region r4_9) Q ds σ w = vcOps Try.prog [⟨some 31, (Op.move (Operand.tmp 10)), 3, none⟩, ⟨some 32, (Op.move (Operand.tmp 0)), 22, none⟩, ⟨some 33, (Op.call { callee := (Callee.builtin Builtin.len), args := #[(Operand.tmp 32)], argTypes := #[22] }), 3, none⟩, ⟨some 34, (Op.binOp BinOp.lss 3 (Operand.tmp 31) (Operand.tmp 33) 3), 4, none⟩] (Q .normal ds) σ w := mk_eq rfl
@[push_cast] theorem vr4_11 (Q : Post) (ds : List Deferred) (σ : Env) (w : World) : vc Try.prog (.region r4_11) Q ds σ w = vcOps Try.prog [⟨some 37, (Op.move (Operand.tmp 9)), 32, none⟩, ⟨some 38, (Op.move (Operand.tmp 0)), 22, none⟩, ⟨some 39, (Op.move (Operand.tmp 10)), 3, none⟩, ⟨some 40, (Op.indexAddr 22 (Operand.tmp 38) (Operand.tmp 39)), 0, none⟩, ⟨some 41, (Op.load 32 (Operand.tmp 40)), 32, none⟩, ⟨some 42, (Op.call { callee := (Callee.builtin Builtin.max), args := #[(Operand.tmp 37), (Operand.tmp 41)], argTypes := #[32, 32] }), 32, none⟩, ⟨some 9, (Op.assign (Operand.tmp 42)), 32, none⟩] (Q .normal ds) σ w := mk_eq rfl
@[push_cast] theorem vr4_10 (Q : Post) (ds : List Deferred) (σ : Env) (w : World) : vc Try.prog (.region r4_10) Q ds σ w = vcOps Try.prog [⟨some 35, (Op.move (Operand.tmp 10)), 3, none⟩, ⟨some 36, (Op.binOp BinOp.add 3 (Operand.tmp 35) (Operand.const (Value.int IntKind.i64 1)) 3), 3, none⟩, ⟨some 10, (Op.assign (Operand.tmp 36)), 3, none⟩] (Q .normal ds) σ w := mk_eq rfl
@[push_cast] theorem vr4_12 (Q : Post) (ds : List Deferred) (σ : Env) (w : World) : vc Try.prog (.region r4_12) Q ds σ w = vcOps Try.prog [⟨some 43, (Op.move (Operand.tmp 9)), 32, none⟩, ⟨some 44, (Op.move (Operand.tmp 5)), 3, none⟩, ⟨some 45, (Op.binOp BinOp.sub 3 (Operand.tmp 44) (Operand.const (Value.int IntKind.i64 1)) 3), 3, none⟩, ⟨some 46, (Op.convert 3 33 (Operand.tmp 45)), 33, none⟩, ⟨some 47, (Op.binOp BinOp.shr 32 (Operand.tmp 43) (Operand.tmp 46) 33), 32, none⟩, ⟨some 48, (Op.binOp BinOp.neq 32 (Operand.tmp 47) (Operand.const (Value.int IntKind.u64 1)) 32), 4, none⟩] (Q .normal ds) σ w := mk_eq rfl
@[push_cast] theorem vr4_13 (Q : Post) (ds : List Deferred) (σ : Env) (w : World) : vc Try.prog (.region r4_13) Q ds σ w = vcOps Try.prog [⟨some 4, (Op.assign (Operand.const (Value.bool false))), 4, none⟩] (Q .normal ds) σ w := mk_eq rfl
@[push_cast] theorem vr4_14 (Q : Post) (ds : List Deferred) (σ : Env) (w : World) : vc Try.prog (.region r4_14) Q ds σ w = vcOps Try.prog [⟨some 49, (Op.call { callee := (Callee.value (Operand.func 13)), args := #[], argTypes := #[] }), 4, none⟩, ⟨some 50, (Op.move (Operand.tmp 49)), 4, none⟩, ⟨some 51, (Op.move (Operand.tmp 7)), 25, some (50, true)⟩, ⟨some 52, (Op.binOp BinOp.eql 25 (Operand.tmp 51) (Operand.const (Value.int IntKind.i64 0)) 25), 4, some (50, true)⟩, ⟨some 53, (Op.move (Operand.tmp 1)), 3, some (50, true)⟩, ⟨some 54, (Op.move (Operand.tmp 5)), 3, some (50, true)⟩, ⟨some 55, (Op.binOp BinOp.geq 3 (Operand.tmp 53) (Operand.tmp 54) 3), 4, some (50, true)⟩, ⟨some 56, (Op.move (Operand.tmp 55)), 4, some (50, true)⟩, ⟨some 57, (Op.move (Operand.tmp 1)), 3, some (56, true)⟩, ⟨some 58, (Op.binOp BinOp.geq 3 (Operand.tmp 57) (Operand.const (Value.int IntKind.i64 0)) 3), 4, some (56, true)⟩, ⟨some 59, (Op.pick (Operand.tmp 56) (Operand.tmp 58) (Operand.const (Value.bool false))), 4, some (50, true)⟩, ⟨some 60, (Op.move (Operand.tmp 59)), 4, some (50, true)⟩, ⟨some 61, (Op.move (Operand.tmp 1)), 3, some (60, true)⟩, ⟨some 62, (Op.binOp BinOp.leq 3 (Operand.tmp 61) (Operand.const (Value.int IntKind.i64 64)) 3), 4, some (60, true)⟩, ⟨some 63, (Op.pick (Operand.tmp 60) (Operand.tmp 62) (Operand.const (Value.bool false))), 4, some (50, true)⟩, ⟨some 64, (Op.binOp BinOp.eql 4 (Operand.tmp 52) (Operand.tmp 63) 4), 4, some (50, true)⟩, ⟨some 65, (Op.pick (Operand.tmp 50) (Operand.tmp 64) (Operand.const (Value.bool false))), 4, none⟩, ⟨some 66, (Op.move (Operand.tmp 65)), 4, none⟩, ⟨some 67, (Op.move (Operand.tmp 5)), 3, some (66, true)⟩, ⟨some 68, (Op.binOp BinOp.gtr 3 (Operand.tmp 67) (Operand.const (Value.int IntKind.i64 0)) 3), 4, some (66, true)⟩, ⟨some 69, (Op.move (Operand.tmp 68)), 4, some (66, true)⟩, ⟨some 70, (Op.move (Operand.tmp 8)), 4, some (69, false)⟩, ⟨some 71, (Op.unOp UnOp.not 4 (Operand.tmp 70)), 4, some (69, false)⟩, ⟨some 72, (Op.pick (Operand.tmp 69) (Operand.const (Value.bool true)) (Operand.tmp 71)), 4, some (66, true)⟩, ⟨some 73, (Op.pick (Operand.tmp 66) (Operand.tmp 72) (Operand.const (Value.bool false))), 4, none⟩, ⟨some 4, (Op.assign (Operand.tmp 73)), 4, none⟩] (Q .normal ds) σ w := mk_eq rfl
/-! 5 columbary/columbarylaw07.NibbleJoin (params #[22, 3], results #[(ResultVar.tmp 4)], 91 slots) -/
def W5_0 : List Nat := [5, 6, 27, 28, 29, 30, 31, 32, 33, 34, 35, 36, 37, 38, 39, 40]
@[push_cast] theorem W5_0_def : W5_0 = [5, 6, 27, 28, 29, 30, 31, 32, 33, 34, 35, 36, 37, 38, 39, 40] := mk_eq rfl
def r5_0 : List VOp :=
  [⟨some 4, (Op.assign (Operand.const (Value.bool false))), 4, none⟩]
def r5_1 : List VOp :=
  [⟨some 13, (Op.move (Operand.tmp 0)), 22, none⟩,
   ⟨some 14, (Op.call { callee := (Callee.builtin Builtin.len), args := #[(Operand.tmp 13)], argTypes := #[22] }), 3, none⟩,
   ⟨some 15, (Op.binOp BinOp.gtr 3 (Operand.tmp 14) (Operand.const (Value.int IntKind.i64 300)) 3), 4, none⟩,
   ⟨some 16, (Op.move (Operand.tmp 15)), 4, none⟩,
   ⟨some 17, (Op.move (Operand.tmp 1)), 3, some (16, false)⟩,
   ⟨some 18, (Op.binOp BinOp.lss 3 (Operand.tmp 17) (Operand.const (Value.int IntKind.i64 0)) 3), 4, some (16, false)⟩,
   ⟨some 19, (Op.pick (Operand.tmp 16) (Operand.const (Value.bool true)) (Operand.tmp 18)), 4, none⟩,
   ⟨some 20, (Op.move (Operand.tmp 19)), 4, none⟩,
   ⟨some 21, (Op.move (Operand.tmp 1)), 3, some (20, false)⟩,
   ⟨some 22, (Op.move (Operand.tmp 0)), 22, some (20, false)⟩,
   ⟨some 23, (Op.call { callee := (Callee.builtin Builtin.len), args := #[(Operand.tmp 22)], argTypes := #[22] }), 3, some (20, false)⟩,
   ⟨some 24, (Op.binOp BinOp.gtr 3 (Operand.tmp 21) (Operand.tmp 23) 3), 4, some (20, false)⟩,
   ⟨some 25, (Op.pick (Operand.tmp 20) (Operand.const (Value.bool true)) (Operand.tmp 24)), 4, none⟩]
def r5_2 : List VOp :=
  [⟨some 26, (Op.call { callee := (Callee.value (Operand.func 13)), args := #[], argTypes := #[] }), 4, none⟩,
   ⟨some 4, (Op.assign (Operand.tmp 26)), 4, none⟩]
def r5_3 : List VOp :=
  [⟨some 5, (Op.assign (Operand.const (Value.slice none 0 0))), 22, none⟩]
def r5_4 : List VOp :=
  [⟨some 6, (Op.assign (Operand.const (Value.int IntKind.i64 0))), 3, none⟩]
def r5_5 : List VOp :=
  [⟨some 27, (Op.move (Operand.tmp 6)), 3, none⟩,
   ⟨some 28, (Op.move (Operand.tmp 0)), 22, none⟩,
   ⟨some 29, (Op.call { callee := (Callee.builtin Builtin.len), args := #[(Operand.tmp 28)], argTypes := #[22] }), 3, none⟩,
   ⟨some 30, (Op.binOp BinOp.lss 3 (Operand.tmp 27) (Operand.tmp 29) 3), 4, none⟩]
def r5_7 : List VOp :=
  [⟨some 33, (Op.move (Operand.tmp 5)), 22, none⟩,
   ⟨some 34, (Op.move (Operand.tmp 0)), 22, none⟩,
   ⟨some 35, (Op.move (Operand.tmp 6)), 3, none⟩,
   ⟨some 36, (Op.indexAddr 22 (Operand.tmp 34) (Operand.tmp 35)), 0, none⟩,
   ⟨some 37, (Op.load 32 (Operand.tmp 36)), 32, none⟩,
   ⟨some 38, (Op.binOp BinOp.and 32 (Operand.tmp 37) (Operand.const (Value.int IntKind.u64 65535)) 32), 32, none⟩,
   ⟨some 39, (Op.buildSlice 22 1 #[(0, (Operand.tmp 38))]), 22, none⟩,
   ⟨some 40, (Op.call { callee := (Callee.builtin Builtin.append), args := #[(Operand.tmp 33), (Operand.tmp 39)], argTypes := #[22, 22] }), 22, none⟩,
   ⟨some 5, (Op.assign (Operand.tmp 40)), 22, none⟩]
def r5_6 : List VOp :=
  [⟨some 31, (Op.move (Operand.tmp 6)), 3, none⟩,
   ⟨some 32, (Op.binOp BinOp.add 3 (Operand.tmp 31) (Operand.const (Value.int IntKind.i64 1)) 3), 3, none⟩,
   ⟨some 6, (Op.assign (Operand.tmp 32)), 3, none⟩]
def r5_8 : List VOp :=
  [⟨some 42, (Op.move (Operand.tmp 5)), 22, none⟩,
   ⟨some 43, (Op.move (Operand.tmp 1)), 3, none⟩,
   ⟨some 44, (Op.slice 22 (Operand.tmp 42) none (some (Operand.tmp 43)) none), 22, none⟩,
   ⟨some 45, (Op.call { callee := (Callee.value (Operand.func 14)), args := #[(Operand.tmp 44), (Operand.const (Value.int IntKind.i64 16))], argTypes := #[22, 3] }), 26, none⟩,
   ⟨some 41, (Op.move (Operand.tmp 45)), 26, none⟩,
   ⟨some 46, (Op.extract (Operand.tmp 41) 0), 24, none⟩,
   ⟨some 47, (Op.extract (Operand.tmp 41) 1), 25, none⟩,
   ⟨some 7, (Op.assign (Operand.tmp 46)), 24, none⟩,
   ⟨some 8, (Op.assign (Operand.tmp 47)), 25, none⟩]
def r5_9 : List VOp :=
  [⟨some 49, (Op.move (Operand.tmp 5)), 22, none⟩,
   ⟨some 50, (Op.move (Operand.tmp 1)), 3, none⟩,
   ⟨some 51, (Op.slice 22 (Operand.tmp 49) (some (Operand.tmp 50)) none none), 22, none⟩,
   ⟨some 52, (Op.call { callee := (Callee.value (Operand.func 14)), args := #[(Operand.tmp 51), (Operand.const (Value.int IntKind.i64 16))], argTypes := #[22, 3] }), 26, none⟩,
   ⟨some 48, (Op.move (Operand.tmp 52)), 26, none⟩,
   ⟨some 53, (Op.extract (Operand.tmp 48) 0), 24, none⟩,
   ⟨some 54, (Op.extract (Operand.tmp 48) 1), 25, none⟩,
   ⟨some 9, (Op.assign (Operand.tmp 53)), 24, none⟩,
   ⟨some 10, (Op.assign (Operand.tmp 54)), 25, none⟩]
def r5_10 : List VOp :=
  [⟨some 56, (Op.move (Operand.tmp 5)), 22, none⟩,
   ⟨some 57, (Op.call { callee := (Callee.value (Operand.func 14)), args := #[(Operand.tmp 56), (Operand.const (Value.int IntKind.i64 16))], argTypes := #[22, 3] }), 26, none⟩,
   ⟨some 55, (Op.move (Operand.tmp 57)), 26, none⟩,
   ⟨some 58, (Op.extract (Operand.tmp 55) 0), 24, none⟩,
   ⟨some 59, (Op.extract (Operand.tmp 55) 1), 25, none⟩,
   ⟨some 11, (Op.assign (Operand.tmp 58)), 24, none⟩,
   ⟨some 12, (Op.assign (Operand.tmp 59)), 25, none⟩]
def r5_11 : List VOp :=
  [⟨some 60, (Op.call { callee := (Callee.value (Operand.func 13)), args := #[], argTypes := #[] }), 4, none⟩,
   ⟨some 61, (Op.move (Operand.tmp 60)), 4, none⟩,
   ⟨some 62, (Op.move (Operand.tmp 8)), 25, some (61, true)⟩,
   ⟨some 63, (Op.binOp BinOp.eql 25 (Operand.tmp 62) (Operand.const (Value.int IntKind.i64 0)) 25), 4, some (61, true)⟩,
   ⟨some 64, (Op.pick (Operand.tmp 61) (Operand.tmp 63) (Operand.const (Value.bool false))), 4, none⟩,
   ⟨some 65, (Op.move (Operand.tmp 64)), 4, none⟩,
   ⟨some 66, (Op.move (Operand.tmp 10)), 25, some (65, true)⟩,
   ⟨some 67, (Op.binOp BinOp.eql 25 (Operand.tmp 66) (Operand.const (Value.int IntKind.i64 0)) 25), 4, some (65, true)⟩,
   ⟨some 68, (Op.pick (Operand.tmp 65) (Operand.tmp 67) (Operand.const (Value.bool false))), 4, none⟩,
   ⟨some 69, (Op.move (Operand.tmp 68)), 4, none⟩,
   ⟨some 70, (Op.move (Operand.tmp 12)), 25, some (69, true)⟩,
   ⟨some 71, (Op.binOp BinOp.eql 25 (Operand.tmp 70) (Operand.const (Value.int IntKind.i64 0)) 25), 4, some (69, true)⟩,
   ⟨some 72, (Op.pick (Operand.tmp 69) (Operand.tmp 71) (Operand.const (Value.bool false))), 4, none⟩,
   ⟨some 73, (Op.move (Operand.tmp 72)), 4, none⟩,
   ⟨some 74, (Op.move (Operand.tmp 11)), 24, some (73, true)⟩,
   ⟨some 75, (Op.convert 24 9 (Operand.tmp 74)), 9, some (73, true)⟩,
   ⟨some 76, (Op.move (Operand.tmp 7)), 24, some (73, true)⟩,
   ⟨some 77, (Op.convert 24 9 (Operand.tmp 76)), 9, some (73, true)⟩,
   ⟨some 78, (Op.move (Operand.tmp 9)), 24, some (73, true)⟩,
   ⟨some 79, (Op.convert 24 9 (Operand.tmp 78)), 9, some (73, true)⟩,
   ⟨some 80, (Op.binOp BinOp.add 9 (Operand.tmp 77) (Operand.tmp 79) 9), 9, some (73, true)⟩,
   ⟨some 81, (Op.binOp BinOp.eql 9 (Operand.tmp 75) (Operand.tmp 80) 9), 4, some (73, true)⟩,
   ⟨some 82, (Op.pick (Operand.tmp 73) (Operand.tmp 81) (Operand.const (Value.bool false))), 4, none⟩,
   ⟨some 83, (Op.move (Operand.tmp 82)), 4, none⟩,
   ⟨some 84, (Op.move (Operand.tmp 11)), 24, some (83, true)⟩,
   ⟨some 85, (Op.call { callee := (Callee.builtin Builtin.len), args := #[(Operand.tmp 84)], argTypes := #[24] }), 3, some (83, true)⟩,
   ⟨some 86, (Op.move (Operand.tmp 5)), 22, some (83, true)⟩,
   ⟨some 87, (Op.call { callee := (Callee.builtin Builtin.len), args := #[(Operand.tmp 86)], argTypes := #[22] }), 3, some (83, true)⟩,
   ⟨some 88, (Op.binOp BinOp.mul 3 (Operand.const (Value.int IntKind.i64 2)) (Operand.tmp 87) 3), 3, some (83, true)⟩,
   ⟨some 89, (Op.binOp BinOp.eql 3 (Operand.tmp 85) (Operand.tmp 88) 3), 4, some (83, true)⟩,
   ⟨some 90, (Op.pick (Operand.tmp 83) (Operand.tmp 89) (Operand.const (Value.bool false))), 4, none⟩,
   ⟨some 4, (Op.assign (Operand.tmp 90)), 4, none⟩]
def B5 : VC :=
  (.seq (.region r5_0) (.seq (.seq (.region r5_1) (.cond (Operand.tmp 25) (.seq (.region r5_2) .ret) .skip)) (.seq (.region r5_3) (.seq (.seq (.region r5_4) (.block 0 (.loop (.seq (.seq (.region r5_5) (.cond (Operand.tmp 30) .skip (.exit 0))) (.seq (.block 1 (.region r5_7)) (.region r5_6)))))) (.seq (.region r5_8) (.seq (.region r5_9) (.seq (.region r5_10) (.seq (.region r5_11) .ret))))))))
theorem code5 : ∃ c, Try.f5.body = some c ∧ abs Try.f5.ntmps c = B5 := ⟨_, rfl, by kernel_rfl⟩
theorem hb5 : HasBody Try.prog 5 := hasBody_of Try.func5 (by kernel_rfl)
theorem res5 : Try.f5.results = #[(ResultVar.tmp 4)] := rfl
theorem enter5 {w : World} {R : Value → World → Prop} (x0 x1 : Value) (h : vc Try.prog B5 (retK Try.prog #[(ResultVar.tmp 4)] R) [] (initEnv [x0, x1] 0) w) : FnC Try.prog 5 #[x0, x1] w R := by
  obtain ⟨c, h1, h2⟩ := code5
  exact hb5.fn (ret_of_vc mixed Try.func5 h1 (Nat.le_of_ble_eq_true rfl) B5 h2 h)
@[push_cast] theorem vr5_0 (Q : Post) (ds : List Deferred) (σ : Env) (w : World) : vc Try.prog (.region r5_0) Q ds σ w = vcOps Try.prog [⟨some 4, (Op.assign (Operand.const (Value.bool false))), 4, none⟩] (Q .normal ds) σ w := mk_eq rfl
@[push_cast] theorem vr5_1 (Q : Post) (ds : List Deferred) (σ : Env) (w : World) : vc Try.prog (.region r5_1) Q ds σ w = vcOps Try.prog [⟨some 13, (Op.move (Operand.tmp 0)), 22, none⟩, ⟨some 14, (Op.call { callee := (Callee.builtin Builtin.len), args := #[(Operand.tmp 13)], argTypes := #[22] }), 3, none⟩, ⟨some 15, (Op.binOp BinOp.gtr 3 (Operand.tmp 14) (Operand.const (Value.int IntKind.i64 300)) 3), 4, none⟩, ⟨some 16, (Op.move (Operand.tmp 15)), 4, none⟩, ⟨some 17, (Op.move (Operand.tmp 1)), 3, some (16, false)⟩, ⟨some 18, (Op.binOp BinOp.lss 3 (Operand.tmp 17) (Operand.const (Value.int IntKind.i64 0)) 3), 4, some (16, false)⟩, ⟨some 19, (Op.pick (Operand.tmp 16) (Operand.const (Value.bool true)) (Operand.tmp 18)), 4, none⟩, ⟨some 20, (Op.move (Operand.tmp 19)), 4, none⟩, ⟨some 21, (Op.move (Operand.tmp 1)), 3, some (20, false)⟩, ⟨some 22, (Op.move (Operand.tmp 0)), 22, some (20, false)⟩, ⟨some 23, (Op.call { callee := (Callee.builtin Builtin.len), args := #[(Operand.tmp 22)], argTypes := #[22] }), 3, some (20, false)⟩, ⟨some 24, (Op.binOp BinOp.gtr 3 (Operand.tmp 21) (Operand.tmp 23) 3), 4, some (20, false)⟩, ⟨some 25, (Op.pick (Operand.tmp 20) (Operand.const (Value.bool true)) (Operand.tmp 24)), 4, none⟩] (Q .normal ds) σ w := mk_eq rfl
@[push_cast] theorem vr5_2 (Q : Post) (ds : List Deferred) (σ : Env) (w : World) : vc Try.prog (.region r5_2) Q ds σ w = vcOps Try.prog [⟨some 26, (Op.call { callee := (Callee.value (Operand.func 13)), args := #[], argTypes := #[] }), 4, none⟩, ⟨some 4, (Op.assign (Operand.tmp 26)), 4, none⟩] (Q .normal ds) σ w := mk_eq rfl
@[push_cast] theorem vr5_3 (Q : Post) (ds : List Deferred) (σ : Env) (w : World) : vc Try.prog (.region r5_3) Q ds σ w = vcOps Try.prog [⟨some 5, (Op.assign (Operand.const (Value.slice none 0 0))), 22, none⟩] (Q .normal ds) σ w := mk_eq rfl
@[push_cast] theorem vr5_4 (Q : Post) (ds : List Deferred) (σ : Env) (w : World) : vc Try.prog (.region r5_4) Q ds σ w = vcOps Try.prog [⟨some 6, (Op.assign (Operand.const (Value.int IntKind.i64 0))), 3, none⟩] (Q .normal ds) σ w := mk_eq rfl
@[push_cast] theorem vr5_5 (Q : Post) (ds : List Deferred) (σ : Env) (w : World) : vc Try.prog (.region r5_5) Q ds σ w = vcOps Try.prog [⟨some 27, (Op.move (Operand.tmp 6)), 3, none⟩, ⟨some 28, (Op.move (Operand.tmp 0)), 22, none⟩, ⟨some 29, (Op.call { callee := (Callee.builtin Builtin.len), args := #[(Operand.tmp 28)], argTypes := #[22] }), 3, none⟩, ⟨some 30, (Op.binOp BinOp.lss 3 (Operand.tmp 27) (Operand.tmp 29) 3), 4, none⟩] (Q .normal ds) σ w := mk_eq rfl
@[push_cast] theorem vr5_7 (Q : Post) (ds : List Deferred) (σ : Env) (w : World) : vc Try.prog (.region r5_7) Q ds σ w = vcOps Try.prog [⟨some 33, (Op.move (Operand.tmp 5)), 22, none⟩, ⟨some 34, (Op.move (Operand.tmp 0)), 22, none⟩, ⟨some 35, (Op.move (Operand.tmp 6)), 3, none⟩, ⟨some 36, (Op.indexAddr 22 (Operand.tmp 34) (Operand.tmp 35)), 0, none⟩, ⟨some 37, (Op.load 32 (Operand.tmp 36)), 32, none⟩, ⟨some 38, (Op.binOp BinOp.and 32 (Operand.tmp 37) (Operand.const (Value.int IntKind.u64 65535)) 32), 32, none⟩, ⟨some 39, (Op.buildSlice 22 1 #[(0, (Operand.tmp 38))]), 22, none⟩, ⟨some 40, (Op.call { callee := (Callee.builtin Builtin.append), args := #[(Operand.tmp 33), (Operand.tmp 39)], argTypes := #[22, 22] }), 22, none⟩, ⟨some 5, (Op.assign (Operand.tmp 40)), 22, none⟩] (Q .normal ds) σ w := mk_eq rfl
@[push_cast] theorem vr5_6 (Q : Post) (ds : List Deferred) (σ : Env) (w : World) : vc Try.prog (.region r5_6) Q ds σ w = vcOps Try.prog [⟨some 31, (Op.move (Operand.tmp 6)), 3, none⟩, ⟨some 32, (Op.binOp BinOp.add 3 (Operand.tmp 31) (Operand.const (Value.int IntKind.i64 1)) 3), 3, none⟩, ⟨some 6, (Op.assign (Operand.tmp 32)), 3, none⟩] (Q .normal ds) σ w := mk_eq rfl
@[push_cast] theorem vr5_8 (Q : Post) (ds : List Deferred) (σ : Env) (w : World) : vc Try.prog (.region r5_8) Q ds σ w = vcOps Try.prog [⟨some 42, (Op.move (Operand.tmp 5)), 22, none⟩, ⟨some 43, (Op.move (Operand.tmp 1)), 3, none⟩, ⟨some 44, (Op.slice 22 (Operand.tmp 42) none (some (Operand.tmp 43)) none), 22, none⟩, ⟨some 45, (Op.call { callee := (Callee.value (Operand.func 14)), args := #[(Operand.tmp 44), (Operand.const (Value.int IntKind.i64 16))], argTypes := #[22, 3] }), 26, none⟩, ⟨some 41, (Op.move (Operand.tmp 45)), 26, none⟩, ⟨some 46, (Op.extract (Operand.tmp 41) 0), 24, none⟩, ⟨some 47, (Op.extract (Operand.tmp 41) 1), 25, none⟩, ⟨some 7, (Op.assign (Operand.tmp 46)), 24, none⟩, ⟨some 8, (Op.assign (Operand.tmp 47)), 25, none⟩] (Q .normal ds) σ w := mk_eq rfl
@[push_cast] theorem vr5_9 (Q : Post) (ds : List Deferred) (σ : Env) (w : World) : vc Try.prog (.region r5_9) Q ds σ w = vcOps Try.prog [⟨some 49, (Op.move (Operand.tmp 5)), 22, none⟩, ⟨some 50, (Op.move (Operand.tmp 1)), 3, none⟩, ⟨some 51, (Op.slice 22 (Operand.tmp 49) (some (Operand.tmp 50)) none none), 22, none⟩, ⟨some 52, (Op.call { callee := (Callee.value (Operand.func 14)), args := #[(Operand.tmp 51), (Operand.const (Value.int IntKind.i64 16))], argTypes := #[22, 3] }), 26, none⟩, ⟨some 48, (Op.move (Operand.tmp 52)), 26, none⟩, ⟨some 53, (Op.extract (Operand.tmp 48) 0), 24, none⟩, ⟨some 54, (Op.extract (Operand.tmp 48) 1), 25, none⟩, ⟨some 9, (Op.assign (Operand.tmp 53)), 24, none⟩, ⟨some 10, (Op.assign (Operand.tmp 54)), 25, none⟩] (Q .normal ds) σ w := mk_eq rfl
@[push_cast] theorem vr5_10 (Q : Post) (ds : List Deferred) (σ : Env) (w : World) : vc Try.prog (.region r5_10) Q ds σ w = vcOps Try.prog [⟨some 56, (Op.move (Operand.tmp 5)), 22, none⟩, ⟨some 57, (Op.call { callee := (Callee.value (Operand.func 14)), args := #[(Operand.tmp 56), (Operand.const (Value.int IntKind.i64 16))], argTypes := #[22, 3] }), 26, none⟩, ⟨some 55, (Op.move (Operand.tmp 57)), 26, none⟩, ⟨some 58, (Op.extract (Operand.tmp 55) 0), 24, none⟩, ⟨some 59, (Op.extract (Operand.tmp 55) 1), 25, none⟩, ⟨some 11, (Op.assign (Operand.tmp 58)), 24, none⟩, ⟨some 12, (Op.assign (Operand.tmp 59)), 25, none⟩] (Q .normal ds) σ w := mk_eq rfl
@[push_cast] theorem vr5_11 (Q : Post) (ds : List Deferred) (σ : Env) (w : World) : vc Try.prog (.region r5_11) Q ds σ w = vcOps Try.prog [⟨some 60, (Op.call { callee := (Callee.value (Operand.func 13)), args := #[], argTypes := #[] }), 4, none⟩, ⟨some 61, (Op.move (Operand.tmp 60)), 4, none⟩, ⟨some 62, (Op.move (Operand.tmp 8)), 25, some (61, true)⟩, ⟨some 63, (Op.binOp BinOp.eql 25 (Operand.tmp 62) (Operand.const (Value.int IntKind.i64 0)) 25), 4, some (61, true)⟩, ⟨some 64, (Op.pick (Operand.tmp 61) (Operand.tmp 63) (Operand.const (Value.bool false))), 4, none⟩, ⟨some 65, (Op.move (Operand.tmp 64)), 4, none⟩, ⟨some 66, (Op.move (Operand.tmp 10)), 25, some (65, true)⟩, ⟨some 67, (Op.binOp BinOp.eql 25 (Operand.tmp 66) (Operand.const (Value.int IntKind.i64 0)) 25), 4, some (65, true)⟩, ⟨some 68, (Op.pick (Operand.tmp 65) (Operand.tmp 67) (Operand.const (Value.bool false))), 4, none⟩, ⟨some 69, (Op.move (Operand.tmp 68)), 4, none⟩, ⟨some 70, (Op.move (Operand.tmp 12)), 25, some (69, true)⟩, ⟨some 71, (Op.binOp BinOp.eql 25 (Operand.tmp 70) (Operand.const (Value.int IntKind.i64 0)) 25), 4, some (69, true)⟩, ⟨some 72, (Op.pick (Operand.tmp 69) (Operand.tmp 71) (Operand.const (Value.bool false))), 4, none⟩, ⟨some 73, (Op.move (Operand.tmp 72)), 4, none⟩, ⟨some 74, (Op.move (Operand.tmp 11)), 24, some (73, true)⟩, ⟨some 75, (Op.convert 24 9 (Operand.tmp 74)), 9, some (73, true)⟩, ⟨some 76, (Op.move (Operand.tmp 7)), 24, some (73, true)⟩, ⟨some 77, (Op.convert 24 9 (Operand.tmp 76)), 9, some (73, true)⟩, ⟨some 78, (Op.move (Operand.tmp 9)), 24, some (73, true)⟩, ⟨some 79, (Op.convert 24 9 (Operand.tmp 78)), 9, some (73, true)⟩, ⟨some 80, (Op.binOp BinOp.add 9 (Operand.tmp 77) (Operand.tmp 79) 9), 9, some (73, true)⟩, ⟨some 81, (Op.binOp BinOp.eql 9 (Operand.tmp 75) (Operand.tmp 80) 9), 4, some (73, true)⟩, ⟨some 82, (Op.pick (Operand.tmp 73) (Operand.tmp 81) (Operand.const (Value.bool false))), 4, none⟩, ⟨some 83, (Op.move (Operand.tmp 82)), 4, none⟩, ⟨some 84, (Op.move (Operand.tmp 11)), 24, some (83, true)⟩, ⟨some 85, (Op.call { callee := (Callee.builtin Builtin.len), args := #[(Operand.tmp 84)], argTypes := #[24] }), 3, some (83, true)⟩, ⟨some 86, (Op.move (Operand.tmp 5)), 22, some (83, true)⟩, ⟨some 87, (Op.call { callee := (Callee.builtin Builtin.len), args := #[(Operand.tmp 86)], argTypes := #[22] }), 3, some (83, true)⟩, ⟨some 88, (Op.binOp BinOp.mul 3 (Operand.const (Value.int IntKind.i64 2)) (Operand.tmp 87) 3), 3, some (83, true)⟩, ⟨some 89, (Op.binOp BinOp.eql 3 (Operand.tmp 85) (Operand.tmp 88) 3), 4, some (83, true)⟩, ⟨some 90, (Op.pick (Operand.tmp 83) (Operand.tmp 89) (Operand.const (Value.bool false))), 4, none⟩, ⟨some 4, (Op.assign (Operand.tmp 90)), 4, none⟩] (Q .normal ds) σ w := mk_eq rfl
/-! 6 columbary/columbarylaw07.NibbleReads (params #[24, 3, 35], results #[(ResultVar.tmp 6)], 74 slots) -/
def r6_0 : List VOp :=
  [⟨some 5, (Op.box 35 (Operand.tmp 2)), 0, none⟩,
   ⟨some 6, (Op.assign (Operand.const (Value.bool false))), 4, none⟩]
def r6_1 : List VOp :=
  [⟨some 15, (Op.move (Operand.tmp 0)), 24, none⟩,
   ⟨some 16, (Op.call { callee := (Callee.builtin Builtin.len), args := #[(Operand.tmp 15)], argTypes := #[24] }), 3, none⟩,
   ⟨some 17, (Op.binOp BinOp.gtr 3 (Operand.tmp 16) (Operand.const (Value.int IntKind.i64 300)) 3), 4, none⟩]
def r6_2 : List VOp :=
  [⟨some 18, (Op.call { callee := (Callee.value (Operand.func 13)), args := #[], argTypes := #[] }), 4, none⟩,
   ⟨some 6, (Op.assign (Operand.tmp 18)), 4, none⟩]
def r6_3 : List VOp :=
  [⟨some 20, (Op.move (Operand.tmp 0)), 24, none⟩,
   ⟨some 21, (Op.move (Operand.tmp 1)), 3, none⟩,
   ⟨some 22, (Op.indexAddr 35 (Operand.tmp 5) (Operand.const (Value.int IntKind.i64 0))), 0, none⟩,
   ⟨some 23, (Op.load 3 (Operand.tmp 22)), 3, none⟩,
   ⟨some 24, (Op.call { callee := (Callee.value (Operand.func 20)), args := #[(Operand.tmp 20), (Operand.tmp 21), (Operand.tmp 23)], argTypes := #[24, 3, 3] }), 36, none⟩,
   ⟨some 19, (Op.move (Operand.tmp 24)), 36, none⟩,
   ⟨some 25, (Op.extract (Operand.tmp 19) 0), 22, none⟩,
   ⟨some 26, (Op.extract (Operand.tmp 19) 1), 25, none⟩,
   ⟨some 7, (Op.assign (Operand.tmp 25)), 22, none⟩,
   ⟨some 8, (Op.assign (Operand.tmp 26)), 25, none⟩]
def r6_4 : List VOp :=
  [⟨some 28, (Op.move (Operand.tmp 0)), 24, none⟩,
   ⟨some 29, (Op.move (Operand.tmp 1)), 3, none⟩,
   ⟨some 30, (Op.indexAddr 35 (Operand.tmp 5) (Operand.const (Value.int IntKind.i64 0))), 0, none⟩,
   ⟨some 31, (Op.load 3 (Operand.tmp 30)), 3, none⟩,
   ⟨some 32, (Op.call { callee := (Callee.value (Operand.func 21)), args := #[(Operand.tmp 28), (Operand.tmp 29), (Operand.tmp 31)], argTypes := #[24, 3, 3] }), 36, none⟩,
   ⟨some 27, (Op.move (Operand.tmp 32)), 36, none⟩,
   ⟨some 33, (Op.extract (Operand.tmp 27) 0), 22, none⟩,
   ⟨some 34, (Op.extract (Operand.tmp 27) 1), 25, none⟩,
   ⟨some 9, (Op.assign (Operand.tmp 33)), 22, none⟩,
   ⟨some 10, (Op.assign (Operand.tmp 34)), 25, none⟩]
def r6_5 : List VOp :=
  [⟨some 36, (Op.move (Operand.tmp 0)), 24, none⟩,
   ⟨some 37, (Op.indexAddr 35 (Operand.tmp 5) (Operand.const (Value.int IntKind.i64 1))), 0, none⟩,
   ⟨some 38, (Op.load 3 (Operand.tmp 37)), 3, none⟩,
   ⟨some 39, (Op.indexAddr 35 (Operand.tmp 5) (Operand.const (Value.int IntKind.i64 0))), 0, none⟩,
   ⟨some 40, (Op.load 3 (Operand.tmp 39)), 3, none⟩,
   ⟨some 41, (Op.call { callee := (Callee.value (Operand.func 22)), args := #[(Operand.tmp 36), (Operand.tmp 38), (Operand.tmp 40)], argTypes := #[24, 3, 3] }), 38, none⟩,
   ⟨some 35, (Op.move (Operand.tmp 41)), 38, none⟩,
   ⟨some 42, (Op.extract (Operand.tmp 35) 0), 32, none⟩,
   ⟨some 43, (Op.extract (Operand.tmp 35) 1), 25, none⟩,
   ⟨some 11, (Op.assign (Operand.tmp 42)), 32, none⟩,
   ⟨some 12, (Op.assign (Operand.tmp 43)), 25, none⟩]
def r6_6 : List VOp :=
  [⟨some 45, (Op.move (Operand.tmp 0)), 24, none⟩,
   ⟨some 46, (Op.indexAddr 35 (Operand.tmp 5) (Operand.const (Value.int IntKind.i64 1))), 0, none⟩,
   ⟨some 47, (Op.load 3 (Operand.tmp 46)), 3, none⟩,
   ⟨some 48, (Op.indexAddr 35 (Operand.tmp 5) (Operand.const (Value.int IntKind.i64 0))), 0, none⟩,
   ⟨some 49, (Op.load 3 (Operand.tmp 48)), 3, none⟩,
   ⟨some 50, (Op.call { callee := (Callee.value (Operand.func 23)), args := #[(Operand.tmp 45), (Operand.tmp 47), (Operand.tmp 49)], argTypes := #[24, 3, 3] }), 38, none⟩,
   ⟨some 44, (Op.move (Operand.tmp 50)), 38, none⟩,
   ⟨some 51, (Op.extract (Operand.tmp 44) 0), 32, none⟩,
   ⟨some 52, (Op.extract (Operand.tmp 44) 1), 25, none⟩,
   ⟨some 13, (Op.assign (Operand.tmp 51)), 32, none⟩,
   ⟨some 14, (Op.assign (Operand.tmp 52)), 25, none⟩]
def r6_7 : List VOp :=
  [⟨some 53, (Op.call { callee := (Callee.value (Operand.func 13)), args := #[], argTypes := #[] }), 4, none⟩,
   ⟨some 54, (Op.move (Operand.tmp 53)), 4, none⟩,
   ⟨some 55, (Op.move (Operand.tmp 7)), 22, some (54, true)⟩,
   ⟨some 56, (Op.move (Operand.tmp 9)), 22, some (54, true)⟩,
   ⟨some 57, (Op.call { callee := (Callee.value (Operand.func 24)), args := #[(Operand.tmp 55), (Operand.tmp 56)], argTypes := #[22, 22] }), 4, some (54, true)⟩,
   ⟨some 58, (Op.pick (Operand.tmp 54) (Operand.tmp 57) (Operand.const (Value.bool false))), 4, none⟩,
   ⟨some 59, (Op.move (Operand.tmp 58)), 4, none⟩,
   ⟨some 60, (Op.move (Operand.tmp 8)), 25, some (59, true)⟩,
   ⟨some 61, (Op.move (Operand.tmp 10)), 25, some (59, true)⟩,
   ⟨some 62, (Op.binOp BinOp.eql 25 (Operand.tmp 60) (Operand.tmp 61) 25), 4, some (59, true)⟩,
   ⟨some 63, (Op.pick (Operand.tmp 59) (Operand.tmp 62) (Operand.const (Value.bool false))), 4, none⟩,
   ⟨some 64, (Op.move (Operand.tmp 63)), 4, none⟩,
   ⟨some 65, (Op.move (Operand.tmp 11)), 32, some (64, true)⟩,
   ⟨some 66, (Op.move (Operand.tmp 13)), 32, some (64, true)⟩,
   ⟨some 67, (Op.binOp BinOp.eql 32 (Operand.tmp 65) (Operand.tmp 66) 32), 4, some (64, true)⟩,
   ⟨some 68, (Op.pick (Operand.tmp 64) (Operand.tmp 67) (Operand.const (Value.bool false))), 4, none⟩,
   ⟨some 69, (Op.move (Operand.tmp 68)), 4, none⟩,
   ⟨some 70, (Op.move (Operand.tmp 12)), 25, some (69, true)⟩,
   ⟨some 71, (Op.move (Operand.tmp 14)), 25, some (69, true)⟩,
   ⟨some 72, (Op.binOp BinOp.eql 25 (Operand.tmp 70) (Operand.tmp 71) 25), 4, some (69, true)⟩,
   ⟨some 73, (Op.pick (Operand.tmp 69) (Operand.tmp 72) (Operand.const (Value.bool false))), 4, none⟩,
   ⟨some 6, (Op.assign (Operand.tmp 73)), 4, none⟩]
def B6 : VC :=
  (.seq (.region r6_0) (.seq (.seq (.region r6_1) (.cond (Operand.tmp 17) (.seq (.region r6_2) .ret) .skip)) (.seq (.region r6_3) (.seq (.region r6_4) (.seq (.region r6_5) (.seq (.region r6_6) (.seq (.region r6_7) .ret)))))))
theorem code6 : ∃ c, Try.f6.body = some c ∧ abs Try.f6.ntmps c = B6 := ⟨_, rfl, by kernel_rfl⟩
theorem hb6 : HasBody Try.prog 6 := hasBody_of Try.func6 (by kernel_rfl)
theorem res6 : Try.f6.results = #[(ResultVar.tmp 6)] := rfl
theorem enter6 {w : World} {R : Value → World → Prop} (x0 x1 x2 : Value) (h : vc Try.prog B6 (retK Try.prog #[(ResultVar.tmp 6)] R) [] (initEnv [x0, x1, x2] 0) w) : FnC Try.prog 6 #[x0, x1, x2] w R := by
  obtain ⟨c, h1, h2⟩ := code6
  exact hb6.fn (ret_of_vc mixed Try.func6 h1 (Nat.le_of_ble_eq_true rfl) B6 h2 h)
@[push_cast] theorem vr6_0 (Q : Post) (ds : List Deferred) (σ : Env) (w : World) : vc Try.prog (.region r6_0) Q ds σ w = vcOps Try.prog [⟨some 5, (Op.box 35 (Operand.tmp 2)), 0, none⟩, ⟨some 6, (Op.assign (Operand.const (Value.bool false))), 4, none⟩] (Q .normal ds) σ w := mk_eq rfl
@[push_cast] theorem vr6_1 (Q : Post) (ds : List Deferred) (σ : Env) (w : World) : vc Try.prog (.region r6_1) Q ds σ w = vcOps Try.prog [⟨some 15, (Op.move (Operand.tmp 0)), 24, none⟩, ⟨some 16, (Op.call { callee := (Callee.builtin Builtin.len), args := #[(Operand.tmp 15)], argTypes := #[24] }), 3, none⟩, ⟨some 17, (Op.binOp BinOp.gtr 3 (Operand.tmp 16) (Operand.const (Value.int IntKind.i64 300)) 3), 4, none⟩] (Q .normal ds) σ w := mk_eq rfl
@[push_cast] theorem vr6_2 (Q : Post) (ds : List Deferred) (σ : Env) (w : World) : vc Try.prog (.region r6_2) Q ds σ w = vcOps Try.prog [⟨some 18, (Op.call { callee := (Callee.value (Operand.func 13)), args := #[], argTypes := #[] }), 4, none⟩, ⟨some 6, (Op.assign (Operand.tmp 18)), 4, none⟩] (Q .normal ds) σ w := mk_eq rfl
@[push_cast] theorem vr6_3 (Q : Post) (ds : List Deferred) (σ : Env) (w : World) : vc Try.prog (.region r6_3) Q ds σ w = vcOps Try.prog [⟨some 20, (Op.move (Operand.tmp 0)), 24, none⟩, ⟨some 21, (Op.move (Operand.tmp 1)), 3, none⟩, ⟨some 22, (Op.indexAddr 35 (Operand.tmp 5) (Operand.const (Value.int IntKind.i64 0))), 0, none⟩, ⟨some 23, (Op.load 3 (Operand.tmp 22)), 3, none⟩, ⟨some 24, (Op.call { callee := (Callee.value (Operand.func 20)), args := #[(Operand.tmp 20), (Operand.tmp 21), (Operand.tmp 23)], argTypes := #[24, 3, 3] }), 36, none⟩, ⟨some 19, (Op.move (Operand.tmp 24)), 36, none⟩, ⟨some 25, (Op.extract (Operand.tmp 19) 0), 22, none⟩, ⟨some 26, (Op.extract (Operand.tmp 19) 1), 25, none⟩, ⟨some 7, (Op.assign (Operand.tmp 25)), 22, none⟩, ⟨some 8, (Op.assign (Operand.tmp 26)), 25, none⟩] (Q .normal ds) σ w := mk_eq rfl
@[push_cast] theorem vr6_4 (Q : Post) (ds : List Deferred) (σ : Env) (w : World) : vc Try.prog (.region r6_4) Q ds σ w = vcOps Try.prog [⟨some 28, (Op.move (Operand.tmp 0)), 24, none⟩, ⟨some 29, (Op.move (Operand.tmp 1)), 3, none⟩, ⟨some 30, (Op.indexAddr 35 (Operand.tmp 5) (Operand.const (Value.int IntKind.i64 0))), 0, none⟩, ⟨some 31, (Op.load 3 (Operand.tmp 30)), 3, none⟩, ⟨some 32, (Op.call { callee := (Callee.value (Operand.func 21)), args := #[(Operand.tmp 28), (Operand.tmp 29), (Operand.tmp 31)], argTypes := #[24, 3, 3] }), 36, none⟩, ⟨some 27, (Op.move (Operand.tmp 32)), 36, none⟩, ⟨some 33, (Op.extract (Operand.tmp 27) 0), 22, none⟩, ⟨some 34, (Op.extract (Operand.tmp 27) 1), 25, none⟩, ⟨some 9, (Op.assign (Operand.tmp 33)), 22, none⟩, ⟨some 10, (Op.assign (Operand.tmp 34)), 25, none⟩] (Q .normal ds) σ w := mk_eq rfl
@[push_cast] theorem vr6_5 (Q : Post) (ds : List Deferred) (σ : Env) (w : World) : vc Try.prog (.region r6_5) Q ds σ w = vcOps Try.prog [⟨some 36, (Op.move (Operand.tmp 0)), 24, none⟩, ⟨some 37, (Op.indexAddr 35 (Operand.tmp 5) (Operand.const (Value.int IntKind.i64 1))), 0, none⟩, ⟨some 38, (Op.load 3 (Operand.tmp 37)), 3, none⟩, ⟨some 39, (Op.indexAddr 35 (Operand.tmp 5) (Operand.const (Value.int IntKind.i64 0))), 0, none⟩, ⟨some 40, (Op.load 3 (Operand.tmp 39)), 3, none⟩, ⟨some 41, (Op.call { callee := (Callee.value (Operand.func 22)), args := #[(Operand.tmp 36), (Operand.tmp 38), (Operand.tmp 40)], argTypes := #[24, 3, 3] }), 38, none⟩, ⟨some 35, (Op.move (Operand.tmp 41)), 38, none⟩, ⟨some 42, (Op.extract (Operand.tmp 35) 0), 32, none⟩, ⟨some 43, (Op.extract (Operand.tmp 35) 1), 25, none⟩, ⟨some 11, (Op.assign (Operand.tmp 42)), 32, none⟩, ⟨some 12, (Op.assign (Operand.tmp 43)), 25, none⟩] (Q .normal ds) σ w := mk_eq rfl
@[push_cast] theorem vr6_6 (Q : Post) (ds : List Deferred) (σ : Env) (w : World) : vc Try.prog (.region r6_6) Q ds σ w = vcOps Try.prog [⟨some 45, (Op.move (Operand.tmp 0)), 24, none⟩, ⟨some 46, (Op.indexAddr 35 (Operand.tmp 5) (Operand.const (Value.int IntKind.i64 1))), 0, none⟩, ⟨some 47, (Op.load 3 (Operand.tmp 46)), 3, none⟩, ⟨some 48, (Op.indexAddr 35 (Operand.tmp 5) (Operand.const (Value.int IntKind.i64 0))), 0, none⟩, ⟨some 49, (Op.load 3 (Operand.tmp 48)), 3, none⟩, ⟨some 50, (Op.call { callee := (Callee.value (Operand.func 23)), args := #[(Operand.tmp 45), (Operand.tmp 47), (Operand.tmp 49)], argTypes := #[24, 3, 3] }), 38, none⟩, ⟨some 44, (Op.move (Operand.tmp 50)), 38, none⟩, ⟨some 51, (Op.extract (Operand.tmp 44) 0), 32, none⟩, ⟨some 52, (Op.extract (Operand.tmp 44) 1), 25, none⟩, ⟨some 13, (Op.assign (Operand.tmp 51)), 32, none⟩, ⟨some 14, (Op.assign (Operand.tmp 52)), 25, none⟩] (Q .normal ds) σ w := mk_eq rfl
@[push_cast] theorem vr6_7 (Q : Post) (ds : List Deferred) (σ : Env) (w : World) : vc Try.prog (.region r6_7) Q ds σ w = vcOps Try.prog [⟨some 53, (Op.call { callee := (Callee.value (Operand.func 13)), args := #[], argTypes := #[] }), 4, none⟩, ⟨some 54, (Op.move (Operand.tmp 53)), 4, none⟩, ⟨some 55, (Op.move (Operand.tmp 7)), 22, some (54, true)⟩, ⟨some 56, (Op.move (Operand.tmp 9)), 22, some (54, true)⟩, ⟨some 57, (Op.call { callee := (Callee.value (Operand.func 24)), args := #[(Operand.tmp 55), (Operand.tmp 56)], argTypes := #[22, 22] }), 4, some (54, true)⟩, ⟨some 58, (Op.pick (Operand.tmp 54) (Operand.tmp 57) (Operand.const (Value.bool false))), 4, none⟩, ⟨some 59, (Op.move (Operand.tmp 58)), 4, none⟩, ⟨some 60, (Op.move (Operand.tmp 8)), 25, some (59, true)⟩, ⟨some 61, (Op.move (Operand.tmp 10)), 25, some (59, true)⟩, ⟨some 62, (Op.binOp BinOp.eql 25 (Operand.tmp 60) (Operand.tmp 61) 25), 4, some (59, true)⟩, ⟨some 63, (Op.pick (Operand.tmp 59) (Operand.tmp 62) (Operand.const (Value.bool false))), 4, none⟩, ⟨some 64, (Op.move (Operand.tmp 63)), 4, none⟩, ⟨some 65, (Op.move (Operand.tmp 11)), 32, some (64, true)⟩, ⟨some 66, (Op.move (Operand.tmp 13)), 32, some (64, true)⟩, ⟨some 67, (Op.binOp BinOp.eql 32 (Operand.tmp 65) (Operand.tmp 66) 32), 4, some (64, true)⟩, ⟨some 68, (Op.pick (Operand.tmp 64) (Operand.tmp 67) (Operand.const (Value.bool false))), 4, none⟩, ⟨some 69, (Op.move (Operand.tmp 68)), 4, none⟩, ⟨some 70, (Op.move (Operand.tmp 12)), 25, some (69, true)⟩, ⟨some 71, (Op.move (Operand.tmp 14)), 25, some (69, true)⟩, ⟨some 72, (Op.binOp BinOp.eql 25 (Operand.tmp 70) (Operand.tmp 71) 25), 4, some (69, true)⟩, ⟨some 73, (Op.pick (Operand.tmp 69) (Operand.tmp 72) (Operand.const (Value.bool false))), 4, none⟩, ⟨some 6, (Op.assign (Operand.tmp 73)), 4, none⟩] (Q .normal ds) σ w := mk_eq rfl
/-! 7 columbary/columbarylaw07.NibbleBack (params #[22, 3, 24], results #[(ResultVar.tmp 6)], 123 slots) -/
def W7_0 : List Nat := [6, 12, 13, 14, 61, 62, 63, 64, 65, 66, 67, 68, 69, 70, 71, 72, 73, 74, 75, 76, 77, 78, 79, 80, 81, 82, 83]
@[push_cast] theorem W7_0_def : W7_0 = [6, 12, 13, 14, 61, 62, 63, 64, 65, 66, 67, 68, 69, 70, 71, 72, 73, 74, 75, 76, 77, 78, 79, 80, 81, 82, 83] := mk_eq rfl
def r7_0 : List VOp :=
  [⟨some 6, (Op.assign (Operand.const (Value.bool false))), 4, none⟩]
def r7_1 : List VOp :=
  [⟨some 20, (Op.move (Operand.tmp 0)), 22, none⟩,
   ⟨some 21, (Op.call { callee := (Callee.builtin Builtin.len), args := #[(Operand.tmp 20)], argTypes := #[22] }), 3, none⟩,
   ⟨some 22, (Op.binOp BinOp.gtr 3 (Operand.tmp 21) (Operand.const (Value.int IntKind.i64 300)) 3), 4, none⟩,
   ⟨some 23, (Op.move (Operand.tmp 22)), 4, none⟩,
   ⟨some 24, (Op.move (Operand.tmp 2)), 24, some (23, false)⟩,
   ⟨some 25, (Op.call { callee := (Callee.builtin Builtin.len), args := #[(Operand.tmp 24)], argTypes := #[24] }), 3, some (23, false)⟩,
   ⟨some 26, (Op.binOp BinOp.gtr 3 (Operand.tmp 25) (Operand.const (Value.int IntKind.i64 300)) 3), 4, some (23, false)⟩,
   ⟨some 27, (Op.pick (Operand.tmp 23) (Operand.const (Value.bool true)) (Operand.tmp 26)), 4, none⟩]
def r7_2 : List VOp :=
  [⟨some 28, (Op.call { callee := (Callee.value (Operand.func 13)), args := #[], argTypes := #[] }), 4, none⟩,
   ⟨some 6, (Op.assign (Operand.tmp 28)), 4, none⟩]
def r7_3 : List VOp :=
  [⟨some 29, (Op.move (Operand.tmp 0)), 22, none⟩,
   ⟨some 30, (Op.call { callee := (Callee.value (Operand.func 18)), args := #[(Operand.tmp 29)], argTypes := #[22] }), 3, none⟩,
   ⟨some 31, (Op.move (Operand.tmp 1)), 3, none⟩,
   ⟨some 32, (Op.binOp BinOp.and 3 (Operand.tmp 31) (Operand.const (Value.int IntKind.i64 7)) 3), 3, none⟩,
   ⟨some 33, (Op.binOp BinOp.add 3 (Operand.tmp 30) (Operand.tmp 32) 3), 3, none⟩,
   ⟨some 34, (Op.call { callee := (Callee.builtin Builtin.min), args := #[(Operand.tmp 33), (Operand.const (Value.int IntKind.i64 64))], argTypes := #[3, 3] }), 3, none⟩,
   ⟨some 7, (Op.assign (Operand.tmp 34)), 3, none⟩]
def r7_4 : List VOp :=
  [⟨some 36, (Op.move (Operand.tmp 0)), 22, none⟩,
   ⟨some 37, (Op.move (Operand.tmp 7)), 3, none⟩,
   ⟨some 38, (Op.call { callee := (Callee.value (Operand.func 14)), args := #[(Operand.tmp 36), (Operand.tmp 37)], argTypes := #[22, 3] }), 26, none⟩,
   ⟨some 35, (Op.move (Operand.tmp 38)), 26, none⟩,
   ⟨some 39, (Op.extract (Operand.tmp 35) 0), 24, none⟩,
   ⟨some 40, (Op.extract (Operand.tmp 35) 1), 25, none⟩,
   ⟨some 8, (Op.assign (Operand.tmp 39)), 24, none⟩,
   ⟨some 9, (Op.assign (Operand.tmp 40)), 25, none⟩]
def r7_5 : List VOp :=
  [⟨some 42, (Op.move (Operand.tmp 8)), 24, none⟩,
   ⟨some 43, (Op.move (Operand.tmp 0)), 22, none⟩,
   ⟨some 44, (Op.call { callee := (Callee.builtin Builtin.len), args := #[(Operand.tmp 43)], argTypes := #[22] }), 3, none⟩,
   ⟨some 45, (Op.move (Operand.tmp 7)), 3, none⟩,
   ⟨some 46, (Op.call { callee := (Callee.value (Operand.func 20)), args := #[(Operand.tmp 42), (Operand.tmp 44), (Operand.tmp 45)], argTypes := #[24, 3, 3] }), 36, none⟩,
   ⟨some 41, (Op.move (Operand.tmp 46)), 36, none⟩,
   ⟨some 47, (Op.extract (Operand.tmp 41) 0), 22, none⟩,
   ⟨some 48, (Op.extract (Operand.tmp 41) 1), 25, none⟩,
   ⟨some 10, (Op.assign (Operand.tmp 47)), 22, none⟩,
   ⟨some 11, (Op.assign (Operand.tmp 48)), 25, none⟩]
def r7_6 : List VOp :=
  [⟨some 49, (Op.move (Operand.tmp 9)), 25, none⟩,
   ⟨some 50, (Op.binOp BinOp.neq 25 (Operand.tmp 49) (Operand.const (Value.int IntKind.i64 0)) 25), 4, none⟩,
   ⟨some 51, (Op.move (Operand.tmp 50)), 4, none⟩,
   ⟨some 52, (Op.move (Operand.tmp 11)), 25, some (51, false)⟩,
   ⟨some 53, (Op.binOp BinOp.neq 25 (Operand.tmp 52) (Operand.const (Value.int IntKind.i64 0)) 25), 4, some (51, false)⟩,
   ⟨some 54, (Op.pick (Operand.tmp 51) (Operand.const (Value.bool true)) (Operand.tmp 53)), 4, none⟩,
   ⟨some 55, (Op.move (Operand.tmp 54)), 4, none⟩,
   ⟨some 56, (Op.move (Operand.tmp 10)), 22, some (55, false)⟩,
   ⟨some 57, (Op.move (Operand.tmp 0)), 22, some (55, false)⟩,
   ⟨some 58, (Op.call { callee := (Callee.value (Operand.func 24)), args := #[(Operand.tmp 56), (Operand.tmp 57)], argTypes := #[22, 22] }), 4, some (55, false)⟩,
   ⟨some 59, (Op.unOp UnOp.not 4 (Operand.tmp 58)), 4, some (55, false)⟩,
   ⟨some 60, (Op.pick (Operand.tmp 55) (Operand.const (Value.bool true)) (Operand.tmp 59)), 4, none⟩]
def r7_7 : List VOp :=
  [⟨some 6, (Op.assign (Operand.const (Value.bool false))), 4, none⟩]
def r7_8 : List VOp :=
  [⟨some 12, (Op.assign (Operand.const (Value.int IntKind.i64 0))), 3, none⟩]
def r7_9 : List VOp :=
  [⟨some 61, (Op.move (Operand.tmp 12)), 3, none⟩,
   ⟨some 62, (Op.move (Operand.tmp 0)), 22, none⟩,
   ⟨some 63, (Op.call { callee := (Callee.builtin Builtin.len), args := #[(Operand.tmp 62)], argTypes := #[22] }), 3, none⟩,
   ⟨some 64, (Op.binOp BinOp.lss 3 (Operand.tmp 61) (Operand.tmp 63) 3), 4, none⟩]
def r7_11 : List VOp :=
  [⟨some 68, (Op.move (Operand.tmp 8)), 24, none⟩,
   ⟨some 69, (Op.move (Operand.tmp 12)), 3, none⟩,
   ⟨some 70, (Op.move (Operand.tmp 7)), 3, none⟩,
   ⟨some 71, (Op.call { callee := (Callee.value (Operand.func 22)), args := #[(Operand.tmp 68), (Operand.tmp 69), (Operand.tmp 70)], argTypes := #[24, 3, 3] }), 38, none⟩,
   ⟨some 67, (Op.move (Operand.tmp 71)), 38, none⟩,
   ⟨some 72, (Op.extract (Operand.tmp 67) 0), 32, none⟩,
   ⟨some 73, (Op.extract (Operand.tmp 67) 1), 25, none⟩,
   ⟨some 13, (Op.assign (Operand.tmp 72)), 32, none⟩,
   ⟨some 14, (Op.assign (Operand.tmp 73)), 25, none⟩]
def r7_12 : List VOp :=
  [⟨some 74, (Op.move (Operand.tmp 14)), 25, none⟩,
   ⟨some 75, (Op.binOp BinOp.neq 25 (Operand.tmp 74) (Operand.const (Value.int IntKind.i64 0)) 25), 4, none⟩,
   ⟨some 76, (Op.move (Operand.tmp 75)), 4, none⟩,
   ⟨some 77, (Op.move (Operand.tmp 13)), 32, some (76, false)⟩,
   ⟨some 78, (Op.move (Operand.tmp 0)), 22, some (76, false)⟩,
   ⟨some 79, (Op.move (Operand.tmp 12)), 3, some (76, false)⟩,
   ⟨some 80, (Op.indexAddr 22 (Operand.tmp 78) (Operand.tmp 79)), 0, some (76, false)⟩,
   ⟨some 81, (Op.load 32 (Operand.tmp 80)), 32, some (76, false)⟩,
   ⟨some 82, (Op.binOp BinOp.neq 32 (Operand.tmp 77) (Operand.tmp 81) 32), 4, some (76, false)⟩,
   ⟨some 83, (Op.pick (Operand.tmp 76) (Operand.const (Value.bool true)) (Operand.tmp 82)), 4, none⟩]
def r7_13 : List VOp :=
  [⟨some 6, (Op.assign (Operand.const (Value.bool false))), 4, none⟩]
def r7_10 : List VOp :=
  [⟨some 65, (Op.move (Operand.tmp 12)), 3, none⟩,
   ⟨some 66, (Op.binOp BinOp.add 3 (Operand.tmp 65) (Operand.const (Value.int IntKind.i64 1)) 3), 3, none⟩,
   ⟨some 12, (Op.assign (Operand.tmp 66)), 3, none⟩]
def r7_14 : List VOp :=
  [⟨some 15, (Op.assign (Operand.const (Value.int IntKind.i64 0))), 3, none⟩]
def r7_15 : List VOp :=
  [⟨some 84, (Op.move (Operand.tmp 7)), 3, none⟩,
   ⟨some 85, (Op.binOp BinOp.gtr 3 (Operand.tmp 84) (Operand.const (Value.int IntKind.i64 0)) 3), 4, none⟩]
def r7_16 : List VOp :=
  [⟨some 86, (Op.move (Operand.tmp 2)), 24, none⟩,
   ⟨some 87, (Op.call { callee := (Callee.builtin Builtin.len), args := #[(Operand.tmp 86)], argTypes := #[24] }), 3, none⟩,
   ⟨some 88, (Op.binOp BinOp.mul 3 (Operand.const (Value.int IntKind.i64 8)) (Operand.tmp 87) 3), 3, none⟩,
   ⟨some 89, (Op.move (Operand.tmp 7)), 3, none⟩,
   ⟨some 90, (Op.binOp BinOp.quo 3 (Operand.tmp 88) (Operand.tmp 89) 3), 3, none⟩,
   ⟨some 15, (Op.assign (Operand.tmp 90)), 3, none⟩]
def r7_17 : List VOp :=
  [⟨some 92, (Op.move (Operand.tmp 2)), 24, none⟩,
   ⟨some 93, (Op.move (Operand.tmp 15)), 3, none⟩,
   ⟨some 94, (Op.move (Operand.tmp 7)), 3, none⟩,
   ⟨some 95, (Op.call { callee := (Callee.value (Operand.func 20)), args := #[(Operand.tmp 92), (Operand.tmp 93), (Operand.tmp 94)], argTypes := #[24, 3, 3] }), 36, none⟩,
   ⟨some 91, (Op.move (Operand.tmp 95)), 36, none⟩,
   ⟨some 96, (Op.extract (Operand.tmp 91) 0), 22, none⟩,
   ⟨some 97, (Op.extract (Operand.tmp 91) 1), 25, none⟩,
   ⟨some 16, (Op.assign (Operand.tmp 96)), 22, none⟩,
   ⟨some 17, (Op.assign (Operand.tmp 97)), 25, none⟩]
def r7_18 : List VOp :=
  [⟨some 98, (Op.move (Operand.tmp 17)), 25, none⟩,
   ⟨some 99, (Op.binOp BinOp.neq 25 (Operand.tmp 98) (Operand.const (Value.int IntKind.i64 0)) 25), 4, none⟩]
def r7_19 : List VOp :=
  [⟨some 100, (Op.call { callee := (Callee.value (Operand.func 13)), args := #[], argTypes := #[] }), 4, none⟩,
   ⟨some 101, (Op.move (Operand.tmp 100)), 4, none⟩,
   ⟨some 102, (Op.move (Operand.tmp 17)), 25, some (101, true)⟩,
   ⟨some 103, (Op.binOp BinOp.eql 25 (Operand.tmp 102) (Operand.const (Value.int IntKind.i64 71)) 25), 4, some (101, true)⟩,
   ⟨some 104, (Op.pick (Operand.tmp 101) (Operand.tmp 103) (Operand.const (Value.bool false))), 4, none⟩,
   ⟨some 6, (Op.assign (Operand.tmp 104)), 4, none⟩]
def r7_20 : List VOp :=
  [⟨some 106, (Op.move (Operand.tmp 16)), 22, none⟩,
   ⟨some 107, (Op.move (Operand.tmp 7)), 3, none⟩,
   ⟨some 108, (Op.call { callee := (Callee.value (Operand.func 14)), args := #[(Operand.tmp 106), (Operand.tmp 107)], argTypes := #[22, 3] }), 26, none⟩,
   ⟨some 105, (Op.move (Operand.tmp 108)), 26, none⟩,
   ⟨some 109, (Op.extract (Operand.tmp 105) 0), 24, none⟩,
   ⟨some 110, (Op.extract (Operand.tmp 105) 1), 25, none⟩,
   ⟨some 18, (Op.assign (Operand.tmp 109)), 24, none⟩,
   ⟨some 19, (Op.assign (Operand.tmp 110)), 25, none⟩]
def r7_21 : List VOp :=
  [⟨some 111, (Op.call { callee := (Callee.value (Operand.func 13)), args := #[], argTypes := #[] }), 4, none⟩,
   ⟨some 112, (Op.move (Operand.tmp 111)), 4, none⟩,
   ⟨some 113, (Op.move (Operand.tmp 19)), 25, some (112, true)⟩,
   ⟨some 114, (Op.binOp BinOp.eql 25 (Operand.tmp 113) (Operand.const (Value.int IntKind.i64 0)) 25), 4, some (112, true)⟩,
   ⟨some 115, (Op.pick (Operand.tmp 112) (Operand.tmp 114) (Operand.const (Value.bool false))), 4, none⟩,
   ⟨some 116, (Op.move (Operand.tmp 115)), 4, none⟩,
   ⟨some 117, (Op.move (Operand.tmp 18)), 24, some (116, true)⟩,
   ⟨some 118, (Op.convert 24 9 (Operand.tmp 117)), 9, some (116, true)⟩,
   ⟨some 119, (Op.move (Operand.tmp 2)), 24, some (116, true)⟩,
   ⟨some 120, (Op.convert 24 9 (Operand.tmp 119)), 9, some (116, true)⟩,
   ⟨some 121, (Op.binOp BinOp.eql 9 (Operand.tmp 118) (Operand.tmp 120) 9), 4, some (116, true)⟩,
   ⟨some 122, (Op.pick (Operand.tmp 116) (Operand.tmp 121) (Operand.const (Value.bool false))), 4, none⟩,
   ⟨some 6, (Op.assign (Operand.tmp 122)), 4, none⟩]
def B7 : VC :=
  (.seq (.region r7_0) (.seq (.seq (.region r7_1) (.cond (Operand.tmp 27) (.seq (.region r7_2) .ret) .skip)) (.seq (.region r7_3) (.seq (.region r7_4) (.seq (.region r7_5) (.seq (.seq (.region r7_6) (.cond (Operand.tmp 60) (.seq (.region r7_7) .ret) .skip)) (.seq (.seq (.region r7_8) (.block 0 (.loop (.seq (.seq (.region r7_9) (.cond (Operand.tmp 64) .skip (.exit 0))) (.seq (.block 1 (.seq (.region r7_11) (.seq (.region r7_12) (.cond (Operand.tmp 83) (.seq (.region r7_13) .ret) .skip)))) (.region r7_10)))))) (.seq (.region r7_14) (.seq (.seq (.region r7_15) (.cond (Operand.tmp 85) (.region r7_16) .skip)) (.seq (.region r7_17) (.seq (.seq (.region r7_18) (.cond (Operand.tmp 99) (.seq (.region r7_19) .ret) .skip)) (.seq (.region r7_20) (.seq (.region r7_21) .ret)))))))))))))
theorem code7 : ∃ c, Try.f7.body = some c ∧ abs Try.f7.ntmps c = B7 := ⟨_, rfl, by kernel_rfl⟩
theorem hb7 : HasBody Try.prog 7 := hasBody_of Try.func7 (by kernel_rfl)
theorem res7 : Try.f7.results = #[(ResultVar.tmp 6)] := rfl
theorem enter7 {w : World} {R : Value → World → Prop} (x0 x1 x2 : Value) (h : vc Try.prog B7 (retK Try.prog #[(ResultVar.tmp 6)] R) [] (initEnv [x0, x1, x2] 0) w) : FnC Try.prog 7 #[x0, x1, x2] w R := by
  obtain ⟨c, h1, h2⟩ := code7
  exact hb7.fn (ret_of_vc mixed Try.func7 h1 (Nat.le_of_ble_eq_true rfl) B7 h2 h)
@[push_cast] theorem vr7_0 (Q : Post) (ds : List Deferred) (σ : Env) (w : World) : vc Try.prog (.region r7_0) Q ds σ w = vcOps Try.prog [⟨some 6, (Op.assign (Operand.const (Value.bool false))), 4, none⟩] (Q .normal ds) σ w := mk_eq rfl
@[push_cast] theorem vr7_1 (Q : Post) (ds : List Deferred) (σ : Env) (w : World) : vc Try.prog (.region r7_1) Q ds σ w = vcOps Try.prog [⟨some 20, (Op.move (Operand.tmp 0)), 22, none⟩, ⟨some 21, (Op.call { callee := (Callee.builtin Builtin.len), args := #[(Operand.tmp 20)], argTypes := #[22] }), 3, none⟩, ⟨some 22, (Op.binOp BinOp.gtr 3 (Operand.tmp 21) (Operand.const (Value.int IntKind.i64 300)) 3), 4, none⟩, ⟨some 23, (Op.move (Operand.tmp 22)), 4, none⟩, ⟨some 24, (Op.move (Operand.tmp 2)), 24, some (23, false)⟩, ⟨some 25, (Op.call { callee := (Callee.builtin Builtin.len), args := #[(Operand.tmp 24)], argTypes := #[24] }), 3, some (23, false)⟩, ⟨some 26, (Op.binOp BinOp.gtr 3 (Operand.tmp 25) (Operand.const (Value.int IntKind.i64 300)) 3), 4, some (23, false)⟩, ⟨some 27, (Op.pick (Operand.tmp 23) (Operand.const (Value.bool true)) (Operand.tmp 26)), 4, none⟩] (Q .normal ds) σ w := mk_eq rfl
@[push_cast] theorem vr7_2 (Q : Post) (ds : List Deferred) (σ : Env) (w : World) : vc Try.prog (.region r7_2) Q ds σ w = vcOps Try.prog [⟨some 28, (Op.call { callee := (Callee.value (Operand.func 13)), args := #[], argTypes := #[] }), 4, none⟩, ⟨some 6, (Op.assign (Operand.tmp 28)), 4, none⟩] (Q .normal ds) σ w := mk_eq rfl
@[push_cast] theorem vr7_3 (Q : Post) (ds : List Deferred) (σ : Env) (w : World) : vc Try.prog (.region r7_3) Q ds σ w = vcOps Try.prog [⟨some 29, (Op.move (Operand.tmp 0)), 22, none⟩, ⟨some 30, (Op.call { callee := (Callee.value (Operand.func 18)), args := #[(Operand.tmp 29)], argTypes := #[22] }), 3, none⟩, ⟨some 31, (Op.move (Operand.tmp 1)), 3, none⟩, ⟨some 32, (Op.binOp BinOp.and 3 (Operand.tmp 31) (Operand.const (Value.int IntKind.i64 7)) 3), 3, none⟩, ⟨some 33, (Op.binOp BinOp.add 3 (Operand.tmp 30) (Operand.tmp 32) 3), 3, none⟩, ⟨some 34, (Op.call { callee := (Callee.builtin Builtin.min), args := #[(Operand.tmp 33), (Operand.const (Value.int IntKind.i64 64))], argTypes := #[3, 3] }), 3, none⟩, ⟨some 7, (Op.assign (Operand.tmp 34)), 3, none⟩] (Q .normal ds) σ w := mk_eq rfl
@[push_cast] theorem vr7_4 (Q : Post) (ds : List Deferred) (σ : Env) (w : World) : vc Try.prog (.region r7_4) Q ds σ w = vcOps Try.prog [⟨some 36, (Op.move (Operand.tmp 0)), 22, none⟩, ⟨some 37, (Op.move (Operand.tmp 7)), 3, none⟩, ⟨some 38, (Op.call { callee := (Callee.value (Operand.func 14)), args := #[(Operand.tmp 36), (Operand.tmp 37)], argTypes := #[22, 3] }), 26, none⟩, ⟨some 35, (Op.move (Operand.tmp 38)), 26, none⟩, ⟨some 39, (Op.extract (Operand.tmp 35) 0), 24, none⟩, ⟨some 40, (Op.extract (Operand.tmp 35) 1), 25, none⟩, ⟨some 8, (Op.assign (Operand.tmp 39)), 24, none⟩, ⟨some 9, (Op.assign (Operand.tmp 40)), 25, none⟩] (Q .normal ds) σ w := mk_eq rfl
@[push_cast] theorem vr7_5 (Q : Post) (ds : List Deferred) (σ : Env) (w : World) : vc Try.prog (.region r7_5) Q ds σ w = vcOps Try.prog [⟨some 42, (Op.move (Operand.tmp 8)), 24, none⟩, ⟨some 43, (Op.move (Operand.tmp 0)), 22, none⟩, ⟨some 44, (Op.call { callee := (Callee.builtin Builtin.len), args := #[(Operand.tmp 43)], argTypes := #[22] }), 3, none⟩, ⟨some 45, (Op.move (Operand.tmp 7)), 3, none⟩, ⟨some 46, (Op.call { callee := (Callee.value (Operand.func 20)), args := #[(Operand.tmp 42), (Operand.tmp 44), (Operand.tmp 45)], argTypes := #[24, 3, 3] }), 36, none⟩, ⟨some 41, (Op.move (Operand.tmp 46)), 36, none⟩, ⟨some 47, (Op.extract (Operand.tmp 41) 0), 22, none⟩, ⟨some 48, (Op.extract (Operand.tmp 41) 1), 25, none⟩, ⟨some 10, (Op.assign (Operand.tmp 47)), 22, none⟩, ⟨some 11, (Op.assign (Operand.tmp 48)), 25, none⟩] (Q .normal ds) σ w := mk_eq rfl
@[push_cast] theorem vr7_6 (Q : Post) (ds : List Deferred) (σ : Env) (w : World) : vc Try.prog (.region r7_6) Q ds σ w = vcOps Try.prog [⟨some 49, (Op.move (Operand.tmp 9)), 25, none⟩, ⟨some 50, (Op.binOp BinOp.neq 25 (Operand.tmp 49) (Operand.const (Value.int IntKind.i64 0)) 25), 4, none⟩, ⟨some 51, (Op.move (Operand.tmp 50)), 4, none⟩, ⟨some 52, (Op.move (Operand.tmp 11)), 25, some (51, false)⟩, ⟨some 53, (Op.binOp BinOp.neq 25 (Operand.tmp 52) (Operand.const (Value.int IntKind.i64 0)) 25), 4, some (51, false)⟩, ⟨some 54, (Op.pick (Operand.tmp 51) (Operand.const (Value.bool true)) (Operand.tmp 53)), 4, none⟩, ⟨some 55, (Op.move (Operand.tmp 54)), 4, none⟩, ⟨some 56, (Op.move (Operand.tmp 10)), 22, some (55, false)⟩, ⟨some 57, (Op.move (Operand.tmp 0)), 22, some (55, false)⟩, ⟨some 58, (Op.call { callee := (Callee.value (Operand.func 24)), args := #[(Operand.tmp 56), (Operand.tmp 57)], argTypes := #[22, 22] }), 4, some (55, false)⟩, ⟨some 59, (Op.unOp UnOp.not 4 (Operand.tmp 58)), 4, some (55, false)⟩, ⟨some 60, (Op.pick (Operand.tmp 55) (Operand.const (Value.bool true)) (Operand.tmp 59)), 4, none⟩] (Q .normal ds) σ w := mk_eq rfl
@[push_cast] theorem vr7_7 (Q : Post) (ds : List Deferred) (σ : Env) (w : World) : vc Try.prog (.region r7_7) Q ds σ w = vcOps Try.prog [⟨some 6, (Op.assign (Operand.const (Value.bool false))), 4, none⟩] (Q .normal ds) σ w := mk_eq rfl
@[push_cast] theorem vr7_8 (Q : Post) (ds : List Deferred) (σ : Env) (w : World) : vc Try.prog (.region r7_8) Q ds σ w = vcOps Try.prog [⟨some 12, (Op.assign (Operand.const (Value.int IntKind.i64 0))), 3, none⟩] (Q .normal ds) σ w := mk_eq rfl
@[push_cast] theorem vr7_9 (Q : Post) (ds : List Deferred) (σ : Env) (w : World) : vc Try.prog (.region r7_9) Q ds σ w = vcOps Try.prog [⟨some 61, (Op.move (Operand.tmp 12)), 3, none⟩, ⟨some 62, (Op.move (Operand.tmp 0)), 22, none⟩, ⟨some 63, (Op.call { callee := (Callee.builtin Builtin.len), args := #[(Operand.tmp 62)], argTypes := #[22] }), 3, none⟩, ⟨some 64, (Op.binOp BinOp.lss 3 (Operand.tmp 61) (Operand.tmp 63) 3), 4, none⟩] (Q .normal ds) σ w := mk_eq rfl
@[push_cast] theorem vr7_11 (Q : Post) (ds : List Deferred) (σ : Env) (w : World) : vc Try.prog (.region r7_11) Q ds σ w = vcOps Try.prog [⟨some 68, (Op.move (Operand.tmp 8)), 24, none⟩, ⟨some 69, (Op.move (Operand.tmp 12)), 3, none⟩, ⟨some 70, (Op.move (Operand.tmp 7)), 3, none⟩, ⟨some 71, (Op.call { callee := (Callee.value (Operand.func 22)), args := #[(Operand.tmp 68), (Operand.tmp 69), (Operand.tmp 70)], argTypes := #[24, 3, 3] }), 38, none⟩, ⟨some 67, (Op.move (Operand.tmp 71)), 38, none⟩, ⟨some 72, (Op.extract (Operand.tmp 67) 0), 32, none⟩, ⟨some 73, (Op.extract (Operand.tmp 67) 1), 25, none⟩, ⟨some 13, (Op.assign (Operand.tmp 72)), 32, none⟩, ⟨some 14, (Op.assign (Operand.tmp 73)), 25, none⟩] (Q .normal ds) σ w := mk_eq rfl
@[push_cast] theorem vr7_12 (Q : Post) (ds : List Deferred) (σ : Env) (w : World) : vc Try.prog (.region r7_12) Q ds σ w = vcOps Try.prog [⟨some 74, (Op.move (Operand.tmp 14)), 25, none⟩, ⟨some 75, (Op.binOp BinOp.neq 25 (Operand.tmp 74) (Operand.const (Value.int IntKind.i64 0)) 25), 4, none⟩, ⟨some 76, (Op.move (Operand.tmp 75)), 4, none⟩, ⟨some 77, (Op.move (Operand.tmp 13)), 32, some (76, false)⟩, ⟨some 78, (Op.move (Operand.tmp 0)), 22, some (76, false)⟩, ⟨some 79, (Op.move (Operand.tmp 12)), 3, some (76, false)⟩, ⟨some 80, (Op.indexAddr 22 (Operand.tmp 78) (Operand.tmp 79)), 0, some (76, false)⟩, ⟨some 81, (Op.load 32 (Operand.tmp 80)), 32, some (76, false)⟩, ⟨some 82, (Op.binOp BinOp.neq 32 (Operand.tmp 77) (Operand.tmp 81) 32), 4, some (76, false)⟩, ⟨some 83, (Op.pick (Operand.tmp 76) (Operand.const (Value.bool true)) (Operand.tmp 82)), 4, none⟩] (Q .normal ds) σ w := mk_eq rfl
@[push_cast] theorem vr7_13 (Q : Post) (ds : List Deferred) (σ : Env) (w : World) : vc Try.prog (.region r7_13) Q ds σ w = vcOps Try.prog [⟨some 6, (Op.assign (Operand.const (Value.bool false))), 4, none⟩] (Q .normal ds) σ w := mk_eq rfl
@[push_cast] theorem vr7_10 (Q : Post) (ds : List Deferred) (σ : Env) (w : World) : vc Try.prog (.region r7_10) Q ds σ w = vcOps Try.prog [⟨some 65, (Op.move (Operand.tmp 12)), 3, none⟩, ⟨some 66, (Op.binOp BinOp.add 3 (Operand.tmp 65) (Operand.const (Value.int IntKind.i64 1)) 3), 3, none⟩, ⟨some 12, (Op.assign (Operand.tmp 66)), 3, none⟩] (Q .normal ds) σ w := mk_eq rfl
@[push_cast] theorem vr7_14 (Q : Post) (ds : List Deferred) (σ : Env) (w : World) : vc Try.prog (.region r7_14) Q ds σ w = vcOps Try.prog [⟨some 15, (Op.assign (Operand.const (Value.int IntKind.i64 0))), 3, none⟩] (Q .normal ds) σ w := mk_eq rfl
@[push_cast] theorem vr7_15 (Q : Post) (ds : List Deferred) (σ : Env) (w : World) : vc Try.prog (.region r7_15) Q ds σ w = vcOps Try.prog [⟨some 84, (Op.move (Operand.tmp 7)), 3, none⟩, ⟨some 85, (Op.binOp BinOp.gtr 3 (Operand.tmp 84) (Operand.const (Value.int IntKind.i64 0)) 3), 4, none⟩] (Q .normal ds) σ w := mk_eq rfl
@[push_cast] theorem vr7_16 (Q : Post) (ds : List Deferred) (σ : Env) (w : World) : vc Try.prog (.region r7_16) Q ds σ w = vcOps Try.prog [⟨some 86, (Op.move (Operand.tmp 2)), 24, none⟩, ⟨some 87, (Op.call { callee := (Callee.builtin Builtin.len), args := #[(Operand.tmp 86)], argTypes := #[24] }), 3, none⟩, ⟨some 88, (Op.binOp BinOp.mul 3 (Operand.const (Value.int IntKind.i64 8)) (Operand.tmp 87) 3), 3, none⟩, ⟨some 89, (Op.move (Operand.tmp 7)), 3, none⟩, ⟨some 90, (Op.binOp BinOp.quo 3 (Operand.tmp 88) (Operand.tmp 89) 3), 3, none⟩, ⟨some 15, (Op.assign (Operand.tmp 90)), 3, none⟩] (Q .normal ds) σ w := mk_eq rfl
@[push_cast] theorem vr7_17 (Q : Post) (ds : List Deferred) (σ : Env) (w : World) : vc Try.prog (.region r7_17) Q ds σ w = vcOps Try.prog [⟨some 92, (Op.move (Operand.tmp 2)), 24, none⟩, ⟨some 93, (Op.move (Operand.tmp 15)), 3, none⟩, ⟨some 94, (Op.move (Operand.tmp 7)), 3, none⟩, ⟨some 95, (Op.call { callee := (Callee.value (Operand.func 20)), args := #[(Operand.tmp 92), (Operand.tmp 93), (Operand.tmp 94)], argTypes := #[24, 3, 3] }), 36, none⟩, ⟨some 91, (Op.move (Operand.tmp 95)), 36, none⟩, ⟨some 96, (Op.extract (Operand.tmp 91) 0), 22, none⟩, ⟨some 97, (Op.extract (Operand.tmp 91) 1), 25, none⟩, ⟨some 16, (Op.assign (Operand.tmp 96)), 22, none⟩, ⟨some 17, (Op.assign (Operand.tmp 97)), 25, none⟩] (Q .normal ds) σ w := mk_eq rfl
@[push_cast] theorem vr7_18 (Q : Post) (ds : List Deferred) (σ : Env) (w : World) : vc Try.prog (.region r7_18) Q ds σ w = vcOps Try.prog [⟨some 98, (Op.move (Operand.tmp 17)), 25, none⟩, ⟨some 99, (Op.binOp BinOp.neq 25 (Operand.tmp 98) (Operand.const (Value.int IntKind.i64 0)) 25), 4, none⟩] (Q .normal ds) σ w := mk_eq rfl
@[push_cast] theorem vr7_19 (Q : Post) (ds : List Deferred) (σ : Env) (w : World) : vc Try.prog (.region r7_19) Q ds σ w = vcOps Try.prog [⟨some 100, (Op.call { callee := (Callee.value (Operand.func 13)), args := #[], argTypes := #[] }), 4, none⟩, ⟨some 101, (Op.move (Operand.tmp 100)), 4, none⟩, ⟨some 102, (Op.move (Operand.tmp 17)), 25, some (101, true)⟩, ⟨some 103, (Op.binOp BinOp.eql 25 (Operand.tmp 102) (Operand.const (Value.int IntKind.i64 71)) 25), 4, some (101, true)⟩, ⟨some 104, (Op.pick (Operand.tmp 101) (Operand.tmp 103) (Operand.const (Value.bool false))), 4, none⟩, ⟨some 6, (Op.assign (Operand.tmp 104)), 4, none⟩] (Q .normal ds) σ w := mk_eq rfl
@[push_cast] theorem vr7_20 (Q : Post) (ds : List Deferred) (σ : Env) (w : World) : vc Try.prog (.region r7_20) Q ds σ w = vcOps Try.prog [⟨some 106, (Op.move (Operand.tmp 16)), 22, none⟩, ⟨some 107, (Op.move (Operand.tmp 7)), 3, none⟩, ⟨some 108, (Op.call { callee := (Callee.value (Operand.func 14)), args := #[(Operand.tmp 106), (Operand.tmp 107)], argTypes := #[22, 3] }), 26, none⟩, ⟨some 105, (Op.move (Operand.tmp 108)), 26, none⟩, ⟨some 109, (Op.extract (Operand.tmp 105) 0), 24, none⟩, ⟨some 110, (Op.extract (Operand.tmp 105) 1), 25, none⟩, ⟨some 18, (Op.assign (Operand.tmp 109)), 24, none⟩, ⟨some 19, (Op.assign (Operand.tmp 110)), 25, none⟩] (Q .normal ds) σ w := mk_eq rfl
@[push_cast] theorem vr7_21 (Q : Post) (ds : List Deferred) (σ : Env) (w : World) : vc Try.prog (.region r7_21) Q ds σ w = vcOps Try.prog [⟨some 111, (Op.call { callee := (Callee.value (Operand.func 13)), args := #[], argTypes := #[] }), 4, none⟩, ⟨some 112, (Op.move (Operand.tmp 111)), 4, none⟩, ⟨some 113, (Op.move (Operand.tmp 19)), 25, some (112, true)⟩, ⟨some 114, (Op.binOp BinOp.eql 25 (Operand.tmp 113) (Operand.const (Value.int IntKind.i64 0)) 25), 4, some (112, true)⟩, ⟨some 115, (Op.pick (Operand.tmp 112) (Operand.tmp 114) (Operand.const (Value.bool false))), 4, none⟩, ⟨some 116, (Op.move (Operand.tmp 115)), 4, none⟩, ⟨some 117, (Op.move (Operand.tmp 18)), 24, some (116, true)⟩, ⟨some 118, (Op.convert 24 9 (Operand.tmp 117)), 9, some (116, true)⟩, ⟨some 119, (Op.move (Operand.tmp 2)), 24, some (116, true)⟩, ⟨some 120, (Op.convert 24 9 (Operand.tmp 119)), 9, some (116, true)⟩, ⟨some 121, (Op.binOp BinOp.eql 9 (Operand.tmp 118) (Operand.tmp 120) 9), 4, some (116, true)⟩, ⟨some 122, (Op.pick (Operand.tmp 116) (Operand.tmp 121) (Operand.const (Value.bool false))), 4, none⟩, ⟨some 6, (Op.assign (Operand.tmp 122)), 4, none⟩] (Q .normal ds) σ w := mk_eq rfl
@[push_cast] theorem bsl22_1_CodesNL {K : Value → World → Prop} {w : World} (x0 : Int) : vBuildSlice Try.prog 22 1 #[(0, (.int .u64 x0))] K w = K (.slice (some ⟨w.heap.size, 0, none⟩) 1 1) (w.alloc (.cells #[(.int .u64 x0)] 32)) :=
  vBuildSlice_ok Try.underlying22 ti32 (by kernel_rfl) (by decide)
end Go.Proofs.Ytkchefbnamiikaa
