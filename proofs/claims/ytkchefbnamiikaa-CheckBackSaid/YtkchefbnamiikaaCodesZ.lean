/- The functions' code in the generator's form. Written by a program (codes.py) out of Lean's own print of the loaded translation. -/
import Derived.Test.YtkchefbnamiikaaTypes
namespace Go.Proofs.Ytkchefbnamiikaa
open Go.Vc
/-! 41 columbary/zig.Int (params #[24, 3], results #[(ResultVar.tmp 4)], 47 slots) -/
def W41_0 : List Nat := [0, 6, 7, 8, 17, 18, 19, 20, 21, 22, 23, 24, 25, 26, 27, 28, 29, 30, 31, 32, 33, 34, 35, 36, 37, 38, 39, 40, 41, 42, 43, 44, 45]
@[push_cast] theorem W41_0_def : W41_0 = [0, 6, 7, 8, 17, 18, 19, 20, 21, 22, 23, 24, 25, 26, 27, 28, 29, 30, 31, 32, 33, 34, 35, 36, 37, 38, 39, 40, 41, 42, 43, 44, 45] := mk_eq rfl
def r41_0 : List VOp :=
  [⟨some 4, (Op.assign (Operand.const (Value.slice none 0 0))), 24, none⟩]
def r41_1 : List VOp :=
  [⟨some 9, (Op.move (Operand.tmp 0)), 24, none⟩,
   ⟨some 10, (Op.move (Operand.tmp 0)), 24, none⟩,
   ⟨some 11, (Op.call { callee := (Callee.builtin Builtin.len), args := #[(Operand.tmp 10)], argTypes := #[24] }), 3, none⟩,
   ⟨some 12, (Op.move (Operand.tmp 0)), 24, none⟩,
   ⟨some 13, (Op.call { callee := (Callee.builtin Builtin.len), args := #[(Operand.tmp 12)], argTypes := #[24] }), 3, none⟩,
   ⟨some 14, (Op.slice 24 (Operand.tmp 9) none (some (Operand.tmp 11)) (some (Operand.tmp 13))), 24, none⟩,
   ⟨some 0, (Op.assign (Operand.tmp 14)), 24, none⟩]
def r41_2 : List VOp :=
  [⟨some 15, (Op.move (Operand.tmp 1)), 3, none⟩,
   ⟨some 16, (Op.call { callee := (Callee.value (Operand.func 50)), args := #[(Operand.tmp 15)], argTypes := #[3] }), 32, none⟩,
   ⟨some 5, (Op.assign (Operand.tmp 16)), 32, none⟩]
def r41_3 : List VOp :=
  [⟨some 17, (Op.move (Operand.const (Value.int IntKind.i64 0))), 3, none⟩]
def r41_4 : List VOp :=
  [⟨some 18, (Op.binOp BinOp.lss 3 (Operand.tmp 17) (Operand.const (Value.int IntKind.i64 10)) 3), 4, none⟩]
def r41_5 : List VOp :=
  [⟨some 19, (Op.move (Operand.tmp 17)), 3, none⟩,
   ⟨some 6, (Op.assign (Operand.tmp 19)), 3, none⟩]
def r41_6 : List VOp :=
  [⟨some 20, (Op.move (Operand.tmp 6)), 3, none⟩,
   ⟨some 21, (Op.binOp BinOp.sub 3 (Operand.const (Value.int IntKind.i64 9)) (Operand.tmp 20) 3), 3, none⟩,
   ⟨some 22, (Op.binOp BinOp.mul 3 (Operand.const (Value.int IntKind.i64 7)) (Operand.tmp 21) 3), 3, none⟩,
   ⟨some 7, (Op.assign (Operand.tmp 22)), 3, none⟩]
def r41_7 : List VOp :=
  [⟨some 23, (Op.move (Operand.tmp 5)), 32, none⟩,
   ⟨some 24, (Op.move (Operand.tmp 7)), 3, none⟩,
   ⟨some 25, (Op.binOp BinOp.shr 32 (Operand.tmp 23) (Operand.tmp 24) 3), 32, none⟩,
   ⟨some 26, (Op.convert 32 5 (Operand.tmp 25)), 5, none⟩,
   ⟨some 27, (Op.binOp BinOp.andNot 5 (Operand.tmp 26) (Operand.const (Value.int IntKind.u8 128)) 5), 5, none⟩,
   ⟨some 8, (Op.assign (Operand.tmp 27)), 5, none⟩]
def r41_8 : List VOp :=
  [⟨some 29, (Op.move (Operand.tmp 7)), 3, none⟩,
   ⟨some 30, (Op.binOp BinOp.eql 3 (Operand.tmp 29) (Operand.const (Value.int IntKind.i64 0)) 3), 4, none⟩,
   ⟨some 28, (Op.assign (Operand.tmp 30)), 4, none⟩]
def r41_9 : List VOp :=
  [⟨some 31, (Op.move (Operand.tmp 0)), 24, none⟩,
   ⟨some 32, (Op.move (Operand.tmp 8)), 5, none⟩,
   ⟨some 33, (Op.buildSlice 24 1 #[(0, (Operand.tmp 32))]), 24, none⟩,
   ⟨some 34, (Op.call { callee := (Callee.builtin Builtin.append), args := #[(Operand.tmp 31), (Operand.tmp 33)], argTypes := #[24, 24] }), 24, none⟩,
   ⟨some 0, (Op.assign (Operand.tmp 34)), 24, none⟩]
def r41_10 : List VOp :=
  [⟨some 36, (Op.move (Operand.tmp 5)), 32, none⟩,
   ⟨some 37, (Op.move (Operand.tmp 7)), 3, none⟩,
   ⟨some 38, (Op.binOp BinOp.shr 32 (Operand.tmp 36) (Operand.tmp 37) 3), 32, none⟩,
   ⟨some 39, (Op.binOp BinOp.gtr 32 (Operand.tmp 38) (Operand.const (Value.int IntKind.u64 0)) 32), 4, none⟩,
   ⟨some 35, (Op.assign (Operand.tmp 39)), 4, none⟩]
def r41_11 : List VOp :=
  [⟨some 40, (Op.move (Operand.tmp 0)), 24, none⟩,
   ⟨some 41, (Op.move (Operand.tmp 8)), 5, none⟩,
   ⟨some 42, (Op.binOp BinOp.or 5 (Operand.tmp 41) (Operand.const (Value.int IntKind.u8 128)) 5), 5, none⟩,
   ⟨some 43, (Op.buildSlice 24 1 #[(0, (Operand.tmp 42))]), 24, none⟩,
   ⟨some 44, (Op.call { callee := (Callee.builtin Builtin.append), args := #[(Operand.tmp 40), (Operand.tmp 43)], argTypes := #[24, 24] }), 24, none⟩,
   ⟨some 0, (Op.assign (Operand.tmp 44)), 24, none⟩]
def r41_12 : List VOp :=
  [⟨some 45, (Op.binOp BinOp.add 3 (Operand.tmp 17) (Operand.const (Value.int IntKind.i64 1)) 3), 3, none⟩,
   ⟨some 17, (Op.move (Operand.tmp 45)), 3, none⟩]
def r41_13 : List VOp :=
  [⟨some 46, (Op.move (Operand.tmp 0)), 24, none⟩,
   ⟨some 4, (Op.assign (Operand.tmp 46)), 24, none⟩]
def B41 : VC :=
  (.seq (.region r41_0) (.seq (.region r41_1) (.seq (.region r41_2) (.seq (.seq (.region r41_3) (.block 0 (.loop (.seq (.region r41_4) (.seq (.cond (Operand.tmp 18) .skip (.exit 0)) (.seq (.block 1 (.seq (.region r41_5) (.seq (.region r41_6) (.seq (.region r41_7) (.block 2 (.seq (.region r41_8) (.cond (Operand.tmp 28) (.region r41_9) (.seq (.region r41_10) (.cond (Operand.tmp 35) (.region r41_11) .skip))))))))) (.region r41_12))))))) (.seq (.region r41_13) .ret)))))
theorem code41 : ∃ c, Try.f41.body = some c ∧ abs Try.f41.ntmps c = B41 := ⟨_, rfl, by kernel_rfl⟩
theorem hb41 : HasBody Try.prog 41 := hasBody_of Try.func41 (by kernel_rfl)
theorem res41 : Try.f41.results = #[(ResultVar.tmp 4)] := rfl
theorem enter41 {w : World} {R : Value → World → Prop} (x0 x1 : Value) (h : vc Try.prog B41 (retK Try.prog #[(ResultVar.tmp 4)] R) [] (initEnv [x0, x1] 0) w) : FnC Try.prog 41 #[x0, x1] w R := by
  obtain ⟨c, h1, h2⟩ := code41
  exact hb41.fn (ret_of_vc mixed Try.func41 h1 (Nat.le_of_ble_eq_true rfl) B41 h2 h)
@[push_cast] theorem vr41_0 (Q : Post) (ds : List Deferred) (σ : Env) (w : World) : vc Try.prog (.region r41_0) Q ds σ w = vcOps Try.prog [⟨some 4, (Op.assign (Operand.const (Value.slice none 0 0))), 24, none⟩] (Q .normal ds) σ w := mk_eq rfl
@[push_cast] theorem vr41_1 (Q : Post) (ds : List Deferred) (σ : Env) (w : World) : vc Try.prog (.region r41_1) Q ds σ w = vcOps Try.prog [⟨some 9, (Op.move (Operand.tmp 0)), 24, none⟩, ⟨some 10, (Op.move (Operand.tmp 0)), 24, none⟩, ⟨some 11, (Op.call { callee := (Callee.builtin Builtin.len), args := #[(Operand.tmp 10)], argTypes := #[24] }), 3, none⟩, ⟨some 12, (Op.move (Operand.tmp 0)), 24, none⟩, ⟨some 13, (Op.call { callee := (Callee.builtin Builtin.len), args := #[(Operand.tmp 12)], argTypes := #[24] }), 3, none⟩, ⟨some 14, (Op.slice 24 (Operand.tmp 9) none (some (Operand.tmp 11)) (some (Operand.tmp 13))), 24, none⟩, ⟨some 0, (Op.assign (Operand.tmp 14)), 24, none⟩] (Q .normal ds) σ w := mk_eq rfl
@[push_cast] theorem vr41_2 (Q : Post) (ds : List Deferred) (σ : Env) (w : World) : vc Try.prog (.region r41_2) Q ds σ w = vcOps Try.prog [⟨some 15, (Op.move (Operand.tmp 1)), 3, none⟩, ⟨some 16, (Op.call { callee := (Callee.value (Operand.func 50)), args := #[(Operand.tmp 15)], argTypes := #[3] }), 32, none⟩, ⟨some 5, (Op.assign (Operand.tmp 16)), 32, none⟩] (Q .normal ds) σ w := mk_eq rfl
@[push_cast] theorem vr41_3 (Q : Post) (ds : List Deferred) (σ : Env) (w : World) : vc Try.prog (.region r41_3) Q ds σ w = vcOps Try.prog [⟨some 17, (Op.move (Operand.const (Value.int IntKind.i64 0))), 3, none⟩] (Q .normal ds) σ w := mk_eq rfl
@[push_cast] theorem vr41_4 (Q : Post) (ds : List Deferred) (σ : Env) (w : World) : vc Try.prog (.region r41_4) Q ds σ w = vcOps Try.prog [⟨some 18, (Op.binOp BinOp.lss 3 (Operand.tmp 17) (Operand.const (Value.int IntKind.i64 10)) 3), 4, none⟩] (Q .normal ds) σ w := mk_eq rfl
@[push_cast] theorem vr41_5 (Q : Post) (ds : List Deferred) (σ : Env) (w : World) : vc Try.prog (.region r41_5) Q ds σ w = vcOps Try.prog [⟨some 19, (Op.move (Operand.tmp 17)), 3, none⟩, ⟨some 6, (Op.assign (Operand.tmp 19)), 3, none⟩] (Q .normal ds) σ w := mk_eq rfl
@[push_cast] theorem vr41_6 (Q : Post) (ds : List Deferred) (σ : Env) (w : World) : vc Try.prog (.region r41_6) Q ds σ w = vcOps Try.prog [⟨some 20, (Op.move (Operand.tmp 6)), 3, none⟩, ⟨some 21, (Op.binOp BinOp.sub 3 (Operand.const (Value.int IntKind.i64 9)) (Operand.tmp 20) 3), 3, none⟩, ⟨some 22, (Op.binOp BinOp.mul 3 (Operand.const (Value.int IntKind.i64 7)) (Operand.tmp 21) 3), 3, none⟩, ⟨some 7, (Op.assign (Operand.tmp 22)), 3, none⟩] (Q .normal ds) σ w := mk_eq rfl
@[push_cast] theorem vr41_7 (Q : Post) (ds : List Deferred) (σ : Env) (w : World) : vc Try.prog (.region r41_7) Q ds σ w = vcOps Try.prog [⟨some 23, (Op.move (Operand.tmp 5)), 32, none⟩, ⟨some 24, (Op.move (Operand.tmp 7)), 3, none⟩, ⟨some 25, (Op.binOp BinOp.shr 32 (Operand.tmp 23) (Operand.tmp 24) 3), 32, none⟩, ⟨some 26, (Op.convert 32 5 (Operand.tmp 25)), 5, none⟩, ⟨some 27, (Op.binOp BinOp.andNot 5 (Operand.tmp 26) (Operand.const (Value.int IntKind.u8 128)) 5), 5, none⟩, ⟨some 8, (Op.assign (Operand.tmp 27)), 5, none⟩] (Q .normal ds) σ w := mk_eq rfl
@[push_cast] theorem vr41_8 (Q : Post) (ds : List Deferred) (σ : Env) (w : World) : vc Try.prog (.region r41_8) Q ds σ w = vcOps Try.prog [⟨some 29, (Op.move (Operand.tmp 7)), 3, none⟩, ⟨some 30, (Op.binOp BinOp.eql 3 (Operand.tmp 29) (Operand.const (Value.int IntKind.i64 0)) 3), 4, none⟩, ⟨some 28, (Op.assign (Operand.tmp 30)), 4, none⟩] (Q .normal ds) σ w := mk_eq rfl
@[push_cast] theorem vr41_9 (Q : Post) (ds : List Deferred) (σ : Env) (w : World) : vc Try.prog (.region r41_9) Q ds σ w = vcOps Try.prog [⟨some 31, (Op.move (Operand.tmp 0)), 24, none⟩, ⟨some 32, (Op.move (Operand.tmp 8)), 5, none⟩, ⟨some 33, (Op.buildSlice 24 1 #[(0, (Operand.tmp 32))]), 24, none⟩, ⟨some 34, (Op.call { callee := (Callee.builtin Builtin.append), args := #[(Operand.tmp 31), (Operand.tmp 33)], argTypes := #[24, 24] }), 24, none⟩, ⟨some 0, (Op.assign (Operand.tmp 34)), 24, none⟩] (Q .normal ds) σ w := mk_eq rfl
@[push_cast] theorem vr41_10 (Q : Post) (ds : List Deferred) (σ : Env) (w : World) : vc Try.prog (.region r41_10) Q ds σ w = vcOps Try.prog [⟨some 36, (Op.move (Operand.tmp 5)), 32, none⟩, ⟨some 37, (Op.move (Operand.tmp 7)), 3, none⟩, ⟨some 38, (Op.binOp BinOp.shr 32 (Operand.tmp 36) (Operand.tmp 37) 3), 32, none⟩, ⟨some 39, (Op.binOp BinOp.gtr 32 (Operand.tmp 38) (Operand.const (Value.int IntKind.u64 0)) 32), 4, none⟩, ⟨some 35, (Op.assign (Operand.tmp 39)), 4, none⟩] (Q .normal ds) σ w := mk_eq rfl
@[push_cast] theorem vr41_11 (Q : Post) (ds : List Deferred) (σ : Env) (w : World) : vc Try.prog (.region r41_11) Q ds σ w = vcOps Try.prog [⟨some 40, (Op.move (Operand.tmp 0)), 24, none⟩, ⟨some 41, (Op.move (Operand.tmp 8)), 5, none⟩, ⟨some 42, (Op.binOp BinOp.or 5 (Operand.tmp 41) (Operand.const (Value.int IntKind.u8 128)) 5), 5, none⟩, ⟨some 43, (Op.buildSlice 24 1 #[(0, (Operand.tmp 42))]), 24, none⟩, ⟨some 44, (Op.call { callee := (Callee.builtin Builtin.append), args := #[(Operand.tmp 40), (Operand.tmp 43)], argTypes := #[24, 24] }), 24, none⟩, ⟨some 0, (Op.assign (Operand.tmp 44)), 24, none⟩] (Q .normal ds) σ w := mk_eq rfl
@[push_cast] theorem vr41_12 (Q : Post) (ds : List Deferred) (σ : Env) (w : World) : vc Try.prog (.region r41_12) Q ds σ w = vcOps Try.prog [⟨some 45, (Op.binOp BinOp.add 3 (Operand.tmp 17) (Operand.const (Value.int IntKind.i64 1)) 3), 3, none⟩, ⟨some 17, (Op.move (Operand.tmp 45)), 3, none⟩] (Q .normal ds) σ w := mk_eq rfl
@[push_cast] theorem vr41_13 (Q : Post) (ds : List Deferred) (σ : Env) (w : World) : vc Try.prog (.region r41_13) Q ds σ w = vcOps Try.prog [⟨some 46, (Op.move (Operand.tmp 0)), 24, none⟩, ⟨some 4, (Op.assign (Operand.tmp 46)), 24, none⟩] (Q .normal ds) σ w := mk_eq rfl
/-! 43 columbary/zig.Open (params #[24], results #[(ResultVar.tmp 2)], 7 slots) -/
def r43_0 : List VOp :=
  [⟨some 2, (Op.assign (Operand.const (Value.pointer none))), 63, none⟩]
def r43_1 : List VOp :=
  [⟨some 3, (Op.move (Operand.tmp 0)), 24, none⟩,
   ⟨some 4, (Op.call { callee := (Callee.value (Operand.func 51)), args := #[(Operand.tmp 3)], argTypes := #[24] }), 24, none⟩,
   ⟨some 5, (Op.build 76 #[(0, (Operand.tmp 4))]), 76, none⟩,
   ⟨some 6, (Op.box 76 (Operand.tmp 5)), 63, none⟩,
   ⟨some 2, (Op.assign (Operand.tmp 6)), 63, none⟩]
def B43 : VC :=
  (.seq (.region r43_0) (.seq (.region r43_1) .ret))
theorem code43 : ∃ c, Try.f43.body = some c ∧ abs Try.f43.ntmps c = B43 := ⟨_, rfl, by kernel_rfl⟩
theorem hb43 : HasBody Try.prog 43 := hasBody_of Try.func43 (by kernel_rfl)
theorem res43 : Try.f43.results = #[(ResultVar.tmp 2)] := rfl
theorem enter43 {w : World} {R : Value → World → Prop} (x0 : Value) (h : vc Try.prog B43 (retK Try.prog #[(ResultVar.tmp 2)] R) [] (initEnv [x0] 0) w) : FnC Try.prog 43 #[x0] w R := by
  obtain ⟨c, h1, h2⟩ := code43
  exact hb43.fn (ret_of_vc mixed Try.func43 h1 (Nat.le_of_ble_eq_true rfl) B43 h2 h)
@[push_cast] theorem vr43_0 (Q : Post) (ds : List Deferred) (σ : Env) (w : World) : vc Try.prog (.region r43_0) Q ds σ w = vcOps Try.prog [⟨some 2, (Op.assign (Operand.const (Value.pointer none))), 63, none⟩] (Q .normal ds) σ w := mk_eq rfl
@[push_cast] theorem vr43_1 (Q : Post) (ds : List Deferred) (σ : Env) (w : World) : vc Try.prog (.region r43_1) Q ds σ w = vcOps Try.prog [⟨some 3, (Op.move (Operand.tmp 0)), 24, none⟩, ⟨some 4, (Op.call { callee := (Callee.value (Operand.func 51)), args := #[(Operand.tmp 3)], argTypes := #[24] }), 24, none⟩, ⟨some 5, (Op.build 76 #[(0, (Operand.tmp 4))]), 76, none⟩, ⟨some 6, (Op.box 76 (Operand.tmp 5)), 63, none⟩, ⟨some 2, (Op.assign (Operand.tmp 6)), 63, none⟩] (Q .normal ds) σ w := mk_eq rfl
/-! 44 (*columbary/zig.Reader).Int (params #[63, 3, 3], results #[(ResultVar.tmp 6), (ResultVar.tmp 7)], 42 slots) -/
def r44_0 : List VOp :=
  [⟨some 6, (Op.assign (Operand.const (Value.int IntKind.i64 0))), 3, none⟩,
   ⟨some 7, (Op.assign (Operand.const (Value.int IntKind.i64 0))), 25, none⟩]
def r44_1 : List VOp :=
  [⟨some 10, (Op.move (Operand.tmp 0)), 63, none⟩,
   ⟨some 11, (Op.binOp BinOp.eql 63 (Operand.tmp 10) (Operand.const (Value.pointer none)) 63), 4, none⟩]
def r44_2 : List VOp :=
  [⟨some 6, (Op.assign (Operand.const (Value.int IntKind.i64 0))), 3, none⟩,
   ⟨some 7, (Op.assign (Operand.const (Value.int IntKind.i64 1))), 25, none⟩]
def r44_3 : List VOp :=
  [⟨some 13, (Op.move (Operand.tmp 0)), 63, none⟩,
   ⟨some 14, (Op.nilCheck (Operand.tmp 13)), 0, none⟩,
   ⟨some 15, (Op.fieldAddr 76 (Operand.tmp 14) 0), 0, none⟩,
   ⟨some 16, (Op.load 24 (Operand.tmp 15)), 24, none⟩,
   ⟨some 17, (Op.call { callee := (Callee.value (Operand.func 52)), args := #[(Operand.tmp 16)], argTypes := #[24] }), 77, none⟩,
   ⟨some 12, (Op.move (Operand.tmp 17)), 77, none⟩,
   ⟨some 18, (Op.extract (Operand.tmp 12) 0), 3, none⟩,
   ⟨some 19, (Op.extract (Operand.tmp 12) 1), 3, none⟩,
   ⟨some 8, (Op.assign (Operand.tmp 18)), 3, none⟩,
   ⟨some 9, (Op.assign (Operand.tmp 19)), 3, none⟩]
def r44_4 : List VOp :=
  [⟨some 20, (Op.move (Operand.tmp 9)), 3, none⟩,
   ⟨some 21, (Op.binOp BinOp.eql 3 (Operand.tmp 20) (Operand.const (Value.int IntKind.i64 0)) 3), 4, none⟩,
   ⟨some 22, (Op.move (Operand.tmp 21)), 4, none⟩,
   ⟨some 23, (Op.move (Operand.tmp 8)), 3, some (22, false)⟩,
   ⟨some 24, (Op.move (Operand.tmp 1)), 3, some (22, false)⟩,
   ⟨some 25, (Op.binOp BinOp.lss 3 (Operand.tmp 23) (Operand.tmp 24) 3), 4, some (22, false)⟩,
   ⟨some 26, (Op.pick (Operand.tmp 22) (Operand.const (Value.bool true)) (Operand.tmp 25)), 4, none⟩,
   ⟨some 27, (Op.move (Operand.tmp 26)), 4, none⟩,
   ⟨some 28, (Op.move (Operand.tmp 8)), 3, some (27, false)⟩,
   ⟨some 29, (Op.move (Operand.tmp 2)), 3, some (27, false)⟩,
   ⟨some 30, (Op.binOp BinOp.gtr 3 (Operand.tmp 28) (Operand.tmp 29) 3), 4, some (27, false)⟩,
   ⟨some 31, (Op.pick (Operand.tmp 27) (Operand.const (Value.bool true)) (Operand.tmp 30)), 4, none⟩]
def r44_5 : List VOp :=
  [⟨some 6, (Op.assign (Operand.const (Value.int IntKind.i64 0))), 3, none⟩,
   ⟨some 7, (Op.assign (Operand.const (Value.int IntKind.i64 11))), 25, none⟩]
def r44_6 : List VOp :=
  [⟨some 32, (Op.move (Operand.tmp 0)), 63, none⟩,
   ⟨some 33, (Op.move (Operand.tmp 0)), 63, none⟩,
   ⟨some 34, (Op.nilCheck (Operand.tmp 33)), 0, none⟩,
   ⟨some 35, (Op.fieldAddr 76 (Operand.tmp 34) 0), 0, none⟩,
   ⟨some 36, (Op.load 24 (Operand.tmp 35)), 24, none⟩,
   ⟨some 37, (Op.move (Operand.tmp 9)), 3, none⟩,
   ⟨some 38, (Op.slice 24 (Operand.tmp 36) (some (Operand.tmp 37)) none none), 24, none⟩,
   ⟨some 39, (Op.nilCheck (Operand.tmp 32)), 0, none⟩,
   ⟨some 40, (Op.fieldAddr 76 (Operand.tmp 39) 0), 0, none⟩,
   ⟨none, (Op.store 24 (Operand.tmp 40) (Operand.tmp 38)), 0, none⟩]
def r44_7 : List VOp :=
  [⟨some 41, (Op.move (Operand.tmp 8)), 3, none⟩,
   ⟨some 6, (Op.assign (Operand.tmp 41)), 3, none⟩,
   ⟨some 7, (Op.assign (Operand.const (Value.int IntKind.i64 0))), 25, none⟩]
def B44 : VC :=
  (.seq (.region r44_0) (.seq (.seq (.region r44_1) (.cond (Operand.tmp 11) (.seq (.region r44_2) .ret) .skip)) (.seq (.region r44_3) (.seq (.seq (.region r44_4) (.cond (Operand.tmp 31) (.seq (.region r44_5) .ret) .skip)) (.seq (.region r44_6) (.seq (.region r44_7) .ret))))))
theorem code44 : ∃ c, Try.f44.body = some c ∧ abs Try.f44.ntmps c = B44 := ⟨_, rfl, by kernel_rfl⟩
theorem hb44 : HasBody Try.prog 44 := hasBody_of Try.func44 (by kernel_rfl)
theorem res44 : Try.f44.results = #[(ResultVar.tmp 6), (ResultVar.tmp 7)] := rfl
theorem enter44 {w : World} {R : Value → World → Prop} (x0 x1 x2 : Value) (h : vc Try.prog B44 (retK Try.prog #[(ResultVar.tmp 6), (ResultVar.tmp 7)] R) [] (initEnv [x0, x1, x2] 0) w) : FnC Try.prog 44 #[x0, x1, x2] w R := by
  obtain ⟨c, h1, h2⟩ := code44
  exact hb44.fn (ret_of_vc mixed Try.func44 h1 (Nat.le_of_ble_eq_true rfl) B44 h2 h)
@[push_cast] theorem vr44_0 (Q : Post) (ds : List Deferred) (σ : Env) (w : World) : vc Try.prog (.region r44_0) Q ds σ w = vcOps Try.prog [⟨some 6, (Op.assign (Operand.const (Value.int IntKind.i64 0))), 3, none⟩, ⟨some 7, (Op.assign (Operand.const (Value.int IntKind.i64 0))), 25, none⟩] (Q .normal ds) σ w := mk_eq rfl
@[push_cast] theorem vr44_1 (Q : Post) (ds : List Deferred) (σ : Env) (w : World) : vc Try.prog (.region r44_1) Q ds σ w = vcOps Try.prog [⟨some 10, (Op.move (Operand.tmp 0)), 63, none⟩, ⟨some 11, (Op.binOp BinOp.eql 63 (Operand.tmp 10) (Operand.const (Value.pointer none)) 63), 4, none⟩] (Q .normal ds) σ w := mk_eq rfl
@[push_cast] theorem vr44_2 (Q : Post) (ds : List Deferred) (σ : Env) (w : World) : vc Try.prog (.region r44_2) Q ds σ w = vcOps Try.prog [⟨some 6, (Op.assign (Operand.const (Value.int IntKind.i64 0))), 3, none⟩, ⟨some 7, (Op.assign (Operand.const (Value.int IntKind.i64 1))), 25, none⟩] (Q .normal ds) σ w := mk_eq rfl
@[push_cast] theorem vr44_3 (Q : Post) (ds : List Deferred) (σ : Env) (w : World) : vc Try.prog (.region r44_3) Q ds σ w = vcOps Try.prog [⟨some 13, (Op.move (Operand.tmp 0)), 63, none⟩, ⟨some 14, (Op.nilCheck (Operand.tmp 13)), 0, none⟩, ⟨some 15, (Op.fieldAddr 76 (Operand.tmp 14) 0), 0, none⟩, ⟨some 16, (Op.load 24 (Operand.tmp 15)), 24, none⟩, ⟨some 17, (Op.call { callee := (Callee.value (Operand.func 52)), args := #[(Operand.tmp 16)], argTypes := #[24] }), 77, none⟩, ⟨some 12, (Op.move (Operand.tmp 17)), 77, none⟩, ⟨some 18, (Op.extract (Operand.tmp 12) 0), 3, none⟩, ⟨some 19, (Op.extract (Operand.tmp 12) 1), 3, none⟩, ⟨some 8, (Op.assign (Operand.tmp 18)), 3, none⟩, ⟨some 9, (Op.assign (Operand.tmp 19)), 3, none⟩] (Q .normal ds) σ w := mk_eq rfl
@[push_cast] theorem vr44_4 (Q : Post) (ds : List Deferred) (σ : Env) (w : World) : vc Try.prog (.region r44_4) Q ds σ w = vcOps Try.prog [⟨some 20, (Op.move (Operand.tmp 9)), 3, none⟩, ⟨some 21, (Op.binOp BinOp.eql 3 (Operand.tmp 20) (Operand.const (Value.int IntKind.i64 0)) 3), 4, none⟩, ⟨some 22, (Op.move (Operand.tmp 21)), 4, none⟩, ⟨some 23, (Op.move (Operand.tmp 8)), 3, some (22, false)⟩, ⟨some 24, (Op.move (Operand.tmp 1)), 3, some (22, false)⟩, ⟨some 25, (Op.binOp BinOp.lss 3 (Operand.tmp 23) (Operand.tmp 24) 3), 4, some (22, false)⟩, ⟨some 26, (Op.pick (Operand.tmp 22) (Operand.const (Value.bool true)) (Operand.tmp 25)), 4, none⟩, ⟨some 27, (Op.move (Operand.tmp 26)), 4, none⟩, ⟨some 28, (Op.move (Operand.tmp 8)), 3, some (27, false)⟩, ⟨some 29, (Op.move (Operand.tmp 2)), 3, some (27, false)⟩, ⟨some 30, (Op.binOp BinOp.gtr 3 (Operand.tmp 28) (Operand.tmp 29) 3), 4, some (27, false)⟩, ⟨some 31, (Op.pick (Operand.tmp 27) (Operand.const (Value.bool true)) (Operand.tmp 30)), 4, none⟩] (Q .normal ds) σ w := mk_eq rfl
@[push_cast] theorem vr44_5 (Q : Post) (ds : List Deferred) (σ : Env) (w : World) : vc Try.prog (.region r44_5) Q ds σ w = vcOps Try.prog [⟨some 6, (Op.assign (Operand.const (Value.int IntKind.i64 0))), 3, none⟩, ⟨some 7, (Op.assign (Operand.const (Value.int IntKind.i64 11))), 25, none⟩] (Q .normal ds) σ w := mk_eq rfl
@[push_cast] theorem vr44_6 (Q : Post) (ds : List Deferred) (σ : Env) (w : World) : vc Try.prog (.region r44_6) Q ds σ w = vcOps Try.prog [⟨some 32, (Op.move (Operand.tmp 0)), 63, none⟩, ⟨some 33, (Op.move (Operand.tmp 0)), 63, none⟩, ⟨some 34, (Op.nilCheck (Operand.tmp 33)), 0, none⟩, ⟨some 35, (Op.fieldAddr 76 (Operand.tmp 34) 0), 0, none⟩, ⟨some 36, (Op.load 24 (Operand.tmp 35)), 24, none⟩, ⟨some 37, (Op.move (Operand.tmp 9)), 3, none⟩, ⟨some 38, (Op.slice 24 (Operand.tmp 36) (some (Operand.tmp 37)) none none), 24, none⟩, ⟨some 39, (Op.nilCheck (Operand.tmp 32)), 0, none⟩, ⟨some 40, (Op.fieldAddr 76 (Operand.tmp 39) 0), 0, none⟩, ⟨none, (Op.store 24 (Operand.tmp 40) (Operand.tmp 38)), 0, none⟩] (Q .normal ds) σ w := mk_eq rfl
@[push_cast] theorem vr44_7 (Q : Post) (ds : List Deferred) (σ : Env) (w : World) : vc Try.prog (.region r44_7) Q ds σ w = vcOps Try.prog [⟨some 41, (Op.move (Operand.tmp 8)), 3, none⟩, ⟨some 6, (Op.assign (Operand.tmp 41)), 3, none⟩, ⟨some 7, (Op.assign (Operand.const (Value.int IntKind.i64 0))), 25, none⟩] (Q .normal ds) σ w := mk_eq rfl
/-! 45 (*columbary/zig.Reader).Bytes (params #[63, 3], results #[(ResultVar.tmp 4), (ResultVar.tmp 5)], 39 slots) -/
def r45_0 : List VOp :=
  [⟨some 4, (Op.assign (Operand.const (Value.slice none 0 0))), 24, none⟩,
   ⟨some 5, (Op.assign (Operand.const (Value.int IntKind.i64 0))), 25, none⟩]
def r45_1 : List VOp :=
  [⟨some 8, (Op.move (Operand.tmp 0)), 63, none⟩,
   ⟨some 9, (Op.binOp BinOp.eql 63 (Operand.tmp 8) (Operand.const (Value.pointer none)) 63), 4, none⟩,
   ⟨some 7, (Op.assign (Operand.tmp 9)), 4, none⟩]
def r45_2 : List VOp :=
  [⟨some 4, (Op.assign (Operand.const (Value.slice none 0 0))), 24, none⟩,
   ⟨some 5, (Op.assign (Operand.const (Value.int IntKind.i64 1))), 25, none⟩]
def r45_3 : List VOp :=
  [⟨some 11, (Op.move (Operand.tmp 1)), 3, none⟩,
   ⟨some 12, (Op.binOp BinOp.lss 3 (Operand.tmp 11) (Operand.const (Value.int IntKind.i64 0)) 3), 4, none⟩,
   ⟨some 13, (Op.move (Operand.tmp 12)), 4, none⟩,
   ⟨some 14, (Op.move (Operand.tmp 1)), 3, some (13, false)⟩,
   ⟨some 15, (Op.move (Operand.tmp 0)), 63, some (13, false)⟩,
   ⟨some 16, (Op.nilCheck (Operand.tmp 15)), 0, some (13, false)⟩,
   ⟨some 17, (Op.fieldAddr 76 (Operand.tmp 16) 0), 0, some (13, false)⟩,
   ⟨some 18, (Op.load 24 (Operand.tmp 17)), 24, some (13, false)⟩,
   ⟨some 19, (Op.call { callee := (Callee.builtin Builtin.len), args := #[(Operand.tmp 18)], argTypes := #[24] }), 3, some (13, false)⟩,
   ⟨some 20, (Op.binOp BinOp.gtr 3 (Operand.tmp 14) (Operand.tmp 19) 3), 4, some (13, false)⟩,
   ⟨some 21, (Op.pick (Operand.tmp 13) (Operand.const (Value.bool true)) (Operand.tmp 20)), 4, none⟩,
   ⟨some 10, (Op.assign (Operand.tmp 21)), 4, none⟩]
def r45_4 : List VOp :=
  [⟨some 4, (Op.assign (Operand.const (Value.slice none 0 0))), 24, none⟩,
   ⟨some 5, (Op.assign (Operand.const (Value.int IntKind.i64 11))), 25, none⟩]
def r45_5 : List VOp :=
  [⟨some 22, (Op.move (Operand.tmp 0)), 63, none⟩,
   ⟨some 23, (Op.nilCheck (Operand.tmp 22)), 0, none⟩,
   ⟨some 24, (Op.fieldAddr 76 (Operand.tmp 23) 0), 0, none⟩,
   ⟨some 25, (Op.load 24 (Operand.tmp 24)), 24, none⟩,
   ⟨some 26, (Op.move (Operand.tmp 1)), 3, none⟩,
   ⟨some 27, (Op.slice 24 (Operand.tmp 25) none (some (Operand.tmp 26)) none), 24, none⟩,
   ⟨some 28, (Op.call { callee := (Callee.value (Operand.func 51)), args := #[(Operand.tmp 27)], argTypes := #[24] }), 24, none⟩,
   ⟨some 6, (Op.assign (Operand.tmp 28)), 24, none⟩]
def r45_6 : List VOp :=
  [⟨some 29, (Op.move (Operand.tmp 0)), 63, none⟩,
   ⟨some 30, (Op.move (Operand.tmp 0)), 63, none⟩,
   ⟨some 31, (Op.nilCheck (Operand.tmp 30)), 0, none⟩,
   ⟨some 32, (Op.fieldAddr 76 (Operand.tmp 31) 0), 0, none⟩,
   ⟨some 33, (Op.load 24 (Operand.tmp 32)), 24, none⟩,
   ⟨some 34, (Op.move (Operand.tmp 1)), 3, none⟩,
   ⟨some 35, (Op.slice 24 (Operand.tmp 33) (some (Operand.tmp 34)) none none), 24, none⟩,
   ⟨some 36, (Op.nilCheck (Operand.tmp 29)), 0, none⟩,
   ⟨some 37, (Op.fieldAddr 76 (Operand.tmp 36) 0), 0, none⟩,
   ⟨none, (Op.store 24 (Operand.tmp 37) (Operand.tmp 35)), 0, none⟩]
def r45_7 : List VOp :=
  [⟨some 38, (Op.move (Operand.tmp 6)), 24, none⟩,
   ⟨some 4, (Op.assign (Operand.tmp 38)), 24, none⟩,
   ⟨some 5, (Op.assign (Operand.const (Value.int IntKind.i64 0))), 25, none⟩]
def B45 : VC :=
  (.seq (.region r45_0) (.seq (.block 0 (.seq (.region r45_1) (.cond (Operand.tmp 7) (.seq (.region r45_2) .ret) (.seq (.region r45_3) (.cond (Operand.tmp 10) (.seq (.region r45_4) .ret) .skip))))) (.seq (.region r45_5) (.seq (.region r45_6) (.seq (.region r45_7) .ret)))))
theorem code45 : ∃ c, Try.f45.body = some c ∧ abs Try.f45.ntmps c = B45 := ⟨_, rfl, by kernel_rfl⟩
theorem hb45 : HasBody Try.prog 45 := hasBody_of Try.func45 (by kernel_rfl)
theorem res45 : Try.f45.results = #[(ResultVar.tmp 4), (ResultVar.tmp 5)] := rfl
theorem enter45 {w : World} {R : Value → World → Prop} (x0 x1 : Value) (h : vc Try.prog B45 (retK Try.prog #[(ResultVar.tmp 4), (ResultVar.tmp 5)] R) [] (initEnv [x0, x1] 0) w) : FnC Try.prog 45 #[x0, x1] w R := by
  obtain ⟨c, h1, h2⟩ := code45
  exact hb45.fn (ret_of_vc mixed Try.func45 h1 (Nat.le_of_ble_eq_true rfl) B45 h2 h)
@[push_cast] theorem vr45_0 (Q : Post) (ds : List Deferred) (σ : Env) (w : World) : vc Try.prog (.region r45_0) Q ds σ w = vcOps Try.prog [⟨some 4, (Op.assign (Operand.const (Value.slice none 0 0))), 24, none⟩, ⟨some 5, (Op.assign (Operand.const (Value.int IntKind.i64 0))), 25, none⟩] (Q .normal ds) σ w := mk_eq rfl
@[push_cast] theorem vr45_1 (Q : Post) (ds : List Deferred) (σ : Env) (w : World) : vc Try.prog (.region r45_1) Q ds σ w = vcOps Try.prog [⟨some 8, (Op.move (Operand.tmp 0)), 63, none⟩, ⟨some 9, (Op.binOp BinOp.eql 63 (Operand.tmp 8) (Operand.const (Value.pointer none)) 63), 4, none⟩, ⟨some 7, (Op.assign (Operand.tmp 9)), 4, none⟩] (Q .normal ds) σ w := mk_eq rfl
@[push_cast] theorem vr45_2 (Q : Post) (ds : List Deferred) (σ : Env) (w : World) : vc Try.prog (.region r45_2) Q ds σ w = vcOps Try.prog [⟨some 4, (Op.assign (Operand.const (Value.slice none 0 0))), 24, none⟩, ⟨some 5, (Op.assign (Operand.const (Value.int IntKind.i64 1))), 25, none⟩] (Q .normal ds) σ w := mk_eq rfl
@[push_cast] theorem vr45_3 (Q : Post) (ds : List Deferred) (σ : Env) (w : World) : vc Try.prog (.region r45_3) Q ds σ w = vcOps Try.prog [⟨some 11, (Op.move (Operand.tmp 1)), 3, none⟩, ⟨some 12, (Op.binOp BinOp.lss 3 (Operand.tmp 11) (Operand.const (Value.int IntKind.i64 0)) 3), 4, none⟩, ⟨some 13, (Op.move (Operand.tmp 12)), 4, none⟩, ⟨some 14, (Op.move (Operand.tmp 1)), 3, some (13, false)⟩, ⟨some 15, (Op.move (Operand.tmp 0)), 63, some (13, false)⟩, ⟨some 16, (Op.nilCheck (Operand.tmp 15)), 0, some (13, false)⟩, ⟨some 17, (Op.fieldAddr 76 (Operand.tmp 16) 0), 0, some (13, false)⟩, ⟨some 18, (Op.load 24 (Operand.tmp 17)), 24, some (13, false)⟩, ⟨some 19, (Op.call { callee := (Callee.builtin Builtin.len), args := #[(Operand.tmp 18)], argTypes := #[24] }), 3, some (13, false)⟩, ⟨some 20, (Op.binOp BinOp.gtr 3 (Operand.tmp 14) (Operand.tmp 19) 3), 4, some (13, false)⟩, ⟨some 21, (Op.pick (Operand.tmp 13) (Operand.const (Value.bool true)) (Operand.tmp 20)), 4, none⟩, ⟨some 10, (Op.assign (Operand.tmp 21)), 4, none⟩] (Q .normal ds) σ w := mk_eq rfl
@[push_cast] theorem vr45_4 (Q : Post) (ds : List Deferred) (σ : Env) (w : World) : vc Try.prog (.region r45_4) Q ds σ w = vcOps Try.prog [⟨some 4, (Op.assign (Operand.const (Value.slice none 0 0))), 24, none⟩, ⟨some 5, (Op.assign (Operand.const (Value.int IntKind.i64 11))), 25, none⟩] (Q .normal ds) σ w := mk_eq rfl
@[push_cast] theorem vr45_5 (Q : Post) (ds : List Deferred) (σ : Env) (w : World) : vc Try.prog (.region r45_5) Q ds σ w = vcOps Try.prog [⟨some 22, (Op.move (Operand.tmp 0)), 63, none⟩, ⟨some 23, (Op.nilCheck (Operand.tmp 22)), 0, none⟩, ⟨some 24, (Op.fieldAddr 76 (Operand.tmp 23) 0), 0, none⟩, ⟨some 25, (Op.load 24 (Operand.tmp 24)), 24, none⟩, ⟨some 26, (Op.move (Operand.tmp 1)), 3, none⟩, ⟨some 27, (Op.slice 24 (Operand.tmp 25) none (some (Operand.tmp 26)) none), 24, none⟩, ⟨some 28, (Op.call { callee := (Callee.value (Operand.func 51)), args := #[(Operand.tmp 27)], argTypes := #[24] }), 24, none⟩, ⟨some 6, (Op.assign (Operand.tmp 28)), 24, none⟩] (Q .normal ds) σ w := mk_eq rfl
@[push_cast] theorem vr45_6 (Q : Post) (ds : List Deferred) (σ : Env) (w : World) : vc Try.prog (.region r45_6) Q ds σ w = vcOps Try.prog [⟨some 29, (Op.move (Operand.tmp 0)), 63, none⟩, ⟨some 30, (Op.move (Operand.tmp 0)), 63, none⟩, ⟨some 31, (Op.nilCheck (Operand.tmp 30)), 0, none⟩, ⟨some 32, (Op.fieldAddr 76 (Operand.tmp 31) 0), 0, none⟩, ⟨some 33, (Op.load 24 (Operand.tmp 32)), 24, none⟩, ⟨some 34, (Op.move (Operand.tmp 1)), 3, none⟩, ⟨some 35, (Op.slice 24 (Operand.tmp 33) (some (Operand.tmp 34)) none none), 24, none⟩, ⟨some 36, (Op.nilCheck (Operand.tmp 29)), 0, none⟩, ⟨some 37, (Op.fieldAddr 76 (Operand.tmp 36) 0), 0, none⟩, ⟨none, (Op.store 24 (Operand.tmp 37) (Operand.tmp 35)), 0, none⟩] (Q .normal ds) σ w := mk_eq rfl
@[push_cast] theorem vr45_7 (Q : Post) (ds : List Deferred) (σ : Env) (w : World) : vc Try.prog (.region r45_7) Q ds σ w = vcOps Try.prog [⟨some 38, (Op.move (Operand.tmp 6)), 24, none⟩, ⟨some 4, (Op.assign (Operand.tmp 38)), 24, none⟩, ⟨some 5, (Op.assign (Operand.const (Value.int IntKind.i64 0))), 25, none⟩] (Q .normal ds) σ w := mk_eq rfl
/-! 46 (*columbary/zig.Reader).Left (params #[63], results #[(ResultVar.tmp 2)], 10 slots) -/
def r46_0 : List VOp :=
  [⟨some 2, (Op.assign (Operand.const (Value.int IntKind.i64 0))), 3, none⟩]
def r46_1 : List VOp :=
  [⟨some 3, (Op.move (Operand.tmp 0)), 63, none⟩,
   ⟨some 4, (Op.binOp BinOp.eql 63 (Operand.tmp 3) (Operand.const (Value.pointer none)) 63), 4, none⟩]
def r46_2 : List VOp :=
  [⟨some 2, (Op.assign (Operand.const (Value.int IntKind.i64 0))), 3, none⟩]
def r46_3 : List VOp :=
  [⟨some 5, (Op.move (Operand.tmp 0)), 63, none⟩,
   ⟨some 6, (Op.nilCheck (Operand.tmp 5)), 0, none⟩,
   ⟨some 7, (Op.fieldAddr 76 (Operand.tmp 6) 0), 0, none⟩,
   ⟨some 8, (Op.load 24 (Operand.tmp 7)), 24, none⟩,
   ⟨some 9, (Op.call { callee := (Callee.builtin Builtin.len), args := #[(Operand.tmp 8)], argTypes := #[24] }), 3, none⟩,
   ⟨some 2, (Op.assign (Operand.tmp 9)), 3, none⟩]
def B46 : VC :=
  (.seq (.region r46_0) (.seq (.seq (.region r46_1) (.cond (Operand.tmp 4) (.seq (.region r46_2) .ret) .skip)) (.seq (.region r46_3) .ret)))
theorem code46 : ∃ c, Try.f46.body = some c ∧ abs Try.f46.ntmps c = B46 := ⟨_, rfl, by kernel_rfl⟩
theorem hb46 : HasBody Try.prog 46 := hasBody_of Try.func46 (by kernel_rfl)
theorem res46 : Try.f46.results = #[(ResultVar.tmp 2)] := rfl
theorem enter46 {w : World} {R : Value → World → Prop} (x0 : Value) (h : vc Try.prog B46 (retK Try.prog #[(ResultVar.tmp 2)] R) [] (initEnv [x0] 0) w) : FnC Try.prog 46 #[x0] w R := by
  obtain ⟨c, h1, h2⟩ := code46
  exact hb46.fn (ret_of_vc mixed Try.func46 h1 (Nat.le_of_ble_eq_true rfl) B46 h2 h)
@[push_cast] theorem vr46_0 (Q : Post) (ds : List Deferred) (σ : Env) (w : World) : vc Try.prog (.region r46_0) Q ds σ w = vcOps Try.prog [⟨some 2, (Op.assign (Operand.const (Value.int IntKind.i64 0))), 3, none⟩] (Q .normal ds) σ w := mk_eq rfl
@[push_cast] theorem vr46_1 (Q : Post) (ds : List Deferred) (σ : Env) (w : World) : vc Try.prog (.region r46_1) Q ds σ w = vcOps Try.prog [⟨some 3, (Op.move (Operand.tmp 0)), 63, none⟩, ⟨some 4, (Op.binOp BinOp.eql 63 (Operand.tmp 3) (Operand.const (Value.pointer none)) 63), 4, none⟩] (Q .normal ds) σ w := mk_eq rfl
@[push_cast] theorem vr46_2 (Q : Post) (ds : List Deferred) (σ : Env) (w : World) : vc Try.prog (.region r46_2) Q ds σ w = vcOps Try.prog [⟨some 2, (Op.assign (Operand.const (Value.int IntKind.i64 0))), 3, none⟩] (Q .normal ds) σ w := mk_eq rfl
@[push_cast] theorem vr46_3 (Q : Post) (ds : List Deferred) (σ : Env) (w : World) : vc Try.prog (.region r46_3) Q ds σ w = vcOps Try.prog [⟨some 5, (Op.move (Operand.tmp 0)), 63, none⟩, ⟨some 6, (Op.nilCheck (Operand.tmp 5)), 0, none⟩, ⟨some 7, (Op.fieldAddr 76 (Operand.tmp 6) 0), 0, none⟩, ⟨some 8, (Op.load 24 (Operand.tmp 7)), 24, none⟩, ⟨some 9, (Op.call { callee := (Callee.builtin Builtin.len), args := #[(Operand.tmp 8)], argTypes := #[24] }), 3, none⟩, ⟨some 2, (Op.assign (Operand.tmp 9)), 3, none⟩] (Q .normal ds) σ w := mk_eq rfl
/-! 48 columbary/columbaryref01.Int (params #[3], results #[(ResultVar.tmp 2)], 26 slots) -/
def W48_0 : List Nat := [3, 4, 5, 12, 13, 14, 15, 16, 17, 18, 19, 20, 21, 22, 23, 24]
@[push_cast] theorem W48_0_def : W48_0 = [3, 4, 5, 12, 13, 14, 15, 16, 17, 18, 19, 20, 21, 22, 23, 24] := mk_eq rfl
def r48_0 : List VOp :=
  [⟨some 2, (Op.assign (Operand.const (Value.slice none 0 0))), 24, none⟩]
def r48_1 : List VOp :=
  [⟨some 6, (Op.move (Operand.tmp 0)), 3, none⟩,
   ⟨some 7, (Op.call { callee := (Callee.value (Operand.func 53)), args := #[(Operand.tmp 6)], argTypes := #[3] }), 32, none⟩,
   ⟨some 3, (Op.assign (Operand.tmp 7)), 32, none⟩]
def r48_2 : List VOp :=
  [⟨some 8, (Op.move (Operand.tmp 3)), 32, none⟩,
   ⟨some 9, (Op.binOp BinOp.rem 32 (Operand.tmp 8) (Operand.const (Value.int IntKind.u64 128)) 32), 32, none⟩,
   ⟨some 10, (Op.convert 32 5 (Operand.tmp 9)), 5, none⟩,
   ⟨some 11, (Op.buildSlice 24 1 #[(0, (Operand.tmp 10))]), 24, none⟩,
   ⟨some 4, (Op.assign (Operand.tmp 11)), 24, none⟩]
def r48_3 : List VOp :=
  [⟨some 12, (Op.move (Operand.tmp 3)), 32, none⟩,
   ⟨some 13, (Op.binOp BinOp.geq 32 (Operand.tmp 12) (Operand.const (Value.int IntKind.u64 128)) 32), 4, none⟩]
def r48_4 : List VOp :=
  [⟨some 14, (Op.move (Operand.tmp 3)), 32, none⟩,
   ⟨some 15, (Op.binOp BinOp.quo 32 (Operand.tmp 14) (Operand.const (Value.int IntKind.u64 128)) 32), 32, none⟩,
   ⟨some 3, (Op.assign (Operand.tmp 15)), 32, none⟩]
def r48_5 : List VOp :=
  [⟨some 16, (Op.move (Operand.tmp 3)), 32, none⟩,
   ⟨some 17, (Op.binOp BinOp.rem 32 (Operand.tmp 16) (Operand.const (Value.int IntKind.u64 128)) 32), 32, none⟩,
   ⟨some 18, (Op.binOp BinOp.add 32 (Operand.const (Value.int IntKind.u64 128)) (Operand.tmp 17) 32), 32, none⟩,
   ⟨some 19, (Op.convert 32 5 (Operand.tmp 18)), 5, none⟩,
   ⟨some 20, (Op.buildSlice 24 1 #[(0, (Operand.tmp 19))]), 24, none⟩,
   ⟨some 5, (Op.assign (Operand.tmp 20)), 24, none⟩]
def r48_6 : List VOp :=
  [⟨some 21, (Op.move (Operand.tmp 5)), 24, none⟩,
   ⟨some 22, (Op.move (Operand.tmp 4)), 24, none⟩,
   ⟨some 23, (Op.call { callee := (Callee.builtin Builtin.append), args := #[(Operand.tmp 21), (Operand.tmp 22)], argTypes := #[24, 24] }), 24, none⟩,
   ⟨some 5, (Op.assign (Operand.tmp 23)), 24, none⟩]
def r48_7 : List VOp :=
  [⟨some 24, (Op.move (Operand.tmp 5)), 24, none⟩,
   ⟨some 4, (Op.assign (Operand.tmp 24)), 24, none⟩]
def r48_8 : List VOp :=
  [⟨some 25, (Op.move (Operand.tmp 4)), 24, none⟩,
   ⟨some 2, (Op.assign (Operand.tmp 25)), 24, none⟩]
def B48 : VC :=
  (.seq (.region r48_0) (.seq (.region r48_1) (.seq (.region r48_2) (.seq (.block 0 (.loop (.seq (.seq (.region r48_3) (.cond (Operand.tmp 13) .skip (.exit 0))) (.block 1 (.seq (.region r48_4) (.seq (.region r48_5) (.seq (.region r48_6) (.region r48_7)))))))) (.seq (.region r48_8) .ret)))))
theorem code48 : ∃ c, Try.f48.body = some c ∧ abs Try.f48.ntmps c = B48 := ⟨_, rfl, by kernel_rfl⟩
theorem hb48 : HasBody Try.prog 48 := hasBody_of Try.func48 (by kernel_rfl)
theorem res48 : Try.f48.results = #[(ResultVar.tmp 2)] := rfl
theorem enter48 {w : World} {R : Value → World → Prop} (x0 : Value) (h : vc Try.prog B48 (retK Try.prog #[(ResultVar.tmp 2)] R) [] (initEnv [x0] 0) w) : FnC Try.prog 48 #[x0] w R := by
  obtain ⟨c, h1, h2⟩ := code48
  exact hb48.fn (ret_of_vc mixed Try.func48 h1 (Nat.le_of_ble_eq_true rfl) B48 h2 h)
@[push_cast] theorem vr48_0 (Q : Post) (ds : List Deferred) (σ : Env) (w : World) : vc Try.prog (.region r48_0) Q ds σ w = vcOps Try.prog [⟨some 2, (Op.assign (Operand.const (Value.slice none 0 0))), 24, none⟩] (Q .normal ds) σ w := mk_eq rfl
@[push_cast] theorem vr48_1 (Q : Post) (ds : List Deferred) (σ : Env) (w : World) : vc Try.prog (.region r48_1) Q ds σ w = vcOps Try.prog [⟨some 6, (Op.move (Operand.tmp 0)), 3, none⟩, ⟨some 7, (Op.call { callee := (Callee.value (Operand.func 53)), args := #[(Operand.tmp 6)], argTypes := #[3] }), 32, none⟩, ⟨some 3, (Op.assign (Operand.tmp 7)), 32, none⟩] (Q .normal ds) σ w := mk_eq rfl
@[push_cast] theorem vr48_2 (Q : Post) (ds : List Deferred) (σ : Env) (w : World) : vc Try.prog (.region r48_2) Q ds σ w = vcOps Try.prog [⟨some 8, (Op.move (Operand.tmp 3)), 32, none⟩, ⟨some 9, (Op.binOp BinOp.rem 32 (Operand.tmp 8) (Operand.const (Value.int IntKind.u64 128)) 32), 32, none⟩, ⟨some 10, (Op.convert 32 5 (Operand.tmp 9)), 5, none⟩, ⟨some 11, (Op.buildSlice 24 1 #[(0, (Operand.tmp 10))]), 24, none⟩, ⟨some 4, (Op.assign (Operand.tmp 11)), 24, none⟩] (Q .normal ds) σ w := mk_eq rfl
@[push_cast] theorem vr48_3 (Q : Post) (ds : List Deferred) (σ : Env) (w : World) : vc Try.prog (.region r48_3) Q ds σ w = vcOps Try.prog [⟨some 12, (Op.move (Operand.tmp 3)), 32, none⟩, ⟨some 13, (Op.binOp BinOp.geq 32 (Operand.tmp 12) (Operand.const (Value.int IntKind.u64 128)) 32), 4, none⟩] (Q .normal ds) σ w := mk_eq rfl
@[push_cast] theorem vr48_4 (Q : Post) (ds : List Deferred) (σ : Env) (w : World) : vc Try.prog (.region r48_4) Q ds σ w = vcOps Try.prog [⟨some 14, (Op.move (Operand.tmp 3)), 32, none⟩, ⟨some 15, (Op.binOp BinOp.quo 32 (Operand.tmp 14) (Operand.const (Value.int IntKind.u64 128)) 32), 32, none⟩, ⟨some 3, (Op.assign (Operand.tmp 15)), 32, none⟩] (Q .normal ds) σ w := mk_eq rfl
@[push_cast] theorem vr48_5 (Q : Post) (ds : List Deferred) (σ : Env) (w : World) : vc Try.prog (.region r48_5) Q ds σ w = vcOps Try.prog [⟨some 16, (Op.move (Operand.tmp 3)), 32, none⟩, ⟨some 17, (Op.binOp BinOp.rem 32 (Operand.tmp 16) (Operand.const (Value.int IntKind.u64 128)) 32), 32, none⟩, ⟨some 18, (Op.binOp BinOp.add 32 (Operand.const (Value.int IntKind.u64 128)) (Operand.tmp 17) 32), 32, none⟩, ⟨some 19, (Op.convert 32 5 (Operand.tmp 18)), 5, none⟩, ⟨some 20, (Op.buildSlice 24 1 #[(0, (Operand.tmp 19))]), 24, none⟩, ⟨some 5, (Op.assign (Operand.tmp 20)), 24, none⟩] (Q .normal ds) σ w := mk_eq rfl
@[push_cast] theorem vr48_6 (Q : Post) (ds : List Deferred) (σ : Env) (w : World) : vc Try.prog (.region r48_6) Q ds σ w = vcOps Try.prog [⟨some 21, (Op.move (Operand.tmp 5)), 24, none⟩, ⟨some 22, (Op.move (Operand.tmp 4)), 24, none⟩, ⟨some 23, (Op.call { callee := (Callee.builtin Builtin.append), args := #[(Operand.tmp 21), (Operand.tmp 22)], argTypes := #[24, 24] }), 24, none⟩, ⟨some 5, (Op.assign (Operand.tmp 23)), 24, none⟩] (Q .normal ds) σ w := mk_eq rfl
@[push_cast] theorem vr48_7 (Q : Post) (ds : List Deferred) (σ : Env) (w : World) : vc Try.prog (.region r48_7) Q ds σ w = vcOps Try.prog [⟨some 24, (Op.move (Operand.tmp 5)), 24, none⟩, ⟨some 4, (Op.assign (Operand.tmp 24)), 24, none⟩] (Q .normal ds) σ w := mk_eq rfl
@[push_cast] theorem vr48_8 (Q : Post) (ds : List Deferred) (σ : Env) (w : World) : vc Try.prog (.region r48_8) Q ds σ w = vcOps Try.prog [⟨some 25, (Op.move (Operand.tmp 4)), 24, none⟩, ⟨some 2, (Op.assign (Operand.tmp 25)), 24, none⟩] (Q .normal ds) σ w := mk_eq rfl
/-! 49 (*columbary/columbaryref01.Reader).Int (params #[70, 3, 3], results #[(ResultVar.tmp 6), (ResultVar.tmp 7)], 43 slots) -/
def r49_0 : List VOp :=
  [⟨some 6, (Op.assign (Operand.const (Value.int IntKind.i64 0))), 3, none⟩,
   ⟨some 7, (Op.assign (Operand.const (Value.int IntKind.i64 0))), 25, none⟩]
def r49_1 : List VOp :=
  [⟨some 12, (Op.move (Operand.tmp 0)), 70, none⟩,
   ⟨some 13, (Op.call { callee := (Callee.value (Operand.func 54)), args := #[(Operand.tmp 12)], argTypes := #[70] }), 79, none⟩,
   ⟨some 11, (Op.move (Operand.tmp 13)), 79, none⟩,
   ⟨some 14, (Op.extract (Operand.tmp 11) 0), 32, none⟩,
   ⟨some 15, (Op.extract (Operand.tmp 11) 1), 3, none⟩,
   ⟨some 8, (Op.assign (Operand.tmp 14)), 32, none⟩,
   ⟨some 9, (Op.assign (Operand.tmp 15)), 3, none⟩]
def r49_2 : List VOp :=
  [⟨some 16, (Op.move (Operand.tmp 8)), 32, none⟩,
   ⟨some 17, (Op.call { callee := (Callee.value (Operand.func 55)), args := #[(Operand.tmp 16)], argTypes := #[32] }), 3, none⟩,
   ⟨some 10, (Op.assign (Operand.tmp 17)), 3, none⟩]
def r49_3 : List VOp :=
  [⟨some 18, (Op.move (Operand.tmp 9)), 3, none⟩,
   ⟨some 19, (Op.binOp BinOp.eql 3 (Operand.tmp 18) (Operand.const (Value.int IntKind.i64 0)) 3), 4, none⟩,
   ⟨some 20, (Op.move (Operand.tmp 19)), 4, none⟩,
   ⟨some 21, (Op.move (Operand.tmp 10)), 3, some (20, false)⟩,
   ⟨some 22, (Op.move (Operand.tmp 1)), 3, some (20, false)⟩,
   ⟨some 23, (Op.binOp BinOp.lss 3 (Operand.tmp 21) (Operand.tmp 22) 3), 4, some (20, false)⟩,
   ⟨some 24, (Op.pick (Operand.tmp 20) (Operand.const (Value.bool true)) (Operand.tmp 23)), 4, none⟩,
   ⟨some 25, (Op.move (Operand.tmp 24)), 4, none⟩,
   ⟨some 26, (Op.move (Operand.tmp 10)), 3, some (25, false)⟩,
   ⟨some 27, (Op.move (Operand.tmp 2)), 3, some (25, false)⟩,
   ⟨some 28, (Op.binOp BinOp.gtr 3 (Operand.tmp 26) (Operand.tmp 27) 3), 4, some (25, false)⟩,
   ⟨some 29, (Op.pick (Operand.tmp 25) (Operand.const (Value.bool true)) (Operand.tmp 28)), 4, none⟩]
def r49_4 : List VOp :=
  [⟨some 30, (Op.move (Operand.tmp 0)), 70, none⟩,
   ⟨some 31, (Op.nilCheck (Operand.tmp 30)), 0, none⟩,
   ⟨some 32, (Op.fieldAddr 72 (Operand.tmp 31) 2), 0, none⟩,
   ⟨none, (Op.store 4 (Operand.tmp 32) (Operand.const (Value.bool true))), 0, none⟩]
def r49_5 : List VOp :=
  [⟨some 6, (Op.assign (Operand.const (Value.int IntKind.i64 0))), 3, none⟩,
   ⟨some 7, (Op.assign (Operand.const (Value.int IntKind.i64 11))), 25, none⟩]
def r49_6 : List VOp :=
  [⟨some 33, (Op.move (Operand.tmp 0)), 70, none⟩,
   ⟨some 34, (Op.move (Operand.tmp 0)), 70, none⟩,
   ⟨some 35, (Op.nilCheck (Operand.tmp 34)), 0, none⟩,
   ⟨some 36, (Op.fieldAddr 72 (Operand.tmp 35) 1), 0, none⟩,
   ⟨some 37, (Op.load 3 (Operand.tmp 36)), 3, none⟩,
   ⟨some 38, (Op.move (Operand.tmp 9)), 3, none⟩,
   ⟨some 39, (Op.binOp BinOp.add 3 (Operand.tmp 37) (Operand.tmp 38) 3), 3, none⟩,
   ⟨some 40, (Op.nilCheck (Operand.tmp 33)), 0, none⟩,
   ⟨some 41, (Op.fieldAddr 72 (Operand.tmp 40) 1), 0, none⟩,
   ⟨none, (Op.store 3 (Operand.tmp 41) (Operand.tmp 39)), 0, none⟩]
def r49_7 : List VOp :=
  [⟨some 42, (Op.move (Operand.tmp 10)), 3, none⟩,
   ⟨some 6, (Op.assign (Operand.tmp 42)), 3, none⟩,
   ⟨some 7, (Op.assign (Operand.const (Value.int IntKind.i64 0))), 25, none⟩]
def B49 : VC :=
  (.seq (.region r49_0) (.seq (.region r49_1) (.seq (.region r49_2) (.seq (.seq (.region r49_3) (.cond (Operand.tmp 29) (.seq (.region r49_4) (.seq (.region r49_5) .ret)) .skip)) (.seq (.region r49_6) (.seq (.region r49_7) .ret))))))
theorem code49 : ∃ c, Try.f49.body = some c ∧ abs Try.f49.ntmps c = B49 := ⟨_, rfl, by kernel_rfl⟩
theorem hb49 : HasBody Try.prog 49 := hasBody_of Try.func49 (by kernel_rfl)
theorem res49 : Try.f49.results = #[(ResultVar.tmp 6), (ResultVar.tmp 7)] := rfl
theorem enter49 {w : World} {R : Value → World → Prop} (x0 x1 x2 : Value) (h : vc Try.prog B49 (retK Try.prog #[(ResultVar.tmp 6), (ResultVar.tmp 7)] R) [] (initEnv [x0, x1, x2] 0) w) : FnC Try.prog 49 #[x0, x1, x2] w R := by
  obtain ⟨c, h1, h2⟩ := code49
  exact hb49.fn (ret_of_vc mixed Try.func49 h1 (Nat.le_of_ble_eq_true rfl) B49 h2 h)
@[push_cast] theorem vr49_0 (Q : Post) (ds : List Deferred) (σ : Env) (w : World) : vc Try.prog (.region r49_0) Q ds σ w = vcOps Try.prog [⟨some 6, (Op.assign (Operand.const (Value.int IntKind.i64 0))), 3, none⟩, ⟨some 7, (Op.assign (Operand.const (Value.int IntKind.i64 0))), 25, none⟩] (Q .normal ds) σ w := mk_eq rfl
@[push_cast] theorem vr49_1 (Q : Post) (ds : List Deferred) (σ : Env) (w : World) : vc Try.prog (.region r49_1) Q ds σ w = vcOps Try.prog [⟨some 12, (Op.move (Operand.tmp 0)), 70, none⟩, ⟨some 13, (Op.call { callee := (Callee.value (Operand.func 54)), args := #[(Operand.tmp 12)], argTypes := #[70] }), 79, none⟩, ⟨some 11, (Op.move (Operand.tmp 13)), 79, none⟩, ⟨some 14, (Op.extract (Operand.tmp 11) 0), 32, none⟩, ⟨some 15, (Op.extract (Operand.tmp 11) 1), 3, none⟩, ⟨some 8, (Op.assign (Operand.tmp 14)), 32, none⟩, ⟨some 9, (Op.assign (Operand.tmp 15)), 3, none⟩] (Q .normal ds) σ w := mk_eq rfl
@[push_cast] theorem vr49_2 (Q : Post) (ds : List Deferred) (σ : Env) (w : World) : vc Try.prog (.region r49_2) Q ds σ w = vcOps Try.prog [⟨some 16, (Op.move (Operand.tmp 8)), 32, none⟩, ⟨some 17, (Op.call { callee := (Callee.value (Operand.func 55)), args := #[(Operand.tmp 16)], argTypes := #[32] }), 3, none⟩, ⟨some 10, (Op.assign (Operand.tmp 17)), 3, none⟩] (Q .normal ds) σ w := mk_eq rfl
@[push_cast] theorem vr49_3 (Q : Post) (ds : List Deferred) (σ : Env) (w : World) : vc Try.prog (.region r49_3) Q ds σ w = vcOps Try.prog [⟨some 18, (Op.move (Operand.tmp 9)), 3, none⟩, ⟨some 19, (Op.binOp BinOp.eql 3 (Operand.tmp 18) (Operand.const (Value.int IntKind.i64 0)) 3), 4, none⟩, ⟨some 20, (Op.move (Operand.tmp 19)), 4, none⟩, ⟨some 21, (Op.move (Operand.tmp 10)), 3, some (20, false)⟩, ⟨some 22, (Op.move (Operand.tmp 1)), 3, some (20, false)⟩, ⟨some 23, (Op.binOp BinOp.lss 3 (Operand.tmp 21) (Operand.tmp 22) 3), 4, some (20, false)⟩, ⟨some 24, (Op.pick (Operand.tmp 20) (Operand.const (Value.bool true)) (Operand.tmp 23)), 4, none⟩, ⟨some 25, (Op.move (Operand.tmp 24)), 4, none⟩, ⟨some 26, (Op.move (Operand.tmp 10)), 3, some (25, false)⟩, ⟨some 27, (Op.move (Operand.tmp 2)), 3, some (25, false)⟩, ⟨some 28, (Op.binOp BinOp.gtr 3 (Operand.tmp 26) (Operand.tmp 27) 3), 4, some (25, false)⟩, ⟨some 29, (Op.pick (Operand.tmp 25) (Operand.const (Value.bool true)) (Operand.tmp 28)), 4, none⟩] (Q .normal ds) σ w := mk_eq rfl
@[push_cast] theorem vr49_4 (Q : Post) (ds : List Deferred) (σ : Env) (w : World) : vc Try.prog (.region r49_4) Q ds σ w = vcOps Try.prog [⟨some 30, (Op.move (Operand.tmp 0)), 70, none⟩, ⟨some 31, (Op.nilCheck (Operand.tmp 30)), 0, none⟩, ⟨some 32, (Op.fieldAddr 72 (Operand.tmp 31) 2), 0, none⟩, ⟨none, (Op.store 4 (Operand.tmp 32) (Operand.const (Value.bool true))), 0, none⟩] (Q .normal ds) σ w := mk_eq rfl
@[push_cast] theorem vr49_5 (Q : Post) (ds : List Deferred) (σ : Env) (w : World) : vc Try.prog (.region r49_5) Q ds σ w = vcOps Try.prog [⟨some 6, (Op.assign (Operand.const (Value.int IntKind.i64 0))), 3, none⟩, ⟨some 7, (Op.assign (Operand.const (Value.int IntKind.i64 11))), 25, none⟩] (Q .normal ds) σ w := mk_eq rfl
@[push_cast] theorem vr49_6 (Q : Post) (ds : List Deferred) (σ : Env) (w : World) : vc Try.prog (.region r49_6) Q ds σ w = vcOps Try.prog [⟨some 33, (Op.move (Operand.tmp 0)), 70, none⟩, ⟨some 34, (Op.move (Operand.tmp 0)), 70, none⟩, ⟨some 35, (Op.nilCheck (Operand.tmp 34)), 0, none⟩, ⟨some 36, (Op.fieldAddr 72 (Operand.tmp 35) 1), 0, none⟩, ⟨some 37, (Op.load 3 (Operand.tmp 36)), 3, none⟩, ⟨some 38, (Op.move (Operand.tmp 9)), 3, none⟩, ⟨some 39, (Op.binOp BinOp.add 3 (Operand.tmp 37) (Operand.tmp 38) 3), 3, none⟩, ⟨some 40, (Op.nilCheck (Operand.tmp 33)), 0, none⟩, ⟨some 41, (Op.fieldAddr 72 (Operand.tmp 40) 1), 0, none⟩, ⟨none, (Op.store 3 (Operand.tmp 41) (Operand.tmp 39)), 0, none⟩] (Q .normal ds) σ w := mk_eq rfl
@[push_cast] theorem vr49_7 (Q : Post) (ds : List Deferred) (σ : Env) (w : World) : vc Try.prog (.region r49_7) Q ds σ w = vcOps Try.prog [⟨some 42, (Op.move (Operand.tmp 10)), 3, none⟩, ⟨some 6, (Op.assign (Operand.tmp 42)), 3, none⟩, ⟨some 7, (Op.assign (Operand.const (Value.int IntKind.i64 0))), 25, none⟩] (Q .normal ds) σ w := mk_eq rfl
/-! 50 columbary/zig.Fold (params #[3], results #[(ResultVar.tmp 2)], 10 slots) -/
def r50_0 : List VOp :=
  [⟨some 2, (Op.assign (Operand.const (Value.int IntKind.u64 0))), 32, none⟩]
def r50_1 : List VOp :=
  [⟨some 3, (Op.move (Operand.tmp 0)), 3, none⟩,
   ⟨some 4, (Op.convert 3 32 (Operand.tmp 3)), 32, none⟩,
   ⟨some 5, (Op.binOp BinOp.shl 32 (Operand.tmp 4) (Operand.const (Value.int IntKind.u64 1)) 33), 32, none⟩,
   ⟨some 6, (Op.move (Operand.tmp 0)), 3, none⟩,
   ⟨some 7, (Op.binOp BinOp.shr 3 (Operand.tmp 6) (Operand.const (Value.int IntKind.u64 63)) 33), 3, none⟩,
   ⟨some 8, (Op.convert 3 32 (Operand.tmp 7)), 32, none⟩,
   ⟨some 9, (Op.binOp BinOp.xor 32 (Operand.tmp 5) (Operand.tmp 8) 32), 32, none⟩,
   ⟨some 2, (Op.assign (Operand.tmp 9)), 32, none⟩]
def B50 : VC :=
  (.seq (.region r50_0) (.seq (.region r50_1) .ret))
theorem code50 : ∃ c, Try.f50.body = some c ∧ abs Try.f50.ntmps c = B50 := ⟨_, rfl, by kernel_rfl⟩
theorem hb50 : HasBody Try.prog 50 := hasBody_of Try.func50 (by kernel_rfl)
theorem res50 : Try.f50.results = #[(ResultVar.tmp 2)] := rfl
theorem enter50 {w : World} {R : Value → World → Prop} (x0 : Value) (h : vc Try.prog B50 (retK Try.prog #[(ResultVar.tmp 2)] R) [] (initEnv [x0] 0) w) : FnC Try.prog 50 #[x0] w R := by
  obtain ⟨c, h1, h2⟩ := code50
  exact hb50.fn (ret_of_vc mixed Try.func50 h1 (Nat.le_of_ble_eq_true rfl) B50 h2 h)
@[push_cast] theorem vr50_0 (Q : Post) (ds : List Deferred) (σ : Env) (w : World) : vc Try.prog (.region r50_0) Q ds σ w = vcOps Try.prog [⟨some 2, (Op.assign (Operand.const (Value.int IntKind.u64 0))), 32, none⟩] (Q .normal ds) σ w := mk_eq rfl
@[push_cast] theorem vr50_1 (Q : Post) (ds : List Deferred) (σ : Env) (w : World) : vc Try.prog (.region r50_1) Q ds σ w = vcOps Try.prog [⟨some 3, (Op.move (Operand.tmp 0)), 3, none⟩, ⟨some 4, (Op.convert 3 32 (Operand.tmp 3)), 32, none⟩, ⟨some 5, (Op.binOp BinOp.shl 32 (Operand.tmp 4) (Operand.const (Value.int IntKind.u64 1)) 33), 32, none⟩, ⟨some 6, (Op.move (Operand.tmp 0)), 3, none⟩, ⟨some 7, (Op.binOp BinOp.shr 3 (Operand.tmp 6) (Operand.const (Value.int IntKind.u64 63)) 33), 3, none⟩, ⟨some 8, (Op.convert 3 32 (Operand.tmp 7)), 32, none⟩, ⟨some 9, (Op.binOp BinOp.xor 32 (Operand.tmp 5) (Operand.tmp 8) 32), 32, none⟩, ⟨some 2, (Op.assign (Operand.tmp 9)), 32, none⟩] (Q .normal ds) σ w := mk_eq rfl
/-! 51 bytes.Clone (params #[24], results #[(ResultVar.tmp 2)], 8 slots) -/
def r51_0 : List VOp :=
  [⟨some 2, (Op.assign (Operand.const (Value.slice none 0 0))), 24, none⟩]
def r51_1 : List VOp :=
  [⟨some 3, (Op.move (Operand.tmp 0)), 24, none⟩,
   ⟨some 4, (Op.binOp BinOp.eql 24 (Operand.tmp 3) (Operand.const (Value.slice none 0 0)) 24), 4, none⟩]
def r51_2 : List VOp :=
  [⟨some 2, (Op.assign (Operand.const (Value.slice none 0 0))), 24, none⟩]
def r51_3 : List VOp :=
  [⟨some 5, (Op.buildSlice 24 0 #[]), 24, none⟩,
   ⟨some 6, (Op.move (Operand.tmp 0)), 24, none⟩,
   ⟨some 7, (Op.call { callee := (Callee.builtin Builtin.append), args := #[(Operand.tmp 5), (Operand.tmp 6)], argTypes := #[24, 24] }), 24, none⟩,
   ⟨some 2, (Op.assign (Operand.tmp 7)), 24, none⟩]
def B51 : VC :=
  (.seq (.region r51_0) (.seq (.seq (.region r51_1) (.cond (Operand.tmp 4) (.seq (.region r51_2) .ret) .skip)) (.seq (.region r51_3) .ret)))
theorem code51 : ∃ c, Try.f51.body = some c ∧ abs Try.f51.ntmps c = B51 := ⟨_, rfl, by kernel_rfl⟩
theorem hb51 : HasBody Try.prog 51 := hasBody_of Try.func51 (by kernel_rfl)
theorem res51 : Try.f51.results = #[(ResultVar.tmp 2)] := rfl
theorem enter51 {w : World} {R : Value → World → Prop} (x0 : Value) (h : vc Try.prog B51 (retK Try.prog #[(ResultVar.tmp 2)] R) [] (initEnv [x0] 0) w) : FnC Try.prog 51 #[x0] w R := by
  obtain ⟨c, h1, h2⟩ := code51
  exact hb51.fn (ret_of_vc mixed Try.func51 h1 (Nat.le_of_ble_eq_true rfl) B51 h2 h)
@[push_cast] theorem vr51_0 (Q : Post) (ds : List Deferred) (σ : Env) (w : World) : vc Try.prog (.region r51_0) Q ds σ w = vcOps Try.prog [⟨some 2, (Op.assign (Operand.const (Value.slice none 0 0))), 24, none⟩] (Q .normal ds) σ w := mk_eq rfl
@[push_cast] theorem vr51_1 (Q : Post) (ds : List Deferred) (σ : Env) (w : World) : vc Try.prog (.region r51_1) Q ds σ w = vcOps Try.prog [⟨some 3, (Op.move (Operand.tmp 0)), 24, none⟩, ⟨some 4, (Op.binOp BinOp.eql 24 (Operand.tmp 3) (Operand.const (Value.slice none 0 0)) 24), 4, none⟩] (Q .normal ds) σ w := mk_eq rfl
@[push_cast] theorem vr51_2 (Q : Post) (ds : List Deferred) (σ : Env) (w : World) : vc Try.prog (.region r51_2) Q ds σ w = vcOps Try.prog [⟨some 2, (Op.assign (Operand.const (Value.slice none 0 0))), 24, none⟩] (Q .normal ds) σ w := mk_eq rfl
@[push_cast] theorem vr51_3 (Q : Post) (ds : List Deferred) (σ : Env) (w : World) : vc Try.prog (.region r51_3) Q ds σ w = vcOps Try.prog [⟨some 5, (Op.buildSlice 24 0 #[]), 24, none⟩, ⟨some 6, (Op.move (Operand.tmp 0)), 24, none⟩, ⟨some 7, (Op.call { callee := (Callee.builtin Builtin.append), args := #[(Operand.tmp 5), (Operand.tmp 6)], argTypes := #[24, 24] }), 24, none⟩, ⟨some 2, (Op.assign (Operand.tmp 7)), 24, none⟩] (Q .normal ds) σ w := mk_eq rfl
/-! 52 columbary/zig.next (params #[24], results #[(ResultVar.tmp 2), (ResultVar.tmp 3)], 43 slots) -/
def W52_0 : List Nat := [2, 3, 4, 5, 6, 13, 14, 15, 16, 17, 18, 19, 20, 21, 22, 23, 24, 25, 26, 27, 28, 29, 30, 31, 32, 33, 34, 35, 36, 37, 38, 39, 40, 41, 42]
@[push_cast] theorem W52_0_def : W52_0 = [2, 3, 4, 5, 6, 13, 14, 15, 16, 17, 18, 19, 20, 21, 22, 23, 24, 25, 26, 27, 28, 29, 30, 31, 32, 33, 34, 35, 36, 37, 38, 39, 40, 41, 42] := mk_eq rfl
def r52_0 : List VOp :=
  [⟨some 2, (Op.assign (Operand.const (Value.int IntKind.i64 0))), 3, none⟩,
   ⟨some 3, (Op.assign (Operand.const (Value.int IntKind.i64 0))), 3, none⟩]
def r52_1 : List VOp :=
  [⟨some 4, (Op.assign (Operand.const (Value.int IntKind.u64 0))), 32, none⟩]
def r52_2 : List VOp :=
  [⟨some 7, (Op.move (Operand.tmp 0)), 24, none⟩,
   ⟨some 8, (Op.move (Operand.tmp 0)), 24, none⟩,
   ⟨some 9, (Op.call { callee := (Callee.builtin Builtin.len), args := #[(Operand.tmp 8)], argTypes := #[24] }), 3, none⟩,
   ⟨some 10, (Op.call { callee := (Callee.builtin Builtin.min), args := #[(Operand.tmp 9), (Operand.const (Value.int IntKind.i64 10))], argTypes := #[3, 3] }), 3, none⟩,
   ⟨some 11, (Op.slice 24 (Operand.tmp 7) none (some (Operand.tmp 10)) none), 24, none⟩,
   ⟨some 12, (Op.call { callee := (Callee.builtin Builtin.len), args := #[(Operand.tmp 11)], argTypes := #[24] }), 3, none⟩,
   ⟨some 13, (Op.move (Operand.const (Value.int IntKind.i64 0))), 3, none⟩]
def r52_3 : List VOp :=
  [⟨some 14, (Op.binOp BinOp.lss 3 (Operand.tmp 13) (Operand.tmp 12) 3), 0, none⟩]
def r52_4 : List VOp :=
  [⟨some 15, (Op.move (Operand.tmp 13)), 3, none⟩,
   ⟨some 16, (Op.indexAddr 24 (Operand.tmp 11) (Operand.tmp 13)), 0, none⟩,
   ⟨some 17, (Op.load 5 (Operand.tmp 16)), 5, none⟩,
   ⟨some 5, (Op.assign (Operand.tmp 15)), 3, none⟩,
   ⟨some 6, (Op.assign (Operand.tmp 17)), 5, none⟩]
def r52_5 : List VOp :=
  [⟨some 18, (Op.move (Operand.tmp 5)), 3, none⟩,
   ⟨some 19, (Op.binOp BinOp.eql 3 (Operand.tmp 18) (Operand.const (Value.int IntKind.i64 0)) 3), 4, none⟩,
   ⟨some 20, (Op.move (Operand.tmp 19)), 4, none⟩,
   ⟨some 21, (Op.move (Operand.tmp 6)), 5, some (20, true)⟩,
   ⟨some 22, (Op.binOp BinOp.eql 5 (Operand.tmp 21) (Operand.const (Value.int IntKind.u8 128)) 5), 4, some (20, true)⟩,
   ⟨some 23, (Op.pick (Operand.tmp 20) (Operand.tmp 22) (Operand.const (Value.bool false))), 4, none⟩,
   ⟨some 24, (Op.move (Operand.tmp 23)), 4, none⟩,
   ⟨some 25, (Op.move (Operand.tmp 4)), 32, some (24, false)⟩,
   ⟨some 26, (Op.binOp BinOp.shr 32 (Operand.tmp 25) (Operand.const (Value.int IntKind.u64 57)) 33), 32, some (24, false)⟩,
   ⟨some 27, (Op.binOp BinOp.gtr 32 (Operand.tmp 26) (Operand.const (Value.int IntKind.u64 0)) 32), 4, some (24, false)⟩,
   ⟨some 28, (Op.pick (Operand.tmp 24) (Operand.const (Value.bool true)) (Operand.tmp 27)), 4, none⟩]
def r52_6 : List VOp :=
  [⟨some 2, (Op.assign (Operand.const (Value.int IntKind.i64 0))), 3, none⟩,
   ⟨some 3, (Op.assign (Operand.const (Value.int IntKind.i64 0))), 3, none⟩]
def r52_7 : List VOp :=
  [⟨some 29, (Op.move (Operand.tmp 4)), 32, none⟩,
   ⟨some 30, (Op.binOp BinOp.shl 32 (Operand.tmp 29) (Operand.const (Value.int IntKind.u64 7)) 33), 32, none⟩,
   ⟨some 31, (Op.move (Operand.tmp 6)), 5, none⟩,
   ⟨some 32, (Op.binOp BinOp.andNot 5 (Operand.tmp 31) (Operand.const (Value.int IntKind.u8 128)) 5), 5, none⟩,
   ⟨some 33, (Op.convert 5 32 (Operand.tmp 32)), 32, none⟩,
   ⟨some 34, (Op.binOp BinOp.or 32 (Operand.tmp 30) (Operand.tmp 33) 32), 32, none⟩,
   ⟨some 4, (Op.assign (Operand.tmp 34)), 32, none⟩]
def r52_8 : List VOp :=
  [⟨some 35, (Op.move (Operand.tmp 6)), 5, none⟩,
   ⟨some 36, (Op.binOp BinOp.and 5 (Operand.tmp 35) (Operand.const (Value.int IntKind.u8 128)) 5), 5, none⟩,
   ⟨some 37, (Op.binOp BinOp.eql 5 (Operand.tmp 36) (Operand.const (Value.int IntKind.u8 0)) 5), 4, none⟩]
def r52_9 : List VOp :=
  [⟨some 38, (Op.move (Operand.tmp 4)), 32, none⟩,
   ⟨some 39, (Op.call { callee := (Callee.value (Operand.func 56)), args := #[(Operand.tmp 38)], argTypes := #[32] }), 3, none⟩,
   ⟨some 40, (Op.move (Operand.tmp 5)), 3, none⟩,
   ⟨some 41, (Op.binOp BinOp.add 3 (Operand.tmp 40) (Operand.const (Value.int IntKind.i64 1)) 3), 3, none⟩,
   ⟨some 2, (Op.assign (Operand.tmp 39)), 3, none⟩,
   ⟨some 3, (Op.assign (Operand.tmp 41)), 3, none⟩]
def r52_10 : List VOp :=
  [⟨some 42, (Op.binOp BinOp.add 3 (Operand.tmp 13) (Operand.const (Value.int IntKind.i64 1)) 3), 3, none⟩,
   ⟨some 13, (Op.move (Operand.tmp 42)), 3, none⟩]
def r52_11 : List VOp :=
  [⟨some 2, (Op.assign (Operand.const (Value.int IntKind.i64 0))), 3, none⟩,
   ⟨some 3, (Op.assign (Operand.const (Value.int IntKind.i64 0))), 3, none⟩]
def B52 : VC :=
  (.seq (.region r52_0) (.seq (.region r52_1) (.seq (.seq (.region r52_2) (.block 0 (.loop (.seq (.region r52_3) (.seq (.cond (Operand.tmp 14) .skip (.exit 0)) (.seq (.block 1 (.seq (.region r52_4) (.seq (.seq (.region r52_5) (.cond (Operand.tmp 28) (.seq (.region r52_6) .ret) .skip)) (.seq (.region r52_7) (.seq (.region r52_8) (.cond (Operand.tmp 37) (.seq (.region r52_9) .ret) .skip)))))) (.region r52_10))))))) (.seq (.region r52_11) .ret))))
theorem code52 : ∃ c, Try.f52.body = some c ∧ abs Try.f52.ntmps c = B52 := ⟨_, rfl, by kernel_rfl⟩
theorem hb52 : HasBody Try.prog 52 := hasBody_of Try.func52 (by kernel_rfl)
theorem res52 : Try.f52.results = #[(ResultVar.tmp 2), (ResultVar.tmp 3)] := rfl
theorem enter52 {w : World} {R : Value → World → Prop} (x0 : Value) (h : vc Try.prog B52 (retK Try.prog #[(ResultVar.tmp 2), (ResultVar.tmp 3)] R) [] (initEnv [x0] 0) w) : FnC Try.prog 52 #[x0] w R := by
  obtain ⟨c, h1, h2⟩ := code52
  exact hb52.fn (ret_of_vc mixed Try.func52 h1 (Nat.le_of_ble_eq_true rfl) B52 h2 h)
@[push_cast] theorem vr52_0 (Q : Post) (ds : List Deferred) (σ : Env) (w : World) : vc Try.prog (.region r52_0) Q ds σ w = vcOps Try.prog [⟨some 2, (Op.assign (Operand.const (Value.int IntKind.i64 0))), 3, none⟩, ⟨some 3, (Op.assign (Operand.const (Value.int IntKind.i64 0))), 3, none⟩] (Q .normal ds) σ w := mk_eq rfl
@[push_cast] theorem vr52_1 (Q : Post) (ds : List Deferred) (σ : Env) (w : World) : vc Try.prog (.region r52_1) Q ds σ w = vcOps Try.prog [⟨some 4, (Op.assign (Operand.const (Value.int IntKind.u64 0))), 32, none⟩] (Q .normal ds) σ w := mk_eq rfl
@[push_cast] theorem vr52_2 (Q : Post) (ds : List Deferred) (σ : Env) (w : World) : vc Try.prog (.region r52_2) Q ds σ w = vcOps Try.prog [⟨some 7, (Op.move (Operand.tmp 0)), 24, none⟩, ⟨some 8, (Op.move (Operand.tmp 0)), 24, none⟩, ⟨some 9, (Op.call { callee := (Callee.builtin Builtin.len), args := #[(Operand.tmp 8)], argTypes := #[24] }), 3, none⟩, ⟨some 10, (Op.call { callee := (Callee.builtin Builtin.min), args := #[(Operand.tmp 9), (Operand.const (Value.int IntKind.i64 10))], argTypes := #[3, 3] }), 3, none⟩, ⟨some 11, (Op.slice 24 (Operand.tmp 7) none (some (Operand.tmp 10)) none), 24, none⟩, ⟨some 12, (Op.call { callee := (Callee.builtin Builtin.len), args := #[(Operand.tmp 11)], argTypes := #[24] }), 3, none⟩, ⟨some 13, (Op.move (Operand.const (Value.int IntKind.i64 0))), 3, none⟩] (Q .normal ds) σ w := mk_eq rfl
@[push_cast] theorem vr52_3 (Q : Post) (ds : List Deferred) (σ : Env) (w : World) : vc Try.prog (.region r52_3) Q ds σ w = vcOps Try.prog [⟨some 14, (Op.binOp BinOp.lss 3 (Operand.tmp 13) (Operand.tmp 12) 3), 0, none⟩] (Q .normal ds) σ w := mk_eq rfl
@[push_cast] theorem vr52_4 (Q : Post) (ds : List Deferred) (σ : Env) (w : World) : vc Try.prog (.region r52_4) Q ds σ w = vcOps Try.prog [⟨some 15, (Op.move (Operand.tmp 13)), 3, none⟩, ⟨some 16, (Op.indexAddr 24 (Operand.tmp 11) (Operand.tmp 13)), 0, none⟩, ⟨some 17, (Op.load 5 (Operand.tmp 16)), 5, none⟩, ⟨some 5, (Op.assign (Operand.tmp 15)), 3, none⟩, ⟨some 6, (Op.assign (Operand.tmp 17)), 5, none⟩] (Q .normal ds) σ w := mk_eq rfl
@[push_cast] theorem vr52_5 (Q : Post) (ds : List Deferred) (σ : Env) (w : World) : vc Try.prog (.region r52_5) Q ds σ w = vcOps Try.prog [⟨some 18, (Op.move (Operand.tmp 5)), 3, none⟩, ⟨some 19, (Op.binOp BinOp.eql 3 (Operand.tmp 18) (Operand.const (Value.int IntKind.i64 0)) 3), 4, none⟩, ⟨some 20, (Op.move (Operand.tmp 19)), 4, none⟩, ⟨some 21, (Op.move (Operand.tmp 6)), 5, some (20, true)⟩, ⟨some 22, (Op.binOp BinOp.eql 5 (Operand.tmp 21) (Operand.const (Value.int IntKind.u8 128)) 5), 4, some (20, true)⟩, ⟨some 23, (Op.pick (Operand.tmp 20) (Operand.tmp 22) (Operand.const (Value.bool false))), 4, none⟩, ⟨some 24, (Op.move (Operand.tmp 23)), 4, none⟩, ⟨some 25, (Op.move (Operand.tmp 4)), 32, some (24, false)⟩, ⟨some 26, (Op.binOp BinOp.shr 32 (Operand.tmp 25) (Operand.const (Value.int IntKind.u64 57)) 33), 32, some (24, false)⟩, ⟨some 27, (Op.binOp BinOp.gtr 32 (Operand.tmp 26) (Operand.const (Value.int IntKind.u64 0)) 32), 4, some (24, false)⟩, ⟨some 28, (Op.pick (Operand.tmp 24) (Operand.const (Value.bool true)) (Operand.tmp 27)), 4, none⟩] (Q .normal ds) σ w := mk_eq rfl
@[push_cast] theorem vr52_6 (Q : Post) (ds : List Deferred) (σ : Env) (w : World) : vc Try.prog (.region r52_6) Q ds σ w = vcOps Try.prog [⟨some 2, (Op.assign (Operand.const (Value.int IntKind.i64 0))), 3, none⟩, ⟨some 3, (Op.assign (Operand.const (Value.int IntKind.i64 0))), 3, none⟩] (Q .normal ds) σ w := mk_eq rfl
@[push_cast] theorem vr52_7 (Q : Post) (ds : List Deferred) (σ : Env) (w : World) : vc Try.prog (.region r52_7) Q ds σ w = vcOps Try.prog [⟨some 29, (Op.move (Operand.tmp 4)), 32, none⟩, ⟨some 30, (Op.binOp BinOp.shl 32 (Operand.tmp 29) (Operand.const (Value.int IntKind.u64 7)) 33), 32, none⟩, ⟨some 31, (Op.move (Operand.tmp 6)), 5, none⟩, ⟨some 32, (Op.binOp BinOp.andNot 5 (Operand.tmp 31) (Operand.const (Value.int IntKind.u8 128)) 5), 5, none⟩, ⟨some 33, (Op.convert 5 32 (Operand.tmp 32)), 32, none⟩, ⟨some 34, (Op.binOp BinOp.or 32 (Operand.tmp 30) (Operand.tmp 33) 32), 32, none⟩, ⟨some 4, (Op.assign (Operand.tmp 34)), 32, none⟩] (Q .normal ds) σ w := mk_eq rfl
@[push_cast] theorem vr52_8 (Q : Post) (ds : List Deferred) (σ : Env) (w : World) : vc Try.prog (.region r52_8) Q ds σ w = vcOps Try.prog [⟨some 35, (Op.move (Operand.tmp 6)), 5, none⟩, ⟨some 36, (Op.binOp BinOp.and 5 (Operand.tmp 35) (Operand.const (Value.int IntKind.u8 128)) 5), 5, none⟩, ⟨some 37, (Op.binOp BinOp.eql 5 (Operand.tmp 36) (Operand.const (Value.int IntKind.u8 0)) 5), 4, none⟩] (Q .normal ds) σ w := mk_eq rfl
@[push_cast] theorem vr52_9 (Q : Post) (ds : List Deferred) (σ : Env) (w : World) : vc Try.prog (.region r52_9) Q ds σ w = vcOps Try.prog [⟨some 38, (Op.move (Operand.tmp 4)), 32, none⟩, ⟨some 39, (Op.call { callee := (Callee.value (Operand.func 56)), args := #[(Operand.tmp 38)], argTypes := #[32] }), 3, none⟩, ⟨some 40, (Op.move (Operand.tmp 5)), 3, none⟩, ⟨some 41, (Op.binOp BinOp.add 3 (Operand.tmp 40) (Operand.const (Value.int IntKind.i64 1)) 3), 3, none⟩, ⟨some 2, (Op.assign (Operand.tmp 39)), 3, none⟩, ⟨some 3, (Op.assign (Operand.tmp 41)), 3, none⟩] (Q .normal ds) σ w := mk_eq rfl
@[push_cast] theorem vr52_10 (Q : Post) (ds : List Deferred) (σ : Env) (w : World) : vc Try.prog (.region r52_10) Q ds σ w = vcOps Try.prog [⟨some 42, (Op.binOp BinOp.add 3 (Operand.tmp 13) (Operand.const (Value.int IntKind.i64 1)) 3), 3, none⟩, ⟨some 13, (Op.move (Operand.tmp 42)), 3, none⟩] (Q .normal ds) σ w := mk_eq rfl
@[push_cast] theorem vr52_11 (Q : Post) (ds : List Deferred) (σ : Env) (w : World) : vc Try.prog (.region r52_11) Q ds σ w = vcOps Try.prog [⟨some 2, (Op.assign (Operand.const (Value.int IntKind.i64 0))), 3, none⟩, ⟨some 3, (Op.assign (Operand.const (Value.int IntKind.i64 0))), 3, none⟩] (Q .normal ds) σ w := mk_eq rfl
/-! 53 columbary/columbaryref01.Fold (params #[3], results #[(ResultVar.tmp 2)], 14 slots) -/
def r53_0 : List VOp :=
  [⟨some 2, (Op.assign (Operand.const (Value.int IntKind.u64 0))), 32, none⟩]
def r53_1 : List VOp :=
  [⟨some 3, (Op.move (Operand.tmp 0)), 3, none⟩,
   ⟨some 4, (Op.binOp BinOp.geq 3 (Operand.tmp 3) (Operand.const (Value.int IntKind.i64 0)) 3), 4, none⟩]
def r53_2 : List VOp :=
  [⟨some 5, (Op.move (Operand.tmp 0)), 3, none⟩,
   ⟨some 6, (Op.convert 3 32 (Operand.tmp 5)), 32, none⟩,
   ⟨some 7, (Op.binOp BinOp.mul 32 (Operand.const (Value.int IntKind.u64 2)) (Operand.tmp 6) 32), 32, none⟩,
   ⟨some 2, (Op.assign (Operand.tmp 7)), 32, none⟩]
def r53_3 : List VOp :=
  [⟨some 8, (Op.move (Operand.tmp 0)), 3, none⟩,
   ⟨some 9, (Op.binOp BinOp.add 3 (Operand.tmp 8) (Operand.const (Value.int IntKind.i64 1)) 3), 3, none⟩,
   ⟨some 10, (Op.unOp UnOp.neg 3 (Operand.tmp 9)), 3, none⟩,
   ⟨some 11, (Op.convert 3 32 (Operand.tmp 10)), 32, none⟩,
   ⟨some 12, (Op.binOp BinOp.mul 32 (Operand.const (Value.int IntKind.u64 2)) (Operand.tmp 11) 32), 32, none⟩,
   ⟨some 13, (Op.binOp BinOp.add 32 (Operand.tmp 12) (Operand.const (Value.int IntKind.u64 1)) 32), 32, none⟩,
   ⟨some 2, (Op.assign (Operand.tmp 13)), 32, none⟩]
def B53 : VC :=
  (.seq (.region r53_0) (.seq (.seq (.region r53_1) (.cond (Operand.tmp 4) (.seq (.region r53_2) .ret) .skip)) (.seq (.region r53_3) .ret)))
theorem code53 : ∃ c, Try.f53.body = some c ∧ abs Try.f53.ntmps c = B53 := ⟨_, rfl, by kernel_rfl⟩
theorem hb53 : HasBody Try.prog 53 := hasBody_of Try.func53 (by kernel_rfl)
theorem res53 : Try.f53.results = #[(ResultVar.tmp 2)] := rfl
theorem enter53 {w : World} {R : Value → World → Prop} (x0 : Value) (h : vc Try.prog B53 (retK Try.prog #[(ResultVar.tmp 2)] R) [] (initEnv [x0] 0) w) : FnC Try.prog 53 #[x0] w R := by
  obtain ⟨c, h1, h2⟩ := code53
  exact hb53.fn (ret_of_vc mixed Try.func53 h1 (Nat.le_of_ble_eq_true rfl) B53 h2 h)
@[push_cast] theorem vr53_0 (Q : Post) (ds : List Deferred) (σ : Env) (w : World) : vc Try.prog (.region r53_0) Q ds σ w = vcOps Try.prog [⟨some 2, (Op.assign (Operand.const (Value.int IntKind.u64 0))), 32, none⟩] (Q .normal ds) σ w := mk_eq rfl
@[push_cast] theorem vr53_1 (Q : Post) (ds : List Deferred) (σ : Env) (w : World) : vc Try.prog (.region r53_1) Q ds σ w = vcOps Try.prog [⟨some 3, (Op.move (Operand.tmp 0)), 3, none⟩, ⟨some 4, (Op.binOp BinOp.geq 3 (Operand.tmp 3) (Operand.const (Value.int IntKind.i64 0)) 3), 4, none⟩] (Q .normal ds) σ w := mk_eq rfl
@[push_cast] theorem vr53_2 (Q : Post) (ds : List Deferred) (σ : Env) (w : World) : vc Try.prog (.region r53_2) Q ds σ w = vcOps Try.prog [⟨some 5, (Op.move (Operand.tmp 0)), 3, none⟩, ⟨some 6, (Op.convert 3 32 (Operand.tmp 5)), 32, none⟩, ⟨some 7, (Op.binOp BinOp.mul 32 (Operand.const (Value.int IntKind.u64 2)) (Operand.tmp 6) 32), 32, none⟩, ⟨some 2, (Op.assign (Operand.tmp 7)), 32, none⟩] (Q .normal ds) σ w := mk_eq rfl
@[push_cast] theorem vr53_3 (Q : Post) (ds : List Deferred) (σ : Env) (w : World) : vc Try.prog (.region r53_3) Q ds σ w = vcOps Try.prog [⟨some 8, (Op.move (Operand.tmp 0)), 3, none⟩, ⟨some 9, (Op.binOp BinOp.add 3 (Operand.tmp 8) (Operand.const (Value.int IntKind.i64 1)) 3), 3, none⟩, ⟨some 10, (Op.unOp UnOp.neg 3 (Operand.tmp 9)), 3, none⟩, ⟨some 11, (Op.convert 3 32 (Operand.tmp 10)), 32, none⟩, ⟨some 12, (Op.binOp BinOp.mul 32 (Operand.const (Value.int IntKind.u64 2)) (Operand.tmp 11) 32), 32, none⟩, ⟨some 13, (Op.binOp BinOp.add 32 (Operand.tmp 12) (Operand.const (Value.int IntKind.u64 1)) 32), 32, none⟩, ⟨some 2, (Op.assign (Operand.tmp 13)), 32, none⟩] (Q .normal ds) σ w := mk_eq rfl
/-! 54 (*columbary/columbaryref01.Reader).number (params #[70], results #[(ResultVar.tmp 2), (ResultVar.tmp 3)], 58 slots) -/
def W54_0 : List Nat := [2, 3, 4, 5, 6, 7, 8, 9, 10, 11, 12, 13, 14, 15, 16, 17, 18, 19, 20, 21, 22, 23, 24, 25, 26, 27, 28, 29, 30, 31, 32, 33, 34, 35, 36, 37, 38, 39, 40, 41, 42, 43, 44, 45, 46, 47, 48, 49, 50, 51, 52, 53, 54, 55, 56, 57]
@[push_cast] theorem W54_0_def : W54_0 = [2, 3, 4, 5, 6, 7, 8, 9, 10, 11, 12, 13, 14, 15, 16, 17, 18, 19, 20, 21, 22, 23, 24, 25, 26, 27, 28, 29, 30, 31, 32, 33, 34, 35, 36, 37, 38, 39, 40, 41, 42, 43, 44, 45, 46, 47, 48, 49, 50, 51, 52, 53, 54, 55, 56, 57] := mk_eq rfl
def r54_0 : List VOp :=
  [⟨some 2, (Op.assign (Operand.const (Value.int IntKind.u64 0))), 32, none⟩,
   ⟨some 3, (Op.assign (Operand.const (Value.int IntKind.i64 0))), 3, none⟩]
def r54_1 : List VOp :=
  [⟨some 4, (Op.assign (Operand.const (Value.int IntKind.u64 0))), 32, none⟩]
def r54_2 : List VOp :=
  [⟨some 5, (Op.assign (Operand.const (Value.int IntKind.i64 0))), 3, none⟩]
def r54_3 : List VOp :=
  [⟨some 7, (Op.move (Operand.tmp 5)), 3, none⟩,
   ⟨some 8, (Op.binOp BinOp.lss 3 (Operand.tmp 7) (Operand.const (Value.int IntKind.i64 10)) 3), 4, none⟩,
   ⟨some 9, (Op.move (Operand.tmp 8)), 4, none⟩,
   ⟨some 10, (Op.move (Operand.tmp 0)), 70, some (9, true)⟩,
   ⟨some 11, (Op.nilCheck (Operand.tmp 10)), 0, some (9, true)⟩,
   ⟨some 12, (Op.fieldAddr 72 (Operand.tmp 11) 1), 0, some (9, true)⟩,
   ⟨some 13, (Op.load 3 (Operand.tmp 12)), 3, some (9, true)⟩,
   ⟨some 14, (Op.move (Operand.tmp 5)), 3, some (9, true)⟩,
   ⟨some 15, (Op.binOp BinOp.add 3 (Operand.tmp 13) (Operand.tmp 14) 3), 3, some (9, true)⟩,
   ⟨some 16, (Op.move (Operand.tmp 0)), 70, some (9, true)⟩,
   ⟨some 17, (Op.nilCheck (Operand.tmp 16)), 0, some (9, true)⟩,
   ⟨some 18, (Op.fieldAddr 72 (Operand.tmp 17) 0), 0, some (9, true)⟩,
   ⟨some 19, (Op.load 24 (Operand.tmp 18)), 24, some (9, true)⟩,
   ⟨some 20, (Op.call { callee := (Callee.builtin Builtin.len), args := #[(Operand.tmp 19)], argTypes := #[24] }), 3, some (9, true)⟩,
   ⟨some 21, (Op.binOp BinOp.lss 3 (Operand.tmp 15) (Operand.tmp 20) 3), 4, some (9, true)⟩,
   ⟨some 22, (Op.pick (Operand.tmp 9) (Operand.tmp 21) (Operand.const (Value.bool false))), 4, none⟩]
def r54_5 : List VOp :=
  [⟨some 25, (Op.move (Operand.tmp 0)), 70, none⟩,
   ⟨some 26, (Op.nilCheck (Operand.tmp 25)), 0, none⟩,
   ⟨some 27, (Op.fieldAddr 72 (Operand.tmp 26) 0), 0, none⟩,
   ⟨some 28, (Op.load 24 (Operand.tmp 27)), 24, none⟩,
   ⟨some 29, (Op.move (Operand.tmp 0)), 70, none⟩,
   ⟨some 30, (Op.nilCheck (Operand.tmp 29)), 0, none⟩,
   ⟨some 31, (Op.fieldAddr 72 (Operand.tmp 30) 1), 0, none⟩,
   ⟨some 32, (Op.load 3 (Operand.tmp 31)), 3, none⟩,
   ⟨some 33, (Op.move (Operand.tmp 5)), 3, none⟩,
   ⟨some 34, (Op.binOp BinOp.add 3 (Operand.tmp 32) (Operand.tmp 33) 3), 3, none⟩,
   ⟨some 35, (Op.indexAddr 24 (Operand.tmp 28) (Operand.tmp 34)), 0, none⟩,
   ⟨some 36, (Op.load 5 (Operand.tmp 35)), 5, none⟩,
   ⟨some 6, (Op.assign (Operand.tmp 36)), 5, none⟩]
def r54_6 : List VOp :=
  [⟨some 37, (Op.move (Operand.tmp 5)), 3, none⟩,
   ⟨some 38, (Op.binOp BinOp.eql 3 (Operand.tmp 37) (Operand.const (Value.int IntKind.i64 0)) 3), 4, none⟩,
   ⟨some 39, (Op.move (Operand.tmp 38)), 4, none⟩,
   ⟨some 40, (Op.move (Operand.tmp 6)), 5, some (39, true)⟩,
   ⟨some 41, (Op.binOp BinOp.eql 5 (Operand.tmp 40) (Operand.const (Value.int IntKind.u8 128)) 5), 4, some (39, true)⟩,
   ⟨some 42, (Op.pick (Operand.tmp 39) (Operand.tmp 41) (Operand.const (Value.bool false))), 4, none⟩,
   ⟨some 43, (Op.move (Operand.tmp 42)), 4, none⟩,
   ⟨some 44, (Op.move (Operand.tmp 4)), 32, some (43, false)⟩,
   ⟨some 45, (Op.binOp BinOp.gtr 32 (Operand.tmp 44) (Operand.const (Value.int IntKind.u64 144115188075855871)) 32), 4, some (43, false)⟩,
   ⟨some 46, (Op.pick (Operand.tmp 43) (Operand.const (Value.bool true)) (Operand.tmp 45)), 4, none⟩]
def r54_7 : List VOp :=
  [⟨some 2, (Op.assign (Operand.const (Value.int IntKind.u64 0))), 32, none⟩,
   ⟨some 3, (Op.assign (Operand.const (Value.int IntKind.i64 0))), 3, none⟩]
def r54_8 : List VOp :=
  [⟨some 47, (Op.move (Operand.tmp 4)), 32, none⟩,
   ⟨some 48, (Op.binOp BinOp.mul 32 (Operand.const (Value.int IntKind.u64 128)) (Operand.tmp 47) 32), 32, none⟩,
   ⟨some 49, (Op.move (Operand.tmp 6)), 5, none⟩,
   ⟨some 50, (Op.binOp BinOp.rem 5 (Operand.tmp 49) (Operand.const (Value.int IntKind.u8 128)) 5), 5, none⟩,
   ⟨some 51, (Op.convert 5 32 (Operand.tmp 50)), 32, none⟩,
   ⟨some 52, (Op.binOp BinOp.add 32 (Operand.tmp 48) (Operand.tmp 51) 32), 32, none⟩,
   ⟨some 4, (Op.assign (Operand.tmp 52)), 32, none⟩]
def r54_9 : List VOp :=
  [⟨some 53, (Op.move (Operand.tmp 6)), 5, none⟩,
   ⟨some 54, (Op.binOp BinOp.lss 5 (Operand.tmp 53) (Operand.const (Value.int IntKind.u8 128)) 5), 4, none⟩]
def r54_10 : List VOp :=
  [⟨some 55, (Op.move (Operand.tmp 4)), 32, none⟩,
   ⟨some 56, (Op.move (Operand.tmp 5)), 3, none⟩,
   ⟨some 57, (Op.binOp BinOp.add 3 (Operand.tmp 56) (Operand.const (Value.int IntKind.i64 1)) 3), 3, none⟩,
   ⟨some 2, (Op.assign (Operand.tmp 55)), 32, none⟩,
   ⟨some 3, (Op.assign (Operand.tmp 57)), 3, none⟩]
def r54_4 : List VOp :=
  [⟨some 23, (Op.move (Operand.tmp 5)), 3, none⟩,
   ⟨some 24, (Op.binOp BinOp.add 3 (Operand.tmp 23) (Operand.const (Value.int IntKind.i64 1)) 3), 3, none⟩,
   ⟨some 5, (Op.assign (Operand.tmp 24)), 3, none⟩]
def r54_11 : List VOp :=
  [⟨some 2, (Op.assign (Operand.const (Value.int IntKind.u64 0))), 32, none⟩,
   ⟨some 3, (Op.assign (Operand.const (Value.int IntKind.i64 0))), 3, none⟩]
def B54 : VC :=
  (.seq (.region r54_0) (.seq (.region r54_1) (.seq (.seq (.region r54_2) (.block 0 (.loop (.seq (.seq (.draw r54_3 3) (.cond (Operand.tmp 22) .skip (.exit 0))) (.seq (.block 1 (.seq (.draw r54_5 4) (.seq (.seq (.region r54_6) (.cond (Operand.tmp 46) (.seq (.region r54_7) .ret) .skip)) (.seq (.region r54_8) (.seq (.region r54_9) (.cond (Operand.tmp 54) (.seq (.region r54_10) .ret) .skip)))))) (.region r54_4)))))) (.seq (.region r54_11) .ret))))
theorem code54 : ∃ c, Try.f54.body = some c ∧ abs Try.f54.ntmps c = B54 := ⟨_, rfl, by kernel_rfl⟩
theorem hb54 : HasBody Try.prog 54 := hasBody_of Try.func54 (by kernel_rfl)
theorem res54 : Try.f54.results = #[(ResultVar.tmp 2), (ResultVar.tmp 3)] := rfl
theorem enter54 {w : World} {R : Value → World → Prop} (x0 : Value) (h : vc Try.prog B54 (retK Try.prog #[(ResultVar.tmp 2), (ResultVar.tmp 3)] R) [] (initEnv [x0] 0) w) : FnC Try.prog 54 #[x0] w R := by
  obtain ⟨c, h1, h2⟩ := code54
  exact hb54.fn (ret_of_vc mixed Try.func54 h1 (Nat.le_of_ble_eq_true rfl) B54 h2 h)
@[push_cast] theorem vr54_0 (Q : Post) (ds : List Deferred) (σ : Env) (w : World) : vc Try.prog (.region r54_0) Q ds σ w = vcOps Try.prog [⟨some 2, (Op.assign (Operand.const (Value.int IntKind.u64 0))), 32, none⟩, ⟨some 3, (Op.assign (Operand.const (Value.int IntKind.i64 0))), 3, none⟩] (Q .normal ds) σ w := mk_eq rfl
@[push_cast] theorem vr54_1 (Q : Post) (ds : List Deferred) (σ : Env) (w : World) : vc Try.prog (.region r54_1) Q ds σ w = vcOps Try.prog [⟨some 4, (Op.assign (Operand.const (Value.int IntKind.u64 0))), 32, none⟩] (Q .normal ds) σ w := mk_eq rfl
@[push_cast] theorem vr54_2 (Q : Post) (ds : List Deferred) (σ : Env) (w : World) : vc Try.prog (.region r54_2) Q ds σ w = vcOps Try.prog [⟨some 5, (Op.assign (Operand.const (Value.int IntKind.i64 0))), 3, none⟩] (Q .normal ds) σ w := mk_eq rfl
@[push_cast] theorem vr54_3 (Q : Post) (ds : List Deferred) (σ : Env) (w : World) : vc Try.prog (.draw r54_3 3) Q ds σ w = drawn Try.prog [(⟨some 7, (Op.move (Operand.tmp 5)), 3, none⟩, [5]), (⟨some 8, (Op.binOp BinOp.lss 3 (Operand.tmp 7) (Operand.const (Value.int IntKind.i64 10)) 3), 4, none⟩, [7]), (⟨some 9, (Op.move (Operand.tmp 8)), 4, none⟩, [8]), (⟨some 10, (Op.move (Operand.tmp 0)), 70, some (9, true)⟩, [0, 9]), (⟨some 11, (Op.nilCheck (Operand.tmp 10)), 0, some (9, true)⟩, [10, 9]), (⟨some 12, (Op.fieldAddr 72 (Operand.tmp 11) 1), 0, some (9, true)⟩, [11, 9]), (⟨some 13, (Op.load 3 (Operand.tmp 12)), 3, some (9, true)⟩, [12, 9]), (⟨some 14, (Op.move (Operand.tmp 5)), 3, some (9, true)⟩, [5, 9]), (⟨some 15, (Op.binOp BinOp.add 3 (Operand.tmp 13) (Operand.tmp 14) 3), 3, some (9, true)⟩, [13, 14, 9]), (⟨some 16, (Op.move (Operand.tmp 0)), 70, some (9, true)⟩, [0, 9]), (⟨some 17, (Op.nilCheck (Operand.tmp 16)), 0, some (9, true)⟩, [16, 9]), (⟨some 18, (Op.fieldAddr 72 (Operand.tmp 17) 0), 0, some (9, true)⟩, [17, 9]), (⟨some 19, (Op.load 24 (Operand.tmp 18)), 24, some (9, true)⟩, [18, 9]), (⟨some 20, (Op.call { callee := (Callee.builtin Builtin.len), args := #[(Operand.tmp 19)], argTypes := #[24] }), 3, some (9, true)⟩, [19, 9]), (⟨some 21, (Op.binOp BinOp.lss 3 (Operand.tmp 15) (Operand.tmp 20) 3), 4, some (9, true)⟩, [15, 20, 9]), (⟨some 22, (Op.pick (Operand.tmp 9) (Operand.tmp 21) (Operand.const (Value.bool false))), 4, none⟩, [9, 21])] 3 (Q .normal ds) σ w := mk_eq rfl
@[push_cast] theorem vr54_5 (Q : Post) (ds : List Deferred) (σ : Env) (w : World) : vc Try.prog (.draw r54_5 4) Q ds σ w = drawn Try.prog [(⟨some 25, (Op.move (Operand.tmp 0)), 70, none⟩, [0]), (⟨some 26, (Op.nilCheck (Operand.tmp 25)), 0, none⟩, [25]), (⟨some 27, (Op.fieldAddr 72 (Operand.tmp 26) 0), 0, none⟩, [26]), (⟨some 28, (Op.load 24 (Operand.tmp 27)), 24, none⟩, [27]), (⟨some 29, (Op.move (Operand.tmp 0)), 70, none⟩, [0]), (⟨some 30, (Op.nilCheck (Operand.tmp 29)), 0, none⟩, [29]), (⟨some 31, (Op.fieldAddr 72 (Operand.tmp 30) 1), 0, none⟩, [30]), (⟨some 32, (Op.load 3 (Operand.tmp 31)), 3, none⟩, [31]), (⟨some 33, (Op.move (Operand.tmp 5)), 3, none⟩, [5]), (⟨some 34, (Op.binOp BinOp.add 3 (Operand.tmp 32) (Operand.tmp 33) 3), 3, none⟩, [32, 33]), (⟨some 35, (Op.indexAddr 24 (Operand.tmp 28) (Operand.tmp 34)), 0, none⟩, [28, 34]), (⟨some 36, (Op.load 5 (Operand.tmp 35)), 5, none⟩, [35]), (⟨some 6, (Op.assign (Operand.tmp 36)), 5, none⟩, [36])] 4 (Q .normal ds) σ w := mk_eq rfl
@[push_cast] theorem vr54_6 (Q : Post) (ds : List Deferred) (σ : Env) (w : World) : vc Try.prog (.region r54_6) Q ds σ w = vcOps Try.prog [⟨some 37, (Op.move (Operand.tmp 5)), 3, none⟩, ⟨some 38, (Op.binOp BinOp.eql 3 (Operand.tmp 37) (Operand.const (Value.int IntKind.i64 0)) 3), 4, none⟩, ⟨some 39, (Op.move (Operand.tmp 38)), 4, none⟩, ⟨some 40, (Op.move (Operand.tmp 6)), 5, some (39, true)⟩, ⟨some 41, (Op.binOp BinOp.eql 5 (Operand.tmp 40) (Operand.const (Value.int IntKind.u8 128)) 5), 4, some (39, true)⟩, ⟨some 42, (Op.pick (Operand.tmp 39) (Operand.tmp 41) (Operand.const (Value.bool false))), 4, none⟩, ⟨some 43, (Op.move (Operand.tmp 42)), 4, none⟩, ⟨some 44, (Op.move (Operand.tmp 4)), 32, some (43, false)⟩, ⟨some 45, (Op.binOp BinOp.gtr 32 (Operand.tmp 44) (Operand.const (Value.int IntKind.u64 144115188075855871)) 32), 4, some (43, false)⟩, ⟨some 46, (Op.pick (Operand.tmp 43) (Operand.const (Value.bool true)) (Operand.tmp 45)), 4, none⟩] (Q .normal ds) σ w := mk_eq rfl
@[push_cast] theorem vr54_7 (Q : Post) (ds : List Deferred) (σ : Env) (w : World) : vc Try.prog (.region r54_7) Q ds σ w = vcOps Try.prog [⟨some 2, (Op.assign (Operand.const (Value.int IntKind.u64 0))), 32, none⟩, ⟨some 3, (Op.assign (Operand.const (Value.int IntKind.i64 0))), 3, none⟩] (Q .normal ds) σ w := mk_eq rfl
@[push_cast] theorem vr54_8 (Q : Post) (ds : List Deferred) (σ : Env) (w : World) : vc Try.prog (.region r54_8) Q ds σ w = vcOps Try.prog [⟨some 47, (Op.move (Operand.tmp 4)), 32, none⟩, ⟨some 48, (Op.binOp BinOp.mul 32 (Operand.const (Value.int IntKind.u64 128)) (Operand.tmp 47) 32), 32, none⟩, ⟨some 49, (Op.move (Operand.tmp 6)), 5, none⟩, ⟨some 50, (Op.binOp BinOp.rem 5 (Operand.tmp 49) (Operand.const (Value.int IntKind.u8 128)) 5), 5, none⟩, ⟨some 51, (Op.convert 5 32 (Operand.tmp 50)), 32, none⟩, ⟨some 52, (Op.binOp BinOp.add 32 (Operand.tmp 48) (Operand.tmp 51) 32), 32, none⟩, ⟨some 4, (Op.assign (Operand.tmp 52)), 32, none⟩] (Q .normal ds) σ w := mk_eq rfl
@[push_cast] theorem vr54_9 (Q : Post) (ds : List Deferred) (σ : Env) (w : World) : vc Try.prog (.region r54_9) Q ds σ w = vcOps Try.prog [⟨some 53, (Op.move (Operand.tmp 6)), 5, none⟩, ⟨some 54, (Op.binOp BinOp.lss 5 (Operand.tmp 53) (Operand.const (Value.int IntKind.u8 128)) 5), 4, none⟩] (Q .normal ds) σ w := mk_eq rfl
@[push_cast] theorem vr54_10 (Q : Post) (ds : List Deferred) (σ : Env) (w : World) : vc Try.prog (.region r54_10) Q ds σ w = vcOps Try.prog [⟨some 55, (Op.move (Operand.tmp 4)), 32, none⟩, ⟨some 56, (Op.move (Operand.tmp 5)), 3, none⟩, ⟨some 57, (Op.binOp BinOp.add 3 (Operand.tmp 56) (Operand.const (Value.int IntKind.i64 1)) 3), 3, none⟩, ⟨some 2, (Op.assign (Operand.tmp 55)), 32, none⟩, ⟨some 3, (Op.assign (Operand.tmp 57)), 3, none⟩] (Q .normal ds) σ w := mk_eq rfl
@[push_cast] theorem vr54_4 (Q : Post) (ds : List Deferred) (σ : Env) (w : World) : vc Try.prog (.region r54_4) Q ds σ w = vcOps Try.prog [⟨some 23, (Op.move (Operand.tmp 5)), 3, none⟩, ⟨some 24, (Op.binOp BinOp.add 3 (Operand.tmp 23) (Operand.const (Value.int IntKind.i64 1)) 3), 3, none⟩, ⟨some 5, (Op.assign (Operand.tmp 24)), 3, none⟩] (Q .normal ds) σ w := mk_eq rfl
@[push_cast] theorem vr54_11 (Q : Post) (ds : List Deferred) (σ : Env) (w : World) : vc Try.prog (.region r54_11) Q ds σ w = vcOps Try.prog [⟨some 2, (Op.assign (Operand.const (Value.int IntKind.u64 0))), 32, none⟩, ⟨some 3, (Op.assign (Operand.const (Value.int IntKind.i64 0))), 3, none⟩] (Q .normal ds) σ w := mk_eq rfl
/-! 55 columbary/columbaryref01.Unfold (params #[32], results #[(ResultVar.tmp 2)], 14 slots) -/
def r55_0 : List VOp :=
  [⟨some 2, (Op.assign (Operand.const (Value.int IntKind.i64 0))), 3, none⟩]
def r55_1 : List VOp :=
  [⟨some 3, (Op.move (Operand.tmp 0)), 32, none⟩,
   ⟨some 4, (Op.binOp BinOp.rem 32 (Operand.tmp 3) (Operand.const (Value.int IntKind.u64 2)) 32), 32, none⟩,
   ⟨some 5, (Op.binOp BinOp.eql 32 (Operand.tmp 4) (Operand.const (Value.int IntKind.u64 0)) 32), 4, none⟩]
def r55_2 : List VOp :=
  [⟨some 6, (Op.move (Operand.tmp 0)), 32, none⟩,
   ⟨some 7, (Op.binOp BinOp.quo 32 (Operand.tmp 6) (Operand.const (Value.int IntKind.u64 2)) 32), 32, none⟩,
   ⟨some 8, (Op.convert 32 3 (Operand.tmp 7)), 3, none⟩,
   ⟨some 2, (Op.assign (Operand.tmp 8)), 3, none⟩]
def r55_3 : List VOp :=
  [⟨some 9, (Op.move (Operand.tmp 0)), 32, none⟩,
   ⟨some 10, (Op.binOp BinOp.quo 32 (Operand.tmp 9) (Operand.const (Value.int IntKind.u64 2)) 32), 32, none⟩,
   ⟨some 11, (Op.convert 32 3 (Operand.tmp 10)), 3, none⟩,
   ⟨some 12, (Op.unOp UnOp.neg 3 (Operand.tmp 11)), 3, none⟩,
   ⟨some 13, (Op.binOp BinOp.sub 3 (Operand.tmp 12) (Operand.const (Value.int IntKind.i64 1)) 3), 3, none⟩,
   ⟨some 2, (Op.assign (Operand.tmp 13)), 3, none⟩]
def B55 : VC :=
  (.seq (.region r55_0) (.seq (.seq (.region r55_1) (.cond (Operand.tmp 5) (.seq (.region r55_2) .ret) .skip)) (.seq (.region r55_3) .ret)))
theorem code55 : ∃ c, Try.f55.body = some c ∧ abs Try.f55.ntmps c = B55 := ⟨_, rfl, by kernel_rfl⟩
theorem hb55 : HasBody Try.prog 55 := hasBody_of Try.func55 (by kernel_rfl)
theorem res55 : Try.f55.results = #[(ResultVar.tmp 2)] := rfl
theorem enter55 {w : World} {R : Value → World → Prop} (x0 : Value) (h : vc Try.prog B55 (retK Try.prog #[(ResultVar.tmp 2)] R) [] (initEnv [x0] 0) w) : FnC Try.prog 55 #[x0] w R := by
  obtain ⟨c, h1, h2⟩ := code55
  exact hb55.fn (ret_of_vc mixed Try.func55 h1 (Nat.le_of_ble_eq_true rfl) B55 h2 h)
@[push_cast] theorem vr55_0 (Q : Post) (ds : List Deferred) (σ : Env) (w : World) : vc Try.prog (.region r55_0) Q ds σ w = vcOps Try.prog [⟨some 2, (Op.assign (Operand.const (Value.int IntKind.i64 0))), 3, none⟩] (Q .normal ds) σ w := mk_eq rfl
@[push_cast] theorem vr55_1 (Q : Post) (ds : List Deferred) (σ : Env) (w : World) : vc Try.prog (.region r55_1) Q ds σ w = vcOps Try.prog [⟨some 3, (Op.move (Operand.tmp 0)), 32, none⟩, ⟨some 4, (Op.binOp BinOp.rem 32 (Operand.tmp 3) (Operand.const (Value.int IntKind.u64 2)) 32), 32, none⟩, ⟨some 5, (Op.binOp BinOp.eql 32 (Operand.tmp 4) (Operand.const (Value.int IntKind.u64 0)) 32), 4, none⟩] (Q .normal ds) σ w := mk_eq rfl
@[push_cast] theorem vr55_2 (Q : Post) (ds : List Deferred) (σ : Env) (w : World) : vc Try.prog (.region r55_2) Q ds σ w = vcOps Try.prog [⟨some 6, (Op.move (Operand.tmp 0)), 32, none⟩, ⟨some 7, (Op.binOp BinOp.quo 32 (Operand.tmp 6) (Operand.const (Value.int IntKind.u64 2)) 32), 32, none⟩, ⟨some 8, (Op.convert 32 3 (Operand.tmp 7)), 3, none⟩, ⟨some 2, (Op.assign (Operand.tmp 8)), 3, none⟩] (Q .normal ds) σ w := mk_eq rfl
@[push_cast] theorem vr55_3 (Q : Post) (ds : List Deferred) (σ : Env) (w : World) : vc Try.prog (.region r55_3) Q ds σ w = vcOps Try.prog [⟨some 9, (Op.move (Operand.tmp 0)), 32, none⟩, ⟨some 10, (Op.binOp BinOp.quo 32 (Operand.tmp 9) (Operand.const (Value.int IntKind.u64 2)) 32), 32, none⟩, ⟨some 11, (Op.convert 32 3 (Operand.tmp 10)), 3, none⟩, ⟨some 12, (Op.unOp UnOp.neg 3 (Operand.tmp 11)), 3, none⟩, ⟨some 13, (Op.binOp BinOp.sub 3 (Operand.tmp 12) (Operand.const (Value.int IntKind.i64 1)) 3), 3, none⟩, ⟨some 2, (Op.assign (Operand.tmp 13)), 3, none⟩] (Q .normal ds) σ w := mk_eq rfl
/-! 56 columbary/zig.Unfold (params #[32], results #[(ResultVar.tmp 2)], 11 slots) -/
def r56_0 : List VOp :=
  [⟨some 2, (Op.assign (Operand.const (Value.int IntKind.i64 0))), 3, none⟩]
def r56_1 : List VOp :=
  [⟨some 3, (Op.move (Operand.tmp 0)), 32, none⟩,
   ⟨some 4, (Op.binOp BinOp.shr 32 (Operand.tmp 3) (Operand.const (Value.int IntKind.u64 1)) 33), 32, none⟩,
   ⟨some 5, (Op.convert 32 3 (Operand.tmp 4)), 3, none⟩,
   ⟨some 6, (Op.move (Operand.tmp 0)), 32, none⟩,
   ⟨some 7, (Op.binOp BinOp.and 32 (Operand.tmp 6) (Operand.const (Value.int IntKind.u64 1)) 32), 32, none⟩,
   ⟨some 8, (Op.convert 32 3 (Operand.tmp 7)), 3, none⟩,
   ⟨some 9, (Op.unOp UnOp.neg 3 (Operand.tmp 8)), 3, none⟩,
   ⟨some 10, (Op.binOp BinOp.xor 3 (Operand.tmp 5) (Operand.tmp 9) 3), 3, none⟩,
   ⟨some 2, (Op.assign (Operand.tmp 10)), 3, none⟩]
def B56 : VC :=
  (.seq (.region r56_0) (.seq (.region r56_1) .ret))
theorem code56 : ∃ c, Try.f56.body = some c ∧ abs Try.f56.ntmps c = B56 := ⟨_, rfl, by kernel_rfl⟩
theorem hb56 : HasBody Try.prog 56 := hasBody_of Try.func56 (by kernel_rfl)
theorem res56 : Try.f56.results = #[(ResultVar.tmp 2)] := rfl
theorem enter56 {w : World} {R : Value → World → Prop} (x0 : Value) (h : vc Try.prog B56 (retK Try.prog #[(ResultVar.tmp 2)] R) [] (initEnv [x0] 0) w) : FnC Try.prog 56 #[x0] w R := by
  obtain ⟨c, h1, h2⟩ := code56
  exact hb56.fn (ret_of_vc mixed Try.func56 h1 (Nat.le_of_ble_eq_true rfl) B56 h2 h)
@[push_cast] theorem vr56_0 (Q : Post) (ds : List Deferred) (σ : Env) (w : World) : vc Try.prog (.region r56_0) Q ds σ w = vcOps Try.prog [⟨some 2, (Op.assign (Operand.const (Value.int IntKind.i64 0))), 3, none⟩] (Q .normal ds) σ w := mk_eq rfl
@[push_cast] theorem vr56_1 (Q : Post) (ds : List Deferred) (σ : Env) (w : World) : vc Try.prog (.region r56_1) Q ds σ w = vcOps Try.prog [⟨some 3, (Op.move (Operand.tmp 0)), 32, none⟩, ⟨some 4, (Op.binOp BinOp.shr 32 (Operand.tmp 3) (Operand.const (Value.int IntKind.u64 1)) 33), 32, none⟩, ⟨some 5, (Op.convert 32 3 (Operand.tmp 4)), 3, none⟩, ⟨some 6, (Op.move (Operand.tmp 0)), 32, none⟩, ⟨some 7, (Op.binOp BinOp.and 32 (Operand.tmp 6) (Operand.const (Value.int IntKind.u64 1)) 32), 32, none⟩, ⟨some 8, (Op.convert 32 3 (Operand.tmp 7)), 3, none⟩, ⟨some 9, (Op.unOp UnOp.neg 3 (Operand.tmp 8)), 3, none⟩, ⟨some 10, (Op.binOp BinOp.xor 3 (Operand.tmp 5) (Operand.tmp 9) 3), 3, none⟩, ⟨some 2, (Op.assign (Operand.tmp 10)), 3, none⟩] (Q .normal ds) σ w := mk_eq rfl
@[push_cast] theorem bsl24_0_CodesZ {K : Value → World → Prop} {w : World}  : vBuildSlice Try.prog 24 0 #[] K w = K (.slice (some ⟨w.heap.size, 0, none⟩) 0 0) (w.alloc (.cells #[] 5)) :=
  vBuildSlice_ok Try.underlying24 ti5 (by kernel_rfl) (by decide)
@[push_cast] theorem bsl24_1_CodesZ {K : Value → World → Prop} {w : World} (x0 : Int) : vBuildSlice Try.prog 24 1 #[(0, (.int .u8 x0))] K w = K (.slice (some ⟨w.heap.size, 0, none⟩) 1 1) (w.alloc (.cells #[(.int .u8 x0)] 5)) :=
  vBuildSlice_ok Try.underlying24 ti5 (by kernel_rfl) (by decide)
@[push_cast] theorem bld76_0_CodesZ {K : Value → World → Prop} {w : World} (x0o : Option Addr) (x0n x0c : Nat) : vBuild Try.prog 76 #[(0, (.slice x0o x0n x0c))] K w = K (.agg #[(.slice x0o x0n x0c)]) w :=
  vBuild_ok (by kernel_rfl)
end Go.Proofs.Ytkchefbnamiikaa
