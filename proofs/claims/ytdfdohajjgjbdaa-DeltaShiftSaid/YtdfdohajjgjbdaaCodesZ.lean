/- The functions' code in the generator's form. Written by a program (codes.py) out of Lean's own print of the loaded translation. -/
import Derived.Test.YtdfdohajjgjbdaaTypes
namespace Go.Proofs.Ytdfdohajjgjbdaa
open Go.Vc
/-! 38 columbary/zig.Int (params #[36, 3], results #[(ResultVar.tmp 4)], 47 slots) -/
def W38_0 : List Nat := [0, 6, 7, 8, 17, 18, 19, 20, 21, 22, 23, 24, 25, 26, 27, 28, 29, 30, 31, 32, 33, 34, 35, 36, 37, 38, 39, 40, 41, 42, 43, 44, 45]
@[push_cast] theorem W38_0_def : W38_0 = [0, 6, 7, 8, 17, 18, 19, 20, 21, 22, 23, 24, 25, 26, 27, 28, 29, 30, 31, 32, 33, 34, 35, 36, 37, 38, 39, 40, 41, 42, 43, 44, 45] := mk_eq rfl
def r38_0 : List VOp :=
  [⟨some 4, (Op.assign (Operand.const (Value.slice none 0 0))), 36, none⟩]
def r38_1 : List VOp :=
  [⟨some 9, (Op.move (Operand.tmp 0)), 36, none⟩,
   ⟨some 10, (Op.move (Operand.tmp 0)), 36, none⟩,
   ⟨some 11, (Op.call { callee := (Callee.builtin Builtin.len), args := #[(Operand.tmp 10)], argTypes := #[36] }), 3, none⟩,
   ⟨some 12, (Op.move (Operand.tmp 0)), 36, none⟩,
   ⟨some 13, (Op.call { callee := (Callee.builtin Builtin.len), args := #[(Operand.tmp 12)], argTypes := #[36] }), 3, none⟩,
   ⟨some 14, (Op.slice 36 (Operand.tmp 9) none (some (Operand.tmp 11)) (some (Operand.tmp 13))), 36, none⟩,
   ⟨some 0, (Op.assign (Operand.tmp 14)), 36, none⟩]
def r38_2 : List VOp :=
  [⟨some 15, (Op.move (Operand.tmp 1)), 3, none⟩,
   ⟨some 16, (Op.call { callee := (Callee.value (Operand.func 63)), args := #[(Operand.tmp 15)], argTypes := #[3] }), 47, none⟩,
   ⟨some 5, (Op.assign (Operand.tmp 16)), 47, none⟩]
def r38_3 : List VOp :=
  [⟨some 17, (Op.move (Operand.const (Value.int IntKind.i64 0))), 3, none⟩]
def r38_4 : List VOp :=
  [⟨some 18, (Op.binOp BinOp.lss 3 (Operand.tmp 17) (Operand.const (Value.int IntKind.i64 10)) 3), 4, none⟩]
def r38_5 : List VOp :=
  [⟨some 19, (Op.move (Operand.tmp 17)), 3, none⟩,
   ⟨some 6, (Op.assign (Operand.tmp 19)), 3, none⟩]
def r38_6 : List VOp :=
  [⟨some 20, (Op.move (Operand.tmp 6)), 3, none⟩,
   ⟨some 21, (Op.binOp BinOp.sub 3 (Operand.const (Value.int IntKind.i64 9)) (Operand.tmp 20) 3), 3, none⟩,
   ⟨some 22, (Op.binOp BinOp.mul 3 (Operand.const (Value.int IntKind.i64 7)) (Operand.tmp 21) 3), 3, none⟩,
   ⟨some 7, (Op.assign (Operand.tmp 22)), 3, none⟩]
def r38_7 : List VOp :=
  [⟨some 23, (Op.move (Operand.tmp 5)), 47, none⟩,
   ⟨some 24, (Op.move (Operand.tmp 7)), 3, none⟩,
   ⟨some 25, (Op.binOp BinOp.shr 47 (Operand.tmp 23) (Operand.tmp 24) 3), 47, none⟩,
   ⟨some 26, (Op.convert 47 5 (Operand.tmp 25)), 5, none⟩,
   ⟨some 27, (Op.binOp BinOp.andNot 5 (Operand.tmp 26) (Operand.const (Value.int IntKind.u8 128)) 5), 5, none⟩,
   ⟨some 8, (Op.assign (Operand.tmp 27)), 5, none⟩]
def r38_8 : List VOp :=
  [⟨some 29, (Op.move (Operand.tmp 7)), 3, none⟩,
   ⟨some 30, (Op.binOp BinOp.eql 3 (Operand.tmp 29) (Operand.const (Value.int IntKind.i64 0)) 3), 4, none⟩,
   ⟨some 28, (Op.assign (Operand.tmp 30)), 4, none⟩]
def r38_9 : List VOp :=
  [⟨some 31, (Op.move (Operand.tmp 0)), 36, none⟩,
   ⟨some 32, (Op.move (Operand.tmp 8)), 5, none⟩,
   ⟨some 33, (Op.buildSlice 36 1 #[(0, (Operand.tmp 32))]), 36, none⟩,
   ⟨some 34, (Op.call { callee := (Callee.builtin Builtin.append), args := #[(Operand.tmp 31), (Operand.tmp 33)], argTypes := #[36, 36] }), 36, none⟩,
   ⟨some 0, (Op.assign (Operand.tmp 34)), 36, none⟩]
def r38_10 : List VOp :=
  [⟨some 36, (Op.move (Operand.tmp 5)), 47, none⟩,
   ⟨some 37, (Op.move (Operand.tmp 7)), 3, none⟩,
   ⟨some 38, (Op.binOp BinOp.shr 47 (Operand.tmp 36) (Operand.tmp 37) 3), 47, none⟩,
   ⟨some 39, (Op.binOp BinOp.gtr 47 (Operand.tmp 38) (Operand.const (Value.int IntKind.u64 0)) 47), 4, none⟩,
   ⟨some 35, (Op.assign (Operand.tmp 39)), 4, none⟩]
def r38_11 : List VOp :=
  [⟨some 40, (Op.move (Operand.tmp 0)), 36, none⟩,
   ⟨some 41, (Op.move (Operand.tmp 8)), 5, none⟩,
   ⟨some 42, (Op.binOp BinOp.or 5 (Operand.tmp 41) (Operand.const (Value.int IntKind.u8 128)) 5), 5, none⟩,
   ⟨some 43, (Op.buildSlice 36 1 #[(0, (Operand.tmp 42))]), 36, none⟩,
   ⟨some 44, (Op.call { callee := (Callee.builtin Builtin.append), args := #[(Operand.tmp 40), (Operand.tmp 43)], argTypes := #[36, 36] }), 36, none⟩,
   ⟨some 0, (Op.assign (Operand.tmp 44)), 36, none⟩]
def r38_12 : List VOp :=
  [⟨some 45, (Op.binOp BinOp.add 3 (Operand.tmp 17) (Operand.const (Value.int IntKind.i64 1)) 3), 3, none⟩,
   ⟨some 17, (Op.move (Operand.tmp 45)), 3, none⟩]
def r38_13 : List VOp :=
  [⟨some 46, (Op.move (Operand.tmp 0)), 36, none⟩,
   ⟨some 4, (Op.assign (Operand.tmp 46)), 36, none⟩]
def B38 : VC :=
  (.seq (.region r38_0) (.seq (.region r38_1) (.seq (.region r38_2) (.seq (.seq (.region r38_3) (.block 0 (.loop (.seq (.region r38_4) (.seq (.cond (Operand.tmp 18) .skip (.exit 0)) (.seq (.block 1 (.seq (.region r38_5) (.seq (.region r38_6) (.seq (.region r38_7) (.block 2 (.seq (.region r38_8) (.cond (Operand.tmp 28) (.region r38_9) (.seq (.region r38_10) (.cond (Operand.tmp 35) (.region r38_11) .skip))))))))) (.region r38_12))))))) (.seq (.region r38_13) .ret)))))
theorem code38 : ∃ c, Try.f38.body = some c ∧ abs Try.f38.ntmps c = B38 := ⟨_, rfl, by kernel_rfl⟩
theorem hb38 : HasBody Try.prog 38 := hasBody_of Try.func38 (by kernel_rfl)
theorem res38 : Try.f38.results = #[(ResultVar.tmp 4)] := rfl
theorem enter38 {w : World} {R : Value → World → Prop} (x0 x1 : Value) (h : vc Try.prog B38 (retK Try.prog #[(ResultVar.tmp 4)] R) [] (initEnv [x0, x1] 0) w) : FnC Try.prog 38 #[x0, x1] w R := by
  obtain ⟨c, h1, h2⟩ := code38
  exact hb38.fn (ret_of_vc mixed Try.func38 h1 (Nat.le_of_ble_eq_true rfl) B38 h2 h)
@[push_cast] theorem vr38_0 (Q : Post) (ds : List Deferred) (σ : Env) (w : World) : vc Try.prog (.region r38_0) Q ds σ w = vcOps Try.prog [⟨some 4, (Op.assign (Operand.const (Value.slice none 0 0))), 36, none⟩] (Q .normal ds) σ w := mk_eq rfl
@[push_cast] theorem vr38_1 (Q : Post) (ds : List Deferred) (σ : Env) (w : World) : vc Try.prog (.region r38_1) Q ds σ w = vcOps Try.prog [⟨some 9, (Op.move (Operand.tmp 0)), 36, none⟩, ⟨some 10, (Op.move (Operand.tmp 0)), 36, none⟩, ⟨some 11, (Op.call { callee := (Callee.builtin Builtin.len), args := #[(Operand.tmp 10)], argTypes := #[36] }), 3, none⟩, ⟨some 12, (Op.move (Operand.tmp 0)), 36, none⟩, ⟨some 13, (Op.call { callee := (Callee.builtin Builtin.len), args := #[(Operand.tmp 12)], argTypes := #[36] }), 3, none⟩, ⟨some 14, (Op.slice 36 (Operand.tmp 9) none (some (Operand.tmp 11)) (some (Operand.tmp 13))), 36, none⟩, ⟨some 0, (Op.assign (Operand.tmp 14)), 36, none⟩] (Q .normal ds) σ w := mk_eq rfl
@[push_cast] theorem vr38_2 (Q : Post) (ds : List Deferred) (σ : Env) (w : World) : vc Try.prog (.region r38_2) Q ds σ w = vcOps Try.prog [⟨some 15, (Op.move (Operand.tmp 1)), 3, none⟩, ⟨some 16, (Op.call { callee := (Callee.value (Operand.func 63)), args := #[(Operand.tmp 15)], argTypes := #[3] }), 47, none⟩, ⟨some 5, (Op.assign (Operand.tmp 16)), 47, none⟩] (Q .normal ds) σ w := mk_eq rfl
@[push_cast] theorem vr38_3 (Q : Post) (ds : List Deferred) (σ : Env) (w : World) : vc Try.prog (.region r38_3) Q ds σ w = vcOps Try.prog [⟨some 17, (Op.move (Operand.const (Value.int IntKind.i64 0))), 3, none⟩] (Q .normal ds) σ w := mk_eq rfl
@[push_cast] theorem vr38_4 (Q : Post) (ds : List Deferred) (σ : Env) (w : World) : vc Try.prog (.region r38_4) Q ds σ w = vcOps Try.prog [⟨some 18, (Op.binOp BinOp.lss 3 (Operand.tmp 17) (Operand.const (Value.int IntKind.i64 10)) 3), 4, none⟩] (Q .normal ds) σ w := mk_eq rfl
@[push_cast] theorem vr38_5 (Q : Post) (ds : List Deferred) (σ : Env) (w : World) : vc Try.prog (.region r38_5) Q ds σ w = vcOps Try.prog [⟨some 19, (Op.move (Operand.tmp 17)), 3, none⟩, ⟨some 6, (Op.assign (Operand.tmp 19)), 3, none⟩] (Q .normal ds) σ w := mk_eq rfl
@[push_cast] theorem vr38_6 (Q : Post) (ds : List Deferred) (σ : Env) (w : World) : vc Try.prog (.region r38_6) Q ds σ w = vcOps Try.prog [⟨some 20, (Op.move (Operand.tmp 6)), 3, none⟩, ⟨some 21, (Op.binOp BinOp.sub 3 (Operand.const (Value.int IntKind.i64 9)) (Operand.tmp 20) 3), 3, none⟩, ⟨some 22, (Op.binOp BinOp.mul 3 (Operand.const (Value.int IntKind.i64 7)) (Operand.tmp 21) 3), 3, none⟩, ⟨some 7, (Op.assign (Operand.tmp 22)), 3, none⟩] (Q .normal ds) σ w := mk_eq rfl
@[push_cast] theorem vr38_7 (Q : Post) (ds : List Deferred) (σ : Env) (w : World) : vc Try.prog (.region r38_7) Q ds σ w = vcOps Try.prog [⟨some 23, (Op.move (Operand.tmp 5)), 47, none⟩, ⟨some 24, (Op.move (Operand.tmp 7)), 3, none⟩, ⟨some 25, (Op.binOp BinOp.shr 47 (Operand.tmp 23) (Operand.tmp 24) 3), 47, none⟩, ⟨some 26, (Op.convert 47 5 (Operand.tmp 25)), 5, none⟩, ⟨some 27, (Op.binOp BinOp.andNot 5 (Operand.tmp 26) (Operand.const (Value.int IntKind.u8 128)) 5), 5, none⟩, ⟨some 8, (Op.assign (Operand.tmp 27)), 5, none⟩] (Q .normal ds) σ w := mk_eq rfl
@[push_cast] theorem vr38_8 (Q : Post) (ds : List Deferred) (σ : Env) (w : World) : vc Try.prog (.region r38_8) Q ds σ w = vcOps Try.prog [⟨some 29, (Op.move (Operand.tmp 7)), 3, none⟩, ⟨some 30, (Op.binOp BinOp.eql 3 (Operand.tmp 29) (Operand.const (Value.int IntKind.i64 0)) 3), 4, none⟩, ⟨some 28, (Op.assign (Operand.tmp 30)), 4, none⟩] (Q .normal ds) σ w := mk_eq rfl
@[push_cast] theorem vr38_9 (Q : Post) (ds : List Deferred) (σ : Env) (w : World) : vc Try.prog (.region r38_9) Q ds σ w = vcOps Try.prog [⟨some 31, (Op.move (Operand.tmp 0)), 36, none⟩, ⟨some 32, (Op.move (Operand.tmp 8)), 5, none⟩, ⟨some 33, (Op.buildSlice 36 1 #[(0, (Operand.tmp 32))]), 36, none⟩, ⟨some 34, (Op.call { callee := (Callee.builtin Builtin.append), args := #[(Operand.tmp 31), (Operand.tmp 33)], argTypes := #[36, 36] }), 36, none⟩, ⟨some 0, (Op.assign (Operand.tmp 34)), 36, none⟩] (Q .normal ds) σ w := mk_eq rfl
@[push_cast] theorem vr38_10 (Q : Post) (ds : List Deferred) (σ : Env) (w : World) : vc Try.prog (.region r38_10) Q ds σ w = vcOps Try.prog [⟨some 36, (Op.move (Operand.tmp 5)), 47, none⟩, ⟨some 37, (Op.move (Operand.tmp 7)), 3, none⟩, ⟨some 38, (Op.binOp BinOp.shr 47 (Operand.tmp 36) (Operand.tmp 37) 3), 47, none⟩, ⟨some 39, (Op.binOp BinOp.gtr 47 (Operand.tmp 38) (Operand.const (Value.int IntKind.u64 0)) 47), 4, none⟩, ⟨some 35, (Op.assign (Operand.tmp 39)), 4, none⟩] (Q .normal ds) σ w := mk_eq rfl
@[push_cast] theorem vr38_11 (Q : Post) (ds : List Deferred) (σ : Env) (w : World) : vc Try.prog (.region r38_11) Q ds σ w = vcOps Try.prog [⟨some 40, (Op.move (Operand.tmp 0)), 36, none⟩, ⟨some 41, (Op.move (Operand.tmp 8)), 5, none⟩, ⟨some 42, (Op.binOp BinOp.or 5 (Operand.tmp 41) (Operand.const (Value.int IntKind.u8 128)) 5), 5, none⟩, ⟨some 43, (Op.buildSlice 36 1 #[(0, (Operand.tmp 42))]), 36, none⟩, ⟨some 44, (Op.call { callee := (Callee.builtin Builtin.append), args := #[(Operand.tmp 40), (Operand.tmp 43)], argTypes := #[36, 36] }), 36, none⟩, ⟨some 0, (Op.assign (Operand.tmp 44)), 36, none⟩] (Q .normal ds) σ w := mk_eq rfl
@[push_cast] theorem vr38_12 (Q : Post) (ds : List Deferred) (σ : Env) (w : World) : vc Try.prog (.region r38_12) Q ds σ w = vcOps Try.prog [⟨some 45, (Op.binOp BinOp.add 3 (Operand.tmp 17) (Operand.const (Value.int IntKind.i64 1)) 3), 3, none⟩, ⟨some 17, (Op.move (Operand.tmp 45)), 3, none⟩] (Q .normal ds) σ w := mk_eq rfl
@[push_cast] theorem vr38_13 (Q : Post) (ds : List Deferred) (σ : Env) (w : World) : vc Try.prog (.region r38_13) Q ds σ w = vcOps Try.prog [⟨some 46, (Op.move (Operand.tmp 0)), 36, none⟩, ⟨some 4, (Op.assign (Operand.tmp 46)), 36, none⟩] (Q .normal ds) σ w := mk_eq rfl
/-! 44 columbary/columbaryref01.Int (params #[3], results #[(ResultVar.tmp 2)], 26 slots) -/
def W44_0 : List Nat := [3, 4, 5, 12, 13, 14, 15, 16, 17, 18, 19, 20, 21, 22, 23, 24]
@[push_cast] theorem W44_0_def : W44_0 = [3, 4, 5, 12, 13, 14, 15, 16, 17, 18, 19, 20, 21, 22, 23, 24] := mk_eq rfl
def r44_0 : List VOp :=
  [⟨some 2, (Op.assign (Operand.const (Value.slice none 0 0))), 36, none⟩]
def r44_1 : List VOp :=
  [⟨some 6, (Op.move (Operand.tmp 0)), 3, none⟩,
   ⟨some 7, (Op.call { callee := (Callee.value (Operand.func 69)), args := #[(Operand.tmp 6)], argTypes := #[3] }), 47, none⟩,
   ⟨some 3, (Op.assign (Operand.tmp 7)), 47, none⟩]
def r44_2 : List VOp :=
  [⟨some 8, (Op.move (Operand.tmp 3)), 47, none⟩,
   ⟨some 9, (Op.binOp BinOp.rem 47 (Operand.tmp 8) (Operand.const (Value.int IntKind.u64 128)) 47), 47, none⟩,
   ⟨some 10, (Op.convert 47 5 (Operand.tmp 9)), 5, none⟩,
   ⟨some 11, (Op.buildSlice 36 1 #[(0, (Operand.tmp 10))]), 36, none⟩,
   ⟨some 4, (Op.assign (Operand.tmp 11)), 36, none⟩]
def r44_3 : List VOp :=
  [⟨some 12, (Op.move (Operand.tmp 3)), 47, none⟩,
   ⟨some 13, (Op.binOp BinOp.geq 47 (Operand.tmp 12) (Operand.const (Value.int IntKind.u64 128)) 47), 4, none⟩]
def r44_4 : List VOp :=
  [⟨some 14, (Op.move (Operand.tmp 3)), 47, none⟩,
   ⟨some 15, (Op.binOp BinOp.quo 47 (Operand.tmp 14) (Operand.const (Value.int IntKind.u64 128)) 47), 47, none⟩,
   ⟨some 3, (Op.assign (Operand.tmp 15)), 47, none⟩]
def r44_5 : List VOp :=
  [⟨some 16, (Op.move (Operand.tmp 3)), 47, none⟩,
   ⟨some 17, (Op.binOp BinOp.rem 47 (Operand.tmp 16) (Operand.const (Value.int IntKind.u64 128)) 47), 47, none⟩,
   ⟨some 18, (Op.binOp BinOp.add 47 (Operand.const (Value.int IntKind.u64 128)) (Operand.tmp 17) 47), 47, none⟩,
   ⟨some 19, (Op.convert 47 5 (Operand.tmp 18)), 5, none⟩,
   ⟨some 20, (Op.buildSlice 36 1 #[(0, (Operand.tmp 19))]), 36, none⟩,
   ⟨some 5, (Op.assign (Operand.tmp 20)), 36, none⟩]
def r44_6 : List VOp :=
  [⟨some 21, (Op.move (Operand.tmp 5)), 36, none⟩,
   ⟨some 22, (Op.move (Operand.tmp 4)), 36, none⟩,
   ⟨some 23, (Op.call { callee := (Callee.builtin Builtin.append), args := #[(Operand.tmp 21), (Operand.tmp 22)], argTypes := #[36, 36] }), 36, none⟩,
   ⟨some 5, (Op.assign (Operand.tmp 23)), 36, none⟩]
def r44_7 : List VOp :=
  [⟨some 24, (Op.move (Operand.tmp 5)), 36, none⟩,
   ⟨some 4, (Op.assign (Operand.tmp 24)), 36, none⟩]
def r44_8 : List VOp :=
  [⟨some 25, (Op.move (Operand.tmp 4)), 36, none⟩,
   ⟨some 2, (Op.assign (Operand.tmp 25)), 36, none⟩]
def B44 : VC :=
  (.seq (.region r44_0) (.seq (.region r44_1) (.seq (.region r44_2) (.seq (.block 0 (.loop (.seq (.seq (.region r44_3) (.cond (Operand.tmp 13) .skip (.exit 0))) (.block 1 (.seq (.region r44_4) (.seq (.region r44_5) (.seq (.region r44_6) (.region r44_7)))))))) (.seq (.region r44_8) .ret)))))
theorem code44 : ∃ c, Try.f44.body = some c ∧ abs Try.f44.ntmps c = B44 := ⟨_, rfl, by kernel_rfl⟩
theorem hb44 : HasBody Try.prog 44 := hasBody_of Try.func44 (by kernel_rfl)
theorem res44 : Try.f44.results = #[(ResultVar.tmp 2)] := rfl
theorem enter44 {w : World} {R : Value → World → Prop} (x0 : Value) (h : vc Try.prog B44 (retK Try.prog #[(ResultVar.tmp 2)] R) [] (initEnv [x0] 0) w) : FnC Try.prog 44 #[x0] w R := by
  obtain ⟨c, h1, h2⟩ := code44
  exact hb44.fn (ret_of_vc mixed Try.func44 h1 (Nat.le_of_ble_eq_true rfl) B44 h2 h)
@[push_cast] theorem vr44_0 (Q : Post) (ds : List Deferred) (σ : Env) (w : World) : vc Try.prog (.region r44_0) Q ds σ w = vcOps Try.prog [⟨some 2, (Op.assign (Operand.const (Value.slice none 0 0))), 36, none⟩] (Q .normal ds) σ w := mk_eq rfl
@[push_cast] theorem vr44_1 (Q : Post) (ds : List Deferred) (σ : Env) (w : World) : vc Try.prog (.region r44_1) Q ds σ w = vcOps Try.prog [⟨some 6, (Op.move (Operand.tmp 0)), 3, none⟩, ⟨some 7, (Op.call { callee := (Callee.value (Operand.func 69)), args := #[(Operand.tmp 6)], argTypes := #[3] }), 47, none⟩, ⟨some 3, (Op.assign (Operand.tmp 7)), 47, none⟩] (Q .normal ds) σ w := mk_eq rfl
@[push_cast] theorem vr44_2 (Q : Post) (ds : List Deferred) (σ : Env) (w : World) : vc Try.prog (.region r44_2) Q ds σ w = vcOps Try.prog [⟨some 8, (Op.move (Operand.tmp 3)), 47, none⟩, ⟨some 9, (Op.binOp BinOp.rem 47 (Operand.tmp 8) (Operand.const (Value.int IntKind.u64 128)) 47), 47, none⟩, ⟨some 10, (Op.convert 47 5 (Operand.tmp 9)), 5, none⟩, ⟨some 11, (Op.buildSlice 36 1 #[(0, (Operand.tmp 10))]), 36, none⟩, ⟨some 4, (Op.assign (Operand.tmp 11)), 36, none⟩] (Q .normal ds) σ w := mk_eq rfl
@[push_cast] theorem vr44_3 (Q : Post) (ds : List Deferred) (σ : Env) (w : World) : vc Try.prog (.region r44_3) Q ds σ w = vcOps Try.prog [⟨some 12, (Op.move (Operand.tmp 3)), 47, none⟩, ⟨some 13, (Op.binOp BinOp.geq 47 (Operand.tmp 12) (Operand.const (Value.int IntKind.u64 128)) 47), 4, none⟩] (Q .normal ds) σ w := mk_eq rfl
@[push_cast] theorem vr44_4 (Q : Post) (ds : List Deferred) (σ : Env) (w : World) : vc Try.prog (.region r44_4) Q ds σ w = vcOps Try.prog [⟨some 14, (Op.move (Operand.tmp 3)), 47, none⟩, ⟨some 15, (Op.binOp BinOp.quo 47 (Operand.tmp 14) (Operand.const (Value.int IntKind.u64 128)) 47), 47, none⟩, ⟨some 3, (Op.assign (Operand.tmp 15)), 47, none⟩] (Q .normal ds) σ w := mk_eq rfl
@[push_cast] theorem vr44_5 (Q : Post) (ds : List Deferred) (σ : Env) (w : World) : vc Try.prog (.region r44_5) Q ds σ w = vcOps Try.prog [⟨some 16, (Op.move (Operand.tmp 3)), 47, none⟩, ⟨some 17, (Op.binOp BinOp.rem 47 (Operand.tmp 16) (Operand.const (Value.int IntKind.u64 128)) 47), 47, none⟩, ⟨some 18, (Op.binOp BinOp.add 47 (Operand.const (Value.int IntKind.u64 128)) (Operand.tmp 17) 47), 47, none⟩, ⟨some 19, (Op.convert 47 5 (Operand.tmp 18)), 5, none⟩, ⟨some 20, (Op.buildSlice 36 1 #[(0, (Operand.tmp 19))]), 36, none⟩, ⟨some 5, (Op.assign (Operand.tmp 20)), 36, none⟩] (Q .normal ds) σ w := mk_eq rfl
@[push_cast] theorem vr44_6 (Q : Post) (ds : List Deferred) (σ : Env) (w : World) : vc Try.prog (.region r44_6) Q ds σ w = vcOps Try.prog [⟨some 21, (Op.move (Operand.tmp 5)), 36, none⟩, ⟨some 22, (Op.move (Operand.tmp 4)), 36, none⟩, ⟨some 23, (Op.call { callee := (Callee.builtin Builtin.append), args := #[(Operand.tmp 21), (Operand.tmp 22)], argTypes := #[36, 36] }), 36, none⟩, ⟨some 5, (Op.assign (Operand.tmp 23)), 36, none⟩] (Q .normal ds) σ w := mk_eq rfl
@[push_cast] theorem vr44_7 (Q : Post) (ds : List Deferred) (σ : Env) (w : World) : vc Try.prog (.region r44_7) Q ds σ w = vcOps Try.prog [⟨some 24, (Op.move (Operand.tmp 5)), 36, none⟩, ⟨some 4, (Op.assign (Operand.tmp 24)), 36, none⟩] (Q .normal ds) σ w := mk_eq rfl
@[push_cast] theorem vr44_8 (Q : Post) (ds : List Deferred) (σ : Env) (w : World) : vc Try.prog (.region r44_8) Q ds σ w = vcOps Try.prog [⟨some 25, (Op.move (Operand.tmp 4)), 36, none⟩, ⟨some 2, (Op.assign (Operand.tmp 25)), 36, none⟩] (Q .normal ds) σ w := mk_eq rfl
/-! 50 columbary/zig.Open (params #[36], results #[(ResultVar.tmp 2)], 7 slots) -/
def r50_0 : List VOp :=
  [⟨some 2, (Op.assign (Operand.const (Value.pointer none))), 64, none⟩]
def r50_1 : List VOp :=
  [⟨some 3, (Op.move (Operand.tmp 0)), 36, none⟩,
   ⟨some 4, (Op.call { callee := (Callee.value (Operand.func 72)), args := #[(Operand.tmp 3)], argTypes := #[36] }), 36, none⟩,
   ⟨some 5, (Op.build 83 #[(0, (Operand.tmp 4))]), 83, none⟩,
   ⟨some 6, (Op.box 83 (Operand.tmp 5)), 64, none⟩,
   ⟨some 2, (Op.assign (Operand.tmp 6)), 64, none⟩]
def B50 : VC :=
  (.seq (.region r50_0) (.seq (.region r50_1) .ret))
theorem code50 : ∃ c, Try.f50.body = some c ∧ abs Try.f50.ntmps c = B50 := ⟨_, rfl, by kernel_rfl⟩
theorem hb50 : HasBody Try.prog 50 := hasBody_of Try.func50 (by kernel_rfl)
theorem res50 : Try.f50.results = #[(ResultVar.tmp 2)] := rfl
theorem enter50 {w : World} {R : Value → World → Prop} (x0 : Value) (h : vc Try.prog B50 (retK Try.prog #[(ResultVar.tmp 2)] R) [] (initEnv [x0] 0) w) : FnC Try.prog 50 #[x0] w R := by
  obtain ⟨c, h1, h2⟩ := code50
  exact hb50.fn (ret_of_vc mixed Try.func50 h1 (Nat.le_of_ble_eq_true rfl) B50 h2 h)
@[push_cast] theorem vr50_0 (Q : Post) (ds : List Deferred) (σ : Env) (w : World) : vc Try.prog (.region r50_0) Q ds σ w = vcOps Try.prog [⟨some 2, (Op.assign (Operand.const (Value.pointer none))), 64, none⟩] (Q .normal ds) σ w := mk_eq rfl
@[push_cast] theorem vr50_1 (Q : Post) (ds : List Deferred) (σ : Env) (w : World) : vc Try.prog (.region r50_1) Q ds σ w = vcOps Try.prog [⟨some 3, (Op.move (Operand.tmp 0)), 36, none⟩, ⟨some 4, (Op.call { callee := (Callee.value (Operand.func 72)), args := #[(Operand.tmp 3)], argTypes := #[36] }), 36, none⟩, ⟨some 5, (Op.build 83 #[(0, (Operand.tmp 4))]), 83, none⟩, ⟨some 6, (Op.box 83 (Operand.tmp 5)), 64, none⟩, ⟨some 2, (Op.assign (Operand.tmp 6)), 64, none⟩] (Q .normal ds) σ w := mk_eq rfl
/-! 51 (*columbary/zig.Reader).Int (params #[64, 3, 3], results #[(ResultVar.tmp 6), (ResultVar.tmp 7)], 42 slots) -/
def r51_0 : List VOp :=
  [⟨some 6, (Op.assign (Operand.const (Value.int IntKind.i64 0))), 3, none⟩,
   ⟨some 7, (Op.assign (Operand.const (Value.int IntKind.i64 0))), 23, none⟩]
def r51_1 : List VOp :=
  [⟨some 10, (Op.move (Operand.tmp 0)), 64, none⟩,
   ⟨some 11, (Op.binOp BinOp.eql 64 (Operand.tmp 10) (Operand.const (Value.pointer none)) 64), 4, none⟩]
def r51_2 : List VOp :=
  [⟨some 6, (Op.assign (Operand.const (Value.int IntKind.i64 0))), 3, none⟩,
   ⟨some 7, (Op.assign (Operand.const (Value.int IntKind.i64 1))), 23, none⟩]
def r51_3 : List VOp :=
  [⟨some 13, (Op.move (Operand.tmp 0)), 64, none⟩,
   ⟨some 14, (Op.nilCheck (Operand.tmp 13)), 0, none⟩,
   ⟨some 15, (Op.fieldAddr 83 (Operand.tmp 14) 0), 0, none⟩,
   ⟨some 16, (Op.load 36 (Operand.tmp 15)), 36, none⟩,
   ⟨some 17, (Op.call { callee := (Callee.value (Operand.func 73)), args := #[(Operand.tmp 16)], argTypes := #[36] }), 84, none⟩,
   ⟨some 12, (Op.move (Operand.tmp 17)), 84, none⟩,
   ⟨some 18, (Op.extract (Operand.tmp 12) 0), 3, none⟩,
   ⟨some 19, (Op.extract (Operand.tmp 12) 1), 3, none⟩,
   ⟨some 8, (Op.assign (Operand.tmp 18)), 3, none⟩,
   ⟨some 9, (Op.assign (Operand.tmp 19)), 3, none⟩]
def r51_4 : List VOp :=
  [⟨some 20, (Op.move (Operand.tmp 9)), 3, none⟩,
   ⟨some 21, (Op.binOp BinOp.eql 3 (Operand.tmp 20) (Operand.const (Value.int IntKind.i64 0)) 3), 4, none⟩,
   ⟨some 22, (Op.move (Operand.tmp 21)), 4, none⟩,
   ⟨some 23, (Op.move (Operand.tmp 8)), 3, some (22, false)⟩,
   ⟨some 24, (Op.move (Operand.tmp 1)), 3, some (22, false)⟩,
   ⟨some 25, (Op.binOp BinOp.lss 3 (Operand.tmp 23) (Operand.tmp 24) 3), 4, some (22, false)⟩,
   ⟨some 26, (Op.pick (Operand.tmp 22) (Operand.const (Value.bool true)) (Operand.tmp 25)), 4, none⟩,
   ⟨some 27, (Op.move (Operand.tmp 26)), 4, none⟩,
   ⟨some 28, (Op.move (Operand.tmp 8)), 3, some (27, false)⟩,
   ⟨some 29, (Op.move (Operand.tmp 2)), 3, some (27, false)⟩,
   ⟨some 30, (Op.binOp BinOp.gtr 3 (Operand.tmp 28) (Operand.tmp 29) 3), 4, some (27, false)⟩,
   ⟨some 31, (Op.pick (Operand.tmp 27) (Operand.const (Value.bool true)) (Operand.tmp 30)), 4, none⟩]
def r51_5 : List VOp :=
  [⟨some 6, (Op.assign (Operand.const (Value.int IntKind.i64 0))), 3, none⟩,
   ⟨some 7, (Op.assign (Operand.const (Value.int IntKind.i64 11))), 23, none⟩]
def r51_6 : List VOp :=
  [⟨some 32, (Op.move (Operand.tmp 0)), 64, none⟩,
   ⟨some 33, (Op.move (Operand.tmp 0)), 64, none⟩,
   ⟨some 34, (Op.nilCheck (Operand.tmp 33)), 0, none⟩,
   ⟨some 35, (Op.fieldAddr 83 (Operand.tmp 34) 0), 0, none⟩,
   ⟨some 36, (Op.load 36 (Operand.tmp 35)), 36, none⟩,
   ⟨some 37, (Op.move (Operand.tmp 9)), 3, none⟩,
   ⟨some 38, (Op.slice 36 (Operand.tmp 36) (some (Operand.tmp 37)) none none), 36, none⟩,
   ⟨some 39, (Op.nilCheck (Operand.tmp 32)), 0, none⟩,
   ⟨some 40, (Op.fieldAddr 83 (Operand.tmp 39) 0), 0, none⟩,
   ⟨none, (Op.store 36 (Operand.tmp 40) (Operand.tmp 38)), 0, none⟩]
def r51_7 : List VOp :=
  [⟨some 41, (Op.move (Operand.tmp 8)), 3, none⟩,
   ⟨some 6, (Op.assign (Operand.tmp 41)), 3, none⟩,
   ⟨some 7, (Op.assign (Operand.const (Value.int IntKind.i64 0))), 23, none⟩]
def B51 : VC :=
  (.seq (.region r51_0) (.seq (.seq (.region r51_1) (.cond (Operand.tmp 11) (.seq (.region r51_2) .ret) .skip)) (.seq (.region r51_3) (.seq (.seq (.region r51_4) (.cond (Operand.tmp 31) (.seq (.region r51_5) .ret) .skip)) (.seq (.region r51_6) (.seq (.region r51_7) .ret))))))
theorem code51 : ∃ c, Try.f51.body = some c ∧ abs Try.f51.ntmps c = B51 := ⟨_, rfl, by kernel_rfl⟩
theorem hb51 : HasBody Try.prog 51 := hasBody_of Try.func51 (by kernel_rfl)
theorem res51 : Try.f51.results = #[(ResultVar.tmp 6), (ResultVar.tmp 7)] := rfl
theorem enter51 {w : World} {R : Value → World → Prop} (x0 x1 x2 : Value) (h : vc Try.prog B51 (retK Try.prog #[(ResultVar.tmp 6), (ResultVar.tmp 7)] R) [] (initEnv [x0, x1, x2] 0) w) : FnC Try.prog 51 #[x0, x1, x2] w R := by
  obtain ⟨c, h1, h2⟩ := code51
  exact hb51.fn (ret_of_vc mixed Try.func51 h1 (Nat.le_of_ble_eq_true rfl) B51 h2 h)
@[push_cast] theorem vr51_0 (Q : Post) (ds : List Deferred) (σ : Env) (w : World) : vc Try.prog (.region r51_0) Q ds σ w = vcOps Try.prog [⟨some 6, (Op.assign (Operand.const (Value.int IntKind.i64 0))), 3, none⟩, ⟨some 7, (Op.assign (Operand.const (Value.int IntKind.i64 0))), 23, none⟩] (Q .normal ds) σ w := mk_eq rfl
@[push_cast] theorem vr51_1 (Q : Post) (ds : List Deferred) (σ : Env) (w : World) : vc Try.prog (.region r51_1) Q ds σ w = vcOps Try.prog [⟨some 10, (Op.move (Operand.tmp 0)), 64, none⟩, ⟨some 11, (Op.binOp BinOp.eql 64 (Operand.tmp 10) (Operand.const (Value.pointer none)) 64), 4, none⟩] (Q .normal ds) σ w := mk_eq rfl
@[push_cast] theorem vr51_2 (Q : Post) (ds : List Deferred) (σ : Env) (w : World) : vc Try.prog (.region r51_2) Q ds σ w = vcOps Try.prog [⟨some 6, (Op.assign (Operand.const (Value.int IntKind.i64 0))), 3, none⟩, ⟨some 7, (Op.assign (Operand.const (Value.int IntKind.i64 1))), 23, none⟩] (Q .normal ds) σ w := mk_eq rfl
@[push_cast] theorem vr51_3 (Q : Post) (ds : List Deferred) (σ : Env) (w : World) : vc Try.prog (.region r51_3) Q ds σ w = vcOps Try.prog [⟨some 13, (Op.move (Operand.tmp 0)), 64, none⟩, ⟨some 14, (Op.nilCheck (Operand.tmp 13)), 0, none⟩, ⟨some 15, (Op.fieldAddr 83 (Operand.tmp 14) 0), 0, none⟩, ⟨some 16, (Op.load 36 (Operand.tmp 15)), 36, none⟩, ⟨some 17, (Op.call { callee := (Callee.value (Operand.func 73)), args := #[(Operand.tmp 16)], argTypes := #[36] }), 84, none⟩, ⟨some 12, (Op.move (Operand.tmp 17)), 84, none⟩, ⟨some 18, (Op.extract (Operand.tmp 12) 0), 3, none⟩, ⟨some 19, (Op.extract (Operand.tmp 12) 1), 3, none⟩, ⟨some 8, (Op.assign (Operand.tmp 18)), 3, none⟩, ⟨some 9, (Op.assign (Operand.tmp 19)), 3, none⟩] (Q .normal ds) σ w := mk_eq rfl
@[push_cast] theorem vr51_4 (Q : Post) (ds : List Deferred) (σ : Env) (w : World) : vc Try.prog (.region r51_4) Q ds σ w = vcOps Try.prog [⟨some 20, (Op.move (Operand.tmp 9)), 3, none⟩, ⟨some 21, (Op.binOp BinOp.eql 3 (Operand.tmp 20) (Operand.const (Value.int IntKind.i64 0)) 3), 4, none⟩, ⟨some 22, (Op.move (Operand.tmp 21)), 4, none⟩, ⟨some 23, (Op.move (Operand.tmp 8)), 3, some (22, false)⟩, ⟨some 24, (Op.move (Operand.tmp 1)), 3, some (22, false)⟩, ⟨some 25, (Op.binOp BinOp.lss 3 (Operand.tmp 23) (Operand.tmp 24) 3), 4, some (22, false)⟩, ⟨some 26, (Op.pick (Operand.tmp 22) (Operand.const (Value.bool true)) (Operand.tmp 25)), 4, none⟩, ⟨some 27, (Op.move (Operand.tmp 26)), 4, none⟩, ⟨some 28, (Op.move (Operand.tmp 8)), 3, some (27, false)⟩, ⟨some 29, (Op.move (Operand.tmp 2)), 3, some (27, false)⟩, ⟨some 30, (Op.binOp BinOp.gtr 3 (Operand.tmp 28) (Operand.tmp 29) 3), 4, some (27, false)⟩, ⟨some 31, (Op.pick (Operand.tmp 27) (Operand.const (Value.bool true)) (Operand.tmp 30)), 4, none⟩] (Q .normal ds) σ w := mk_eq rfl
@[push_cast] theorem vr51_5 (Q : Post) (ds : List Deferred) (σ : Env) (w : World) : vc Try.prog (.region r51_5) Q ds σ w = vcOps Try.prog [⟨some 6, (Op.assign (Operand.const (Value.int IntKind.i64 0))), 3, none⟩, ⟨some 7, (Op.assign (Operand.const (Value.int IntKind.i64 11))), 23, none⟩] (Q .normal ds) σ w := mk_eq rfl
@[push_cast] theorem vr51_6 (Q : Post) (ds : List Deferred) (σ : Env) (w : World) : vc Try.prog (.region r51_6) Q ds σ w = vcOps Try.prog [⟨some 32, (Op.move (Operand.tmp 0)), 64, none⟩, ⟨some 33, (Op.move (Operand.tmp 0)), 64, none⟩, ⟨some 34, (Op.nilCheck (Operand.tmp 33)), 0, none⟩, ⟨some 35, (Op.fieldAddr 83 (Operand.tmp 34) 0), 0, none⟩, ⟨some 36, (Op.load 36 (Operand.tmp 35)), 36, none⟩, ⟨some 37, (Op.move (Operand.tmp 9)), 3, none⟩, ⟨some 38, (Op.slice 36 (Operand.tmp 36) (some (Operand.tmp 37)) none none), 36, none⟩, ⟨some 39, (Op.nilCheck (Operand.tmp 32)), 0, none⟩, ⟨some 40, (Op.fieldAddr 83 (Operand.tmp 39) 0), 0, none⟩, ⟨none, (Op.store 36 (Operand.tmp 40) (Operand.tmp 38)), 0, none⟩] (Q .normal ds) σ w := mk_eq rfl
@[push_cast] theorem vr51_7 (Q : Post) (ds : List Deferred) (σ : Env) (w : World) : vc Try.prog (.region r51_7) Q ds σ w = vcOps Try.prog [⟨some 41, (Op.move (Operand.tmp 8)), 3, none⟩, ⟨some 6, (Op.assign (Operand.tmp 41)), 3, none⟩, ⟨some 7, (Op.assign (Operand.const (Value.int IntKind.i64 0))), 23, none⟩] (Q .normal ds) σ w := mk_eq rfl
/-! 53 (*columbary/zig.Reader).Bytes (params #[64, 3], results #[(ResultVar.tmp 4), (ResultVar.tmp 5)], 39 slots) -/
def r53_0 : List VOp :=
  [⟨some 4, (Op.assign (Operand.const (Value.slice none 0 0))), 36, none⟩,
   ⟨some 5, (Op.assign (Operand.const (Value.int IntKind.i64 0))), 23, none⟩]
def r53_1 : List VOp :=
  [⟨some 8, (Op.move (Operand.tmp 0)), 64, none⟩,
   ⟨some 9, (Op.binOp BinOp.eql 64 (Operand.tmp 8) (Operand.const (Value.pointer none)) 64), 4, none⟩,
   ⟨some 7, (Op.assign (Operand.tmp 9)), 4, none⟩]
def r53_2 : List VOp :=
  [⟨some 4, (Op.assign (Operand.const (Value.slice none 0 0))), 36, none⟩,
   ⟨some 5, (Op.assign (Operand.const (Value.int IntKind.i64 1))), 23, none⟩]
def r53_3 : List VOp :=
  [⟨some 11, (Op.move (Operand.tmp 1)), 3, none⟩,
   ⟨some 12, (Op.binOp BinOp.lss 3 (Operand.tmp 11) (Operand.const (Value.int IntKind.i64 0)) 3), 4, none⟩,
   ⟨some 13, (Op.move (Operand.tmp 12)), 4, none⟩,
   ⟨some 14, (Op.move (Operand.tmp 1)), 3, some (13, false)⟩,
   ⟨some 15, (Op.move (Operand.tmp 0)), 64, some (13, false)⟩,
   ⟨some 16, (Op.nilCheck (Operand.tmp 15)), 0, some (13, false)⟩,
   ⟨some 17, (Op.fieldAddr 83 (Operand.tmp 16) 0), 0, some (13, false)⟩,
   ⟨some 18, (Op.load 36 (Operand.tmp 17)), 36, some (13, false)⟩,
   ⟨some 19, (Op.call { callee := (Callee.builtin Builtin.len), args := #[(Operand.tmp 18)], argTypes := #[36] }), 3, some (13, false)⟩,
   ⟨some 20, (Op.binOp BinOp.gtr 3 (Operand.tmp 14) (Operand.tmp 19) 3), 4, some (13, false)⟩,
   ⟨some 21, (Op.pick (Operand.tmp 13) (Operand.const (Value.bool true)) (Operand.tmp 20)), 4, none⟩,
   ⟨some 10, (Op.assign (Operand.tmp 21)), 4, none⟩]
def r53_4 : List VOp :=
  [⟨some 4, (Op.assign (Operand.const (Value.slice none 0 0))), 36, none⟩,
   ⟨some 5, (Op.assign (Operand.const (Value.int IntKind.i64 11))), 23, none⟩]
def r53_5 : List VOp :=
  [⟨some 22, (Op.move (Operand.tmp 0)), 64, none⟩,
   ⟨some 23, (Op.nilCheck (Operand.tmp 22)), 0, none⟩,
   ⟨some 24, (Op.fieldAddr 83 (Operand.tmp 23) 0), 0, none⟩,
   ⟨some 25, (Op.load 36 (Operand.tmp 24)), 36, none⟩,
   ⟨some 26, (Op.move (Operand.tmp 1)), 3, none⟩,
   ⟨some 27, (Op.slice 36 (Operand.tmp 25) none (some (Operand.tmp 26)) none), 36, none⟩,
   ⟨some 28, (Op.call { callee := (Callee.value (Operand.func 72)), args := #[(Operand.tmp 27)], argTypes := #[36] }), 36, none⟩,
   ⟨some 6, (Op.assign (Operand.tmp 28)), 36, none⟩]
def r53_6 : List VOp :=
  [⟨some 29, (Op.move (Operand.tmp 0)), 64, none⟩,
   ⟨some 30, (Op.move (Operand.tmp 0)), 64, none⟩,
   ⟨some 31, (Op.nilCheck (Operand.tmp 30)), 0, none⟩,
   ⟨some 32, (Op.fieldAddr 83 (Operand.tmp 31) 0), 0, none⟩,
   ⟨some 33, (Op.load 36 (Operand.tmp 32)), 36, none⟩,
   ⟨some 34, (Op.move (Operand.tmp 1)), 3, none⟩,
   ⟨some 35, (Op.slice 36 (Operand.tmp 33) (some (Operand.tmp 34)) none none), 36, none⟩,
   ⟨some 36, (Op.nilCheck (Operand.tmp 29)), 0, none⟩,
   ⟨some 37, (Op.fieldAddr 83 (Operand.tmp 36) 0), 0, none⟩,
   ⟨none, (Op.store 36 (Operand.tmp 37) (Operand.tmp 35)), 0, none⟩]
def r53_7 : List VOp :=
  [⟨some 38, (Op.move (Operand.tmp 6)), 36, none⟩,
   ⟨some 4, (Op.assign (Operand.tmp 38)), 36, none⟩,
   ⟨some 5, (Op.assign (Operand.const (Value.int IntKind.i64 0))), 23, none⟩]
def B53 : VC :=
  (.seq (.region r53_0) (.seq (.block 0 (.seq (.region r53_1) (.cond (Operand.tmp 7) (.seq (.region r53_2) .ret) (.seq (.region r53_3) (.cond (Operand.tmp 10) (.seq (.region r53_4) .ret) .skip))))) (.seq (.region r53_5) (.seq (.region r53_6) (.seq (.region r53_7) .ret)))))
theorem code53 : ∃ c, Try.f53.body = some c ∧ abs Try.f53.ntmps c = B53 := ⟨_, rfl, by kernel_rfl⟩
theorem hb53 : HasBody Try.prog 53 := hasBody_of Try.func53 (by kernel_rfl)
theorem res53 : Try.f53.results = #[(ResultVar.tmp 4), (ResultVar.tmp 5)] := rfl
theorem enter53 {w : World} {R : Value → World → Prop} (x0 x1 : Value) (h : vc Try.prog B53 (retK Try.prog #[(ResultVar.tmp 4), (ResultVar.tmp 5)] R) [] (initEnv [x0, x1] 0) w) : FnC Try.prog 53 #[x0, x1] w R := by
  obtain ⟨c, h1, h2⟩ := code53
  exact hb53.fn (ret_of_vc mixed Try.func53 h1 (Nat.le_of_ble_eq_true rfl) B53 h2 h)
@[push_cast] theorem vr53_0 (Q : Post) (ds : List Deferred) (σ : Env) (w : World) : vc Try.prog (.region r53_0) Q ds σ w = vcOps Try.prog [⟨some 4, (Op.assign (Operand.const (Value.slice none 0 0))), 36, none⟩, ⟨some 5, (Op.assign (Operand.const (Value.int IntKind.i64 0))), 23, none⟩] (Q .normal ds) σ w := mk_eq rfl
@[push_cast] theorem vr53_1 (Q : Post) (ds : List Deferred) (σ : Env) (w : World) : vc Try.prog (.region r53_1) Q ds σ w = vcOps Try.prog [⟨some 8, (Op.move (Operand.tmp 0)), 64, none⟩, ⟨some 9, (Op.binOp BinOp.eql 64 (Operand.tmp 8) (Operand.const (Value.pointer none)) 64), 4, none⟩, ⟨some 7, (Op.assign (Operand.tmp 9)), 4, none⟩] (Q .normal ds) σ w := mk_eq rfl
@[push_cast] theorem vr53_2 (Q : Post) (ds : List Deferred) (σ : Env) (w : World) : vc Try.prog (.region r53_2) Q ds σ w = vcOps Try.prog [⟨some 4, (Op.assign (Operand.const (Value.slice none 0 0))), 36, none⟩, ⟨some 5, (Op.assign (Operand.const (Value.int IntKind.i64 1))), 23, none⟩] (Q .normal ds) σ w := mk_eq rfl
@[push_cast] theorem vr53_3 (Q : Post) (ds : List Deferred) (σ : Env) (w : World) : vc Try.prog (.region r53_3) Q ds σ w = vcOps Try.prog [⟨some 11, (Op.move (Operand.tmp 1)), 3, none⟩, ⟨some 12, (Op.binOp BinOp.lss 3 (Operand.tmp 11) (Operand.const (Value.int IntKind.i64 0)) 3), 4, none⟩, ⟨some 13, (Op.move (Operand.tmp 12)), 4, none⟩, ⟨some 14, (Op.move (Operand.tmp 1)), 3, some (13, false)⟩, ⟨some 15, (Op.move (Operand.tmp 0)), 64, some (13, false)⟩, ⟨some 16, (Op.nilCheck (Operand.tmp 15)), 0, some (13, false)⟩, ⟨some 17, (Op.fieldAddr 83 (Operand.tmp 16) 0), 0, some (13, false)⟩, ⟨some 18, (Op.load 36 (Operand.tmp 17)), 36, some (13, false)⟩, ⟨some 19, (Op.call { callee := (Callee.builtin Builtin.len), args := #[(Operand.tmp 18)], argTypes := #[36] }), 3, some (13, false)⟩, ⟨some 20, (Op.binOp BinOp.gtr 3 (Operand.tmp 14) (Operand.tmp 19) 3), 4, some (13, false)⟩, ⟨some 21, (Op.pick (Operand.tmp 13) (Operand.const (Value.bool true)) (Operand.tmp 20)), 4, none⟩, ⟨some 10, (Op.assign (Operand.tmp 21)), 4, none⟩] (Q .normal ds) σ w := mk_eq rfl
@[push_cast] theorem vr53_4 (Q : Post) (ds : List Deferred) (σ : Env) (w : World) : vc Try.prog (.region r53_4) Q ds σ w = vcOps Try.prog [⟨some 4, (Op.assign (Operand.const (Value.slice none 0 0))), 36, none⟩, ⟨some 5, (Op.assign (Operand.const (Value.int IntKind.i64 11))), 23, none⟩] (Q .normal ds) σ w := mk_eq rfl
@[push_cast] theorem vr53_5 (Q : Post) (ds : List Deferred) (σ : Env) (w : World) : vc Try.prog (.region r53_5) Q ds σ w = vcOps Try.prog [⟨some 22, (Op.move (Operand.tmp 0)), 64, none⟩, ⟨some 23, (Op.nilCheck (Operand.tmp 22)), 0, none⟩, ⟨some 24, (Op.fieldAddr 83 (Operand.tmp 23) 0), 0, none⟩, ⟨some 25, (Op.load 36 (Operand.tmp 24)), 36, none⟩, ⟨some 26, (Op.move (Operand.tmp 1)), 3, none⟩, ⟨some 27, (Op.slice 36 (Operand.tmp 25) none (some (Operand.tmp 26)) none), 36, none⟩, ⟨some 28, (Op.call { callee := (Callee.value (Operand.func 72)), args := #[(Operand.tmp 27)], argTypes := #[36] }), 36, none⟩, ⟨some 6, (Op.assign (Operand.tmp 28)), 36, none⟩] (Q .normal ds) σ w := mk_eq rfl
@[push_cast] theorem vr53_6 (Q : Post) (ds : List Deferred) (σ : Env) (w : World) : vc Try.prog (.region r53_6) Q ds σ w = vcOps Try.prog [⟨some 29, (Op.move (Operand.tmp 0)), 64, none⟩, ⟨some 30, (Op.move (Operand.tmp 0)), 64, none⟩, ⟨some 31, (Op.nilCheck (Operand.tmp 30)), 0, none⟩, ⟨some 32, (Op.fieldAddr 83 (Operand.tmp 31) 0), 0, none⟩, ⟨some 33, (Op.load 36 (Operand.tmp 32)), 36, none⟩, ⟨some 34, (Op.move (Operand.tmp 1)), 3, none⟩, ⟨some 35, (Op.slice 36 (Operand.tmp 33) (some (Operand.tmp 34)) none none), 36, none⟩, ⟨some 36, (Op.nilCheck (Operand.tmp 29)), 0, none⟩, ⟨some 37, (Op.fieldAddr 83 (Operand.tmp 36) 0), 0, none⟩, ⟨none, (Op.store 36 (Operand.tmp 37) (Operand.tmp 35)), 0, none⟩] (Q .normal ds) σ w := mk_eq rfl
@[push_cast] theorem vr53_7 (Q : Post) (ds : List Deferred) (σ : Env) (w : World) : vc Try.prog (.region r53_7) Q ds σ w = vcOps Try.prog [⟨some 38, (Op.move (Operand.tmp 6)), 36, none⟩, ⟨some 4, (Op.assign (Operand.tmp 38)), 36, none⟩, ⟨some 5, (Op.assign (Operand.const (Value.int IntKind.i64 0))), 23, none⟩] (Q .normal ds) σ w := mk_eq rfl
/-! 54 (*columbary/zig.Reader).Left (params #[64], results #[(ResultVar.tmp 2)], 10 slots) -/
def r54_0 : List VOp :=
  [⟨some 2, (Op.assign (Operand.const (Value.int IntKind.i64 0))), 3, none⟩]
def r54_1 : List VOp :=
  [⟨some 3, (Op.move (Operand.tmp 0)), 64, none⟩,
   ⟨some 4, (Op.binOp BinOp.eql 64 (Operand.tmp 3) (Operand.const (Value.pointer none)) 64), 4, none⟩]
def r54_2 : List VOp :=
  [⟨some 2, (Op.assign (Operand.const (Value.int IntKind.i64 0))), 3, none⟩]
def r54_3 : List VOp :=
  [⟨some 5, (Op.move (Operand.tmp 0)), 64, none⟩,
   ⟨some 6, (Op.nilCheck (Operand.tmp 5)), 0, none⟩,
   ⟨some 7, (Op.fieldAddr 83 (Operand.tmp 6) 0), 0, none⟩,
   ⟨some 8, (Op.load 36 (Operand.tmp 7)), 36, none⟩,
   ⟨some 9, (Op.call { callee := (Callee.builtin Builtin.len), args := #[(Operand.tmp 8)], argTypes := #[36] }), 3, none⟩,
   ⟨some 2, (Op.assign (Operand.tmp 9)), 3, none⟩]
def B54 : VC :=
  (.seq (.region r54_0) (.seq (.seq (.region r54_1) (.cond (Operand.tmp 4) (.seq (.region r54_2) .ret) .skip)) (.seq (.region r54_3) .ret)))
theorem code54 : ∃ c, Try.f54.body = some c ∧ abs Try.f54.ntmps c = B54 := ⟨_, rfl, by kernel_rfl⟩
theorem hb54 : HasBody Try.prog 54 := hasBody_of Try.func54 (by kernel_rfl)
theorem res54 : Try.f54.results = #[(ResultVar.tmp 2)] := rfl
theorem enter54 {w : World} {R : Value → World → Prop} (x0 : Value) (h : vc Try.prog B54 (retK Try.prog #[(ResultVar.tmp 2)] R) [] (initEnv [x0] 0) w) : FnC Try.prog 54 #[x0] w R := by
  obtain ⟨c, h1, h2⟩ := code54
  exact hb54.fn (ret_of_vc mixed Try.func54 h1 (Nat.le_of_ble_eq_true rfl) B54 h2 h)
@[push_cast] theorem vr54_0 (Q : Post) (ds : List Deferred) (σ : Env) (w : World) : vc Try.prog (.region r54_0) Q ds σ w = vcOps Try.prog [⟨some 2, (Op.assign (Operand.const (Value.int IntKind.i64 0))), 3, none⟩] (Q .normal ds) σ w := mk_eq rfl
@[push_cast] theorem vr54_1 (Q : Post) (ds : List Deferred) (σ : Env) (w : World) : vc Try.prog (.region r54_1) Q ds σ w = vcOps Try.prog [⟨some 3, (Op.move (Operand.tmp 0)), 64, none⟩, ⟨some 4, (Op.binOp BinOp.eql 64 (Operand.tmp 3) (Operand.const (Value.pointer none)) 64), 4, none⟩] (Q .normal ds) σ w := mk_eq rfl
@[push_cast] theorem vr54_2 (Q : Post) (ds : List Deferred) (σ : Env) (w : World) : vc Try.prog (.region r54_2) Q ds σ w = vcOps Try.prog [⟨some 2, (Op.assign (Operand.const (Value.int IntKind.i64 0))), 3, none⟩] (Q .normal ds) σ w := mk_eq rfl
@[push_cast] theorem vr54_3 (Q : Post) (ds : List Deferred) (σ : Env) (w : World) : vc Try.prog (.region r54_3) Q ds σ w = vcOps Try.prog [⟨some 5, (Op.move (Operand.tmp 0)), 64, none⟩, ⟨some 6, (Op.nilCheck (Operand.tmp 5)), 0, none⟩, ⟨some 7, (Op.fieldAddr 83 (Operand.tmp 6) 0), 0, none⟩, ⟨some 8, (Op.load 36 (Operand.tmp 7)), 36, none⟩, ⟨some 9, (Op.call { callee := (Callee.builtin Builtin.len), args := #[(Operand.tmp 8)], argTypes := #[36] }), 3, none⟩, ⟨some 2, (Op.assign (Operand.tmp 9)), 3, none⟩] (Q .normal ds) σ w := mk_eq rfl
/-! 57 (*columbary/columbaryref01.Reader).N (params #[72, 3, 3], results #[(ResultVar.tmp 6)], 17 slots) -/
def r57_0 : List VOp :=
  [⟨some 6, (Op.assign (Operand.const (Value.int IntKind.i64 0))), 3, none⟩]
def r57_1 : List VOp :=
  [⟨some 10, (Op.move (Operand.tmp 0)), 72, none⟩,
   ⟨some 11, (Op.move (Operand.tmp 1)), 3, none⟩,
   ⟨some 12, (Op.move (Operand.tmp 2)), 3, none⟩,
   ⟨some 13, (Op.call { callee := (Callee.value (Operand.func 75)), args := #[(Operand.tmp 10), (Operand.tmp 11), (Operand.tmp 12)], argTypes := #[72, 3, 3] }), 30, none⟩,
   ⟨some 9, (Op.move (Operand.tmp 13)), 30, none⟩,
   ⟨some 14, (Op.extract (Operand.tmp 9) 0), 3, none⟩,
   ⟨some 15, (Op.extract (Operand.tmp 9) 1), 23, none⟩,
   ⟨some 7, (Op.assign (Operand.tmp 14)), 3, none⟩,
   ⟨some 8, (Op.assign (Operand.tmp 15)), 23, none⟩]
def r57_2 : List VOp :=
  [⟨some 16, (Op.move (Operand.tmp 7)), 3, none⟩,
   ⟨some 6, (Op.assign (Operand.tmp 16)), 3, none⟩]
def B57 : VC :=
  (.seq (.region r57_0) (.seq (.region r57_1) (.seq (.region r57_2) .ret)))
theorem code57 : ∃ c, Try.f57.body = some c ∧ abs Try.f57.ntmps c = B57 := ⟨_, rfl, by kernel_rfl⟩
theorem hb57 : HasBody Try.prog 57 := hasBody_of Try.func57 (by kernel_rfl)
theorem res57 : Try.f57.results = #[(ResultVar.tmp 6)] := rfl
theorem enter57 {w : World} {R : Value → World → Prop} (x0 x1 x2 : Value) (h : vc Try.prog B57 (retK Try.prog #[(ResultVar.tmp 6)] R) [] (initEnv [x0, x1, x2] 0) w) : FnC Try.prog 57 #[x0, x1, x2] w R := by
  obtain ⟨c, h1, h2⟩ := code57
  exact hb57.fn (ret_of_vc mixed Try.func57 h1 (Nat.le_of_ble_eq_true rfl) B57 h2 h)
@[push_cast] theorem vr57_0 (Q : Post) (ds : List Deferred) (σ : Env) (w : World) : vc Try.prog (.region r57_0) Q ds σ w = vcOps Try.prog [⟨some 6, (Op.assign (Operand.const (Value.int IntKind.i64 0))), 3, none⟩] (Q .normal ds) σ w := mk_eq rfl
@[push_cast] theorem vr57_1 (Q : Post) (ds : List Deferred) (σ : Env) (w : World) : vc Try.prog (.region r57_1) Q ds σ w = vcOps Try.prog [⟨some 10, (Op.move (Operand.tmp 0)), 72, none⟩, ⟨some 11, (Op.move (Operand.tmp 1)), 3, none⟩, ⟨some 12, (Op.move (Operand.tmp 2)), 3, none⟩, ⟨some 13, (Op.call { callee := (Callee.value (Operand.func 75)), args := #[(Operand.tmp 10), (Operand.tmp 11), (Operand.tmp 12)], argTypes := #[72, 3, 3] }), 30, none⟩, ⟨some 9, (Op.move (Operand.tmp 13)), 30, none⟩, ⟨some 14, (Op.extract (Operand.tmp 9) 0), 3, none⟩, ⟨some 15, (Op.extract (Operand.tmp 9) 1), 23, none⟩, ⟨some 7, (Op.assign (Operand.tmp 14)), 3, none⟩, ⟨some 8, (Op.assign (Operand.tmp 15)), 23, none⟩] (Q .normal ds) σ w := mk_eq rfl
@[push_cast] theorem vr57_2 (Q : Post) (ds : List Deferred) (σ : Env) (w : World) : vc Try.prog (.region r57_2) Q ds σ w = vcOps Try.prog [⟨some 16, (Op.move (Operand.tmp 7)), 3, none⟩, ⟨some 6, (Op.assign (Operand.tmp 16)), 3, none⟩] (Q .normal ds) σ w := mk_eq rfl
/-! 59 (*columbary/columbaryref01.Reader).Bytes (params #[72, 3], results #[(ResultVar.tmp 4), (ResultVar.tmp 5)], 49 slots) -/
def r59_0 : List VOp :=
  [⟨some 4, (Op.assign (Operand.const (Value.slice none 0 0))), 36, none⟩,
   ⟨some 5, (Op.assign (Operand.const (Value.int IntKind.i64 0))), 23, none⟩]
def r59_1 : List VOp :=
  [⟨some 6, (Op.move (Operand.tmp 1)), 3, none⟩,
   ⟨some 7, (Op.binOp BinOp.lss 3 (Operand.tmp 6) (Operand.const (Value.int IntKind.i64 0)) 3), 4, none⟩,
   ⟨some 8, (Op.move (Operand.tmp 7)), 4, none⟩,
   ⟨some 9, (Op.move (Operand.tmp 1)), 3, some (8, false)⟩,
   ⟨some 10, (Op.move (Operand.tmp 0)), 72, some (8, false)⟩,
   ⟨some 11, (Op.nilCheck (Operand.tmp 10)), 0, some (8, false)⟩,
   ⟨some 12, (Op.fieldAddr 74 (Operand.tmp 11) 0), 0, some (8, false)⟩,
   ⟨some 13, (Op.load 36 (Operand.tmp 12)), 36, some (8, false)⟩,
   ⟨some 14, (Op.call { callee := (Callee.builtin Builtin.len), args := #[(Operand.tmp 13)], argTypes := #[36] }), 3, some (8, false)⟩,
   ⟨some 15, (Op.move (Operand.tmp 0)), 72, some (8, false)⟩,
   ⟨some 16, (Op.nilCheck (Operand.tmp 15)), 0, some (8, false)⟩,
   ⟨some 17, (Op.fieldAddr 74 (Operand.tmp 16) 1), 0, some (8, false)⟩,
   ⟨some 18, (Op.load 3 (Operand.tmp 17)), 3, some (8, false)⟩,
   ⟨some 19, (Op.binOp BinOp.sub 3 (Operand.tmp 14) (Operand.tmp 18) 3), 3, some (8, false)⟩,
   ⟨some 20, (Op.binOp BinOp.gtr 3 (Operand.tmp 9) (Operand.tmp 19) 3), 4, some (8, false)⟩,
   ⟨some 21, (Op.pick (Operand.tmp 8) (Operand.const (Value.bool true)) (Operand.tmp 20)), 4, none⟩]
def r59_2 : List VOp :=
  [⟨some 22, (Op.move (Operand.tmp 0)), 72, none⟩,
   ⟨some 23, (Op.nilCheck (Operand.tmp 22)), 0, none⟩,
   ⟨some 24, (Op.fieldAddr 74 (Operand.tmp 23) 2), 0, none⟩,
   ⟨none, (Op.store 4 (Operand.tmp 24) (Operand.const (Value.bool true))), 0, none⟩]
def r59_3 : List VOp :=
  [⟨some 4, (Op.assign (Operand.const (Value.slice none 0 0))), 36, none⟩,
   ⟨some 5, (Op.assign (Operand.const (Value.int IntKind.i64 11))), 23, none⟩]
def r59_4 : List VOp :=
  [⟨some 25, (Op.move (Operand.tmp 0)), 72, none⟩,
   ⟨some 26, (Op.move (Operand.tmp 0)), 72, none⟩,
   ⟨some 27, (Op.nilCheck (Operand.tmp 26)), 0, none⟩,
   ⟨some 28, (Op.fieldAddr 74 (Operand.tmp 27) 1), 0, none⟩,
   ⟨some 29, (Op.load 3 (Operand.tmp 28)), 3, none⟩,
   ⟨some 30, (Op.move (Operand.tmp 1)), 3, none⟩,
   ⟨some 31, (Op.binOp BinOp.add 3 (Operand.tmp 29) (Operand.tmp 30) 3), 3, none⟩,
   ⟨some 32, (Op.nilCheck (Operand.tmp 25)), 0, none⟩,
   ⟨some 33, (Op.fieldAddr 74 (Operand.tmp 32) 1), 0, none⟩,
   ⟨none, (Op.store 3 (Operand.tmp 33) (Operand.tmp 31)), 0, none⟩]
def r59_5 : List VOp :=
  [⟨some 34, (Op.move (Operand.tmp 0)), 72, none⟩,
   ⟨some 35, (Op.nilCheck (Operand.tmp 34)), 0, none⟩,
   ⟨some 36, (Op.fieldAddr 74 (Operand.tmp 35) 0), 0, none⟩,
   ⟨some 37, (Op.load 36 (Operand.tmp 36)), 36, none⟩,
   ⟨some 38, (Op.move (Operand.tmp 0)), 72, none⟩,
   ⟨some 39, (Op.nilCheck (Operand.tmp 38)), 0, none⟩,
   ⟨some 40, (Op.fieldAddr 74 (Operand.tmp 39) 1), 0, none⟩,
   ⟨some 41, (Op.load 3 (Operand.tmp 40)), 3, none⟩,
   ⟨some 42, (Op.move (Operand.tmp 1)), 3, none⟩,
   ⟨some 43, (Op.binOp BinOp.sub 3 (Operand.tmp 41) (Operand.tmp 42) 3), 3, none⟩,
   ⟨some 44, (Op.move (Operand.tmp 0)), 72, none⟩,
   ⟨some 45, (Op.nilCheck (Operand.tmp 44)), 0, none⟩,
   ⟨some 46, (Op.fieldAddr 74 (Operand.tmp 45) 1), 0, none⟩,
   ⟨some 47, (Op.load 3 (Operand.tmp 46)), 3, none⟩,
   ⟨some 48, (Op.slice 36 (Operand.tmp 37) (some (Operand.tmp 43)) (some (Operand.tmp 47)) none), 36, none⟩,
   ⟨some 4, (Op.assign (Operand.tmp 48)), 36, none⟩,
   ⟨some 5, (Op.assign (Operand.const (Value.int IntKind.i64 0))), 23, none⟩]
def B59 : VC :=
  (.seq (.region r59_0) (.seq (.seq (.draw r59_1 3) (.cond (Operand.tmp 21) (.seq (.region r59_2) (.seq (.region r59_3) .ret)) .skip)) (.seq (.region r59_4) (.seq (.draw r59_5 4) .ret))))
theorem code59 : ∃ c, Try.f59.body = some c ∧ abs Try.f59.ntmps c = B59 := ⟨_, rfl, by kernel_rfl⟩
theorem hb59 : HasBody Try.prog 59 := hasBody_of Try.func59 (by kernel_rfl)
theorem res59 : Try.f59.results = #[(ResultVar.tmp 4), (ResultVar.tmp 5)] := rfl
theorem enter59 {w : World} {R : Value → World → Prop} (x0 x1 : Value) (h : vc Try.prog B59 (retK Try.prog #[(ResultVar.tmp 4), (ResultVar.tmp 5)] R) [] (initEnv [x0, x1] 0) w) : FnC Try.prog 59 #[x0, x1] w R := by
  obtain ⟨c, h1, h2⟩ := code59
  exact hb59.fn (ret_of_vc mixed Try.func59 h1 (Nat.le_of_ble_eq_true rfl) B59 h2 h)
@[push_cast] theorem vr59_0 (Q : Post) (ds : List Deferred) (σ : Env) (w : World) : vc Try.prog (.region r59_0) Q ds σ w = vcOps Try.prog [⟨some 4, (Op.assign (Operand.const (Value.slice none 0 0))), 36, none⟩, ⟨some 5, (Op.assign (Operand.const (Value.int IntKind.i64 0))), 23, none⟩] (Q .normal ds) σ w := mk_eq rfl
@[push_cast] theorem vr59_1 (Q : Post) (ds : List Deferred) (σ : Env) (w : World) : vc Try.prog (.draw r59_1 3) Q ds σ w = drawn Try.prog [(⟨some 6, (Op.move (Operand.tmp 1)), 3, none⟩, [1]), (⟨some 7, (Op.binOp BinOp.lss 3 (Operand.tmp 6) (Operand.const (Value.int IntKind.i64 0)) 3), 4, none⟩, [6]), (⟨some 8, (Op.move (Operand.tmp 7)), 4, none⟩, [7]), (⟨some 9, (Op.move (Operand.tmp 1)), 3, some (8, false)⟩, [1, 8]), (⟨some 10, (Op.move (Operand.tmp 0)), 72, some (8, false)⟩, [0, 8]), (⟨some 11, (Op.nilCheck (Operand.tmp 10)), 0, some (8, false)⟩, [10, 8]), (⟨some 12, (Op.fieldAddr 74 (Operand.tmp 11) 0), 0, some (8, false)⟩, [11, 8]), (⟨some 13, (Op.load 36 (Operand.tmp 12)), 36, some (8, false)⟩, [12, 8]), (⟨some 14, (Op.call { callee := (Callee.builtin Builtin.len), args := #[(Operand.tmp 13)], argTypes := #[36] }), 3, some (8, false)⟩, [13, 8]), (⟨some 15, (Op.move (Operand.tmp 0)), 72, some (8, false)⟩, [0, 8]), (⟨some 16, (Op.nilCheck (Operand.tmp 15)), 0, some (8, false)⟩, [15, 8]), (⟨some 17, (Op.fieldAddr 74 (Operand.tmp 16) 1), 0, some (8, false)⟩, [16, 8]), (⟨some 18, (Op.load 3 (Operand.tmp 17)), 3, some (8, false)⟩, [17, 8]), (⟨some 19, (Op.binOp BinOp.sub 3 (Operand.tmp 14) (Operand.tmp 18) 3), 3, some (8, false)⟩, [14, 18, 8]), (⟨some 20, (Op.binOp BinOp.gtr 3 (Operand.tmp 9) (Operand.tmp 19) 3), 4, some (8, false)⟩, [9, 19, 8]), (⟨some 21, (Op.pick (Operand.tmp 8) (Operand.const (Value.bool true)) (Operand.tmp 20)), 4, none⟩, [8, 20])] 3 (Q .normal ds) σ w := mk_eq rfl
@[push_cast] theorem vr59_2 (Q : Post) (ds : List Deferred) (σ : Env) (w : World) : vc Try.prog (.region r59_2) Q ds σ w = vcOps Try.prog [⟨some 22, (Op.move (Operand.tmp 0)), 72, none⟩, ⟨some 23, (Op.nilCheck (Operand.tmp 22)), 0, none⟩, ⟨some 24, (Op.fieldAddr 74 (Operand.tmp 23) 2), 0, none⟩, ⟨none, (Op.store 4 (Operand.tmp 24) (Operand.const (Value.bool true))), 0, none⟩] (Q .normal ds) σ w := mk_eq rfl
@[push_cast] theorem vr59_3 (Q : Post) (ds : List Deferred) (σ : Env) (w : World) : vc Try.prog (.region r59_3) Q ds σ w = vcOps Try.prog [⟨some 4, (Op.assign (Operand.const (Value.slice none 0 0))), 36, none⟩, ⟨some 5, (Op.assign (Operand.const (Value.int IntKind.i64 11))), 23, none⟩] (Q .normal ds) σ w := mk_eq rfl
@[push_cast] theorem vr59_4 (Q : Post) (ds : List Deferred) (σ : Env) (w : World) : vc Try.prog (.region r59_4) Q ds σ w = vcOps Try.prog [⟨some 25, (Op.move (Operand.tmp 0)), 72, none⟩, ⟨some 26, (Op.move (Operand.tmp 0)), 72, none⟩, ⟨some 27, (Op.nilCheck (Operand.tmp 26)), 0, none⟩, ⟨some 28, (Op.fieldAddr 74 (Operand.tmp 27) 1), 0, none⟩, ⟨some 29, (Op.load 3 (Operand.tmp 28)), 3, none⟩, ⟨some 30, (Op.move (Operand.tmp 1)), 3, none⟩, ⟨some 31, (Op.binOp BinOp.add 3 (Operand.tmp 29) (Operand.tmp 30) 3), 3, none⟩, ⟨some 32, (Op.nilCheck (Operand.tmp 25)), 0, none⟩, ⟨some 33, (Op.fieldAddr 74 (Operand.tmp 32) 1), 0, none⟩, ⟨none, (Op.store 3 (Operand.tmp 33) (Operand.tmp 31)), 0, none⟩] (Q .normal ds) σ w := mk_eq rfl
@[push_cast] theorem vr59_5 (Q : Post) (ds : List Deferred) (σ : Env) (w : World) : vc Try.prog (.draw r59_5 4) Q ds σ w = drawn Try.prog [(⟨some 34, (Op.move (Operand.tmp 0)), 72, none⟩, [0]), (⟨some 35, (Op.nilCheck (Operand.tmp 34)), 0, none⟩, [34]), (⟨some 36, (Op.fieldAddr 74 (Operand.tmp 35) 0), 0, none⟩, [35]), (⟨some 37, (Op.load 36 (Operand.tmp 36)), 36, none⟩, [36]), (⟨some 38, (Op.move (Operand.tmp 0)), 72, none⟩, [0]), (⟨some 39, (Op.nilCheck (Operand.tmp 38)), 0, none⟩, [38]), (⟨some 40, (Op.fieldAddr 74 (Operand.tmp 39) 1), 0, none⟩, [39]), (⟨some 41, (Op.load 3 (Operand.tmp 40)), 3, none⟩, [40]), (⟨some 42, (Op.move (Operand.tmp 1)), 3, none⟩, [1]), (⟨some 43, (Op.binOp BinOp.sub 3 (Operand.tmp 41) (Operand.tmp 42) 3), 3, none⟩, [41, 42]), (⟨some 44, (Op.move (Operand.tmp 0)), 72, none⟩, [0]), (⟨some 45, (Op.nilCheck (Operand.tmp 44)), 0, none⟩, [44]), (⟨some 46, (Op.fieldAddr 74 (Operand.tmp 45) 1), 0, none⟩, [45]), (⟨some 47, (Op.load 3 (Operand.tmp 46)), 3, none⟩, [46]), (⟨some 48, (Op.slice 36 (Operand.tmp 37) (some (Operand.tmp 43)) (some (Operand.tmp 47)) none), 36, none⟩, [37, 43, 47]), (⟨some 4, (Op.assign (Operand.tmp 48)), 36, none⟩, [48]), (⟨some 5, (Op.assign (Operand.const (Value.int IntKind.i64 0))), 23, none⟩, [])] 4 (Q .normal ds) σ w := mk_eq rfl
/-! 61 (*columbary/columbaryref01.Reader).Whole (params #[72], results #[(ResultVar.tmp 2)], 20 slots) -/
def r61_0 : List VOp :=
  [⟨some 2, (Op.assign (Operand.const (Value.bool false))), 4, none⟩]
def r61_1 : List VOp :=
  [⟨some 3, (Op.move (Operand.tmp 0)), 72, none⟩,
   ⟨some 4, (Op.nilCheck (Operand.tmp 3)), 0, none⟩,
   ⟨some 5, (Op.fieldAddr 74 (Operand.tmp 4) 2), 0, none⟩,
   ⟨some 6, (Op.load 4 (Operand.tmp 5)), 4, none⟩,
   ⟨some 7, (Op.unOp UnOp.not 4 (Operand.tmp 6)), 4, none⟩,
   ⟨some 8, (Op.move (Operand.tmp 7)), 4, none⟩,
   ⟨some 9, (Op.move (Operand.tmp 0)), 72, some (8, true)⟩,
   ⟨some 10, (Op.nilCheck (Operand.tmp 9)), 0, some (8, true)⟩,
   ⟨some 11, (Op.fieldAddr 74 (Operand.tmp 10) 1), 0, some (8, true)⟩,
   ⟨some 12, (Op.load 3 (Operand.tmp 11)), 3, some (8, true)⟩,
   ⟨some 13, (Op.move (Operand.tmp 0)), 72, some (8, true)⟩,
   ⟨some 14, (Op.nilCheck (Operand.tmp 13)), 0, some (8, true)⟩,
   ⟨some 15, (Op.fieldAddr 74 (Operand.tmp 14) 0), 0, some (8, true)⟩,
   ⟨some 16, (Op.load 36 (Operand.tmp 15)), 36, some (8, true)⟩,
   ⟨some 17, (Op.call { callee := (Callee.builtin Builtin.len), args := #[(Operand.tmp 16)], argTypes := #[36] }), 3, some (8, true)⟩,
   ⟨some 18, (Op.binOp BinOp.eql 3 (Operand.tmp 12) (Operand.tmp 17) 3), 4, some (8, true)⟩,
   ⟨some 19, (Op.pick (Operand.tmp 8) (Operand.tmp 18) (Operand.const (Value.bool false))), 4, none⟩,
   ⟨some 2, (Op.assign (Operand.tmp 19)), 4, none⟩]
def B61 : VC :=
  (.seq (.region r61_0) (.seq (.draw r61_1 4) .ret))
theorem code61 : ∃ c, Try.f61.body = some c ∧ abs Try.f61.ntmps c = B61 := ⟨_, rfl, by kernel_rfl⟩
theorem hb61 : HasBody Try.prog 61 := hasBody_of Try.func61 (by kernel_rfl)
theorem res61 : Try.f61.results = #[(ResultVar.tmp 2)] := rfl
theorem enter61 {w : World} {R : Value → World → Prop} (x0 : Value) (h : vc Try.prog B61 (retK Try.prog #[(ResultVar.tmp 2)] R) [] (initEnv [x0] 0) w) : FnC Try.prog 61 #[x0] w R := by
  obtain ⟨c, h1, h2⟩ := code61
  exact hb61.fn (ret_of_vc mixed Try.func61 h1 (Nat.le_of_ble_eq_true rfl) B61 h2 h)
@[push_cast] theorem vr61_0 (Q : Post) (ds : List Deferred) (σ : Env) (w : World) : vc Try.prog (.region r61_0) Q ds σ w = vcOps Try.prog [⟨some 2, (Op.assign (Operand.const (Value.bool false))), 4, none⟩] (Q .normal ds) σ w := mk_eq rfl
@[push_cast] theorem vr61_1 (Q : Post) (ds : List Deferred) (σ : Env) (w : World) : vc Try.prog (.draw r61_1 4) Q ds σ w = drawn Try.prog [(⟨some 3, (Op.move (Operand.tmp 0)), 72, none⟩, [0]), (⟨some 4, (Op.nilCheck (Operand.tmp 3)), 0, none⟩, [3]), (⟨some 5, (Op.fieldAddr 74 (Operand.tmp 4) 2), 0, none⟩, [4]), (⟨some 6, (Op.load 4 (Operand.tmp 5)), 4, none⟩, [5]), (⟨some 7, (Op.unOp UnOp.not 4 (Operand.tmp 6)), 4, none⟩, [6]), (⟨some 8, (Op.move (Operand.tmp 7)), 4, none⟩, [7]), (⟨some 9, (Op.move (Operand.tmp 0)), 72, some (8, true)⟩, [0, 8]), (⟨some 10, (Op.nilCheck (Operand.tmp 9)), 0, some (8, true)⟩, [9, 8]), (⟨some 11, (Op.fieldAddr 74 (Operand.tmp 10) 1), 0, some (8, true)⟩, [10, 8]), (⟨some 12, (Op.load 3 (Operand.tmp 11)), 3, some (8, true)⟩, [11, 8]), (⟨some 13, (Op.move (Operand.tmp 0)), 72, some (8, true)⟩, [0, 8]), (⟨some 14, (Op.nilCheck (Operand.tmp 13)), 0, some (8, true)⟩, [13, 8]), (⟨some 15, (Op.fieldAddr 74 (Operand.tmp 14) 0), 0, some (8, true)⟩, [14, 8]), (⟨some 16, (Op.load 36 (Operand.tmp 15)), 36, some (8, true)⟩, [15, 8]), (⟨some 17, (Op.call { callee := (Callee.builtin Builtin.len), args := #[(Operand.tmp 16)], argTypes := #[36] }), 3, some (8, true)⟩, [16, 8]), (⟨some 18, (Op.binOp BinOp.eql 3 (Operand.tmp 12) (Operand.tmp 17) 3), 4, some (8, true)⟩, [12, 17, 8]), (⟨some 19, (Op.pick (Operand.tmp 8) (Operand.tmp 18) (Operand.const (Value.bool false))), 4, none⟩, [8, 18]), (⟨some 2, (Op.assign (Operand.tmp 19)), 4, none⟩, [19])] 4 (Q .normal ds) σ w := mk_eq rfl
/-! 63 columbary/zig.Fold (params #[3], results #[(ResultVar.tmp 2)], 10 slots) -/
def r63_0 : List VOp :=
  [⟨some 2, (Op.assign (Operand.const (Value.int IntKind.u64 0))), 47, none⟩]
def r63_1 : List VOp :=
  [⟨some 3, (Op.move (Operand.tmp 0)), 3, none⟩,
   ⟨some 4, (Op.convert 3 47 (Operand.tmp 3)), 47, none⟩,
   ⟨some 5, (Op.binOp BinOp.shl 47 (Operand.tmp 4) (Operand.const (Value.int IntKind.u64 1)) 46), 47, none⟩,
   ⟨some 6, (Op.move (Operand.tmp 0)), 3, none⟩,
   ⟨some 7, (Op.binOp BinOp.shr 3 (Operand.tmp 6) (Operand.const (Value.int IntKind.u64 63)) 46), 3, none⟩,
   ⟨some 8, (Op.convert 3 47 (Operand.tmp 7)), 47, none⟩,
   ⟨some 9, (Op.binOp BinOp.xor 47 (Operand.tmp 5) (Operand.tmp 8) 47), 47, none⟩,
   ⟨some 2, (Op.assign (Operand.tmp 9)), 47, none⟩]
def B63 : VC :=
  (.seq (.region r63_0) (.seq (.region r63_1) .ret))
theorem code63 : ∃ c, Try.f63.body = some c ∧ abs Try.f63.ntmps c = B63 := ⟨_, rfl, by kernel_rfl⟩
theorem hb63 : HasBody Try.prog 63 := hasBody_of Try.func63 (by kernel_rfl)
theorem res63 : Try.f63.results = #[(ResultVar.tmp 2)] := rfl
theorem enter63 {w : World} {R : Value → World → Prop} (x0 : Value) (h : vc Try.prog B63 (retK Try.prog #[(ResultVar.tmp 2)] R) [] (initEnv [x0] 0) w) : FnC Try.prog 63 #[x0] w R := by
  obtain ⟨c, h1, h2⟩ := code63
  exact hb63.fn (ret_of_vc mixed Try.func63 h1 (Nat.le_of_ble_eq_true rfl) B63 h2 h)
@[push_cast] theorem vr63_0 (Q : Post) (ds : List Deferred) (σ : Env) (w : World) : vc Try.prog (.region r63_0) Q ds σ w = vcOps Try.prog [⟨some 2, (Op.assign (Operand.const (Value.int IntKind.u64 0))), 47, none⟩] (Q .normal ds) σ w := mk_eq rfl
@[push_cast] theorem vr63_1 (Q : Post) (ds : List Deferred) (σ : Env) (w : World) : vc Try.prog (.region r63_1) Q ds σ w = vcOps Try.prog [⟨some 3, (Op.move (Operand.tmp 0)), 3, none⟩, ⟨some 4, (Op.convert 3 47 (Operand.tmp 3)), 47, none⟩, ⟨some 5, (Op.binOp BinOp.shl 47 (Operand.tmp 4) (Operand.const (Value.int IntKind.u64 1)) 46), 47, none⟩, ⟨some 6, (Op.move (Operand.tmp 0)), 3, none⟩, ⟨some 7, (Op.binOp BinOp.shr 3 (Operand.tmp 6) (Operand.const (Value.int IntKind.u64 63)) 46), 3, none⟩, ⟨some 8, (Op.convert 3 47 (Operand.tmp 7)), 47, none⟩, ⟨some 9, (Op.binOp BinOp.xor 47 (Operand.tmp 5) (Operand.tmp 8) 47), 47, none⟩, ⟨some 2, (Op.assign (Operand.tmp 9)), 47, none⟩] (Q .normal ds) σ w := mk_eq rfl
/-! 69 columbary/columbaryref01.Fold (params #[3], results #[(ResultVar.tmp 2)], 14 slots) -/
def r69_0 : List VOp :=
  [⟨some 2, (Op.assign (Operand.const (Value.int IntKind.u64 0))), 47, none⟩]
def r69_1 : List VOp :=
  [⟨some 3, (Op.move (Operand.tmp 0)), 3, none⟩,
   ⟨some 4, (Op.binOp BinOp.geq 3 (Operand.tmp 3) (Operand.const (Value.int IntKind.i64 0)) 3), 4, none⟩]
def r69_2 : List VOp :=
  [⟨some 5, (Op.move (Operand.tmp 0)), 3, none⟩,
   ⟨some 6, (Op.convert 3 47 (Operand.tmp 5)), 47, none⟩,
   ⟨some 7, (Op.binOp BinOp.mul 47 (Operand.const (Value.int IntKind.u64 2)) (Operand.tmp 6) 47), 47, none⟩,
   ⟨some 2, (Op.assign (Operand.tmp 7)), 47, none⟩]
def r69_3 : List VOp :=
  [⟨some 8, (Op.move (Operand.tmp 0)), 3, none⟩,
   ⟨some 9, (Op.binOp BinOp.add 3 (Operand.tmp 8) (Operand.const (Value.int IntKind.i64 1)) 3), 3, none⟩,
   ⟨some 10, (Op.unOp UnOp.neg 3 (Operand.tmp 9)), 3, none⟩,
   ⟨some 11, (Op.convert 3 47 (Operand.tmp 10)), 47, none⟩,
   ⟨some 12, (Op.binOp BinOp.mul 47 (Operand.const (Value.int IntKind.u64 2)) (Operand.tmp 11) 47), 47, none⟩,
   ⟨some 13, (Op.binOp BinOp.add 47 (Operand.tmp 12) (Operand.const (Value.int IntKind.u64 1)) 47), 47, none⟩,
   ⟨some 2, (Op.assign (Operand.tmp 13)), 47, none⟩]
def B69 : VC :=
  (.seq (.region r69_0) (.seq (.seq (.region r69_1) (.cond (Operand.tmp 4) (.seq (.region r69_2) .ret) .skip)) (.seq (.region r69_3) .ret)))
theorem code69 : ∃ c, Try.f69.body = some c ∧ abs Try.f69.ntmps c = B69 := ⟨_, rfl, by kernel_rfl⟩
theorem hb69 : HasBody Try.prog 69 := hasBody_of Try.func69 (by kernel_rfl)
theorem res69 : Try.f69.results = #[(ResultVar.tmp 2)] := rfl
theorem enter69 {w : World} {R : Value → World → Prop} (x0 : Value) (h : vc Try.prog B69 (retK Try.prog #[(ResultVar.tmp 2)] R) [] (initEnv [x0] 0) w) : FnC Try.prog 69 #[x0] w R := by
  obtain ⟨c, h1, h2⟩ := code69
  exact hb69.fn (ret_of_vc mixed Try.func69 h1 (Nat.le_of_ble_eq_true rfl) B69 h2 h)
@[push_cast] theorem vr69_0 (Q : Post) (ds : List Deferred) (σ : Env) (w : World) : vc Try.prog (.region r69_0) Q ds σ w = vcOps Try.prog [⟨some 2, (Op.assign (Operand.const (Value.int IntKind.u64 0))), 47, none⟩] (Q .normal ds) σ w := mk_eq rfl
@[push_cast] theorem vr69_1 (Q : Post) (ds : List Deferred) (σ : Env) (w : World) : vc Try.prog (.region r69_1) Q ds σ w = vcOps Try.prog [⟨some 3, (Op.move (Operand.tmp 0)), 3, none⟩, ⟨some 4, (Op.binOp BinOp.geq 3 (Operand.tmp 3) (Operand.const (Value.int IntKind.i64 0)) 3), 4, none⟩] (Q .normal ds) σ w := mk_eq rfl
@[push_cast] theorem vr69_2 (Q : Post) (ds : List Deferred) (σ : Env) (w : World) : vc Try.prog (.region r69_2) Q ds σ w = vcOps Try.prog [⟨some 5, (Op.move (Operand.tmp 0)), 3, none⟩, ⟨some 6, (Op.convert 3 47 (Operand.tmp 5)), 47, none⟩, ⟨some 7, (Op.binOp BinOp.mul 47 (Operand.const (Value.int IntKind.u64 2)) (Operand.tmp 6) 47), 47, none⟩, ⟨some 2, (Op.assign (Operand.tmp 7)), 47, none⟩] (Q .normal ds) σ w := mk_eq rfl
@[push_cast] theorem vr69_3 (Q : Post) (ds : List Deferred) (σ : Env) (w : World) : vc Try.prog (.region r69_3) Q ds σ w = vcOps Try.prog [⟨some 8, (Op.move (Operand.tmp 0)), 3, none⟩, ⟨some 9, (Op.binOp BinOp.add 3 (Operand.tmp 8) (Operand.const (Value.int IntKind.i64 1)) 3), 3, none⟩, ⟨some 10, (Op.unOp UnOp.neg 3 (Operand.tmp 9)), 3, none⟩, ⟨some 11, (Op.convert 3 47 (Operand.tmp 10)), 47, none⟩, ⟨some 12, (Op.binOp BinOp.mul 47 (Operand.const (Value.int IntKind.u64 2)) (Operand.tmp 11) 47), 47, none⟩, ⟨some 13, (Op.binOp BinOp.add 47 (Operand.tmp 12) (Operand.const (Value.int IntKind.u64 1)) 47), 47, none⟩, ⟨some 2, (Op.assign (Operand.tmp 13)), 47, none⟩] (Q .normal ds) σ w := mk_eq rfl
/-! 72 bytes.Clone (params #[36], results #[(ResultVar.tmp 2)], 8 slots) -/
def r72_0 : List VOp :=
  [⟨some 2, (Op.assign (Operand.const (Value.slice none 0 0))), 36, none⟩]
def r72_1 : List VOp :=
  [⟨some 3, (Op.move (Operand.tmp 0)), 36, none⟩,
   ⟨some 4, (Op.binOp BinOp.eql 36 (Operand.tmp 3) (Operand.const (Value.slice none 0 0)) 36), 4, none⟩]
def r72_2 : List VOp :=
  [⟨some 2, (Op.assign (Operand.const (Value.slice none 0 0))), 36, none⟩]
def r72_3 : List VOp :=
  [⟨some 5, (Op.buildSlice 36 0 #[]), 36, none⟩,
   ⟨some 6, (Op.move (Operand.tmp 0)), 36, none⟩,
   ⟨some 7, (Op.call { callee := (Callee.builtin Builtin.append), args := #[(Operand.tmp 5), (Operand.tmp 6)], argTypes := #[36, 36] }), 36, none⟩,
   ⟨some 2, (Op.assign (Operand.tmp 7)), 36, none⟩]
def B72 : VC :=
  (.seq (.region r72_0) (.seq (.seq (.region r72_1) (.cond (Operand.tmp 4) (.seq (.region r72_2) .ret) .skip)) (.seq (.region r72_3) .ret)))
theorem code72 : ∃ c, Try.f72.body = some c ∧ abs Try.f72.ntmps c = B72 := ⟨_, rfl, by kernel_rfl⟩
theorem hb72 : HasBody Try.prog 72 := hasBody_of Try.func72 (by kernel_rfl)
theorem res72 : Try.f72.results = #[(ResultVar.tmp 2)] := rfl
theorem enter72 {w : World} {R : Value → World → Prop} (x0 : Value) (h : vc Try.prog B72 (retK Try.prog #[(ResultVar.tmp 2)] R) [] (initEnv [x0] 0) w) : FnC Try.prog 72 #[x0] w R := by
  obtain ⟨c, h1, h2⟩ := code72
  exact hb72.fn (ret_of_vc mixed Try.func72 h1 (Nat.le_of_ble_eq_true rfl) B72 h2 h)
@[push_cast] theorem vr72_0 (Q : Post) (ds : List Deferred) (σ : Env) (w : World) : vc Try.prog (.region r72_0) Q ds σ w = vcOps Try.prog [⟨some 2, (Op.assign (Operand.const (Value.slice none 0 0))), 36, none⟩] (Q .normal ds) σ w := mk_eq rfl
@[push_cast] theorem vr72_1 (Q : Post) (ds : List Deferred) (σ : Env) (w : World) : vc Try.prog (.region r72_1) Q ds σ w = vcOps Try.prog [⟨some 3, (Op.move (Operand.tmp 0)), 36, none⟩, ⟨some 4, (Op.binOp BinOp.eql 36 (Operand.tmp 3) (Operand.const (Value.slice none 0 0)) 36), 4, none⟩] (Q .normal ds) σ w := mk_eq rfl
@[push_cast] theorem vr72_2 (Q : Post) (ds : List Deferred) (σ : Env) (w : World) : vc Try.prog (.region r72_2) Q ds σ w = vcOps Try.prog [⟨some 2, (Op.assign (Operand.const (Value.slice none 0 0))), 36, none⟩] (Q .normal ds) σ w := mk_eq rfl
@[push_cast] theorem vr72_3 (Q : Post) (ds : List Deferred) (σ : Env) (w : World) : vc Try.prog (.region r72_3) Q ds σ w = vcOps Try.prog [⟨some 5, (Op.buildSlice 36 0 #[]), 36, none⟩, ⟨some 6, (Op.move (Operand.tmp 0)), 36, none⟩, ⟨some 7, (Op.call { callee := (Callee.builtin Builtin.append), args := #[(Operand.tmp 5), (Operand.tmp 6)], argTypes := #[36, 36] }), 36, none⟩, ⟨some 2, (Op.assign (Operand.tmp 7)), 36, none⟩] (Q .normal ds) σ w := mk_eq rfl
/-! 73 columbary/zig.next (params #[36], results #[(ResultVar.tmp 2), (ResultVar.tmp 3)], 43 slots) -/
def W73_0 : List Nat := [2, 3, 4, 5, 6, 13, 14, 15, 16, 17, 18, 19, 20, 21, 22, 23, 24, 25, 26, 27, 28, 29, 30, 31, 32, 33, 34, 35, 36, 37, 38, 39, 40, 41, 42]
@[push_cast] theorem W73_0_def : W73_0 = [2, 3, 4, 5, 6, 13, 14, 15, 16, 17, 18, 19, 20, 21, 22, 23, 24, 25, 26, 27, 28, 29, 30, 31, 32, 33, 34, 35, 36, 37, 38, 39, 40, 41, 42] := mk_eq rfl
def r73_0 : List VOp :=
  [⟨some 2, (Op.assign (Operand.const (Value.int IntKind.i64 0))), 3, none⟩,
   ⟨some 3, (Op.assign (Operand.const (Value.int IntKind.i64 0))), 3, none⟩]
def r73_1 : List VOp :=
  [⟨some 4, (Op.assign (Operand.const (Value.int IntKind.u64 0))), 47, none⟩]
def r73_2 : List VOp :=
  [⟨some 7, (Op.move (Operand.tmp 0)), 36, none⟩,
   ⟨some 8, (Op.move (Operand.tmp 0)), 36, none⟩,
   ⟨some 9, (Op.call { callee := (Callee.builtin Builtin.len), args := #[(Operand.tmp 8)], argTypes := #[36] }), 3, none⟩,
   ⟨some 10, (Op.call { callee := (Callee.builtin Builtin.min), args := #[(Operand.tmp 9), (Operand.const (Value.int IntKind.i64 10))], argTypes := #[3, 3] }), 3, none⟩,
   ⟨some 11, (Op.slice 36 (Operand.tmp 7) none (some (Operand.tmp 10)) none), 36, none⟩,
   ⟨some 12, (Op.call { callee := (Callee.builtin Builtin.len), args := #[(Operand.tmp 11)], argTypes := #[36] }), 3, none⟩,
   ⟨some 13, (Op.move (Operand.const (Value.int IntKind.i64 0))), 3, none⟩]
def r73_3 : List VOp :=
  [⟨some 14, (Op.binOp BinOp.lss 3 (Operand.tmp 13) (Operand.tmp 12) 3), 0, none⟩]
def r73_4 : List VOp :=
  [⟨some 15, (Op.move (Operand.tmp 13)), 3, none⟩,
   ⟨some 16, (Op.indexAddr 36 (Operand.tmp 11) (Operand.tmp 13)), 0, none⟩,
   ⟨some 17, (Op.load 5 (Operand.tmp 16)), 5, none⟩,
   ⟨some 5, (Op.assign (Operand.tmp 15)), 3, none⟩,
   ⟨some 6, (Op.assign (Operand.tmp 17)), 5, none⟩]
def r73_5 : List VOp :=
  [⟨some 18, (Op.move (Operand.tmp 5)), 3, none⟩,
   ⟨some 19, (Op.binOp BinOp.eql 3 (Operand.tmp 18) (Operand.const (Value.int IntKind.i64 0)) 3), 4, none⟩,
   ⟨some 20, (Op.move (Operand.tmp 19)), 4, none⟩,
   ⟨some 21, (Op.move (Operand.tmp 6)), 5, some (20, true)⟩,
   ⟨some 22, (Op.binOp BinOp.eql 5 (Operand.tmp 21) (Operand.const (Value.int IntKind.u8 128)) 5), 4, some (20, true)⟩,
   ⟨some 23, (Op.pick (Operand.tmp 20) (Operand.tmp 22) (Operand.const (Value.bool false))), 4, none⟩,
   ⟨some 24, (Op.move (Operand.tmp 23)), 4, none⟩,
   ⟨some 25, (Op.move (Operand.tmp 4)), 47, some (24, false)⟩,
   ⟨some 26, (Op.binOp BinOp.shr 47 (Operand.tmp 25) (Operand.const (Value.int IntKind.u64 57)) 46), 47, some (24, false)⟩,
   ⟨some 27, (Op.binOp BinOp.gtr 47 (Operand.tmp 26) (Operand.const (Value.int IntKind.u64 0)) 47), 4, some (24, false)⟩,
   ⟨some 28, (Op.pick (Operand.tmp 24) (Operand.const (Value.bool true)) (Operand.tmp 27)), 4, none⟩]
def r73_6 : List VOp :=
  [⟨some 2, (Op.assign (Operand.const (Value.int IntKind.i64 0))), 3, none⟩,
   ⟨some 3, (Op.assign (Operand.const (Value.int IntKind.i64 0))), 3, none⟩]
def r73_7 : List VOp :=
  [⟨some 29, (Op.move (Operand.tmp 4)), 47, none⟩,
   ⟨some 30, (Op.binOp BinOp.shl 47 (Operand.tmp 29) (Operand.const (Value.int IntKind.u64 7)) 46), 47, none⟩,
   ⟨some 31, (Op.move (Operand.tmp 6)), 5, none⟩,
   ⟨some 32, (Op.binOp BinOp.andNot 5 (Operand.tmp 31) (Operand.const (Value.int IntKind.u8 128)) 5), 5, none⟩,
   ⟨some 33, (Op.convert 5 47 (Operand.tmp 32)), 47, none⟩,
   ⟨some 34, (Op.binOp BinOp.or 47 (Operand.tmp 30) (Operand.tmp 33) 47), 47, none⟩,
   ⟨some 4, (Op.assign (Operand.tmp 34)), 47, none⟩]
def r73_8 : List VOp :=
  [⟨some 35, (Op.move (Operand.tmp 6)), 5, none⟩,
   ⟨some 36, (Op.binOp BinOp.and 5 (Operand.tmp 35) (Operand.const (Value.int IntKind.u8 128)) 5), 5, none⟩,
   ⟨some 37, (Op.binOp BinOp.eql 5 (Operand.tmp 36) (Operand.const (Value.int IntKind.u8 0)) 5), 4, none⟩]
def r73_9 : List VOp :=
  [⟨some 38, (Op.move (Operand.tmp 4)), 47, none⟩,
   ⟨some 39, (Op.call { callee := (Callee.value (Operand.func 78)), args := #[(Operand.tmp 38)], argTypes := #[47] }), 3, none⟩,
   ⟨some 40, (Op.move (Operand.tmp 5)), 3, none⟩,
   ⟨some 41, (Op.binOp BinOp.add 3 (Operand.tmp 40) (Operand.const (Value.int IntKind.i64 1)) 3), 3, none⟩,
   ⟨some 2, (Op.assign (Operand.tmp 39)), 3, none⟩,
   ⟨some 3, (Op.assign (Operand.tmp 41)), 3, none⟩]
def r73_10 : List VOp :=
  [⟨some 42, (Op.binOp BinOp.add 3 (Operand.tmp 13) (Operand.const (Value.int IntKind.i64 1)) 3), 3, none⟩,
   ⟨some 13, (Op.move (Operand.tmp 42)), 3, none⟩]
def r73_11 : List VOp :=
  [⟨some 2, (Op.assign (Operand.const (Value.int IntKind.i64 0))), 3, none⟩,
   ⟨some 3, (Op.assign (Operand.const (Value.int IntKind.i64 0))), 3, none⟩]
def B73 : VC :=
  (.seq (.region r73_0) (.seq (.region r73_1) (.seq (.seq (.region r73_2) (.block 0 (.loop (.seq (.region r73_3) (.seq (.cond (Operand.tmp 14) .skip (.exit 0)) (.seq (.block 1 (.seq (.region r73_4) (.seq (.seq (.region r73_5) (.cond (Operand.tmp 28) (.seq (.region r73_6) .ret) .skip)) (.seq (.region r73_7) (.seq (.region r73_8) (.cond (Operand.tmp 37) (.seq (.region r73_9) .ret) .skip)))))) (.region r73_10))))))) (.seq (.region r73_11) .ret))))
theorem code73 : ∃ c, Try.f73.body = some c ∧ abs Try.f73.ntmps c = B73 := ⟨_, rfl, by kernel_rfl⟩
theorem hb73 : HasBody Try.prog 73 := hasBody_of Try.func73 (by kernel_rfl)
theorem res73 : Try.f73.results = #[(ResultVar.tmp 2), (ResultVar.tmp 3)] := rfl
theorem enter73 {w : World} {R : Value → World → Prop} (x0 : Value) (h : vc Try.prog B73 (retK Try.prog #[(ResultVar.tmp 2), (ResultVar.tmp 3)] R) [] (initEnv [x0] 0) w) : FnC Try.prog 73 #[x0] w R := by
  obtain ⟨c, h1, h2⟩ := code73
  exact hb73.fn (ret_of_vc mixed Try.func73 h1 (Nat.le_of_ble_eq_true rfl) B73 h2 h)
@[push_cast] theorem vr73_0 (Q : Post) (ds : List Deferred) (σ : Env) (w : World) : vc Try.prog (.region r73_0) Q ds σ w = vcOps Try.prog [⟨some 2, (Op.assign (Operand.const (Value.int IntKind.i64 0))), 3, none⟩, ⟨some 3, (Op.assign (Operand.const (Value.int IntKind.i64 0))), 3, none⟩] (Q .normal ds) σ w := mk_eq rfl
@[push_cast] theorem vr73_1 (Q : Post) (ds : List Deferred) (σ : Env) (w : World) : vc Try.prog (.region r73_1) Q ds σ w = vcOps Try.prog [⟨some 4, (Op.assign (Operand.const (Value.int IntKind.u64 0))), 47, none⟩] (Q .normal ds) σ w := mk_eq rfl
@[push_cast] theorem vr73_2 (Q : Post) (ds : List Deferred) (σ : Env) (w : World) : vc Try.prog (.region r73_2) Q ds σ w = vcOps Try.prog [⟨some 7, (Op.move (Operand.tmp 0)), 36, none⟩, ⟨some 8, (Op.move (Operand.tmp 0)), 36, none⟩, ⟨some 9, (Op.call { callee := (Callee.builtin Builtin.len), args := #[(Operand.tmp 8)], argTypes := #[36] }), 3, none⟩, ⟨some 10, (Op.call { callee := (Callee.builtin Builtin.min), args := #[(Operand.tmp 9), (Operand.const (Value.int IntKind.i64 10))], argTypes := #[3, 3] }), 3, none⟩, ⟨some 11, (Op.slice 36 (Operand.tmp 7) none (some (Operand.tmp 10)) none), 36, none⟩, ⟨some 12, (Op.call { callee := (Callee.builtin Builtin.len), args := #[(Operand.tmp 11)], argTypes := #[36] }), 3, none⟩, ⟨some 13, (Op.move (Operand.const (Value.int IntKind.i64 0))), 3, none⟩] (Q .normal ds) σ w := mk_eq rfl
@[push_cast] theorem vr73_3 (Q : Post) (ds : List Deferred) (σ : Env) (w : World) : vc Try.prog (.region r73_3) Q ds σ w = vcOps Try.prog [⟨some 14, (Op.binOp BinOp.lss 3 (Operand.tmp 13) (Operand.tmp 12) 3), 0, none⟩] (Q .normal ds) σ w := mk_eq rfl
@[push_cast] theorem vr73_4 (Q : Post) (ds : List Deferred) (σ : Env) (w : World) : vc Try.prog (.region r73_4) Q ds σ w = vcOps Try.prog [⟨some 15, (Op.move (Operand.tmp 13)), 3, none⟩, ⟨some 16, (Op.indexAddr 36 (Operand.tmp 11) (Operand.tmp 13)), 0, none⟩, ⟨some 17, (Op.load 5 (Operand.tmp 16)), 5, none⟩, ⟨some 5, (Op.assign (Operand.tmp 15)), 3, none⟩, ⟨some 6, (Op.assign (Operand.tmp 17)), 5, none⟩] (Q .normal ds) σ w := mk_eq rfl
@[push_cast] theorem vr73_5 (Q : Post) (ds : List Deferred) (σ : Env) (w : World) : vc Try.prog (.region r73_5) Q ds σ w = vcOps Try.prog [⟨some 18, (Op.move (Operand.tmp 5)), 3, none⟩, ⟨some 19, (Op.binOp BinOp.eql 3 (Operand.tmp 18) (Operand.const (Value.int IntKind.i64 0)) 3), 4, none⟩, ⟨some 20, (Op.move (Operand.tmp 19)), 4, none⟩, ⟨some 21, (Op.move (Operand.tmp 6)), 5, some (20, true)⟩, ⟨some 22, (Op.binOp BinOp.eql 5 (Operand.tmp 21) (Operand.const (Value.int IntKind.u8 128)) 5), 4, some (20, true)⟩, ⟨some 23, (Op.pick (Operand.tmp 20) (Operand.tmp 22) (Operand.const (Value.bool false))), 4, none⟩, ⟨some 24, (Op.move (Operand.tmp 23)), 4, none⟩, ⟨some 25, (Op.move (Operand.tmp 4)), 47, some (24, false)⟩, ⟨some 26, (Op.binOp BinOp.shr 47 (Operand.tmp 25) (Operand.const (Value.int IntKind.u64 57)) 46), 47, some (24, false)⟩, ⟨some 27, (Op.binOp BinOp.gtr 47 (Operand.tmp 26) (Operand.const (Value.int IntKind.u64 0)) 47), 4, some (24, false)⟩, ⟨some 28, (Op.pick (Operand.tmp 24) (Operand.const (Value.bool true)) (Operand.tmp 27)), 4, none⟩] (Q .normal ds) σ w := mk_eq rfl
@[push_cast] theorem vr73_6 (Q : Post) (ds : List Deferred) (σ : Env) (w : World) : vc Try.prog (.region r73_6) Q ds σ w = vcOps Try.prog [⟨some 2, (Op.assign (Operand.const (Value.int IntKind.i64 0))), 3, none⟩, ⟨some 3, (Op.assign (Operand.const (Value.int IntKind.i64 0))), 3, none⟩] (Q .normal ds) σ w := mk_eq rfl
@[push_cast] theorem vr73_7 (Q : Post) (ds : List Deferred) (σ : Env) (w : World) : vc Try.prog (.region r73_7) Q ds σ w = vcOps Try.prog [⟨some 29, (Op.move (Operand.tmp 4)), 47, none⟩, ⟨some 30, (Op.binOp BinOp.shl 47 (Operand.tmp 29) (Operand.const (Value.int IntKind.u64 7)) 46), 47, none⟩, ⟨some 31, (Op.move (Operand.tmp 6)), 5, none⟩, ⟨some 32, (Op.binOp BinOp.andNot 5 (Operand.tmp 31) (Operand.const (Value.int IntKind.u8 128)) 5), 5, none⟩, ⟨some 33, (Op.convert 5 47 (Operand.tmp 32)), 47, none⟩, ⟨some 34, (Op.binOp BinOp.or 47 (Operand.tmp 30) (Operand.tmp 33) 47), 47, none⟩, ⟨some 4, (Op.assign (Operand.tmp 34)), 47, none⟩] (Q .normal ds) σ w := mk_eq rfl
@[push_cast] theorem vr73_8 (Q : Post) (ds : List Deferred) (σ : Env) (w : World) : vc Try.prog (.region r73_8) Q ds σ w = vcOps Try.prog [⟨some 35, (Op.move (Operand.tmp 6)), 5, none⟩, ⟨some 36, (Op.binOp BinOp.and 5 (Operand.tmp 35) (Operand.const (Value.int IntKind.u8 128)) 5), 5, none⟩, ⟨some 37, (Op.binOp BinOp.eql 5 (Operand.tmp 36) (Operand.const (Value.int IntKind.u8 0)) 5), 4, none⟩] (Q .normal ds) σ w := mk_eq rfl
@[push_cast] theorem vr73_9 (Q : Post) (ds : List Deferred) (σ : Env) (w : World) : vc Try.prog (.region r73_9) Q ds σ w = vcOps Try.prog [⟨some 38, (Op.move (Operand.tmp 4)), 47, none⟩, ⟨some 39, (Op.call { callee := (Callee.value (Operand.func 78)), args := #[(Operand.tmp 38)], argTypes := #[47] }), 3, none⟩, ⟨some 40, (Op.move (Operand.tmp 5)), 3, none⟩, ⟨some 41, (Op.binOp BinOp.add 3 (Operand.tmp 40) (Operand.const (Value.int IntKind.i64 1)) 3), 3, none⟩, ⟨some 2, (Op.assign (Operand.tmp 39)), 3, none⟩, ⟨some 3, (Op.assign (Operand.tmp 41)), 3, none⟩] (Q .normal ds) σ w := mk_eq rfl
@[push_cast] theorem vr73_10 (Q : Post) (ds : List Deferred) (σ : Env) (w : World) : vc Try.prog (.region r73_10) Q ds σ w = vcOps Try.prog [⟨some 42, (Op.binOp BinOp.add 3 (Operand.tmp 13) (Operand.const (Value.int IntKind.i64 1)) 3), 3, none⟩, ⟨some 13, (Op.move (Operand.tmp 42)), 3, none⟩] (Q .normal ds) σ w := mk_eq rfl
@[push_cast] theorem vr73_11 (Q : Post) (ds : List Deferred) (σ : Env) (w : World) : vc Try.prog (.region r73_11) Q ds σ w = vcOps Try.prog [⟨some 2, (Op.assign (Operand.const (Value.int IntKind.i64 0))), 3, none⟩, ⟨some 3, (Op.assign (Operand.const (Value.int IntKind.i64 0))), 3, none⟩] (Q .normal ds) σ w := mk_eq rfl
/-! 75 (*columbary/columbaryref01.Reader).Int (params #[72, 3, 3], results #[(ResultVar.tmp 6), (ResultVar.tmp 7)], 43 slots) -/
def r75_0 : List VOp :=
  [⟨some 6, (Op.assign (Operand.const (Value.int IntKind.i64 0))), 3, none⟩,
   ⟨some 7, (Op.assign (Operand.const (Value.int IntKind.i64 0))), 23, none⟩]
def r75_1 : List VOp :=
  [⟨some 12, (Op.move (Operand.tmp 0)), 72, none⟩,
   ⟨some 13, (Op.call { callee := (Callee.value (Operand.func 79)), args := #[(Operand.tmp 12)], argTypes := #[72] }), 87, none⟩,
   ⟨some 11, (Op.move (Operand.tmp 13)), 87, none⟩,
   ⟨some 14, (Op.extract (Operand.tmp 11) 0), 47, none⟩,
   ⟨some 15, (Op.extract (Operand.tmp 11) 1), 3, none⟩,
   ⟨some 8, (Op.assign (Operand.tmp 14)), 47, none⟩,
   ⟨some 9, (Op.assign (Operand.tmp 15)), 3, none⟩]
def r75_2 : List VOp :=
  [⟨some 16, (Op.move (Operand.tmp 8)), 47, none⟩,
   ⟨some 17, (Op.call { callee := (Callee.value (Operand.func 80)), args := #[(Operand.tmp 16)], argTypes := #[47] }), 3, none⟩,
   ⟨some 10, (Op.assign (Operand.tmp 17)), 3, none⟩]
def r75_3 : List VOp :=
  [⟨some 18, (Op.move (Operand.tmp 9)), 3, none⟩,
   ⟨some 19, (Op.binOp BinOp.eql 3 (Operand.tmp 18) (Operand.const (Value.int IntKind.i64 0)) 3), 4, none⟩,
   ⟨some 20, (Op.move (Operand.tmp 19)), 4, none⟩,
   ⟨some 21, (Op.move (Operand.tmp 10)), 3, some (20, false)⟩,
   ⟨some 22, (Op.move (Operand.tmp 1)), 3, some (20, false)⟩,
   ⟨some 23, (Op.binOp BinOp.lss 3 (Operand.tmp 21) (Operand.tmp 22) 3), 4, some (20, false)⟩,
   ⟨some 24, (Op.pick (Operand.tmp 20) (Operand.const (Value.bool true)) (Operand.tmp 23)), 4, none⟩,
   ⟨some 25, (Op.move (Operand.tmp 24)), 4, none⟩,
   ⟨some 26, (Op.move (Operand.tmp 10)), 3, some (25, false)⟩,
   ⟨some 27, (Op.move (Operand.tmp 2)), 3, some (25, false)⟩,
   ⟨some 28, (Op.binOp BinOp.gtr 3 (Operand.tmp 26) (Operand.tmp 27) 3), 4, some (25, false)⟩,
   ⟨some 29, (Op.pick (Operand.tmp 25) (Operand.const (Value.bool true)) (Operand.tmp 28)), 4, none⟩]
def r75_4 : List VOp :=
  [⟨some 30, (Op.move (Operand.tmp 0)), 72, none⟩,
   ⟨some 31, (Op.nilCheck (Operand.tmp 30)), 0, none⟩,
   ⟨some 32, (Op.fieldAddr 74 (Operand.tmp 31) 2), 0, none⟩,
   ⟨none, (Op.store 4 (Operand.tmp 32) (Operand.const (Value.bool true))), 0, none⟩]
def r75_5 : List VOp :=
  [⟨some 6, (Op.assign (Operand.const (Value.int IntKind.i64 0))), 3, none⟩,
   ⟨some 7, (Op.assign (Operand.const (Value.int IntKind.i64 11))), 23, none⟩]
def r75_6 : List VOp :=
  [⟨some 33, (Op.move (Operand.tmp 0)), 72, none⟩,
   ⟨some 34, (Op.move (Operand.tmp 0)), 72, none⟩,
   ⟨some 35, (Op.nilCheck (Operand.tmp 34)), 0, none⟩,
   ⟨some 36, (Op.fieldAddr 74 (Operand.tmp 35) 1), 0, none⟩,
   ⟨some 37, (Op.load 3 (Operand.tmp 36)), 3, none⟩,
   ⟨some 38, (Op.move (Operand.tmp 9)), 3, none⟩,
   ⟨some 39, (Op.binOp BinOp.add 3 (Operand.tmp 37) (Operand.tmp 38) 3), 3, none⟩,
   ⟨some 40, (Op.nilCheck (Operand.tmp 33)), 0, none⟩,
   ⟨some 41, (Op.fieldAddr 74 (Operand.tmp 40) 1), 0, none⟩,
   ⟨none, (Op.store 3 (Operand.tmp 41) (Operand.tmp 39)), 0, none⟩]
def r75_7 : List VOp :=
  [⟨some 42, (Op.move (Operand.tmp 10)), 3, none⟩,
   ⟨some 6, (Op.assign (Operand.tmp 42)), 3, none⟩,
   ⟨some 7, (Op.assign (Operand.const (Value.int IntKind.i64 0))), 23, none⟩]
def B75 : VC :=
  (.seq (.region r75_0) (.seq (.region r75_1) (.seq (.region r75_2) (.seq (.seq (.region r75_3) (.cond (Operand.tmp 29) (.seq (.region r75_4) (.seq (.region r75_5) .ret)) .skip)) (.seq (.region r75_6) (.seq (.region r75_7) .ret))))))
theorem code75 : ∃ c, Try.f75.body = some c ∧ abs Try.f75.ntmps c = B75 := ⟨_, rfl, by kernel_rfl⟩
theorem hb75 : HasBody Try.prog 75 := hasBody_of Try.func75 (by kernel_rfl)
theorem res75 : Try.f75.results = #[(ResultVar.tmp 6), (ResultVar.tmp 7)] := rfl
theorem enter75 {w : World} {R : Value → World → Prop} (x0 x1 x2 : Value) (h : vc Try.prog B75 (retK Try.prog #[(ResultVar.tmp 6), (ResultVar.tmp 7)] R) [] (initEnv [x0, x1, x2] 0) w) : FnC Try.prog 75 #[x0, x1, x2] w R := by
  obtain ⟨c, h1, h2⟩ := code75
  exact hb75.fn (ret_of_vc mixed Try.func75 h1 (Nat.le_of_ble_eq_true rfl) B75 h2 h)
@[push_cast] theorem vr75_0 (Q : Post) (ds : List Deferred) (σ : Env) (w : World) : vc Try.prog (.region r75_0) Q ds σ w = vcOps Try.prog [⟨some 6, (Op.assign (Operand.const (Value.int IntKind.i64 0))), 3, none⟩, ⟨some 7, (Op.assign (Operand.const (Value.int IntKind.i64 0))), 23, none⟩] (Q .normal ds) σ w := mk_eq rfl
@[push_cast] theorem vr75_1 (Q : Post) (ds : List Deferred) (σ : Env) (w : World) : vc Try.prog (.region r75_1) Q ds σ w = vcOps Try.prog [⟨some 12, (Op.move (Operand.tmp 0)), 72, none⟩, ⟨some 13, (Op.call { callee := (Callee.value (Operand.func 79)), args := #[(Operand.tmp 12)], argTypes := #[72] }), 87, none⟩, ⟨some 11, (Op.move (Operand.tmp 13)), 87, none⟩, ⟨some 14, (Op.extract (Operand.tmp 11) 0), 47, none⟩, ⟨some 15, (Op.extract (Operand.tmp 11) 1), 3, none⟩, ⟨some 8, (Op.assign (Operand.tmp 14)), 47, none⟩, ⟨some 9, (Op.assign (Operand.tmp 15)), 3, none⟩] (Q .normal ds) σ w := mk_eq rfl
@[push_cast] theorem vr75_2 (Q : Post) (ds : List Deferred) (σ : Env) (w : World) : vc Try.prog (.region r75_2) Q ds σ w = vcOps Try.prog [⟨some 16, (Op.move (Operand.tmp 8)), 47, none⟩, ⟨some 17, (Op.call { callee := (Callee.value (Operand.func 80)), args := #[(Operand.tmp 16)], argTypes := #[47] }), 3, none⟩, ⟨some 10, (Op.assign (Operand.tmp 17)), 3, none⟩] (Q .normal ds) σ w := mk_eq rfl
@[push_cast] theorem vr75_3 (Q : Post) (ds : List Deferred) (σ : Env) (w : World) : vc Try.prog (.region r75_3) Q ds σ w = vcOps Try.prog [⟨some 18, (Op.move (Operand.tmp 9)), 3, none⟩, ⟨some 19, (Op.binOp BinOp.eql 3 (Operand.tmp 18) (Operand.const (Value.int IntKind.i64 0)) 3), 4, none⟩, ⟨some 20, (Op.move (Operand.tmp 19)), 4, none⟩, ⟨some 21, (Op.move (Operand.tmp 10)), 3, some (20, false)⟩, ⟨some 22, (Op.move (Operand.tmp 1)), 3, some (20, false)⟩, ⟨some 23, (Op.binOp BinOp.lss 3 (Operand.tmp 21) (Operand.tmp 22) 3), 4, some (20, false)⟩, ⟨some 24, (Op.pick (Operand.tmp 20) (Operand.const (Value.bool true)) (Operand.tmp 23)), 4, none⟩, ⟨some 25, (Op.move (Operand.tmp 24)), 4, none⟩, ⟨some 26, (Op.move (Operand.tmp 10)), 3, some (25, false)⟩, ⟨some 27, (Op.move (Operand.tmp 2)), 3, some (25, false)⟩, ⟨some 28, (Op.binOp BinOp.gtr 3 (Operand.tmp 26) (Operand.tmp 27) 3), 4, some (25, false)⟩, ⟨some 29, (Op.pick (Operand.tmp 25) (Operand.const (Value.bool true)) (Operand.tmp 28)), 4, none⟩] (Q .normal ds) σ w := mk_eq rfl
@[push_cast] theorem vr75_4 (Q : Post) (ds : List Deferred) (σ : Env) (w : World) : vc Try.prog (.region r75_4) Q ds σ w = vcOps Try.prog [⟨some 30, (Op.move (Operand.tmp 0)), 72, none⟩, ⟨some 31, (Op.nilCheck (Operand.tmp 30)), 0, none⟩, ⟨some 32, (Op.fieldAddr 74 (Operand.tmp 31) 2), 0, none⟩, ⟨none, (Op.store 4 (Operand.tmp 32) (Operand.const (Value.bool true))), 0, none⟩] (Q .normal ds) σ w := mk_eq rfl
@[push_cast] theorem vr75_5 (Q : Post) (ds : List Deferred) (σ : Env) (w : World) : vc Try.prog (.region r75_5) Q ds σ w = vcOps Try.prog [⟨some 6, (Op.assign (Operand.const (Value.int IntKind.i64 0))), 3, none⟩, ⟨some 7, (Op.assign (Operand.const (Value.int IntKind.i64 11))), 23, none⟩] (Q .normal ds) σ w := mk_eq rfl
@[push_cast] theorem vr75_6 (Q : Post) (ds : List Deferred) (σ : Env) (w : World) : vc Try.prog (.region r75_6) Q ds σ w = vcOps Try.prog [⟨some 33, (Op.move (Operand.tmp 0)), 72, none⟩, ⟨some 34, (Op.move (Operand.tmp 0)), 72, none⟩, ⟨some 35, (Op.nilCheck (Operand.tmp 34)), 0, none⟩, ⟨some 36, (Op.fieldAddr 74 (Operand.tmp 35) 1), 0, none⟩, ⟨some 37, (Op.load 3 (Operand.tmp 36)), 3, none⟩, ⟨some 38, (Op.move (Operand.tmp 9)), 3, none⟩, ⟨some 39, (Op.binOp BinOp.add 3 (Operand.tmp 37) (Operand.tmp 38) 3), 3, none⟩, ⟨some 40, (Op.nilCheck (Operand.tmp 33)), 0, none⟩, ⟨some 41, (Op.fieldAddr 74 (Operand.tmp 40) 1), 0, none⟩, ⟨none, (Op.store 3 (Operand.tmp 41) (Operand.tmp 39)), 0, none⟩] (Q .normal ds) σ w := mk_eq rfl
@[push_cast] theorem vr75_7 (Q : Post) (ds : List Deferred) (σ : Env) (w : World) : vc Try.prog (.region r75_7) Q ds σ w = vcOps Try.prog [⟨some 42, (Op.move (Operand.tmp 10)), 3, none⟩, ⟨some 6, (Op.assign (Operand.tmp 42)), 3, none⟩, ⟨some 7, (Op.assign (Operand.const (Value.int IntKind.i64 0))), 23, none⟩] (Q .normal ds) σ w := mk_eq rfl
/-! 78 columbary/zig.Unfold (params #[47], results #[(ResultVar.tmp 2)], 11 slots) -/
def r78_0 : List VOp :=
  [⟨some 2, (Op.assign (Operand.const (Value.int IntKind.i64 0))), 3, none⟩]
def r78_1 : List VOp :=
  [⟨some 3, (Op.move (Operand.tmp 0)), 47, none⟩,
   ⟨some 4, (Op.binOp BinOp.shr 47 (Operand.tmp 3) (Operand.const (Value.int IntKind.u64 1)) 46), 47, none⟩,
   ⟨some 5, (Op.convert 47 3 (Operand.tmp 4)), 3, none⟩,
   ⟨some 6, (Op.move (Operand.tmp 0)), 47, none⟩,
   ⟨some 7, (Op.binOp BinOp.and 47 (Operand.tmp 6) (Operand.const (Value.int IntKind.u64 1)) 47), 47, none⟩,
   ⟨some 8, (Op.convert 47 3 (Operand.tmp 7)), 3, none⟩,
   ⟨some 9, (Op.unOp UnOp.neg 3 (Operand.tmp 8)), 3, none⟩,
   ⟨some 10, (Op.binOp BinOp.xor 3 (Operand.tmp 5) (Operand.tmp 9) 3), 3, none⟩,
   ⟨some 2, (Op.assign (Operand.tmp 10)), 3, none⟩]
def B78 : VC :=
  (.seq (.region r78_0) (.seq (.region r78_1) .ret))
theorem code78 : ∃ c, Try.f78.body = some c ∧ abs Try.f78.ntmps c = B78 := ⟨_, rfl, by kernel_rfl⟩
theorem hb78 : HasBody Try.prog 78 := hasBody_of Try.func78 (by kernel_rfl)
theorem res78 : Try.f78.results = #[(ResultVar.tmp 2)] := rfl
theorem enter78 {w : World} {R : Value → World → Prop} (x0 : Value) (h : vc Try.prog B78 (retK Try.prog #[(ResultVar.tmp 2)] R) [] (initEnv [x0] 0) w) : FnC Try.prog 78 #[x0] w R := by
  obtain ⟨c, h1, h2⟩ := code78
  exact hb78.fn (ret_of_vc mixed Try.func78 h1 (Nat.le_of_ble_eq_true rfl) B78 h2 h)
@[push_cast] theorem vr78_0 (Q : Post) (ds : List Deferred) (σ : Env) (w : World) : vc Try.prog (.region r78_0) Q ds σ w = vcOps Try.prog [⟨some 2, (Op.assign (Operand.const (Value.int IntKind.i64 0))), 3, none⟩] (Q .normal ds) σ w := mk_eq rfl
@[push_cast] theorem vr78_1 (Q : Post) (ds : List Deferred) (σ : Env) (w : World) : vc Try.prog (.region r78_1) Q ds σ w = vcOps Try.prog [⟨some 3, (Op.move (Operand.tmp 0)), 47, none⟩, ⟨some 4, (Op.binOp BinOp.shr 47 (Operand.tmp 3) (Operand.const (Value.int IntKind.u64 1)) 46), 47, none⟩, ⟨some 5, (Op.convert 47 3 (Operand.tmp 4)), 3, none⟩, ⟨some 6, (Op.move (Operand.tmp 0)), 47, none⟩, ⟨some 7, (Op.binOp BinOp.and 47 (Operand.tmp 6) (Operand.const (Value.int IntKind.u64 1)) 47), 47, none⟩, ⟨some 8, (Op.convert 47 3 (Operand.tmp 7)), 3, none⟩, ⟨some 9, (Op.unOp UnOp.neg 3 (Operand.tmp 8)), 3, none⟩, ⟨some 10, (Op.binOp BinOp.xor 3 (Operand.tmp 5) (Operand.tmp 9) 3), 3, none⟩, ⟨some 2, (Op.assign (Operand.tmp 10)), 3, none⟩] (Q .normal ds) σ w := mk_eq rfl
/-! 79 (*columbary/columbaryref01.Reader).number (params #[72], results #[(ResultVar.tmp 2), (ResultVar.tmp 3)], 58 slots) -/
def W79_0 : List Nat := [2, 3, 4, 5, 6, 7, 8, 9, 10, 11, 12, 13, 14, 15, 16, 17, 18, 19, 20, 21, 22, 23, 24, 25, 26, 27, 28, 29, 30, 31, 32, 33, 34, 35, 36, 37, 38, 39, 40, 41, 42, 43, 44, 45, 46, 47, 48, 49, 50, 51, 52, 53, 54, 55, 56, 57]
@[push_cast] theorem W79_0_def : W79_0 = [2, 3, 4, 5, 6, 7, 8, 9, 10, 11, 12, 13, 14, 15, 16, 17, 18, 19, 20, 21, 22, 23, 24, 25, 26, 27, 28, 29, 30, 31, 32, 33, 34, 35, 36, 37, 38, 39, 40, 41, 42, 43, 44, 45, 46, 47, 48, 49, 50, 51, 52, 53, 54, 55, 56, 57] := mk_eq rfl
def r79_0 : List VOp :=
  [⟨some 2, (Op.assign (Operand.const (Value.int IntKind.u64 0))), 47, none⟩,
   ⟨some 3, (Op.assign (Operand.const (Value.int IntKind.i64 0))), 3, none⟩]
def r79_1 : List VOp :=
  [⟨some 4, (Op.assign (Operand.const (Value.int IntKind.u64 0))), 47, none⟩]
def r79_2 : List VOp :=
  [⟨some 5, (Op.assign (Operand.const (Value.int IntKind.i64 0))), 3, none⟩]
def r79_3 : List VOp :=
  [⟨some 7, (Op.move (Operand.tmp 5)), 3, none⟩,
   ⟨some 8, (Op.binOp BinOp.lss 3 (Operand.tmp 7) (Operand.const (Value.int IntKind.i64 10)) 3), 4, none⟩,
   ⟨some 9, (Op.move (Operand.tmp 8)), 4, none⟩,
   ⟨some 10, (Op.move (Operand.tmp 0)), 72, some (9, true)⟩,
   ⟨some 11, (Op.nilCheck (Operand.tmp 10)), 0, some (9, true)⟩,
   ⟨some 12, (Op.fieldAddr 74 (Operand.tmp 11) 1), 0, some (9, true)⟩,
   ⟨some 13, (Op.load 3 (Operand.tmp 12)), 3, some (9, true)⟩,
   ⟨some 14, (Op.move (Operand.tmp 5)), 3, some (9, true)⟩,
   ⟨some 15, (Op.binOp BinOp.add 3 (Operand.tmp 13) (Operand.tmp 14) 3), 3, some (9, true)⟩,
   ⟨some 16, (Op.move (Operand.tmp 0)), 72, some (9, true)⟩,
   ⟨some 17, (Op.nilCheck (Operand.tmp 16)), 0, some (9, true)⟩,
   ⟨some 18, (Op.fieldAddr 74 (Operand.tmp 17) 0), 0, some (9, true)⟩,
   ⟨some 19, (Op.load 36 (Operand.tmp 18)), 36, some (9, true)⟩,
   ⟨some 20, (Op.call { callee := (Callee.builtin Builtin.len), args := #[(Operand.tmp 19)], argTypes := #[36] }), 3, some (9, true)⟩,
   ⟨some 21, (Op.binOp BinOp.lss 3 (Operand.tmp 15) (Operand.tmp 20) 3), 4, some (9, true)⟩,
   ⟨some 22, (Op.pick (Operand.tmp 9) (Operand.tmp 21) (Operand.const (Value.bool false))), 4, none⟩]
def r79_5 : List VOp :=
  [⟨some 25, (Op.move (Operand.tmp 0)), 72, none⟩,
   ⟨some 26, (Op.nilCheck (Operand.tmp 25)), 0, none⟩,
   ⟨some 27, (Op.fieldAddr 74 (Operand.tmp 26) 0), 0, none⟩,
   ⟨some 28, (Op.load 36 (Operand.tmp 27)), 36, none⟩,
   ⟨some 29, (Op.move (Operand.tmp 0)), 72, none⟩,
   ⟨some 30, (Op.nilCheck (Operand.tmp 29)), 0, none⟩,
   ⟨some 31, (Op.fieldAddr 74 (Operand.tmp 30) 1), 0, none⟩,
   ⟨some 32, (Op.load 3 (Operand.tmp 31)), 3, none⟩,
   ⟨some 33, (Op.move (Operand.tmp 5)), 3, none⟩,
   ⟨some 34, (Op.binOp BinOp.add 3 (Operand.tmp 32) (Operand.tmp 33) 3), 3, none⟩,
   ⟨some 35, (Op.indexAddr 36 (Operand.tmp 28) (Operand.tmp 34)), 0, none⟩,
   ⟨some 36, (Op.load 5 (Operand.tmp 35)), 5, none⟩,
   ⟨some 6, (Op.assign (Operand.tmp 36)), 5, none⟩]
def r79_6 : List VOp :=
  [⟨some 37, (Op.move (Operand.tmp 5)), 3, none⟩,
   ⟨some 38, (Op.binOp BinOp.eql 3 (Operand.tmp 37) (Operand.const (Value.int IntKind.i64 0)) 3), 4, none⟩,
   ⟨some 39, (Op.move (Operand.tmp 38)), 4, none⟩,
   ⟨some 40, (Op.move (Operand.tmp 6)), 5, some (39, true)⟩,
   ⟨some 41, (Op.binOp BinOp.eql 5 (Operand.tmp 40) (Operand.const (Value.int IntKind.u8 128)) 5), 4, some (39, true)⟩,
   ⟨some 42, (Op.pick (Operand.tmp 39) (Operand.tmp 41) (Operand.const (Value.bool false))), 4, none⟩,
   ⟨some 43, (Op.move (Operand.tmp 42)), 4, none⟩,
   ⟨some 44, (Op.move (Operand.tmp 4)), 47, some (43, false)⟩,
   ⟨some 45, (Op.binOp BinOp.gtr 47 (Operand.tmp 44) (Operand.const (Value.int IntKind.u64 144115188075855871)) 47), 4, some (43, false)⟩,
   ⟨some 46, (Op.pick (Operand.tmp 43) (Operand.const (Value.bool true)) (Operand.tmp 45)), 4, none⟩]
def r79_7 : List VOp :=
  [⟨some 2, (Op.assign (Operand.const (Value.int IntKind.u64 0))), 47, none⟩,
   ⟨some 3, (Op.assign (Operand.const (Value.int IntKind.i64 0))), 3, none⟩]
def r79_8 : List VOp :=
  [⟨some 47, (Op.move (Operand.tmp 4)), 47, none⟩,
   ⟨some 48, (Op.binOp BinOp.mul 47 (Operand.const (Value.int IntKind.u64 128)) (Operand.tmp 47) 47), 47, none⟩,
   ⟨some 49, (Op.move (Operand.tmp 6)), 5, none⟩,
   ⟨some 50, (Op.binOp BinOp.rem 5 (Operand.tmp 49) (Operand.const (Value.int IntKind.u8 128)) 5), 5, none⟩,
   ⟨some 51, (Op.convert 5 47 (Operand.tmp 50)), 47, none⟩,
   ⟨some 52, (Op.binOp BinOp.add 47 (Operand.tmp 48) (Operand.tmp 51) 47), 47, none⟩,
   ⟨some 4, (Op.assign (Operand.tmp 52)), 47, none⟩]
def r79_9 : List VOp :=
  [⟨some 53, (Op.move (Operand.tmp 6)), 5, none⟩,
   ⟨some 54, (Op.binOp BinOp.lss 5 (Operand.tmp 53) (Operand.const (Value.int IntKind.u8 128)) 5), 4, none⟩]
def r79_10 : List VOp :=
  [⟨some 55, (Op.move (Operand.tmp 4)), 47, none⟩,
   ⟨some 56, (Op.move (Operand.tmp 5)), 3, none⟩,
   ⟨some 57, (Op.binOp BinOp.add 3 (Operand.tmp 56) (Operand.const (Value.int IntKind.i64 1)) 3), 3, none⟩,
   ⟨some 2, (Op.assign (Operand.tmp 55)), 47, none⟩,
   ⟨some 3, (Op.assign (Operand.tmp 57)), 3, none⟩]
def r79_4 : List VOp :=
  [⟨some 23, (Op.move (Operand.tmp 5)), 3, none⟩,
   ⟨some 24, (Op.binOp BinOp.add 3 (Operand.tmp 23) (Operand.const (Value.int IntKind.i64 1)) 3), 3, none⟩,
   ⟨some 5, (Op.assign (Operand.tmp 24)), 3, none⟩]
def r79_11 : List VOp :=
  [⟨some 2, (Op.assign (Operand.const (Value.int IntKind.u64 0))), 47, none⟩,
   ⟨some 3, (Op.assign (Operand.const (Value.int IntKind.i64 0))), 3, none⟩]
def B79 : VC :=
  (.seq (.region r79_0) (.seq (.region r79_1) (.seq (.seq (.region r79_2) (.block 0 (.loop (.seq (.seq (.draw r79_3 3) (.cond (Operand.tmp 22) .skip (.exit 0))) (.seq (.block 1 (.seq (.draw r79_5 4) (.seq (.seq (.region r79_6) (.cond (Operand.tmp 46) (.seq (.region r79_7) .ret) .skip)) (.seq (.region r79_8) (.seq (.region r79_9) (.cond (Operand.tmp 54) (.seq (.region r79_10) .ret) .skip)))))) (.region r79_4)))))) (.seq (.region r79_11) .ret))))
theorem code79 : ∃ c, Try.f79.body = some c ∧ abs Try.f79.ntmps c = B79 := ⟨_, rfl, by kernel_rfl⟩
theorem hb79 : HasBody Try.prog 79 := hasBody_of Try.func79 (by kernel_rfl)
theorem res79 : Try.f79.results = #[(ResultVar.tmp 2), (ResultVar.tmp 3)] := rfl
theorem enter79 {w : World} {R : Value → World → Prop} (x0 : Value) (h : vc Try.prog B79 (retK Try.prog #[(ResultVar.tmp 2), (ResultVar.tmp 3)] R) [] (initEnv [x0] 0) w) : FnC Try.prog 79 #[x0] w R := by
  obtain ⟨c, h1, h2⟩ := code79
  exact hb79.fn (ret_of_vc mixed Try.func79 h1 (Nat.le_of_ble_eq_true rfl) B79 h2 h)
@[push_cast] theorem vr79_0 (Q : Post) (ds : List Deferred) (σ : Env) (w : World) : vc Try.prog (.region r79_0) Q ds σ w = vcOps Try.prog [⟨some 2, (Op.assign (Operand.const (Value.int IntKind.u64 0))), 47, none⟩, ⟨some 3, (Op.assign (Operand.const (Value.int IntKind.i64 0))), 3, none⟩] (Q .normal ds) σ w := mk_eq rfl
@[push_cast] theorem vr79_1 (Q : Post) (ds : List Deferred) (σ : Env) (w : World) : vc Try.prog (.region r79_1) Q ds σ w = vcOps Try.prog [⟨some 4, (Op.assign (Operand.const (Value.int IntKind.u64 0))), 47, none⟩] (Q .normal ds) σ w := mk_eq rfl
@[push_cast] theorem vr79_2 (Q : Post) (ds : List Deferred) (σ : Env) (w : World) : vc Try.prog (.region r79_2) Q ds σ w = vcOps Try.prog [⟨some 5, (Op.assign (Operand.const (Value.int IntKind.i64 0))), 3, none⟩] (Q .normal ds) σ w := mk_eq rfl
@[push_cast] theorem vr79_3 (Q : Post) (ds : List Deferred) (σ : Env) (w : World) : vc Try.prog (.draw r79_3 3) Q ds σ w = drawn Try.prog [(⟨some 7, (Op.move (Operand.tmp 5)), 3, none⟩, [5]), (⟨some 8, (Op.binOp BinOp.lss 3 (Operand.tmp 7) (Operand.const (Value.int IntKind.i64 10)) 3), 4, none⟩, [7]), (⟨some 9, (Op.move (Operand.tmp 8)), 4, none⟩, [8]), (⟨some 10, (Op.move (Operand.tmp 0)), 72, some (9, true)⟩, [0, 9]), (⟨some 11, (Op.nilCheck (Operand.tmp 10)), 0, some (9, true)⟩, [10, 9]), (⟨some 12, (Op.fieldAddr 74 (Operand.tmp 11) 1), 0, some (9, true)⟩, [11, 9]), (⟨some 13, (Op.load 3 (Operand.tmp 12)), 3, some (9, true)⟩, [12, 9]), (⟨some 14, (Op.move (Operand.tmp 5)), 3, some (9, true)⟩, [5, 9]), (⟨some 15, (Op.binOp BinOp.add 3 (Operand.tmp 13) (Operand.tmp 14) 3), 3, some (9, true)⟩, [13, 14, 9]), (⟨some 16, (Op.move (Operand.tmp 0)), 72, some (9, true)⟩, [0, 9]), (⟨some 17, (Op.nilCheck (Operand.tmp 16)), 0, some (9, true)⟩, [16, 9]), (⟨some 18, (Op.fieldAddr 74 (Operand.tmp 17) 0), 0, some (9, true)⟩, [17, 9]), (⟨some 19, (Op.load 36 (Operand.tmp 18)), 36, some (9, true)⟩, [18, 9]), (⟨some 20, (Op.call { callee := (Callee.builtin Builtin.len), args := #[(Operand.tmp 19)], argTypes := #[36] }), 3, some (9, true)⟩, [19, 9]), (⟨some 21, (Op.binOp BinOp.lss 3 (Operand.tmp 15) (Operand.tmp 20) 3), 4, some (9, true)⟩, [15, 20, 9]), (⟨some 22, (Op.pick (Operand.tmp 9) (Operand.tmp 21) (Operand.const (Value.bool false))), 4, none⟩, [9, 21])] 3 (Q .normal ds) σ w := mk_eq rfl
@[push_cast] theorem vr79_5 (Q : Post) (ds : List Deferred) (σ : Env) (w : World) : vc Try.prog (.draw r79_5 4) Q ds σ w = drawn Try.prog [(⟨some 25, (Op.move (Operand.tmp 0)), 72, none⟩, [0]), (⟨some 26, (Op.nilCheck (Operand.tmp 25)), 0, none⟩, [25]), (⟨some 27, (Op.fieldAddr 74 (Operand.tmp 26) 0), 0, none⟩, [26]), (⟨some 28, (Op.load 36 (Operand.tmp 27)), 36, none⟩, [27]), (⟨some 29, (Op.move (Operand.tmp 0)), 72, none⟩, [0]), (⟨some 30, (Op.nilCheck (Operand.tmp 29)), 0, none⟩, [29]), (⟨some 31, (Op.fieldAddr 74 (Operand.tmp 30) 1), 0, none⟩, [30]), (⟨some 32, (Op.load 3 (Operand.tmp 31)), 3, none⟩, [31]), (⟨some 33, (Op.move (Operand.tmp 5)), 3, none⟩, [5]), (⟨some 34, (Op.binOp BinOp.add 3 (Operand.tmp 32) (Operand.tmp 33) 3), 3, none⟩, [32, 33]), (⟨some 35, (Op.indexAddr 36 (Operand.tmp 28) (Operand.tmp 34)), 0, none⟩, [28, 34]), (⟨some 36, (Op.load 5 (Operand.tmp 35)), 5, none⟩, [35]), (⟨some 6, (Op.assign (Operand.tmp 36)), 5, none⟩, [36])] 4 (Q .normal ds) σ w := mk_eq rfl
@[push_cast] theorem vr79_6 (Q : Post) (ds : List Deferred) (σ : Env) (w : World) : vc Try.prog (.region r79_6) Q ds σ w = vcOps Try.prog [⟨some 37, (Op.move (Operand.tmp 5)), 3, none⟩, ⟨some 38, (Op.binOp BinOp.eql 3 (Operand.tmp 37) (Operand.const (Value.int IntKind.i64 0)) 3), 4, none⟩, ⟨some 39, (Op.move (Operand.tmp 38)), 4, none⟩, ⟨some 40, (Op.move (Operand.tmp 6)), 5, some (39, true)⟩, ⟨some 41, (Op.binOp BinOp.eql 5 (Operand.tmp 40) (Operand.const (Value.int IntKind.u8 128)) 5), 4, some (39, true)⟩, ⟨some 42, (Op.pick (Operand.tmp 39) (Operand.tmp 41) (Operand.const (Value.bool false))), 4, none⟩, ⟨some 43, (Op.move (Operand.tmp 42)), 4, none⟩, ⟨some 44, (Op.move (Operand.tmp 4)), 47, some (43, false)⟩, ⟨some 45, (Op.binOp BinOp.gtr 47 (Operand.tmp 44) (Operand.const (Value.int IntKind.u64 144115188075855871)) 47), 4, some (43, false)⟩, ⟨some 46, (Op.pick (Operand.tmp 43) (Operand.const (Value.bool true)) (Operand.tmp 45)), 4, none⟩] (Q .normal ds) σ w := mk_eq rfl
@[push_cast] theorem vr79_7 (Q : Post) (ds : List Deferred) (σ : Env) (w : World) : vc Try.prog (.region r79_7) Q ds σ w = vcOps Try.prog [⟨some 2, (Op.assign (Operand.const (Value.int IntKind.u64 0))), 47, none⟩, ⟨some 3, (Op.assign (Operand.const (Value.int IntKind.i64 0))), 3, none⟩] (Q .normal ds) σ w := mk_eq rfl
@[push_cast] theorem vr79_8 (Q : Post) (ds : List Deferred) (σ : Env) (w : World) : vc Try.prog (.region r79_8) Q ds σ w = vcOps Try.prog [⟨some 47, (Op.move (Operand.tmp 4)), 47, none⟩, ⟨some 48, (Op.binOp BinOp.mul 47 (Operand.const (Value.int IntKind.u64 128)) (Operand.tmp 47) 47), 47, none⟩, ⟨some 49, (Op.move (Operand.tmp 6)), 5, none⟩, ⟨some 50, (Op.binOp BinOp.rem 5 (Operand.tmp 49) (Operand.const (Value.int IntKind.u8 128)) 5), 5, none⟩, ⟨some 51, (Op.convert 5 47 (Operand.tmp 50)), 47, none⟩, ⟨some 52, (Op.binOp BinOp.add 47 (Operand.tmp 48) (Operand.tmp 51) 47), 47, none⟩, ⟨some 4, (Op.assign (Operand.tmp 52)), 47, none⟩] (Q .normal ds) σ w := mk_eq rfl
@[push_cast] theorem vr79_9 (Q : Post) (ds : List Deferred) (σ : Env) (w : World) : vc Try.prog (.region r79_9) Q ds σ w = vcOps Try.prog [⟨some 53, (Op.move (Operand.tmp 6)), 5, none⟩, ⟨some 54, (Op.binOp BinOp.lss 5 (Operand.tmp 53) (Operand.const (Value.int IntKind.u8 128)) 5), 4, none⟩] (Q .normal ds) σ w := mk_eq rfl
@[push_cast] theorem vr79_10 (Q : Post) (ds : List Deferred) (σ : Env) (w : World) : vc Try.prog (.region r79_10) Q ds σ w = vcOps Try.prog [⟨some 55, (Op.move (Operand.tmp 4)), 47, none⟩, ⟨some 56, (Op.move (Operand.tmp 5)), 3, none⟩, ⟨some 57, (Op.binOp BinOp.add 3 (Operand.tmp 56) (Operand.const (Value.int IntKind.i64 1)) 3), 3, none⟩, ⟨some 2, (Op.assign (Operand.tmp 55)), 47, none⟩, ⟨some 3, (Op.assign (Operand.tmp 57)), 3, none⟩] (Q .normal ds) σ w := mk_eq rfl
@[push_cast] theorem vr79_4 (Q : Post) (ds : List Deferred) (σ : Env) (w : World) : vc Try.prog (.region r79_4) Q ds σ w = vcOps Try.prog [⟨some 23, (Op.move (Operand.tmp 5)), 3, none⟩, ⟨some 24, (Op.binOp BinOp.add 3 (Operand.tmp 23) (Operand.const (Value.int IntKind.i64 1)) 3), 3, none⟩, ⟨some 5, (Op.assign (Operand.tmp 24)), 3, none⟩] (Q .normal ds) σ w := mk_eq rfl
@[push_cast] theorem vr79_11 (Q : Post) (ds : List Deferred) (σ : Env) (w : World) : vc Try.prog (.region r79_11) Q ds σ w = vcOps Try.prog [⟨some 2, (Op.assign (Operand.const (Value.int IntKind.u64 0))), 47, none⟩, ⟨some 3, (Op.assign (Operand.const (Value.int IntKind.i64 0))), 3, none⟩] (Q .normal ds) σ w := mk_eq rfl
/-! 80 columbary/columbaryref01.Unfold (params #[47], results #[(ResultVar.tmp 2)], 14 slots) -/
def r80_0 : List VOp :=
  [⟨some 2, (Op.assign (Operand.const (Value.int IntKind.i64 0))), 3, none⟩]
def r80_1 : List VOp :=
  [⟨some 3, (Op.move (Operand.tmp 0)), 47, none⟩,
   ⟨some 4, (Op.binOp BinOp.rem 47 (Operand.tmp 3) (Operand.const (Value.int IntKind.u64 2)) 47), 47, none⟩,
   ⟨some 5, (Op.binOp BinOp.eql 47 (Operand.tmp 4) (Operand.const (Value.int IntKind.u64 0)) 47), 4, none⟩]
def r80_2 : List VOp :=
  [⟨some 6, (Op.move (Operand.tmp 0)), 47, none⟩,
   ⟨some 7, (Op.binOp BinOp.quo 47 (Operand.tmp 6) (Operand.const (Value.int IntKind.u64 2)) 47), 47, none⟩,
   ⟨some 8, (Op.convert 47 3 (Operand.tmp 7)), 3, none⟩,
   ⟨some 2, (Op.assign (Operand.tmp 8)), 3, none⟩]
def r80_3 : List VOp :=
  [⟨some 9, (Op.move (Operand.tmp 0)), 47, none⟩,
   ⟨some 10, (Op.binOp BinOp.quo 47 (Operand.tmp 9) (Operand.const (Value.int IntKind.u64 2)) 47), 47, none⟩,
   ⟨some 11, (Op.convert 47 3 (Operand.tmp 10)), 3, none⟩,
   ⟨some 12, (Op.unOp UnOp.neg 3 (Operand.tmp 11)), 3, none⟩,
   ⟨some 13, (Op.binOp BinOp.sub 3 (Operand.tmp 12) (Operand.const (Value.int IntKind.i64 1)) 3), 3, none⟩,
   ⟨some 2, (Op.assign (Operand.tmp 13)), 3, none⟩]
def B80 : VC :=
  (.seq (.region r80_0) (.seq (.seq (.region r80_1) (.cond (Operand.tmp 5) (.seq (.region r80_2) .ret) .skip)) (.seq (.region r80_3) .ret)))
theorem code80 : ∃ c, Try.f80.body = some c ∧ abs Try.f80.ntmps c = B80 := ⟨_, rfl, by kernel_rfl⟩
theorem hb80 : HasBody Try.prog 80 := hasBody_of Try.func80 (by kernel_rfl)
theorem res80 : Try.f80.results = #[(ResultVar.tmp 2)] := rfl
theorem enter80 {w : World} {R : Value → World → Prop} (x0 : Value) (h : vc Try.prog B80 (retK Try.prog #[(ResultVar.tmp 2)] R) [] (initEnv [x0] 0) w) : FnC Try.prog 80 #[x0] w R := by
  obtain ⟨c, h1, h2⟩ := code80
  exact hb80.fn (ret_of_vc mixed Try.func80 h1 (Nat.le_of_ble_eq_true rfl) B80 h2 h)
@[push_cast] theorem vr80_0 (Q : Post) (ds : List Deferred) (σ : Env) (w : World) : vc Try.prog (.region r80_0) Q ds σ w = vcOps Try.prog [⟨some 2, (Op.assign (Operand.const (Value.int IntKind.i64 0))), 3, none⟩] (Q .normal ds) σ w := mk_eq rfl
@[push_cast] theorem vr80_1 (Q : Post) (ds : List Deferred) (σ : Env) (w : World) : vc Try.prog (.region r80_1) Q ds σ w = vcOps Try.prog [⟨some 3, (Op.move (Operand.tmp 0)), 47, none⟩, ⟨some 4, (Op.binOp BinOp.rem 47 (Operand.tmp 3) (Operand.const (Value.int IntKind.u64 2)) 47), 47, none⟩, ⟨some 5, (Op.binOp BinOp.eql 47 (Operand.tmp 4) (Operand.const (Value.int IntKind.u64 0)) 47), 4, none⟩] (Q .normal ds) σ w := mk_eq rfl
@[push_cast] theorem vr80_2 (Q : Post) (ds : List Deferred) (σ : Env) (w : World) : vc Try.prog (.region r80_2) Q ds σ w = vcOps Try.prog [⟨some 6, (Op.move (Operand.tmp 0)), 47, none⟩, ⟨some 7, (Op.binOp BinOp.quo 47 (Operand.tmp 6) (Operand.const (Value.int IntKind.u64 2)) 47), 47, none⟩, ⟨some 8, (Op.convert 47 3 (Operand.tmp 7)), 3, none⟩, ⟨some 2, (Op.assign (Operand.tmp 8)), 3, none⟩] (Q .normal ds) σ w := mk_eq rfl
@[push_cast] theorem vr80_3 (Q : Post) (ds : List Deferred) (σ : Env) (w : World) : vc Try.prog (.region r80_3) Q ds σ w = vcOps Try.prog [⟨some 9, (Op.move (Operand.tmp 0)), 47, none⟩, ⟨some 10, (Op.binOp BinOp.quo 47 (Operand.tmp 9) (Operand.const (Value.int IntKind.u64 2)) 47), 47, none⟩, ⟨some 11, (Op.convert 47 3 (Operand.tmp 10)), 3, none⟩, ⟨some 12, (Op.unOp UnOp.neg 3 (Operand.tmp 11)), 3, none⟩, ⟨some 13, (Op.binOp BinOp.sub 3 (Operand.tmp 12) (Operand.const (Value.int IntKind.i64 1)) 3), 3, none⟩, ⟨some 2, (Op.assign (Operand.tmp 13)), 3, none⟩] (Q .normal ds) σ w := mk_eq rfl
@[push_cast] theorem bsl36_0_CodesZ {K : Value → World → Prop} {w : World}  : vBuildSlice Try.prog 36 0 #[] K w = K (.slice (some ⟨w.heap.size, 0, none⟩) 0 0) (w.alloc (.cells #[] 5)) :=
  vBuildSlice_ok Try.underlying36 ti5 (by kernel_rfl) (by decide)
@[push_cast] theorem bsl36_1_CodesZ {K : Value → World → Prop} {w : World} (x0 : Int) : vBuildSlice Try.prog 36 1 #[(0, (.int .u8 x0))] K w = K (.slice (some ⟨w.heap.size, 0, none⟩) 1 1) (w.alloc (.cells #[(.int .u8 x0)] 5)) :=
  vBuildSlice_ok Try.underlying36 ti5 (by kernel_rfl) (by decide)
@[push_cast] theorem bld83_0_CodesZ {K : Value → World → Prop} {w : World} (x0o : Option Addr) (x0n x0c : Nat) : vBuild Try.prog 83 #[(0, (.slice x0o x0n x0c))] K w = K (.agg #[(.slice x0o x0n x0c)]) w :=
  vBuild_ok (by kernel_rfl)
end Go.Proofs.Ytdfdohajjgjbdaa
