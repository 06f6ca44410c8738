/- The functions' code in the generator's form. Written by a program (codes.py) out of Lean's own print of the loaded translation. -/
import Derived.Test.YtdfdohajjgjbdaaTypes
namespace Go.Proofs.Ytdfdohajjgjbdaa
open Go.Vc
/-! 42 columbary/nibble.Width (params #[45], results #[(ResultVar.tmp 2)], 18 slots) -/
def W42_0 : List Nat := [3, 5, 8, 9, 10, 11, 12, 13, 14, 15]
@[push_cast] theorem W42_0_def : W42_0 = [3, 5, 8, 9, 10, 11, 12, 13, 14, 15] := mk_eq rfl
def r42_0 : List VOp :=
  [⟨some 2, (Op.assign (Operand.const (Value.int IntKind.i64 0))), 3, none⟩]
def r42_1 : List VOp :=
  [⟨some 3, (Op.assign (Operand.const (Value.int IntKind.u64 0))), 47, none⟩]
def r42_2 : List VOp :=
  [⟨some 6, (Op.move (Operand.tmp 0)), 45, none⟩,
   ⟨some 7, (Op.call { callee := (Callee.builtin Builtin.len), args := #[(Operand.tmp 6)], argTypes := #[45] }), 3, none⟩,
   ⟨some 8, (Op.move (Operand.const (Value.int IntKind.i64 0))), 3, none⟩]
def r42_3 : List VOp :=
  [⟨some 9, (Op.binOp BinOp.lss 3 (Operand.tmp 8) (Operand.tmp 7) 3), 0, none⟩]
def r42_4 : List VOp :=
  [⟨some 10, (Op.indexAddr 45 (Operand.tmp 6) (Operand.tmp 8)), 0, none⟩,
   ⟨some 11, (Op.load 47 (Operand.tmp 10)), 47, none⟩,
   ⟨some 5, (Op.assign (Operand.tmp 11)), 47, none⟩]
def r42_5 : List VOp :=
  [⟨some 12, (Op.move (Operand.tmp 3)), 47, none⟩,
   ⟨some 13, (Op.move (Operand.tmp 5)), 47, none⟩,
   ⟨some 14, (Op.binOp BinOp.or 47 (Operand.tmp 12) (Operand.tmp 13) 47), 47, none⟩,
   ⟨some 3, (Op.assign (Operand.tmp 14)), 47, none⟩]
def r42_6 : List VOp :=
  [⟨some 15, (Op.binOp BinOp.add 3 (Operand.tmp 8) (Operand.const (Value.int IntKind.i64 1)) 3), 3, none⟩,
   ⟨some 8, (Op.move (Operand.tmp 15)), 3, none⟩]
def r42_7 : List VOp :=
  [⟨some 16, (Op.move (Operand.tmp 3)), 47, none⟩,
   ⟨some 17, (Op.call { callee := (Callee.value (Operand.func 66)), args := #[(Operand.tmp 16)], argTypes := #[47] }), 3, none⟩,
   ⟨some 2, (Op.assign (Operand.tmp 17)), 3, none⟩]
def B42 : VC :=
  (.seq (.region r42_0) (.seq (.region r42_1) (.seq (.seq (.region r42_2) (.block 0 (.loop (.seq (.region r42_3) (.seq (.cond (Operand.tmp 9) .skip (.exit 0)) (.seq (.block 1 (.seq (.region r42_4) (.region r42_5))) (.region r42_6))))))) (.seq (.region r42_7) .ret))))
theorem code42 : ∃ c, Try.f42.body = some c ∧ abs Try.f42.ntmps c = B42 := ⟨_, rfl, by kernel_rfl⟩
theorem hb42 : HasBody Try.prog 42 := hasBody_of Try.func42 (by kernel_rfl)
theorem res42 : Try.f42.results = #[(ResultVar.tmp 2)] := rfl
theorem enter42 {w : World} {R : Value → World → Prop} (x0 : Value) (h : vc Try.prog B42 (retK Try.prog #[(ResultVar.tmp 2)] R) [] (initEnv [x0] 0) w) : FnC Try.prog 42 #[x0] w R := by
  obtain ⟨c, h1, h2⟩ := code42
  exact hb42.fn (ret_of_vc mixed Try.func42 h1 (Nat.le_of_ble_eq_true rfl) B42 h2 h)
@[push_cast] theorem vr42_0 (Q : Post) (ds : List Deferred) (σ : Env) (w : World) : vc Try.prog (.region r42_0) Q ds σ w = vcOps Try.prog [⟨some 2, (Op.assign (Operand.const (Value.int IntKind.i64 0))), 3, none⟩] (Q .normal ds) σ w := mk_eq rfl
@[push_cast] theorem vr42_1 (Q : Post) (ds : List Deferred) (σ : Env) (w : World) : vc Try.prog (.region r42_1) Q ds σ w = vcOps Try.prog [⟨some 3, (Op.assign (Operand.const (Value.int IntKind.u64 0))), 47, none⟩] (Q .normal ds) σ w := mk_eq rfl
@[push_cast] theorem vr42_2 (Q : Post) (ds : List Deferred) (σ : Env) (w : World) : vc Try.prog (.region r42_2) Q ds σ w = vcOps Try.prog [⟨some 6, (Op.move (Operand.tmp 0)), 45, none⟩, ⟨some 7, (Op.call { callee := (Callee.builtin Builtin.len), args := #[(Operand.tmp 6)], argTypes := #[45] }), 3, none⟩, ⟨some 8, (Op.move (Operand.const (Value.int IntKind.i64 0))), 3, none⟩] (Q .normal ds) σ w := mk_eq rfl
@[push_cast] theorem vr42_3 (Q : Post) (ds : List Deferred) (σ : Env) (w : World) : vc Try.prog (.region r42_3) Q ds σ w = vcOps Try.prog [⟨some 9, (Op.binOp BinOp.lss 3 (Operand.tmp 8) (Operand.tmp 7) 3), 0, none⟩] (Q .normal ds) σ w := mk_eq rfl
@[push_cast] theorem vr42_4 (Q : Post) (ds : List Deferred) (σ : Env) (w : World) : vc Try.prog (.region r42_4) Q ds σ w = vcOps Try.prog [⟨some 10, (Op.indexAddr 45 (Operand.tmp 6) (Operand.tmp 8)), 0, none⟩, ⟨some 11, (Op.load 47 (Operand.tmp 10)), 47, none⟩, ⟨some 5, (Op.assign (Operand.tmp 11)), 47, none⟩] (Q .normal ds) σ w := mk_eq rfl
@[push_cast] theorem vr42_5 (Q : Post) (ds : List Deferred) (σ : Env) (w : World) : vc Try.prog (.region r42_5) Q ds σ w = vcOps Try.prog [⟨some 12, (Op.move (Operand.tmp 3)), 47, none⟩, ⟨some 13, (Op.move (Operand.tmp 5)), 47, none⟩, ⟨some 14, (Op.binOp BinOp.or 47 (Operand.tmp 12) (Operand.tmp 13) 47), 47, none⟩, ⟨some 3, (Op.assign (Operand.tmp 14)), 47, none⟩] (Q .normal ds) σ w := mk_eq rfl
@[push_cast] theorem vr42_6 (Q : Post) (ds : List Deferred) (σ : Env) (w : World) : vc Try.prog (.region r42_6) Q ds σ w = vcOps Try.prog [⟨some 15, (Op.binOp BinOp.add 3 (Operand.tmp 8) (Operand.const (Value.int IntKind.i64 1)) 3), 3, none⟩, ⟨some 8, (Op.move (Operand.tmp 15)), 3, none⟩] (Q .normal ds) σ w := mk_eq rfl
@[push_cast] theorem vr42_7 (Q : Post) (ds : List Deferred) (σ : Env) (w : World) : vc Try.prog (.region r42_7) Q ds σ w = vcOps Try.prog [⟨some 16, (Op.move (Operand.tmp 3)), 47, none⟩, ⟨some 17, (Op.call { callee := (Callee.value (Operand.func 66)), args := #[(Operand.tmp 16)], argTypes := #[47] }), 3, none⟩, ⟨some 2, (Op.assign (Operand.tmp 17)), 3, none⟩] (Q .normal ds) σ w := mk_eq rfl
/-! 43 columbary/nibble.Pack (params #[45, 3], results #[(ResultVar.tmp 4), (ResultVar.tmp 5)], 52 slots) -/
def W43_0 : List Nat := [12, 13, 35, 36, 37, 38, 39, 40, 41, 42, 43, 44, 45, 46, 47, 48, 49, 50]
@[push_cast] theorem W43_0_def : W43_0 = [12, 13, 35, 36, 37, 38, 39, 40, 41, 42, 43, 44, 45, 46, 47, 48, 49, 50] := mk_eq rfl
def W43_1 : List Nat := [13, 40, 41, 42, 43, 44, 45, 46, 47, 48, 49]
@[push_cast] theorem W43_1_def : W43_1 = [13, 40, 41, 42, 43, 44, 45, 46, 47, 48, 49] := mk_eq rfl
def r43_0 : List VOp :=
  [⟨some 4, (Op.assign (Operand.const (Value.slice none 0 0))), 36, none⟩,
   ⟨some 5, (Op.assign (Operand.const (Value.int IntKind.i64 0))), 23, none⟩]
def r43_1 : List VOp :=
  [⟨some 15, (Op.move (Operand.tmp 0)), 45, none⟩,
   ⟨some 16, (Op.call { callee := (Callee.builtin Builtin.len), args := #[(Operand.tmp 15)], argTypes := #[45] }), 3, none⟩,
   ⟨some 17, (Op.move (Operand.tmp 1)), 3, none⟩,
   ⟨some 18, (Op.call { callee := (Callee.value (Operand.func 67)), args := #[(Operand.tmp 16), (Operand.tmp 17)], argTypes := #[3, 3] }), 30, none⟩,
   ⟨some 14, (Op.move (Operand.tmp 18)), 30, none⟩,
   ⟨some 19, (Op.extract (Operand.tmp 14) 0), 3, none⟩,
   ⟨some 20, (Op.extract (Operand.tmp 14) 1), 23, none⟩,
   ⟨some 6, (Op.assign (Operand.tmp 19)), 3, none⟩,
   ⟨some 7, (Op.assign (Operand.tmp 20)), 23, none⟩]
def r43_2 : List VOp :=
  [⟨some 22, (Op.move (Operand.tmp 7)), 23, none⟩,
   ⟨some 23, (Op.binOp BinOp.neq 23 (Operand.tmp 22) (Operand.const (Value.int IntKind.i64 0)) 23), 4, none⟩,
   ⟨some 21, (Op.assign (Operand.tmp 23)), 4, none⟩]
def r43_3 : List VOp :=
  [⟨some 24, (Op.move (Operand.tmp 7)), 23, none⟩,
   ⟨some 4, (Op.assign (Operand.const (Value.slice none 0 0))), 36, none⟩,
   ⟨some 5, (Op.assign (Operand.tmp 24)), 23, none⟩]
def r43_4 : List VOp :=
  [⟨some 26, (Op.move (Operand.tmp 0)), 45, none⟩,
   ⟨some 27, (Op.call { callee := (Callee.value (Operand.func 42)), args := #[(Operand.tmp 26)], argTypes := #[45] }), 3, none⟩,
   ⟨some 28, (Op.move (Operand.tmp 1)), 3, none⟩,
   ⟨some 29, (Op.binOp BinOp.gtr 3 (Operand.tmp 27) (Operand.tmp 28) 3), 4, none⟩,
   ⟨some 25, (Op.assign (Operand.tmp 29)), 4, none⟩]
def r43_5 : List VOp :=
  [⟨some 4, (Op.assign (Operand.const (Value.slice none 0 0))), 36, none⟩,
   ⟨some 5, (Op.assign (Operand.const (Value.int IntKind.i64 71))), 23, none⟩]
def r43_6 : List VOp :=
  [⟨some 30, (Op.move (Operand.tmp 6)), 3, none⟩,
   ⟨some 31, (Op.makeSlice 36 (Operand.tmp 30) (Operand.tmp 30)), 36, none⟩,
   ⟨some 8, (Op.alloc 36), 0, none⟩,
   ⟨none, (Op.store 36 (Operand.tmp 8) (Operand.tmp 31)), 0, none⟩]
def r43_7 : List VOp :=
  [⟨some 9, (Op.alloc 3), 0, none⟩,
   ⟨none, (Op.store 3 (Operand.tmp 9) (Operand.const (Value.int IntKind.i64 0))), 0, none⟩]
def r43_8 : List VOp :=
  [⟨some 32, (Op.makeFunc (Fn.func 68) #[] #[(Operand.tmp 8), (Operand.tmp 9)]), 79, none⟩,
   ⟨some 10, (Op.assign (Operand.tmp 32)), 79, none⟩]
def r43_9 : List VOp :=
  [⟨some 33, (Op.move (Operand.tmp 0)), 45, none⟩,
   ⟨some 34, (Op.call { callee := (Callee.builtin Builtin.len), args := #[(Operand.tmp 33)], argTypes := #[45] }), 3, none⟩,
   ⟨some 35, (Op.move (Operand.const (Value.int IntKind.i64 0))), 3, none⟩]
def r43_10 : List VOp :=
  [⟨some 36, (Op.binOp BinOp.lss 3 (Operand.tmp 35) (Operand.tmp 34) 3), 0, none⟩]
def r43_11 : List VOp :=
  [⟨some 37, (Op.indexAddr 45 (Operand.tmp 33) (Operand.tmp 35)), 0, none⟩,
   ⟨some 38, (Op.load 47 (Operand.tmp 37)), 47, none⟩,
   ⟨some 12, (Op.assign (Operand.tmp 38)), 47, none⟩]
def r43_12 : List VOp :=
  [⟨some 39, (Op.move (Operand.tmp 1)), 3, none⟩,
   ⟨some 40, (Op.move (Operand.const (Value.int IntKind.i64 0))), 3, none⟩]
def r43_13 : List VOp :=
  [⟨some 41, (Op.binOp BinOp.lss 3 (Operand.tmp 40) (Operand.tmp 39) 3), 4, none⟩]
def r43_14 : List VOp :=
  [⟨some 42, (Op.move (Operand.tmp 40)), 3, none⟩,
   ⟨some 13, (Op.assign (Operand.tmp 42)), 3, none⟩]
def r43_15 : List VOp :=
  [⟨some 43, (Op.move (Operand.tmp 10)), 79, none⟩,
   ⟨some 44, (Op.move (Operand.tmp 12)), 47, none⟩,
   ⟨some 45, (Op.move (Operand.tmp 13)), 3, none⟩,
   ⟨some 46, (Op.binOp BinOp.shr 47 (Operand.tmp 44) (Operand.tmp 45) 3), 47, none⟩,
   ⟨some 47, (Op.binOp BinOp.and 47 (Operand.tmp 46) (Operand.const (Value.int IntKind.u64 1)) 47), 47, none⟩,
   ⟨some 48, (Op.call { callee := (Callee.value (Operand.tmp 43)), args := #[(Operand.tmp 47)], argTypes := #[47] }), 0, none⟩]
def r43_16 : List VOp :=
  [⟨some 49, (Op.binOp BinOp.add 3 (Operand.tmp 40) (Operand.const (Value.int IntKind.i64 1)) 3), 3, none⟩,
   ⟨some 40, (Op.move (Operand.tmp 49)), 3, none⟩]
def r43_17 : List VOp :=
  [⟨some 50, (Op.binOp BinOp.add 3 (Operand.tmp 35) (Operand.const (Value.int IntKind.i64 1)) 3), 3, none⟩,
   ⟨some 35, (Op.move (Operand.tmp 50)), 3, none⟩]
def r43_18 : List VOp :=
  [⟨some 51, (Op.load 36 (Operand.tmp 8)), 36, none⟩,
   ⟨some 4, (Op.assign (Operand.tmp 51)), 36, none⟩,
   ⟨some 5, (Op.assign (Operand.const (Value.int IntKind.i64 0))), 23, none⟩]
def B43 : VC :=
  (.seq (.region r43_0) (.seq (.region r43_1) (.seq (.block 0 (.seq (.region r43_2) (.cond (Operand.tmp 21) (.seq (.region r43_3) .ret) (.seq (.region r43_4) (.cond (Operand.tmp 25) (.seq (.region r43_5) .ret) .skip))))) (.seq (.region r43_6) (.seq (.region r43_7) (.seq (.region r43_8) (.seq (.seq (.region r43_9) (.block 1 (.loop (.seq (.region r43_10) (.seq (.cond (Operand.tmp 36) .skip (.exit 1)) (.seq (.block 2 (.seq (.region r43_11) (.seq (.region r43_12) (.block 3 (.loop (.seq (.region r43_13) (.seq (.cond (Operand.tmp 41) .skip (.exit 3)) (.seq (.block 4 (.seq (.region r43_14) (.region r43_15))) (.region r43_16))))))))) (.region r43_17))))))) (.seq (.region r43_18) .ret))))))))
theorem code43 : ∃ c, Try.f43.body = some c ∧ abs Try.f43.ntmps c = B43 := ⟨_, rfl, by kernel_rfl⟩
theorem hb43 : HasBody Try.prog 43 := hasBody_of Try.func43 (by kernel_rfl)
theorem res43 : Try.f43.results = #[(ResultVar.tmp 4), (ResultVar.tmp 5)] := rfl
theorem enter43 {w : World} {R : Value → World → Prop} (x0 x1 : Value) (h : vc Try.prog B43 (retK Try.prog #[(ResultVar.tmp 4), (ResultVar.tmp 5)] R) [] (initEnv [x0, x1] 0) w) : FnC Try.prog 43 #[x0, x1] w R := by
  obtain ⟨c, h1, h2⟩ := code43
  exact hb43.fn (ret_of_vc mixed Try.func43 h1 (Nat.le_of_ble_eq_true rfl) B43 h2 h)
@[push_cast] theorem vr43_0 (Q : Post) (ds : List Deferred) (σ : Env) (w : World) : vc Try.prog (.region r43_0) Q ds σ w = vcOps Try.prog [⟨some 4, (Op.assign (Operand.const (Value.slice none 0 0))), 36, none⟩, ⟨some 5, (Op.assign (Operand.const (Value.int IntKind.i64 0))), 23, none⟩] (Q .normal ds) σ w := mk_eq rfl
@[push_cast] theorem vr43_1 (Q : Post) (ds : List Deferred) (σ : Env) (w : World) : vc Try.prog (.region r43_1) Q ds σ w = vcOps Try.prog [⟨some 15, (Op.move (Operand.tmp 0)), 45, none⟩, ⟨some 16, (Op.call { callee := (Callee.builtin Builtin.len), args := #[(Operand.tmp 15)], argTypes := #[45] }), 3, none⟩, ⟨some 17, (Op.move (Operand.tmp 1)), 3, none⟩, ⟨some 18, (Op.call { callee := (Callee.value (Operand.func 67)), args := #[(Operand.tmp 16), (Operand.tmp 17)], argTypes := #[3, 3] }), 30, none⟩, ⟨some 14, (Op.move (Operand.tmp 18)), 30, none⟩, ⟨some 19, (Op.extract (Operand.tmp 14) 0), 3, none⟩, ⟨some 20, (Op.extract (Operand.tmp 14) 1), 23, none⟩, ⟨some 6, (Op.assign (Operand.tmp 19)), 3, none⟩, ⟨some 7, (Op.assign (Operand.tmp 20)), 23, none⟩] (Q .normal ds) σ w := mk_eq rfl
@[push_cast] theorem vr43_2 (Q : Post) (ds : List Deferred) (σ : Env) (w : World) : vc Try.prog (.region r43_2) Q ds σ w = vcOps Try.prog [⟨some 22, (Op.move (Operand.tmp 7)), 23, none⟩, ⟨some 23, (Op.binOp BinOp.neq 23 (Operand.tmp 22) (Operand.const (Value.int IntKind.i64 0)) 23), 4, none⟩, ⟨some 21, (Op.assign (Operand.tmp 23)), 4, none⟩] (Q .normal ds) σ w := mk_eq rfl
@[push_cast] theorem vr43_3 (Q : Post) (ds : List Deferred) (σ : Env) (w : World) : vc Try.prog (.region r43_3) Q ds σ w = vcOps Try.prog [⟨some 24, (Op.move (Operand.tmp 7)), 23, none⟩, ⟨some 4, (Op.assign (Operand.const (Value.slice none 0 0))), 36, none⟩, ⟨some 5, (Op.assign (Operand.tmp 24)), 23, none⟩] (Q .normal ds) σ w := mk_eq rfl
@[push_cast] theorem vr43_4 (Q : Post) (ds : List Deferred) (σ : Env) (w : World) : vc Try.prog (.region r43_4) Q ds σ w = vcOps Try.prog [⟨some 26, (Op.move (Operand.tmp 0)), 45, none⟩, ⟨some 27, (Op.call { callee := (Callee.value (Operand.func 42)), args := #[(Operand.tmp 26)], argTypes := #[45] }), 3, none⟩, ⟨some 28, (Op.move (Operand.tmp 1)), 3, none⟩, ⟨some 29, (Op.binOp BinOp.gtr 3 (Operand.tmp 27) (Operand.tmp 28) 3), 4, none⟩, ⟨some 25, (Op.assign (Operand.tmp 29)), 4, none⟩] (Q .normal ds) σ w := mk_eq rfl
@[push_cast] theorem vr43_5 (Q : Post) (ds : List Deferred) (σ : Env) (w : World) : vc Try.prog (.region r43_5) Q ds σ w = vcOps Try.prog [⟨some 4, (Op.assign (Operand.const (Value.slice none 0 0))), 36, none⟩, ⟨some 5, (Op.assign (Operand.const (Value.int IntKind.i64 71))), 23, none⟩] (Q .normal ds) σ w := mk_eq rfl
@[push_cast] theorem vr43_6 (Q : Post) (ds : List Deferred) (σ : Env) (w : World) : vc Try.prog (.region r43_6) Q ds σ w = vcOps Try.prog [⟨some 30, (Op.move (Operand.tmp 6)), 3, none⟩, ⟨some 31, (Op.makeSlice 36 (Operand.tmp 30) (Operand.tmp 30)), 36, none⟩, ⟨some 8, (Op.alloc 36), 0, none⟩, ⟨none, (Op.store 36 (Operand.tmp 8) (Operand.tmp 31)), 0, none⟩] (Q .normal ds) σ w := mk_eq rfl
@[push_cast] theorem vr43_7 (Q : Post) (ds : List Deferred) (σ : Env) (w : World) : vc Try.prog (.region r43_7) Q ds σ w = vcOps Try.prog [⟨some 9, (Op.alloc 3), 0, none⟩, ⟨none, (Op.store 3 (Operand.tmp 9) (Operand.const (Value.int IntKind.i64 0))), 0, none⟩] (Q .normal ds) σ w := mk_eq rfl
@[push_cast] theorem vr43_8 (Q : Post) (ds : List Deferred) (σ : Env) (w : World) : vc Try.prog (.region r43_8) Q ds σ w = vcOps Try.prog [⟨some 32, (Op.makeFunc (Fn.func 68) #[] #[(Operand.tmp 8), (Operand.tmp 9)]), 79, none⟩, ⟨some 10, (Op.assign (Operand.tmp 32)), 79, none⟩] (Q .normal ds) σ w := mk_eq rfl
@[push_cast] theorem vr43_9 (Q : Post) (ds : List Deferred) (σ : Env) (w : World) : vc Try.prog (.region r43_9) Q ds σ w = vcOps Try.prog [⟨some 33, (Op.move (Operand.tmp 0)), 45, none⟩, ⟨some 34, (Op.call { callee := (Callee.builtin Builtin.len), args := #[(Operand.tmp 33)], argTypes := #[45] }), 3, none⟩, ⟨some 35, (Op.move (Operand.const (Value.int IntKind.i64 0))), 3, none⟩] (Q .normal ds) σ w := mk_eq rfl
@[push_cast] theorem vr43_10 (Q : Post) (ds : List Deferred) (σ : Env) (w : World) : vc Try.prog (.region r43_10) Q ds σ w = vcOps Try.prog [⟨some 36, (Op.binOp BinOp.lss 3 (Operand.tmp 35) (Operand.tmp 34) 3), 0, none⟩] (Q .normal ds) σ w := mk_eq rfl
@[push_cast] theorem vr43_11 (Q : Post) (ds : List Deferred) (σ : Env) (w : World) : vc Try.prog (.region r43_11) Q ds σ w = vcOps Try.prog [⟨some 37, (Op.indexAddr 45 (Operand.tmp 33) (Operand.tmp 35)), 0, none⟩, ⟨some 38, (Op.load 47 (Operand.tmp 37)), 47, none⟩, ⟨some 12, (Op.assign (Operand.tmp 38)), 47, none⟩] (Q .normal ds) σ w := mk_eq rfl
@[push_cast] theorem vr43_12 (Q : Post) (ds : List Deferred) (σ : Env) (w : World) : vc Try.prog (.region r43_12) Q ds σ w = vcOps Try.prog [⟨some 39, (Op.move (Operand.tmp 1)), 3, none⟩, ⟨some 40, (Op.move (Operand.const (Value.int IntKind.i64 0))), 3, none⟩] (Q .normal ds) σ w := mk_eq rfl
@[push_cast] theorem vr43_13 (Q : Post) (ds : List Deferred) (σ : Env) (w : World) : vc Try.prog (.region r43_13) Q ds σ w = vcOps Try.prog [⟨some 41, (Op.binOp BinOp.lss 3 (Operand.tmp 40) (Operand.tmp 39) 3), 4, none⟩] (Q .normal ds) σ w := mk_eq rfl
@[push_cast] theorem vr43_14 (Q : Post) (ds : List Deferred) (σ : Env) (w : World) : vc Try.prog (.region r43_14) Q ds σ w = vcOps Try.prog [⟨some 42, (Op.move (Operand.tmp 40)), 3, none⟩, ⟨some 13, (Op.assign (Operand.tmp 42)), 3, none⟩] (Q .normal ds) σ w := mk_eq rfl
@[push_cast] theorem vr43_15 (Q : Post) (ds : List Deferred) (σ : Env) (w : World) : vc Try.prog (.region r43_15) Q ds σ w = vcOps Try.prog [⟨some 43, (Op.move (Operand.tmp 10)), 79, none⟩, ⟨some 44, (Op.move (Operand.tmp 12)), 47, none⟩, ⟨some 45, (Op.move (Operand.tmp 13)), 3, none⟩, ⟨some 46, (Op.binOp BinOp.shr 47 (Operand.tmp 44) (Operand.tmp 45) 3), 47, none⟩, ⟨some 47, (Op.binOp BinOp.and 47 (Operand.tmp 46) (Operand.const (Value.int IntKind.u64 1)) 47), 47, none⟩, ⟨some 48, (Op.call { callee := (Callee.value (Operand.tmp 43)), args := #[(Operand.tmp 47)], argTypes := #[47] }), 0, none⟩] (Q .normal ds) σ w := mk_eq rfl
@[push_cast] theorem vr43_16 (Q : Post) (ds : List Deferred) (σ : Env) (w : World) : vc Try.prog (.region r43_16) Q ds σ w = vcOps Try.prog [⟨some 49, (Op.binOp BinOp.add 3 (Operand.tmp 40) (Operand.const (Value.int IntKind.i64 1)) 3), 3, none⟩, ⟨some 40, (Op.move (Operand.tmp 49)), 3, none⟩] (Q .normal ds) σ w := mk_eq rfl
@[push_cast] theorem vr43_17 (Q : Post) (ds : List Deferred) (σ : Env) (w : World) : vc Try.prog (.region r43_17) Q ds σ w = vcOps Try.prog [⟨some 50, (Op.binOp BinOp.add 3 (Operand.tmp 35) (Operand.const (Value.int IntKind.i64 1)) 3), 3, none⟩, ⟨some 35, (Op.move (Operand.tmp 50)), 3, none⟩] (Q .normal ds) σ w := mk_eq rfl
@[push_cast] theorem vr43_18 (Q : Post) (ds : List Deferred) (σ : Env) (w : World) : vc Try.prog (.region r43_18) Q ds σ w = vcOps Try.prog [⟨some 51, (Op.load 36 (Operand.tmp 8)), 36, none⟩, ⟨some 4, (Op.assign (Operand.tmp 51)), 36, none⟩, ⟨some 5, (Op.assign (Operand.const (Value.int IntKind.i64 0))), 23, none⟩] (Q .normal ds) σ w := mk_eq rfl
/-! 47 columbary/columbaryref07.Width (params #[45], results #[(ResultVar.tmp 2)], 27 slots) -/
def W47_0 : List Nat := [3, 4, 5, 6, 7, 8, 9, 10, 11, 12, 13, 14, 15, 16, 17, 18, 19, 20, 21, 22, 23, 24, 25]
@[push_cast] theorem W47_0_def : W47_0 = [3, 4, 5, 6, 7, 8, 9, 10, 11, 12, 13, 14, 15, 16, 17, 18, 19, 20, 21, 22, 23, 24, 25] := mk_eq rfl
def W47_1 : List Nat := [5, 6, 17, 18, 19, 20, 21, 22]
@[push_cast] theorem W47_1_def : W47_1 = [5, 6, 17, 18, 19, 20, 21, 22] := mk_eq rfl
def r47_0 : List VOp :=
  [⟨some 2, (Op.assign (Operand.const (Value.int IntKind.i64 0))), 3, none⟩]
def r47_1 : List VOp :=
  [⟨some 3, (Op.assign (Operand.const (Value.int IntKind.i64 0))), 3, none⟩]
def r47_2 : List VOp :=
  [⟨some 4, (Op.assign (Operand.const (Value.int IntKind.i64 0))), 3, none⟩]
def r47_3 : List VOp :=
  [⟨some 7, (Op.move (Operand.tmp 4)), 3, none⟩,
   ⟨some 8, (Op.move (Operand.tmp 0)), 45, none⟩,
   ⟨some 9, (Op.call { callee := (Callee.builtin Builtin.len), args := #[(Operand.tmp 8)], argTypes := #[45] }), 3, none⟩,
   ⟨some 10, (Op.binOp BinOp.lss 3 (Operand.tmp 7) (Operand.tmp 9) 3), 4, none⟩]
def r47_5 : List VOp :=
  [⟨some 5, (Op.assign (Operand.const (Value.int IntKind.i64 0))), 3, none⟩]
def r47_6 : List VOp :=
  [⟨some 13, (Op.move (Operand.tmp 0)), 45, none⟩,
   ⟨some 14, (Op.move (Operand.tmp 4)), 3, none⟩,
   ⟨some 15, (Op.indexAddr 45 (Operand.tmp 13) (Operand.tmp 14)), 0, none⟩,
   ⟨some 16, (Op.load 47 (Operand.tmp 15)), 47, none⟩,
   ⟨some 6, (Op.assign (Operand.tmp 16)), 47, none⟩]
def r47_7 : List VOp :=
  [⟨some 17, (Op.move (Operand.tmp 6)), 47, none⟩,
   ⟨some 18, (Op.binOp BinOp.gtr 47 (Operand.tmp 17) (Operand.const (Value.int IntKind.u64 0)) 47), 4, none⟩]
def r47_9 : List VOp :=
  [⟨some 21, (Op.move (Operand.tmp 5)), 3, none⟩,
   ⟨some 22, (Op.binOp BinOp.add 3 (Operand.tmp 21) (Operand.const (Value.int IntKind.i64 1)) 3), 3, none⟩,
   ⟨some 5, (Op.assign (Operand.tmp 22)), 3, none⟩]
def r47_8 : List VOp :=
  [⟨some 19, (Op.move (Operand.tmp 6)), 47, none⟩,
   ⟨some 20, (Op.binOp BinOp.quo 47 (Operand.tmp 19) (Operand.const (Value.int IntKind.u64 2)) 47), 47, none⟩,
   ⟨some 6, (Op.assign (Operand.tmp 20)), 47, none⟩]
def r47_10 : List VOp :=
  [⟨some 23, (Op.move (Operand.tmp 3)), 3, none⟩,
   ⟨some 24, (Op.move (Operand.tmp 5)), 3, none⟩,
   ⟨some 25, (Op.call { callee := (Callee.builtin Builtin.max), args := #[(Operand.tmp 23), (Operand.tmp 24)], argTypes := #[3, 3] }), 3, none⟩,
   ⟨some 3, (Op.assign (Operand.tmp 25)), 3, none⟩]
def r47_4 : List VOp :=
  [⟨some 11, (Op.move (Operand.tmp 4)), 3, none⟩,
   ⟨some 12, (Op.binOp BinOp.add 3 (Operand.tmp 11) (Operand.const (Value.int IntKind.i64 1)) 3), 3, none⟩,
   ⟨some 4, (Op.assign (Operand.tmp 12)), 3, none⟩]
def r47_11 : List VOp :=
  [⟨some 26, (Op.move (Operand.tmp 3)), 3, none⟩,
   ⟨some 2, (Op.assign (Operand.tmp 26)), 3, none⟩]
def B47 : VC :=
  (.seq (.region r47_0) (.seq (.region r47_1) (.seq (.seq (.region r47_2) (.block 0 (.loop (.seq (.seq (.region r47_3) (.cond (Operand.tmp 10) .skip (.exit 0))) (.seq (.block 1 (.seq (.region r47_5) (.seq (.seq (.region r47_6) (.block 2 (.loop (.seq (.seq (.region r47_7) (.cond (Operand.tmp 18) .skip (.exit 2))) (.seq (.block 3 (.region r47_9)) (.region r47_8)))))) (.region r47_10)))) (.region r47_4)))))) (.seq (.region r47_11) .ret))))
theorem code47 : ∃ c, Try.f47.body = some c ∧ abs Try.f47.ntmps c = B47 := ⟨_, rfl, by kernel_rfl⟩
theorem hb47 : HasBody Try.prog 47 := hasBody_of Try.func47 (by kernel_rfl)
theorem res47 : Try.f47.results = #[(ResultVar.tmp 2)] := rfl
theorem enter47 {w : World} {R : Value → World → Prop} (x0 : Value) (h : vc Try.prog B47 (retK Try.prog #[(ResultVar.tmp 2)] R) [] (initEnv [x0] 0) w) : FnC Try.prog 47 #[x0] w R := by
  obtain ⟨c, h1, h2⟩ := code47
  exact hb47.fn (ret_of_vc mixed Try.func47 h1 (Nat.le_of_ble_eq_true rfl) B47 h2 h)
@[push_cast] theorem vr47_0 (Q : Post) (ds : List Deferred) (σ : Env) (w : World) : vc Try.prog (.region r47_0) Q ds σ w = vcOps Try.prog [⟨some 2, (Op.assign (Operand.const (Value.int IntKind.i64 0))), 3, none⟩] (Q .normal ds) σ w := mk_eq rfl
@[push_cast] theorem vr47_1 (Q : Post) (ds : List Deferred) (σ : Env) (w : World) : vc Try.prog (.region r47_1) Q ds σ w = vcOps Try.prog [⟨some 3, (Op.assign (Operand.const (Value.int IntKind.i64 0))), 3, none⟩] (Q .normal ds) σ w := mk_eq rfl
@[push_cast] theorem vr47_2 (Q : Post) (ds : List Deferred) (σ : Env) (w : World) : vc Try.prog (.region r47_2) Q ds σ w = vcOps Try.prog [⟨some 4, (Op.assign (Operand.const (Value.int IntKind.i64 0))), 3, none⟩] (Q .normal ds) σ w := mk_eq rfl
@[push_cast] theorem vr47_3 (Q : Post) (ds : List Deferred) (σ : Env) (w : World) : vc Try.prog (.region r47_3) Q ds σ w = vcOps Try.prog [⟨some 7, (Op.move (Operand.tmp 4)), 3, none⟩, ⟨some 8, (Op.move (Operand.tmp 0)), 45, none⟩, ⟨some 9, (Op.call { callee := (Callee.builtin Builtin.len), args := #[(Operand.tmp 8)], argTypes := #[45] }), 3, none⟩, ⟨some 10, (Op.binOp BinOp.lss 3 (Operand.tmp 7) (Operand.tmp 9) 3), 4, none⟩] (Q .normal ds) σ w := mk_eq rfl
@[push_cast] theorem vr47_5 (Q : Post) (ds : List Deferred) (σ : Env) (w : World) : vc Try.prog (.region r47_5) Q ds σ w = vcOps Try.prog [⟨some 5, (Op.assign (Operand.const (Value.int IntKind.i64 0))), 3, none⟩] (Q .normal ds) σ w := mk_eq rfl
@[push_cast] theorem vr47_6 (Q : Post) (ds : List Deferred) (σ : Env) (w : World) : vc Try.prog (.region r47_6) Q ds σ w = vcOps Try.prog [⟨some 13, (Op.move (Operand.tmp 0)), 45, none⟩, ⟨some 14, (Op.move (Operand.tmp 4)), 3, none⟩, ⟨some 15, (Op.indexAddr 45 (Operand.tmp 13) (Operand.tmp 14)), 0, none⟩, ⟨some 16, (Op.load 47 (Operand.tmp 15)), 47, none⟩, ⟨some 6, (Op.assign (Operand.tmp 16)), 47, none⟩] (Q .normal ds) σ w := mk_eq rfl
@[push_cast] theorem vr47_7 (Q : Post) (ds : List Deferred) (σ : Env) (w : World) : vc Try.prog (.region r47_7) Q ds σ w = vcOps Try.prog [⟨some 17, (Op.move (Operand.tmp 6)), 47, none⟩, ⟨some 18, (Op.binOp BinOp.gtr 47 (Operand.tmp 17) (Operand.const (Value.int IntKind.u64 0)) 47), 4, none⟩] (Q .normal ds) σ w := mk_eq rfl
@[push_cast] theorem vr47_9 (Q : Post) (ds : List Deferred) (σ : Env) (w : World) : vc Try.prog (.region r47_9) Q ds σ w = vcOps Try.prog [⟨some 21, (Op.move (Operand.tmp 5)), 3, none⟩, ⟨some 22, (Op.binOp BinOp.add 3 (Operand.tmp 21) (Operand.const (Value.int IntKind.i64 1)) 3), 3, none⟩, ⟨some 5, (Op.assign (Operand.tmp 22)), 3, none⟩] (Q .normal ds) σ w := mk_eq rfl
@[push_cast] theorem vr47_8 (Q : Post) (ds : List Deferred) (σ : Env) (w : World) : vc Try.prog (.region r47_8) Q ds σ w = vcOps Try.prog [⟨some 19, (Op.move (Operand.tmp 6)), 47, none⟩, ⟨some 20, (Op.binOp BinOp.quo 47 (Operand.tmp 19) (Operand.const (Value.int IntKind.u64 2)) 47), 47, none⟩, ⟨some 6, (Op.assign (Operand.tmp 20)), 47, none⟩] (Q .normal ds) σ w := mk_eq rfl
@[push_cast] theorem vr47_10 (Q : Post) (ds : List Deferred) (σ : Env) (w : World) : vc Try.prog (.region r47_10) Q ds σ w = vcOps Try.prog [⟨some 23, (Op.move (Operand.tmp 3)), 3, none⟩, ⟨some 24, (Op.move (Operand.tmp 5)), 3, none⟩, ⟨some 25, (Op.call { callee := (Callee.builtin Builtin.max), args := #[(Operand.tmp 23), (Operand.tmp 24)], argTypes := #[3, 3] }), 3, none⟩, ⟨some 3, (Op.assign (Operand.tmp 25)), 3, none⟩] (Q .normal ds) σ w := mk_eq rfl
@[push_cast] theorem vr47_4 (Q : Post) (ds : List Deferred) (σ : Env) (w : World) : vc Try.prog (.region r47_4) Q ds σ w = vcOps Try.prog [⟨some 11, (Op.move (Operand.tmp 4)), 3, none⟩, ⟨some 12, (Op.binOp BinOp.add 3 (Operand.tmp 11) (Operand.const (Value.int IntKind.i64 1)) 3), 3, none⟩, ⟨some 4, (Op.assign (Operand.tmp 12)), 3, none⟩] (Q .normal ds) σ w := mk_eq rfl
@[push_cast] theorem vr47_11 (Q : Post) (ds : List Deferred) (σ : Env) (w : World) : vc Try.prog (.region r47_11) Q ds σ w = vcOps Try.prog [⟨some 26, (Op.move (Operand.tmp 3)), 3, none⟩, ⟨some 2, (Op.assign (Operand.tmp 26)), 3, none⟩] (Q .normal ds) σ w := mk_eq rfl
/-! 48 columbary/columbaryref07.Pack (params #[45, 3], results #[(ResultVar.tmp 4), (ResultVar.tmp 5)], 71 slots) -/
def W48_0 : List Nat := [8, 9, 26, 27, 28, 29, 30, 31, 32, 33, 34, 35, 36, 37, 38, 39]
@[push_cast] theorem W48_0_def : W48_0 = [8, 9, 26, 27, 28, 29, 30, 31, 32, 33, 34, 35, 36, 37, 38, 39] := mk_eq rfl
def W48_1 : List Nat := [10, 11, 40, 41, 42, 43, 44, 45, 46, 47, 48, 49, 50, 51, 52, 53, 54, 55, 56, 57, 58, 59, 60, 61, 62, 63, 64, 65, 66, 67, 68, 69]
@[push_cast] theorem W48_1_def : W48_1 = [10, 11, 40, 41, 42, 43, 44, 45, 46, 47, 48, 49, 50, 51, 52, 53, 54, 55, 56, 57, 58, 59, 60, 61, 62, 63, 64, 65, 66, 67, 68, 69] := mk_eq rfl
def r48_0 : List VOp :=
  [⟨some 4, (Op.assign (Operand.const (Value.slice none 0 0))), 36, none⟩,
   ⟨some 5, (Op.assign (Operand.const (Value.int IntKind.i64 0))), 23, none⟩]
def r48_1 : List VOp :=
  [⟨some 13, (Op.move (Operand.tmp 0)), 45, none⟩,
   ⟨some 14, (Op.call { callee := (Callee.builtin Builtin.len), args := #[(Operand.tmp 13)], argTypes := #[45] }), 3, none⟩,
   ⟨some 15, (Op.move (Operand.tmp 1)), 3, none⟩,
   ⟨some 16, (Op.call { callee := (Callee.value (Operand.func 58)), args := #[(Operand.tmp 14), (Operand.tmp 15)], argTypes := #[3, 3] }), 30, none⟩,
   ⟨some 12, (Op.move (Operand.tmp 16)), 30, none⟩,
   ⟨some 17, (Op.extract (Operand.tmp 12) 0), 3, none⟩,
   ⟨some 18, (Op.extract (Operand.tmp 12) 1), 23, none⟩,
   ⟨some 6, (Op.assign (Operand.tmp 17)), 3, none⟩,
   ⟨some 7, (Op.assign (Operand.tmp 18)), 23, none⟩]
def r48_2 : List VOp :=
  [⟨some 19, (Op.move (Operand.tmp 7)), 23, none⟩,
   ⟨some 20, (Op.binOp BinOp.neq 23 (Operand.tmp 19) (Operand.const (Value.int IntKind.i64 0)) 23), 4, none⟩]
def r48_3 : List VOp :=
  [⟨some 21, (Op.move (Operand.tmp 7)), 23, none⟩,
   ⟨some 4, (Op.assign (Operand.const (Value.slice none 0 0))), 36, none⟩,
   ⟨some 5, (Op.assign (Operand.tmp 21)), 23, none⟩]
def r48_4 : List VOp :=
  [⟨some 22, (Op.move (Operand.tmp 0)), 45, none⟩,
   ⟨some 23, (Op.call { callee := (Callee.value (Operand.func 47)), args := #[(Operand.tmp 22)], argTypes := #[45] }), 3, none⟩,
   ⟨some 24, (Op.move (Operand.tmp 1)), 3, none⟩,
   ⟨some 25, (Op.binOp BinOp.gtr 3 (Operand.tmp 23) (Operand.tmp 24) 3), 4, none⟩]
def r48_5 : List VOp :=
  [⟨some 4, (Op.assign (Operand.const (Value.slice none 0 0))), 36, none⟩,
   ⟨some 5, (Op.assign (Operand.const (Value.int IntKind.i64 71))), 23, none⟩]
def r48_6 : List VOp :=
  [⟨some 8, (Op.assign (Operand.const (Value.slice none 0 0))), 36, none⟩]
def r48_7 : List VOp :=
  [⟨some 9, (Op.assign (Operand.const (Value.int IntKind.i64 0))), 3, none⟩]
def r48_8 : List VOp :=
  [⟨some 26, (Op.move (Operand.tmp 9)), 3, none⟩,
   ⟨some 27, (Op.move (Operand.tmp 0)), 45, none⟩,
   ⟨some 28, (Op.call { callee := (Callee.builtin Builtin.len), args := #[(Operand.tmp 27)], argTypes := #[45] }), 3, none⟩,
   ⟨some 29, (Op.binOp BinOp.lss 3 (Operand.tmp 26) (Operand.tmp 28) 3), 4, none⟩]
def r48_10 : List VOp :=
  [⟨some 32, (Op.move (Operand.tmp 8)), 36, none⟩,
   ⟨some 33, (Op.move (Operand.tmp 0)), 45, none⟩,
   ⟨some 34, (Op.move (Operand.tmp 9)), 3, none⟩,
   ⟨some 35, (Op.indexAddr 45 (Operand.tmp 33) (Operand.tmp 34)), 0, none⟩,
   ⟨some 36, (Op.load 47 (Operand.tmp 35)), 47, none⟩,
   ⟨some 37, (Op.move (Operand.tmp 1)), 3, none⟩,
   ⟨some 38, (Op.call { callee := (Callee.value (Operand.func 70)), args := #[(Operand.tmp 36), (Operand.tmp 37)], argTypes := #[47, 3] }), 36, none⟩,
   ⟨some 39, (Op.call { callee := (Callee.builtin Builtin.append), args := #[(Operand.tmp 32), (Operand.tmp 38)], argTypes := #[36, 36] }), 36, none⟩,
   ⟨some 8, (Op.assign (Operand.tmp 39)), 36, none⟩]
def r48_9 : List VOp :=
  [⟨some 30, (Op.move (Operand.tmp 9)), 3, none⟩,
   ⟨some 31, (Op.binOp BinOp.add 3 (Operand.tmp 30) (Operand.const (Value.int IntKind.i64 1)) 3), 3, none⟩,
   ⟨some 9, (Op.assign (Operand.tmp 31)), 3, none⟩]
def r48_11 : List VOp :=
  [⟨some 10, (Op.assign (Operand.const (Value.slice none 0 0))), 36, none⟩]
def r48_12 : List VOp :=
  [⟨some 11, (Op.assign (Operand.const (Value.int IntKind.i64 0))), 3, none⟩]
def r48_13 : List VOp :=
  [⟨some 40, (Op.move (Operand.tmp 11)), 3, none⟩,
   ⟨some 41, (Op.move (Operand.tmp 8)), 36, none⟩,
   ⟨some 42, (Op.call { callee := (Callee.builtin Builtin.len), args := #[(Operand.tmp 41)], argTypes := #[36] }), 3, none⟩,
   ⟨some 43, (Op.binOp BinOp.lss 3 (Operand.tmp 40) (Operand.tmp 42) 3), 4, none⟩]
def r48_15 : List VOp :=
  [⟨some 46, (Op.move (Operand.tmp 11)), 3, none⟩,
   ⟨some 47, (Op.binOp BinOp.rem 3 (Operand.tmp 46) (Operand.const (Value.int IntKind.i64 8)) 3), 3, none⟩,
   ⟨some 48, (Op.binOp BinOp.eql 3 (Operand.tmp 47) (Operand.const (Value.int IntKind.i64 0)) 3), 4, none⟩]
def r48_16 : List VOp :=
  [⟨some 49, (Op.move (Operand.tmp 10)), 36, none⟩,
   ⟨some 50, (Op.buildSlice 36 1 #[(0, (Operand.const (Value.int IntKind.u8 0)))]), 36, none⟩,
   ⟨some 51, (Op.call { callee := (Callee.builtin Builtin.append), args := #[(Operand.tmp 49), (Operand.tmp 50)], argTypes := #[36, 36] }), 36, none⟩,
   ⟨some 10, (Op.assign (Operand.tmp 51)), 36, none⟩]
def r48_17 : List VOp :=
  [⟨some 52, (Op.move (Operand.tmp 10)), 36, none⟩,
   ⟨some 53, (Op.move (Operand.tmp 11)), 3, none⟩,
   ⟨some 54, (Op.binOp BinOp.quo 3 (Operand.tmp 53) (Operand.const (Value.int IntKind.i64 8)) 3), 3, none⟩,
   ⟨some 55, (Op.move (Operand.tmp 10)), 36, none⟩,
   ⟨some 56, (Op.move (Operand.tmp 11)), 3, none⟩,
   ⟨some 57, (Op.binOp BinOp.quo 3 (Operand.tmp 56) (Operand.const (Value.int IntKind.i64 8)) 3), 3, none⟩,
   ⟨some 58, (Op.indexAddr 36 (Operand.tmp 55) (Operand.tmp 57)), 0, none⟩,
   ⟨some 59, (Op.load 5 (Operand.tmp 58)), 5, none⟩,
   ⟨some 60, (Op.move (Operand.tmp 8)), 36, none⟩,
   ⟨some 61, (Op.move (Operand.tmp 11)), 3, none⟩,
   ⟨some 62, (Op.indexAddr 36 (Operand.tmp 60) (Operand.tmp 61)), 0, none⟩,
   ⟨some 63, (Op.load 5 (Operand.tmp 62)), 5, none⟩,
   ⟨some 64, (Op.move (Operand.tmp 11)), 3, none⟩,
   ⟨some 65, (Op.binOp BinOp.rem 3 (Operand.tmp 64) (Operand.const (Value.int IntKind.i64 8)) 3), 3, none⟩,
   ⟨some 66, (Op.convert 3 46 (Operand.tmp 65)), 46, none⟩,
   ⟨some 67, (Op.binOp BinOp.shl 5 (Operand.tmp 63) (Operand.tmp 66) 46), 5, none⟩,
   ⟨some 68, (Op.binOp BinOp.add 5 (Operand.tmp 59) (Operand.tmp 67) 5), 5, none⟩,
   ⟨some 69, (Op.indexAddr 36 (Operand.tmp 52) (Operand.tmp 54)), 0, none⟩,
   ⟨none, (Op.store 5 (Operand.tmp 69) (Operand.tmp 68)), 0, none⟩]
def r48_14 : List VOp :=
  [⟨some 44, (Op.move (Operand.tmp 11)), 3, none⟩,
   ⟨some 45, (Op.binOp BinOp.add 3 (Operand.tmp 44) (Operand.const (Value.int IntKind.i64 1)) 3), 3, none⟩,
   ⟨some 11, (Op.assign (Operand.tmp 45)), 3, none⟩]
def r48_18 : List VOp :=
  [⟨some 70, (Op.move (Operand.tmp 10)), 36, none⟩,
   ⟨some 4, (Op.assign (Operand.tmp 70)), 36, none⟩,
   ⟨some 5, (Op.assign (Operand.const (Value.int IntKind.i64 0))), 23, none⟩]
def B48 : VC :=
  (.seq (.region r48_0) (.seq (.region r48_1) (.seq (.seq (.region r48_2) (.cond (Operand.tmp 20) (.seq (.region r48_3) .ret) .skip)) (.seq (.seq (.region r48_4) (.cond (Operand.tmp 25) (.seq (.region r48_5) .ret) .skip)) (.seq (.region r48_6) (.seq (.seq (.region r48_7) (.block 0 (.loop (.seq (.seq (.region r48_8) (.cond (Operand.tmp 29) .skip (.exit 0))) (.seq (.block 1 (.region r48_10)) (.region r48_9)))))) (.seq (.region r48_11) (.seq (.seq (.region r48_12) (.block 2 (.loop (.seq (.seq (.region r48_13) (.cond (Operand.tmp 43) .skip (.exit 2))) (.seq (.block 3 (.seq (.seq (.region r48_15) (.cond (Operand.tmp 48) (.region r48_16) .skip)) (.draw r48_17 3))) (.region r48_14)))))) (.seq (.region r48_18) .ret)))))))))
theorem code48 : ∃ c, Try.f48.body = some c ∧ abs Try.f48.ntmps c = B48 := ⟨_, rfl, by kernel_rfl⟩
theorem hb48 : HasBody Try.prog 48 := hasBody_of Try.func48 (by kernel_rfl)
theorem res48 : Try.f48.results = #[(ResultVar.tmp 4), (ResultVar.tmp 5)] := rfl
theorem enter48 {w : World} {R : Value → World → Prop} (x0 x1 : Value) (h : vc Try.prog B48 (retK Try.prog #[(ResultVar.tmp 4), (ResultVar.tmp 5)] R) [] (initEnv [x0, x1] 0) w) : FnC Try.prog 48 #[x0, x1] w R := by
  obtain ⟨c, h1, h2⟩ := code48
  exact hb48.fn (ret_of_vc mixed Try.func48 h1 (Nat.le_of_ble_eq_true rfl) B48 h2 h)
@[push_cast] theorem vr48_0 (Q : Post) (ds : List Deferred) (σ : Env) (w : World) : vc Try.prog (.region r48_0) Q ds σ w = vcOps Try.prog [⟨some 4, (Op.assign (Operand.const (Value.slice none 0 0))), 36, none⟩, ⟨some 5, (Op.assign (Operand.const (Value.int IntKind.i64 0))), 23, none⟩] (Q .normal ds) σ w := mk_eq rfl
@[push_cast] theorem vr48_1 (Q : Post) (ds : List Deferred) (σ : Env) (w : World) : vc Try.prog (.region r48_1) Q ds σ w = vcOps Try.prog [⟨some 13, (Op.move (Operand.tmp 0)), 45, none⟩, ⟨some 14, (Op.call { callee := (Callee.builtin Builtin.len), args := #[(Operand.tmp 13)], argTypes := #[45] }), 3, none⟩, ⟨some 15, (Op.move (Operand.tmp 1)), 3, none⟩, ⟨some 16, (Op.call { callee := (Callee.value (Operand.func 58)), args := #[(Operand.tmp 14), (Operand.tmp 15)], argTypes := #[3, 3] }), 30, none⟩, ⟨some 12, (Op.move (Operand.tmp 16)), 30, none⟩, ⟨some 17, (Op.extract (Operand.tmp 12) 0), 3, none⟩, ⟨some 18, (Op.extract (Operand.tmp 12) 1), 23, none⟩, ⟨some 6, (Op.assign (Operand.tmp 17)), 3, none⟩, ⟨some 7, (Op.assign (Operand.tmp 18)), 23, none⟩] (Q .normal ds) σ w := mk_eq rfl
@[push_cast] theorem vr48_2 (Q : Post) (ds : List Deferred) (σ : Env) (w : World) : vc Try.prog (.region r48_2) Q ds σ w = vcOps Try.prog [⟨some 19, (Op.move (Operand.tmp 7)), 23, none⟩, ⟨some 20, (Op.binOp BinOp.neq 23 (Operand.tmp 19) (Operand.const (Value.int IntKind.i64 0)) 23), 4, none⟩] (Q .normal ds) σ w := mk_eq rfl
@[push_cast] theorem vr48_3 (Q : Post) (ds : List Deferred) (σ : Env) (w : World) : vc Try.prog (.region r48_3) Q ds σ w = vcOps Try.prog [⟨some 21, (Op.move (Operand.tmp 7)), 23, none⟩, ⟨some 4, (Op.assign (Operand.const (Value.slice none 0 0))), 36, none⟩, ⟨some 5, (Op.assign (Operand.tmp 21)), 23, none⟩] (Q .normal ds) σ w := mk_eq rfl
@[push_cast] theorem vr48_4 (Q : Post) (ds : List Deferred) (σ : Env) (w : World) : vc Try.prog (.region r48_4) Q ds σ w = vcOps Try.prog [⟨some 22, (Op.move (Operand.tmp 0)), 45, none⟩, ⟨some 23, (Op.call { callee := (Callee.value (Operand.func 47)), args := #[(Operand.tmp 22)], argTypes := #[45] }), 3, none⟩, ⟨some 24, (Op.move (Operand.tmp 1)), 3, none⟩, ⟨some 25, (Op.binOp BinOp.gtr 3 (Operand.tmp 23) (Operand.tmp 24) 3), 4, none⟩] (Q .normal ds) σ w := mk_eq rfl
@[push_cast] theorem vr48_5 (Q : Post) (ds : List Deferred) (σ : Env) (w : World) : vc Try.prog (.region r48_5) Q ds σ w = vcOps Try.prog [⟨some 4, (Op.assign (Operand.const (Value.slice none 0 0))), 36, none⟩, ⟨some 5, (Op.assign (Operand.const (Value.int IntKind.i64 71))), 23, none⟩] (Q .normal ds) σ w := mk_eq rfl
@[push_cast] theorem vr48_6 (Q : Post) (ds : List Deferred) (σ : Env) (w : World) : vc Try.prog (.region r48_6) Q ds σ w = vcOps Try.prog [⟨some 8, (Op.assign (Operand.const (Value.slice none 0 0))), 36, none⟩] (Q .normal ds) σ w := mk_eq rfl
@[push_cast] theorem vr48_7 (Q : Post) (ds : List Deferred) (σ : Env) (w : World) : vc Try.prog (.region r48_7) Q ds σ w = vcOps Try.prog [⟨some 9, (Op.assign (Operand.const (Value.int IntKind.i64 0))), 3, none⟩] (Q .normal ds) σ w := mk_eq rfl
@[push_cast] theorem vr48_8 (Q : Post) (ds : List Deferred) (σ : Env) (w : World) : vc Try.prog (.region r48_8) Q ds σ w = vcOps Try.prog [⟨some 26, (Op.move (Operand.tmp 9)), 3, none⟩, ⟨some 27, (Op.move (Operand.tmp 0)), 45, none⟩, ⟨some 28, (Op.call { callee := (Callee.builtin Builtin.len), args := #[(Operand.tmp 27)], argTypes := #[45] }), 3, none⟩, ⟨some 29, (Op.binOp BinOp.lss 3 (Operand.tmp 26) (Operand.tmp 28) 3), 4, none⟩] (Q .normal ds) σ w := mk_eq rfl
@[push_cast] theorem vr48_10 (Q : Post) (ds : List Deferred) (σ : Env) (w : World) : vc Try.prog (.region r48_10) Q ds σ w = vcOps Try.prog [⟨some 32, (Op.move (Operand.tmp 8)), 36, none⟩, ⟨some 33, (Op.move (Operand.tmp 0)), 45, none⟩, ⟨some 34, (Op.move (Operand.tmp 9)), 3, none⟩, ⟨some 35, (Op.indexAddr 45 (Operand.tmp 33) (Operand.tmp 34)), 0, none⟩, ⟨some 36, (Op.load 47 (Operand.tmp 35)), 47, none⟩, ⟨some 37, (Op.move (Operand.tmp 1)), 3, none⟩, ⟨some 38, (Op.call { callee := (Callee.value (Operand.func 70)), args := #[(Operand.tmp 36), (Operand.tmp 37)], argTypes := #[47, 3] }), 36, none⟩, ⟨some 39, (Op.call { callee := (Callee.builtin Builtin.append), args := #[(Operand.tmp 32), (Operand.tmp 38)], argTypes := #[36, 36] }), 36, none⟩, ⟨some 8, (Op.assign (Operand.tmp 39)), 36, none⟩] (Q .normal ds) σ w := mk_eq rfl
@[push_cast] theorem vr48_9 (Q : Post) (ds : List Deferred) (σ : Env) (w : World) : vc Try.prog (.region r48_9) Q ds σ w = vcOps Try.prog [⟨some 30, (Op.move (Operand.tmp 9)), 3, none⟩, ⟨some 31, (Op.binOp BinOp.add 3 (Operand.tmp 30) (Operand.const (Value.int IntKind.i64 1)) 3), 3, none⟩, ⟨some 9, (Op.assign (Operand.tmp 31)), 3, none⟩] (Q .normal ds) σ w := mk_eq rfl
@[push_cast] theorem vr48_11 (Q : Post) (ds : List Deferred) (σ : Env) (w : World) : vc Try.prog (.region r48_11) Q ds σ w = vcOps Try.prog [⟨some 10, (Op.assign (Operand.const (Value.slice none 0 0))), 36, none⟩] (Q .normal ds) σ w := mk_eq rfl
@[push_cast] theorem vr48_12 (Q : Post) (ds : List Deferred) (σ : Env) (w : World) : vc Try.prog (.region r48_12) Q ds σ w = vcOps Try.prog [⟨some 11, (Op.assign (Operand.const (Value.int IntKind.i64 0))), 3, none⟩] (Q .normal ds) σ w := mk_eq rfl
@[push_cast] theorem vr48_13 (Q : Post) (ds : List Deferred) (σ : Env) (w : World) : vc Try.prog (.region r48_13) Q ds σ w = vcOps Try.prog [⟨some 40, (Op.move (Operand.tmp 11)), 3, none⟩, ⟨some 41, (Op.move (Operand.tmp 8)), 36, none⟩, ⟨some 42, (Op.call { callee := (Callee.builtin Builtin.len), args := #[(Operand.tmp 41)], argTypes := #[36] }), 3, none⟩, ⟨some 43, (Op.binOp BinOp.lss 3 (Operand.tmp 40) (Operand.tmp 42) 3), 4, none⟩] (Q .normal ds) σ w := mk_eq rfl
@[push_cast] theorem vr48_15 (Q : Post) (ds : List Deferred) (σ : Env) (w : World) : vc Try.prog (.region r48_15) Q ds σ w = vcOps Try.prog [⟨some 46, (Op.move (Operand.tmp 11)), 3, none⟩, ⟨some 47, (Op.binOp BinOp.rem 3 (Operand.tmp 46) (Operand.const (Value.int IntKind.i64 8)) 3), 3, none⟩, ⟨some 48, (Op.binOp BinOp.eql 3 (Operand.tmp 47) (Operand.const (Value.int IntKind.i64 0)) 3), 4, none⟩] (Q .normal ds) σ w := mk_eq rfl
@[push_cast] theorem vr48_16 (Q : Post) (ds : List Deferred) (σ : Env) (w : World) : vc Try.prog (.region r48_16) Q ds σ w = vcOps Try.prog [⟨some 49, (Op.move (Operand.tmp 10)), 36, none⟩, ⟨some 50, (Op.buildSlice 36 1 #[(0, (Operand.const (Value.int IntKind.u8 0)))]), 36, none⟩, ⟨some 51, (Op.call { callee := (Callee.builtin Builtin.append), args := #[(Operand.tmp 49), (Operand.tmp 50)], argTypes := #[36, 36] }), 36, none⟩, ⟨some 10, (Op.assign (Operand.tmp 51)), 36, none⟩] (Q .normal ds) σ w := mk_eq rfl
@[push_cast] theorem vr48_17 (Q : Post) (ds : List Deferred) (σ : Env) (w : World) : vc Try.prog (.draw r48_17 3) Q ds σ w = drawn Try.prog [(⟨some 52, (Op.move (Operand.tmp 10)), 36, none⟩, [10]), (⟨some 53, (Op.move (Operand.tmp 11)), 3, none⟩, [11]), (⟨some 54, (Op.binOp BinOp.quo 3 (Operand.tmp 53) (Operand.const (Value.int IntKind.i64 8)) 3), 3, none⟩, [53]), (⟨some 55, (Op.move (Operand.tmp 10)), 36, none⟩, [10]), (⟨some 56, (Op.move (Operand.tmp 11)), 3, none⟩, [11]), (⟨some 57, (Op.binOp BinOp.quo 3 (Operand.tmp 56) (Operand.const (Value.int IntKind.i64 8)) 3), 3, none⟩, [56]), (⟨some 58, (Op.indexAddr 36 (Operand.tmp 55) (Operand.tmp 57)), 0, none⟩, [55, 57]), (⟨some 59, (Op.load 5 (Operand.tmp 58)), 5, none⟩, [58]), (⟨some 60, (Op.move (Operand.tmp 8)), 36, none⟩, [8]), (⟨some 61, (Op.move (Operand.tmp 11)), 3, none⟩, [11]), (⟨some 62, (Op.indexAddr 36 (Operand.tmp 60) (Operand.tmp 61)), 0, none⟩, [60, 61]), (⟨some 63, (Op.load 5 (Operand.tmp 62)), 5, none⟩, [62]), (⟨some 64, (Op.move (Operand.tmp 11)), 3, none⟩, [11]), (⟨some 65, (Op.binOp BinOp.rem 3 (Operand.tmp 64) (Operand.const (Value.int IntKind.i64 8)) 3), 3, none⟩, [64]), (⟨some 66, (Op.convert 3 46 (Operand.tmp 65)), 46, none⟩, [65]), (⟨some 67, (Op.binOp BinOp.shl 5 (Operand.tmp 63) (Operand.tmp 66) 46), 5, none⟩, [63, 66]), (⟨some 68, (Op.binOp BinOp.add 5 (Operand.tmp 59) (Operand.tmp 67) 5), 5, none⟩, [59, 67]), (⟨some 69, (Op.indexAddr 36 (Operand.tmp 52) (Operand.tmp 54)), 0, none⟩, [52, 54]), (⟨none, (Op.store 5 (Operand.tmp 69) (Operand.tmp 68)), 0, none⟩, [69, 68])] 3 (Q .normal ds) σ w := mk_eq rfl
@[push_cast] theorem vr48_14 (Q : Post) (ds : List Deferred) (σ : Env) (w : World) : vc Try.prog (.region r48_14) Q ds σ w = vcOps Try.prog [⟨some 44, (Op.move (Operand.tmp 11)), 3, none⟩, ⟨some 45, (Op.binOp BinOp.add 3 (Operand.tmp 44) (Operand.const (Value.int IntKind.i64 1)) 3), 3, none⟩, ⟨some 11, (Op.assign (Operand.tmp 45)), 3, none⟩] (Q .normal ds) σ w := mk_eq rfl
@[push_cast] theorem vr48_18 (Q : Post) (ds : List Deferred) (σ : Env) (w : World) : vc Try.prog (.region r48_18) Q ds σ w = vcOps Try.prog [⟨some 70, (Op.move (Operand.tmp 10)), 36, none⟩, ⟨some 4, (Op.assign (Operand.tmp 70)), 36, none⟩, ⟨some 5, (Op.assign (Operand.const (Value.int IntKind.i64 0))), 23, none⟩] (Q .normal ds) σ w := mk_eq rfl
/-! 55 columbary/nibble.Unpack (params #[36, 3, 3], results #[(ResultVar.tmp 6), (ResultVar.tmp 7)], 57 slots) -/
def W55_0 : List Nat := [11, 33, 34, 35, 36, 37, 38, 39, 40, 41, 42, 43, 44, 45]
@[push_cast] theorem W55_0_def : W55_0 = [11, 33, 34, 35, 36, 37, 38, 39, 40, 41, 42, 43, 44, 45] := mk_eq rfl
def r55_0 : List VOp :=
  [⟨some 6, (Op.assign (Operand.const (Value.slice none 0 0))), 45, none⟩,
   ⟨some 7, (Op.assign (Operand.const (Value.int IntKind.i64 0))), 23, none⟩]
def r55_1 : List VOp :=
  [⟨some 15, (Op.move (Operand.tmp 1)), 3, none⟩,
   ⟨some 16, (Op.move (Operand.tmp 2)), 3, none⟩,
   ⟨some 17, (Op.call { callee := (Callee.value (Operand.func 67)), args := #[(Operand.tmp 15), (Operand.tmp 16)], argTypes := #[3, 3] }), 30, none⟩,
   ⟨some 14, (Op.move (Operand.tmp 17)), 30, none⟩,
   ⟨some 18, (Op.extract (Operand.tmp 14) 0), 3, none⟩,
   ⟨some 19, (Op.extract (Operand.tmp 14) 1), 23, none⟩,
   ⟨some 8, (Op.assign (Operand.tmp 18)), 3, none⟩,
   ⟨some 9, (Op.assign (Operand.tmp 19)), 23, none⟩]
def r55_2 : List VOp :=
  [⟨some 21, (Op.move (Operand.tmp 9)), 23, none⟩,
   ⟨some 22, (Op.binOp BinOp.neq 23 (Operand.tmp 21) (Operand.const (Value.int IntKind.i64 0)) 23), 4, none⟩,
   ⟨some 20, (Op.assign (Operand.tmp 22)), 4, none⟩]
def r55_3 : List VOp :=
  [⟨some 23, (Op.move (Operand.tmp 9)), 23, none⟩,
   ⟨some 6, (Op.assign (Operand.const (Value.slice none 0 0))), 45, none⟩,
   ⟨some 7, (Op.assign (Operand.tmp 23)), 23, none⟩]
def r55_4 : List VOp :=
  [⟨some 25, (Op.move (Operand.tmp 0)), 36, none⟩,
   ⟨some 26, (Op.call { callee := (Callee.builtin Builtin.len), args := #[(Operand.tmp 25)], argTypes := #[36] }), 3, none⟩,
   ⟨some 27, (Op.move (Operand.tmp 8)), 3, none⟩,
   ⟨some 28, (Op.binOp BinOp.neq 3 (Operand.tmp 26) (Operand.tmp 27) 3), 4, none⟩,
   ⟨some 24, (Op.assign (Operand.tmp 28)), 4, none⟩]
def r55_5 : List VOp :=
  [⟨some 6, (Op.assign (Operand.const (Value.slice none 0 0))), 45, none⟩,
   ⟨some 7, (Op.assign (Operand.const (Value.int IntKind.i64 71))), 23, none⟩]
def r55_6 : List VOp :=
  [⟨some 29, (Op.move (Operand.tmp 1)), 3, none⟩,
   ⟨some 30, (Op.makeSlice 45 (Operand.tmp 29) (Operand.tmp 29)), 45, none⟩,
   ⟨some 10, (Op.assign (Operand.tmp 30)), 45, none⟩]
def r55_7 : List VOp :=
  [⟨some 31, (Op.move (Operand.tmp 10)), 45, none⟩,
   ⟨some 32, (Op.call { callee := (Callee.builtin Builtin.len), args := #[(Operand.tmp 31)], argTypes := #[45] }), 3, none⟩,
   ⟨some 33, (Op.move (Operand.const (Value.int IntKind.i64 0))), 3, none⟩]
def r55_8 : List VOp :=
  [⟨some 34, (Op.binOp BinOp.lss 3 (Operand.tmp 33) (Operand.tmp 32) 3), 0, none⟩]
def r55_9 : List VOp :=
  [⟨some 35, (Op.move (Operand.tmp 33)), 3, none⟩,
   ⟨some 11, (Op.assign (Operand.tmp 35)), 3, none⟩]
def r55_10 : List VOp :=
  [⟨some 36, (Op.move (Operand.tmp 10)), 45, none⟩,
   ⟨some 37, (Op.move (Operand.tmp 11)), 3, none⟩,
   ⟨some 38, (Op.move (Operand.tmp 0)), 36, none⟩,
   ⟨some 39, (Op.move (Operand.tmp 11)), 3, none⟩,
   ⟨some 40, (Op.move (Operand.tmp 2)), 3, none⟩,
   ⟨some 41, (Op.binOp BinOp.mul 3 (Operand.tmp 39) (Operand.tmp 40) 3), 3, none⟩,
   ⟨some 42, (Op.move (Operand.tmp 2)), 3, none⟩,
   ⟨some 43, (Op.call { callee := (Callee.value (Operand.func 74)), args := #[(Operand.tmp 38), (Operand.tmp 41), (Operand.tmp 42)], argTypes := #[36, 3, 3] }), 47, none⟩,
   ⟨some 44, (Op.indexAddr 45 (Operand.tmp 36) (Operand.tmp 37)), 0, none⟩,
   ⟨none, (Op.store 47 (Operand.tmp 44) (Operand.tmp 43)), 0, none⟩]
def r55_11 : List VOp :=
  [⟨some 45, (Op.binOp BinOp.add 3 (Operand.tmp 33) (Operand.const (Value.int IntKind.i64 1)) 3), 3, none⟩,
   ⟨some 33, (Op.move (Operand.tmp 45)), 3, none⟩]
def r55_12 : List VOp :=
  [⟨some 47, (Op.move (Operand.tmp 10)), 45, none⟩,
   ⟨some 48, (Op.move (Operand.tmp 2)), 3, none⟩,
   ⟨some 49, (Op.call { callee := (Callee.value (Operand.func 43)), args := #[(Operand.tmp 47), (Operand.tmp 48)], argTypes := #[45, 3] }), 37, none⟩,
   ⟨some 46, (Op.move (Operand.tmp 49)), 37, none⟩,
   ⟨some 50, (Op.extract (Operand.tmp 46) 0), 36, none⟩,
   ⟨some 51, (Op.extract (Operand.tmp 46) 1), 23, none⟩,
   ⟨some 12, (Op.assign (Operand.tmp 50)), 36, none⟩,
   ⟨some 13, (Op.assign (Operand.tmp 51)), 23, none⟩]
def r55_13 : List VOp :=
  [⟨some 52, (Op.move (Operand.tmp 12)), 36, none⟩,
   ⟨some 53, (Op.move (Operand.tmp 0)), 36, none⟩,
   ⟨some 54, (Op.call { callee := (Callee.value (Operand.func 56)), args := #[(Operand.tmp 52), (Operand.tmp 53)], argTypes := #[36, 36] }), 4, none⟩,
   ⟨some 55, (Op.unOp UnOp.not 4 (Operand.tmp 54)), 4, none⟩]
def r55_14 : List VOp :=
  [⟨some 6, (Op.assign (Operand.const (Value.slice none 0 0))), 45, none⟩,
   ⟨some 7, (Op.assign (Operand.const (Value.int IntKind.i64 71))), 23, none⟩]
def r55_15 : List VOp :=
  [⟨some 56, (Op.move (Operand.tmp 10)), 45, none⟩,
   ⟨some 6, (Op.assign (Operand.tmp 56)), 45, none⟩,
   ⟨some 7, (Op.assign (Operand.const (Value.int IntKind.i64 0))), 23, none⟩]
def B55 : VC :=
  (.seq (.region r55_0) (.seq (.region r55_1) (.seq (.block 0 (.seq (.region r55_2) (.cond (Operand.tmp 20) (.seq (.region r55_3) .ret) (.seq (.region r55_4) (.cond (Operand.tmp 24) (.seq (.region r55_5) .ret) .skip))))) (.seq (.region r55_6) (.seq (.seq (.region r55_7) (.block 1 (.loop (.seq (.region r55_8) (.seq (.cond (Operand.tmp 34) .skip (.exit 1)) (.seq (.block 2 (.seq (.region r55_9) (.region r55_10))) (.region r55_11))))))) (.seq (.seq (.region r55_12) (.seq (.region r55_13) (.cond (Operand.tmp 55) (.seq (.region r55_14) .ret) .skip))) (.seq (.region r55_15) .ret)))))))
theorem code55 : ∃ c, Try.f55.body = some c ∧ abs Try.f55.ntmps c = B55 := ⟨_, rfl, by kernel_rfl⟩
theorem hb55 : HasBody Try.prog 55 := hasBody_of Try.func55 (by kernel_rfl)
theorem res55 : Try.f55.results = #[(ResultVar.tmp 6), (ResultVar.tmp 7)] := rfl
theorem enter55 {w : World} {R : Value → World → Prop} (x0 x1 x2 : Value) (h : vc Try.prog B55 (retK Try.prog #[(ResultVar.tmp 6), (ResultVar.tmp 7)] R) [] (initEnv [x0, x1, x2] 0) w) : FnC Try.prog 55 #[x0, x1, x2] w R := by
  obtain ⟨c, h1, h2⟩ := code55
  exact hb55.fn (ret_of_vc mixed Try.func55 h1 (Nat.le_of_ble_eq_true rfl) B55 h2 h)
@[push_cast] theorem vr55_0 (Q : Post) (ds : List Deferred) (σ : Env) (w : World) : vc Try.prog (.region r55_0) Q ds σ w = vcOps Try.prog [⟨some 6, (Op.assign (Operand.const (Value.slice none 0 0))), 45, none⟩, ⟨some 7, (Op.assign (Operand.const (Value.int IntKind.i64 0))), 23, none⟩] (Q .normal ds) σ w := mk_eq rfl
@[push_cast] theorem vr55_1 (Q : Post) (ds : List Deferred) (σ : Env) (w : World) : vc Try.prog (.region r55_1) Q ds σ w = vcOps Try.prog [⟨some 15, (Op.move (Operand.tmp 1)), 3, none⟩, ⟨some 16, (Op.move (Operand.tmp 2)), 3, none⟩, ⟨some 17, (Op.call { callee := (Callee.value (Operand.func 67)), args := #[(Operand.tmp 15), (Operand.tmp 16)], argTypes := #[3, 3] }), 30, none⟩, ⟨some 14, (Op.move (Operand.tmp 17)), 30, none⟩, ⟨some 18, (Op.extract (Operand.tmp 14) 0), 3, none⟩, ⟨some 19, (Op.extract (Operand.tmp 14) 1), 23, none⟩, ⟨some 8, (Op.assign (Operand.tmp 18)), 3, none⟩, ⟨some 9, (Op.assign (Operand.tmp 19)), 23, none⟩] (Q .normal ds) σ w := mk_eq rfl
@[push_cast] theorem vr55_2 (Q : Post) (ds : List Deferred) (σ : Env) (w : World) : vc Try.prog (.region r55_2) Q ds σ w = vcOps Try.prog [⟨some 21, (Op.move (Operand.tmp 9)), 23, none⟩, ⟨some 22, (Op.binOp BinOp.neq 23 (Operand.tmp 21) (Operand.const (Value.int IntKind.i64 0)) 23), 4, none⟩, ⟨some 20, (Op.assign (Operand.tmp 22)), 4, none⟩] (Q .normal ds) σ w := mk_eq rfl
@[push_cast] theorem vr55_3 (Q : Post) (ds : List Deferred) (σ : Env) (w : World) : vc Try.prog (.region r55_3) Q ds σ w = vcOps Try.prog [⟨some 23, (Op.move (Operand.tmp 9)), 23, none⟩, ⟨some 6, (Op.assign (Operand.const (Value.slice none 0 0))), 45, none⟩, ⟨some 7, (Op.assign (Operand.tmp 23)), 23, none⟩] (Q .normal ds) σ w := mk_eq rfl
@[push_cast] theorem vr55_4 (Q : Post) (ds : List Deferred) (σ : Env) (w : World) : vc Try.prog (.region r55_4) Q ds σ w = vcOps Try.prog [⟨some 25, (Op.move (Operand.tmp 0)), 36, none⟩, ⟨some 26, (Op.call { callee := (Callee.builtin Builtin.len), args := #[(Operand.tmp 25)], argTypes := #[36] }), 3, none⟩, ⟨some 27, (Op.move (Operand.tmp 8)), 3, none⟩, ⟨some 28, (Op.binOp BinOp.neq 3 (Operand.tmp 26) (Operand.tmp 27) 3), 4, none⟩, ⟨some 24, (Op.assign (Operand.tmp 28)), 4, none⟩] (Q .normal ds) σ w := mk_eq rfl
@[push_cast] theorem vr55_5 (Q : Post) (ds : List Deferred) (σ : Env) (w : World) : vc Try.prog (.region r55_5) Q ds σ w = vcOps Try.prog [⟨some 6, (Op.assign (Operand.const (Value.slice none 0 0))), 45, none⟩, ⟨some 7, (Op.assign (Operand.const (Value.int IntKind.i64 71))), 23, none⟩] (Q .normal ds) σ w := mk_eq rfl
@[push_cast] theorem vr55_6 (Q : Post) (ds : List Deferred) (σ : Env) (w : World) : vc Try.prog (.region r55_6) Q ds σ w = vcOps Try.prog [⟨some 29, (Op.move (Operand.tmp 1)), 3, none⟩, ⟨some 30, (Op.makeSlice 45 (Operand.tmp 29) (Operand.tmp 29)), 45, none⟩, ⟨some 10, (Op.assign (Operand.tmp 30)), 45, none⟩] (Q .normal ds) σ w := mk_eq rfl
@[push_cast] theorem vr55_7 (Q : Post) (ds : List Deferred) (σ : Env) (w : World) : vc Try.prog (.region r55_7) Q ds σ w = vcOps Try.prog [⟨some 31, (Op.move (Operand.tmp 10)), 45, none⟩, ⟨some 32, (Op.call { callee := (Callee.builtin Builtin.len), args := #[(Operand.tmp 31)], argTypes := #[45] }), 3, none⟩, ⟨some 33, (Op.move (Operand.const (Value.int IntKind.i64 0))), 3, none⟩] (Q .normal ds) σ w := mk_eq rfl
@[push_cast] theorem vr55_8 (Q : Post) (ds : List Deferred) (σ : Env) (w : World) : vc Try.prog (.region r55_8) Q ds σ w = vcOps Try.prog [⟨some 34, (Op.binOp BinOp.lss 3 (Operand.tmp 33) (Operand.tmp 32) 3), 0, none⟩] (Q .normal ds) σ w := mk_eq rfl
@[push_cast] theorem vr55_9 (Q : Post) (ds : List Deferred) (σ : Env) (w : World) : vc Try.prog (.region r55_9) Q ds σ w = vcOps Try.prog [⟨some 35, (Op.move (Operand.tmp 33)), 3, none⟩, ⟨some 11, (Op.assign (Operand.tmp 35)), 3, none⟩] (Q .normal ds) σ w := mk_eq rfl
@[push_cast] theorem vr55_10 (Q : Post) (ds : List Deferred) (σ : Env) (w : World) : vc Try.prog (.region r55_10) Q ds σ w = vcOps Try.prog [⟨some 36, (Op.move (Operand.tmp 10)), 45, none⟩, ⟨some 37, (Op.move (Operand.tmp 11)), 3, none⟩, ⟨some 38, (Op.move (Operand.tmp 0)), 36, none⟩, ⟨some 39, (Op.move (Operand.tmp 11)), 3, none⟩, ⟨some 40, (Op.move (Operand.tmp 2)), 3, none⟩, ⟨some 41, (Op.binOp BinOp.mul 3 (Operand.tmp 39) (Operand.tmp 40) 3), 3, none⟩, ⟨some 42, (Op.move (Operand.tmp 2)), 3, none⟩, ⟨some 43, (Op.call { callee := (Callee.value (Operand.func 74)), args := #[(Operand.tmp 38), (Operand.tmp 41), (Operand.tmp 42)], argTypes := #[36, 3, 3] }), 47, none⟩, ⟨some 44, (Op.indexAddr 45 (Operand.tmp 36) (Operand.tmp 37)), 0, none⟩, ⟨none, (Op.store 47 (Operand.tmp 44) (Operand.tmp 43)), 0, none⟩] (Q .normal ds) σ w := mk_eq rfl
@[push_cast] theorem vr55_11 (Q : Post) (ds : List Deferred) (σ : Env) (w : World) : vc Try.prog (.region r55_11) Q ds σ w = vcOps Try.prog [⟨some 45, (Op.binOp BinOp.add 3 (Operand.tmp 33) (Operand.const (Value.int IntKind.i64 1)) 3), 3, none⟩, ⟨some 33, (Op.move (Operand.tmp 45)), 3, none⟩] (Q .normal ds) σ w := mk_eq rfl
@[push_cast] theorem vr55_12 (Q : Post) (ds : List Deferred) (σ : Env) (w : World) : vc Try.prog (.region r55_12) Q ds σ w = vcOps Try.prog [⟨some 47, (Op.move (Operand.tmp 10)), 45, none⟩, ⟨some 48, (Op.move (Operand.tmp 2)), 3, none⟩, ⟨some 49, (Op.call { callee := (Callee.value (Operand.func 43)), args := #[(Operand.tmp 47), (Operand.tmp 48)], argTypes := #[45, 3] }), 37, none⟩, ⟨some 46, (Op.move (Operand.tmp 49)), 37, none⟩, ⟨some 50, (Op.extract (Operand.tmp 46) 0), 36, none⟩, ⟨some 51, (Op.extract (Operand.tmp 46) 1), 23, none⟩, ⟨some 12, (Op.assign (Operand.tmp 50)), 36, none⟩, ⟨some 13, (Op.assign (Operand.tmp 51)), 23, none⟩] (Q .normal ds) σ w := mk_eq rfl
@[push_cast] theorem vr55_13 (Q : Post) (ds : List Deferred) (σ : Env) (w : World) : vc Try.prog (.region r55_13) Q ds σ w = vcOps Try.prog [⟨some 52, (Op.move (Operand.tmp 12)), 36, none⟩, ⟨some 53, (Op.move (Operand.tmp 0)), 36, none⟩, ⟨some 54, (Op.call { callee := (Callee.value (Operand.func 56)), args := #[(Operand.tmp 52), (Operand.tmp 53)], argTypes := #[36, 36] }), 4, none⟩, ⟨some 55, (Op.unOp UnOp.not 4 (Operand.tmp 54)), 4, none⟩] (Q .normal ds) σ w := mk_eq rfl
@[push_cast] theorem vr55_14 (Q : Post) (ds : List Deferred) (σ : Env) (w : World) : vc Try.prog (.region r55_14) Q ds σ w = vcOps Try.prog [⟨some 6, (Op.assign (Operand.const (Value.slice none 0 0))), 45, none⟩, ⟨some 7, (Op.assign (Operand.const (Value.int IntKind.i64 71))), 23, none⟩] (Q .normal ds) σ w := mk_eq rfl
@[push_cast] theorem vr55_15 (Q : Post) (ds : List Deferred) (σ : Env) (w : World) : vc Try.prog (.region r55_15) Q ds σ w = vcOps Try.prog [⟨some 56, (Op.move (Operand.tmp 10)), 45, none⟩, ⟨some 6, (Op.assign (Operand.tmp 56)), 45, none⟩, ⟨some 7, (Op.assign (Operand.const (Value.int IntKind.i64 0))), 23, none⟩] (Q .normal ds) σ w := mk_eq rfl
/-! 56 bytes.Equal (params #[36, 36], results #[(ResultVar.tmp 4)], 10 slots) -/
def r56_0 : List VOp :=
  [⟨some 4, (Op.assign (Operand.const (Value.bool false))), 4, none⟩]
def r56_1 : List VOp :=
  [⟨some 5, (Op.move (Operand.tmp 0)), 36, none⟩,
   ⟨some 6, (Op.convert 36 9 (Operand.tmp 5)), 9, none⟩,
   ⟨some 7, (Op.move (Operand.tmp 1)), 36, none⟩,
   ⟨some 8, (Op.convert 36 9 (Operand.tmp 7)), 9, none⟩,
   ⟨some 9, (Op.binOp BinOp.eql 9 (Operand.tmp 6) (Operand.tmp 8) 9), 4, none⟩,
   ⟨some 4, (Op.assign (Operand.tmp 9)), 4, none⟩]
def B56 : VC :=
  (.seq (.region r56_0) (.seq (.region r56_1) .ret))
theorem code56 : ∃ c, Try.f56.body = some c ∧ abs Try.f56.ntmps c = B56 := ⟨_, rfl, by kernel_rfl⟩
theorem hb56 : HasBody Try.prog 56 := hasBody_of Try.func56 (by kernel_rfl)
theorem res56 : Try.f56.results = #[(ResultVar.tmp 4)] := rfl
theorem enter56 {w : World} {R : Value → World → Prop} (x0 x1 : Value) (h : vc Try.prog B56 (retK Try.prog #[(ResultVar.tmp 4)] R) [] (initEnv [x0, x1] 0) w) : FnC Try.prog 56 #[x0, x1] w R := by
  obtain ⟨c, h1, h2⟩ := code56
  exact hb56.fn (ret_of_vc mixed Try.func56 h1 (Nat.le_of_ble_eq_true rfl) B56 h2 h)
@[push_cast] theorem vr56_0 (Q : Post) (ds : List Deferred) (σ : Env) (w : World) : vc Try.prog (.region r56_0) Q ds σ w = vcOps Try.prog [⟨some 4, (Op.assign (Operand.const (Value.bool false))), 4, none⟩] (Q .normal ds) σ w := mk_eq rfl
@[push_cast] theorem vr56_1 (Q : Post) (ds : List Deferred) (σ : Env) (w : World) : vc Try.prog (.region r56_1) Q ds σ w = vcOps Try.prog [⟨some 5, (Op.move (Operand.tmp 0)), 36, none⟩, ⟨some 6, (Op.convert 36 9 (Operand.tmp 5)), 9, none⟩, ⟨some 7, (Op.move (Operand.tmp 1)), 36, none⟩, ⟨some 8, (Op.convert 36 9 (Operand.tmp 7)), 9, none⟩, ⟨some 9, (Op.binOp BinOp.eql 9 (Operand.tmp 6) (Operand.tmp 8) 9), 4, none⟩, ⟨some 4, (Op.assign (Operand.tmp 9)), 4, none⟩] (Q .normal ds) σ w := mk_eq rfl
/-! 58 columbary/columbaryref07.Size (params #[3, 3], results #[(ResultVar.tmp 4), (ResultVar.tmp 5)], 25 slots) -/
def r58_0 : List VOp :=
  [⟨some 4, (Op.assign (Operand.const (Value.int IntKind.i64 0))), 3, none⟩,
   ⟨some 5, (Op.assign (Operand.const (Value.int IntKind.i64 0))), 23, none⟩]
def r58_1 : List VOp :=
  [⟨some 6, (Op.move (Operand.tmp 0)), 3, none⟩,
   ⟨some 7, (Op.binOp BinOp.lss 3 (Operand.tmp 6) (Operand.const (Value.int IntKind.i64 0)) 3), 4, none⟩,
   ⟨some 8, (Op.move (Operand.tmp 7)), 4, none⟩,
   ⟨some 9, (Op.move (Operand.tmp 0)), 3, some (8, false)⟩,
   ⟨some 10, (Op.binOp BinOp.gtr 3 (Operand.tmp 9) (Operand.const (Value.int IntKind.i64 65536)) 3), 4, some (8, false)⟩,
   ⟨some 11, (Op.pick (Operand.tmp 8) (Operand.const (Value.bool true)) (Operand.tmp 10)), 4, none⟩,
   ⟨some 12, (Op.move (Operand.tmp 11)), 4, none⟩,
   ⟨some 13, (Op.move (Operand.tmp 1)), 3, some (12, false)⟩,
   ⟨some 14, (Op.binOp BinOp.lss 3 (Operand.tmp 13) (Operand.const (Value.int IntKind.i64 0)) 3), 4, some (12, false)⟩,
   ⟨some 15, (Op.pick (Operand.tmp 12) (Operand.const (Value.bool true)) (Operand.tmp 14)), 4, none⟩,
   ⟨some 16, (Op.move (Operand.tmp 15)), 4, none⟩,
   ⟨some 17, (Op.move (Operand.tmp 1)), 3, some (16, false)⟩,
   ⟨some 18, (Op.binOp BinOp.gtr 3 (Operand.tmp 17) (Operand.const (Value.int IntKind.i64 64)) 3), 4, some (16, false)⟩,
   ⟨some 19, (Op.pick (Operand.tmp 16) (Operand.const (Value.bool true)) (Operand.tmp 18)), 4, none⟩]
def r58_2 : List VOp :=
  [⟨some 4, (Op.assign (Operand.const (Value.int IntKind.i64 0))), 3, none⟩,
   ⟨some 5, (Op.assign (Operand.const (Value.int IntKind.i64 1))), 23, none⟩]
def r58_3 : List VOp :=
  [⟨some 20, (Op.move (Operand.tmp 0)), 3, none⟩,
   ⟨some 21, (Op.move (Operand.tmp 1)), 3, none⟩,
   ⟨some 22, (Op.binOp BinOp.mul 3 (Operand.tmp 20) (Operand.tmp 21) 3), 3, none⟩,
   ⟨some 23, (Op.binOp BinOp.add 3 (Operand.tmp 22) (Operand.const (Value.int IntKind.i64 7)) 3), 3, none⟩,
   ⟨some 24, (Op.binOp BinOp.quo 3 (Operand.tmp 23) (Operand.const (Value.int IntKind.i64 8)) 3), 3, none⟩,
   ⟨some 4, (Op.assign (Operand.tmp 24)), 3, none⟩,
   ⟨some 5, (Op.assign (Operand.const (Value.int IntKind.i64 0))), 23, none⟩]
def B58 : VC :=
  (.seq (.region r58_0) (.seq (.seq (.region r58_1) (.cond (Operand.tmp 19) (.seq (.region r58_2) .ret) .skip)) (.seq (.region r58_3) .ret)))
theorem code58 : ∃ c, Try.f58.body = some c ∧ abs Try.f58.ntmps c = B58 := ⟨_, rfl, by kernel_rfl⟩
theorem hb58 : HasBody Try.prog 58 := hasBody_of Try.func58 (by kernel_rfl)
theorem res58 : Try.f58.results = #[(ResultVar.tmp 4), (ResultVar.tmp 5)] := rfl
theorem enter58 {w : World} {R : Value → World → Prop} (x0 x1 : Value) (h : vc Try.prog B58 (retK Try.prog #[(ResultVar.tmp 4), (ResultVar.tmp 5)] R) [] (initEnv [x0, x1] 0) w) : FnC Try.prog 58 #[x0, x1] w R := by
  obtain ⟨c, h1, h2⟩ := code58
  exact hb58.fn (ret_of_vc mixed Try.func58 h1 (Nat.le_of_ble_eq_true rfl) B58 h2 h)
@[push_cast] theorem vr58_0 (Q : Post) (ds : List Deferred) (σ : Env) (w : World) : vc Try.prog (.region r58_0) Q ds σ w = vcOps Try.prog [⟨some 4, (Op.assign (Operand.const (Value.int IntKind.i64 0))), 3, none⟩, ⟨some 5, (Op.assign (Operand.const (Value.int IntKind.i64 0))), 23, none⟩] (Q .normal ds) σ w := mk_eq rfl
@[push_cast] theorem vr58_1 (Q : Post) (ds : List Deferred) (σ : Env) (w : World) : vc Try.prog (.region r58_1) Q ds σ w = vcOps Try.prog [⟨some 6, (Op.move (Operand.tmp 0)), 3, none⟩, ⟨some 7, (Op.binOp BinOp.lss 3 (Operand.tmp 6) (Operand.const (Value.int IntKind.i64 0)) 3), 4, none⟩, ⟨some 8, (Op.move (Operand.tmp 7)), 4, none⟩, ⟨some 9, (Op.move (Operand.tmp 0)), 3, some (8, false)⟩, ⟨some 10, (Op.binOp BinOp.gtr 3 (Operand.tmp 9) (Operand.const (Value.int IntKind.i64 65536)) 3), 4, some (8, false)⟩, ⟨some 11, (Op.pick (Operand.tmp 8) (Operand.const (Value.bool true)) (Operand.tmp 10)), 4, none⟩, ⟨some 12, (Op.move (Operand.tmp 11)), 4, none⟩, ⟨some 13, (Op.move (Operand.tmp 1)), 3, some (12, false)⟩, ⟨some 14, (Op.binOp BinOp.lss 3 (Operand.tmp 13) (Operand.const (Value.int IntKind.i64 0)) 3), 4, some (12, false)⟩, ⟨some 15, (Op.pick (Operand.tmp 12) (Operand.const (Value.bool true)) (Operand.tmp 14)), 4, none⟩, ⟨some 16, (Op.move (Operand.tmp 15)), 4, none⟩, ⟨some 17, (Op.move (Operand.tmp 1)), 3, some (16, false)⟩, ⟨some 18, (Op.binOp BinOp.gtr 3 (Operand.tmp 17) (Operand.const (Value.int IntKind.i64 64)) 3), 4, some (16, false)⟩, ⟨some 19, (Op.pick (Operand.tmp 16) (Operand.const (Value.bool true)) (Operand.tmp 18)), 4, none⟩] (Q .normal ds) σ w := mk_eq rfl
@[push_cast] theorem vr58_2 (Q : Post) (ds : List Deferred) (σ : Env) (w : World) : vc Try.prog (.region r58_2) Q ds σ w = vcOps Try.prog [⟨some 4, (Op.assign (Operand.const (Value.int IntKind.i64 0))), 3, none⟩, ⟨some 5, (Op.assign (Operand.const (Value.int IntKind.i64 1))), 23, none⟩] (Q .normal ds) σ w := mk_eq rfl
@[push_cast] theorem vr58_3 (Q : Post) (ds : List Deferred) (σ : Env) (w : World) : vc Try.prog (.region r58_3) Q ds σ w = vcOps Try.prog [⟨some 20, (Op.move (Operand.tmp 0)), 3, none⟩, ⟨some 21, (Op.move (Operand.tmp 1)), 3, none⟩, ⟨some 22, (Op.binOp BinOp.mul 3 (Operand.tmp 20) (Operand.tmp 21) 3), 3, none⟩, ⟨some 23, (Op.binOp BinOp.add 3 (Operand.tmp 22) (Operand.const (Value.int IntKind.i64 7)) 3), 3, none⟩, ⟨some 24, (Op.binOp BinOp.quo 3 (Operand.tmp 23) (Operand.const (Value.int IntKind.i64 8)) 3), 3, none⟩, ⟨some 4, (Op.assign (Operand.tmp 24)), 3, none⟩, ⟨some 5, (Op.assign (Operand.const (Value.int IntKind.i64 0))), 23, none⟩] (Q .normal ds) σ w := mk_eq rfl
/-! 60 columbary/columbaryref07.Unpack (params #[36, 3, 3], results #[(ResultVar.tmp 6), (ResultVar.tmp 7)], 53 slots) -/
def W60_0 : List Nat := [10, 11, 27, 28, 29, 30, 31, 32, 33, 34, 35, 36, 37, 38, 39, 40]
@[push_cast] theorem W60_0_def : W60_0 = [10, 11, 27, 28, 29, 30, 31, 32, 33, 34, 35, 36, 37, 38, 39, 40] := mk_eq rfl
def r60_0 : List VOp :=
  [⟨some 6, (Op.assign (Operand.const (Value.slice none 0 0))), 45, none⟩,
   ⟨some 7, (Op.assign (Operand.const (Value.int IntKind.i64 0))), 23, none⟩]
def r60_1 : List VOp :=
  [⟨some 15, (Op.move (Operand.tmp 1)), 3, none⟩,
   ⟨some 16, (Op.move (Operand.tmp 2)), 3, none⟩,
   ⟨some 17, (Op.call { callee := (Callee.value (Operand.func 58)), args := #[(Operand.tmp 15), (Operand.tmp 16)], argTypes := #[3, 3] }), 30, none⟩,
   ⟨some 14, (Op.move (Operand.tmp 17)), 30, none⟩,
   ⟨some 18, (Op.extract (Operand.tmp 14) 0), 3, none⟩,
   ⟨some 19, (Op.extract (Operand.tmp 14) 1), 23, none⟩,
   ⟨some 8, (Op.assign (Operand.tmp 18)), 3, none⟩,
   ⟨some 9, (Op.assign (Operand.tmp 19)), 23, none⟩]
def r60_2 : List VOp :=
  [⟨some 20, (Op.move (Operand.tmp 9)), 23, none⟩,
   ⟨some 21, (Op.binOp BinOp.neq 23 (Operand.tmp 20) (Operand.const (Value.int IntKind.i64 0)) 23), 4, none⟩]
def r60_3 : List VOp :=
  [⟨some 22, (Op.move (Operand.tmp 9)), 23, none⟩,
   ⟨some 6, (Op.assign (Operand.const (Value.slice none 0 0))), 45, none⟩,
   ⟨some 7, (Op.assign (Operand.tmp 22)), 23, none⟩]
def r60_4 : List VOp :=
  [⟨some 23, (Op.move (Operand.tmp 0)), 36, none⟩,
   ⟨some 24, (Op.call { callee := (Callee.builtin Builtin.len), args := #[(Operand.tmp 23)], argTypes := #[36] }), 3, none⟩,
   ⟨some 25, (Op.move (Operand.tmp 8)), 3, none⟩,
   ⟨some 26, (Op.binOp BinOp.neq 3 (Operand.tmp 24) (Operand.tmp 25) 3), 4, none⟩]
def r60_5 : List VOp :=
  [⟨some 6, (Op.assign (Operand.const (Value.slice none 0 0))), 45, none⟩,
   ⟨some 7, (Op.assign (Operand.const (Value.int IntKind.i64 71))), 23, none⟩]
def r60_6 : List VOp :=
  [⟨some 10, (Op.assign (Operand.const (Value.slice none 0 0))), 45, none⟩]
def r60_7 : List VOp :=
  [⟨some 11, (Op.assign (Operand.const (Value.int IntKind.i64 0))), 3, none⟩]
def r60_8 : List VOp :=
  [⟨some 27, (Op.move (Operand.tmp 11)), 3, none⟩,
   ⟨some 28, (Op.move (Operand.tmp 1)), 3, none⟩,
   ⟨some 29, (Op.binOp BinOp.lss 3 (Operand.tmp 27) (Operand.tmp 28) 3), 4, none⟩]
def r60_10 : List VOp :=
  [⟨some 32, (Op.move (Operand.tmp 10)), 45, none⟩,
   ⟨some 33, (Op.move (Operand.tmp 0)), 36, none⟩,
   ⟨some 34, (Op.move (Operand.tmp 11)), 3, none⟩,
   ⟨some 35, (Op.move (Operand.tmp 2)), 3, none⟩,
   ⟨some 36, (Op.binOp BinOp.mul 3 (Operand.tmp 34) (Operand.tmp 35) 3), 3, none⟩,
   ⟨some 37, (Op.move (Operand.tmp 2)), 3, none⟩,
   ⟨some 38, (Op.call { callee := (Callee.value (Operand.func 76)), args := #[(Operand.tmp 33), (Operand.tmp 36), (Operand.tmp 37)], argTypes := #[36, 3, 3] }), 47, none⟩,
   ⟨some 39, (Op.buildSlice 45 1 #[(0, (Operand.tmp 38))]), 45, none⟩,
   ⟨some 40, (Op.call { callee := (Callee.builtin Builtin.append), args := #[(Operand.tmp 32), (Operand.tmp 39)], argTypes := #[45, 45] }), 45, none⟩,
   ⟨some 10, (Op.assign (Operand.tmp 40)), 45, none⟩]
def r60_9 : List VOp :=
  [⟨some 30, (Op.move (Operand.tmp 11)), 3, none⟩,
   ⟨some 31, (Op.binOp BinOp.add 3 (Operand.tmp 30) (Operand.const (Value.int IntKind.i64 1)) 3), 3, none⟩,
   ⟨some 11, (Op.assign (Operand.tmp 31)), 3, none⟩]
def r60_11 : List VOp :=
  [⟨some 42, (Op.move (Operand.tmp 10)), 45, none⟩,
   ⟨some 43, (Op.move (Operand.tmp 2)), 3, none⟩,
   ⟨some 44, (Op.call { callee := (Callee.value (Operand.func 48)), args := #[(Operand.tmp 42), (Operand.tmp 43)], argTypes := #[45, 3] }), 37, none⟩,
   ⟨some 41, (Op.move (Operand.tmp 44)), 37, none⟩,
   ⟨some 45, (Op.extract (Operand.tmp 41) 0), 36, none⟩,
   ⟨some 46, (Op.extract (Operand.tmp 41) 1), 23, none⟩,
   ⟨some 12, (Op.assign (Operand.tmp 45)), 36, none⟩,
   ⟨some 13, (Op.assign (Operand.tmp 46)), 23, none⟩]
def r60_12 : List VOp :=
  [⟨some 47, (Op.move (Operand.tmp 12)), 36, none⟩,
   ⟨some 48, (Op.convert 36 9 (Operand.tmp 47)), 9, none⟩,
   ⟨some 49, (Op.move (Operand.tmp 0)), 36, none⟩,
   ⟨some 50, (Op.convert 36 9 (Operand.tmp 49)), 9, none⟩,
   ⟨some 51, (Op.binOp BinOp.neq 9 (Operand.tmp 48) (Operand.tmp 50) 9), 4, none⟩]
def r60_13 : List VOp :=
  [⟨some 6, (Op.assign (Operand.const (Value.slice none 0 0))), 45, none⟩,
   ⟨some 7, (Op.assign (Operand.const (Value.int IntKind.i64 71))), 23, none⟩]
def r60_14 : List VOp :=
  [⟨some 52, (Op.move (Operand.tmp 10)), 45, none⟩,
   ⟨some 6, (Op.assign (Operand.tmp 52)), 45, none⟩,
   ⟨some 7, (Op.assign (Operand.const (Value.int IntKind.i64 0))), 23, none⟩]
def B60 : VC :=
  (.seq (.region r60_0) (.seq (.region r60_1) (.seq (.seq (.region r60_2) (.cond (Operand.tmp 21) (.seq (.region r60_3) .ret) .skip)) (.seq (.seq (.region r60_4) (.cond (Operand.tmp 26) (.seq (.region r60_5) .ret) .skip)) (.seq (.region r60_6) (.seq (.seq (.region r60_7) (.block 0 (.loop (.seq (.seq (.region r60_8) (.cond (Operand.tmp 29) .skip (.exit 0))) (.seq (.block 1 (.region r60_10)) (.region r60_9)))))) (.seq (.region r60_11) (.seq (.seq (.region r60_12) (.cond (Operand.tmp 51) (.seq (.region r60_13) .ret) .skip)) (.seq (.region r60_14) .ret)))))))))
theorem code60 : ∃ c, Try.f60.body = some c ∧ abs Try.f60.ntmps c = B60 := ⟨_, rfl, by kernel_rfl⟩
theorem hb60 : HasBody Try.prog 60 := hasBody_of Try.func60 (by kernel_rfl)
theorem res60 : Try.f60.results = #[(ResultVar.tmp 6), (ResultVar.tmp 7)] := rfl
theorem enter60 {w : World} {R : Value → World → Prop} (x0 x1 x2 : Value) (h : vc Try.prog B60 (retK Try.prog #[(ResultVar.tmp 6), (ResultVar.tmp 7)] R) [] (initEnv [x0, x1, x2] 0) w) : FnC Try.prog 60 #[x0, x1, x2] w R := by
  obtain ⟨c, h1, h2⟩ := code60
  exact hb60.fn (ret_of_vc mixed Try.func60 h1 (Nat.le_of_ble_eq_true rfl) B60 h2 h)
@[push_cast] theorem vr60_0 (Q : Post) (ds : List Deferred) (σ : Env) (w : World) : vc Try.prog (.region r60_0) Q ds σ w = vcOps Try.prog [⟨some 6, (Op.assign (Operand.const (Value.slice none 0 0))), 45, none⟩, ⟨some 7, (Op.assign (Operand.const (Value.int IntKind.i64 0))), 23, none⟩] (Q .normal ds) σ w := mk_eq rfl
@[push_cast] theorem vr60_1 (Q : Post) (ds : List Deferred) (σ : Env) (w : World) : vc Try.prog (.region r60_1) Q ds σ w = vcOps Try.prog [⟨some 15, (Op.move (Operand.tmp 1)), 3, none⟩, ⟨some 16, (Op.move (Operand.tmp 2)), 3, none⟩, ⟨some 17, (Op.call { callee := (Callee.value (Operand.func 58)), args := #[(Operand.tmp 15), (Operand.tmp 16)], argTypes := #[3, 3] }), 30, none⟩, ⟨some 14, (Op.move (Operand.tmp 17)), 30, none⟩, ⟨some 18, (Op.extract (Operand.tmp 14) 0), 3, none⟩, ⟨some 19, (Op.extract (Operand.tmp 14) 1), 23, none⟩, ⟨some 8, (Op.assign (Operand.tmp 18)), 3, none⟩, ⟨some 9, (Op.assign (Operand.tmp 19)), 23, none⟩] (Q .normal ds) σ w := mk_eq rfl
@[push_cast] theorem vr60_2 (Q : Post) (ds : List Deferred) (σ : Env) (w : World) : vc Try.prog (.region r60_2) Q ds σ w = vcOps Try.prog [⟨some 20, (Op.move (Operand.tmp 9)), 23, none⟩, ⟨some 21, (Op.binOp BinOp.neq 23 (Operand.tmp 20) (Operand.const (Value.int IntKind.i64 0)) 23), 4, none⟩] (Q .normal ds) σ w := mk_eq rfl
@[push_cast] theorem vr60_3 (Q : Post) (ds : List Deferred) (σ : Env) (w : World) : vc Try.prog (.region r60_3) Q ds σ w = vcOps Try.prog [⟨some 22, (Op.move (Operand.tmp 9)), 23, none⟩, ⟨some 6, (Op.assign (Operand.const (Value.slice none 0 0))), 45, none⟩, ⟨some 7, (Op.assign (Operand.tmp 22)), 23, none⟩] (Q .normal ds) σ w := mk_eq rfl
@[push_cast] theorem vr60_4 (Q : Post) (ds : List Deferred) (σ : Env) (w : World) : vc Try.prog (.region r60_4) Q ds σ w = vcOps Try.prog [⟨some 23, (Op.move (Operand.tmp 0)), 36, none⟩, ⟨some 24, (Op.call { callee := (Callee.builtin Builtin.len), args := #[(Operand.tmp 23)], argTypes := #[36] }), 3, none⟩, ⟨some 25, (Op.move (Operand.tmp 8)), 3, none⟩, ⟨some 26, (Op.binOp BinOp.neq 3 (Operand.tmp 24) (Operand.tmp 25) 3), 4, none⟩] (Q .normal ds) σ w := mk_eq rfl
@[push_cast] theorem vr60_5 (Q : Post) (ds : List Deferred) (σ : Env) (w : World) : vc Try.prog (.region r60_5) Q ds σ w = vcOps Try.prog [⟨some 6, (Op.assign (Operand.const (Value.slice none 0 0))), 45, none⟩, ⟨some 7, (Op.assign (Operand.const (Value.int IntKind.i64 71))), 23, none⟩] (Q .normal ds) σ w := mk_eq rfl
@[push_cast] theorem vr60_6 (Q : Post) (ds : List Deferred) (σ : Env) (w : World) : vc Try.prog (.region r60_6) Q ds σ w = vcOps Try.prog [⟨some 10, (Op.assign (Operand.const (Value.slice none 0 0))), 45, none⟩] (Q .normal ds) σ w := mk_eq rfl
@[push_cast] theorem vr60_7 (Q : Post) (ds : List Deferred) (σ : Env) (w : World) : vc Try.prog (.region r60_7) Q ds σ w = vcOps Try.prog [⟨some 11, (Op.assign (Operand.const (Value.int IntKind.i64 0))), 3, none⟩] (Q .normal ds) σ w := mk_eq rfl
@[push_cast] theorem vr60_8 (Q : Post) (ds : List Deferred) (σ : Env) (w : World) : vc Try.prog (.region r60_8) Q ds σ w = vcOps Try.prog [⟨some 27, (Op.move (Operand.tmp 11)), 3, none⟩, ⟨some 28, (Op.move (Operand.tmp 1)), 3, none⟩, ⟨some 29, (Op.binOp BinOp.lss 3 (Operand.tmp 27) (Operand.tmp 28) 3), 4, none⟩] (Q .normal ds) σ w := mk_eq rfl
@[push_cast] theorem vr60_10 (Q : Post) (ds : List Deferred) (σ : Env) (w : World) : vc Try.prog (.region r60_10) Q ds σ w = vcOps Try.prog [⟨some 32, (Op.move (Operand.tmp 10)), 45, none⟩, ⟨some 33, (Op.move (Operand.tmp 0)), 36, none⟩, ⟨some 34, (Op.move (Operand.tmp 11)), 3, none⟩, ⟨some 35, (Op.move (Operand.tmp 2)), 3, none⟩, ⟨some 36, (Op.binOp BinOp.mul 3 (Operand.tmp 34) (Operand.tmp 35) 3), 3, none⟩, ⟨some 37, (Op.move (Operand.tmp 2)), 3, none⟩, ⟨some 38, (Op.call { callee := (Callee.value (Operand.func 76)), args := #[(Operand.tmp 33), (Operand.tmp 36), (Operand.tmp 37)], argTypes := #[36, 3, 3] }), 47, none⟩, ⟨some 39, (Op.buildSlice 45 1 #[(0, (Operand.tmp 38))]), 45, none⟩, ⟨some 40, (Op.call { callee := (Callee.builtin Builtin.append), args := #[(Operand.tmp 32), (Operand.tmp 39)], argTypes := #[45, 45] }), 45, none⟩, ⟨some 10, (Op.assign (Operand.tmp 40)), 45, none⟩] (Q .normal ds) σ w := mk_eq rfl
@[push_cast] theorem vr60_9 (Q : Post) (ds : List Deferred) (σ : Env) (w : World) : vc Try.prog (.region r60_9) Q ds σ w = vcOps Try.prog [⟨some 30, (Op.move (Operand.tmp 11)), 3, none⟩, ⟨some 31, (Op.binOp BinOp.add 3 (Operand.tmp 30) (Operand.const (Value.int IntKind.i64 1)) 3), 3, none⟩, ⟨some 11, (Op.assign (Operand.tmp 31)), 3, none⟩] (Q .normal ds) σ w := mk_eq rfl
@[push_cast] theorem vr60_11 (Q : Post) (ds : List Deferred) (σ : Env) (w : World) : vc Try.prog (.region r60_11) Q ds σ w = vcOps Try.prog [⟨some 42, (Op.move (Operand.tmp 10)), 45, none⟩, ⟨some 43, (Op.move (Operand.tmp 2)), 3, none⟩, ⟨some 44, (Op.call { callee := (Callee.value (Operand.func 48)), args := #[(Operand.tmp 42), (Operand.tmp 43)], argTypes := #[45, 3] }), 37, none⟩, ⟨some 41, (Op.move (Operand.tmp 44)), 37, none⟩, ⟨some 45, (Op.extract (Operand.tmp 41) 0), 36, none⟩, ⟨some 46, (Op.extract (Operand.tmp 41) 1), 23, none⟩, ⟨some 12, (Op.assign (Operand.tmp 45)), 36, none⟩, ⟨some 13, (Op.assign (Operand.tmp 46)), 23, none⟩] (Q .normal ds) σ w := mk_eq rfl
@[push_cast] theorem vr60_12 (Q : Post) (ds : List Deferred) (σ : Env) (w : World) : vc Try.prog (.region r60_12) Q ds σ w = vcOps Try.prog [⟨some 47, (Op.move (Operand.tmp 12)), 36, none⟩, ⟨some 48, (Op.convert 36 9 (Operand.tmp 47)), 9, none⟩, ⟨some 49, (Op.move (Operand.tmp 0)), 36, none⟩, ⟨some 50, (Op.convert 36 9 (Operand.tmp 49)), 9, none⟩, ⟨some 51, (Op.binOp BinOp.neq 9 (Operand.tmp 48) (Operand.tmp 50) 9), 4, none⟩] (Q .normal ds) σ w := mk_eq rfl
@[push_cast] theorem vr60_13 (Q : Post) (ds : List Deferred) (σ : Env) (w : World) : vc Try.prog (.region r60_13) Q ds σ w = vcOps Try.prog [⟨some 6, (Op.assign (Operand.const (Value.slice none 0 0))), 45, none⟩, ⟨some 7, (Op.assign (Operand.const (Value.int IntKind.i64 71))), 23, none⟩] (Q .normal ds) σ w := mk_eq rfl
@[push_cast] theorem vr60_14 (Q : Post) (ds : List Deferred) (σ : Env) (w : World) : vc Try.prog (.region r60_14) Q ds σ w = vcOps Try.prog [⟨some 52, (Op.move (Operand.tmp 10)), 45, none⟩, ⟨some 6, (Op.assign (Operand.tmp 52)), 45, none⟩, ⟨some 7, (Op.assign (Operand.const (Value.int IntKind.i64 0))), 23, none⟩] (Q .normal ds) σ w := mk_eq rfl
/-! 66 math/bits.Len64 (params #[47], results #[(ResultVar.tmp 2)], 25 slots) -/
def r66_0 : List VOp :=
  [⟨some 2, (Op.assign (Operand.const (Value.int IntKind.i64 0))), 3, none⟩]
def r66_1 : List VOp :=
  [⟨some 3, (Op.move (Operand.tmp 0)), 47, none⟩,
   ⟨some 4, (Op.binOp BinOp.geq 47 (Operand.tmp 3) (Operand.const (Value.int IntKind.u64 4294967296)) 47), 4, none⟩]
def r66_2 : List VOp :=
  [⟨some 5, (Op.move (Operand.tmp 0)), 47, none⟩,
   ⟨some 6, (Op.binOp BinOp.shr 47 (Operand.tmp 5) (Operand.const (Value.int IntKind.u64 32)) 46), 47, none⟩,
   ⟨some 0, (Op.assign (Operand.tmp 6)), 47, none⟩]
def r66_3 : List VOp :=
  [⟨some 2, (Op.assign (Operand.const (Value.int IntKind.i64 32))), 3, none⟩]
def r66_4 : List VOp :=
  [⟨some 7, (Op.move (Operand.tmp 0)), 47, none⟩,
   ⟨some 8, (Op.binOp BinOp.geq 47 (Operand.tmp 7) (Operand.const (Value.int IntKind.u64 65536)) 47), 4, none⟩]
def r66_5 : List VOp :=
  [⟨some 9, (Op.move (Operand.tmp 0)), 47, none⟩,
   ⟨some 10, (Op.binOp BinOp.shr 47 (Operand.tmp 9) (Operand.const (Value.int IntKind.u64 16)) 46), 47, none⟩,
   ⟨some 0, (Op.assign (Operand.tmp 10)), 47, none⟩]
def r66_6 : List VOp :=
  [⟨some 11, (Op.move (Operand.tmp 2)), 3, none⟩,
   ⟨some 12, (Op.binOp BinOp.add 3 (Operand.tmp 11) (Operand.const (Value.int IntKind.i64 16)) 3), 3, none⟩,
   ⟨some 2, (Op.assign (Operand.tmp 12)), 3, none⟩]
def r66_7 : List VOp :=
  [⟨some 13, (Op.move (Operand.tmp 0)), 47, none⟩,
   ⟨some 14, (Op.binOp BinOp.geq 47 (Operand.tmp 13) (Operand.const (Value.int IntKind.u64 256)) 47), 4, none⟩]
def r66_8 : List VOp :=
  [⟨some 15, (Op.move (Operand.tmp 0)), 47, none⟩,
   ⟨some 16, (Op.binOp BinOp.shr 47 (Operand.tmp 15) (Operand.const (Value.int IntKind.u64 8)) 46), 47, none⟩,
   ⟨some 0, (Op.assign (Operand.tmp 16)), 47, none⟩]
def r66_9 : List VOp :=
  [⟨some 17, (Op.move (Operand.tmp 2)), 3, none⟩,
   ⟨some 18, (Op.binOp BinOp.add 3 (Operand.tmp 17) (Operand.const (Value.int IntKind.i64 8)) 3), 3, none⟩,
   ⟨some 2, (Op.assign (Operand.tmp 18)), 3, none⟩]
def r66_10 : List VOp :=
  [⟨some 19, (Op.move (Operand.tmp 2)), 3, none⟩,
   ⟨some 20, (Op.move (Operand.tmp 0)), 47, none⟩,
   ⟨some 21, (Op.convert 47 5 (Operand.tmp 20)), 5, none⟩,
   ⟨some 22, (Op.index 9 (Operand.const (Value.string { data := #[0, 1, 2, 2, 3, 3, 3, 3, 4, 4, 4, 4, 4, 4, 4, 4, 5, 5, 5, 5, 5, 5, 5, 5, 5, 5, 5, 5, 5, 5, 5, 5, 6, 6, 6, 6, 6, 6, 6, 6, 6, 6, 6, 6, 6, 6, 6, 6, 6, 6, 6, 6, 6, 6, 6, 6, 6, 6, 6, 6, 6, 6, 6, 6, 7, 7, 7, 7, 7, 7, 7, 7, 7, 7, 7, 7, 7, 7, 7, 7, 7, 7, 7, 7, 7, 7, 7, 7, 7, 7, 7, 7, 7, 7, 7, 7, 7, 7, 7, 7, 7, 7, 7, 7, 7, 7, 7, 7, 7, 7, 7, 7, 7, 7, 7, 7, 7, 7, 7, 7, 7, 7, 7, 7, 7, 7, 7, 7, 8, 8, 8, 8, 8, 8, 8, 8, 8, 8, 8, 8, 8, 8, 8, 8, 8, 8, 8, 8, 8, 8, 8, 8, 8, 8, 8, 8, 8, 8, 8, 8, 8, 8, 8, 8, 8, 8, 8, 8, 8, 8, 8, 8, 8, 8, 8, 8, 8, 8, 8, 8, 8, 8, 8, 8, 8, 8, 8, 8, 8, 8, 8, 8, 8, 8, 8, 8, 8, 8, 8, 8, 8, 8, 8, 8, 8, 8, 8, 8, 8, 8, 8, 8, 8, 8, 8, 8, 8, 8, 8, 8, 8, 8, 8, 8, 8, 8, 8, 8, 8, 8, 8, 8, 8, 8, 8, 8, 8, 8, 8, 8, 8, 8, 8, 8, 8, 8, 8, 8, 8, 8, 8, 8, 8, 8, 8, 8] })) (Operand.tmp 21)), 5, none⟩,
   ⟨some 23, (Op.convert 5 3 (Operand.tmp 22)), 3, none⟩,
   ⟨some 24, (Op.binOp BinOp.add 3 (Operand.tmp 19) (Operand.tmp 23) 3), 3, none⟩,
   ⟨some 2, (Op.assign (Operand.tmp 24)), 3, none⟩]
def B66 : VC :=
  (.seq (.region r66_0) (.seq (.seq (.region r66_1) (.cond (Operand.tmp 4) (.seq (.region r66_2) (.region r66_3)) .skip)) (.seq (.seq (.region r66_4) (.cond (Operand.tmp 8) (.seq (.region r66_5) (.region r66_6)) .skip)) (.seq (.seq (.region r66_7) (.cond (Operand.tmp 14) (.seq (.region r66_8) (.region r66_9)) .skip)) (.seq (.region r66_10) .ret)))))
theorem code66 : ∃ c, Try.f66.body = some c ∧ abs Try.f66.ntmps c = B66 := ⟨_, rfl, by kernel_rfl⟩
theorem hb66 : HasBody Try.prog 66 := hasBody_of Try.func66 (by kernel_rfl)
theorem res66 : Try.f66.results = #[(ResultVar.tmp 2)] := rfl
theorem enter66 {w : World} {R : Value → World → Prop} (x0 : Value) (h : vc Try.prog B66 (retK Try.prog #[(ResultVar.tmp 2)] R) [] (initEnv [x0] 0) w) : FnC Try.prog 66 #[x0] w R := by
  obtain ⟨c, h1, h2⟩ := code66
  exact hb66.fn (ret_of_vc mixed Try.func66 h1 (Nat.le_of_ble_eq_true rfl) B66 h2 h)
@[push_cast] theorem vr66_0 (Q : Post) (ds : List Deferred) (σ : Env) (w : World) : vc Try.prog (.region r66_0) Q ds σ w = vcOps Try.prog [⟨some 2, (Op.assign (Operand.const (Value.int IntKind.i64 0))), 3, none⟩] (Q .normal ds) σ w := mk_eq rfl
@[push_cast] theorem vr66_1 (Q : Post) (ds : List Deferred) (σ : Env) (w : World) : vc Try.prog (.region r66_1) Q ds σ w = vcOps Try.prog [⟨some 3, (Op.move (Operand.tmp 0)), 47, none⟩, ⟨some 4, (Op.binOp BinOp.geq 47 (Operand.tmp 3) (Operand.const (Value.int IntKind.u64 4294967296)) 47), 4, none⟩] (Q .normal ds) σ w := mk_eq rfl
@[push_cast] theorem vr66_2 (Q : Post) (ds : List Deferred) (σ : Env) (w : World) : vc Try.prog (.region r66_2) Q ds σ w = vcOps Try.prog [⟨some 5, (Op.move (Operand.tmp 0)), 47, none⟩, ⟨some 6, (Op.binOp BinOp.shr 47 (Operand.tmp 5) (Operand.const (Value.int IntKind.u64 32)) 46), 47, none⟩, ⟨some 0, (Op.assign (Operand.tmp 6)), 47, none⟩] (Q .normal ds) σ w := mk_eq rfl
@[push_cast] theorem vr66_3 (Q : Post) (ds : List Deferred) (σ : Env) (w : World) : vc Try.prog (.region r66_3) Q ds σ w = vcOps Try.prog [⟨some 2, (Op.assign (Operand.const (Value.int IntKind.i64 32))), 3, none⟩] (Q .normal ds) σ w := mk_eq rfl
@[push_cast] theorem vr66_4 (Q : Post) (ds : List Deferred) (σ : Env) (w : World) : vc Try.prog (.region r66_4) Q ds σ w = vcOps Try.prog [⟨some 7, (Op.move (Operand.tmp 0)), 47, none⟩, ⟨some 8, (Op.binOp BinOp.geq 47 (Operand.tmp 7) (Operand.const (Value.int IntKind.u64 65536)) 47), 4, none⟩] (Q .normal ds) σ w := mk_eq rfl
@[push_cast] theorem vr66_5 (Q : Post) (ds : List Deferred) (σ : Env) (w : World) : vc Try.prog (.region r66_5) Q ds σ w = vcOps Try.prog [⟨some 9, (Op.move (Operand.tmp 0)), 47, none⟩, ⟨some 10, (Op.binOp BinOp.shr 47 (Operand.tmp 9) (Operand.const (Value.int IntKind.u64 16)) 46), 47, none⟩, ⟨some 0, (Op.assign (Operand.tmp 10)), 47, none⟩] (Q .normal ds) σ w := mk_eq rfl
@[push_cast] theorem vr66_6 (Q : Post) (ds : List Deferred) (σ : Env) (w : World) : vc Try.prog (.region r66_6) Q ds σ w = vcOps Try.prog [⟨some 11, (Op.move (Operand.tmp 2)), 3, none⟩, ⟨some 12, (Op.binOp BinOp.add 3 (Operand.tmp 11) (Operand.const (Value.int IntKind.i64 16)) 3), 3, none⟩, ⟨some 2, (Op.assign (Operand.tmp 12)), 3, none⟩] (Q .normal ds) σ w := mk_eq rfl
@[push_cast] theorem vr66_7 (Q : Post) (ds : List Deferred) (σ : Env) (w : World) : vc Try.prog (.region r66_7) Q ds σ w = vcOps Try.prog [⟨some 13, (Op.move (Operand.tmp 0)), 47, none⟩, ⟨some 14, (Op.binOp BinOp.geq 47 (Operand.tmp 13) (Operand.const (Value.int IntKind.u64 256)) 47), 4, none⟩] (Q .normal ds) σ w := mk_eq rfl
@[push_cast] theorem vr66_8 (Q : Post) (ds : List Deferred) (σ : Env) (w : World) : vc Try.prog (.region r66_8) Q ds σ w = vcOps Try.prog [⟨some 15, (Op.move (Operand.tmp 0)), 47, none⟩, ⟨some 16, (Op.binOp BinOp.shr 47 (Operand.tmp 15) (Operand.const (Value.int IntKind.u64 8)) 46), 47, none⟩, ⟨some 0, (Op.assign (Operand.tmp 16)), 47, none⟩] (Q .normal ds) σ w := mk_eq rfl
@[push_cast] theorem vr66_9 (Q : Post) (ds : List Deferred) (σ : Env) (w : World) : vc Try.prog (.region r66_9) Q ds σ w = vcOps Try.prog [⟨some 17, (Op.move (Operand.tmp 2)), 3, none⟩, ⟨some 18, (Op.binOp BinOp.add 3 (Operand.tmp 17) (Operand.const (Value.int IntKind.i64 8)) 3), 3, none⟩, ⟨some 2, (Op.assign (Operand.tmp 18)), 3, none⟩] (Q .normal ds) σ w := mk_eq rfl
@[push_cast] theorem vr66_10 (Q : Post) (ds : List Deferred) (σ : Env) (w : World) : vc Try.prog (.region r66_10) Q ds σ w = vcOps Try.prog [⟨some 19, (Op.move (Operand.tmp 2)), 3, none⟩, ⟨some 20, (Op.move (Operand.tmp 0)), 47, none⟩, ⟨some 21, (Op.convert 47 5 (Operand.tmp 20)), 5, none⟩, ⟨some 22, (Op.index 9 (Operand.const (Value.string { data := #[0, 1, 2, 2, 3, 3, 3, 3, 4, 4, 4, 4, 4, 4, 4, 4, 5, 5, 5, 5, 5, 5, 5, 5, 5, 5, 5, 5, 5, 5, 5, 5, 6, 6, 6, 6, 6, 6, 6, 6, 6, 6, 6, 6, 6, 6, 6, 6, 6, 6, 6, 6, 6, 6, 6, 6, 6, 6, 6, 6, 6, 6, 6, 6, 7, 7, 7, 7, 7, 7, 7, 7, 7, 7, 7, 7, 7, 7, 7, 7, 7, 7, 7, 7, 7, 7, 7, 7, 7, 7, 7, 7, 7, 7, 7, 7, 7, 7, 7, 7, 7, 7, 7, 7, 7, 7, 7, 7, 7, 7, 7, 7, 7, 7, 7, 7, 7, 7, 7, 7, 7, 7, 7, 7, 7, 7, 7, 7, 8, 8, 8, 8, 8, 8, 8, 8, 8, 8, 8, 8, 8, 8, 8, 8, 8, 8, 8, 8, 8, 8, 8, 8, 8, 8, 8, 8, 8, 8, 8, 8, 8, 8, 8, 8, 8, 8, 8, 8, 8, 8, 8, 8, 8, 8, 8, 8, 8, 8, 8, 8, 8, 8, 8, 8, 8, 8, 8, 8, 8, 8, 8, 8, 8, 8, 8, 8, 8, 8, 8, 8, 8, 8, 8, 8, 8, 8, 8, 8, 8, 8, 8, 8, 8, 8, 8, 8, 8, 8, 8, 8, 8, 8, 8, 8, 8, 8, 8, 8, 8, 8, 8, 8, 8, 8, 8, 8, 8, 8, 8, 8, 8, 8, 8, 8, 8, 8, 8, 8, 8, 8, 8, 8, 8, 8, 8, 8] })) (Operand.tmp 21)), 5, none⟩, ⟨some 23, (Op.convert 5 3 (Operand.tmp 22)), 3, none⟩, ⟨some 24, (Op.binOp BinOp.add 3 (Operand.tmp 19) (Operand.tmp 23) 3), 3, none⟩, ⟨some 2, (Op.assign (Operand.tmp 24)), 3, none⟩] (Q .normal ds) σ w := mk_eq rfl
/-! 67 columbary/nibble.Size (params #[3, 3], results #[(ResultVar.tmp 4), (ResultVar.tmp 5)], 26 slots) -/
def r67_0 : List VOp :=
  [⟨some 4, (Op.assign (Operand.const (Value.int IntKind.i64 0))), 3, none⟩,
   ⟨some 5, (Op.assign (Operand.const (Value.int IntKind.i64 0))), 23, none⟩]
def r67_1 : List VOp :=
  [⟨some 6, (Op.move (Operand.tmp 0)), 3, none⟩,
   ⟨some 7, (Op.binOp BinOp.lss 3 (Operand.tmp 6) (Operand.const (Value.int IntKind.i64 0)) 3), 4, none⟩,
   ⟨some 8, (Op.move (Operand.tmp 7)), 4, none⟩,
   ⟨some 9, (Op.move (Operand.tmp 0)), 3, some (8, false)⟩,
   ⟨some 10, (Op.binOp BinOp.gtr 3 (Operand.tmp 9) (Operand.const (Value.int IntKind.i64 65536)) 3), 4, some (8, false)⟩,
   ⟨some 11, (Op.pick (Operand.tmp 8) (Operand.const (Value.bool true)) (Operand.tmp 10)), 4, none⟩,
   ⟨some 12, (Op.move (Operand.tmp 11)), 4, none⟩,
   ⟨some 13, (Op.move (Operand.tmp 1)), 3, some (12, false)⟩,
   ⟨some 14, (Op.binOp BinOp.lss 3 (Operand.tmp 13) (Operand.const (Value.int IntKind.i64 0)) 3), 4, some (12, false)⟩,
   ⟨some 15, (Op.pick (Operand.tmp 12) (Operand.const (Value.bool true)) (Operand.tmp 14)), 4, none⟩,
   ⟨some 16, (Op.move (Operand.tmp 15)), 4, none⟩,
   ⟨some 17, (Op.move (Operand.tmp 1)), 3, some (16, false)⟩,
   ⟨some 18, (Op.binOp BinOp.gtr 3 (Operand.tmp 17) (Operand.const (Value.int IntKind.i64 64)) 3), 4, some (16, false)⟩,
   ⟨some 19, (Op.pick (Operand.tmp 16) (Operand.const (Value.bool true)) (Operand.tmp 18)), 4, none⟩]
def r67_2 : List VOp :=
  [⟨some 4, (Op.assign (Operand.const (Value.int IntKind.i64 0))), 3, none⟩,
   ⟨some 5, (Op.assign (Operand.const (Value.int IntKind.i64 1))), 23, none⟩]
def r67_3 : List VOp :=
  [⟨some 20, (Op.move (Operand.tmp 0)), 3, none⟩,
   ⟨some 21, (Op.move (Operand.tmp 1)), 3, none⟩,
   ⟨some 22, (Op.binOp BinOp.mul 3 (Operand.tmp 20) (Operand.tmp 21) 3), 3, none⟩,
   ⟨some 23, (Op.binOp BinOp.add 3 (Operand.tmp 22) (Operand.const (Value.int IntKind.i64 8)) 3), 3, none⟩,
   ⟨some 24, (Op.binOp BinOp.sub 3 (Operand.tmp 23) (Operand.const (Value.int IntKind.i64 1)) 3), 3, none⟩,
   ⟨some 25, (Op.binOp BinOp.quo 3 (Operand.tmp 24) (Operand.const (Value.int IntKind.i64 8)) 3), 3, none⟩,
   ⟨some 4, (Op.assign (Operand.tmp 25)), 3, none⟩,
   ⟨some 5, (Op.assign (Operand.const (Value.int IntKind.i64 0))), 23, none⟩]
def B67 : VC :=
  (.seq (.region r67_0) (.seq (.seq (.region r67_1) (.cond (Operand.tmp 19) (.seq (.region r67_2) .ret) .skip)) (.seq (.region r67_3) .ret)))
theorem code67 : ∃ c, Try.f67.body = some c ∧ abs Try.f67.ntmps c = B67 := ⟨_, rfl, by kernel_rfl⟩
theorem hb67 : HasBody Try.prog 67 := hasBody_of Try.func67 (by kernel_rfl)
theorem res67 : Try.f67.results = #[(ResultVar.tmp 4), (ResultVar.tmp 5)] := rfl
theorem enter67 {w : World} {R : Value → World → Prop} (x0 x1 : Value) (h : vc Try.prog B67 (retK Try.prog #[(ResultVar.tmp 4), (ResultVar.tmp 5)] R) [] (initEnv [x0, x1] 0) w) : FnC Try.prog 67 #[x0, x1] w R := by
  obtain ⟨c, h1, h2⟩ := code67
  exact hb67.fn (ret_of_vc mixed Try.func67 h1 (Nat.le_of_ble_eq_true rfl) B67 h2 h)
@[push_cast] theorem vr67_0 (Q : Post) (ds : List Deferred) (σ : Env) (w : World) : vc Try.prog (.region r67_0) Q ds σ w = vcOps Try.prog [⟨some 4, (Op.assign (Operand.const (Value.int IntKind.i64 0))), 3, none⟩, ⟨some 5, (Op.assign (Operand.const (Value.int IntKind.i64 0))), 23, none⟩] (Q .normal ds) σ w := mk_eq rfl
@[push_cast] theorem vr67_1 (Q : Post) (ds : List Deferred) (σ : Env) (w : World) : vc Try.prog (.region r67_1) Q ds σ w = vcOps Try.prog [⟨some 6, (Op.move (Operand.tmp 0)), 3, none⟩, ⟨some 7, (Op.binOp BinOp.lss 3 (Operand.tmp 6) (Operand.const (Value.int IntKind.i64 0)) 3), 4, none⟩, ⟨some 8, (Op.move (Operand.tmp 7)), 4, none⟩, ⟨some 9, (Op.move (Operand.tmp 0)), 3, some (8, false)⟩, ⟨some 10, (Op.binOp BinOp.gtr 3 (Operand.tmp 9) (Operand.const (Value.int IntKind.i64 65536)) 3), 4, some (8, false)⟩, ⟨some 11, (Op.pick (Operand.tmp 8) (Operand.const (Value.bool true)) (Operand.tmp 10)), 4, none⟩, ⟨some 12, (Op.move (Operand.tmp 11)), 4, none⟩, ⟨some 13, (Op.move (Operand.tmp 1)), 3, some (12, false)⟩, ⟨some 14, (Op.binOp BinOp.lss 3 (Operand.tmp 13) (Operand.const (Value.int IntKind.i64 0)) 3), 4, some (12, false)⟩, ⟨some 15, (Op.pick (Operand.tmp 12) (Operand.const (Value.bool true)) (Operand.tmp 14)), 4, none⟩, ⟨some 16, (Op.move (Operand.tmp 15)), 4, none⟩, ⟨some 17, (Op.move (Operand.tmp 1)), 3, some (16, false)⟩, ⟨some 18, (Op.binOp BinOp.gtr 3 (Operand.tmp 17) (Operand.const (Value.int IntKind.i64 64)) 3), 4, some (16, false)⟩, ⟨some 19, (Op.pick (Operand.tmp 16) (Operand.const (Value.bool true)) (Operand.tmp 18)), 4, none⟩] (Q .normal ds) σ w := mk_eq rfl
@[push_cast] theorem vr67_2 (Q : Post) (ds : List Deferred) (σ : Env) (w : World) : vc Try.prog (.region r67_2) Q ds σ w = vcOps Try.prog [⟨some 4, (Op.assign (Operand.const (Value.int IntKind.i64 0))), 3, none⟩, ⟨some 5, (Op.assign (Operand.const (Value.int IntKind.i64 1))), 23, none⟩] (Q .normal ds) σ w := mk_eq rfl
@[push_cast] theorem vr67_3 (Q : Post) (ds : List Deferred) (σ : Env) (w : World) : vc Try.prog (.region r67_3) Q ds σ w = vcOps Try.prog [⟨some 20, (Op.move (Operand.tmp 0)), 3, none⟩, ⟨some 21, (Op.move (Operand.tmp 1)), 3, none⟩, ⟨some 22, (Op.binOp BinOp.mul 3 (Operand.tmp 20) (Operand.tmp 21) 3), 3, none⟩, ⟨some 23, (Op.binOp BinOp.add 3 (Operand.tmp 22) (Operand.const (Value.int IntKind.i64 8)) 3), 3, none⟩, ⟨some 24, (Op.binOp BinOp.sub 3 (Operand.tmp 23) (Operand.const (Value.int IntKind.i64 1)) 3), 3, none⟩, ⟨some 25, (Op.binOp BinOp.quo 3 (Operand.tmp 24) (Operand.const (Value.int IntKind.i64 8)) 3), 3, none⟩, ⟨some 4, (Op.assign (Operand.tmp 25)), 3, none⟩, ⟨some 5, (Op.assign (Operand.const (Value.int IntKind.i64 0))), 23, none⟩] (Q .normal ds) σ w := mk_eq rfl
/-! 68 columbary/nibble.Pack$1 (params #[47], results #[], 18 slots) -/
def r68_0 : List VOp :=
  [⟨some 4, (Op.load 36 (Operand.tmp 1)), 36, none⟩,
   ⟨some 5, (Op.load 3 (Operand.tmp 2)), 3, none⟩,
   ⟨some 6, (Op.binOp BinOp.quo 3 (Operand.tmp 5) (Operand.const (Value.int IntKind.i64 8)) 3), 3, none⟩,
   ⟨some 7, (Op.indexAddr 36 (Operand.tmp 4) (Operand.tmp 6)), 0, none⟩,
   ⟨some 8, (Op.load 5 (Operand.tmp 7)), 5, none⟩,
   ⟨some 9, (Op.move (Operand.tmp 0)), 47, none⟩,
   ⟨some 10, (Op.convert 47 5 (Operand.tmp 9)), 5, none⟩,
   ⟨some 11, (Op.load 3 (Operand.tmp 2)), 3, none⟩,
   ⟨some 12, (Op.binOp BinOp.rem 3 (Operand.tmp 11) (Operand.const (Value.int IntKind.i64 8)) 3), 3, none⟩,
   ⟨some 13, (Op.binOp BinOp.shl 5 (Operand.tmp 10) (Operand.tmp 12) 3), 5, none⟩,
   ⟨some 14, (Op.binOp BinOp.or 5 (Operand.tmp 8) (Operand.tmp 13) 5), 5, none⟩,
   ⟨some 15, (Op.indexAddr 36 (Operand.tmp 4) (Operand.tmp 6)), 0, none⟩,
   ⟨none, (Op.store 5 (Operand.tmp 15) (Operand.tmp 14)), 0, none⟩]
def r68_1 : List VOp :=
  [⟨some 16, (Op.load 3 (Operand.tmp 2)), 3, none⟩,
   ⟨some 17, (Op.binOp BinOp.add 3 (Operand.tmp 16) (Operand.const (Value.int IntKind.i64 1)) 3), 3, none⟩,
   ⟨none, (Op.store 3 (Operand.tmp 2) (Operand.tmp 17)), 0, none⟩]
def B68 : VC :=
  (.seq (.draw r68_0 4) (.region r68_1))
theorem code68 : ∃ c, Try.f68.body = some c ∧ abs Try.f68.ntmps c = B68 := ⟨_, rfl, by kernel_rfl⟩
theorem hb68 : HasBody Try.prog 68 := hasBody_of Try.func68 (by kernel_rfl)
theorem res68 : Try.f68.results = #[] := rfl
theorem enter68 {w : World} {R : Value → World → Prop} (x0 x1 x2 : Value) (h : vc Try.prog B68 (retK Try.prog #[] R) [] (initEnv [x0, x1, x2] 0) w) : FnC Try.prog 68 #[x0, x1, x2] w R := by
  obtain ⟨c, h1, h2⟩ := code68
  exact hb68.fn (ret_of_vc mixed Try.func68 h1 (Nat.le_of_ble_eq_true rfl) B68 h2 h)
@[push_cast] theorem vr68_0 (Q : Post) (ds : List Deferred) (σ : Env) (w : World) : vc Try.prog (.draw r68_0 4) Q ds σ w = drawn Try.prog [(⟨some 4, (Op.load 36 (Operand.tmp 1)), 36, none⟩, [1]), (⟨some 5, (Op.load 3 (Operand.tmp 2)), 3, none⟩, [2]), (⟨some 6, (Op.binOp BinOp.quo 3 (Operand.tmp 5) (Operand.const (Value.int IntKind.i64 8)) 3), 3, none⟩, [5]), (⟨some 7, (Op.indexAddr 36 (Operand.tmp 4) (Operand.tmp 6)), 0, none⟩, [4, 6]), (⟨some 8, (Op.load 5 (Operand.tmp 7)), 5, none⟩, [7]), (⟨some 9, (Op.move (Operand.tmp 0)), 47, none⟩, [0]), (⟨some 10, (Op.convert 47 5 (Operand.tmp 9)), 5, none⟩, [9]), (⟨some 11, (Op.load 3 (Operand.tmp 2)), 3, none⟩, [2]), (⟨some 12, (Op.binOp BinOp.rem 3 (Operand.tmp 11) (Operand.const (Value.int IntKind.i64 8)) 3), 3, none⟩, [11]), (⟨some 13, (Op.binOp BinOp.shl 5 (Operand.tmp 10) (Operand.tmp 12) 3), 5, none⟩, [10, 12]), (⟨some 14, (Op.binOp BinOp.or 5 (Operand.tmp 8) (Operand.tmp 13) 5), 5, none⟩, [8, 13]), (⟨some 15, (Op.indexAddr 36 (Operand.tmp 4) (Operand.tmp 6)), 0, none⟩, [4, 6]), (⟨none, (Op.store 5 (Operand.tmp 15) (Operand.tmp 14)), 0, none⟩, [15, 14])] 4 (Q .normal ds) σ w := mk_eq rfl
@[push_cast] theorem vr68_1 (Q : Post) (ds : List Deferred) (σ : Env) (w : World) : vc Try.prog (.region r68_1) Q ds σ w = vcOps Try.prog [⟨some 16, (Op.load 3 (Operand.tmp 2)), 3, none⟩, ⟨some 17, (Op.binOp BinOp.add 3 (Operand.tmp 16) (Operand.const (Value.int IntKind.i64 1)) 3), 3, none⟩, ⟨none, (Op.store 3 (Operand.tmp 2) (Operand.tmp 17)), 0, none⟩] (Q .normal ds) σ w := mk_eq rfl
/-! 70 columbary/columbaryref07.bits (params #[47, 3], results #[(ResultVar.tmp 4)], 21 slots) -/
def W70_0 : List Nat := [0, 5, 6, 7, 8, 9, 10, 11, 12, 13, 14, 15, 16, 17, 18, 19]
@[push_cast] theorem W70_0_def : W70_0 = [0, 5, 6, 7, 8, 9, 10, 11, 12, 13, 14, 15, 16, 17, 18, 19] := mk_eq rfl
def r70_0 : List VOp :=
  [⟨some 4, (Op.assign (Operand.const (Value.slice none 0 0))), 36, none⟩]
def r70_1 : List VOp :=
  [⟨some 5, (Op.assign (Operand.const (Value.slice none 0 0))), 36, none⟩]
def r70_2 : List VOp :=
  [⟨some 6, (Op.assign (Operand.const (Value.int IntKind.i64 0))), 3, none⟩]
def r70_3 : List VOp :=
  [⟨some 7, (Op.move (Operand.tmp 6)), 3, none⟩,
   ⟨some 8, (Op.move (Operand.tmp 1)), 3, none⟩,
   ⟨some 9, (Op.binOp BinOp.lss 3 (Operand.tmp 7) (Operand.tmp 8) 3), 4, none⟩]
def r70_5 : List VOp :=
  [⟨some 12, (Op.move (Operand.tmp 5)), 36, none⟩,
   ⟨some 13, (Op.move (Operand.tmp 0)), 47, none⟩,
   ⟨some 14, (Op.binOp BinOp.rem 47 (Operand.tmp 13) (Operand.const (Value.int IntKind.u64 2)) 47), 47, none⟩,
   ⟨some 15, (Op.convert 47 5 (Operand.tmp 14)), 5, none⟩,
   ⟨some 16, (Op.buildSlice 36 1 #[(0, (Operand.tmp 15))]), 36, none⟩,
   ⟨some 17, (Op.call { callee := (Callee.builtin Builtin.append), args := #[(Operand.tmp 12), (Operand.tmp 16)], argTypes := #[36, 36] }), 36, none⟩,
   ⟨some 5, (Op.assign (Operand.tmp 17)), 36, none⟩]
def r70_6 : List VOp :=
  [⟨some 18, (Op.move (Operand.tmp 0)), 47, none⟩,
   ⟨some 19, (Op.binOp BinOp.quo 47 (Operand.tmp 18) (Operand.const (Value.int IntKind.u64 2)) 47), 47, none⟩,
   ⟨some 0, (Op.assign (Operand.tmp 19)), 47, none⟩]
def r70_4 : List VOp :=
  [⟨some 10, (Op.move (Operand.tmp 6)), 3, none⟩,
   ⟨some 11, (Op.binOp BinOp.add 3 (Operand.tmp 10) (Operand.const (Value.int IntKind.i64 1)) 3), 3, none⟩,
   ⟨some 6, (Op.assign (Operand.tmp 11)), 3, none⟩]
def r70_7 : List VOp :=
  [⟨some 20, (Op.move (Operand.tmp 5)), 36, none⟩,
   ⟨some 4, (Op.assign (Operand.tmp 20)), 36, none⟩]
def B70 : VC :=
  (.seq (.region r70_0) (.seq (.region r70_1) (.seq (.seq (.region r70_2) (.block 0 (.loop (.seq (.seq (.region r70_3) (.cond (Operand.tmp 9) .skip (.exit 0))) (.seq (.block 1 (.seq (.region r70_5) (.region r70_6))) (.region r70_4)))))) (.seq (.region r70_7) .ret))))
theorem code70 : ∃ c, Try.f70.body = some c ∧ abs Try.f70.ntmps c = B70 := ⟨_, rfl, by kernel_rfl⟩
theorem hb70 : HasBody Try.prog 70 := hasBody_of Try.func70 (by kernel_rfl)
theorem res70 : Try.f70.results = #[(ResultVar.tmp 4)] := rfl
theorem enter70 {w : World} {R : Value → World → Prop} (x0 x1 : Value) (h : vc Try.prog B70 (retK Try.prog #[(ResultVar.tmp 4)] R) [] (initEnv [x0, x1] 0) w) : FnC Try.prog 70 #[x0, x1] w R := by
  obtain ⟨c, h1, h2⟩ := code70
  exact hb70.fn (ret_of_vc mixed Try.func70 h1 (Nat.le_of_ble_eq_true rfl) B70 h2 h)
@[push_cast] theorem vr70_0 (Q : Post) (ds : List Deferred) (σ : Env) (w : World) : vc Try.prog (.region r70_0) Q ds σ w = vcOps Try.prog [⟨some 4, (Op.assign (Operand.const (Value.slice none 0 0))), 36, none⟩] (Q .normal ds) σ w := mk_eq rfl
@[push_cast] theorem vr70_1 (Q : Post) (ds : List Deferred) (σ : Env) (w : World) : vc Try.prog (.region r70_1) Q ds σ w = vcOps Try.prog [⟨some 5, (Op.assign (Operand.const (Value.slice none 0 0))), 36, none⟩] (Q .normal ds) σ w := mk_eq rfl
@[push_cast] theorem vr70_2 (Q : Post) (ds : List Deferred) (σ : Env) (w : World) : vc Try.prog (.region r70_2) Q ds σ w = vcOps Try.prog [⟨some 6, (Op.assign (Operand.const (Value.int IntKind.i64 0))), 3, none⟩] (Q .normal ds) σ w := mk_eq rfl
@[push_cast] theorem vr70_3 (Q : Post) (ds : List Deferred) (σ : Env) (w : World) : vc Try.prog (.region r70_3) Q ds σ w = vcOps Try.prog [⟨some 7, (Op.move (Operand.tmp 6)), 3, none⟩, ⟨some 8, (Op.move (Operand.tmp 1)), 3, none⟩, ⟨some 9, (Op.binOp BinOp.lss 3 (Operand.tmp 7) (Operand.tmp 8) 3), 4, none⟩] (Q .normal ds) σ w := mk_eq rfl
@[push_cast] theorem vr70_5 (Q : Post) (ds : List Deferred) (σ : Env) (w : World) : vc Try.prog (.region r70_5) Q ds σ w = vcOps Try.prog [⟨some 12, (Op.move (Operand.tmp 5)), 36, none⟩, ⟨some 13, (Op.move (Operand.tmp 0)), 47, none⟩, ⟨some 14, (Op.binOp BinOp.rem 47 (Operand.tmp 13) (Operand.const (Value.int IntKind.u64 2)) 47), 47, none⟩, ⟨some 15, (Op.convert 47 5 (Operand.tmp 14)), 5, none⟩, ⟨some 16, (Op.buildSlice 36 1 #[(0, (Operand.tmp 15))]), 36, none⟩, ⟨some 17, (Op.call { callee := (Callee.builtin Builtin.append), args := #[(Operand.tmp 12), (Operand.tmp 16)], argTypes := #[36, 36] }), 36, none⟩, ⟨some 5, (Op.assign (Operand.tmp 17)), 36, none⟩] (Q .normal ds) σ w := mk_eq rfl
@[push_cast] theorem vr70_6 (Q : Post) (ds : List Deferred) (σ : Env) (w : World) : vc Try.prog (.region r70_6) Q ds σ w = vcOps Try.prog [⟨some 18, (Op.move (Operand.tmp 0)), 47, none⟩, ⟨some 19, (Op.binOp BinOp.quo 47 (Operand.tmp 18) (Operand.const (Value.int IntKind.u64 2)) 47), 47, none⟩, ⟨some 0, (Op.assign (Operand.tmp 19)), 47, none⟩] (Q .normal ds) σ w := mk_eq rfl
@[push_cast] theorem vr70_4 (Q : Post) (ds : List Deferred) (σ : Env) (w : World) : vc Try.prog (.region r70_4) Q ds σ w = vcOps Try.prog [⟨some 10, (Op.move (Operand.tmp 6)), 3, none⟩, ⟨some 11, (Op.binOp BinOp.add 3 (Operand.tmp 10) (Operand.const (Value.int IntKind.i64 1)) 3), 3, none⟩, ⟨some 6, (Op.assign (Operand.tmp 11)), 3, none⟩] (Q .normal ds) σ w := mk_eq rfl
@[push_cast] theorem vr70_7 (Q : Post) (ds : List Deferred) (σ : Env) (w : World) : vc Try.prog (.region r70_7) Q ds σ w = vcOps Try.prog [⟨some 20, (Op.move (Operand.tmp 5)), 36, none⟩, ⟨some 4, (Op.assign (Operand.tmp 20)), 36, none⟩] (Q .normal ds) σ w := mk_eq rfl
/-! 74 columbary/nibble.number (params #[36, 3, 3], results #[(ResultVar.tmp 6)], 33 slots) -/
def W74_0 : List Nat := [7, 8, 9, 11, 12, 13, 14, 15, 16, 17, 18, 19, 20, 21, 22, 23, 24, 25, 26, 27, 28, 29, 30, 31]
@[push_cast] theorem W74_0_def : W74_0 = [7, 8, 9, 11, 12, 13, 14, 15, 16, 17, 18, 19, 20, 21, 22, 23, 24, 25, 26, 27, 28, 29, 30, 31] := mk_eq rfl
def r74_0 : List VOp :=
  [⟨some 6, (Op.assign (Operand.const (Value.int IntKind.u64 0))), 47, none⟩]
def r74_1 : List VOp :=
  [⟨some 7, (Op.assign (Operand.const (Value.int IntKind.u64 0))), 47, none⟩]
def r74_2 : List VOp :=
  [⟨some 10, (Op.move (Operand.tmp 2)), 3, none⟩,
   ⟨some 11, (Op.move (Operand.const (Value.int IntKind.i64 0))), 3, none⟩]
def r74_3 : List VOp :=
  [⟨some 12, (Op.binOp BinOp.lss 3 (Operand.tmp 11) (Operand.tmp 10) 3), 4, none⟩]
def r74_4 : List VOp :=
  [⟨some 13, (Op.move (Operand.tmp 11)), 3, none⟩,
   ⟨some 8, (Op.assign (Operand.tmp 13)), 3, none⟩]
def r74_5 : List VOp :=
  [⟨some 14, (Op.move (Operand.tmp 1)), 3, none⟩,
   ⟨some 15, (Op.move (Operand.tmp 8)), 3, none⟩,
   ⟨some 16, (Op.binOp BinOp.add 3 (Operand.tmp 14) (Operand.tmp 15) 3), 3, none⟩,
   ⟨some 9, (Op.assign (Operand.tmp 16)), 3, none⟩]
def r74_6 : List VOp :=
  [⟨some 17, (Op.move (Operand.tmp 7)), 47, none⟩,
   ⟨some 18, (Op.move (Operand.tmp 0)), 36, none⟩,
   ⟨some 19, (Op.move (Operand.tmp 9)), 3, none⟩,
   ⟨some 20, (Op.binOp BinOp.quo 3 (Operand.tmp 19) (Operand.const (Value.int IntKind.i64 8)) 3), 3, none⟩,
   ⟨some 21, (Op.indexAddr 36 (Operand.tmp 18) (Operand.tmp 20)), 0, none⟩,
   ⟨some 22, (Op.load 5 (Operand.tmp 21)), 5, none⟩,
   ⟨some 23, (Op.move (Operand.tmp 9)), 3, none⟩,
   ⟨some 24, (Op.binOp BinOp.rem 3 (Operand.tmp 23) (Operand.const (Value.int IntKind.i64 8)) 3), 3, none⟩,
   ⟨some 25, (Op.binOp BinOp.shr 5 (Operand.tmp 22) (Operand.tmp 24) 3), 5, none⟩,
   ⟨some 26, (Op.binOp BinOp.and 5 (Operand.tmp 25) (Operand.const (Value.int IntKind.u8 1)) 5), 5, none⟩,
   ⟨some 27, (Op.convert 5 47 (Operand.tmp 26)), 47, none⟩,
   ⟨some 28, (Op.move (Operand.tmp 8)), 3, none⟩,
   ⟨some 29, (Op.binOp BinOp.shl 47 (Operand.tmp 27) (Operand.tmp 28) 3), 47, none⟩,
   ⟨some 30, (Op.binOp BinOp.or 47 (Operand.tmp 17) (Operand.tmp 29) 47), 47, none⟩,
   ⟨some 7, (Op.assign (Operand.tmp 30)), 47, none⟩]
def r74_7 : List VOp :=
  [⟨some 31, (Op.binOp BinOp.add 3 (Operand.tmp 11) (Operand.const (Value.int IntKind.i64 1)) 3), 3, none⟩,
   ⟨some 11, (Op.move (Operand.tmp 31)), 3, none⟩]
def r74_8 : List VOp :=
  [⟨some 32, (Op.move (Operand.tmp 7)), 47, none⟩,
   ⟨some 6, (Op.assign (Operand.tmp 32)), 47, none⟩]
def B74 : VC :=
  (.seq (.region r74_0) (.seq (.region r74_1) (.seq (.seq (.region r74_2) (.block 0 (.loop (.seq (.region r74_3) (.seq (.cond (Operand.tmp 12) .skip (.exit 0)) (.seq (.block 1 (.seq (.region r74_4) (.seq (.region r74_5) (.region r74_6)))) (.region r74_7))))))) (.seq (.region r74_8) .ret))))
theorem code74 : ∃ c, Try.f74.body = some c ∧ abs Try.f74.ntmps c = B74 := ⟨_, rfl, by kernel_rfl⟩
theorem hb74 : HasBody Try.prog 74 := hasBody_of Try.func74 (by kernel_rfl)
theorem res74 : Try.f74.results = #[(ResultVar.tmp 6)] := rfl
theorem enter74 {w : World} {R : Value → World → Prop} (x0 x1 x2 : Value) (h : vc Try.prog B74 (retK Try.prog #[(ResultVar.tmp 6)] R) [] (initEnv [x0, x1, x2] 0) w) : FnC Try.prog 74 #[x0, x1, x2] w R := by
  obtain ⟨c, h1, h2⟩ := code74
  exact hb74.fn (ret_of_vc mixed Try.func74 h1 (Nat.le_of_ble_eq_true rfl) B74 h2 h)
@[push_cast] theorem vr74_0 (Q : Post) (ds : List Deferred) (σ : Env) (w : World) : vc Try.prog (.region r74_0) Q ds σ w = vcOps Try.prog [⟨some 6, (Op.assign (Operand.const (Value.int IntKind.u64 0))), 47, none⟩] (Q .normal ds) σ w := mk_eq rfl
@[push_cast] theorem vr74_1 (Q : Post) (ds : List Deferred) (σ : Env) (w : World) : vc Try.prog (.region r74_1) Q ds σ w = vcOps Try.prog [⟨some 7, (Op.assign (Operand.const (Value.int IntKind.u64 0))), 47, none⟩] (Q .normal ds) σ w := mk_eq rfl
@[push_cast] theorem vr74_2 (Q : Post) (ds : List Deferred) (σ : Env) (w : World) : vc Try.prog (.region r74_2) Q ds σ w = vcOps Try.prog [⟨some 10, (Op.move (Operand.tmp 2)), 3, none⟩, ⟨some 11, (Op.move (Operand.const (Value.int IntKind.i64 0))), 3, none⟩] (Q .normal ds) σ w := mk_eq rfl
@[push_cast] theorem vr74_3 (Q : Post) (ds : List Deferred) (σ : Env) (w : World) : vc Try.prog (.region r74_3) Q ds σ w = vcOps Try.prog [⟨some 12, (Op.binOp BinOp.lss 3 (Operand.tmp 11) (Operand.tmp 10) 3), 4, none⟩] (Q .normal ds) σ w := mk_eq rfl
@[push_cast] theorem vr74_4 (Q : Post) (ds : List Deferred) (σ : Env) (w : World) : vc Try.prog (.region r74_4) Q ds σ w = vcOps Try.prog [⟨some 13, (Op.move (Operand.tmp 11)), 3, none⟩, ⟨some 8, (Op.assign (Operand.tmp 13)), 3, none⟩] (Q .normal ds) σ w := mk_eq rfl
@[push_cast] theorem vr74_5 (Q : Post) (ds : List Deferred) (σ : Env) (w : World) : vc Try.prog (.region r74_5) Q ds σ w = vcOps Try.prog [⟨some 14, (Op.move (Operand.tmp 1)), 3, none⟩, ⟨some 15, (Op.move (Operand.tmp 8)), 3, none⟩, ⟨some 16, (Op.binOp BinOp.add 3 (Operand.tmp 14) (Operand.tmp 15) 3), 3, none⟩, ⟨some 9, (Op.assign (Operand.tmp 16)), 3, none⟩] (Q .normal ds) σ w := mk_eq rfl
@[push_cast] theorem vr74_6 (Q : Post) (ds : List Deferred) (σ : Env) (w : World) : vc Try.prog (.region r74_6) Q ds σ w = vcOps Try.prog [⟨some 17, (Op.move (Operand.tmp 7)), 47, none⟩, ⟨some 18, (Op.move (Operand.tmp 0)), 36, none⟩, ⟨some 19, (Op.move (Operand.tmp 9)), 3, none⟩, ⟨some 20, (Op.binOp BinOp.quo 3 (Operand.tmp 19) (Operand.const (Value.int IntKind.i64 8)) 3), 3, none⟩, ⟨some 21, (Op.indexAddr 36 (Operand.tmp 18) (Operand.tmp 20)), 0, none⟩, ⟨some 22, (Op.load 5 (Operand.tmp 21)), 5, none⟩, ⟨some 23, (Op.move (Operand.tmp 9)), 3, none⟩, ⟨some 24, (Op.binOp BinOp.rem 3 (Operand.tmp 23) (Operand.const (Value.int IntKind.i64 8)) 3), 3, none⟩, ⟨some 25, (Op.binOp BinOp.shr 5 (Operand.tmp 22) (Operand.tmp 24) 3), 5, none⟩, ⟨some 26, (Op.binOp BinOp.and 5 (Operand.tmp 25) (Operand.const (Value.int IntKind.u8 1)) 5), 5, none⟩, ⟨some 27, (Op.convert 5 47 (Operand.tmp 26)), 47, none⟩, ⟨some 28, (Op.move (Operand.tmp 8)), 3, none⟩, ⟨some 29, (Op.binOp BinOp.shl 47 (Operand.tmp 27) (Operand.tmp 28) 3), 47, none⟩, ⟨some 30, (Op.binOp BinOp.or 47 (Operand.tmp 17) (Operand.tmp 29) 47), 47, none⟩, ⟨some 7, (Op.assign (Operand.tmp 30)), 47, none⟩] (Q .normal ds) σ w := mk_eq rfl
@[push_cast] theorem vr74_7 (Q : Post) (ds : List Deferred) (σ : Env) (w : World) : vc Try.prog (.region r74_7) Q ds σ w = vcOps Try.prog [⟨some 31, (Op.binOp BinOp.add 3 (Operand.tmp 11) (Operand.const (Value.int IntKind.i64 1)) 3), 3, none⟩, ⟨some 11, (Op.move (Operand.tmp 31)), 3, none⟩] (Q .normal ds) σ w := mk_eq rfl
@[push_cast] theorem vr74_8 (Q : Post) (ds : List Deferred) (σ : Env) (w : World) : vc Try.prog (.region r74_8) Q ds σ w = vcOps Try.prog [⟨some 32, (Op.move (Operand.tmp 7)), 47, none⟩, ⟨some 6, (Op.assign (Operand.tmp 32)), 47, none⟩] (Q .normal ds) σ w := mk_eq rfl
/-! 76 columbary/columbaryref07.number (params #[36, 3, 3], results #[(ResultVar.tmp 6)], 34 slots) -/
def W76_0 : List Nat := [7, 8, 11, 12, 13, 14, 15, 16, 17, 18, 19, 20, 21, 22, 23, 24, 25, 26, 27, 28, 29, 30, 31, 32]
@[push_cast] theorem W76_0_def : W76_0 = [7, 8, 11, 12, 13, 14, 15, 16, 17, 18, 19, 20, 21, 22, 23, 24, 25, 26, 27, 28, 29, 30, 31, 32] := mk_eq rfl
def r76_0 : List VOp :=
  [⟨some 6, (Op.assign (Operand.const (Value.int IntKind.u64 0))), 47, none⟩]
def r76_1 : List VOp :=
  [⟨some 7, (Op.assign (Operand.const (Value.int IntKind.u64 0))), 47, none⟩]
def r76_2 : List VOp :=
  [⟨some 9, (Op.move (Operand.tmp 2)), 3, none⟩,
   ⟨some 10, (Op.binOp BinOp.sub 3 (Operand.tmp 9) (Operand.const (Value.int IntKind.i64 1)) 3), 3, none⟩,
   ⟨some 8, (Op.assign (Operand.tmp 10)), 3, none⟩]
def r76_3 : List VOp :=
  [⟨some 11, (Op.move (Operand.tmp 8)), 3, none⟩,
   ⟨some 12, (Op.binOp BinOp.geq 3 (Operand.tmp 11) (Operand.const (Value.int IntKind.i64 0)) 3), 4, none⟩]
def r76_5 : List VOp :=
  [⟨some 15, (Op.move (Operand.tmp 7)), 47, none⟩,
   ⟨some 16, (Op.binOp BinOp.mul 47 (Operand.const (Value.int IntKind.u64 2)) (Operand.tmp 15) 47), 47, none⟩,
   ⟨some 17, (Op.move (Operand.tmp 0)), 36, none⟩,
   ⟨some 18, (Op.move (Operand.tmp 1)), 3, none⟩,
   ⟨some 19, (Op.move (Operand.tmp 8)), 3, none⟩,
   ⟨some 20, (Op.binOp BinOp.add 3 (Operand.tmp 18) (Operand.tmp 19) 3), 3, none⟩,
   ⟨some 21, (Op.binOp BinOp.quo 3 (Operand.tmp 20) (Operand.const (Value.int IntKind.i64 8)) 3), 3, none⟩,
   ⟨some 22, (Op.indexAddr 36 (Operand.tmp 17) (Operand.tmp 21)), 0, none⟩,
   ⟨some 23, (Op.load 5 (Operand.tmp 22)), 5, none⟩,
   ⟨some 24, (Op.move (Operand.tmp 1)), 3, none⟩,
   ⟨some 25, (Op.move (Operand.tmp 8)), 3, none⟩,
   ⟨some 26, (Op.binOp BinOp.add 3 (Operand.tmp 24) (Operand.tmp 25) 3), 3, none⟩,
   ⟨some 27, (Op.binOp BinOp.rem 3 (Operand.tmp 26) (Operand.const (Value.int IntKind.i64 8)) 3), 3, none⟩,
   ⟨some 28, (Op.convert 3 46 (Operand.tmp 27)), 46, none⟩,
   ⟨some 29, (Op.binOp BinOp.shr 5 (Operand.tmp 23) (Operand.tmp 28) 46), 5, none⟩,
   ⟨some 30, (Op.binOp BinOp.rem 5 (Operand.tmp 29) (Operand.const (Value.int IntKind.u8 2)) 5), 5, none⟩,
   ⟨some 31, (Op.convert 5 47 (Operand.tmp 30)), 47, none⟩,
   ⟨some 32, (Op.binOp BinOp.add 47 (Operand.tmp 16) (Operand.tmp 31) 47), 47, none⟩,
   ⟨some 7, (Op.assign (Operand.tmp 32)), 47, none⟩]
def r76_4 : List VOp :=
  [⟨some 13, (Op.move (Operand.tmp 8)), 3, none⟩,
   ⟨some 14, (Op.binOp BinOp.sub 3 (Operand.tmp 13) (Operand.const (Value.int IntKind.i64 1)) 3), 3, none⟩,
   ⟨some 8, (Op.assign (Operand.tmp 14)), 3, none⟩]
def r76_6 : List VOp :=
  [⟨some 33, (Op.move (Operand.tmp 7)), 47, none⟩,
   ⟨some 6, (Op.assign (Operand.tmp 33)), 47, none⟩]
def B76 : VC :=
  (.seq (.region r76_0) (.seq (.region r76_1) (.seq (.seq (.region r76_2) (.block 0 (.loop (.seq (.seq (.region r76_3) (.cond (Operand.tmp 12) .skip (.exit 0))) (.seq (.block 1 (.region r76_5)) (.region r76_4)))))) (.seq (.region r76_6) .ret))))
theorem code76 : ∃ c, Try.f76.body = some c ∧ abs Try.f76.ntmps c = B76 := ⟨_, rfl, by kernel_rfl⟩
theorem hb76 : HasBody Try.prog 76 := hasBody_of Try.func76 (by kernel_rfl)
theorem res76 : Try.f76.results = #[(ResultVar.tmp 6)] := rfl
theorem enter76 {w : World} {R : Value → World → Prop} (x0 x1 x2 : Value) (h : vc Try.prog B76 (retK Try.prog #[(ResultVar.tmp 6)] R) [] (initEnv [x0, x1, x2] 0) w) : FnC Try.prog 76 #[x0, x1, x2] w R := by
  obtain ⟨c, h1, h2⟩ := code76
  exact hb76.fn (ret_of_vc mixed Try.func76 h1 (Nat.le_of_ble_eq_true rfl) B76 h2 h)
@[push_cast] theorem vr76_0 (Q : Post) (ds : List Deferred) (σ : Env) (w : World) : vc Try.prog (.region r76_0) Q ds σ w = vcOps Try.prog [⟨some 6, (Op.assign (Operand.const (Value.int IntKind.u64 0))), 47, none⟩] (Q .normal ds) σ w := mk_eq rfl
@[push_cast] theorem vr76_1 (Q : Post) (ds : List Deferred) (σ : Env) (w : World) : vc Try.prog (.region r76_1) Q ds σ w = vcOps Try.prog [⟨some 7, (Op.assign (Operand.const (Value.int IntKind.u64 0))), 47, none⟩] (Q .normal ds) σ w := mk_eq rfl
@[push_cast] theorem vr76_2 (Q : Post) (ds : List Deferred) (σ : Env) (w : World) : vc Try.prog (.region r76_2) Q ds σ w = vcOps Try.prog [⟨some 9, (Op.move (Operand.tmp 2)), 3, none⟩, ⟨some 10, (Op.binOp BinOp.sub 3 (Operand.tmp 9) (Operand.const (Value.int IntKind.i64 1)) 3), 3, none⟩, ⟨some 8, (Op.assign (Operand.tmp 10)), 3, none⟩] (Q .normal ds) σ w := mk_eq rfl
@[push_cast] theorem vr76_3 (Q : Post) (ds : List Deferred) (σ : Env) (w : World) : vc Try.prog (.region r76_3) Q ds σ w = vcOps Try.prog [⟨some 11, (Op.move (Operand.tmp 8)), 3, none⟩, ⟨some 12, (Op.binOp BinOp.geq 3 (Operand.tmp 11) (Operand.const (Value.int IntKind.i64 0)) 3), 4, none⟩] (Q .normal ds) σ w := mk_eq rfl
@[push_cast] theorem vr76_5 (Q : Post) (ds : List Deferred) (σ : Env) (w : World) : vc Try.prog (.region r76_5) Q ds σ w = vcOps Try.prog [⟨some 15, (Op.move (Operand.tmp 7)), 47, none⟩, ⟨some 16, (Op.binOp BinOp.mul 47 (Operand.const (Value.int IntKind.u64 2)) (Operand.tmp 15) 47), 47, none⟩, ⟨some 17, (Op.move (Operand.tmp 0)), 36, none⟩, ⟨some 18, (Op.move (Operand.tmp 1)), 3, none⟩, ⟨some 19, (Op.move (Operand.tmp 8)), 3, none⟩, ⟨some 20, (Op.binOp BinOp.add 3 (Operand.tmp 18) (Operand.tmp 19) 3), 3, none⟩, ⟨some 21, (Op.binOp BinOp.quo 3 (Operand.tmp 20) (Operand.const (Value.int IntKind.i64 8)) 3), 3, none⟩, ⟨some 22, (Op.indexAddr 36 (Operand.tmp 17) (Operand.tmp 21)), 0, none⟩, ⟨some 23, (Op.load 5 (Operand.tmp 22)), 5, none⟩, ⟨some 24, (Op.move (Operand.tmp 1)), 3, none⟩, ⟨some 25, (Op.move (Operand.tmp 8)), 3, none⟩, ⟨some 26, (Op.binOp BinOp.add 3 (Operand.tmp 24) (Operand.tmp 25) 3), 3, none⟩, ⟨some 27, (Op.binOp BinOp.rem 3 (Operand.tmp 26) (Operand.const (Value.int IntKind.i64 8)) 3), 3, none⟩, ⟨some 28, (Op.convert 3 46 (Operand.tmp 27)), 46, none⟩, ⟨some 29, (Op.binOp BinOp.shr 5 (Operand.tmp 23) (Operand.tmp 28) 46), 5, none⟩, ⟨some 30, (Op.binOp BinOp.rem 5 (Operand.tmp 29) (Operand.const (Value.int IntKind.u8 2)) 5), 5, none⟩, ⟨some 31, (Op.convert 5 47 (Operand.tmp 30)), 47, none⟩, ⟨some 32, (Op.binOp BinOp.add 47 (Operand.tmp 16) (Operand.tmp 31) 47), 47, none⟩, ⟨some 7, (Op.assign (Operand.tmp 32)), 47, none⟩] (Q .normal ds) σ w := mk_eq rfl
@[push_cast] theorem vr76_4 (Q : Post) (ds : List Deferred) (σ : Env) (w : World) : vc Try.prog (.region r76_4) Q ds σ w = vcOps Try.prog [⟨some 13, (Op.move (Operand.tmp 8)), 3, none⟩, ⟨some 14, (Op.binOp BinOp.sub 3 (Operand.tmp 13) (Operand.const (Value.int IntKind.i64 1)) 3), 3, none⟩, ⟨some 8, (Op.assign (Operand.tmp 14)), 3, none⟩] (Q .normal ds) σ w := mk_eq rfl
@[push_cast] theorem vr76_6 (Q : Post) (ds : List Deferred) (σ : Env) (w : World) : vc Try.prog (.region r76_6) Q ds σ w = vcOps Try.prog [⟨some 33, (Op.move (Operand.tmp 7)), 47, none⟩, ⟨some 6, (Op.assign (Operand.tmp 33)), 47, none⟩] (Q .normal ds) σ w := mk_eq rfl
@[push_cast] theorem bsl36_1_CodesN {K : Value → World → Prop} {w : World} (x0 : Int) : vBuildSlice Try.prog 36 1 #[(0, (.int .u8 x0))] K w = K (.slice (some ⟨w.heap.size, 0, none⟩) 1 1) (w.alloc (.cells #[(.int .u8 x0)] 5)) :=
  vBuildSlice_ok Try.underlying36 ti5 (by kernel_rfl) (by decide)
@[push_cast] theorem bsl45_1_CodesN {K : Value → World → Prop} {w : World} (x0 : Int) : vBuildSlice Try.prog 45 1 #[(0, (.int .u64 x0))] K w = K (.slice (some ⟨w.heap.size, 0, none⟩) 1 1) (w.alloc (.cells #[(.int .u64 x0)] 47)) :=
  vBuildSlice_ok Try.underlying45 ti47 (by kernel_rfl) (by decide)
end Go.Proofs.Ytdfdohajjgjbdaa
