/- The functions' code in the generator's form. Written by a program (codes.py) out of Lean's own print of the loaded translation. -/
import Derived.Test.YtkchefbnamiikaaTypes
namespace Go.Proofs.Ytkchefbnamiikaa
open Go.Vc
/-! 13 columbary/columbarylaw07.alive (params #[], results #[(ResultVar.tmp 0)], 37 slots) -/
def r13_0 : List VOp :=
  [⟨some 0, (Op.assign (Operand.const (Value.bool false))), 4, none⟩]
def r13_1 : List VOp :=
  [⟨some 6, (Op.buildSlice 22 3 #[(0, (Operand.const (Value.int IntKind.u64 5))), (1, (Operand.const (Value.int IntKind.u64 2))), (2, (Operand.const (Value.int IntKind.u64 7)))]), 22, none⟩,
   ⟨some 1, (Op.assign (Operand.tmp 6)), 22, none⟩]
def r13_2 : List VOp :=
  [⟨some 8, (Op.move (Operand.tmp 1)), 22, none⟩,
   ⟨some 9, (Op.call { callee := (Callee.value (Operand.func 14)), args := #[(Operand.tmp 8), (Operand.const (Value.int IntKind.i64 3))], argTypes := #[22, 3] }), 26, none⟩,
   ⟨some 7, (Op.move (Operand.tmp 9)), 26, none⟩,
   ⟨some 10, (Op.extract (Operand.tmp 7) 0), 24, none⟩,
   ⟨some 11, (Op.extract (Operand.tmp 7) 1), 25, none⟩,
   ⟨some 2, (Op.assign (Operand.tmp 10)), 24, none⟩,
   ⟨some 3, (Op.assign (Operand.tmp 11)), 25, none⟩]
def r13_3 : List VOp :=
  [⟨some 13, (Op.move (Operand.tmp 2)), 24, none⟩,
   ⟨some 14, (Op.call { callee := (Callee.value (Operand.func 22)), args := #[(Operand.tmp 13), (Operand.const (Value.int IntKind.i64 2)), (Operand.const (Value.int IntKind.i64 3))], argTypes := #[24, 3, 3] }), 38, none⟩,
   ⟨some 12, (Op.move (Operand.tmp 14)), 38, none⟩,
   ⟨some 15, (Op.extract (Operand.tmp 12) 0), 32, none⟩,
   ⟨some 16, (Op.extract (Operand.tmp 12) 1), 25, none⟩,
   ⟨some 4, (Op.assign (Operand.tmp 15)), 32, none⟩,
   ⟨some 5, (Op.assign (Operand.tmp 16)), 25, none⟩]
def r13_4 : List VOp :=
  [⟨some 17, (Op.move (Operand.tmp 3)), 25, none⟩,
   ⟨some 18, (Op.binOp BinOp.eql 25 (Operand.tmp 17) (Operand.const (Value.int IntKind.i64 0)) 25), 4, none⟩,
   ⟨some 19, (Op.move (Operand.tmp 18)), 4, none⟩,
   ⟨some 20, (Op.move (Operand.tmp 5)), 25, some (19, true)⟩,
   ⟨some 21, (Op.binOp BinOp.eql 25 (Operand.tmp 20) (Operand.const (Value.int IntKind.i64 0)) 25), 4, some (19, true)⟩,
   ⟨some 22, (Op.pick (Operand.tmp 19) (Operand.tmp 21) (Operand.const (Value.bool false))), 4, none⟩,
   ⟨some 23, (Op.move (Operand.tmp 22)), 4, none⟩,
   ⟨some 24, (Op.move (Operand.tmp 2)), 24, some (23, true)⟩,
   ⟨some 25, (Op.convert 24 9 (Operand.tmp 24)), 9, some (23, true)⟩,
   ⟨some 26, (Op.binOp BinOp.eql 9 (Operand.tmp 25) (Operand.const (Value.string { data := #[213, 1] })) 9), 4, some (23, true)⟩,
   ⟨some 27, (Op.pick (Operand.tmp 23) (Operand.tmp 26) (Operand.const (Value.bool false))), 4, none⟩,
   ⟨some 28, (Op.move (Operand.tmp 27)), 4, none⟩,
   ⟨some 29, (Op.move (Operand.tmp 4)), 32, some (28, true)⟩,
   ⟨some 30, (Op.binOp BinOp.eql 32 (Operand.tmp 29) (Operand.const (Value.int IntKind.u64 7)) 32), 4, some (28, true)⟩,
   ⟨some 31, (Op.pick (Operand.tmp 28) (Operand.tmp 30) (Operand.const (Value.bool false))), 4, none⟩,
   ⟨some 32, (Op.move (Operand.tmp 31)), 4, none⟩,
   ⟨some 33, (Op.move (Operand.tmp 1)), 22, some (32, true)⟩,
   ⟨some 34, (Op.call { callee := (Callee.value (Operand.func 18)), args := #[(Operand.tmp 33)], argTypes := #[22] }), 3, some (32, true)⟩,
   ⟨some 35, (Op.binOp BinOp.eql 3 (Operand.tmp 34) (Operand.const (Value.int IntKind.i64 3)) 3), 4, some (32, true)⟩,
   ⟨some 36, (Op.pick (Operand.tmp 32) (Operand.tmp 35) (Operand.const (Value.bool false))), 4, none⟩,
   ⟨some 0, (Op.assign (Operand.tmp 36)), 4, none⟩]
def B13 : VC :=
  (.seq (.region r13_0) (.seq (.region r13_1) (.seq (.region r13_2) (.seq (.region r13_3) (.seq (.region r13_4) .ret)))))
theorem code13 : ∃ c, Try.f13.body = some c ∧ abs Try.f13.ntmps c = B13 := ⟨_, rfl, by kernel_rfl⟩
theorem hb13 : HasBody Try.prog 13 := hasBody_of Try.func13 (by kernel_rfl)
theorem res13 : Try.f13.results = #[(ResultVar.tmp 0)] := rfl
theorem enter13 {w : World} {R : Value → World → Prop} (h : vc Try.prog B13 (retK Try.prog #[(ResultVar.tmp 0)] R) [] (initEnv [] 0) w) : FnC Try.prog 13 #[] w R := by
  obtain ⟨c, h1, h2⟩ := code13
  exact hb13.fn (ret_of_vc mixed Try.func13 h1 (Nat.le_of_ble_eq_true rfl) B13 h2 h)
@[push_cast] theorem vr13_0 (Q : Post) (ds : List Deferred) (σ : Env) (w : World) : vc Try.prog (.region r13_0) Q ds σ w = vcOps Try.prog [⟨some 0, (Op.assign (Operand.const (Value.bool false))), 4, none⟩] (Q .normal ds) σ w := mk_eq rfl
@[push_cast] theorem vr13_1 (Q : Post) (ds : List Deferred) (σ : Env) (w : World) : vc Try.prog (.region r13_1) Q ds σ w = vcOps Try.prog [⟨some 6, (Op.buildSlice 22 3 #[(0, (Operand.const (Value.int IntKind.u64 5))), (1, (Operand.const (Value.int IntKind.u64 2))), (2, (Operand.const (Value.int IntKind.u64 7)))]), 22, none⟩, ⟨some 1, (Op.assign (Operand.tmp 6)), 22, none⟩] (Q .normal ds) σ w := mk_eq rfl
@[push_cast] theorem vr13_2 (Q : Post) (ds : List Deferred) (σ : Env) (w : World) : vc Try.prog (.region r13_2) Q ds σ w = vcOps Try.prog [⟨some 8, (Op.move (Operand.tmp 1)), 22, none⟩, ⟨some 9, (Op.call { callee := (Callee.value (Operand.func 14)), args := #[(Operand.tmp 8), (Operand.const (Value.int IntKind.i64 3))], argTypes := #[22, 3] }), 26, none⟩, ⟨some 7, (Op.move (Operand.tmp 9)), 26, none⟩, ⟨some 10, (Op.extract (Operand.tmp 7) 0), 24, none⟩, ⟨some 11, (Op.extract (Operand.tmp 7) 1), 25, none⟩, ⟨some 2, (Op.assign (Operand.tmp 10)), 24, none⟩, ⟨some 3, (Op.assign (Operand.tmp 11)), 25, none⟩] (Q .normal ds) σ w := mk_eq rfl
@[push_cast] theorem vr13_3 (Q : Post) (ds : List Deferred) (σ : Env) (w : World) : vc Try.prog (.region r13_3) Q ds σ w = vcOps Try.prog [⟨some 13, (Op.move (Operand.tmp 2)), 24, none⟩, ⟨some 14, (Op.call { callee := (Callee.value (Operand.func 22)), args := #[(Operand.tmp 13), (Operand.const (Value.int IntKind.i64 2)), (Operand.const (Value.int IntKind.i64 3))], argTypes := #[24, 3, 3] }), 38, none⟩, ⟨some 12, (Op.move (Operand.tmp 14)), 38, none⟩, ⟨some 15, (Op.extract (Operand.tmp 12) 0), 32, none⟩, ⟨some 16, (Op.extract (Operand.tmp 12) 1), 25, none⟩, ⟨some 4, (Op.assign (Operand.tmp 15)), 32, none⟩, ⟨some 5, (Op.assign (Operand.tmp 16)), 25, none⟩] (Q .normal ds) σ w := mk_eq rfl
@[push_cast] theorem vr13_4 (Q : Post) (ds : List Deferred) (σ : Env) (w : World) : vc Try.prog (.region r13_4) Q ds σ w = vcOps Try.prog [⟨some 17, (Op.move (Operand.tmp 3)), 25, none⟩, ⟨some 18, (Op.binOp BinOp.eql 25 (Operand.tmp 17) (Operand.const (Value.int IntKind.i64 0)) 25), 4, none⟩, ⟨some 19, (Op.move (Operand.tmp 18)), 4, none⟩, ⟨some 20, (Op.move (Operand.tmp 5)), 25, some (19, true)⟩, ⟨some 21, (Op.binOp BinOp.eql 25 (Operand.tmp 20) (Operand.const (Value.int IntKind.i64 0)) 25), 4, some (19, true)⟩, ⟨some 22, (Op.pick (Operand.tmp 19) (Operand.tmp 21) (Operand.const (Value.bool false))), 4, none⟩, ⟨some 23, (Op.move (Operand.tmp 22)), 4, none⟩, ⟨some 24, (Op.move (Operand.tmp 2)), 24, some (23, true)⟩, ⟨some 25, (Op.convert 24 9 (Operand.tmp 24)), 9, some (23, true)⟩, ⟨some 26, (Op.binOp BinOp.eql 9 (Operand.tmp 25) (Operand.const (Value.string { data := #[213, 1] })) 9), 4, some (23, true)⟩, ⟨some 27, (Op.pick (Operand.tmp 23) (Operand.tmp 26) (Operand.const (Value.bool false))), 4, none⟩, ⟨some 28, (Op.move (Operand.tmp 27)), 4, none⟩, ⟨some 29, (Op.move (Operand.tmp 4)), 32, some (28, true)⟩, ⟨some 30, (Op.binOp BinOp.eql 32 (Operand.tmp 29) (Operand.const (Value.int IntKind.u64 7)) 32), 4, some (28, true)⟩, ⟨some 31, (Op.pick (Operand.tmp 28) (Operand.tmp 30) (Operand.const (Value.bool false))), 4, none⟩, ⟨some 32, (Op.move (Operand.tmp 31)), 4, none⟩, ⟨some 33, (Op.move (Operand.tmp 1)), 22, some (32, true)⟩, ⟨some 34, (Op.call { callee := (Callee.value (Operand.func 18)), args := #[(Operand.tmp 33)], argTypes := #[22] }), 3, some (32, true)⟩, ⟨some 35, (Op.binOp BinOp.eql 3 (Operand.tmp 34) (Operand.const (Value.int IntKind.i64 3)) 3), 4, some (32, true)⟩, ⟨some 36, (Op.pick (Operand.tmp 32) (Operand.tmp 35) (Operand.const (Value.bool false))), 4, none⟩, ⟨some 0, (Op.assign (Operand.tmp 36)), 4, none⟩] (Q .normal ds) σ w := mk_eq rfl
/-! 14 columbary/nibble.Pack (params #[22, 3], results #[(ResultVar.tmp 4), (ResultVar.tmp 5)], 52 slots) -/
def W14_0 : List Nat := [12, 13, 35, 36, 37, 38, 39, 40, 41, 42, 43, 44, 45, 46, 47, 48, 49, 50]
@[push_cast] theorem W14_0_def : W14_0 = [12, 13, 35, 36, 37, 38, 39, 40, 41, 42, 43, 44, 45, 46, 47, 48, 49, 50] := mk_eq rfl
def W14_1 : List Nat := [13, 40, 41, 42, 43, 44, 45, 46, 47, 48, 49]
@[push_cast] theorem W14_1_def : W14_1 = [13, 40, 41, 42, 43, 44, 45, 46, 47, 48, 49] := mk_eq rfl
def r14_0 : List VOp :=
  [⟨some 4, (Op.assign (Operand.const (Value.slice none 0 0))), 24, none⟩,
   ⟨some 5, (Op.assign (Operand.const (Value.int IntKind.i64 0))), 25, none⟩]
def r14_1 : List VOp :=
  [⟨some 15, (Op.move (Operand.tmp 0)), 22, none⟩,
   ⟨some 16, (Op.call { callee := (Callee.builtin Builtin.len), args := #[(Operand.tmp 15)], argTypes := #[22] }), 3, none⟩,
   ⟨some 17, (Op.move (Operand.tmp 1)), 3, none⟩,
   ⟨some 18, (Op.call { callee := (Callee.value (Operand.func 16)), args := #[(Operand.tmp 16), (Operand.tmp 17)], argTypes := #[3, 3] }), 28, none⟩,
   ⟨some 14, (Op.move (Operand.tmp 18)), 28, none⟩,
   ⟨some 19, (Op.extract (Operand.tmp 14) 0), 3, none⟩,
   ⟨some 20, (Op.extract (Operand.tmp 14) 1), 25, none⟩,
   ⟨some 6, (Op.assign (Operand.tmp 19)), 3, none⟩,
   ⟨some 7, (Op.assign (Operand.tmp 20)), 25, none⟩]
def r14_2 : List VOp :=
  [⟨some 22, (Op.move (Operand.tmp 7)), 25, none⟩,
   ⟨some 23, (Op.binOp BinOp.neq 25 (Operand.tmp 22) (Operand.const (Value.int IntKind.i64 0)) 25), 4, none⟩,
   ⟨some 21, (Op.assign (Operand.tmp 23)), 4, none⟩]
def r14_3 : List VOp :=
  [⟨some 24, (Op.move (Operand.tmp 7)), 25, none⟩,
   ⟨some 4, (Op.assign (Operand.const (Value.slice none 0 0))), 24, none⟩,
   ⟨some 5, (Op.assign (Operand.tmp 24)), 25, none⟩]
def r14_4 : List VOp :=
  [⟨some 26, (Op.move (Operand.tmp 0)), 22, none⟩,
   ⟨some 27, (Op.call { callee := (Callee.value (Operand.func 18)), args := #[(Operand.tmp 26)], argTypes := #[22] }), 3, none⟩,
   ⟨some 28, (Op.move (Operand.tmp 1)), 3, none⟩,
   ⟨some 29, (Op.binOp BinOp.gtr 3 (Operand.tmp 27) (Operand.tmp 28) 3), 4, none⟩,
   ⟨some 25, (Op.assign (Operand.tmp 29)), 4, none⟩]
def r14_5 : List VOp :=
  [⟨some 4, (Op.assign (Operand.const (Value.slice none 0 0))), 24, none⟩,
   ⟨some 5, (Op.assign (Operand.const (Value.int IntKind.i64 71))), 25, none⟩]
def r14_6 : List VOp :=
  [⟨some 30, (Op.move (Operand.tmp 6)), 3, none⟩,
   ⟨some 31, (Op.makeSlice 24 (Operand.tmp 30) (Operand.tmp 30)), 24, none⟩,
   ⟨some 8, (Op.alloc 24), 0, none⟩,
   ⟨none, (Op.store 24 (Operand.tmp 8) (Operand.tmp 31)), 0, none⟩]
def r14_7 : List VOp :=
  [⟨some 9, (Op.alloc 3), 0, none⟩,
   ⟨none, (Op.store 3 (Operand.tmp 9) (Operand.const (Value.int IntKind.i64 0))), 0, none⟩]
def r14_8 : List VOp :=
  [⟨some 32, (Op.makeFunc (Fn.func 35) #[] #[(Operand.tmp 8), (Operand.tmp 9)]), 57, none⟩,
   ⟨some 10, (Op.assign (Operand.tmp 32)), 57, none⟩]
def r14_9 : List VOp :=
  [⟨some 33, (Op.move (Operand.tmp 0)), 22, none⟩,
   ⟨some 34, (Op.call { callee := (Callee.builtin Builtin.len), args := #[(Operand.tmp 33)], argTypes := #[22] }), 3, none⟩,
   ⟨some 35, (Op.move (Operand.const (Value.int IntKind.i64 0))), 3, none⟩]
def r14_10 : List VOp :=
  [⟨some 36, (Op.binOp BinOp.lss 3 (Operand.tmp 35) (Operand.tmp 34) 3), 0, none⟩]
def r14_11 : List VOp :=
  [⟨some 37, (Op.indexAddr 22 (Operand.tmp 33) (Operand.tmp 35)), 0, none⟩,
   ⟨some 38, (Op.load 32 (Operand.tmp 37)), 32, none⟩,
   ⟨some 12, (Op.assign (Operand.tmp 38)), 32, none⟩]
def r14_12 : List VOp :=
  [⟨some 39, (Op.move (Operand.tmp 1)), 3, none⟩,
   ⟨some 40, (Op.move (Operand.const (Value.int IntKind.i64 0))), 3, none⟩]
def r14_13 : List VOp :=
  [⟨some 41, (Op.binOp BinOp.lss 3 (Operand.tmp 40) (Operand.tmp 39) 3), 4, none⟩]
def r14_14 : List VOp :=
  [⟨some 42, (Op.move (Operand.tmp 40)), 3, none⟩,
   ⟨some 13, (Op.assign (Operand.tmp 42)), 3, none⟩]
def r14_15 : List VOp :=
  [⟨some 43, (Op.move (Operand.tmp 10)), 57, none⟩,
   ⟨some 44, (Op.move (Operand.tmp 12)), 32, none⟩,
   ⟨some 45, (Op.move (Operand.tmp 13)), 3, none⟩,
   ⟨some 46, (Op.binOp BinOp.shr 32 (Operand.tmp 44) (Operand.tmp 45) 3), 32, none⟩,
   ⟨some 47, (Op.binOp BinOp.and 32 (Operand.tmp 46) (Operand.const (Value.int IntKind.u64 1)) 32), 32, none⟩,
   ⟨some 48, (Op.call { callee := (Callee.value (Operand.tmp 43)), args := #[(Operand.tmp 47)], argTypes := #[32] }), 0, none⟩]
def r14_16 : List VOp :=
  [⟨some 49, (Op.binOp BinOp.add 3 (Operand.tmp 40) (Operand.const (Value.int IntKind.i64 1)) 3), 3, none⟩,
   ⟨some 40, (Op.move (Operand.tmp 49)), 3, none⟩]
def r14_17 : List VOp :=
  [⟨some 50, (Op.binOp BinOp.add 3 (Operand.tmp 35) (Operand.const (Value.int IntKind.i64 1)) 3), 3, none⟩,
   ⟨some 35, (Op.move (Operand.tmp 50)), 3, none⟩]
def r14_18 : List VOp :=
  [⟨some 51, (Op.load 24 (Operand.tmp 8)), 24, none⟩,
   ⟨some 4, (Op.assign (Operand.tmp 51)), 24, none⟩,
   ⟨some 5, (Op.assign (Operand.const (Value.int IntKind.i64 0))), 25, none⟩]
def B14 : VC :=
  (.seq (.region r14_0) (.seq (.region r14_1) (.seq (.block 0 (.seq (.region r14_2) (.cond (Operand.tmp 21) (.seq (.region r14_3) .ret) (.seq (.region r14_4) (.cond (Operand.tmp 25) (.seq (.region r14_5) .ret) .skip))))) (.seq (.region r14_6) (.seq (.region r14_7) (.seq (.region r14_8) (.seq (.seq (.region r14_9) (.block 1 (.loop (.seq (.region r14_10) (.seq (.cond (Operand.tmp 36) .skip (.exit 1)) (.seq (.block 2 (.seq (.region r14_11) (.seq (.region r14_12) (.block 3 (.loop (.seq (.region r14_13) (.seq (.cond (Operand.tmp 41) .skip (.exit 3)) (.seq (.block 4 (.seq (.region r14_14) (.region r14_15))) (.region r14_16))))))))) (.region r14_17))))))) (.seq (.region r14_18) .ret))))))))
theorem code14 : ∃ c, Try.f14.body = some c ∧ abs Try.f14.ntmps c = B14 := ⟨_, rfl, by kernel_rfl⟩
theorem hb14 : HasBody Try.prog 14 := hasBody_of Try.func14 (by kernel_rfl)
theorem res14 : Try.f14.results = #[(ResultVar.tmp 4), (ResultVar.tmp 5)] := rfl
theorem enter14 {w : World} {R : Value → World → Prop} (x0 x1 : Value) (h : vc Try.prog B14 (retK Try.prog #[(ResultVar.tmp 4), (ResultVar.tmp 5)] R) [] (initEnv [x0, x1] 0) w) : FnC Try.prog 14 #[x0, x1] w R := by
  obtain ⟨c, h1, h2⟩ := code14
  exact hb14.fn (ret_of_vc mixed Try.func14 h1 (Nat.le_of_ble_eq_true rfl) B14 h2 h)
@[push_cast] theorem vr14_0 (Q : Post) (ds : List Deferred) (σ : Env) (w : World) : vc Try.prog (.region r14_0) Q ds σ w = vcOps Try.prog [⟨some 4, (Op.assign (Operand.const (Value.slice none 0 0))), 24, none⟩, ⟨some 5, (Op.assign (Operand.const (Value.int IntKind.i64 0))), 25, none⟩] (Q .normal ds) σ w := mk_eq rfl
@[push_cast] theorem vr14_1 (Q : Post) (ds : List Deferred) (σ : Env) (w : World) : vc Try.prog (.region r14_1) Q ds σ w = vcOps Try.prog [⟨some 15, (Op.move (Operand.tmp 0)), 22, none⟩, ⟨some 16, (Op.call { callee := (Callee.builtin Builtin.len), args := #[(Operand.tmp 15)], argTypes := #[22] }), 3, none⟩, ⟨some 17, (Op.move (Operand.tmp 1)), 3, none⟩, ⟨some 18, (Op.call { callee := (Callee.value (Operand.func 16)), args := #[(Operand.tmp 16), (Operand.tmp 17)], argTypes := #[3, 3] }), 28, none⟩, ⟨some 14, (Op.move (Operand.tmp 18)), 28, none⟩, ⟨some 19, (Op.extract (Operand.tmp 14) 0), 3, none⟩, ⟨some 20, (Op.extract (Operand.tmp 14) 1), 25, none⟩, ⟨some 6, (Op.assign (Operand.tmp 19)), 3, none⟩, ⟨some 7, (Op.assign (Operand.tmp 20)), 25, none⟩] (Q .normal ds) σ w := mk_eq rfl
@[push_cast] theorem vr14_2 (Q : Post) (ds : List Deferred) (σ : Env) (w : World) : vc Try.prog (.region r14_2) Q ds σ w = vcOps Try.prog [⟨some 22, (Op.move (Operand.tmp 7)), 25, none⟩, ⟨some 23, (Op.binOp BinOp.neq 25 (Operand.tmp 22) (Operand.const (Value.int IntKind.i64 0)) 25), 4, none⟩, ⟨some 21, (Op.assign (Operand.tmp 23)), 4, none⟩] (Q .normal ds) σ w := mk_eq rfl
@[push_cast] theorem vr14_3 (Q : Post) (ds : List Deferred) (σ : Env) (w : World) : vc Try.prog (.region r14_3) Q ds σ w = vcOps Try.prog [⟨some 24, (Op.move (Operand.tmp 7)), 25, none⟩, ⟨some 4, (Op.assign (Operand.const (Value.slice none 0 0))), 24, none⟩, ⟨some 5, (Op.assign (Operand.tmp 24)), 25, none⟩] (Q .normal ds) σ w := mk_eq rfl
@[push_cast] theorem vr14_4 (Q : Post) (ds : List Deferred) (σ : Env) (w : World) : vc Try.prog (.region r14_4) Q ds σ w = vcOps Try.prog [⟨some 26, (Op.move (Operand.tmp 0)), 22, none⟩, ⟨some 27, (Op.call { callee := (Callee.value (Operand.func 18)), args := #[(Operand.tmp 26)], argTypes := #[22] }), 3, none⟩, ⟨some 28, (Op.move (Operand.tmp 1)), 3, none⟩, ⟨some 29, (Op.binOp BinOp.gtr 3 (Operand.tmp 27) (Operand.tmp 28) 3), 4, none⟩, ⟨some 25, (Op.assign (Operand.tmp 29)), 4, none⟩] (Q .normal ds) σ w := mk_eq rfl
@[push_cast] theorem vr14_5 (Q : Post) (ds : List Deferred) (σ : Env) (w : World) : vc Try.prog (.region r14_5) Q ds σ w = vcOps Try.prog [⟨some 4, (Op.assign (Operand.const (Value.slice none 0 0))), 24, none⟩, ⟨some 5, (Op.assign (Operand.const (Value.int IntKind.i64 71))), 25, none⟩] (Q .normal ds) σ w := mk_eq rfl
@[push_cast] theorem vr14_6 (Q : Post) (ds : List Deferred) (σ : Env) (w : World) : vc Try.prog (.region r14_6) Q ds σ w = vcOps Try.prog [⟨some 30, (Op.move (Operand.tmp 6)), 3, none⟩, ⟨some 31, (Op.makeSlice 24 (Operand.tmp 30) (Operand.tmp 30)), 24, none⟩, ⟨some 8, (Op.alloc 24), 0, none⟩, ⟨none, (Op.store 24 (Operand.tmp 8) (Operand.tmp 31)), 0, none⟩] (Q .normal ds) σ w := mk_eq rfl
@[push_cast] theorem vr14_7 (Q : Post) (ds : List Deferred) (σ : Env) (w : World) : vc Try.prog (.region r14_7) Q ds σ w = vcOps Try.prog [⟨some 9, (Op.alloc 3), 0, none⟩, ⟨none, (Op.store 3 (Operand.tmp 9) (Operand.const (Value.int IntKind.i64 0))), 0, none⟩] (Q .normal ds) σ w := mk_eq rfl
@[push_cast] theorem vr14_8 (Q : Post) (ds : List Deferred) (σ : Env) (w : World) : vc Try.prog (.region r14_8) Q ds σ w = vcOps Try.prog [⟨some 32, (Op.makeFunc (Fn.func 35) #[] #[(Operand.tmp 8), (Operand.tmp 9)]), 57, none⟩, ⟨some 10, (Op.assign (Operand.tmp 32)), 57, none⟩] (Q .normal ds) σ w := mk_eq rfl
@[push_cast] theorem vr14_9 (Q : Post) (ds : List Deferred) (σ : Env) (w : World) : vc Try.prog (.region r14_9) Q ds σ w = vcOps Try.prog [⟨some 33, (Op.move (Operand.tmp 0)), 22, none⟩, ⟨some 34, (Op.call { callee := (Callee.builtin Builtin.len), args := #[(Operand.tmp 33)], argTypes := #[22] }), 3, none⟩, ⟨some 35, (Op.move (Operand.const (Value.int IntKind.i64 0))), 3, none⟩] (Q .normal ds) σ w := mk_eq rfl
@[push_cast] theorem vr14_10 (Q : Post) (ds : List Deferred) (σ : Env) (w : World) : vc Try.prog (.region r14_10) Q ds σ w = vcOps Try.prog [⟨some 36, (Op.binOp BinOp.lss 3 (Operand.tmp 35) (Operand.tmp 34) 3), 0, none⟩] (Q .normal ds) σ w := mk_eq rfl
@[push_cast] theorem vr14_11 (Q : Post) (ds : List Deferred) (σ : Env) (w : World) : vc Try.prog (.region r14_11) Q ds σ w = vcOps Try.prog [⟨some 37, (Op.indexAddr 22 (Operand.tmp 33) (Operand.tmp 35)), 0, none⟩, ⟨some 38, (Op.load 32 (Operand.tmp 37)), 32, none⟩, ⟨some 12, (Op.assign (Operand.tmp 38)), 32, none⟩] (Q .normal ds) σ w := mk_eq rfl
@[push_cast] theorem vr14_12 (Q : Post) (ds : List Deferred) (σ : Env) (w : World) : vc Try.prog (.region r14_12) Q ds σ w = vcOps Try.prog [⟨some 39, (Op.move (Operand.tmp 1)), 3, none⟩, ⟨some 40, (Op.move (Operand.const (Value.int IntKind.i64 0))), 3, none⟩] (Q .normal ds) σ w := mk_eq rfl
@[push_cast] theorem vr14_13 (Q : Post) (ds : List Deferred) (σ : Env) (w : World) : vc Try.prog (.region r14_13) Q ds σ w = vcOps Try.prog [⟨some 41, (Op.binOp BinOp.lss 3 (Operand.tmp 40) (Operand.tmp 39) 3), 4, none⟩] (Q .normal ds) σ w := mk_eq rfl
@[push_cast] theorem vr14_14 (Q : Post) (ds : List Deferred) (σ : Env) (w : World) : vc Try.prog (.region r14_14) Q ds σ w = vcOps Try.prog [⟨some 42, (Op.move (Operand.tmp 40)), 3, none⟩, ⟨some 13, (Op.assign (Operand.tmp 42)), 3, none⟩] (Q .normal ds) σ w := mk_eq rfl
@[push_cast] theorem vr14_15 (Q : Post) (ds : List Deferred) (σ : Env) (w : World) : vc Try.prog (.region r14_15) Q ds σ w = vcOps Try.prog [⟨some 43, (Op.move (Operand.tmp 10)), 57, none⟩, ⟨some 44, (Op.move (Operand.tmp 12)), 32, none⟩, ⟨some 45, (Op.move (Operand.tmp 13)), 3, none⟩, ⟨some 46, (Op.binOp BinOp.shr 32 (Operand.tmp 44) (Operand.tmp 45) 3), 32, none⟩, ⟨some 47, (Op.binOp BinOp.and 32 (Operand.tmp 46) (Operand.const (Value.int IntKind.u64 1)) 32), 32, none⟩, ⟨some 48, (Op.call { callee := (Callee.value (Operand.tmp 43)), args := #[(Operand.tmp 47)], argTypes := #[32] }), 0, none⟩] (Q .normal ds) σ w := mk_eq rfl
@[push_cast] theorem vr14_16 (Q : Post) (ds : List Deferred) (σ : Env) (w : World) : vc Try.prog (.region r14_16) Q ds σ w = vcOps Try.prog [⟨some 49, (Op.binOp BinOp.add 3 (Operand.tmp 40) (Operand.const (Value.int IntKind.i64 1)) 3), 3, none⟩, ⟨some 40, (Op.move (Operand.tmp 49)), 3, none⟩] (Q .normal ds) σ w := mk_eq rfl
@[push_cast] theorem vr14_17 (Q : Post) (ds : List Deferred) (σ : Env) (w : World) : vc Try.prog (.region r14_17) Q ds σ w = vcOps Try.prog [⟨some 50, (Op.binOp BinOp.add 3 (Operand.tmp 35) (Operand.const (Value.int IntKind.i64 1)) 3), 3, none⟩, ⟨some 35, (Op.move (Operand.tmp 50)), 3, none⟩] (Q .normal ds) σ w := mk_eq rfl
@[push_cast] theorem vr14_18 (Q : Post) (ds : List Deferred) (σ : Env) (w : World) : vc Try.prog (.region r14_18) Q ds σ w = vcOps Try.prog [⟨some 51, (Op.load 24 (Operand.tmp 8)), 24, none⟩, ⟨some 4, (Op.assign (Operand.tmp 51)), 24, none⟩, ⟨some 5, (Op.assign (Operand.const (Value.int IntKind.i64 0))), 25, none⟩] (Q .normal ds) σ w := mk_eq rfl
/-! 15 columbary/columbaryref07.Pack (params #[22, 3], results #[(ResultVar.tmp 4), (ResultVar.tmp 5)], 71 slots) -/
def W15_0 : List Nat := [8, 9, 26, 27, 28, 29, 30, 31, 32, 33, 34, 35, 36, 37, 38, 39]
@[push_cast] theorem W15_0_def : W15_0 = [8, 9, 26, 27, 28, 29, 30, 31, 32, 33, 34, 35, 36, 37, 38, 39] := mk_eq rfl
def W15_1 : List Nat := [10, 11, 40, 41, 42, 43, 44, 45, 46, 47, 48, 49, 50, 51, 52, 53, 54, 55, 56, 57, 58, 59, 60, 61, 62, 63, 64, 65, 66, 67, 68, 69]
@[push_cast] theorem W15_1_def : W15_1 = [10, 11, 40, 41, 42, 43, 44, 45, 46, 47, 48, 49, 50, 51, 52, 53, 54, 55, 56, 57, 58, 59, 60, 61, 62, 63, 64, 65, 66, 67, 68, 69] := mk_eq rfl
def r15_0 : List VOp :=
  [⟨some 4, (Op.assign (Operand.const (Value.slice none 0 0))), 24, none⟩,
   ⟨some 5, (Op.assign (Operand.const (Value.int IntKind.i64 0))), 25, none⟩]
def r15_1 : List VOp :=
  [⟨some 13, (Op.move (Operand.tmp 0)), 22, none⟩,
   ⟨some 14, (Op.call { callee := (Callee.builtin Builtin.len), args := #[(Operand.tmp 13)], argTypes := #[22] }), 3, none⟩,
   ⟨some 15, (Op.move (Operand.tmp 1)), 3, none⟩,
   ⟨some 16, (Op.call { callee := (Callee.value (Operand.func 17)), args := #[(Operand.tmp 14), (Operand.tmp 15)], argTypes := #[3, 3] }), 28, none⟩,
   ⟨some 12, (Op.move (Operand.tmp 16)), 28, none⟩,
   ⟨some 17, (Op.extract (Operand.tmp 12) 0), 3, none⟩,
   ⟨some 18, (Op.extract (Operand.tmp 12) 1), 25, none⟩,
   ⟨some 6, (Op.assign (Operand.tmp 17)), 3, none⟩,
   ⟨some 7, (Op.assign (Operand.tmp 18)), 25, none⟩]
def r15_2 : List VOp :=
  [⟨some 19, (Op.move (Operand.tmp 7)), 25, none⟩,
   ⟨some 20, (Op.binOp BinOp.neq 25 (Operand.tmp 19) (Operand.const (Value.int IntKind.i64 0)) 25), 4, none⟩]
def r15_3 : List VOp :=
  [⟨some 21, (Op.move (Operand.tmp 7)), 25, none⟩,
   ⟨some 4, (Op.assign (Operand.const (Value.slice none 0 0))), 24, none⟩,
   ⟨some 5, (Op.assign (Operand.tmp 21)), 25, none⟩]
def r15_4 : List VOp :=
  [⟨some 22, (Op.move (Operand.tmp 0)), 22, none⟩,
   ⟨some 23, (Op.call { callee := (Callee.value (Operand.func 19)), args := #[(Operand.tmp 22)], argTypes := #[22] }), 3, none⟩,
   ⟨some 24, (Op.move (Operand.tmp 1)), 3, none⟩,
   ⟨some 25, (Op.binOp BinOp.gtr 3 (Operand.tmp 23) (Operand.tmp 24) 3), 4, none⟩]
def r15_5 : List VOp :=
  [⟨some 4, (Op.assign (Operand.const (Value.slice none 0 0))), 24, none⟩,
   ⟨some 5, (Op.assign (Operand.const (Value.int IntKind.i64 71))), 25, none⟩]
def r15_6 : List VOp :=
  [⟨some 8, (Op.assign (Operand.const (Value.slice none 0 0))), 24, none⟩]
def r15_7 : List VOp :=
  [⟨some 9, (Op.assign (Operand.const (Value.int IntKind.i64 0))), 3, none⟩]
def r15_8 : List VOp :=
  [⟨some 26, (Op.move (Operand.tmp 9)), 3, none⟩,
   ⟨some 27, (Op.move (Operand.tmp 0)), 22, none⟩,
   ⟨some 28, (Op.call { callee := (Callee.builtin Builtin.len), args := #[(Operand.tmp 27)], argTypes := #[22] }), 3, none⟩,
   ⟨some 29, (Op.binOp BinOp.lss 3 (Operand.tmp 26) (Operand.tmp 28) 3), 4, none⟩]
def r15_10 : List VOp :=
  [⟨some 32, (Op.move (Operand.tmp 8)), 24, none⟩,
   ⟨some 33, (Op.move (Operand.tmp 0)), 22, none⟩,
   ⟨some 34, (Op.move (Operand.tmp 9)), 3, none⟩,
   ⟨some 35, (Op.indexAddr 22 (Operand.tmp 33) (Operand.tmp 34)), 0, none⟩,
   ⟨some 36, (Op.load 32 (Operand.tmp 35)), 32, none⟩,
   ⟨some 37, (Op.move (Operand.tmp 1)), 3, none⟩,
   ⟨some 38, (Op.call { callee := (Callee.value (Operand.func 36)), args := #[(Operand.tmp 36), (Operand.tmp 37)], argTypes := #[32, 3] }), 24, none⟩,
   ⟨some 39, (Op.call { callee := (Callee.builtin Builtin.append), args := #[(Operand.tmp 32), (Operand.tmp 38)], argTypes := #[24, 24] }), 24, none⟩,
   ⟨some 8, (Op.assign (Operand.tmp 39)), 24, none⟩]
def r15_9 : List VOp :=
  [⟨some 30, (Op.move (Operand.tmp 9)), 3, none⟩,
   ⟨some 31, (Op.binOp BinOp.add 3 (Operand.tmp 30) (Operand.const (Value.int IntKind.i64 1)) 3), 3, none⟩,
   ⟨some 9, (Op.assign (Operand.tmp 31)), 3, none⟩]
def r15_11 : List VOp :=
  [⟨some 10, (Op.assign (Operand.const (Value.slice none 0 0))), 24, none⟩]
def r15_12 : List VOp :=
  [⟨some 11, (Op.assign (Operand.const (Value.int IntKind.i64 0))), 3, none⟩]
def r15_13 : List VOp :=
  [⟨some 40, (Op.move (Operand.tmp 11)), 3, none⟩,
   ⟨some 41, (Op.move (Operand.tmp 8)), 24, none⟩,
   ⟨some 42, (Op.call { callee := (Callee.builtin Builtin.len), args := #[(Operand.tmp 41)], argTypes := #[24] }), 3, none⟩,
   ⟨some 43, (Op.binOp BinOp.lss 3 (Operand.tmp 40) (Operand.tmp 42) 3), 4, none⟩]
def r15_15 : List VOp :=
  [⟨some 46, (Op.move (Operand.tmp 11)), 3, none⟩,
   ⟨some 47, (Op.binOp BinOp.rem 3 (Operand.tmp 46) (Operand.const (Value.int IntKind.i64 8)) 3), 3, none⟩,
   ⟨some 48, (Op.binOp BinOp.eql 3 (Operand.tmp 47) (Operand.const (Value.int IntKind.i64 0)) 3), 4, none⟩]
def r15_16 : List VOp :=
  [⟨some 49, (Op.move (Operand.tmp 10)), 24, none⟩,
   ⟨some 50, (Op.buildSlice 24 1 #[(0, (Operand.const (Value.int IntKind.u8 0)))]), 24, none⟩,
   ⟨some 51, (Op.call { callee := (Callee.builtin Builtin.append), args := #[(Operand.tmp 49), (Operand.tmp 50)], argTypes := #[24, 24] }), 24, none⟩,
   ⟨some 10, (Op.assign (Operand.tmp 51)), 24, none⟩]
def r15_17 : List VOp :=
  [⟨some 52, (Op.move (Operand.tmp 10)), 24, none⟩,
   ⟨some 53, (Op.move (Operand.tmp 11)), 3, none⟩,
   ⟨some 54, (Op.binOp BinOp.quo 3 (Operand.tmp 53) (Operand.const (Value.int IntKind.i64 8)) 3), 3, none⟩,
   ⟨some 55, (Op.move (Operand.tmp 10)), 24, none⟩,
   ⟨some 56, (Op.move (Operand.tmp 11)), 3, none⟩,
   ⟨some 57, (Op.binOp BinOp.quo 3 (Operand.tmp 56) (Operand.const (Value.int IntKind.i64 8)) 3), 3, none⟩,
   ⟨some 58, (Op.indexAddr 24 (Operand.tmp 55) (Operand.tmp 57)), 0, none⟩,
   ⟨some 59, (Op.load 5 (Operand.tmp 58)), 5, none⟩,
   ⟨some 60, (Op.move (Operand.tmp 8)), 24, none⟩,
   ⟨some 61, (Op.move (Operand.tmp 11)), 3, none⟩,
   ⟨some 62, (Op.indexAddr 24 (Operand.tmp 60) (Operand.tmp 61)), 0, none⟩,
   ⟨some 63, (Op.load 5 (Operand.tmp 62)), 5, none⟩,
   ⟨some 64, (Op.move (Operand.tmp 11)), 3, none⟩,
   ⟨some 65, (Op.binOp BinOp.rem 3 (Operand.tmp 64) (Operand.const (Value.int IntKind.i64 8)) 3), 3, none⟩,
   ⟨some 66, (Op.convert 3 33 (Operand.tmp 65)), 33, none⟩,
   ⟨some 67, (Op.binOp BinOp.shl 5 (Operand.tmp 63) (Operand.tmp 66) 33), 5, none⟩,
   ⟨some 68, (Op.binOp BinOp.add 5 (Operand.tmp 59) (Operand.tmp 67) 5), 5, none⟩,
   ⟨some 69, (Op.indexAddr 24 (Operand.tmp 52) (Operand.tmp 54)), 0, none⟩,
   ⟨none, (Op.store 5 (Operand.tmp 69) (Operand.tmp 68)), 0, none⟩]
def r15_14 : List VOp :=
  [⟨some 44, (Op.move (Operand.tmp 11)), 3, none⟩,
   ⟨some 45, (Op.binOp BinOp.add 3 (Operand.tmp 44) (Operand.const (Value.int IntKind.i64 1)) 3), 3, none⟩,
   ⟨some 11, (Op.assign (Operand.tmp 45)), 3, none⟩]
def r15_18 : List VOp :=
  [⟨some 70, (Op.move (Operand.tmp 10)), 24, none⟩,
   ⟨some 4, (Op.assign (Operand.tmp 70)), 24, none⟩,
   ⟨some 5, (Op.assign (Operand.const (Value.int IntKind.i64 0))), 25, none⟩]
def B15 : VC :=
  (.seq (.region r15_0) (.seq (.region r15_1) (.seq (.seq (.region r15_2) (.cond (Operand.tmp 20) (.seq (.region r15_3) .ret) .skip)) (.seq (.seq (.region r15_4) (.cond (Operand.tmp 25) (.seq (.region r15_5) .ret) .skip)) (.seq (.region r15_6) (.seq (.seq (.region r15_7) (.block 0 (.loop (.seq (.seq (.region r15_8) (.cond (Operand.tmp 29) .skip (.exit 0))) (.seq (.block 1 (.region r15_10)) (.region r15_9)))))) (.seq (.region r15_11) (.seq (.seq (.region r15_12) (.block 2 (.loop (.seq (.seq (.region r15_13) (.cond (Operand.tmp 43) .skip (.exit 2))) (.seq (.block 3 (.seq (.seq (.region r15_15) (.cond (Operand.tmp 48) (.region r15_16) .skip)) (.draw r15_17 2))) (.region r15_14)))))) (.seq (.region r15_18) .ret)))))))))
theorem code15 : ∃ c, Try.f15.body = some c ∧ abs Try.f15.ntmps c = B15 := ⟨_, rfl, by kernel_rfl⟩
theorem hb15 : HasBody Try.prog 15 := hasBody_of Try.func15 (by kernel_rfl)
theorem res15 : Try.f15.results = #[(ResultVar.tmp 4), (ResultVar.tmp 5)] := rfl
theorem enter15 {w : World} {R : Value → World → Prop} (x0 x1 : Value) (h : vc Try.prog B15 (retK Try.prog #[(ResultVar.tmp 4), (ResultVar.tmp 5)] R) [] (initEnv [x0, x1] 0) w) : FnC Try.prog 15 #[x0, x1] w R := by
  obtain ⟨c, h1, h2⟩ := code15
  exact hb15.fn (ret_of_vc mixed Try.func15 h1 (Nat.le_of_ble_eq_true rfl) B15 h2 h)
@[push_cast] theorem vr15_0 (Q : Post) (ds : List Deferred) (σ : Env) (w : World) : vc Try.prog (.region r15_0) Q ds σ w = vcOps Try.prog [⟨some 4, (Op.assign (Operand.const (Value.slice none 0 0))), 24, none⟩, ⟨some 5, (Op.assign (Operand.const (Value.int IntKind.i64 0))), 25, none⟩] (Q .normal ds) σ w := mk_eq rfl
@[push_cast] theorem vr15_1 (Q : Post) (ds : List Deferred) (σ : Env) (w : World) : vc Try.prog (.region r15_1) Q ds σ w = vcOps Try.prog [⟨some 13, (Op.move (Operand.tmp 0)), 22, none⟩, ⟨some 14, (Op.call { callee := (Callee.builtin Builtin.len), args := #[(Operand.tmp 13)], argTypes := #[22] }), 3, none⟩, ⟨some 15, (Op.move (Operand.tmp 1)), 3, none⟩, ⟨some 16, (Op.call { callee := (Callee.value (Operand.func 17)), args := #[(Operand.tmp 14), (Operand.tmp 15)], argTypes := #[3, 3] }), 28, none⟩, ⟨some 12, (Op.move (Operand.tmp 16)), 28, none⟩, ⟨some 17, (Op.extract (Operand.tmp 12) 0), 3, none⟩, ⟨some 18, (Op.extract (Operand.tmp 12) 1), 25, none⟩, ⟨some 6, (Op.assign (Operand.tmp 17)), 3, none⟩, ⟨some 7, (Op.assign (Operand.tmp 18)), 25, none⟩] (Q .normal ds) σ w := mk_eq rfl
@[push_cast] theorem vr15_2 (Q : Post) (ds : List Deferred) (σ : Env) (w : World) : vc Try.prog (.region r15_2) Q ds σ w = vcOps Try.prog [⟨some 19, (Op.move (Operand.tmp 7)), 25, none⟩, ⟨some 20, (Op.binOp BinOp.neq 25 (Operand.tmp 19) (Operand.const (Value.int IntKind.i64 0)) 25), 4, none⟩] (Q .normal ds) σ w := mk_eq rfl
@[push_cast] theorem vr15_3 (Q : Post) (ds : List Deferred) (σ : Env) (w : World) : vc Try.prog (.region r15_3) Q ds σ w = vcOps Try.prog [⟨some 21, (Op.move (Operand.tmp 7)), 25, none⟩, ⟨some 4, (Op.assign (Operand.const (Value.slice none 0 0))), 24, none⟩, ⟨some 5, (Op.assign (Operand.tmp 21)), 25, none⟩] (Q .normal ds) σ w := mk_eq rfl
@[push_cast] theorem vr15_4 (Q : Post) (ds : List Deferred) (σ : Env) (w : World) : vc Try.prog (.region r15_4) Q ds σ w = vcOps Try.prog [⟨some 22, (Op.move (Operand.tmp 0)), 22, none⟩, ⟨some 23, (Op.call { callee := (Callee.value (Operand.func 19)), args := #[(Operand.tmp 22)], argTypes := #[22] }), 3, none⟩, ⟨some 24, (Op.move (Operand.tmp 1)), 3, none⟩, ⟨some 25, (Op.binOp BinOp.gtr 3 (Operand.tmp 23) (Operand.tmp 24) 3), 4, none⟩] (Q .normal ds) σ w := mk_eq rfl
@[push_cast] theorem vr15_5 (Q : Post) (ds : List Deferred) (σ : Env) (w : World) : vc Try.prog (.region r15_5) Q ds σ w = vcOps Try.prog [⟨some 4, (Op.assign (Operand.const (Value.slice none 0 0))), 24, none⟩, ⟨some 5, (Op.assign (Operand.const (Value.int IntKind.i64 71))), 25, none⟩] (Q .normal ds) σ w := mk_eq rfl
@[push_cast] theorem vr15_6 (Q : Post) (ds : List Deferred) (σ : Env) (w : World) : vc Try.prog (.region r15_6) Q ds σ w = vcOps Try.prog [⟨some 8, (Op.assign (Operand.const (Value.slice none 0 0))), 24, none⟩] (Q .normal ds) σ w := mk_eq rfl
@[push_cast] theorem vr15_7 (Q : Post) (ds : List Deferred) (σ : Env) (w : World) : vc Try.prog (.region r15_7) Q ds σ w = vcOps Try.prog [⟨some 9, (Op.assign (Operand.const (Value.int IntKind.i64 0))), 3, none⟩] (Q .normal ds) σ w := mk_eq rfl
@[push_cast] theorem vr15_8 (Q : Post) (ds : List Deferred) (σ : Env) (w : World) : vc Try.prog (.region r15_8) Q ds σ w = vcOps Try.prog [⟨some 26, (Op.move (Operand.tmp 9)), 3, none⟩, ⟨some 27, (Op.move (Operand.tmp 0)), 22, none⟩, ⟨some 28, (Op.call { callee := (Callee.builtin Builtin.len), args := #[(Operand.tmp 27)], argTypes := #[22] }), 3, none⟩, ⟨some 29, (Op.binOp BinOp.lss 3 (Operand.tmp 26) (Operand.tmp 28) 3), 4, none⟩] (Q .normal ds) σ w := mk_eq rfl
@[push_cast] theorem vr15_10 (Q : Post) (ds : List Deferred) (σ : Env) (w : World) : vc Try.prog (.region r15_10) Q ds σ w = vcOps Try.prog [⟨some 32, (Op.move (Operand.tmp 8)), 24, none⟩, ⟨some 33, (Op.move (Operand.tmp 0)), 22, none⟩, ⟨some 34, (Op.move (Operand.tmp 9)), 3, none⟩, ⟨some 35, (Op.indexAddr 22 (Operand.tmp 33) (Operand.tmp 34)), 0, none⟩, ⟨some 36, (Op.load 32 (Operand.tmp 35)), 32, none⟩, ⟨some 37, (Op.move (Operand.tmp 1)), 3, none⟩, ⟨some 38, (Op.call { callee := (Callee.value (Operand.func 36)), args := #[(Operand.tmp 36), (Operand.tmp 37)], argTypes := #[32, 3] }), 24, none⟩, ⟨some 39, (Op.call { callee := (Callee.builtin Builtin.append), args := #[(Operand.tmp 32), (Operand.tmp 38)], argTypes := #[24, 24] }), 24, none⟩, ⟨some 8, (Op.assign (Operand.tmp 39)), 24, none⟩] (Q .normal ds) σ w := mk_eq rfl
@[push_cast] theorem vr15_9 (Q : Post) (ds : List Deferred) (σ : Env) (w : World) : vc Try.prog (.region r15_9) Q ds σ w = vcOps Try.prog [⟨some 30, (Op.move (Operand.tmp 9)), 3, none⟩, ⟨some 31, (Op.binOp BinOp.add 3 (Operand.tmp 30) (Operand.const (Value.int IntKind.i64 1)) 3), 3, none⟩, ⟨some 9, (Op.assign (Operand.tmp 31)), 3, none⟩] (Q .normal ds) σ w := mk_eq rfl
@[push_cast] theorem vr15_11 (Q : Post) (ds : List Deferred) (σ : Env) (w : World) : vc Try.prog (.region r15_11) Q ds σ w = vcOps Try.prog [⟨some 10, (Op.assign (Operand.const (Value.slice none 0 0))), 24, none⟩] (Q .normal ds) σ w := mk_eq rfl
@[push_cast] theorem vr15_12 (Q : Post) (ds : List Deferred) (σ : Env) (w : World) : vc Try.prog (.region r15_12) Q ds σ w = vcOps Try.prog [⟨some 11, (Op.assign (Operand.const (Value.int IntKind.i64 0))), 3, none⟩] (Q .normal ds) σ w := mk_eq rfl
@[push_cast] theorem vr15_13 (Q : Post) (ds : List Deferred) (σ : Env) (w : World) : vc Try.prog (.region r15_13) Q ds σ w = vcOps Try.prog [⟨some 40, (Op.move (Operand.tmp 11)), 3, none⟩, ⟨some 41, (Op.move (Operand.tmp 8)), 24, none⟩, ⟨some 42, (Op.call { callee := (Callee.builtin Builtin.len), args := #[(Operand.tmp 41)], argTypes := #[24] }), 3, none⟩, ⟨some 43, (Op.binOp BinOp.lss 3 (Operand.tmp 40) (Operand.tmp 42) 3), 4, none⟩] (Q .normal ds) σ w := mk_eq rfl
@[push_cast] theorem vr15_15 (Q : Post) (ds : List Deferred) (σ : Env) (w : World) : vc Try.prog (.region r15_15) Q ds σ w = vcOps Try.prog [⟨some 46, (Op.move (Operand.tmp 11)), 3, none⟩, ⟨some 47, (Op.binOp BinOp.rem 3 (Operand.tmp 46) (Operand.const (Value.int IntKind.i64 8)) 3), 3, none⟩, ⟨some 48, (Op.binOp BinOp.eql 3 (Operand.tmp 47) (Operand.const (Value.int IntKind.i64 0)) 3), 4, none⟩] (Q .normal ds) σ w := mk_eq rfl
@[push_cast] theorem vr15_16 (Q : Post) (ds : List Deferred) (σ : Env) (w : World) : vc Try.prog (.region r15_16) Q ds σ w = vcOps Try.prog [⟨some 49, (Op.move (Operand.tmp 10)), 24, none⟩, ⟨some 50, (Op.buildSlice 24 1 #[(0, (Operand.const (Value.int IntKind.u8 0)))]), 24, none⟩, ⟨some 51, (Op.call { callee := (Callee.builtin Builtin.append), args := #[(Operand.tmp 49), (Operand.tmp 50)], argTypes := #[24, 24] }), 24, none⟩, ⟨some 10, (Op.assign (Operand.tmp 51)), 24, none⟩] (Q .normal ds) σ w := mk_eq rfl
@[push_cast] theorem vr15_17 (Q : Post) (ds : List Deferred) (σ : Env) (w : World) : vc Try.prog (.draw r15_17 2) Q ds σ w = drawn Try.prog [(⟨some 52, (Op.move (Operand.tmp 10)), 24, none⟩, [10]), (⟨some 53, (Op.move (Operand.tmp 11)), 3, none⟩, [11]), (⟨some 54, (Op.binOp BinOp.quo 3 (Operand.tmp 53) (Operand.const (Value.int IntKind.i64 8)) 3), 3, none⟩, [53]), (⟨some 55, (Op.move (Operand.tmp 10)), 24, none⟩, [10]), (⟨some 56, (Op.move (Operand.tmp 11)), 3, none⟩, [11]), (⟨some 57, (Op.binOp BinOp.quo 3 (Operand.tmp 56) (Operand.const (Value.int IntKind.i64 8)) 3), 3, none⟩, [56]), (⟨some 58, (Op.indexAddr 24 (Operand.tmp 55) (Operand.tmp 57)), 0, none⟩, [55, 57]), (⟨some 59, (Op.load 5 (Operand.tmp 58)), 5, none⟩, [58]), (⟨some 60, (Op.move (Operand.tmp 8)), 24, none⟩, [8]), (⟨some 61, (Op.move (Operand.tmp 11)), 3, none⟩, [11]), (⟨some 62, (Op.indexAddr 24 (Operand.tmp 60) (Operand.tmp 61)), 0, none⟩, [60, 61]), (⟨some 63, (Op.load 5 (Operand.tmp 62)), 5, none⟩, [62]), (⟨some 64, (Op.move (Operand.tmp 11)), 3, none⟩, [11]), (⟨some 65, (Op.binOp BinOp.rem 3 (Operand.tmp 64) (Operand.const (Value.int IntKind.i64 8)) 3), 3, none⟩, [64]), (⟨some 66, (Op.convert 3 33 (Operand.tmp 65)), 33, none⟩, [65]), (⟨some 67, (Op.binOp BinOp.shl 5 (Operand.tmp 63) (Operand.tmp 66) 33), 5, none⟩, [63, 66]), (⟨some 68, (Op.binOp BinOp.add 5 (Operand.tmp 59) (Operand.tmp 67) 5), 5, none⟩, [59, 67]), (⟨some 69, (Op.indexAddr 24 (Operand.tmp 52) (Operand.tmp 54)), 0, none⟩, [52, 54]), (⟨none, (Op.store 5 (Operand.tmp 69) (Operand.tmp 68)), 0, none⟩, [69, 68])] 2 (Q .normal ds) σ w := mk_eq rfl
@[push_cast] theorem vr15_14 (Q : Post) (ds : List Deferred) (σ : Env) (w : World) : vc Try.prog (.region r15_14) Q ds σ w = vcOps Try.prog [⟨some 44, (Op.move (Operand.tmp 11)), 3, none⟩, ⟨some 45, (Op.binOp BinOp.add 3 (Operand.tmp 44) (Operand.const (Value.int IntKind.i64 1)) 3), 3, none⟩, ⟨some 11, (Op.assign (Operand.tmp 45)), 3, none⟩] (Q .normal ds) σ w := mk_eq rfl
@[push_cast] theorem vr15_18 (Q : Post) (ds : List Deferred) (σ : Env) (w : World) : vc Try.prog (.region r15_18) Q ds σ w = vcOps Try.prog [⟨some 70, (Op.move (Operand.tmp 10)), 24, none⟩, ⟨some 4, (Op.assign (Operand.tmp 70)), 24, none⟩, ⟨some 5, (Op.assign (Operand.const (Value.int IntKind.i64 0))), 25, none⟩] (Q .normal ds) σ w := mk_eq rfl
/-! 16 columbary/nibble.Size (params #[3, 3], results #[(ResultVar.tmp 4), (ResultVar.tmp 5)], 26 slots) -/
def r16_0 : List VOp :=
  [⟨some 4, (Op.assign (Operand.const (Value.int IntKind.i64 0))), 3, none⟩,
   ⟨some 5, (Op.assign (Operand.const (Value.int IntKind.i64 0))), 25, none⟩]
def r16_1 : List VOp :=
  [⟨some 6, (Op.move (Operand.tmp 0)), 3, none⟩,
   ⟨some 7, (Op.binOp BinOp.lss 3 (Operand.tmp 6) (Operand.const (Value.int IntKind.i64 0)) 3), 4, none⟩,
   ⟨some 8, (Op.move (Operand.tmp 7)), 4, none⟩,
   ⟨some 9, (Op.move (Operand.tmp 0)), 3, some (8, false)⟩,
   ⟨some 10, (Op.binOp BinOp.gtr 3 (Operand.tmp 9) (Operand.const (Value.int IntKind.i64 65536)) 3), 4, some (8, false)⟩,
   ⟨some 11, (Op.pick (Operand.tmp 8) (Operand.const (Value.bool true)) (Operand.tmp 10)), 4, none⟩,
   ⟨some 12, (Op.move (Operand.tmp 11)), 4, none⟩,
   ⟨some 13, (Op.move (Operand.tmp 1)), 3, some (12, false)⟩,
   ⟨some 14, (Op.binOp BinOp.lss 3 (Operand.tmp 13) (Operand.const (Value.int IntKind.i64 0)) 3), 4, some (12, false)⟩,
   ⟨some 15, (Op.pick (Operand.tmp 12) (Operand.const (Value.bool true)) (Operand.tmp 14)), 4, none⟩,
   ⟨some 16, (Op.move (Operand.tmp 15)), 4, none⟩,
   ⟨some 17, (Op.move (Operand.tmp 1)), 3, some (16, false)⟩,
   ⟨some 18, (Op.binOp BinOp.gtr 3 (Operand.tmp 17) (Operand.const (Value.int IntKind.i64 64)) 3), 4, some (16, false)⟩,
   ⟨some 19, (Op.pick (Operand.tmp 16) (Operand.const (Value.bool true)) (Operand.tmp 18)), 4, none⟩]
def r16_2 : List VOp :=
  [⟨some 4, (Op.assign (Operand.const (Value.int IntKind.i64 0))), 3, none⟩,
   ⟨some 5, (Op.assign (Operand.const (Value.int IntKind.i64 1))), 25, none⟩]
def r16_3 : List VOp :=
  [⟨some 20, (Op.move (Operand.tmp 0)), 3, none⟩,
   ⟨some 21, (Op.move (Operand.tmp 1)), 3, none⟩,
   ⟨some 22, (Op.binOp BinOp.mul 3 (Operand.tmp 20) (Operand.tmp 21) 3), 3, none⟩,
   ⟨some 23, (Op.binOp BinOp.add 3 (Operand.tmp 22) (Operand.const (Value.int IntKind.i64 8)) 3), 3, none⟩,
   ⟨some 24, (Op.binOp BinOp.sub 3 (Operand.tmp 23) (Operand.const (Value.int IntKind.i64 1)) 3), 3, none⟩,
   ⟨some 25, (Op.binOp BinOp.quo 3 (Operand.tmp 24) (Operand.const (Value.int IntKind.i64 8)) 3), 3, none⟩,
   ⟨some 4, (Op.assign (Operand.tmp 25)), 3, none⟩,
   ⟨some 5, (Op.assign (Operand.const (Value.int IntKind.i64 0))), 25, none⟩]
def B16 : VC :=
  (.seq (.region r16_0) (.seq (.seq (.region r16_1) (.cond (Operand.tmp 19) (.seq (.region r16_2) .ret) .skip)) (.seq (.region r16_3) .ret)))
theorem code16 : ∃ c, Try.f16.body = some c ∧ abs Try.f16.ntmps c = B16 := ⟨_, rfl, by kernel_rfl⟩
theorem hb16 : HasBody Try.prog 16 := hasBody_of Try.func16 (by kernel_rfl)
theorem res16 : Try.f16.results = #[(ResultVar.tmp 4), (ResultVar.tmp 5)] := rfl
theorem enter16 {w : World} {R : Value → World → Prop} (x0 x1 : Value) (h : vc Try.prog B16 (retK Try.prog #[(ResultVar.tmp 4), (ResultVar.tmp 5)] R) [] (initEnv [x0, x1] 0) w) : FnC Try.prog 16 #[x0, x1] w R := by
  obtain ⟨c, h1, h2⟩ := code16
  exact hb16.fn (ret_of_vc mixed Try.func16 h1 (Nat.le_of_ble_eq_true rfl) B16 h2 h)
@[push_cast] theorem vr16_0 (Q : Post) (ds : List Deferred) (σ : Env) (w : World) : vc Try.prog (.region r16_0) Q ds σ w = vcOps Try.prog [⟨some 4, (Op.assign (Operand.const (Value.int IntKind.i64 0))), 3, none⟩, ⟨some 5, (Op.assign (Operand.const (Value.int IntKind.i64 0))), 25, none⟩] (Q .normal ds) σ w := mk_eq rfl
@[push_cast] theorem vr16_1 (Q : Post) (ds : List Deferred) (σ : Env) (w : World) : vc Try.prog (.region r16_1) Q ds σ w = vcOps Try.prog [⟨some 6, (Op.move (Operand.tmp 0)), 3, none⟩, ⟨some 7, (Op.binOp BinOp.lss 3 (Operand.tmp 6) (Operand.const (Value.int IntKind.i64 0)) 3), 4, none⟩, ⟨some 8, (Op.move (Operand.tmp 7)), 4, none⟩, ⟨some 9, (Op.move (Operand.tmp 0)), 3, some (8, false)⟩, ⟨some 10, (Op.binOp BinOp.gtr 3 (Operand.tmp 9) (Operand.const (Value.int IntKind.i64 65536)) 3), 4, some (8, false)⟩, ⟨some 11, (Op.pick (Operand.tmp 8) (Operand.const (Value.bool true)) (Operand.tmp 10)), 4, none⟩, ⟨some 12, (Op.move (Operand.tmp 11)), 4, none⟩, ⟨some 13, (Op.move (Operand.tmp 1)), 3, some (12, false)⟩, ⟨some 14, (Op.binOp BinOp.lss 3 (Operand.tmp 13) (Operand.const (Value.int IntKind.i64 0)) 3), 4, some (12, false)⟩, ⟨some 15, (Op.pick (Operand.tmp 12) (Operand.const (Value.bool true)) (Operand.tmp 14)), 4, none⟩, ⟨some 16, (Op.move (Operand.tmp 15)), 4, none⟩, ⟨some 17, (Op.move (Operand.tmp 1)), 3, some (16, false)⟩, ⟨some 18, (Op.binOp BinOp.gtr 3 (Operand.tmp 17) (Operand.const (Value.int IntKind.i64 64)) 3), 4, some (16, false)⟩, ⟨some 19, (Op.pick (Operand.tmp 16) (Operand.const (Value.bool true)) (Operand.tmp 18)), 4, none⟩] (Q .normal ds) σ w := mk_eq rfl
@[push_cast] theorem vr16_2 (Q : Post) (ds : List Deferred) (σ : Env) (w : World) : vc Try.prog (.region r16_2) Q ds σ w = vcOps Try.prog [⟨some 4, (Op.assign (Operand.const (Value.int IntKind.i64 0))), 3, none⟩, ⟨some 5, (Op.assign (Operand.const (Value.int IntKind.i64 1))), 25, none⟩] (Q .normal ds) σ w := mk_eq rfl
@[push_cast] theorem vr16_3 (Q : Post) (ds : List Deferred) (σ : Env) (w : World) : vc Try.prog (.region r16_3) Q ds σ w = vcOps Try.prog [⟨some 20, (Op.move (Operand.tmp 0)), 3, none⟩, ⟨some 21, (Op.move (Operand.tmp 1)), 3, none⟩, ⟨some 22, (Op.binOp BinOp.mul 3 (Operand.tmp 20) (Operand.tmp 21) 3), 3, none⟩, ⟨some 23, (Op.binOp BinOp.add 3 (Operand.tmp 22) (Operand.const (Value.int IntKind.i64 8)) 3), 3, none⟩, ⟨some 24, (Op.binOp BinOp.sub 3 (Operand.tmp 23) (Operand.const (Value.int IntKind.i64 1)) 3), 3, none⟩, ⟨some 25, (Op.binOp BinOp.quo 3 (Operand.tmp 24) (Operand.const (Value.int IntKind.i64 8)) 3), 3, none⟩, ⟨some 4, (Op.assign (Operand.tmp 25)), 3, none⟩, ⟨some 5, (Op.assign (Operand.const (Value.int IntKind.i64 0))), 25, none⟩] (Q .normal ds) σ w := mk_eq rfl
/-! 17 columbary/columbaryref07.Size (params #[3, 3], results #[(ResultVar.tmp 4), (ResultVar.tmp 5)], 25 slots) -/
def r17_0 : List VOp :=
  [⟨some 4, (Op.assign (Operand.const (Value.int IntKind.i64 0))), 3, none⟩,
   ⟨some 5, (Op.assign (Operand.const (Value.int IntKind.i64 0))), 25, none⟩]
def r17_1 : List VOp :=
  [⟨some 6, (Op.move (Operand.tmp 0)), 3, none⟩,
   ⟨some 7, (Op.binOp BinOp.lss 3 (Operand.tmp 6) (Operand.const (Value.int IntKind.i64 0)) 3), 4, none⟩,
   ⟨some 8, (Op.move (Operand.tmp 7)), 4, none⟩,
   ⟨some 9, (Op.move (Operand.tmp 0)), 3, some (8, false)⟩,
   ⟨some 10, (Op.binOp BinOp.gtr 3 (Operand.tmp 9) (Operand.const (Value.int IntKind.i64 65536)) 3), 4, some (8, false)⟩,
   ⟨some 11, (Op.pick (Operand.tmp 8) (Operand.const (Value.bool true)) (Operand.tmp 10)), 4, none⟩,
   ⟨some 12, (Op.move (Operand.tmp 11)), 4, none⟩,
   ⟨some 13, (Op.move (Operand.tmp 1)), 3, some (12, false)⟩,
   ⟨some 14, (Op.binOp BinOp.lss 3 (Operand.tmp 13) (Operand.const (Value.int IntKind.i64 0)) 3), 4, some (12, false)⟩,
   ⟨some 15, (Op.pick (Operand.tmp 12) (Operand.const (Value.bool true)) (Operand.tmp 14)), 4, none⟩,
   ⟨some 16, (Op.move (Operand.tmp 15)), 4, none⟩,
   ⟨some 17, (Op.move (Operand.tmp 1)), 3, some (16, false)⟩,
   ⟨some 18, (Op.binOp BinOp.gtr 3 (Operand.tmp 17) (Operand.const (Value.int IntKind.i64 64)) 3), 4, some (16, false)⟩,
   ⟨some 19, (Op.pick (Operand.tmp 16) (Operand.const (Value.bool true)) (Operand.tmp 18)), 4, none⟩]
def r17_2 : List VOp :=
  [⟨some 4, (Op.assign (Operand.const (Value.int IntKind.i64 0))), 3, none⟩,
   ⟨some 5, (Op.assign (Operand.const (Value.int IntKind.i64 1))), 25, none⟩]
def r17_3 : List VOp :=
  [⟨some 20, (Op.move (Operand.tmp 0)), 3, none⟩,
   ⟨some 21, (Op.move (Operand.tmp 1)), 3, none⟩,
   ⟨some 22, (Op.binOp BinOp.mul 3 (Operand.tmp 20) (Operand.tmp 21) 3), 3, none⟩,
   ⟨some 23, (Op.binOp BinOp.add 3 (Operand.tmp 22) (Operand.const (Value.int IntKind.i64 7)) 3), 3, none⟩,
   ⟨some 24, (Op.binOp BinOp.quo 3 (Operand.tmp 23) (Operand.const (Value.int IntKind.i64 8)) 3), 3, none⟩,
   ⟨some 4, (Op.assign (Operand.tmp 24)), 3, none⟩,
   ⟨some 5, (Op.assign (Operand.const (Value.int IntKind.i64 0))), 25, none⟩]
def B17 : VC :=
  (.seq (.region r17_0) (.seq (.seq (.region r17_1) (.cond (Operand.tmp 19) (.seq (.region r17_2) .ret) .skip)) (.seq (.region r17_3) .ret)))
theorem code17 : ∃ c, Try.f17.body = some c ∧ abs Try.f17.ntmps c = B17 := ⟨_, rfl, by kernel_rfl⟩
theorem hb17 : HasBody Try.prog 17 := hasBody_of Try.func17 (by kernel_rfl)
theorem res17 : Try.f17.results = #[(ResultVar.tmp 4), (ResultVar.tmp 5)] := rfl
theorem enter17 {w : World} {R : Value → World → Prop} (x0 x1 : Value) (h : vc Try.prog B17 (retK Try.prog #[(ResultVar.tmp 4), (ResultVar.tmp 5)] R) [] (initEnv [x0, x1] 0) w) : FnC Try.prog 17 #[x0, x1] w R := by
  obtain ⟨c, h1, h2⟩ := code17
  exact hb17.fn (ret_of_vc mixed Try.func17 h1 (Nat.le_of_ble_eq_true rfl) B17 h2 h)
@[push_cast] theorem vr17_0 (Q : Post) (ds : List Deferred) (σ : Env) (w : World) : vc Try.prog (.region r17_0) Q ds σ w = vcOps Try.prog [⟨some 4, (Op.assign (Operand.const (Value.int IntKind.i64 0))), 3, none⟩, ⟨some 5, (Op.assign (Operand.const (Value.int IntKind.i64 0))), 25, none⟩] (Q .normal ds) σ w := mk_eq rfl
@[push_cast] theorem vr17_1 (Q : Post) (ds : List Deferred) (σ : Env) (w : World) : vc Try.prog (.region r17_1) Q ds σ w = vcOps Try.prog [⟨some 6, (Op.move (Operand.tmp 0)), 3, none⟩, ⟨some 7, (Op.binOp BinOp.lss 3 (Operand.tmp 6) (Operand.const (Value.int IntKind.i64 0)) 3), 4, none⟩, ⟨some 8, (Op.move (Operand.tmp 7)), 4, none⟩, ⟨some 9, (Op.move (Operand.tmp 0)), 3, some (8, false)⟩, ⟨some 10, (Op.binOp BinOp.gtr 3 (Operand.tmp 9) (Operand.const (Value.int IntKind.i64 65536)) 3), 4, some (8, false)⟩, ⟨some 11, (Op.pick (Operand.tmp 8) (Operand.const (Value.bool true)) (Operand.tmp 10)), 4, none⟩, ⟨some 12, (Op.move (Operand.tmp 11)), 4, none⟩, ⟨some 13, (Op.move (Operand.tmp 1)), 3, some (12, false)⟩, ⟨some 14, (Op.binOp BinOp.lss 3 (Operand.tmp 13) (Operand.const (Value.int IntKind.i64 0)) 3), 4, some (12, false)⟩, ⟨some 15, (Op.pick (Operand.tmp 12) (Operand.const (Value.bool true)) (Operand.tmp 14)), 4, none⟩, ⟨some 16, (Op.move (Operand.tmp 15)), 4, none⟩, ⟨some 17, (Op.move (Operand.tmp 1)), 3, some (16, false)⟩, ⟨some 18, (Op.binOp BinOp.gtr 3 (Operand.tmp 17) (Operand.const (Value.int IntKind.i64 64)) 3), 4, some (16, false)⟩, ⟨some 19, (Op.pick (Operand.tmp 16) (Operand.const (Value.bool true)) (Operand.tmp 18)), 4, none⟩] (Q .normal ds) σ w := mk_eq rfl
@[push_cast] theorem vr17_2 (Q : Post) (ds : List Deferred) (σ : Env) (w : World) : vc Try.prog (.region r17_2) Q ds σ w = vcOps Try.prog [⟨some 4, (Op.assign (Operand.const (Value.int IntKind.i64 0))), 3, none⟩, ⟨some 5, (Op.assign (Operand.const (Value.int IntKind.i64 1))), 25, none⟩] (Q .normal ds) σ w := mk_eq rfl
@[push_cast] theorem vr17_3 (Q : Post) (ds : List Deferred) (σ : Env) (w : World) : vc Try.prog (.region r17_3) Q ds σ w = vcOps Try.prog [⟨some 20, (Op.move (Operand.tmp 0)), 3, none⟩, ⟨some 21, (Op.move (Operand.tmp 1)), 3, none⟩, ⟨some 22, (Op.binOp BinOp.mul 3 (Operand.tmp 20) (Operand.tmp 21) 3), 3, none⟩, ⟨some 23, (Op.binOp BinOp.add 3 (Operand.tmp 22) (Operand.const (Value.int IntKind.i64 7)) 3), 3, none⟩, ⟨some 24, (Op.binOp BinOp.quo 3 (Operand.tmp 23) (Operand.const (Value.int IntKind.i64 8)) 3), 3, none⟩, ⟨some 4, (Op.assign (Operand.tmp 24)), 3, none⟩, ⟨some 5, (Op.assign (Operand.const (Value.int IntKind.i64 0))), 25, none⟩] (Q .normal ds) σ w := mk_eq rfl
/-! 18 columbary/nibble.Width (params #[22], results #[(ResultVar.tmp 2)], 18 slots) -/
def W18_0 : List Nat := [3, 5, 8, 9, 10, 11, 12, 13, 14, 15]
@[push_cast] theorem W18_0_def : W18_0 = [3, 5, 8, 9, 10, 11, 12, 13, 14, 15] := mk_eq rfl
def r18_0 : List VOp :=
  [⟨some 2, (Op.assign (Operand.const (Value.int IntKind.i64 0))), 3, none⟩]
def r18_1 : List VOp :=
  [⟨some 3, (Op.assign (Operand.const (Value.int IntKind.u64 0))), 32, none⟩]
def r18_2 : List VOp :=
  [⟨some 6, (Op.move (Operand.tmp 0)), 22, none⟩,
   ⟨some 7, (Op.call { callee := (Callee.builtin Builtin.len), args := #[(Operand.tmp 6)], argTypes := #[22] }), 3, none⟩,
   ⟨some 8, (Op.move (Operand.const (Value.int IntKind.i64 0))), 3, none⟩]
def r18_3 : List VOp :=
  [⟨some 9, (Op.binOp BinOp.lss 3 (Operand.tmp 8) (Operand.tmp 7) 3), 0, none⟩]
def r18_4 : List VOp :=
  [⟨some 10, (Op.indexAddr 22 (Operand.tmp 6) (Operand.tmp 8)), 0, none⟩,
   ⟨some 11, (Op.load 32 (Operand.tmp 10)), 32, none⟩,
   ⟨some 5, (Op.assign (Operand.tmp 11)), 32, none⟩]
def r18_5 : List VOp :=
  [⟨some 12, (Op.move (Operand.tmp 3)), 32, none⟩,
   ⟨some 13, (Op.move (Operand.tmp 5)), 32, none⟩,
   ⟨some 14, (Op.binOp BinOp.or 32 (Operand.tmp 12) (Operand.tmp 13) 32), 32, none⟩,
   ⟨some 3, (Op.assign (Operand.tmp 14)), 32, none⟩]
def r18_6 : List VOp :=
  [⟨some 15, (Op.binOp BinOp.add 3 (Operand.tmp 8) (Operand.const (Value.int IntKind.i64 1)) 3), 3, none⟩,
   ⟨some 8, (Op.move (Operand.tmp 15)), 3, none⟩]
def r18_7 : List VOp :=
  [⟨some 16, (Op.move (Operand.tmp 3)), 32, none⟩,
   ⟨some 17, (Op.call { callee := (Callee.value (Operand.func 37)), args := #[(Operand.tmp 16)], argTypes := #[32] }), 3, none⟩,
   ⟨some 2, (Op.assign (Operand.tmp 17)), 3, none⟩]
def B18 : VC :=
  (.seq (.region r18_0) (.seq (.region r18_1) (.seq (.seq (.region r18_2) (.block 0 (.loop (.seq (.region r18_3) (.seq (.cond (Operand.tmp 9) .skip (.exit 0)) (.seq (.block 1 (.seq (.region r18_4) (.region r18_5))) (.region r18_6))))))) (.seq (.region r18_7) .ret))))
theorem code18 : ∃ c, Try.f18.body = some c ∧ abs Try.f18.ntmps c = B18 := ⟨_, rfl, by kernel_rfl⟩
theorem hb18 : HasBody Try.prog 18 := hasBody_of Try.func18 (by kernel_rfl)
theorem res18 : Try.f18.results = #[(ResultVar.tmp 2)] := rfl
theorem enter18 {w : World} {R : Value → World → Prop} (x0 : Value) (h : vc Try.prog B18 (retK Try.prog #[(ResultVar.tmp 2)] R) [] (initEnv [x0] 0) w) : FnC Try.prog 18 #[x0] w R := by
  obtain ⟨c, h1, h2⟩ := code18
  exact hb18.fn (ret_of_vc mixed Try.func18 h1 (Nat.le_of_ble_eq_true rfl) B18 h2 h)
@[push_cast] theorem vr18_0 (Q : Post) (ds : List Deferred) (σ : Env) (w : World) : vc Try.prog (.region r18_0) Q ds σ w = vcOps Try.prog [⟨some 2, (Op.assign (Operand.const (Value.int IntKind.i64 0))), 3, none⟩] (Q .normal ds) σ w := mk_eq rfl
@[push_cast] theorem vr18_1 (Q : Post) (ds : List Deferred) (σ : Env) (w : World) : vc Try.prog (.region r18_1) Q ds σ w = vcOps Try.prog [⟨some 3, (Op.assign (Operand.const (Value.int IntKind.u64 0))), 32, none⟩] (Q .normal ds) σ w := mk_eq rfl
@[push_cast] theorem vr18_2 (Q : Post) (ds : List Deferred) (σ : Env) (w : World) : vc Try.prog (.region r18_2) Q ds σ w = vcOps Try.prog [⟨some 6, (Op.move (Operand.tmp 0)), 22, none⟩, ⟨some 7, (Op.call { callee := (Callee.builtin Builtin.len), args := #[(Operand.tmp 6)], argTypes := #[22] }), 3, none⟩, ⟨some 8, (Op.move (Operand.const (Value.int IntKind.i64 0))), 3, none⟩] (Q .normal ds) σ w := mk_eq rfl
@[push_cast] theorem vr18_3 (Q : Post) (ds : List Deferred) (σ : Env) (w : World) : vc Try.prog (.region r18_3) Q ds σ w = vcOps Try.prog [⟨some 9, (Op.binOp BinOp.lss 3 (Operand.tmp 8) (Operand.tmp 7) 3), 0, none⟩] (Q .normal ds) σ w := mk_eq rfl
@[push_cast] theorem vr18_4 (Q : Post) (ds : List Deferred) (σ : Env) (w : World) : vc Try.prog (.region r18_4) Q ds σ w = vcOps Try.prog [⟨some 10, (Op.indexAddr 22 (Operand.tmp 6) (Operand.tmp 8)), 0, none⟩, ⟨some 11, (Op.load 32 (Operand.tmp 10)), 32, none⟩, ⟨some 5, (Op.assign (Operand.tmp 11)), 32, none⟩] (Q .normal ds) σ w := mk_eq rfl
@[push_cast] theorem vr18_5 (Q : Post) (ds : List Deferred) (σ : Env) (w : World) : vc Try.prog (.region r18_5) Q ds σ w = vcOps Try.prog [⟨some 12, (Op.move (Operand.tmp 3)), 32, none⟩, ⟨some 13, (Op.move (Operand.tmp 5)), 32, none⟩, ⟨some 14, (Op.binOp BinOp.or 32 (Operand.tmp 12) (Operand.tmp 13) 32), 32, none⟩, ⟨some 3, (Op.assign (Operand.tmp 14)), 32, none⟩] (Q .normal ds) σ w := mk_eq rfl
@[push_cast] theorem vr18_6 (Q : Post) (ds : List Deferred) (σ : Env) (w : World) : vc Try.prog (.region r18_6) Q ds σ w = vcOps Try.prog [⟨some 15, (Op.binOp BinOp.add 3 (Operand.tmp 8) (Operand.const (Value.int IntKind.i64 1)) 3), 3, none⟩, ⟨some 8, (Op.move (Operand.tmp 15)), 3, none⟩] (Q .normal ds) σ w := mk_eq rfl
@[push_cast] theorem vr18_7 (Q : Post) (ds : List Deferred) (σ : Env) (w : World) : vc Try.prog (.region r18_7) Q ds σ w = vcOps Try.prog [⟨some 16, (Op.move (Operand.tmp 3)), 32, none⟩, ⟨some 17, (Op.call { callee := (Callee.value (Operand.func 37)), args := #[(Operand.tmp 16)], argTypes := #[32] }), 3, none⟩, ⟨some 2, (Op.assign (Operand.tmp 17)), 3, none⟩] (Q .normal ds) σ w := mk_eq rfl
/-! 19 columbary/columbaryref07.Width (params #[22], results #[(ResultVar.tmp 2)], 27 slots) -/
def W19_0 : List Nat := [3, 4, 5, 6, 7, 8, 9, 10, 11, 12, 13, 14, 15, 16, 17, 18, 19, 20, 21, 22, 23, 24, 25]
@[push_cast] theorem W19_0_def : W19_0 = [3, 4, 5, 6, 7, 8, 9, 10, 11, 12, 13, 14, 15, 16, 17, 18, 19, 20, 21, 22, 23, 24, 25] := mk_eq rfl
def W19_1 : List Nat := [5, 6, 17, 18, 19, 20, 21, 22]
@[push_cast] theorem W19_1_def : W19_1 = [5, 6, 17, 18, 19, 20, 21, 22] := mk_eq rfl
def r19_0 : List VOp :=
  [⟨some 2, (Op.assign (Operand.const (Value.int IntKind.i64 0))), 3, none⟩]
def r19_1 : List VOp :=
  [⟨some 3, (Op.assign (Operand.const (Value.int IntKind.i64 0))), 3, none⟩]
def r19_2 : List VOp :=
  [⟨some 4, (Op.assign (Operand.const (Value.int IntKind.i64 0))), 3, none⟩]
def r19_3 : List VOp :=
  [⟨some 7, (Op.move (Operand.tmp 4)), 3, none⟩,
   ⟨some 8, (Op.move (Operand.tmp 0)), 22, none⟩,
   ⟨some 9, (Op.call { callee := (Callee.builtin Builtin.len), args := #[(Operand.tmp 8)], argTypes := #[22] }), 3, none⟩,
   ⟨some 10, (Op.binOp BinOp.lss 3 (Operand.tmp 7) (Operand.tmp 9) 3), 4, none⟩]
def r19_5 : List VOp :=
  [⟨some 5, (Op.assign (Operand.const (Value.int IntKind.i64 0))), 3, none⟩]
def r19_6 : List VOp :=
  [⟨some 13, (Op.move (Operand.tmp 0)), 22, none⟩,
   ⟨some 14, (Op.move (Operand.tmp 4)), 3, none⟩,
   ⟨some 15, (Op.indexAddr 22 (Operand.tmp 13) (Operand.tmp 14)), 0, none⟩,
   ⟨some 16, (Op.load 32 (Operand.tmp 15)), 32, none⟩,
   ⟨some 6, (Op.assign (Operand.tmp 16)), 32, none⟩]
def r19_7 : List VOp :=
  [⟨some 17, (Op.move (Operand.tmp 6)), 32, none⟩,
   ⟨some 18, (Op.binOp BinOp.gtr 32 (Operand.tmp 17) (Operand.const (Value.int IntKind.u64 0)) 32), 4, none⟩]
def r19_9 : List VOp :=
  [⟨some 21, (Op.move (Operand.tmp 5)), 3, none⟩,
   ⟨some 22, (Op.binOp BinOp.add 3 (Operand.tmp 21) (Operand.const (Value.int IntKind.i64 1)) 3), 3, none⟩,
   ⟨some 5, (Op.assign (Operand.tmp 22)), 3, none⟩]
def r19_8 : List VOp :=
  [⟨some 19, (Op.move (Operand.tmp 6)), 32, none⟩,
   ⟨some 20, (Op.binOp BinOp.quo 32 (Operand.tmp 19) (Operand.const (Value.int IntKind.u64 2)) 32), 32, none⟩,
   ⟨some 6, (Op.assign (Operand.tmp 20)), 32, none⟩]
def r19_10 : List VOp :=
  [⟨some 23, (Op.move (Operand.tmp 3)), 3, none⟩,
   ⟨some 24, (Op.move (Operand.tmp 5)), 3, none⟩,
   ⟨some 25, (Op.call { callee := (Callee.builtin Builtin.max), args := #[(Operand.tmp 23), (Operand.tmp 24)], argTypes := #[3, 3] }), 3, none⟩,
   ⟨some 3, (Op.assign (Operand.tmp 25)), 3, none⟩]
def r19_4 : List VOp :=
  [⟨some 11, (Op.move (Operand.tmp 4)), 3, none⟩,
   ⟨some 12, (Op.binOp BinOp.add 3 (Operand.tmp 11) (Operand.const (Value.int IntKind.i64 1)) 3), 3, none⟩,
   ⟨some 4, (Op.assign (Operand.tmp 12)), 3, none⟩]
def r19_11 : List VOp :=
  [⟨some 26, (Op.move (Operand.tmp 3)), 3, none⟩,
   ⟨some 2, (Op.assign (Operand.tmp 26)), 3, none⟩]
def B19 : VC :=
  (.seq (.region r19_0) (.seq (.region r19_1) (.seq (.seq (.region r19_2) (.block 0 (.loop (.seq (.seq (.region r19_3) (.cond (Operand.tmp 10) .skip (.exit 0))) (.seq (.block 1 (.seq (.region r19_5) (.seq (.seq (.region r19_6) (.block 2 (.loop (.seq (.seq (.region r19_7) (.cond (Operand.tmp 18) .skip (.exit 2))) (.seq (.block 3 (.region r19_9)) (.region r19_8)))))) (.region r19_10)))) (.region r19_4)))))) (.seq (.region r19_11) .ret))))
theorem code19 : ∃ c, Try.f19.body = some c ∧ abs Try.f19.ntmps c = B19 := ⟨_, rfl, by kernel_rfl⟩
theorem hb19 : HasBody Try.prog 19 := hasBody_of Try.func19 (by kernel_rfl)
theorem res19 : Try.f19.results = #[(ResultVar.tmp 2)] := rfl
theorem enter19 {w : World} {R : Value → World → Prop} (x0 : Value) (h : vc Try.prog B19 (retK Try.prog #[(ResultVar.tmp 2)] R) [] (initEnv [x0] 0) w) : FnC Try.prog 19 #[x0] w R := by
  obtain ⟨c, h1, h2⟩ := code19
  exact hb19.fn (ret_of_vc mixed Try.func19 h1 (Nat.le_of_ble_eq_true rfl) B19 h2 h)
@[push_cast] theorem vr19_0 (Q : Post) (ds : List Deferred) (σ : Env) (w : World) : vc Try.prog (.region r19_0) Q ds σ w = vcOps Try.prog [⟨some 2, (Op.assign (Operand.const (Value.int IntKind.i64 0))), 3, none⟩] (Q .normal ds) σ w := mk_eq rfl
@[push_cast] theorem vr19_1 (Q : Post) (ds : List Deferred) (σ : Env) (w : World) : vc Try.prog (.region r19_1) Q ds σ w = vcOps Try.prog [⟨some 3, (Op.assign (Operand.const (Value.int IntKind.i64 0))), 3, none⟩] (Q .normal ds) σ w := mk_eq rfl
@[push_cast] theorem vr19_2 (Q : Post) (ds : List Deferred) (σ : Env) (w : World) : vc Try.prog (.region r19_2) Q ds σ w = vcOps Try.prog [⟨some 4, (Op.assign (Operand.const (Value.int IntKind.i64 0))), 3, none⟩] (Q .normal ds) σ w := mk_eq rfl
@[push_cast] theorem vr19_3 (Q : Post) (ds : List Deferred) (σ : Env) (w : World) : vc Try.prog (.region r19_3) Q ds σ w = vcOps Try.prog [⟨some 7, (Op.move (Operand.tmp 4)), 3, none⟩, ⟨some 8, (Op.move (Operand.tmp 0)), 22, none⟩, ⟨some 9, (Op.call { callee := (Callee.builtin Builtin.len), args := #[(Operand.tmp 8)], argTypes := #[22] }), 3, none⟩, ⟨some 10, (Op.binOp BinOp.lss 3 (Operand.tmp 7) (Operand.tmp 9) 3), 4, none⟩] (Q .normal ds) σ w := mk_eq rfl
@[push_cast] theorem vr19_5 (Q : Post) (ds : List Deferred) (σ : Env) (w : World) : vc Try.prog (.region r19_5) Q ds σ w = vcOps Try.prog [⟨some 5, (Op.assign (Operand.const (Value.int IntKind.i64 0))), 3, none⟩] (Q .normal ds) σ w := mk_eq rfl
@[push_cast] theorem vr19_6 (Q : Post) (ds : List Deferred) (σ : Env) (w : World) : vc Try.prog (.region r19_6) Q ds σ w = vcOps Try.prog [⟨some 13, (Op.move (Operand.tmp 0)), 22, none⟩, ⟨some 14, (Op.move (Operand.tmp 4)), 3, none⟩, ⟨some 15, (Op.indexAddr 22 (Operand.tmp 13) (Operand.tmp 14)), 0, none⟩, ⟨some 16, (Op.load 32 (Operand.tmp 15)), 32, none⟩, ⟨some 6, (Op.assign (Operand.tmp 16)), 32, none⟩] (Q .normal ds) σ w := mk_eq rfl
@[push_cast] theorem vr19_7 (Q : Post) (ds : List Deferred) (σ : Env) (w : World) : vc Try.prog (.region r19_7) Q ds σ w = vcOps Try.prog [⟨some 17, (Op.move (Operand.tmp 6)), 32, none⟩, ⟨some 18, (Op.binOp BinOp.gtr 32 (Operand.tmp 17) (Operand.const (Value.int IntKind.u64 0)) 32), 4, none⟩] (Q .normal ds) σ w := mk_eq rfl
@[push_cast] theorem vr19_9 (Q : Post) (ds : List Deferred) (σ : Env) (w : World) : vc Try.prog (.region r19_9) Q ds σ w = vcOps Try.prog [⟨some 21, (Op.move (Operand.tmp 5)), 3, none⟩, ⟨some 22, (Op.binOp BinOp.add 3 (Operand.tmp 21) (Operand.const (Value.int IntKind.i64 1)) 3), 3, none⟩, ⟨some 5, (Op.assign (Operand.tmp 22)), 3, none⟩] (Q .normal ds) σ w := mk_eq rfl
@[push_cast] theorem vr19_8 (Q : Post) (ds : List Deferred) (σ : Env) (w : World) : vc Try.prog (.region r19_8) Q ds σ w = vcOps Try.prog [⟨some 19, (Op.move (Operand.tmp 6)), 32, none⟩, ⟨some 20, (Op.binOp BinOp.quo 32 (Operand.tmp 19) (Operand.const (Value.int IntKind.u64 2)) 32), 32, none⟩, ⟨some 6, (Op.assign (Operand.tmp 20)), 32, none⟩] (Q .normal ds) σ w := mk_eq rfl
@[push_cast] theorem vr19_10 (Q : Post) (ds : List Deferred) (σ : Env) (w : World) : vc Try.prog (.region r19_10) Q ds σ w = vcOps Try.prog [⟨some 23, (Op.move (Operand.tmp 3)), 3, none⟩, ⟨some 24, (Op.move (Operand.tmp 5)), 3, none⟩, ⟨some 25, (Op.call { callee := (Callee.builtin Builtin.max), args := #[(Operand.tmp 23), (Operand.tmp 24)], argTypes := #[3, 3] }), 3, none⟩, ⟨some 3, (Op.assign (Operand.tmp 25)), 3, none⟩] (Q .normal ds) σ w := mk_eq rfl
@[push_cast] theorem vr19_4 (Q : Post) (ds : List Deferred) (σ : Env) (w : World) : vc Try.prog (.region r19_4) Q ds σ w = vcOps Try.prog [⟨some 11, (Op.move (Operand.tmp 4)), 3, none⟩, ⟨some 12, (Op.binOp BinOp.add 3 (Operand.tmp 11) (Operand.const (Value.int IntKind.i64 1)) 3), 3, none⟩, ⟨some 4, (Op.assign (Operand.tmp 12)), 3, none⟩] (Q .normal ds) σ w := mk_eq rfl
@[push_cast] theorem vr19_11 (Q : Post) (ds : List Deferred) (σ : Env) (w : World) : vc Try.prog (.region r19_11) Q ds σ w = vcOps Try.prog [⟨some 26, (Op.move (Operand.tmp 3)), 3, none⟩, ⟨some 2, (Op.assign (Operand.tmp 26)), 3, none⟩] (Q .normal ds) σ w := mk_eq rfl
/-! 20 columbary/nibble.Unpack (params #[24, 3, 3], results #[(ResultVar.tmp 6), (ResultVar.tmp 7)], 57 slots) -/
def W20_0 : List Nat := [11, 33, 34, 35, 36, 37, 38, 39, 40, 41, 42, 43, 44, 45]
@[push_cast] theorem W20_0_def : W20_0 = [11, 33, 34, 35, 36, 37, 38, 39, 40, 41, 42, 43, 44, 45] := mk_eq rfl
def r20_0 : List VOp :=
  [⟨some 6, (Op.assign (Operand.const (Value.slice none 0 0))), 22, none⟩,
   ⟨some 7, (Op.assign (Operand.const (Value.int IntKind.i64 0))), 25, none⟩]
def r20_1 : List VOp :=
  [⟨some 15, (Op.move (Operand.tmp 1)), 3, none⟩,
   ⟨some 16, (Op.move (Operand.tmp 2)), 3, none⟩,
   ⟨some 17, (Op.call { callee := (Callee.value (Operand.func 16)), args := #[(Operand.tmp 15), (Operand.tmp 16)], argTypes := #[3, 3] }), 28, none⟩,
   ⟨some 14, (Op.move (Operand.tmp 17)), 28, none⟩,
   ⟨some 18, (Op.extract (Operand.tmp 14) 0), 3, none⟩,
   ⟨some 19, (Op.extract (Operand.tmp 14) 1), 25, none⟩,
   ⟨some 8, (Op.assign (Operand.tmp 18)), 3, none⟩,
   ⟨some 9, (Op.assign (Operand.tmp 19)), 25, none⟩]
def r20_2 : List VOp :=
  [⟨some 21, (Op.move (Operand.tmp 9)), 25, none⟩,
   ⟨some 22, (Op.binOp BinOp.neq 25 (Operand.tmp 21) (Operand.const (Value.int IntKind.i64 0)) 25), 4, none⟩,
   ⟨some 20, (Op.assign (Operand.tmp 22)), 4, none⟩]
def r20_3 : List VOp :=
  [⟨some 23, (Op.move (Operand.tmp 9)), 25, none⟩,
   ⟨some 6, (Op.assign (Operand.const (Value.slice none 0 0))), 22, none⟩,
   ⟨some 7, (Op.assign (Operand.tmp 23)), 25, none⟩]
def r20_4 : List VOp :=
  [⟨some 25, (Op.move (Operand.tmp 0)), 24, none⟩,
   ⟨some 26, (Op.call { callee := (Callee.builtin Builtin.len), args := #[(Operand.tmp 25)], argTypes := #[24] }), 3, none⟩,
   ⟨some 27, (Op.move (Operand.tmp 8)), 3, none⟩,
   ⟨some 28, (Op.binOp BinOp.neq 3 (Operand.tmp 26) (Operand.tmp 27) 3), 4, none⟩,
   ⟨some 24, (Op.assign (Operand.tmp 28)), 4, none⟩]
def r20_5 : List VOp :=
  [⟨some 6, (Op.assign (Operand.const (Value.slice none 0 0))), 22, none⟩,
   ⟨some 7, (Op.assign (Operand.const (Value.int IntKind.i64 71))), 25, none⟩]
def r20_6 : List VOp :=
  [⟨some 29, (Op.move (Operand.tmp 1)), 3, none⟩,
   ⟨some 30, (Op.makeSlice 22 (Operand.tmp 29) (Operand.tmp 29)), 22, none⟩,
   ⟨some 10, (Op.assign (Operand.tmp 30)), 22, none⟩]
def r20_7 : List VOp :=
  [⟨some 31, (Op.move (Operand.tmp 10)), 22, none⟩,
   ⟨some 32, (Op.call { callee := (Callee.builtin Builtin.len), args := #[(Operand.tmp 31)], argTypes := #[22] }), 3, none⟩,
   ⟨some 33, (Op.move (Operand.const (Value.int IntKind.i64 0))), 3, none⟩]
def r20_8 : List VOp :=
  [⟨some 34, (Op.binOp BinOp.lss 3 (Operand.tmp 33) (Operand.tmp 32) 3), 0, none⟩]
def r20_9 : List VOp :=
  [⟨some 35, (Op.move (Operand.tmp 33)), 3, none⟩,
   ⟨some 11, (Op.assign (Operand.tmp 35)), 3, none⟩]
def r20_10 : List VOp :=
  [⟨some 36, (Op.move (Operand.tmp 10)), 22, none⟩,
   ⟨some 37, (Op.move (Operand.tmp 11)), 3, none⟩,
   ⟨some 38, (Op.move (Operand.tmp 0)), 24, none⟩,
   ⟨some 39, (Op.move (Operand.tmp 11)), 3, none⟩,
   ⟨some 40, (Op.move (Operand.tmp 2)), 3, none⟩,
   ⟨some 41, (Op.binOp BinOp.mul 3 (Operand.tmp 39) (Operand.tmp 40) 3), 3, none⟩,
   ⟨some 42, (Op.move (Operand.tmp 2)), 3, none⟩,
   ⟨some 43, (Op.call { callee := (Callee.value (Operand.func 38)), args := #[(Operand.tmp 38), (Operand.tmp 41), (Operand.tmp 42)], argTypes := #[24, 3, 3] }), 32, none⟩,
   ⟨some 44, (Op.indexAddr 22 (Operand.tmp 36) (Operand.tmp 37)), 0, none⟩,
   ⟨none, (Op.store 32 (Operand.tmp 44) (Operand.tmp 43)), 0, none⟩]
def r20_11 : List VOp :=
  [⟨some 45, (Op.binOp BinOp.add 3 (Operand.tmp 33) (Operand.const (Value.int IntKind.i64 1)) 3), 3, none⟩,
   ⟨some 33, (Op.move (Operand.tmp 45)), 3, none⟩]
def r20_12 : List VOp :=
  [⟨some 47, (Op.move (Operand.tmp 10)), 22, none⟩,
   ⟨some 48, (Op.move (Operand.tmp 2)), 3, none⟩,
   ⟨some 49, (Op.call { callee := (Callee.value (Operand.func 14)), args := #[(Operand.tmp 47), (Operand.tmp 48)], argTypes := #[22, 3] }), 26, none⟩,
   ⟨some 46, (Op.move (Operand.tmp 49)), 26, none⟩,
   ⟨some 50, (Op.extract (Operand.tmp 46) 0), 24, none⟩,
   ⟨some 51, (Op.extract (Operand.tmp 46) 1), 25, none⟩,
   ⟨some 12, (Op.assign (Operand.tmp 50)), 24, none⟩,
   ⟨some 13, (Op.assign (Operand.tmp 51)), 25, none⟩]
def r20_13 : List VOp :=
  [⟨some 52, (Op.move (Operand.tmp 12)), 24, none⟩,
   ⟨some 53, (Op.move (Operand.tmp 0)), 24, none⟩,
   ⟨some 54, (Op.call { callee := (Callee.value (Operand.func 39)), args := #[(Operand.tmp 52), (Operand.tmp 53)], argTypes := #[24, 24] }), 4, none⟩,
   ⟨some 55, (Op.unOp UnOp.not 4 (Operand.tmp 54)), 4, none⟩]
def r20_14 : List VOp :=
  [⟨some 6, (Op.assign (Operand.const (Value.slice none 0 0))), 22, none⟩,
   ⟨some 7, (Op.assign (Operand.const (Value.int IntKind.i64 71))), 25, none⟩]
def r20_15 : List VOp :=
  [⟨some 56, (Op.move (Operand.tmp 10)), 22, none⟩,
   ⟨some 6, (Op.assign (Operand.tmp 56)), 22, none⟩,
   ⟨some 7, (Op.assign (Operand.const (Value.int IntKind.i64 0))), 25, none⟩]
def B20 : VC :=
  (.seq (.region r20_0) (.seq (.region r20_1) (.seq (.block 0 (.seq (.region r20_2) (.cond (Operand.tmp 20) (.seq (.region r20_3) .ret) (.seq (.region r20_4) (.cond (Operand.tmp 24) (.seq (.region r20_5) .ret) .skip))))) (.seq (.region r20_6) (.seq (.seq (.region r20_7) (.block 1 (.loop (.seq (.region r20_8) (.seq (.cond (Operand.tmp 34) .skip (.exit 1)) (.seq (.block 2 (.seq (.region r20_9) (.region r20_10))) (.region r20_11))))))) (.seq (.seq (.region r20_12) (.seq (.region r20_13) (.cond (Operand.tmp 55) (.seq (.region r20_14) .ret) .skip))) (.seq (.region r20_15) .ret)))))))
theorem code20 : ∃ c, Try.f20.body = some c ∧ abs Try.f20.ntmps c = B20 := ⟨_, rfl, by kernel_rfl⟩
theorem hb20 : HasBody Try.prog 20 := hasBody_of Try.func20 (by kernel_rfl)
theorem res20 : Try.f20.results = #[(ResultVar.tmp 6), (ResultVar.tmp 7)] := rfl
theorem enter20 {w : World} {R : Value → World → Prop} (x0 x1 x2 : Value) (h : vc Try.prog B20 (retK Try.prog #[(ResultVar.tmp 6), (ResultVar.tmp 7)] R) [] (initEnv [x0, x1, x2] 0) w) : FnC Try.prog 20 #[x0, x1, x2] w R := by
  obtain ⟨c, h1, h2⟩ := code20
  exact hb20.fn (ret_of_vc mixed Try.func20 h1 (Nat.le_of_ble_eq_true rfl) B20 h2 h)
@[push_cast] theorem vr20_0 (Q : Post) (ds : List Deferred) (σ : Env) (w : World) : vc Try.prog (.region r20_0) Q ds σ w = vcOps Try.prog [⟨some 6, (Op.assign (Operand.const (Value.slice none 0 0))), 22, none⟩, ⟨some 7, (Op.assign (Operand.const (Value.int IntKind.i64 0))), 25, none⟩] (Q .normal ds) σ w := mk_eq rfl
@[push_cast] theorem vr20_1 (Q : Post) (ds : List Deferred) (σ : Env) (w : World) : vc Try.prog (.region r20_1) Q ds σ w = vcOps Try.prog [⟨some 15, (Op.move (Operand.tmp 1)), 3, none⟩, ⟨some 16, (Op.move (Operand.tmp 2)), 3, none⟩, ⟨some 17, (Op.call { callee := (Callee.value (Operand.func 16)), args := #[(Operand.tmp 15), (Operand.tmp 16)], argTypes := #[3, 3] }), 28, none⟩, ⟨some 14, (Op.move (Operand.tmp 17)), 28, none⟩, ⟨some 18, (Op.extract (Operand.tmp 14) 0), 3, none⟩, ⟨some 19, (Op.extract (Operand.tmp 14) 1), 25, none⟩, ⟨some 8, (Op.assign (Operand.tmp 18)), 3, none⟩, ⟨some 9, (Op.assign (Operand.tmp 19)), 25, none⟩] (Q .normal ds) σ w := mk_eq rfl
@[push_cast] theorem vr20_2 (Q : Post) (ds : List Deferred) (σ : Env) (w : World) : vc Try.prog (.region r20_2) Q ds σ w = vcOps Try.prog [⟨some 21, (Op.move (Operand.tmp 9)), 25, none⟩, ⟨some 22, (Op.binOp BinOp.neq 25 (Operand.tmp 21) (Operand.const (Value.int IntKind.i64 0)) 25), 4, none⟩, ⟨some 20, (Op.assign (Operand.tmp 22)), 4, none⟩] (Q .normal ds) σ w := mk_eq rfl
@[push_cast] theorem vr20_3 (Q : Post) (ds : List Deferred) (σ : Env) (w : World) : vc Try.prog (.region r20_3) Q ds σ w = vcOps Try.prog [⟨some 23, (Op.move (Operand.tmp 9)), 25, none⟩, ⟨some 6, (Op.assign (Operand.const (Value.slice none 0 0))), 22, none⟩, ⟨some 7, (Op.assign (Operand.tmp 23)), 25, none⟩] (Q .normal ds) σ w := mk_eq rfl
@[push_cast] theorem vr20_4 (Q : Post) (ds : List Deferred) (σ : Env) (w : World) : vc Try.prog (.region r20_4) Q ds σ w = vcOps Try.prog [⟨some 25, (Op.move (Operand.tmp 0)), 24, none⟩, ⟨some 26, (Op.call { callee := (Callee.builtin Builtin.len), args := #[(Operand.tmp 25)], argTypes := #[24] }), 3, none⟩, ⟨some 27, (Op.move (Operand.tmp 8)), 3, none⟩, ⟨some 28, (Op.binOp BinOp.neq 3 (Operand.tmp 26) (Operand.tmp 27) 3), 4, none⟩, ⟨some 24, (Op.assign (Operand.tmp 28)), 4, none⟩] (Q .normal ds) σ w := mk_eq rfl
@[push_cast] theorem vr20_5 (Q : Post) (ds : List Deferred) (σ : Env) (w : World) : vc Try.prog (.region r20_5) Q ds σ w = vcOps Try.prog [⟨some 6, (Op.assign (Operand.const (Value.slice none 0 0))), 22, none⟩, ⟨some 7, (Op.assign (Operand.const (Value.int IntKind.i64 71))), 25, none⟩] (Q .normal ds) σ w := mk_eq rfl
@[push_cast] theorem vr20_6 (Q : Post) (ds : List Deferred) (σ : Env) (w : World) : vc Try.prog (.region r20_6) Q ds σ w = vcOps Try.prog [⟨some 29, (Op.move (Operand.tmp 1)), 3, none⟩, ⟨some 30, (Op.makeSlice 22 (Operand.tmp 29) (Operand.tmp 29)), 22, none⟩, ⟨some 10, (Op.assign (Operand.tmp 30)), 22, none⟩] (Q .normal ds) σ w := mk_eq rfl
@[push_cast] theorem vr20_7 (Q : Post) (ds : List Deferred) (σ : Env) (w : World) : vc Try.prog (.region r20_7) Q ds σ w = vcOps Try.prog [⟨some 31, (Op.move (Operand.tmp 10)), 22, none⟩, ⟨some 32, (Op.call { callee := (Callee.builtin Builtin.len), args := #[(Operand.tmp 31)], argTypes := #[22] }), 3, none⟩, ⟨some 33, (Op.move (Operand.const (Value.int IntKind.i64 0))), 3, none⟩] (Q .normal ds) σ w := mk_eq rfl
@[push_cast] theorem vr20_8 (Q : Post) (ds : List Deferred) (σ : Env) (w : World) : vc Try.prog (.region r20_8) Q ds σ w = vcOps Try.prog [⟨some 34, (Op.binOp BinOp.lss 3 (Operand.tmp 33) (Operand.tmp 32) 3), 0, none⟩] (Q .normal ds) σ w := mk_eq rfl
@[push_cast] theorem vr20_9 (Q : Post) (ds : List Deferred) (σ : Env) (w : World) : vc Try.prog (.region r20_9) Q ds σ w = vcOps Try.prog [⟨some 35, (Op.move (Operand.tmp 33)), 3, none⟩, ⟨some 11, (Op.assign (Operand.tmp 35)), 3, none⟩] (Q .normal ds) σ w := mk_eq rfl
@[push_cast] theorem vr20_10 (Q : Post) (ds : List Deferred) (σ : Env) (w : World) : vc Try.prog (.region r20_10) Q ds σ w = vcOps Try.prog [⟨some 36, (Op.move (Operand.tmp 10)), 22, none⟩, ⟨some 37, (Op.move (Operand.tmp 11)), 3, none⟩, ⟨some 38, (Op.move (Operand.tmp 0)), 24, none⟩, ⟨some 39, (Op.move (Operand.tmp 11)), 3, none⟩, ⟨some 40, (Op.move (Operand.tmp 2)), 3, none⟩, ⟨some 41, (Op.binOp BinOp.mul 3 (Operand.tmp 39) (Operand.tmp 40) 3), 3, none⟩, ⟨some 42, (Op.move (Operand.tmp 2)), 3, none⟩, ⟨some 43, (Op.call { callee := (Callee.value (Operand.func 38)), args := #[(Operand.tmp 38), (Operand.tmp 41), (Operand.tmp 42)], argTypes := #[24, 3, 3] }), 32, none⟩, ⟨some 44, (Op.indexAddr 22 (Operand.tmp 36) (Operand.tmp 37)), 0, none⟩, ⟨none, (Op.store 32 (Operand.tmp 44) (Operand.tmp 43)), 0, none⟩] (Q .normal ds) σ w := mk_eq rfl
@[push_cast] theorem vr20_11 (Q : Post) (ds : List Deferred) (σ : Env) (w : World) : vc Try.prog (.region r20_11) Q ds σ w = vcOps Try.prog [⟨some 45, (Op.binOp BinOp.add 3 (Operand.tmp 33) (Operand.const (Value.int IntKind.i64 1)) 3), 3, none⟩, ⟨some 33, (Op.move (Operand.tmp 45)), 3, none⟩] (Q .normal ds) σ w := mk_eq rfl
@[push_cast] theorem vr20_12 (Q : Post) (ds : List Deferred) (σ : Env) (w : World) : vc Try.prog (.region r20_12) Q ds σ w = vcOps Try.prog [⟨some 47, (Op.move (Operand.tmp 10)), 22, none⟩, ⟨some 48, (Op.move (Operand.tmp 2)), 3, none⟩, ⟨some 49, (Op.call { callee := (Callee.value (Operand.func 14)), args := #[(Operand.tmp 47), (Operand.tmp 48)], argTypes := #[22, 3] }), 26, none⟩, ⟨some 46, (Op.move (Operand.tmp 49)), 26, none⟩, ⟨some 50, (Op.extract (Operand.tmp 46) 0), 24, none⟩, ⟨some 51, (Op.extract (Operand.tmp 46) 1), 25, none⟩, ⟨some 12, (Op.assign (Operand.tmp 50)), 24, none⟩, ⟨some 13, (Op.assign (Operand.tmp 51)), 25, none⟩] (Q .normal ds) σ w := mk_eq rfl
@[push_cast] theorem vr20_13 (Q : Post) (ds : List Deferred) (σ : Env) (w : World) : vc Try.prog (.region r20_13) Q ds σ w = vcOps Try.prog [⟨some 52, (Op.move (Operand.tmp 12)), 24, none⟩, ⟨some 53, (Op.move (Operand.tmp 0)), 24, none⟩, ⟨some 54, (Op.call { callee := (Callee.value (Operand.func 39)), args := #[(Operand.tmp 52), (Operand.tmp 53)], argTypes := #[24, 24] }), 4, none⟩, ⟨some 55, (Op.unOp UnOp.not 4 (Operand.tmp 54)), 4, none⟩] (Q .normal ds) σ w := mk_eq rfl
@[push_cast] theorem vr20_14 (Q : Post) (ds : List Deferred) (σ : Env) (w : World) : vc Try.prog (.region r20_14) Q ds σ w = vcOps Try.prog [⟨some 6, (Op.assign (Operand.const (Value.slice none 0 0))), 22, none⟩, ⟨some 7, (Op.assign (Operand.const (Value.int IntKind.i64 71))), 25, none⟩] (Q .normal ds) σ w := mk_eq rfl
@[push_cast] theorem vr20_15 (Q : Post) (ds : List Deferred) (σ : Env) (w : World) : vc Try.prog (.region r20_15) Q ds σ w = vcOps Try.prog [⟨some 56, (Op.move (Operand.tmp 10)), 22, none⟩, ⟨some 6, (Op.assign (Operand.tmp 56)), 22, none⟩, ⟨some 7, (Op.assign (Operand.const (Value.int IntKind.i64 0))), 25, none⟩] (Q .normal ds) σ w := mk_eq rfl
/-! 21 columbary/columbaryref07.Unpack (params #[24, 3, 3], results #[(ResultVar.tmp 6), (ResultVar.tmp 7)], 53 slots) -/
def W21_0 : List Nat := [10, 11, 27, 28, 29, 30, 31, 32, 33, 34, 35, 36, 37, 38, 39, 40]
@[push_cast] theorem W21_0_def : W21_0 = [10, 11, 27, 28, 29, 30, 31, 32, 33, 34, 35, 36, 37, 38, 39, 40] := mk_eq rfl
def r21_0 : List VOp :=
  [⟨some 6, (Op.assign (Operand.const (Value.slice none 0 0))), 22, none⟩,
   ⟨some 7, (Op.assign (Operand.const (Value.int IntKind.i64 0))), 25, none⟩]
def r21_1 : List VOp :=
  [⟨some 15, (Op.move (Operand.tmp 1)), 3, none⟩,
   ⟨some 16, (Op.move (Operand.tmp 2)), 3, none⟩,
   ⟨some 17, (Op.call { callee := (Callee.value (Operand.func 17)), args := #[(Operand.tmp 15), (Operand.tmp 16)], argTypes := #[3, 3] }), 28, none⟩,
   ⟨some 14, (Op.move (Operand.tmp 17)), 28, none⟩,
   ⟨some 18, (Op.extract (Operand.tmp 14) 0), 3, none⟩,
   ⟨some 19, (Op.extract (Operand.tmp 14) 1), 25, none⟩,
   ⟨some 8, (Op.assign (Operand.tmp 18)), 3, none⟩,
   ⟨some 9, (Op.assign (Operand.tmp 19)), 25, none⟩]
def r21_2 : List VOp :=
  [⟨some 20, (Op.move (Operand.tmp 9)), 25, none⟩,
   ⟨some 21, (Op.binOp BinOp.neq 25 (Operand.tmp 20) (Operand.const (Value.int IntKind.i64 0)) 25), 4, none⟩]
def r21_3 : List VOp :=
  [⟨some 22, (Op.move (Operand.tmp 9)), 25, none⟩,
   ⟨some 6, (Op.assign (Operand.const (Value.slice none 0 0))), 22, none⟩,
   ⟨some 7, (Op.assign (Operand.tmp 22)), 25, none⟩]
def r21_4 : List VOp :=
  [⟨some 23, (Op.move (Operand.tmp 0)), 24, none⟩,
   ⟨some 24, (Op.call { callee := (Callee.builtin Builtin.len), args := #[(Operand.tmp 23)], argTypes := #[24] }), 3, none⟩,
   ⟨some 25, (Op.move (Operand.tmp 8)), 3, none⟩,
   ⟨some 26, (Op.binOp BinOp.neq 3 (Operand.tmp 24) (Operand.tmp 25) 3), 4, none⟩]
def r21_5 : List VOp :=
  [⟨some 6, (Op.assign (Operand.const (Value.slice none 0 0))), 22, none⟩,
   ⟨some 7, (Op.assign (Operand.const (Value.int IntKind.i64 71))), 25, none⟩]
def r21_6 : List VOp :=
  [⟨some 10, (Op.assign (Operand.const (Value.slice none 0 0))), 22, none⟩]
def r21_7 : List VOp :=
  [⟨some 11, (Op.assign (Operand.const (Value.int IntKind.i64 0))), 3, none⟩]
def r21_8 : List VOp :=
  [⟨some 27, (Op.move (Operand.tmp 11)), 3, none⟩,
   ⟨some 28, (Op.move (Operand.tmp 1)), 3, none⟩,
   ⟨some 29, (Op.binOp BinOp.lss 3 (Operand.tmp 27) (Operand.tmp 28) 3), 4, none⟩]
def r21_10 : List VOp :=
  [⟨some 32, (Op.move (Operand.tmp 10)), 22, none⟩,
   ⟨some 33, (Op.move (Operand.tmp 0)), 24, none⟩,
   ⟨some 34, (Op.move (Operand.tmp 11)), 3, none⟩,
   ⟨some 35, (Op.move (Operand.tmp 2)), 3, none⟩,
   ⟨some 36, (Op.binOp BinOp.mul 3 (Operand.tmp 34) (Operand.tmp 35) 3), 3, none⟩,
   ⟨some 37, (Op.move (Operand.tmp 2)), 3, none⟩,
   ⟨some 38, (Op.call { callee := (Callee.value (Operand.func 40)), args := #[(Operand.tmp 33), (Operand.tmp 36), (Operand.tmp 37)], argTypes := #[24, 3, 3] }), 32, none⟩,
   ⟨some 39, (Op.buildSlice 22 1 #[(0, (Operand.tmp 38))]), 22, none⟩,
   ⟨some 40, (Op.call { callee := (Callee.builtin Builtin.append), args := #[(Operand.tmp 32), (Operand.tmp 39)], argTypes := #[22, 22] }), 22, none⟩,
   ⟨some 10, (Op.assign (Operand.tmp 40)), 22, none⟩]
def r21_9 : List VOp :=
  [⟨some 30, (Op.move (Operand.tmp 11)), 3, none⟩,
   ⟨some 31, (Op.binOp BinOp.add 3 (Operand.tmp 30) (Operand.const (Value.int IntKind.i64 1)) 3), 3, none⟩,
   ⟨some 11, (Op.assign (Operand.tmp 31)), 3, none⟩]
def r21_11 : List VOp :=
  [⟨some 42, (Op.move (Operand.tmp 10)), 22, none⟩,
   ⟨some 43, (Op.move (Operand.tmp 2)), 3, none⟩,
   ⟨some 44, (Op.call { callee := (Callee.value (Operand.func 15)), args := #[(Operand.tmp 42), (Operand.tmp 43)], argTypes := #[22, 3] }), 26, none⟩,
   ⟨some 41, (Op.move (Operand.tmp 44)), 26, none⟩,
   ⟨some 45, (Op.extract (Operand.tmp 41) 0), 24, none⟩,
   ⟨some 46, (Op.extract (Operand.tmp 41) 1), 25, none⟩,
   ⟨some 12, (Op.assign (Operand.tmp 45)), 24, none⟩,
   ⟨some 13, (Op.assign (Operand.tmp 46)), 25, none⟩]
def r21_12 : List VOp :=
  [⟨some 47, (Op.move (Operand.tmp 12)), 24, none⟩,
   ⟨some 48, (Op.convert 24 9 (Operand.tmp 47)), 9, none⟩,
   ⟨some 49, (Op.move (Operand.tmp 0)), 24, none⟩,
   ⟨some 50, (Op.convert 24 9 (Operand.tmp 49)), 9, none⟩,
   ⟨some 51, (Op.binOp BinOp.neq 9 (Operand.tmp 48) (Operand.tmp 50) 9), 4, none⟩]
def r21_13 : List VOp :=
  [⟨some 6, (Op.assign (Operand.const (Value.slice none 0 0))), 22, none⟩,
   ⟨some 7, (Op.assign (Operand.const (Value.int IntKind.i64 71))), 25, none⟩]
def r21_14 : List VOp :=
  [⟨some 52, (Op.move (Operand.tmp 10)), 22, none⟩,
   ⟨some 6, (Op.assign (Operand.tmp 52)), 22, none⟩,
   ⟨some 7, (Op.assign (Operand.const (Value.int IntKind.i64 0))), 25, none⟩]
def B21 : VC :=
  (.seq (.region r21_0) (.seq (.region r21_1) (.seq (.seq (.region r21_2) (.cond (Operand.tmp 21) (.seq (.region r21_3) .ret) .skip)) (.seq (.seq (.region r21_4) (.cond (Operand.tmp 26) (.seq (.region r21_5) .ret) .skip)) (.seq (.region r21_6) (.seq (.seq (.region r21_7) (.block 0 (.loop (.seq (.seq (.region r21_8) (.cond (Operand.tmp 29) .skip (.exit 0))) (.seq (.block 1 (.region r21_10)) (.region r21_9)))))) (.seq (.region r21_11) (.seq (.seq (.region r21_12) (.cond (Operand.tmp 51) (.seq (.region r21_13) .ret) .skip)) (.seq (.region r21_14) .ret)))))))))
theorem code21 : ∃ c, Try.f21.body = some c ∧ abs Try.f21.ntmps c = B21 := ⟨_, rfl, by kernel_rfl⟩
theorem hb21 : HasBody Try.prog 21 := hasBody_of Try.func21 (by kernel_rfl)
theorem res21 : Try.f21.results = #[(ResultVar.tmp 6), (ResultVar.tmp 7)] := rfl
theorem enter21 {w : World} {R : Value → World → Prop} (x0 x1 x2 : Value) (h : vc Try.prog B21 (retK Try.prog #[(ResultVar.tmp 6), (ResultVar.tmp 7)] R) [] (initEnv [x0, x1, x2] 0) w) : FnC Try.prog 21 #[x0, x1, x2] w R := by
  obtain ⟨c, h1, h2⟩ := code21
  exact hb21.fn (ret_of_vc mixed Try.func21 h1 (Nat.le_of_ble_eq_true rfl) B21 h2 h)
@[push_cast] theorem vr21_0 (Q : Post) (ds : List Deferred) (σ : Env) (w : World) : vc Try.prog (.region r21_0) Q ds σ w = vcOps Try.prog [⟨some 6, (Op.assign (Operand.const (Value.slice none 0 0))), 22, none⟩, ⟨some 7, (Op.assign (Operand.const (Value.int IntKind.i64 0))), 25, none⟩] (Q .normal ds) σ w := mk_eq rfl
@[push_cast] theorem vr21_1 (Q : Post) (ds : List Deferred) (σ : Env) (w : World) : vc Try.prog (.region r21_1) Q ds σ w = vcOps Try.prog [⟨some 15, (Op.move (Operand.tmp 1)), 3, none⟩, ⟨some 16, (Op.move (Operand.tmp 2)), 3, none⟩, ⟨some 17, (Op.call { callee := (Callee.value (Operand.func 17)), args := #[(Operand.tmp 15), (Operand.tmp 16)], argTypes := #[3, 3] }), 28, none⟩, ⟨some 14, (Op.move (Operand.tmp 17)), 28, none⟩, ⟨some 18, (Op.extract (Operand.tmp 14) 0), 3, none⟩, ⟨some 19, (Op.extract (Operand.tmp 14) 1), 25, none⟩, ⟨some 8, (Op.assign (Operand.tmp 18)), 3, none⟩, ⟨some 9, (Op.assign (Operand.tmp 19)), 25, none⟩] (Q .normal ds) σ w := mk_eq rfl
@[push_cast] theorem vr21_2 (Q : Post) (ds : List Deferred) (σ : Env) (w : World) : vc Try.prog (.region r21_2) Q ds σ w = vcOps Try.prog [⟨some 20, (Op.move (Operand.tmp 9)), 25, none⟩, ⟨some 21, (Op.binOp BinOp.neq 25 (Operand.tmp 20) (Operand.const (Value.int IntKind.i64 0)) 25), 4, none⟩] (Q .normal ds) σ w := mk_eq rfl
@[push_cast] theorem vr21_3 (Q : Post) (ds : List Deferred) (σ : Env) (w : World) : vc Try.prog (.region r21_3) Q ds σ w = vcOps Try.prog [⟨some 22, (Op.move (Operand.tmp 9)), 25, none⟩, ⟨some 6, (Op.assign (Operand.const (Value.slice none 0 0))), 22, none⟩, ⟨some 7, (Op.assign (Operand.tmp 22)), 25, none⟩] (Q .normal ds) σ w := mk_eq rfl
@[push_cast] theorem vr21_4 (Q : Post) (ds : List Deferred) (σ : Env) (w : World) : vc Try.prog (.region r21_4) Q ds σ w = vcOps Try.prog [⟨some 23, (Op.move (Operand.tmp 0)), 24, none⟩, ⟨some 24, (Op.call { callee := (Callee.builtin Builtin.len), args := #[(Operand.tmp 23)], argTypes := #[24] }), 3, none⟩, ⟨some 25, (Op.move (Operand.tmp 8)), 3, none⟩, ⟨some 26, (Op.binOp BinOp.neq 3 (Operand.tmp 24) (Operand.tmp 25) 3), 4, none⟩] (Q .normal ds) σ w := mk_eq rfl
@[push_cast] theorem vr21_5 (Q : Post) (ds : List Deferred) (σ : Env) (w : World) : vc Try.prog (.region r21_5) Q ds σ w = vcOps Try.prog [⟨some 6, (Op.assign (Operand.const (Value.slice none 0 0))), 22, none⟩, ⟨some 7, (Op.assign (Operand.const (Value.int IntKind.i64 71))), 25, none⟩] (Q .normal ds) σ w := mk_eq rfl
@[push_cast] theorem vr21_6 (Q : Post) (ds : List Deferred) (σ : Env) (w : World) : vc Try.prog (.region r21_6) Q ds σ w = vcOps Try.prog [⟨some 10, (Op.assign (Operand.const (Value.slice none 0 0))), 22, none⟩] (Q .normal ds) σ w := mk_eq rfl
@[push_cast] theorem vr21_7 (Q : Post) (ds : List Deferred) (σ : Env) (w : World) : vc Try.prog (.region r21_7) Q ds σ w = vcOps Try.prog [⟨some 11, (Op.assign (Operand.const (Value.int IntKind.i64 0))), 3, none⟩] (Q .normal ds) σ w := mk_eq rfl
@[push_cast] theorem vr21_8 (Q : Post) (ds : List Deferred) (σ : Env) (w : World) : vc Try.prog (.region r21_8) Q ds σ w = vcOps Try.prog [⟨some 27, (Op.move (Operand.tmp 11)), 3, none⟩, ⟨some 28, (Op.move (Operand.tmp 1)), 3, none⟩, ⟨some 29, (Op.binOp BinOp.lss 3 (Operand.tmp 27) (Operand.tmp 28) 3), 4, none⟩] (Q .normal ds) σ w := mk_eq rfl
@[push_cast] theorem vr21_10 (Q : Post) (ds : List Deferred) (σ : Env) (w : World) : vc Try.prog (.region r21_10) Q ds σ w = vcOps Try.prog [⟨some 32, (Op.move (Operand.tmp 10)), 22, none⟩, ⟨some 33, (Op.move (Operand.tmp 0)), 24, none⟩, ⟨some 34, (Op.move (Operand.tmp 11)), 3, none⟩, ⟨some 35, (Op.move (Operand.tmp 2)), 3, none⟩, ⟨some 36, (Op.binOp BinOp.mul 3 (Operand.tmp 34) (Operand.tmp 35) 3), 3, none⟩, ⟨some 37, (Op.move (Operand.tmp 2)), 3, none⟩, ⟨some 38, (Op.call { callee := (Callee.value (Operand.func 40)), args := #[(Operand.tmp 33), (Operand.tmp 36), (Operand.tmp 37)], argTypes := #[24, 3, 3] }), 32, none⟩, ⟨some 39, (Op.buildSlice 22 1 #[(0, (Operand.tmp 38))]), 22, none⟩, ⟨some 40, (Op.call { callee := (Callee.builtin Builtin.append), args := #[(Operand.tmp 32), (Operand.tmp 39)], argTypes := #[22, 22] }), 22, none⟩, ⟨some 10, (Op.assign (Operand.tmp 40)), 22, none⟩] (Q .normal ds) σ w := mk_eq rfl
@[push_cast] theorem vr21_9 (Q : Post) (ds : List Deferred) (σ : Env) (w : World) : vc Try.prog (.region r21_9) Q ds σ w = vcOps Try.prog [⟨some 30, (Op.move (Operand.tmp 11)), 3, none⟩, ⟨some 31, (Op.binOp BinOp.add 3 (Operand.tmp 30) (Operand.const (Value.int IntKind.i64 1)) 3), 3, none⟩, ⟨some 11, (Op.assign (Operand.tmp 31)), 3, none⟩] (Q .normal ds) σ w := mk_eq rfl
@[push_cast] theorem vr21_11 (Q : Post) (ds : List Deferred) (σ : Env) (w : World) : vc Try.prog (.region r21_11) Q ds σ w = vcOps Try.prog [⟨some 42, (Op.move (Operand.tmp 10)), 22, none⟩, ⟨some 43, (Op.move (Operand.tmp 2)), 3, none⟩, ⟨some 44, (Op.call { callee := (Callee.value (Operand.func 15)), args := #[(Operand.tmp 42), (Operand.tmp 43)], argTypes := #[22, 3] }), 26, none⟩, ⟨some 41, (Op.move (Operand.tmp 44)), 26, none⟩, ⟨some 45, (Op.extract (Operand.tmp 41) 0), 24, none⟩, ⟨some 46, (Op.extract (Operand.tmp 41) 1), 25, none⟩, ⟨some 12, (Op.assign (Operand.tmp 45)), 24, none⟩, ⟨some 13, (Op.assign (Operand.tmp 46)), 25, none⟩] (Q .normal ds) σ w := mk_eq rfl
@[push_cast] theorem vr21_12 (Q : Post) (ds : List Deferred) (σ : Env) (w : World) : vc Try.prog (.region r21_12) Q ds σ w = vcOps Try.prog [⟨some 47, (Op.move (Operand.tmp 12)), 24, none⟩, ⟨some 48, (Op.convert 24 9 (Operand.tmp 47)), 9, none⟩, ⟨some 49, (Op.move (Operand.tmp 0)), 24, none⟩, ⟨some 50, (Op.convert 24 9 (Operand.tmp 49)), 9, none⟩, ⟨some 51, (Op.binOp BinOp.neq 9 (Operand.tmp 48) (Operand.tmp 50) 9), 4, none⟩] (Q .normal ds) σ w := mk_eq rfl
@[push_cast] theorem vr21_13 (Q : Post) (ds : List Deferred) (σ : Env) (w : World) : vc Try.prog (.region r21_13) Q ds σ w = vcOps Try.prog [⟨some 6, (Op.assign (Operand.const (Value.slice none 0 0))), 22, none⟩, ⟨some 7, (Op.assign (Operand.const (Value.int IntKind.i64 71))), 25, none⟩] (Q .normal ds) σ w := mk_eq rfl
@[push_cast] theorem vr21_14 (Q : Post) (ds : List Deferred) (σ : Env) (w : World) : vc Try.prog (.region r21_14) Q ds σ w = vcOps Try.prog [⟨some 52, (Op.move (Operand.tmp 10)), 22, none⟩, ⟨some 6, (Op.assign (Operand.tmp 52)), 22, none⟩, ⟨some 7, (Op.assign (Operand.const (Value.int IntKind.i64 0))), 25, none⟩] (Q .normal ds) σ w := mk_eq rfl
/-! 22 columbary/nibble.At (params #[24, 3, 3], results #[(ResultVar.tmp 6), (ResultVar.tmp 7)], 36 slots) -/
def r22_0 : List VOp :=
  [⟨some 6, (Op.assign (Operand.const (Value.int IntKind.u64 0))), 32, none⟩,
   ⟨some 7, (Op.assign (Operand.const (Value.int IntKind.i64 0))), 25, none⟩]
def r22_1 : List VOp :=
  [⟨some 9, (Op.move (Operand.tmp 1)), 3, none⟩,
   ⟨some 10, (Op.binOp BinOp.lss 3 (Operand.tmp 9) (Operand.const (Value.int IntKind.i64 0)) 3), 4, none⟩,
   ⟨some 11, (Op.move (Operand.tmp 10)), 4, none⟩,
   ⟨some 12, (Op.move (Operand.tmp 2)), 3, some (11, false)⟩,
   ⟨some 13, (Op.binOp BinOp.lss 3 (Operand.tmp 12) (Operand.const (Value.int IntKind.i64 0)) 3), 4, some (11, false)⟩,
   ⟨some 14, (Op.pick (Operand.tmp 11) (Operand.const (Value.bool true)) (Operand.tmp 13)), 4, none⟩,
   ⟨some 15, (Op.move (Operand.tmp 14)), 4, none⟩,
   ⟨some 16, (Op.move (Operand.tmp 2)), 3, some (15, false)⟩,
   ⟨some 17, (Op.binOp BinOp.gtr 3 (Operand.tmp 16) (Operand.const (Value.int IntKind.i64 64)) 3), 4, some (15, false)⟩,
   ⟨some 18, (Op.pick (Operand.tmp 15) (Operand.const (Value.bool true)) (Operand.tmp 17)), 4, none⟩,
   ⟨some 8, (Op.assign (Operand.tmp 18)), 4, none⟩]
def r22_2 : List VOp :=
  [⟨some 6, (Op.assign (Operand.const (Value.int IntKind.u64 0))), 32, none⟩,
   ⟨some 7, (Op.assign (Operand.const (Value.int IntKind.i64 1))), 25, none⟩]
def r22_3 : List VOp :=
  [⟨some 20, (Op.move (Operand.tmp 2)), 3, none⟩,
   ⟨some 21, (Op.binOp BinOp.eql 3 (Operand.tmp 20) (Operand.const (Value.int IntKind.i64 0)) 3), 4, none⟩,
   ⟨some 19, (Op.assign (Operand.tmp 21)), 4, none⟩]
def r22_4 : List VOp :=
  [⟨some 6, (Op.assign (Operand.const (Value.int IntKind.u64 0))), 32, none⟩,
   ⟨some 7, (Op.assign (Operand.const (Value.int IntKind.i64 0))), 25, none⟩]
def r22_5 : List VOp :=
  [⟨some 23, (Op.move (Operand.tmp 1)), 3, none⟩,
   ⟨some 24, (Op.move (Operand.tmp 0)), 24, none⟩,
   ⟨some 25, (Op.call { callee := (Callee.builtin Builtin.len), args := #[(Operand.tmp 24)], argTypes := #[24] }), 3, none⟩,
   ⟨some 26, (Op.binOp BinOp.mul 3 (Operand.const (Value.int IntKind.i64 8)) (Operand.tmp 25) 3), 3, none⟩,
   ⟨some 27, (Op.move (Operand.tmp 2)), 3, none⟩,
   ⟨some 28, (Op.binOp BinOp.quo 3 (Operand.tmp 26) (Operand.tmp 27) 3), 3, none⟩,
   ⟨some 29, (Op.binOp BinOp.geq 3 (Operand.tmp 23) (Operand.tmp 28) 3), 4, none⟩,
   ⟨some 22, (Op.assign (Operand.tmp 29)), 4, none⟩]
def r22_6 : List VOp :=
  [⟨some 6, (Op.assign (Operand.const (Value.int IntKind.u64 0))), 32, none⟩,
   ⟨some 7, (Op.assign (Operand.const (Value.int IntKind.i64 71))), 25, none⟩]
def r22_7 : List VOp :=
  [⟨some 30, (Op.move (Operand.tmp 0)), 24, none⟩,
   ⟨some 31, (Op.move (Operand.tmp 1)), 3, none⟩,
   ⟨some 32, (Op.move (Operand.tmp 2)), 3, none⟩,
   ⟨some 33, (Op.binOp BinOp.mul 3 (Operand.tmp 31) (Operand.tmp 32) 3), 3, none⟩,
   ⟨some 34, (Op.move (Operand.tmp 2)), 3, none⟩,
   ⟨some 35, (Op.call { callee := (Callee.value (Operand.func 38)), args := #[(Operand.tmp 30), (Operand.tmp 33), (Operand.tmp 34)], argTypes := #[24, 3, 3] }), 32, none⟩,
   ⟨some 6, (Op.assign (Operand.tmp 35)), 32, none⟩,
   ⟨some 7, (Op.assign (Operand.const (Value.int IntKind.i64 0))), 25, none⟩]
def B22 : VC :=
  (.seq (.region r22_0) (.seq (.block 0 (.seq (.region r22_1) (.cond (Operand.tmp 8) (.seq (.region r22_2) .ret) (.seq (.region r22_3) (.cond (Operand.tmp 19) (.seq (.region r22_4) .ret) (.seq (.region r22_5) (.cond (Operand.tmp 22) (.seq (.region r22_6) .ret) .skip))))))) (.seq (.region r22_7) .ret)))
theorem code22 : ∃ c, Try.f22.body = some c ∧ abs Try.f22.ntmps c = B22 := ⟨_, rfl, by kernel_rfl⟩
theorem hb22 : HasBody Try.prog 22 := hasBody_of Try.func22 (by kernel_rfl)
theorem res22 : Try.f22.results = #[(ResultVar.tmp 6), (ResultVar.tmp 7)] := rfl
theorem enter22 {w : World} {R : Value → World → Prop} (x0 x1 x2 : Value) (h : vc Try.prog B22 (retK Try.prog #[(ResultVar.tmp 6), (ResultVar.tmp 7)] R) [] (initEnv [x0, x1, x2] 0) w) : FnC Try.prog 22 #[x0, x1, x2] w R := by
  obtain ⟨c, h1, h2⟩ := code22
  exact hb22.fn (ret_of_vc mixed Try.func22 h1 (Nat.le_of_ble_eq_true rfl) B22 h2 h)
@[push_cast] theorem vr22_0 (Q : Post) (ds : List Deferred) (σ : Env) (w : World) : vc Try.prog (.region r22_0) Q ds σ w = vcOps Try.prog [⟨some 6, (Op.assign (Operand.const (Value.int IntKind.u64 0))), 32, none⟩, ⟨some 7, (Op.assign (Operand.const (Value.int IntKind.i64 0))), 25, none⟩] (Q .normal ds) σ w := mk_eq rfl
@[push_cast] theorem vr22_1 (Q : Post) (ds : List Deferred) (σ : Env) (w : World) : vc Try.prog (.region r22_1) Q ds σ w = vcOps Try.prog [⟨some 9, (Op.move (Operand.tmp 1)), 3, none⟩, ⟨some 10, (Op.binOp BinOp.lss 3 (Operand.tmp 9) (Operand.const (Value.int IntKind.i64 0)) 3), 4, none⟩, ⟨some 11, (Op.move (Operand.tmp 10)), 4, none⟩, ⟨some 12, (Op.move (Operand.tmp 2)), 3, some (11, false)⟩, ⟨some 13, (Op.binOp BinOp.lss 3 (Operand.tmp 12) (Operand.const (Value.int IntKind.i64 0)) 3), 4, some (11, false)⟩, ⟨some 14, (Op.pick (Operand.tmp 11) (Operand.const (Value.bool true)) (Operand.tmp 13)), 4, none⟩, ⟨some 15, (Op.move (Operand.tmp 14)), 4, none⟩, ⟨some 16, (Op.move (Operand.tmp 2)), 3, some (15, false)⟩, ⟨some 17, (Op.binOp BinOp.gtr 3 (Operand.tmp 16) (Operand.const (Value.int IntKind.i64 64)) 3), 4, some (15, false)⟩, ⟨some 18, (Op.pick (Operand.tmp 15) (Operand.const (Value.bool true)) (Operand.tmp 17)), 4, none⟩, ⟨some 8, (Op.assign (Operand.tmp 18)), 4, none⟩] (Q .normal ds) σ w := mk_eq rfl
@[push_cast] theorem vr22_2 (Q : Post) (ds : List Deferred) (σ : Env) (w : World) : vc Try.prog (.region r22_2) Q ds σ w = vcOps Try.prog [⟨some 6, (Op.assign (Operand.const (Value.int IntKind.u64 0))), 32, none⟩, ⟨some 7, (Op.assign (Operand.const (Value.int IntKind.i64 1))), 25, none⟩] (Q .normal ds) σ w := mk_eq rfl
@[push_cast] theorem vr22_3 (Q : Post) (ds : List Deferred) (σ : Env) (w : World) : vc Try.prog (.region r22_3) Q ds σ w = vcOps Try.prog [⟨some 20, (Op.move (Operand.tmp 2)), 3, none⟩, ⟨some 21, (Op.binOp BinOp.eql 3 (Operand.tmp 20) (Operand.const (Value.int IntKind.i64 0)) 3), 4, none⟩, ⟨some 19, (Op.assign (Operand.tmp 21)), 4, none⟩] (Q .normal ds) σ w := mk_eq rfl
@[push_cast] theorem vr22_4 (Q : Post) (ds : List Deferred) (σ : Env) (w : World) : vc Try.prog (.region r22_4) Q ds σ w = vcOps Try.prog [⟨some 6, (Op.assign (Operand.const (Value.int IntKind.u64 0))), 32, none⟩, ⟨some 7, (Op.assign (Operand.const (Value.int IntKind.i64 0))), 25, none⟩] (Q .normal ds) σ w := mk_eq rfl
@[push_cast] theorem vr22_5 (Q : Post) (ds : List Deferred) (σ : Env) (w : World) : vc Try.prog (.region r22_5) Q ds σ w = vcOps Try.prog [⟨some 23, (Op.move (Operand.tmp 1)), 3, none⟩, ⟨some 24, (Op.move (Operand.tmp 0)), 24, none⟩, ⟨some 25, (Op.call { callee := (Callee.builtin Builtin.len), args := #[(Operand.tmp 24)], argTypes := #[24] }), 3, none⟩, ⟨some 26, (Op.binOp BinOp.mul 3 (Operand.const (Value.int IntKind.i64 8)) (Operand.tmp 25) 3), 3, none⟩, ⟨some 27, (Op.move (Operand.tmp 2)), 3, none⟩, ⟨some 28, (Op.binOp BinOp.quo 3 (Operand.tmp 26) (Operand.tmp 27) 3), 3, none⟩, ⟨some 29, (Op.binOp BinOp.geq 3 (Operand.tmp 23) (Operand.tmp 28) 3), 4, none⟩, ⟨some 22, (Op.assign (Operand.tmp 29)), 4, none⟩] (Q .normal ds) σ w := mk_eq rfl
@[push_cast] theorem vr22_6 (Q : Post) (ds : List Deferred) (σ : Env) (w : World) : vc Try.prog (.region r22_6) Q ds σ w = vcOps Try.prog [⟨some 6, (Op.assign (Operand.const (Value.int IntKind.u64 0))), 32, none⟩, ⟨some 7, (Op.assign (Operand.const (Value.int IntKind.i64 71))), 25, none⟩] (Q .normal ds) σ w := mk_eq rfl
@[push_cast] theorem vr22_7 (Q : Post) (ds : List Deferred) (σ : Env) (w : World) : vc Try.prog (.region r22_7) Q ds σ w = vcOps Try.prog [⟨some 30, (Op.move (Operand.tmp 0)), 24, none⟩, ⟨some 31, (Op.move (Operand.tmp 1)), 3, none⟩, ⟨some 32, (Op.move (Operand.tmp 2)), 3, none⟩, ⟨some 33, (Op.binOp BinOp.mul 3 (Operand.tmp 31) (Operand.tmp 32) 3), 3, none⟩, ⟨some 34, (Op.move (Operand.tmp 2)), 3, none⟩, ⟨some 35, (Op.call { callee := (Callee.value (Operand.func 38)), args := #[(Operand.tmp 30), (Operand.tmp 33), (Operand.tmp 34)], argTypes := #[24, 3, 3] }), 32, none⟩, ⟨some 6, (Op.assign (Operand.tmp 35)), 32, none⟩, ⟨some 7, (Op.assign (Operand.const (Value.int IntKind.i64 0))), 25, none⟩] (Q .normal ds) σ w := mk_eq rfl
/-! 23 columbary/columbaryref07.At (params #[24, 3, 3], results #[(ResultVar.tmp 6), (ResultVar.tmp 7)], 33 slots) -/
def r23_0 : List VOp :=
  [⟨some 6, (Op.assign (Operand.const (Value.int IntKind.u64 0))), 32, none⟩,
   ⟨some 7, (Op.assign (Operand.const (Value.int IntKind.i64 0))), 25, none⟩]
def r23_1 : List VOp :=
  [⟨some 8, (Op.move (Operand.tmp 1)), 3, none⟩,
   ⟨some 9, (Op.binOp BinOp.lss 3 (Operand.tmp 8) (Operand.const (Value.int IntKind.i64 0)) 3), 4, none⟩,
   ⟨some 10, (Op.move (Operand.tmp 9)), 4, none⟩,
   ⟨some 11, (Op.move (Operand.tmp 2)), 3, some (10, false)⟩,
   ⟨some 12, (Op.binOp BinOp.lss 3 (Operand.tmp 11) (Operand.const (Value.int IntKind.i64 0)) 3), 4, some (10, false)⟩,
   ⟨some 13, (Op.pick (Operand.tmp 10) (Operand.const (Value.bool true)) (Operand.tmp 12)), 4, none⟩,
   ⟨some 14, (Op.move (Operand.tmp 13)), 4, none⟩,
   ⟨some 15, (Op.move (Operand.tmp 2)), 3, some (14, false)⟩,
   ⟨some 16, (Op.binOp BinOp.gtr 3 (Operand.tmp 15) (Operand.const (Value.int IntKind.i64 64)) 3), 4, some (14, false)⟩,
   ⟨some 17, (Op.pick (Operand.tmp 14) (Operand.const (Value.bool true)) (Operand.tmp 16)), 4, none⟩]
def r23_2 : List VOp :=
  [⟨some 6, (Op.assign (Operand.const (Value.int IntKind.u64 0))), 32, none⟩,
   ⟨some 7, (Op.assign (Operand.const (Value.int IntKind.i64 1))), 25, none⟩]
def r23_3 : List VOp :=
  [⟨some 18, (Op.move (Operand.tmp 2)), 3, none⟩,
   ⟨some 19, (Op.binOp BinOp.eql 3 (Operand.tmp 18) (Operand.const (Value.int IntKind.i64 0)) 3), 4, none⟩]
def r23_4 : List VOp :=
  [⟨some 6, (Op.assign (Operand.const (Value.int IntKind.u64 0))), 32, none⟩,
   ⟨some 7, (Op.assign (Operand.const (Value.int IntKind.i64 0))), 25, none⟩]
def r23_5 : List VOp :=
  [⟨some 20, (Op.move (Operand.tmp 1)), 3, none⟩,
   ⟨some 21, (Op.move (Operand.tmp 0)), 24, none⟩,
   ⟨some 22, (Op.call { callee := (Callee.builtin Builtin.len), args := #[(Operand.tmp 21)], argTypes := #[24] }), 3, none⟩,
   ⟨some 23, (Op.binOp BinOp.mul 3 (Operand.const (Value.int IntKind.i64 8)) (Operand.tmp 22) 3), 3, none⟩,
   ⟨some 24, (Op.move (Operand.tmp 2)), 3, none⟩,
   ⟨some 25, (Op.binOp BinOp.quo 3 (Operand.tmp 23) (Operand.tmp 24) 3), 3, none⟩,
   ⟨some 26, (Op.binOp BinOp.geq 3 (Operand.tmp 20) (Operand.tmp 25) 3), 4, none⟩]
def r23_6 : List VOp :=
  [⟨some 6, (Op.assign (Operand.const (Value.int IntKind.u64 0))), 32, none⟩,
   ⟨some 7, (Op.assign (Operand.const (Value.int IntKind.i64 71))), 25, none⟩]
def r23_7 : List VOp :=
  [⟨some 27, (Op.move (Operand.tmp 0)), 24, none⟩,
   ⟨some 28, (Op.move (Operand.tmp 1)), 3, none⟩,
   ⟨some 29, (Op.move (Operand.tmp 2)), 3, none⟩,
   ⟨some 30, (Op.binOp BinOp.mul 3 (Operand.tmp 28) (Operand.tmp 29) 3), 3, none⟩,
   ⟨some 31, (Op.move (Operand.tmp 2)), 3, none⟩,
   ⟨some 32, (Op.call { callee := (Callee.value (Operand.func 40)), args := #[(Operand.tmp 27), (Operand.tmp 30), (Operand.tmp 31)], argTypes := #[24, 3, 3] }), 32, none⟩,
   ⟨some 6, (Op.assign (Operand.tmp 32)), 32, none⟩,
   ⟨some 7, (Op.assign (Operand.const (Value.int IntKind.i64 0))), 25, none⟩]
def B23 : VC :=
  (.seq (.region r23_0) (.seq (.seq (.region r23_1) (.cond (Operand.tmp 17) (.seq (.region r23_2) .ret) .skip)) (.seq (.seq (.region r23_3) (.cond (Operand.tmp 19) (.seq (.region r23_4) .ret) .skip)) (.seq (.seq (.region r23_5) (.cond (Operand.tmp 26) (.seq (.region r23_6) .ret) .skip)) (.seq (.region r23_7) .ret)))))
theorem code23 : ∃ c, Try.f23.body = some c ∧ abs Try.f23.ntmps c = B23 := ⟨_, rfl, by kernel_rfl⟩
theorem hb23 : HasBody Try.prog 23 := hasBody_of Try.func23 (by kernel_rfl)
theorem res23 : Try.f23.results = #[(ResultVar.tmp 6), (ResultVar.tmp 7)] := rfl
theorem enter23 {w : World} {R : Value → World → Prop} (x0 x1 x2 : Value) (h : vc Try.prog B23 (retK Try.prog #[(ResultVar.tmp 6), (ResultVar.tmp 7)] R) [] (initEnv [x0, x1, x2] 0) w) : FnC Try.prog 23 #[x0, x1, x2] w R := by
  obtain ⟨c, h1, h2⟩ := code23
  exact hb23.fn (ret_of_vc mixed Try.func23 h1 (Nat.le_of_ble_eq_true rfl) B23 h2 h)
@[push_cast] theorem vr23_0 (Q : Post) (ds : List Deferred) (σ : Env) (w : World) : vc Try.prog (.region r23_0) Q ds σ w = vcOps Try.prog [⟨some 6, (Op.assign (Operand.const (Value.int IntKind.u64 0))), 32, none⟩, ⟨some 7, (Op.assign (Operand.const (Value.int IntKind.i64 0))), 25, none⟩] (Q .normal ds) σ w := mk_eq rfl
@[push_cast] theorem vr23_1 (Q : Post) (ds : List Deferred) (σ : Env) (w : World) : vc Try.prog (.region r23_1) Q ds σ w = vcOps Try.prog [⟨some 8, (Op.move (Operand.tmp 1)), 3, none⟩, ⟨some 9, (Op.binOp BinOp.lss 3 (Operand.tmp 8) (Operand.const (Value.int IntKind.i64 0)) 3), 4, none⟩, ⟨some 10, (Op.move (Operand.tmp 9)), 4, none⟩, ⟨some 11, (Op.move (Operand.tmp 2)), 3, some (10, false)⟩, ⟨some 12, (Op.binOp BinOp.lss 3 (Operand.tmp 11) (Operand.const (Value.int IntKind.i64 0)) 3), 4, some (10, false)⟩, ⟨some 13, (Op.pick (Operand.tmp 10) (Operand.const (Value.bool true)) (Operand.tmp 12)), 4, none⟩, ⟨some 14, (Op.move (Operand.tmp 13)), 4, none⟩, ⟨some 15, (Op.move (Operand.tmp 2)), 3, some (14, false)⟩, ⟨some 16, (Op.binOp BinOp.gtr 3 (Operand.tmp 15) (Operand.const (Value.int IntKind.i64 64)) 3), 4, some (14, false)⟩, ⟨some 17, (Op.pick (Operand.tmp 14) (Operand.const (Value.bool true)) (Operand.tmp 16)), 4, none⟩] (Q .normal ds) σ w := mk_eq rfl
@[push_cast] theorem vr23_2 (Q : Post) (ds : List Deferred) (σ : Env) (w : World) : vc Try.prog (.region r23_2) Q ds σ w = vcOps Try.prog [⟨some 6, (Op.assign (Operand.const (Value.int IntKind.u64 0))), 32, none⟩, ⟨some 7, (Op.assign (Operand.const (Value.int IntKind.i64 1))), 25, none⟩] (Q .normal ds) σ w := mk_eq rfl
@[push_cast] theorem vr23_3 (Q : Post) (ds : List Deferred) (σ : Env) (w : World) : vc Try.prog (.region r23_3) Q ds σ w = vcOps Try.prog [⟨some 18, (Op.move (Operand.tmp 2)), 3, none⟩, ⟨some 19, (Op.binOp BinOp.eql 3 (Operand.tmp 18) (Operand.const (Value.int IntKind.i64 0)) 3), 4, none⟩] (Q .normal ds) σ w := mk_eq rfl
@[push_cast] theorem vr23_4 (Q : Post) (ds : List Deferred) (σ : Env) (w : World) : vc Try.prog (.region r23_4) Q ds σ w = vcOps Try.prog [⟨some 6, (Op.assign (Operand.const (Value.int IntKind.u64 0))), 32, none⟩, ⟨some 7, (Op.assign (Operand.const (Value.int IntKind.i64 0))), 25, none⟩] (Q .normal ds) σ w := mk_eq rfl
@[push_cast] theorem vr23_5 (Q : Post) (ds : List Deferred) (σ : Env) (w : World) : vc Try.prog (.region r23_5) Q ds σ w = vcOps Try.prog [⟨some 20, (Op.move (Operand.tmp 1)), 3, none⟩, ⟨some 21, (Op.move (Operand.tmp 0)), 24, none⟩, ⟨some 22, (Op.call { callee := (Callee.builtin Builtin.len), args := #[(Operand.tmp 21)], argTypes := #[24] }), 3, none⟩, ⟨some 23, (Op.binOp BinOp.mul 3 (Operand.const (Value.int IntKind.i64 8)) (Operand.tmp 22) 3), 3, none⟩, ⟨some 24, (Op.move (Operand.tmp 2)), 3, none⟩, ⟨some 25, (Op.binOp BinOp.quo 3 (Operand.tmp 23) (Operand.tmp 24) 3), 3, none⟩, ⟨some 26, (Op.binOp BinOp.geq 3 (Operand.tmp 20) (Operand.tmp 25) 3), 4, none⟩] (Q .normal ds) σ w := mk_eq rfl
@[push_cast] theorem vr23_6 (Q : Post) (ds : List Deferred) (σ : Env) (w : World) : vc Try.prog (.region r23_6) Q ds σ w = vcOps Try.prog [⟨some 6, (Op.assign (Operand.const (Value.int IntKind.u64 0))), 32, none⟩, ⟨some 7, (Op.assign (Operand.const (Value.int IntKind.i64 71))), 25, none⟩] (Q .normal ds) σ w := mk_eq rfl
@[push_cast] theorem vr23_7 (Q : Post) (ds : List Deferred) (σ : Env) (w : World) : vc Try.prog (.region r23_7) Q ds σ w = vcOps Try.prog [⟨some 27, (Op.move (Operand.tmp 0)), 24, none⟩, ⟨some 28, (Op.move (Operand.tmp 1)), 3, none⟩, ⟨some 29, (Op.move (Operand.tmp 2)), 3, none⟩, ⟨some 30, (Op.binOp BinOp.mul 3 (Operand.tmp 28) (Operand.tmp 29) 3), 3, none⟩, ⟨some 31, (Op.move (Operand.tmp 2)), 3, none⟩, ⟨some 32, (Op.call { callee := (Callee.value (Operand.func 40)), args := #[(Operand.tmp 27), (Operand.tmp 30), (Operand.tmp 31)], argTypes := #[24, 3, 3] }), 32, none⟩, ⟨some 6, (Op.assign (Operand.tmp 32)), 32, none⟩, ⟨some 7, (Op.assign (Operand.const (Value.int IntKind.i64 0))), 25, none⟩] (Q .normal ds) σ w := mk_eq rfl
/-! 24 columbary/columbaryref07.Same (params #[22, 22], results #[(ResultVar.tmp 4)], 26 slots) -/
def W24_0 : List Nat := [4, 5, 11, 12, 13, 14, 15, 16, 17, 18, 19, 20, 21, 22, 23, 24, 25]
@[push_cast] theorem W24_0_def : W24_0 = [4, 5, 11, 12, 13, 14, 15, 16, 17, 18, 19, 20, 21, 22, 23, 24, 25] := mk_eq rfl
def r24_0 : List VOp :=
  [⟨some 4, (Op.assign (Operand.const (Value.bool false))), 4, none⟩]
def r24_1 : List VOp :=
  [⟨some 6, (Op.move (Operand.tmp 0)), 22, none⟩,
   ⟨some 7, (Op.call { callee := (Callee.builtin Builtin.len), args := #[(Operand.tmp 6)], argTypes := #[22] }), 3, none⟩,
   ⟨some 8, (Op.move (Operand.tmp 1)), 22, none⟩,
   ⟨some 9, (Op.call { callee := (Callee.builtin Builtin.len), args := #[(Operand.tmp 8)], argTypes := #[22] }), 3, none⟩,
   ⟨some 10, (Op.binOp BinOp.neq 3 (Operand.tmp 7) (Operand.tmp 9) 3), 4, none⟩]
def r24_2 : List VOp :=
  [⟨some 4, (Op.assign (Operand.const (Value.bool false))), 4, none⟩]
def r24_3 : List VOp :=
  [⟨some 5, (Op.assign (Operand.const (Value.int IntKind.i64 0))), 3, none⟩]
def r24_4 : List VOp :=
  [⟨some 11, (Op.move (Operand.tmp 5)), 3, none⟩,
   ⟨some 12, (Op.move (Operand.tmp 0)), 22, none⟩,
   ⟨some 13, (Op.call { callee := (Callee.builtin Builtin.len), args := #[(Operand.tmp 12)], argTypes := #[22] }), 3, none⟩,
   ⟨some 14, (Op.binOp BinOp.lss 3 (Operand.tmp 11) (Operand.tmp 13) 3), 4, none⟩]
def r24_6 : List VOp :=
  [⟨some 17, (Op.move (Operand.tmp 0)), 22, none⟩,
   ⟨some 18, (Op.move (Operand.tmp 5)), 3, none⟩,
   ⟨some 19, (Op.indexAddr 22 (Operand.tmp 17) (Operand.tmp 18)), 0, none⟩,
   ⟨some 20, (Op.load 32 (Operand.tmp 19)), 32, none⟩,
   ⟨some 21, (Op.move (Operand.tmp 1)), 22, none⟩,
   ⟨some 22, (Op.move (Operand.tmp 5)), 3, none⟩,
   ⟨some 23, (Op.indexAddr 22 (Operand.tmp 21) (Operand.tmp 22)), 0, none⟩,
   ⟨some 24, (Op.load 32 (Operand.tmp 23)), 32, none⟩,
   ⟨some 25, (Op.binOp BinOp.neq 32 (Operand.tmp 20) (Operand.tmp 24) 32), 4, none⟩]
def r24_7 : List VOp :=
  [⟨some 4, (Op.assign (Operand.const (Value.bool false))), 4, none⟩]
def r24_5 : List VOp :=
  [⟨some 15, (Op.move (Operand.tmp 5)), 3, none⟩,
   ⟨some 16, (Op.binOp BinOp.add 3 (Operand.tmp 15) (Operand.const (Value.int IntKind.i64 1)) 3), 3, none⟩,
   ⟨some 5, (Op.assign (Operand.tmp 16)), 3, none⟩]
def r24_8 : List VOp :=
  [⟨some 4, (Op.assign (Operand.const (Value.bool true))), 4, none⟩]
def B24 : VC :=
  (.seq (.region r24_0) (.seq (.seq (.region r24_1) (.cond (Operand.tmp 10) (.seq (.region r24_2) .ret) .skip)) (.seq (.seq (.region r24_3) (.block 0 (.loop (.seq (.seq (.region r24_4) (.cond (Operand.tmp 14) .skip (.exit 0))) (.seq (.block 1 (.seq (.draw r24_6 2) (.cond (Operand.tmp 25) (.seq (.region r24_7) .ret) .skip))) (.region r24_5)))))) (.seq (.region r24_8) .ret))))
theorem code24 : ∃ c, Try.f24.body = some c ∧ abs Try.f24.ntmps c = B24 := ⟨_, rfl, by kernel_rfl⟩
theorem hb24 : HasBody Try.prog 24 := hasBody_of Try.func24 (by kernel_rfl)
theorem res24 : Try.f24.results = #[(ResultVar.tmp 4)] := rfl
theorem enter24 {w : World} {R : Value → World → Prop} (x0 x1 : Value) (h : vc Try.prog B24 (retK Try.prog #[(ResultVar.tmp 4)] R) [] (initEnv [x0, x1] 0) w) : FnC Try.prog 24 #[x0, x1] w R := by
  obtain ⟨c, h1, h2⟩ := code24
  exact hb24.fn (ret_of_vc mixed Try.func24 h1 (Nat.le_of_ble_eq_true rfl) B24 h2 h)
@[push_cast] theorem vr24_0 (Q : Post) (ds : List Deferred) (σ : Env) (w : World) : vc Try.prog (.region r24_0) Q ds σ w = vcOps Try.prog [⟨some 4, (Op.assign (Operand.const (Value.bool false))), 4, none⟩] (Q .normal ds) σ w := mk_eq rfl
@[push_cast] theorem vr24_1 (Q : Post) (ds : List Deferred) (σ : Env) (w : World) : vc Try.prog (.region r24_1) Q ds σ w = vcOps Try.prog [⟨some 6, (Op.move (Operand.tmp 0)), 22, none⟩, ⟨some 7, (Op.call { callee := (Callee.builtin Builtin.len), args := #[(Operand.tmp 6)], argTypes := #[22] }), 3, none⟩, ⟨some 8, (Op.move (Operand.tmp 1)), 22, none⟩, ⟨some 9, (Op.call { callee := (Callee.builtin Builtin.len), args := #[(Operand.tmp 8)], argTypes := #[22] }), 3, none⟩, ⟨some 10, (Op.binOp BinOp.neq 3 (Operand.tmp 7) (Operand.tmp 9) 3), 4, none⟩] (Q .normal ds) σ w := mk_eq rfl
@[push_cast] theorem vr24_2 (Q : Post) (ds : List Deferred) (σ : Env) (w : World) : vc Try.prog (.region r24_2) Q ds σ w = vcOps Try.prog [⟨some 4, (Op.assign (Operand.const (Value.bool false))), 4, none⟩] (Q .normal ds) σ w := mk_eq rfl
@[push_cast] theorem vr24_3 (Q : Post) (ds : List Deferred) (σ : Env) (w : World) : vc Try.prog (.region r24_3) Q ds σ w = vcOps Try.prog [⟨some 5, (Op.assign (Operand.const (Value.int IntKind.i64 0))), 3, none⟩] (Q .normal ds) σ w := mk_eq rfl
@[push_cast] theorem vr24_4 (Q : Post) (ds : List Deferred) (σ : Env) (w : World) : vc Try.prog (.region r24_4) Q ds σ w = vcOps Try.prog [⟨some 11, (Op.move (Operand.tmp 5)), 3, none⟩, ⟨some 12, (Op.move (Operand.tmp 0)), 22, none⟩, ⟨some 13, (Op.call { callee := (Callee.builtin Builtin.len), args := #[(Operand.tmp 12)], argTypes := #[22] }), 3, none⟩, ⟨some 14, (Op.binOp BinOp.lss 3 (Operand.tmp 11) (Operand.tmp 13) 3), 4, none⟩] (Q .normal ds) σ w := mk_eq rfl
@[push_cast] theorem vr24_6 (Q : Post) (ds : List Deferred) (σ : Env) (w : World) : vc Try.prog (.draw r24_6 2) Q ds σ w = drawn Try.prog [(⟨some 17, (Op.move (Operand.tmp 0)), 22, none⟩, [0]), (⟨some 18, (Op.move (Operand.tmp 5)), 3, none⟩, [5]), (⟨some 19, (Op.indexAddr 22 (Operand.tmp 17) (Operand.tmp 18)), 0, none⟩, [17, 18]), (⟨some 20, (Op.load 32 (Operand.tmp 19)), 32, none⟩, [19]), (⟨some 21, (Op.move (Operand.tmp 1)), 22, none⟩, [1]), (⟨some 22, (Op.move (Operand.tmp 5)), 3, none⟩, [5]), (⟨some 23, (Op.indexAddr 22 (Operand.tmp 21) (Operand.tmp 22)), 0, none⟩, [21, 22]), (⟨some 24, (Op.load 32 (Operand.tmp 23)), 32, none⟩, [23]), (⟨some 25, (Op.binOp BinOp.neq 32 (Operand.tmp 20) (Operand.tmp 24) 32), 4, none⟩, [20, 24])] 2 (Q .normal ds) σ w := mk_eq rfl
@[push_cast] theorem vr24_7 (Q : Post) (ds : List Deferred) (σ : Env) (w : World) : vc Try.prog (.region r24_7) Q ds σ w = vcOps Try.prog [⟨some 4, (Op.assign (Operand.const (Value.bool false))), 4, none⟩] (Q .normal ds) σ w := mk_eq rfl
@[push_cast] theorem vr24_5 (Q : Post) (ds : List Deferred) (σ : Env) (w : World) : vc Try.prog (.region r24_5) Q ds σ w = vcOps Try.prog [⟨some 15, (Op.move (Operand.tmp 5)), 3, none⟩, ⟨some 16, (Op.binOp BinOp.add 3 (Operand.tmp 15) (Operand.const (Value.int IntKind.i64 1)) 3), 3, none⟩, ⟨some 5, (Op.assign (Operand.tmp 16)), 3, none⟩] (Q .normal ds) σ w := mk_eq rfl
@[push_cast] theorem vr24_8 (Q : Post) (ds : List Deferred) (σ : Env) (w : World) : vc Try.prog (.region r24_8) Q ds σ w = vcOps Try.prog [⟨some 4, (Op.assign (Operand.const (Value.bool true))), 4, none⟩] (Q .normal ds) σ w := mk_eq rfl
/-! 35 columbary/nibble.Pack$1 (params #[32], results #[], 18 slots) -/
def r35_0 : List VOp :=
  [⟨some 4, (Op.load 24 (Operand.tmp 1)), 24, none⟩,
   ⟨some 5, (Op.load 3 (Operand.tmp 2)), 3, none⟩,
   ⟨some 6, (Op.binOp BinOp.quo 3 (Operand.tmp 5) (Operand.const (Value.int IntKind.i64 8)) 3), 3, none⟩,
   ⟨some 7, (Op.indexAddr 24 (Operand.tmp 4) (Operand.tmp 6)), 0, none⟩,
   ⟨some 8, (Op.load 5 (Operand.tmp 7)), 5, none⟩,
   ⟨some 9, (Op.move (Operand.tmp 0)), 32, none⟩,
   ⟨some 10, (Op.convert 32 5 (Operand.tmp 9)), 5, none⟩,
   ⟨some 11, (Op.load 3 (Operand.tmp 2)), 3, none⟩,
   ⟨some 12, (Op.binOp BinOp.rem 3 (Operand.tmp 11) (Operand.const (Value.int IntKind.i64 8)) 3), 3, none⟩,
   ⟨some 13, (Op.binOp BinOp.shl 5 (Operand.tmp 10) (Operand.tmp 12) 3), 5, none⟩,
   ⟨some 14, (Op.binOp BinOp.or 5 (Operand.tmp 8) (Operand.tmp 13) 5), 5, none⟩,
   ⟨some 15, (Op.indexAddr 24 (Operand.tmp 4) (Operand.tmp 6)), 0, none⟩,
   ⟨none, (Op.store 5 (Operand.tmp 15) (Operand.tmp 14)), 0, none⟩]
def r35_1 : List VOp :=
  [⟨some 16, (Op.load 3 (Operand.tmp 2)), 3, none⟩,
   ⟨some 17, (Op.binOp BinOp.add 3 (Operand.tmp 16) (Operand.const (Value.int IntKind.i64 1)) 3), 3, none⟩,
   ⟨none, (Op.store 3 (Operand.tmp 2) (Operand.tmp 17)), 0, none⟩]
def B35 : VC :=
  (.seq (.draw r35_0 2) (.region r35_1))
theorem code35 : ∃ c, Try.f35.body = some c ∧ abs Try.f35.ntmps c = B35 := ⟨_, rfl, by kernel_rfl⟩
theorem hb35 : HasBody Try.prog 35 := hasBody_of Try.func35 (by kernel_rfl)
theorem res35 : Try.f35.results = #[] := rfl
theorem enter35 {w : World} {R : Value → World → Prop} (x0 x1 x2 : Value) (h : vc Try.prog B35 (retK Try.prog #[] R) [] (initEnv [x0, x1, x2] 0) w) : FnC Try.prog 35 #[x0, x1, x2] w R := by
  obtain ⟨c, h1, h2⟩ := code35
  exact hb35.fn (ret_of_vc mixed Try.func35 h1 (Nat.le_of_ble_eq_true rfl) B35 h2 h)
@[push_cast] theorem vr35_0 (Q : Post) (ds : List Deferred) (σ : Env) (w : World) : vc Try.prog (.draw r35_0 2) Q ds σ w = drawn Try.prog [(⟨some 4, (Op.load 24 (Operand.tmp 1)), 24, none⟩, [1]), (⟨some 5, (Op.load 3 (Operand.tmp 2)), 3, none⟩, [2]), (⟨some 6, (Op.binOp BinOp.quo 3 (Operand.tmp 5) (Operand.const (Value.int IntKind.i64 8)) 3), 3, none⟩, [5]), (⟨some 7, (Op.indexAddr 24 (Operand.tmp 4) (Operand.tmp 6)), 0, none⟩, [4, 6]), (⟨some 8, (Op.load 5 (Operand.tmp 7)), 5, none⟩, [7]), (⟨some 9, (Op.move (Operand.tmp 0)), 32, none⟩, [0]), (⟨some 10, (Op.convert 32 5 (Operand.tmp 9)), 5, none⟩, [9]), (⟨some 11, (Op.load 3 (Operand.tmp 2)), 3, none⟩, [2]), (⟨some 12, (Op.binOp BinOp.rem 3 (Operand.tmp 11) (Operand.const (Value.int IntKind.i64 8)) 3), 3, none⟩, [11]), (⟨some 13, (Op.binOp BinOp.shl 5 (Operand.tmp 10) (Operand.tmp 12) 3), 5, none⟩, [10, 12]), (⟨some 14, (Op.binOp BinOp.or 5 (Operand.tmp 8) (Operand.tmp 13) 5), 5, none⟩, [8, 13]), (⟨some 15, (Op.indexAddr 24 (Operand.tmp 4) (Operand.tmp 6)), 0, none⟩, [4, 6]), (⟨none, (Op.store 5 (Operand.tmp 15) (Operand.tmp 14)), 0, none⟩, [15, 14])] 2 (Q .normal ds) σ w := mk_eq rfl
@[push_cast] theorem vr35_1 (Q : Post) (ds : List Deferred) (σ : Env) (w : World) : vc Try.prog (.region r35_1) Q ds σ w = vcOps Try.prog [⟨some 16, (Op.load 3 (Operand.tmp 2)), 3, none⟩, ⟨some 17, (Op.binOp BinOp.add 3 (Operand.tmp 16) (Operand.const (Value.int IntKind.i64 1)) 3), 3, none⟩, ⟨none, (Op.store 3 (Operand.tmp 2) (Operand.tmp 17)), 0, none⟩] (Q .normal ds) σ w := mk_eq rfl
/-! 36 columbary/columbaryref07.bits (params #[32, 3], results #[(ResultVar.tmp 4)], 21 slots) -/
def W36_0 : List Nat := [0, 5, 6, 7, 8, 9, 10, 11, 12, 13, 14, 15, 16, 17, 18, 19]
@[push_cast] theorem W36_0_def : W36_0 = [0, 5, 6, 7, 8, 9, 10, 11, 12, 13, 14, 15, 16, 17, 18, 19] := mk_eq rfl
def r36_0 : List VOp :=
  [⟨some 4, (Op.assign (Operand.const (Value.slice none 0 0))), 24, none⟩]
def r36_1 : List VOp :=
  [⟨some 5, (Op.assign (Operand.const (Value.slice none 0 0))), 24, none⟩]
def r36_2 : List VOp :=
  [⟨some 6, (Op.assign (Operand.const (Value.int IntKind.i64 0))), 3, none⟩]
def r36_3 : List VOp :=
  [⟨some 7, (Op.move (Operand.tmp 6)), 3, none⟩,
   ⟨some 8, (Op.move (Operand.tmp 1)), 3, none⟩,
   ⟨some 9, (Op.binOp BinOp.lss 3 (Operand.tmp 7) (Operand.tmp 8) 3), 4, none⟩]
def r36_5 : List VOp :=
  [⟨some 12, (Op.move (Operand.tmp 5)), 24, none⟩,
   ⟨some 13, (Op.move (Operand.tmp 0)), 32, none⟩,
   ⟨some 14, (Op.binOp BinOp.rem 32 (Operand.tmp 13) (Operand.const (Value.int IntKind.u64 2)) 32), 32, none⟩,
   ⟨some 15, (Op.convert 32 5 (Operand.tmp 14)), 5, none⟩,
   ⟨some 16, (Op.buildSlice 24 1 #[(0, (Operand.tmp 15))]), 24, none⟩,
   ⟨some 17, (Op.call { callee := (Callee.builtin Builtin.append), args := #[(Operand.tmp 12), (Operand.tmp 16)], argTypes := #[24, 24] }), 24, none⟩,
   ⟨some 5, (Op.assign (Operand.tmp 17)), 24, none⟩]
def r36_6 : List VOp :=
  [⟨some 18, (Op.move (Operand.tmp 0)), 32, none⟩,
   ⟨some 19, (Op.binOp BinOp.quo 32 (Operand.tmp 18) (Operand.const (Value.int IntKind.u64 2)) 32), 32, none⟩,
   ⟨some 0, (Op.assign (Operand.tmp 19)), 32, none⟩]
def r36_4 : List VOp :=
  [⟨some 10, (Op.move (Operand.tmp 6)), 3, none⟩,
   ⟨some 11, (Op.binOp BinOp.add 3 (Operand.tmp 10) (Operand.const (Value.int IntKind.i64 1)) 3), 3, none⟩,
   ⟨some 6, (Op.assign (Operand.tmp 11)), 3, none⟩]
def r36_7 : List VOp :=
  [⟨some 20, (Op.move (Operand.tmp 5)), 24, none⟩,
   ⟨some 4, (Op.assign (Operand.tmp 20)), 24, none⟩]
def B36 : VC :=
  (.seq (.region r36_0) (.seq (.region r36_1) (.seq (.seq (.region r36_2) (.block 0 (.loop (.seq (.seq (.region r36_3) (.cond (Operand.tmp 9) .skip (.exit 0))) (.seq (.block 1 (.seq (.region r36_5) (.region r36_6))) (.region r36_4)))))) (.seq (.region r36_7) .ret))))
theorem code36 : ∃ c, Try.f36.body = some c ∧ abs Try.f36.ntmps c = B36 := ⟨_, rfl, by kernel_rfl⟩
theorem hb36 : HasBody Try.prog 36 := hasBody_of Try.func36 (by kernel_rfl)
theorem res36 : Try.f36.results = #[(ResultVar.tmp 4)] := rfl
theorem enter36 {w : World} {R : Value → World → Prop} (x0 x1 : Value) (h : vc Try.prog B36 (retK Try.prog #[(ResultVar.tmp 4)] R) [] (initEnv [x0, x1] 0) w) : FnC Try.prog 36 #[x0, x1] w R := by
  obtain ⟨c, h1, h2⟩ := code36
  exact hb36.fn (ret_of_vc mixed Try.func36 h1 (Nat.le_of_ble_eq_true rfl) B36 h2 h)
@[push_cast] theorem vr36_0 (Q : Post) (ds : List Deferred) (σ : Env) (w : World) : vc Try.prog (.region r36_0) Q ds σ w = vcOps Try.prog [⟨some 4, (Op.assign (Operand.const (Value.slice none 0 0))), 24, none⟩] (Q .normal ds) σ w := mk_eq rfl
@[push_cast] theorem vr36_1 (Q : Post) (ds : List Deferred) (σ : Env) (w : World) : vc Try.prog (.region r36_1) Q ds σ w = vcOps Try.prog [⟨some 5, (Op.assign (Operand.const (Value.slice none 0 0))), 24, none⟩] (Q .normal ds) σ w := mk_eq rfl
@[push_cast] theorem vr36_2 (Q : Post) (ds : List Deferred) (σ : Env) (w : World) : vc Try.prog (.region r36_2) Q ds σ w = vcOps Try.prog [⟨some 6, (Op.assign (Operand.const (Value.int IntKind.i64 0))), 3, none⟩] (Q .normal ds) σ w := mk_eq rfl
@[push_cast] theorem vr36_3 (Q : Post) (ds : List Deferred) (σ : Env) (w : World) : vc Try.prog (.region r36_3) Q ds σ w = vcOps Try.prog [⟨some 7, (Op.move (Operand.tmp 6)), 3, none⟩, ⟨some 8, (Op.move (Operand.tmp 1)), 3, none⟩, ⟨some 9, (Op.binOp BinOp.lss 3 (Operand.tmp 7) (Operand.tmp 8) 3), 4, none⟩] (Q .normal ds) σ w := mk_eq rfl
@[push_cast] theorem vr36_5 (Q : Post) (ds : List Deferred) (σ : Env) (w : World) : vc Try.prog (.region r36_5) Q ds σ w = vcOps Try.prog [⟨some 12, (Op.move (Operand.tmp 5)), 24, none⟩, ⟨some 13, (Op.move (Operand.tmp 0)), 32, none⟩, ⟨some 14, (Op.binOp BinOp.rem 32 (Operand.tmp 13) (Operand.const (Value.int IntKind.u64 2)) 32), 32, none⟩, ⟨some 15, (Op.convert 32 5 (Operand.tmp 14)), 5, none⟩, ⟨some 16, (Op.buildSlice 24 1 #[(0, (Operand.tmp 15))]), 24, none⟩, ⟨some 17, (Op.call { callee := (Callee.builtin Builtin.append), args := #[(Operand.tmp 12), (Operand.tmp 16)], argTypes := #[24, 24] }), 24, none⟩, ⟨some 5, (Op.assign (Operand.tmp 17)), 24, none⟩] (Q .normal ds) σ w := mk_eq rfl
@[push_cast] theorem vr36_6 (Q : Post) (ds : List Deferred) (σ : Env) (w : World) : vc Try.prog (.region r36_6) Q ds σ w = vcOps Try.prog [⟨some 18, (Op.move (Operand.tmp 0)), 32, none⟩, ⟨some 19, (Op.binOp BinOp.quo 32 (Operand.tmp 18) (Operand.const (Value.int IntKind.u64 2)) 32), 32, none⟩, ⟨some 0, (Op.assign (Operand.tmp 19)), 32, none⟩] (Q .normal ds) σ w := mk_eq rfl
@[push_cast] theorem vr36_4 (Q : Post) (ds : List Deferred) (σ : Env) (w : World) : vc Try.prog (.region r36_4) Q ds σ w = vcOps Try.prog [⟨some 10, (Op.move (Operand.tmp 6)), 3, none⟩, ⟨some 11, (Op.binOp BinOp.add 3 (Operand.tmp 10) (Operand.const (Value.int IntKind.i64 1)) 3), 3, none⟩, ⟨some 6, (Op.assign (Operand.tmp 11)), 3, none⟩] (Q .normal ds) σ w := mk_eq rfl
@[push_cast] theorem vr36_7 (Q : Post) (ds : List Deferred) (σ : Env) (w : World) : vc Try.prog (.region r36_7) Q ds σ w = vcOps Try.prog [⟨some 20, (Op.move (Operand.tmp 5)), 24, none⟩, ⟨some 4, (Op.assign (Operand.tmp 20)), 24, none⟩] (Q .normal ds) σ w := mk_eq rfl
/-! 37 math/bits.Len64 (params #[32], results #[(ResultVar.tmp 2)], 25 slots) -/
def r37_0 : List VOp :=
  [⟨some 2, (Op.assign (Operand.const (Value.int IntKind.i64 0))), 3, none⟩]
def r37_1 : List VOp :=
  [⟨some 3, (Op.move (Operand.tmp 0)), 32, none⟩,
   ⟨some 4, (Op.binOp BinOp.geq 32 (Operand.tmp 3) (Operand.const (Value.int IntKind.u64 4294967296)) 32), 4, none⟩]
def r37_2 : List VOp :=
  [⟨some 5, (Op.move (Operand.tmp 0)), 32, none⟩,
   ⟨some 6, (Op.binOp BinOp.shr 32 (Operand.tmp 5) (Operand.const (Value.int IntKind.u64 32)) 33), 32, none⟩,
   ⟨some 0, (Op.assign (Operand.tmp 6)), 32, none⟩]
def r37_3 : List VOp :=
  [⟨some 2, (Op.assign (Operand.const (Value.int IntKind.i64 32))), 3, none⟩]
def r37_4 : List VOp :=
  [⟨some 7, (Op.move (Operand.tmp 0)), 32, none⟩,
   ⟨some 8, (Op.binOp BinOp.geq 32 (Operand.tmp 7) (Operand.const (Value.int IntKind.u64 65536)) 32), 4, none⟩]
def r37_5 : List VOp :=
  [⟨some 9, (Op.move (Operand.tmp 0)), 32, none⟩,
   ⟨some 10, (Op.binOp BinOp.shr 32 (Operand.tmp 9) (Operand.const (Value.int IntKind.u64 16)) 33), 32, none⟩,
   ⟨some 0, (Op.assign (Operand.tmp 10)), 32, none⟩]
def r37_6 : List VOp :=
  [⟨some 11, (Op.move (Operand.tmp 2)), 3, none⟩,
   ⟨some 12, (Op.binOp BinOp.add 3 (Operand.tmp 11) (Operand.const (Value.int IntKind.i64 16)) 3), 3, none⟩,
   ⟨some 2, (Op.assign (Operand.tmp 12)), 3, none⟩]
def r37_7 : List VOp :=
  [⟨some 13, (Op.move (Operand.tmp 0)), 32, none⟩,
   ⟨some 14, (Op.binOp BinOp.geq 32 (Operand.tmp 13) (Operand.const (Value.int IntKind.u64 256)) 32), 4, none⟩]
def r37_8 : List VOp :=
  [⟨some 15, (Op.move (Operand.tmp 0)), 32, none⟩,
   ⟨some 16, (Op.binOp BinOp.shr 32 (Operand.tmp 15) (Operand.const (Value.int IntKind.u64 8)) 33), 32, none⟩,
   ⟨some 0, (Op.assign (Operand.tmp 16)), 32, none⟩]
def r37_9 : List VOp :=
  [⟨some 17, (Op.move (Operand.tmp 2)), 3, none⟩,
   ⟨some 18, (Op.binOp BinOp.add 3 (Operand.tmp 17) (Operand.const (Value.int IntKind.i64 8)) 3), 3, none⟩,
   ⟨some 2, (Op.assign (Operand.tmp 18)), 3, none⟩]
def r37_10 : List VOp :=
  [⟨some 19, (Op.move (Operand.tmp 2)), 3, none⟩,
   ⟨some 20, (Op.move (Operand.tmp 0)), 32, none⟩,
   ⟨some 21, (Op.convert 32 5 (Operand.tmp 20)), 5, none⟩,
   ⟨some 22, (Op.index 9 (Operand.const (Value.string { data := #[0, 1, 2, 2, 3, 3, 3, 3, 4, 4, 4, 4, 4, 4, 4, 4, 5, 5, 5, 5, 5, 5, 5, 5, 5, 5, 5, 5, 5, 5, 5, 5, 6, 6, 6, 6, 6, 6, 6, 6, 6, 6, 6, 6, 6, 6, 6, 6, 6, 6, 6, 6, 6, 6, 6, 6, 6, 6, 6, 6, 6, 6, 6, 6, 7, 7, 7, 7, 7, 7, 7, 7, 7, 7, 7, 7, 7, 7, 7, 7, 7, 7, 7, 7, 7, 7, 7, 7, 7, 7, 7, 7, 7, 7, 7, 7, 7, 7, 7, 7, 7, 7, 7, 7, 7, 7, 7, 7, 7, 7, 7, 7, 7, 7, 7, 7, 7, 7, 7, 7, 7, 7, 7, 7, 7, 7, 7, 7, 8, 8, 8, 8, 8, 8, 8, 8, 8, 8, 8, 8, 8, 8, 8, 8, 8, 8, 8, 8, 8, 8, 8, 8, 8, 8, 8, 8, 8, 8, 8, 8, 8, 8, 8, 8, 8, 8, 8, 8, 8, 8, 8, 8, 8, 8, 8, 8, 8, 8, 8, 8, 8, 8, 8, 8, 8, 8, 8, 8, 8, 8, 8, 8, 8, 8, 8, 8, 8, 8, 8, 8, 8, 8, 8, 8, 8, 8, 8, 8, 8, 8, 8, 8, 8, 8, 8, 8, 8, 8, 8, 8, 8, 8, 8, 8, 8, 8, 8, 8, 8, 8, 8, 8, 8, 8, 8, 8, 8, 8, 8, 8, 8, 8, 8, 8, 8, 8, 8, 8, 8, 8, 8, 8, 8, 8, 8, 8] })) (Operand.tmp 21)), 5, none⟩,
   ⟨some 23, (Op.convert 5 3 (Operand.tmp 22)), 3, none⟩,
   ⟨some 24, (Op.binOp BinOp.add 3 (Operand.tmp 19) (Operand.tmp 23) 3), 3, none⟩,
   ⟨some 2, (Op.assign (Operand.tmp 24)), 3, none⟩]
def B37 : VC :=
  (.seq (.region r37_0) (.seq (.seq (.region r37_1) (.cond (Operand.tmp 4) (.seq (.region r37_2) (.region r37_3)) .skip)) (.seq (.seq (.region r37_4) (.cond (Operand.tmp 8) (.seq (.region r37_5) (.region r37_6)) .skip)) (.seq (.seq (.region r37_7) (.cond (Operand.tmp 14) (.seq (.region r37_8) (.region r37_9)) .skip)) (.seq (.region r37_10) .ret)))))
theorem code37 : ∃ c, Try.f37.body = some c ∧ abs Try.f37.ntmps c = B37 := ⟨_, rfl, by kernel_rfl⟩
theorem hb37 : HasBody Try.prog 37 := hasBody_of Try.func37 (by kernel_rfl)
theorem res37 : Try.f37.results = #[(ResultVar.tmp 2)] := rfl
theorem enter37 {w : World} {R : Value → World → Prop} (x0 : Value) (h : vc Try.prog B37 (retK Try.prog #[(ResultVar.tmp 2)] R) [] (initEnv [x0] 0) w) : FnC Try.prog 37 #[x0] w R := by
  obtain ⟨c, h1, h2⟩ := code37
  exact hb37.fn (ret_of_vc mixed Try.func37 h1 (Nat.le_of_ble_eq_true rfl) B37 h2 h)
@[push_cast] theorem vr37_0 (Q : Post) (ds : List Deferred) (σ : Env) (w : World) : vc Try.prog (.region r37_0) Q ds σ w = vcOps Try.prog [⟨some 2, (Op.assign (Operand.const (Value.int IntKind.i64 0))), 3, none⟩] (Q .normal ds) σ w := mk_eq rfl
@[push_cast] theorem vr37_1 (Q : Post) (ds : List Deferred) (σ : Env) (w : World) : vc Try.prog (.region r37_1) Q ds σ w = vcOps Try.prog [⟨some 3, (Op.move (Operand.tmp 0)), 32, none⟩, ⟨some 4, (Op.binOp BinOp.geq 32 (Operand.tmp 3) (Operand.const (Value.int IntKind.u64 4294967296)) 32), 4, none⟩] (Q .normal ds) σ w := mk_eq rfl
@[push_cast] theorem vr37_2 (Q : Post) (ds : List Deferred) (σ : Env) (w : World) : vc Try.prog (.region r37_2) Q ds σ w = vcOps Try.prog [⟨some 5, (Op.move (Operand.tmp 0)), 32, none⟩, ⟨some 6, (Op.binOp BinOp.shr 32 (Operand.tmp 5) (Operand.const (Value.int IntKind.u64 32)) 33), 32, none⟩, ⟨some 0, (Op.assign (Operand.tmp 6)), 32, none⟩] (Q .normal ds) σ w := mk_eq rfl
@[push_cast] theorem vr37_3 (Q : Post) (ds : List Deferred) (σ : Env) (w : World) : vc Try.prog (.region r37_3) Q ds σ w = vcOps Try.prog [⟨some 2, (Op.assign (Operand.const (Value.int IntKind.i64 32))), 3, none⟩] (Q .normal ds) σ w := mk_eq rfl
@[push_cast] theorem vr37_4 (Q : Post) (ds : List Deferred) (σ : Env) (w : World) : vc Try.prog (.region r37_4) Q ds σ w = vcOps Try.prog [⟨some 7, (Op.move (Operand.tmp 0)), 32, none⟩, ⟨some 8, (Op.binOp BinOp.geq 32 (Operand.tmp 7) (Operand.const (Value.int IntKind.u64 65536)) 32), 4, none⟩] (Q .normal ds) σ w := mk_eq rfl
@[push_cast] theorem vr37_5 (Q : Post) (ds : List Deferred) (σ : Env) (w : World) : vc Try.prog (.region r37_5) Q ds σ w = vcOps Try.prog [⟨some 9, (Op.move (Operand.tmp 0)), 32, none⟩, ⟨some 10, (Op.binOp BinOp.shr 32 (Operand.tmp 9) (Operand.const (Value.int IntKind.u64 16)) 33), 32, none⟩, ⟨some 0, (Op.assign (Operand.tmp 10)), 32, none⟩] (Q .normal ds) σ w := mk_eq rfl
@[push_cast] theorem vr37_6 (Q : Post) (ds : List Deferred) (σ : Env) (w : World) : vc Try.prog (.region r37_6) Q ds σ w = vcOps Try.prog [⟨some 11, (Op.move (Operand.tmp 2)), 3, none⟩, ⟨some 12, (Op.binOp BinOp.add 3 (Operand.tmp 11) (Operand.const (Value.int IntKind.i64 16)) 3), 3, none⟩, ⟨some 2, (Op.assign (Operand.tmp 12)), 3, none⟩] (Q .normal ds) σ w := mk_eq rfl
@[push_cast] theorem vr37_7 (Q : Post) (ds : List Deferred) (σ : Env) (w : World) : vc Try.prog (.region r37_7) Q ds σ w = vcOps Try.prog [⟨some 13, (Op.move (Operand.tmp 0)), 32, none⟩, ⟨some 14, (Op.binOp BinOp.geq 32 (Operand.tmp 13) (Operand.const (Value.int IntKind.u64 256)) 32), 4, none⟩] (Q .normal ds) σ w := mk_eq rfl
@[push_cast] theorem vr37_8 (Q : Post) (ds : List Deferred) (σ : Env) (w : World) : vc Try.prog (.region r37_8) Q ds σ w = vcOps Try.prog [⟨some 15, (Op.move (Operand.tmp 0)), 32, none⟩, ⟨some 16, (Op.binOp BinOp.shr 32 (Operand.tmp 15) (Operand.const (Value.int IntKind.u64 8)) 33), 32, none⟩, ⟨some 0, (Op.assign (Operand.tmp 16)), 32, none⟩] (Q .normal ds) σ w := mk_eq rfl
@[push_cast] theorem vr37_9 (Q : Post) (ds : List Deferred) (σ : Env) (w : World) : vc Try.prog (.region r37_9) Q ds σ w = vcOps Try.prog [⟨some 17, (Op.move (Operand.tmp 2)), 3, none⟩, ⟨some 18, (Op.binOp BinOp.add 3 (Operand.tmp 17) (Operand.const (Value.int IntKind.i64 8)) 3), 3, none⟩, ⟨some 2, (Op.assign (Operand.tmp 18)), 3, none⟩] (Q .normal ds) σ w := mk_eq rfl
@[push_cast] theorem vr37_10 (Q : Post) (ds : List Deferred) (σ : Env) (w : World) : vc Try.prog (.region r37_10) Q ds σ w = vcOps Try.prog [⟨some 19, (Op.move (Operand.tmp 2)), 3, none⟩, ⟨some 20, (Op.move (Operand.tmp 0)), 32, none⟩, ⟨some 21, (Op.convert 32 5 (Operand.tmp 20)), 5, none⟩, ⟨some 22, (Op.index 9 (Operand.const (Value.string { data := #[0, 1, 2, 2, 3, 3, 3, 3, 4, 4, 4, 4, 4, 4, 4, 4, 5, 5, 5, 5, 5, 5, 5, 5, 5, 5, 5, 5, 5, 5, 5, 5, 6, 6, 6, 6, 6, 6, 6, 6, 6, 6, 6, 6, 6, 6, 6, 6, 6, 6, 6, 6, 6, 6, 6, 6, 6, 6, 6, 6, 6, 6, 6, 6, 7, 7, 7, 7, 7, 7, 7, 7, 7, 7, 7, 7, 7, 7, 7, 7, 7, 7, 7, 7, 7, 7, 7, 7, 7, 7, 7, 7, 7, 7, 7, 7, 7, 7, 7, 7, 7, 7, 7, 7, 7, 7, 7, 7, 7, 7, 7, 7, 7, 7, 7, 7, 7, 7, 7, 7, 7, 7, 7, 7, 7, 7, 7, 7, 8, 8, 8, 8, 8, 8, 8, 8, 8, 8, 8, 8, 8, 8, 8, 8, 8, 8, 8, 8, 8, 8, 8, 8, 8, 8, 8, 8, 8, 8, 8, 8, 8, 8, 8, 8, 8, 8, 8, 8, 8, 8, 8, 8, 8, 8, 8, 8, 8, 8, 8, 8, 8, 8, 8, 8, 8, 8, 8, 8, 8, 8, 8, 8, 8, 8, 8, 8, 8, 8, 8, 8, 8, 8, 8, 8, 8, 8, 8, 8, 8, 8, 8, 8, 8, 8, 8, 8, 8, 8, 8, 8, 8, 8, 8, 8, 8, 8, 8, 8, 8, 8, 8, 8, 8, 8, 8, 8, 8, 8, 8, 8, 8, 8, 8, 8, 8, 8, 8, 8, 8, 8, 8, 8, 8, 8, 8, 8] })) (Operand.tmp 21)), 5, none⟩, ⟨some 23, (Op.convert 5 3 (Operand.tmp 22)), 3, none⟩, ⟨some 24, (Op.binOp BinOp.add 3 (Operand.tmp 19) (Operand.tmp 23) 3), 3, none⟩, ⟨some 2, (Op.assign (Operand.tmp 24)), 3, none⟩] (Q .normal ds) σ w := mk_eq rfl
/-! 38 columbary/nibble.number (params #[24, 3, 3], results #[(ResultVar.tmp 6)], 33 slots) -/
def W38_0 : List Nat := [7, 8, 9, 11, 12, 13, 14, 15, 16, 17, 18, 19, 20, 21, 22, 23, 24, 25, 26, 27, 28, 29, 30, 31]
@[push_cast] theorem W38_0_def : W38_0 = [7, 8, 9, 11, 12, 13, 14, 15, 16, 17, 18, 19, 20, 21, 22, 23, 24, 25, 26, 27, 28, 29, 30, 31] := mk_eq rfl
def r38_0 : List VOp :=
  [⟨some 6, (Op.assign (Operand.const (Value.int IntKind.u64 0))), 32, none⟩]
def r38_1 : List VOp :=
  [⟨some 7, (Op.assign (Operand.const (Value.int IntKind.u64 0))), 32, none⟩]
def r38_2 : List VOp :=
  [⟨some 10, (Op.move (Operand.tmp 2)), 3, none⟩,
   ⟨some 11, (Op.move (Operand.const (Value.int IntKind.i64 0))), 3, none⟩]
def r38_3 : List VOp :=
  [⟨some 12, (Op.binOp BinOp.lss 3 (Operand.tmp 11) (Operand.tmp 10) 3), 4, none⟩]
def r38_4 : List VOp :=
  [⟨some 13, (Op.move (Operand.tmp 11)), 3, none⟩,
   ⟨some 8, (Op.assign (Operand.tmp 13)), 3, none⟩]
def r38_5 : List VOp :=
  [⟨some 14, (Op.move (Operand.tmp 1)), 3, none⟩,
   ⟨some 15, (Op.move (Operand.tmp 8)), 3, none⟩,
   ⟨some 16, (Op.binOp BinOp.add 3 (Operand.tmp 14) (Operand.tmp 15) 3), 3, none⟩,
   ⟨some 9, (Op.assign (Operand.tmp 16)), 3, none⟩]
def r38_6 : List VOp :=
  [⟨some 17, (Op.move (Operand.tmp 7)), 32, none⟩,
   ⟨some 18, (Op.move (Operand.tmp 0)), 24, none⟩,
   ⟨some 19, (Op.move (Operand.tmp 9)), 3, none⟩,
   ⟨some 20, (Op.binOp BinOp.quo 3 (Operand.tmp 19) (Operand.const (Value.int IntKind.i64 8)) 3), 3, none⟩,
   ⟨some 21, (Op.indexAddr 24 (Operand.tmp 18) (Operand.tmp 20)), 0, none⟩,
   ⟨some 22, (Op.load 5 (Operand.tmp 21)), 5, none⟩,
   ⟨some 23, (Op.move (Operand.tmp 9)), 3, none⟩,
   ⟨some 24, (Op.binOp BinOp.rem 3 (Operand.tmp 23) (Operand.const (Value.int IntKind.i64 8)) 3), 3, none⟩,
   ⟨some 25, (Op.binOp BinOp.shr 5 (Operand.tmp 22) (Operand.tmp 24) 3), 5, none⟩,
   ⟨some 26, (Op.binOp BinOp.and 5 (Operand.tmp 25) (Operand.const (Value.int IntKind.u8 1)) 5), 5, none⟩,
   ⟨some 27, (Op.convert 5 32 (Operand.tmp 26)), 32, none⟩,
   ⟨some 28, (Op.move (Operand.tmp 8)), 3, none⟩,
   ⟨some 29, (Op.binOp BinOp.shl 32 (Operand.tmp 27) (Operand.tmp 28) 3), 32, none⟩,
   ⟨some 30, (Op.binOp BinOp.or 32 (Operand.tmp 17) (Operand.tmp 29) 32), 32, none⟩,
   ⟨some 7, (Op.assign (Operand.tmp 30)), 32, none⟩]
def r38_7 : List VOp :=
  [⟨some 31, (Op.binOp BinOp.add 3 (Operand.tmp 11) (Operand.const (Value.int IntKind.i64 1)) 3), 3, none⟩,
   ⟨some 11, (Op.move (Operand.tmp 31)), 3, none⟩]
def r38_8 : List VOp :=
  [⟨some 32, (Op.move (Operand.tmp 7)), 32, none⟩,
   ⟨some 6, (Op.assign (Operand.tmp 32)), 32, none⟩]
def B38 : VC :=
  (.seq (.region r38_0) (.seq (.region r38_1) (.seq (.seq (.region r38_2) (.block 0 (.loop (.seq (.region r38_3) (.seq (.cond (Operand.tmp 12) .skip (.exit 0)) (.seq (.block 1 (.seq (.region r38_4) (.seq (.region r38_5) (.region r38_6)))) (.region r38_7))))))) (.seq (.region r38_8) .ret))))
theorem code38 : ∃ c, Try.f38.body = some c ∧ abs Try.f38.ntmps c = B38 := ⟨_, rfl, by kernel_rfl⟩
theorem hb38 : HasBody Try.prog 38 := hasBody_of Try.func38 (by kernel_rfl)
theorem res38 : Try.f38.results = #[(ResultVar.tmp 6)] := rfl
theorem enter38 {w : World} {R : Value → World → Prop} (x0 x1 x2 : Value) (h : vc Try.prog B38 (retK Try.prog #[(ResultVar.tmp 6)] R) [] (initEnv [x0, x1, x2] 0) w) : FnC Try.prog 38 #[x0, x1, x2] w R := by
  obtain ⟨c, h1, h2⟩ := code38
  exact hb38.fn (ret_of_vc mixed Try.func38 h1 (Nat.le_of_ble_eq_true rfl) B38 h2 h)
@[push_cast] theorem vr38_0 (Q : Post) (ds : List Deferred) (σ : Env) (w : World) : vc Try.prog (.region r38_0) Q ds σ w = vcOps Try.prog [⟨some 6, (Op.assign (Operand.const (Value.int IntKind.u64 0))), 32, none⟩] (Q .normal ds) σ w := mk_eq rfl
@[push_cast] theorem vr38_1 (Q : Post) (ds : List Deferred) (σ : Env) (w : World) : vc Try.prog (.region r38_1) Q ds σ w = vcOps Try.prog [⟨some 7, (Op.assign (Operand.const (Value.int IntKind.u64 0))), 32, none⟩] (Q .normal ds) σ w := mk_eq rfl
@[push_cast] theorem vr38_2 (Q : Post) (ds : List Deferred) (σ : Env) (w : World) : vc Try.prog (.region r38_2) Q ds σ w = vcOps Try.prog [⟨some 10, (Op.move (Operand.tmp 2)), 3, none⟩, ⟨some 11, (Op.move (Operand.const (Value.int IntKind.i64 0))), 3, none⟩] (Q .normal ds) σ w := mk_eq rfl
@[push_cast] theorem vr38_3 (Q : Post) (ds : List Deferred) (σ : Env) (w : World) : vc Try.prog (.region r38_3) Q ds σ w = vcOps Try.prog [⟨some 12, (Op.binOp BinOp.lss 3 (Operand.tmp 11) (Operand.tmp 10) 3), 4, none⟩] (Q .normal ds) σ w := mk_eq rfl
@[push_cast] theorem vr38_4 (Q : Post) (ds : List Deferred) (σ : Env) (w : World) : vc Try.prog (.region r38_4) Q ds σ w = vcOps Try.prog [⟨some 13, (Op.move (Operand.tmp 11)), 3, none⟩, ⟨some 8, (Op.assign (Operand.tmp 13)), 3, none⟩] (Q .normal ds) σ w := mk_eq rfl
@[push_cast] theorem vr38_5 (Q : Post) (ds : List Deferred) (σ : Env) (w : World) : vc Try.prog (.region r38_5) Q ds σ w = vcOps Try.prog [⟨some 14, (Op.move (Operand.tmp 1)), 3, none⟩, ⟨some 15, (Op.move (Operand.tmp 8)), 3, none⟩, ⟨some 16, (Op.binOp BinOp.add 3 (Operand.tmp 14) (Operand.tmp 15) 3), 3, none⟩, ⟨some 9, (Op.assign (Operand.tmp 16)), 3, none⟩] (Q .normal ds) σ w := mk_eq rfl
@[push_cast] theorem vr38_6 (Q : Post) (ds : List Deferred) (σ : Env) (w : World) : vc Try.prog (.region r38_6) Q ds σ w = vcOps Try.prog [⟨some 17, (Op.move (Operand.tmp 7)), 32, none⟩, ⟨some 18, (Op.move (Operand.tmp 0)), 24, none⟩, ⟨some 19, (Op.move (Operand.tmp 9)), 3, none⟩, ⟨some 20, (Op.binOp BinOp.quo 3 (Operand.tmp 19) (Operand.const (Value.int IntKind.i64 8)) 3), 3, none⟩, ⟨some 21, (Op.indexAddr 24 (Operand.tmp 18) (Operand.tmp 20)), 0, none⟩, ⟨some 22, (Op.load 5 (Operand.tmp 21)), 5, none⟩, ⟨some 23, (Op.move (Operand.tmp 9)), 3, none⟩, ⟨some 24, (Op.binOp BinOp.rem 3 (Operand.tmp 23) (Operand.const (Value.int IntKind.i64 8)) 3), 3, none⟩, ⟨some 25, (Op.binOp BinOp.shr 5 (Operand.tmp 22) (Operand.tmp 24) 3), 5, none⟩, ⟨some 26, (Op.binOp BinOp.and 5 (Operand.tmp 25) (Operand.const (Value.int IntKind.u8 1)) 5), 5, none⟩, ⟨some 27, (Op.convert 5 32 (Operand.tmp 26)), 32, none⟩, ⟨some 28, (Op.move (Operand.tmp 8)), 3, none⟩, ⟨some 29, (Op.binOp BinOp.shl 32 (Operand.tmp 27) (Operand.tmp 28) 3), 32, none⟩, ⟨some 30, (Op.binOp BinOp.or 32 (Operand.tmp 17) (Operand.tmp 29) 32), 32, none⟩, ⟨some 7, (Op.assign (Operand.tmp 30)), 32, none⟩] (Q .normal ds) σ w := mk_eq rfl
@[push_cast] theorem vr38_7 (Q : Post) (ds : List Deferred) (σ : Env) (w : World) : vc Try.prog (.region r38_7) Q ds σ w = vcOps Try.prog [⟨some 31, (Op.binOp BinOp.add 3 (Operand.tmp 11) (Operand.const (Value.int IntKind.i64 1)) 3), 3, none⟩, ⟨some 11, (Op.move (Operand.tmp 31)), 3, none⟩] (Q .normal ds) σ w := mk_eq rfl
@[push_cast] theorem vr38_8 (Q : Post) (ds : List Deferred) (σ : Env) (w : World) : vc Try.prog (.region r38_8) Q ds σ w = vcOps Try.prog [⟨some 32, (Op.move (Operand.tmp 7)), 32, none⟩, ⟨some 6, (Op.assign (Operand.tmp 32)), 32, none⟩] (Q .normal ds) σ w := mk_eq rfl
/-! 39 bytes.Equal (params #[24, 24], results #[(ResultVar.tmp 4)], 10 slots) -/
def r39_0 : List VOp :=
  [⟨some 4, (Op.assign (Operand.const (Value.bool false))), 4, none⟩]
def r39_1 : List VOp :=
  [⟨some 5, (Op.move (Operand.tmp 0)), 24, none⟩,
   ⟨some 6, (Op.convert 24 9 (Operand.tmp 5)), 9, none⟩,
   ⟨some 7, (Op.move (Operand.tmp 1)), 24, none⟩,
   ⟨some 8, (Op.convert 24 9 (Operand.tmp 7)), 9, none⟩,
   ⟨some 9, (Op.binOp BinOp.eql 9 (Operand.tmp 6) (Operand.tmp 8) 9), 4, none⟩,
   ⟨some 4, (Op.assign (Operand.tmp 9)), 4, none⟩]
def B39 : VC :=
  (.seq (.region r39_0) (.seq (.region r39_1) .ret))
theorem code39 : ∃ c, Try.f39.body = some c ∧ abs Try.f39.ntmps c = B39 := ⟨_, rfl, by kernel_rfl⟩
theorem hb39 : HasBody Try.prog 39 := hasBody_of Try.func39 (by kernel_rfl)
theorem res39 : Try.f39.results = #[(ResultVar.tmp 4)] := rfl
theorem enter39 {w : World} {R : Value → World → Prop} (x0 x1 : Value) (h : vc Try.prog B39 (retK Try.prog #[(ResultVar.tmp 4)] R) [] (initEnv [x0, x1] 0) w) : FnC Try.prog 39 #[x0, x1] w R := by
  obtain ⟨c, h1, h2⟩ := code39
  exact hb39.fn (ret_of_vc mixed Try.func39 h1 (Nat.le_of_ble_eq_true rfl) B39 h2 h)
@[push_cast] theorem vr39_0 (Q : Post) (ds : List Deferred) (σ : Env) (w : World) : vc Try.prog (.region r39_0) Q ds σ w = vcOps Try.prog [⟨some 4, (Op.assign (Operand.const (Value.bool false))), 4, none⟩] (Q .normal ds) σ w := mk_eq rfl
@[push_cast] theorem vr39_1 (Q : Post) (ds : List Deferred) (σ : Env) (w : World) : vc Try.prog (.region r39_1) Q ds σ w = vcOps Try.prog [⟨some 5, (Op.move (Operand.tmp 0)), 24, none⟩, ⟨some 6, (Op.convert 24 9 (Operand.tmp 5)), 9, none⟩, ⟨some 7, (Op.move (Operand.tmp 1)), 24, none⟩, ⟨some 8, (Op.convert 24 9 (Operand.tmp 7)), 9, none⟩, ⟨some 9, (Op.binOp BinOp.eql 9 (Operand.tmp 6) (Operand.tmp 8) 9), 4, none⟩, ⟨some 4, (Op.assign (Operand.tmp 9)), 4, none⟩] (Q .normal ds) σ w := mk_eq rfl
/-! 40 columbary/columbaryref07.number (params #[24, 3, 3], results #[(ResultVar.tmp 6)], 34 slots) -/
def W40_0 : List Nat := [7, 8, 11, 12, 13, 14, 15, 16, 17, 18, 19, 20, 21, 22, 23, 24, 25, 26, 27, 28, 29, 30, 31, 32]
@[push_cast] theorem W40_0_def : W40_0 = [7, 8, 11, 12, 13, 14, 15, 16, 17, 18, 19, 20, 21, 22, 23, 24, 25, 26, 27, 28, 29, 30, 31, 32] := mk_eq rfl
def r40_0 : List VOp :=
  [⟨some 6, (Op.assign (Operand.const (Value.int IntKind.u64 0))), 32, none⟩]
def r40_1 : List VOp :=
  [⟨some 7, (Op.assign (Operand.const (Value.int IntKind.u64 0))), 32, none⟩]
def r40_2 : List VOp :=
  [⟨some 9, (Op.move (Operand.tmp 2)), 3, none⟩,
   ⟨some 10, (Op.binOp BinOp.sub 3 (Operand.tmp 9) (Operand.const (Value.int IntKind.i64 1)) 3), 3, none⟩,
   ⟨some 8, (Op.assign (Operand.tmp 10)), 3, none⟩]
def r40_3 : List VOp :=
  [⟨some 11, (Op.move (Operand.tmp 8)), 3, none⟩,
   ⟨some 12, (Op.binOp BinOp.geq 3 (Operand.tmp 11) (Operand.const (Value.int IntKind.i64 0)) 3), 4, none⟩]
def r40_5 : List VOp :=
  [⟨some 15, (Op.move (Operand.tmp 7)), 32, none⟩,
   ⟨some 16, (Op.binOp BinOp.mul 32 (Operand.const (Value.int IntKind.u64 2)) (Operand.tmp 15) 32), 32, none⟩,
   ⟨some 17, (Op.move (Operand.tmp 0)), 24, none⟩,
   ⟨some 18, (Op.move (Operand.tmp 1)), 3, none⟩,
   ⟨some 19, (Op.move (Operand.tmp 8)), 3, none⟩,
   ⟨some 20, (Op.binOp BinOp.add 3 (Operand.tmp 18) (Operand.tmp 19) 3), 3, none⟩,
   ⟨some 21, (Op.binOp BinOp.quo 3 (Operand.tmp 20) (Operand.const (Value.int IntKind.i64 8)) 3), 3, none⟩,
   ⟨some 22, (Op.indexAddr 24 (Operand.tmp 17) (Operand.tmp 21)), 0, none⟩,
   ⟨some 23, (Op.load 5 (Operand.tmp 22)), 5, none⟩,
   ⟨some 24, (Op.move (Operand.tmp 1)), 3, none⟩,
   ⟨some 25, (Op.move (Operand.tmp 8)), 3, none⟩,
   ⟨some 26, (Op.binOp BinOp.add 3 (Operand.tmp 24) (Operand.tmp 25) 3), 3, none⟩,
   ⟨some 27, (Op.binOp BinOp.rem 3 (Operand.tmp 26) (Operand.const (Value.int IntKind.i64 8)) 3), 3, none⟩,
   ⟨some 28, (Op.convert 3 33 (Operand.tmp 27)), 33, none⟩,
   ⟨some 29, (Op.binOp BinOp.shr 5 (Operand.tmp 23) (Operand.tmp 28) 33), 5, none⟩,
   ⟨some 30, (Op.binOp BinOp.rem 5 (Operand.tmp 29) (Operand.const (Value.int IntKind.u8 2)) 5), 5, none⟩,
   ⟨some 31, (Op.convert 5 32 (Operand.tmp 30)), 32, none⟩,
   ⟨some 32, (Op.binOp BinOp.add 32 (Operand.tmp 16) (Operand.tmp 31) 32), 32, none⟩,
   ⟨some 7, (Op.assign (Operand.tmp 32)), 32, none⟩]
def r40_4 : List VOp :=
  [⟨some 13, (Op.move (Operand.tmp 8)), 3, none⟩,
   ⟨some 14, (Op.binOp BinOp.sub 3 (Operand.tmp 13) (Operand.const (Value.int IntKind.i64 1)) 3), 3, none⟩,
   ⟨some 8, (Op.assign (Operand.tmp 14)), 3, none⟩]
def r40_6 : List VOp :=
  [⟨some 33, (Op.move (Operand.tmp 7)), 32, none⟩,
   ⟨some 6, (Op.assign (Operand.tmp 33)), 32, none⟩]
def B40 : VC :=
  (.seq (.region r40_0) (.seq (.region r40_1) (.seq (.seq (.region r40_2) (.block 0 (.loop (.seq (.seq (.region r40_3) (.cond (Operand.tmp 12) .skip (.exit 0))) (.seq (.block 1 (.region r40_5)) (.region r40_4)))))) (.seq (.region r40_6) .ret))))
theorem code40 : ∃ c, Try.f40.body = some c ∧ abs Try.f40.ntmps c = B40 := ⟨_, rfl, by kernel_rfl⟩
theorem hb40 : HasBody Try.prog 40 := hasBody_of Try.func40 (by kernel_rfl)
theorem res40 : Try.f40.results = #[(ResultVar.tmp 6)] := rfl
theorem enter40 {w : World} {R : Value → World → Prop} (x0 x1 x2 : Value) (h : vc Try.prog B40 (retK Try.prog #[(ResultVar.tmp 6)] R) [] (initEnv [x0, x1, x2] 0) w) : FnC Try.prog 40 #[x0, x1, x2] w R := by
  obtain ⟨c, h1, h2⟩ := code40
  exact hb40.fn (ret_of_vc mixed Try.func40 h1 (Nat.le_of_ble_eq_true rfl) B40 h2 h)
@[push_cast] theorem vr40_0 (Q : Post) (ds : List Deferred) (σ : Env) (w : World) : vc Try.prog (.region r40_0) Q ds σ w = vcOps Try.prog [⟨some 6, (Op.assign (Operand.const (Value.int IntKind.u64 0))), 32, none⟩] (Q .normal ds) σ w := mk_eq rfl
@[push_cast] theorem vr40_1 (Q : Post) (ds : List Deferred) (σ : Env) (w : World) : vc Try.prog (.region r40_1) Q ds σ w = vcOps Try.prog [⟨some 7, (Op.assign (Operand.const (Value.int IntKind.u64 0))), 32, none⟩] (Q .normal ds) σ w := mk_eq rfl
@[push_cast] theorem vr40_2 (Q : Post) (ds : List Deferred) (σ : Env) (w : World) : vc Try.prog (.region r40_2) Q ds σ w = vcOps Try.prog [⟨some 9, (Op.move (Operand.tmp 2)), 3, none⟩, ⟨some 10, (Op.binOp BinOp.sub 3 (Operand.tmp 9) (Operand.const (Value.int IntKind.i64 1)) 3), 3, none⟩, ⟨some 8, (Op.assign (Operand.tmp 10)), 3, none⟩] (Q .normal ds) σ w := mk_eq rfl
@[push_cast] theorem vr40_3 (Q : Post) (ds : List Deferred) (σ : Env) (w : World) : vc Try.prog (.region r40_3) Q ds σ w = vcOps Try.prog [⟨some 11, (Op.move (Operand.tmp 8)), 3, none⟩, ⟨some 12, (Op.binOp BinOp.geq 3 (Operand.tmp 11) (Operand.const (Value.int IntKind.i64 0)) 3), 4, none⟩] (Q .normal ds) σ w := mk_eq rfl
@[push_cast] theorem vr40_5 (Q : Post) (ds : List Deferred) (σ : Env) (w : World) : vc Try.prog (.region r40_5) Q ds σ w = vcOps Try.prog [⟨some 15, (Op.move (Operand.tmp 7)), 32, none⟩, ⟨some 16, (Op.binOp BinOp.mul 32 (Operand.const (Value.int IntKind.u64 2)) (Operand.tmp 15) 32), 32, none⟩, ⟨some 17, (Op.move (Operand.tmp 0)), 24, none⟩, ⟨some 18, (Op.move (Operand.tmp 1)), 3, none⟩, ⟨some 19, (Op.move (Operand.tmp 8)), 3, none⟩, ⟨some 20, (Op.binOp BinOp.add 3 (Operand.tmp 18) (Operand.tmp 19) 3), 3, none⟩, ⟨some 21, (Op.binOp BinOp.quo 3 (Operand.tmp 20) (Operand.const (Value.int IntKind.i64 8)) 3), 3, none⟩, ⟨some 22, (Op.indexAddr 24 (Operand.tmp 17) (Operand.tmp 21)), 0, none⟩, ⟨some 23, (Op.load 5 (Operand.tmp 22)), 5, none⟩, ⟨some 24, (Op.move (Operand.tmp 1)), 3, none⟩, ⟨some 25, (Op.move (Operand.tmp 8)), 3, none⟩, ⟨some 26, (Op.binOp BinOp.add 3 (Operand.tmp 24) (Operand.tmp 25) 3), 3, none⟩, ⟨some 27, (Op.binOp BinOp.rem 3 (Operand.tmp 26) (Operand.const (Value.int IntKind.i64 8)) 3), 3, none⟩, ⟨some 28, (Op.convert 3 33 (Operand.tmp 27)), 33, none⟩, ⟨some 29, (Op.binOp BinOp.shr 5 (Operand.tmp 23) (Operand.tmp 28) 33), 5, none⟩, ⟨some 30, (Op.binOp BinOp.rem 5 (Operand.tmp 29) (Operand.const (Value.int IntKind.u8 2)) 5), 5, none⟩, ⟨some 31, (Op.convert 5 32 (Operand.tmp 30)), 32, none⟩, ⟨some 32, (Op.binOp BinOp.add 32 (Operand.tmp 16) (Operand.tmp 31) 32), 32, none⟩, ⟨some 7, (Op.assign (Operand.tmp 32)), 32, none⟩] (Q .normal ds) σ w := mk_eq rfl
@[push_cast] theorem vr40_4 (Q : Post) (ds : List Deferred) (σ : Env) (w : World) : vc Try.prog (.region r40_4) Q ds σ w = vcOps Try.prog [⟨some 13, (Op.move (Operand.tmp 8)), 3, none⟩, ⟨some 14, (Op.binOp BinOp.sub 3 (Operand.tmp 13) (Operand.const (Value.int IntKind.i64 1)) 3), 3, none⟩, ⟨some 8, (Op.assign (Operand.tmp 14)), 3, none⟩] (Q .normal ds) σ w := mk_eq rfl
@[push_cast] theorem vr40_6 (Q : Post) (ds : List Deferred) (σ : Env) (w : World) : vc Try.prog (.region r40_6) Q ds σ w = vcOps Try.prog [⟨some 33, (Op.move (Operand.tmp 7)), 32, none⟩, ⟨some 6, (Op.assign (Operand.tmp 33)), 32, none⟩] (Q .normal ds) σ w := mk_eq rfl
@[push_cast] theorem bsl22_1_CodesN {K : Value → World → Prop} {w : World} (x0 : Int) : vBuildSlice Try.prog 22 1 #[(0, (.int .u64 x0))] K w = K (.slice (some ⟨w.heap.size, 0, none⟩) 1 1) (w.alloc (.cells #[(.int .u64 x0)] 32)) :=
  vBuildSlice_ok Try.underlying22 ti32 (by kernel_rfl) (by decide)
@[push_cast] theorem bsl22_3_CodesN {K : Value → World → Prop} {w : World} (x0 : Int) (x1 : Int) (x2 : Int) : vBuildSlice Try.prog 22 3 #[(0, (.int .u64 x0)), (1, (.int .u64 x1)), (2, (.int .u64 x2))] K w = K (.slice (some ⟨w.heap.size, 0, none⟩) 3 3) (w.alloc (.cells #[(.int .u64 x0), (.int .u64 x1), (.int .u64 x2)] 32)) :=
  vBuildSlice_ok Try.underlying22 ti32 (by kernel_rfl) (by decide)
@[push_cast] theorem bsl24_1_CodesN {K : Value → World → Prop} {w : World} (x0 : Int) : vBuildSlice Try.prog 24 1 #[(0, (.int .u8 x0))] K w = K (.slice (some ⟨w.heap.size, 0, none⟩) 1 1) (w.alloc (.cells #[(.int .u8 x0)] 5)) :=
  vBuildSlice_ok Try.underlying24 ti5 (by kernel_rfl) (by decide)
end Go.Proofs.Ytkchefbnamiikaa
