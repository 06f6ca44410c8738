/- The functions' code in the generator's form. Written by a program (codes.py) out of Lean's own print of the loaded translation. -/
import Derived.Test.YtfeocfcclmndoaaTypes
namespace Go.Proofs.Ytfeocfcclmndoaa
open Go.Vc
set_option maxRecDepth 100000
/-! 13 columbary/columbaryref04.Right (params #[22], results #[(ResultVar.tmp 2)], 55 slots) -/
def W13_0 : List Nat := [2, 3, 4, 5, 6, 7, 8, 9, 10, 11, 12, 13, 14, 15, 16, 17, 18, 19, 20, 21, 22, 23, 24, 25, 26, 27, 28, 29, 30, 31, 32, 33, 34, 35, 36, 37, 38, 39, 40, 41, 42, 43, 44, 45, 46, 47, 48, 49, 50, 51, 52, 53, 54]
@[push_cast] theorem W13_0_def : W13_0 = [2, 3, 4, 5, 6, 7, 8, 9, 10, 11, 12, 13, 14, 15, 16, 17, 18, 19, 20, 21, 22, 23, 24, 25, 26, 27, 28, 29, 30, 31, 32, 33, 34, 35, 36, 37, 38, 39, 40, 41, 42, 43, 44, 45, 46, 47, 48, 49, 50, 51, 52, 53, 54] := mk_eq rfl
def r13_0 : List VOp :=
  [⟨some 2, (Op.assign (Operand.const (Value.bool false))), 4, none⟩]
def r13_1 : List VOp :=
  [⟨some 3, (Op.assign (Operand.const (Value.int IntKind.i64 0))), 3, none⟩]
def r13_2 : List VOp :=
  [⟨some 4, (Op.move (Operand.tmp 3)), 3, none⟩,
   ⟨some 5, (Op.move (Operand.tmp 0)), 22, none⟩,
   ⟨some 6, (Op.call { callee := (Callee.builtin Builtin.len), args := #[(Operand.tmp 5)], argTypes := #[22] }), 3, none⟩,
   ⟨some 7, (Op.binOp BinOp.lss 3 (Operand.tmp 4) (Operand.tmp 6) 3), 4, none⟩]
def r13_4 : List VOp :=
  [⟨some 10, (Op.move (Operand.tmp 0)), 22, none⟩,
   ⟨some 11, (Op.move (Operand.tmp 3)), 3, none⟩,
   ⟨some 12, (Op.indexAddr 22 (Operand.tmp 10) (Operand.tmp 11)), 0, none⟩,
   ⟨some 13, (Op.fieldAddr 63 (Operand.tmp 12) 0), 0, none⟩,
   ⟨some 14, (Op.load 3 (Operand.tmp 13)), 3, none⟩,
   ⟨some 15, (Op.binOp BinOp.lss 3 (Operand.tmp 14) (Operand.const (Value.int IntKind.i64 0)) 3), 4, none⟩,
   ⟨some 16, (Op.move (Operand.tmp 15)), 4, none⟩,
   ⟨some 17, (Op.move (Operand.tmp 0)), 22, some (16, false)⟩,
   ⟨some 18, (Op.move (Operand.tmp 3)), 3, some (16, false)⟩,
   ⟨some 19, (Op.indexAddr 22 (Operand.tmp 17) (Operand.tmp 18)), 0, some (16, false)⟩,
   ⟨some 20, (Op.fieldAddr 63 (Operand.tmp 19) 0), 0, some (16, false)⟩,
   ⟨some 21, (Op.load 3 (Operand.tmp 20)), 3, some (16, false)⟩,
   ⟨some 22, (Op.move (Operand.tmp 0)), 22, some (16, false)⟩,
   ⟨some 23, (Op.move (Operand.tmp 3)), 3, some (16, false)⟩,
   ⟨some 24, (Op.indexAddr 22 (Operand.tmp 22) (Operand.tmp 23)), 0, some (16, false)⟩,
   ⟨some 25, (Op.fieldAddr 63 (Operand.tmp 24) 1), 0, some (16, false)⟩,
   ⟨some 26, (Op.load 3 (Operand.tmp 25)), 3, some (16, false)⟩,
   ⟨some 27, (Op.binOp BinOp.geq 3 (Operand.tmp 21) (Operand.tmp 26) 3), 4, some (16, false)⟩,
   ⟨some 28, (Op.pick (Operand.tmp 16) (Operand.const (Value.bool true)) (Operand.tmp 27)), 4, none⟩,
   ⟨some 29, (Op.move (Operand.tmp 28)), 4, none⟩,
   ⟨some 30, (Op.move (Operand.tmp 0)), 22, some (29, false)⟩,
   ⟨some 31, (Op.move (Operand.tmp 3)), 3, some (29, false)⟩,
   ⟨some 32, (Op.indexAddr 22 (Operand.tmp 30) (Operand.tmp 31)), 0, some (29, false)⟩,
   ⟨some 33, (Op.fieldAddr 63 (Operand.tmp 32) 1), 0, some (29, false)⟩,
   ⟨some 34, (Op.load 3 (Operand.tmp 33)), 3, some (29, false)⟩,
   ⟨some 35, (Op.binOp BinOp.gtr 3 (Operand.tmp 34) (Operand.const (Value.int IntKind.i64 65536)) 3), 4, some (29, false)⟩,
   ⟨some 36, (Op.pick (Operand.tmp 29) (Operand.const (Value.bool true)) (Operand.tmp 35)), 4, none⟩,
   ⟨some 37, (Op.move (Operand.tmp 36)), 4, none⟩,
   ⟨some 38, (Op.move (Operand.tmp 3)), 3, some (37, false)⟩,
   ⟨some 39, (Op.binOp BinOp.gtr 3 (Operand.tmp 38) (Operand.const (Value.int IntKind.i64 0)) 3), 4, some (37, false)⟩,
   ⟨some 40, (Op.move (Operand.tmp 39)), 4, some (37, false)⟩,
   ⟨some 41, (Op.move (Operand.tmp 0)), 22, some (40, true)⟩,
   ⟨some 42, (Op.move (Operand.tmp 3)), 3, some (40, true)⟩,
   ⟨some 43, (Op.indexAddr 22 (Operand.tmp 41) (Operand.tmp 42)), 0, some (40, true)⟩,
   ⟨some 44, (Op.fieldAddr 63 (Operand.tmp 43) 0), 0, some (40, true)⟩,
   ⟨some 45, (Op.load 3 (Operand.tmp 44)), 3, some (40, true)⟩,
   ⟨some 46, (Op.move (Operand.tmp 0)), 22, some (40, true)⟩,
   ⟨some 47, (Op.move (Operand.tmp 3)), 3, some (40, true)⟩,
   ⟨some 48, (Op.binOp BinOp.sub 3 (Operand.tmp 47) (Operand.const (Value.int IntKind.i64 1)) 3), 3, some (40, true)⟩,
   ⟨some 49, (Op.indexAddr 22 (Operand.tmp 46) (Operand.tmp 48)), 0, some (40, true)⟩,
   ⟨some 50, (Op.fieldAddr 63 (Operand.tmp 49) 1), 0, some (40, true)⟩,
   ⟨some 51, (Op.load 3 (Operand.tmp 50)), 3, some (40, true)⟩,
   ⟨some 52, (Op.binOp BinOp.leq 3 (Operand.tmp 45) (Operand.tmp 51) 3), 4, some (40, true)⟩,
   ⟨some 53, (Op.pick (Operand.tmp 40) (Operand.tmp 52) (Operand.const (Value.bool false))), 4, some (37, false)⟩,
   ⟨some 54, (Op.pick (Operand.tmp 37) (Operand.const (Value.bool true)) (Operand.tmp 53)), 4, none⟩]
def r13_5 : List VOp :=
  [⟨some 2, (Op.assign (Operand.const (Value.bool false))), 4, none⟩]
def r13_3 : List VOp :=
  [⟨some 8, (Op.move (Operand.tmp 3)), 3, none⟩,
   ⟨some 9, (Op.binOp BinOp.add 3 (Operand.tmp 8) (Operand.const (Value.int IntKind.i64 1)) 3), 3, none⟩,
   ⟨some 3, (Op.assign (Operand.tmp 9)), 3, none⟩]
def r13_6 : List VOp :=
  [⟨some 2, (Op.assign (Operand.const (Value.bool true))), 4, none⟩]
def B13 : VC :=
  (.seq (.region r13_0) (.seq (.seq (.region r13_1) (.block 0 (.loop (.seq (.seq (.region r13_2) (.cond (Operand.tmp 7) .skip (.exit 0))) (.seq (.block 1 (.seq (.draw r13_4 4) (.cond (Operand.tmp 54) (.seq (.region r13_5) .ret) .skip))) (.region r13_3)))))) (.seq (.region r13_6) .ret)))
theorem code13 : ∃ c, Try.f13.body = some c ∧ abs Try.f13.ntmps c = B13 := ⟨_, rfl, by kernel_rfl⟩
theorem hb13 : HasBody Try.prog 13 := hasBody_of Try.func13 (by kernel_rfl)
theorem res13 : Try.f13.results = #[(ResultVar.tmp 2)] := rfl
theorem enter13 {w : World} {R : Value → World → Prop} (x0 : Value) (h : vc Try.prog B13 (retK Try.prog #[(ResultVar.tmp 2)] R) [] (initEnv [x0] 0) w) : FnC Try.prog 13 #[x0] w R := by
  obtain ⟨c, h1, h2⟩ := code13
  exact hb13.fn (ret_of_vc mixed Try.func13 h1 (Nat.le_of_ble_eq_true rfl) B13 h2 h)
@[push_cast] theorem vr13_0 (Q : Post) (ds : List Deferred) (σ : Env) (w : World) : vc Try.prog (.region r13_0) Q ds σ w = vcOps Try.prog [⟨some 2, (Op.assign (Operand.const (Value.bool false))), 4, none⟩] (Q .normal ds) σ w := mk_eq rfl
@[push_cast] theorem vr13_1 (Q : Post) (ds : List Deferred) (σ : Env) (w : World) : vc Try.prog (.region r13_1) Q ds σ w = vcOps Try.prog [⟨some 3, (Op.assign (Operand.const (Value.int IntKind.i64 0))), 3, none⟩] (Q .normal ds) σ w := mk_eq rfl
@[push_cast] theorem vr13_2 (Q : Post) (ds : List Deferred) (σ : Env) (w : World) : vc Try.prog (.region r13_2) Q ds σ w = vcOps Try.prog [⟨some 4, (Op.move (Operand.tmp 3)), 3, none⟩, ⟨some 5, (Op.move (Operand.tmp 0)), 22, none⟩, ⟨some 6, (Op.call { callee := (Callee.builtin Builtin.len), args := #[(Operand.tmp 5)], argTypes := #[22] }), 3, none⟩, ⟨some 7, (Op.binOp BinOp.lss 3 (Operand.tmp 4) (Operand.tmp 6) 3), 4, none⟩] (Q .normal ds) σ w := mk_eq rfl
@[push_cast] theorem vr13_4 (Q : Post) (ds : List Deferred) (σ : Env) (w : World) : vc Try.prog (.draw r13_4 4) Q ds σ w = drawn Try.prog [(⟨some 10, (Op.move (Operand.tmp 0)), 22, none⟩, [0]), (⟨some 11, (Op.move (Operand.tmp 3)), 3, none⟩, [3]), (⟨some 12, (Op.indexAddr 22 (Operand.tmp 10) (Operand.tmp 11)), 0, none⟩, [10, 11]), (⟨some 13, (Op.fieldAddr 63 (Operand.tmp 12) 0), 0, none⟩, [12]), (⟨some 14, (Op.load 3 (Operand.tmp 13)), 3, none⟩, [13]), (⟨some 15, (Op.binOp BinOp.lss 3 (Operand.tmp 14) (Operand.const (Value.int IntKind.i64 0)) 3), 4, none⟩, [14]), (⟨some 16, (Op.move (Operand.tmp 15)), 4, none⟩, [15]), (⟨some 17, (Op.move (Operand.tmp 0)), 22, some (16, false)⟩, [0, 16]), (⟨some 18, (Op.move (Operand.tmp 3)), 3, some (16, false)⟩, [3, 16]), (⟨some 19, (Op.indexAddr 22 (Operand.tmp 17) (Operand.tmp 18)), 0, some (16, false)⟩, [17, 18, 16]), (⟨some 20, (Op.fieldAddr 63 (Operand.tmp 19) 0), 0, some (16, false)⟩, [19, 16]), (⟨some 21, (Op.load 3 (Operand.tmp 20)), 3, some (16, false)⟩, [20, 16]), (⟨some 22, (Op.move (Operand.tmp 0)), 22, some (16, false)⟩, [0, 16]), (⟨some 23, (Op.move (Operand.tmp 3)), 3, some (16, false)⟩, [3, 16]), (⟨some 24, (Op.indexAddr 22 (Operand.tmp 22) (Operand.tmp 23)), 0, some (16, false)⟩, [22, 23, 16]), (⟨some 25, (Op.fieldAddr 63 (Operand.tmp 24) 1), 0, some (16, false)⟩, [24, 16]), (⟨some 26, (Op.load 3 (Operand.tmp 25)), 3, some (16, false)⟩, [25, 16]), (⟨some 27, (Op.binOp BinOp.geq 3 (Operand.tmp 21) (Operand.tmp 26) 3), 4, some (16, false)⟩, [21, 26, 16]), (⟨some 28, (Op.pick (Operand.tmp 16) (Operand.const (Value.bool true)) (Operand.tmp 27)), 4, none⟩, [16, 27]), (⟨some 29, (Op.move (Operand.tmp 28)), 4, none⟩, [28]), (⟨some 30, (Op.move (Operand.tmp 0)), 22, some (29, false)⟩, [0, 29]), (⟨some 31, (Op.move (Operand.tmp 3)), 3, some (29, false)⟩, [3, 29]), (⟨some 32, (Op.indexAddr 22 (Operand.tmp 30) (Operand.tmp 31)), 0, some (29, false)⟩, [30, 31, 29]), (⟨some 33, (Op.fieldAddr 63 (Operand.tmp 32) 1), 0, some (29, false)⟩, [32, 29]), (⟨some 34, (Op.load 3 (Operand.tmp 33)), 3, some (29, false)⟩, [33, 29]), (⟨some 35, (Op.binOp BinOp.gtr 3 (Operand.tmp 34) (Operand.const (Value.int IntKind.i64 65536)) 3), 4, some (29, false)⟩, [34, 29]), (⟨some 36, (Op.pick (Operand.tmp 29) (Operand.const (Value.bool true)) (Operand.tmp 35)), 4, none⟩, [29, 35]), (⟨some 37, (Op.move (Operand.tmp 36)), 4, none⟩, [36]), (⟨some 38, (Op.move (Operand.tmp 3)), 3, some (37, false)⟩, [3, 37]), (⟨some 39, (Op.binOp BinOp.gtr 3 (Operand.tmp 38) (Operand.const (Value.int IntKind.i64 0)) 3), 4, some (37, false)⟩, [38, 37]), (⟨some 40, (Op.move (Operand.tmp 39)), 4, some (37, false)⟩, [39, 37]), (⟨some 41, (Op.move (Operand.tmp 0)), 22, some (40, true)⟩, [0, 40]), (⟨some 42, (Op.move (Operand.tmp 3)), 3, some (40, true)⟩, [3, 40]), (⟨some 43, (Op.indexAddr 22 (Operand.tmp 41) (Operand.tmp 42)), 0, some (40, true)⟩, [41, 42, 40]), (⟨some 44, (Op.fieldAddr 63 (Operand.tmp 43) 0), 0, some (40, true)⟩, [43, 40]), (⟨some 45, (Op.load 3 (Operand.tmp 44)), 3, some (40, true)⟩, [44, 40]), (⟨some 46, (Op.move (Operand.tmp 0)), 22, some (40, true)⟩, [0, 40]), (⟨some 47, (Op.move (Operand.tmp 3)), 3, some (40, true)⟩, [3, 40]), (⟨some 48, (Op.binOp BinOp.sub 3 (Operand.tmp 47) (Operand.const (Value.int IntKind.i64 1)) 3), 3, some (40, true)⟩, [47, 40]), (⟨some 49, (Op.indexAddr 22 (Operand.tmp 46) (Operand.tmp 48)), 0, some (40, true)⟩, [46, 48, 40]), (⟨some 50, (Op.fieldAddr 63 (Operand.tmp 49) 1), 0, some (40, true)⟩, [49, 40]), (⟨some 51, (Op.load 3 (Operand.tmp 50)), 3, some (40, true)⟩, [50, 40]), (⟨some 52, (Op.binOp BinOp.leq 3 (Operand.tmp 45) (Operand.tmp 51) 3), 4, some (40, true)⟩, [45, 51, 40]), (⟨some 53, (Op.pick (Operand.tmp 40) (Operand.tmp 52) (Operand.const (Value.bool false))), 4, some (37, false)⟩, [40, 52, 37]), (⟨some 54, (Op.pick (Operand.tmp 37) (Operand.const (Value.bool true)) (Operand.tmp 53)), 4, none⟩, [37, 53])] 4 (Q .normal ds) σ w := mk_eq rfl
@[push_cast] theorem vr13_5 (Q : Post) (ds : List Deferred) (σ : Env) (w : World) : vc Try.prog (.region r13_5) Q ds σ w = vcOps Try.prog [⟨some 2, (Op.assign (Operand.const (Value.bool false))), 4, none⟩] (Q .normal ds) σ w := mk_eq rfl
@[push_cast] theorem vr13_3 (Q : Post) (ds : List Deferred) (σ : Env) (w : World) : vc Try.prog (.region r13_3) Q ds σ w = vcOps Try.prog [⟨some 8, (Op.move (Operand.tmp 3)), 3, none⟩, ⟨some 9, (Op.binOp BinOp.add 3 (Operand.tmp 8) (Operand.const (Value.int IntKind.i64 1)) 3), 3, none⟩, ⟨some 3, (Op.assign (Operand.tmp 9)), 3, none⟩] (Q .normal ds) σ w := mk_eq rfl
@[push_cast] theorem vr13_6 (Q : Post) (ds : List Deferred) (σ : Env) (w : World) : vc Try.prog (.region r13_6) Q ds σ w = vcOps Try.prog [⟨some 2, (Op.assign (Operand.const (Value.bool true))), 4, none⟩] (Q .normal ds) σ w := mk_eq rfl
/-! 15 columbary/columbarylaw04.Fits (params #[22], results #[(ResultVar.tmp 2)], 15 slots) -/
def r15_0 : List VOp :=
  [⟨some 2, (Op.assign (Operand.const (Value.bool false))), 4, none⟩]
def r15_1 : List VOp :=
  [⟨some 4, (Op.move (Operand.tmp 0)), 22, none⟩,
   ⟨some 5, (Op.call { callee := (Callee.builtin Builtin.len), args := #[(Operand.tmp 4)], argTypes := #[22] }), 3, none⟩,
   ⟨some 6, (Op.binOp BinOp.gtr 3 (Operand.tmp 5) (Operand.const (Value.int IntKind.i64 3000)) 3), 4, none⟩]
def r15_2 : List VOp :=
  [⟨some 2, (Op.assign (Operand.const (Value.bool false))), 4, none⟩]
def r15_3 : List VOp :=
  [⟨some 7, (Op.move (Operand.tmp 0)), 22, none⟩,
   ⟨some 8, (Op.call { callee := (Callee.value (Operand.func 13)), args := #[(Operand.tmp 7)], argTypes := #[22] }), 4, none⟩,
   ⟨some 3, (Op.assign (Operand.tmp 8)), 4, none⟩]
def r15_4 : List VOp :=
  [⟨some 9, (Op.move (Operand.tmp 3)), 4, none⟩,
   ⟨some 10, (Op.move (Operand.tmp 9)), 4, none⟩,
   ⟨some 11, (Op.move (Operand.tmp 0)), 22, some (10, true)⟩,
   ⟨some 12, (Op.call { callee := (Callee.value (Operand.func 19)), args := #[(Operand.tmp 11), (Operand.const (Value.int IntKind.i64 65536))], argTypes := #[22, 3] }), 3, some (10, true)⟩,
   ⟨some 13, (Op.binOp BinOp.leq 3 (Operand.tmp 12) (Operand.const (Value.int IntKind.i64 3000)) 3), 4, some (10, true)⟩,
   ⟨some 14, (Op.pick (Operand.tmp 10) (Operand.tmp 13) (Operand.const (Value.bool false))), 4, none⟩,
   ⟨some 2, (Op.assign (Operand.tmp 14)), 4, none⟩]
def B15 : VC :=
  (.seq (.region r15_0) (.seq (.seq (.region r15_1) (.cond (Operand.tmp 6) (.seq (.region r15_2) .ret) .skip)) (.seq (.region r15_3) (.seq (.region r15_4) .ret))))
theorem code15 : ∃ c, Try.f15.body = some c ∧ abs Try.f15.ntmps c = B15 := ⟨_, rfl, by kernel_rfl⟩
theorem hb15 : HasBody Try.prog 15 := hasBody_of Try.func15 (by kernel_rfl)
theorem res15 : Try.f15.results = #[(ResultVar.tmp 2)] := rfl
theorem enter15 {w : World} {R : Value → World → Prop} (x0 : Value) (h : vc Try.prog B15 (retK Try.prog #[(ResultVar.tmp 2)] R) [] (initEnv [x0] 0) w) : FnC Try.prog 15 #[x0] w R := by
  obtain ⟨c, h1, h2⟩ := code15
  exact hb15.fn (ret_of_vc mixed Try.func15 h1 (Nat.le_of_ble_eq_true rfl) B15 h2 h)
@[push_cast] theorem vr15_0 (Q : Post) (ds : List Deferred) (σ : Env) (w : World) : vc Try.prog (.region r15_0) Q ds σ w = vcOps Try.prog [⟨some 2, (Op.assign (Operand.const (Value.bool false))), 4, none⟩] (Q .normal ds) σ w := mk_eq rfl
@[push_cast] theorem vr15_1 (Q : Post) (ds : List Deferred) (σ : Env) (w : World) : vc Try.prog (.region r15_1) Q ds σ w = vcOps Try.prog [⟨some 4, (Op.move (Operand.tmp 0)), 22, none⟩, ⟨some 5, (Op.call { callee := (Callee.builtin Builtin.len), args := #[(Operand.tmp 4)], argTypes := #[22] }), 3, none⟩, ⟨some 6, (Op.binOp BinOp.gtr 3 (Operand.tmp 5) (Operand.const (Value.int IntKind.i64 3000)) 3), 4, none⟩] (Q .normal ds) σ w := mk_eq rfl
@[push_cast] theorem vr15_2 (Q : Post) (ds : List Deferred) (σ : Env) (w : World) : vc Try.prog (.region r15_2) Q ds σ w = vcOps Try.prog [⟨some 2, (Op.assign (Operand.const (Value.bool false))), 4, none⟩] (Q .normal ds) σ w := mk_eq rfl
@[push_cast] theorem vr15_3 (Q : Post) (ds : List Deferred) (σ : Env) (w : World) : vc Try.prog (.region r15_3) Q ds σ w = vcOps Try.prog [⟨some 7, (Op.move (Operand.tmp 0)), 22, none⟩, ⟨some 8, (Op.call { callee := (Callee.value (Operand.func 13)), args := #[(Operand.tmp 7)], argTypes := #[22] }), 4, none⟩, ⟨some 3, (Op.assign (Operand.tmp 8)), 4, none⟩] (Q .normal ds) σ w := mk_eq rfl
@[push_cast] theorem vr15_4 (Q : Post) (ds : List Deferred) (σ : Env) (w : World) : vc Try.prog (.region r15_4) Q ds σ w = vcOps Try.prog [⟨some 9, (Op.move (Operand.tmp 3)), 4, none⟩, ⟨some 10, (Op.move (Operand.tmp 9)), 4, none⟩, ⟨some 11, (Op.move (Operand.tmp 0)), 22, some (10, true)⟩, ⟨some 12, (Op.call { callee := (Callee.value (Operand.func 19)), args := #[(Operand.tmp 11), (Operand.const (Value.int IntKind.i64 65536))], argTypes := #[22, 3] }), 3, some (10, true)⟩, ⟨some 13, (Op.binOp BinOp.leq 3 (Operand.tmp 12) (Operand.const (Value.int IntKind.i64 3000)) 3), 4, some (10, true)⟩, ⟨some 14, (Op.pick (Operand.tmp 10) (Operand.tmp 13) (Operand.const (Value.bool false))), 4, none⟩, ⟨some 2, (Op.assign (Operand.tmp 14)), 4, none⟩] (Q .normal ds) σ w := mk_eq rfl
/-! 16 columbary/columbaryref04.Same (params #[22, 22], results #[(ResultVar.tmp 4)], 26 slots) -/
def W16_0 : List Nat := [4, 5, 11, 12, 13, 14, 15, 16, 17, 18, 19, 20, 21, 22, 23, 24, 25]
@[push_cast] theorem W16_0_def : W16_0 = [4, 5, 11, 12, 13, 14, 15, 16, 17, 18, 19, 20, 21, 22, 23, 24, 25] := mk_eq rfl
def r16_0 : List VOp :=
  [⟨some 4, (Op.assign (Operand.const (Value.bool false))), 4, none⟩]
def r16_1 : List VOp :=
  [⟨some 6, (Op.move (Operand.tmp 0)), 22, none⟩,
   ⟨some 7, (Op.call { callee := (Callee.builtin Builtin.len), args := #[(Operand.tmp 6)], argTypes := #[22] }), 3, none⟩,
   ⟨some 8, (Op.move (Operand.tmp 1)), 22, none⟩,
   ⟨some 9, (Op.call { callee := (Callee.builtin Builtin.len), args := #[(Operand.tmp 8)], argTypes := #[22] }), 3, none⟩,
   ⟨some 10, (Op.binOp BinOp.neq 3 (Operand.tmp 7) (Operand.tmp 9) 3), 4, none⟩]
def r16_2 : List VOp :=
  [⟨some 4, (Op.assign (Operand.const (Value.bool false))), 4, none⟩]
def r16_3 : List VOp :=
  [⟨some 5, (Op.assign (Operand.const (Value.int IntKind.i64 0))), 3, none⟩]
def r16_4 : List VOp :=
  [⟨some 11, (Op.move (Operand.tmp 5)), 3, none⟩,
   ⟨some 12, (Op.move (Operand.tmp 0)), 22, none⟩,
   ⟨some 13, (Op.call { callee := (Callee.builtin Builtin.len), args := #[(Operand.tmp 12)], argTypes := #[22] }), 3, none⟩,
   ⟨some 14, (Op.binOp BinOp.lss 3 (Operand.tmp 11) (Operand.tmp 13) 3), 4, none⟩]
def r16_6 : List VOp :=
  [⟨some 17, (Op.move (Operand.tmp 0)), 22, none⟩,
   ⟨some 18, (Op.move (Operand.tmp 5)), 3, none⟩,
   ⟨some 19, (Op.indexAddr 22 (Operand.tmp 17) (Operand.tmp 18)), 0, none⟩,
   ⟨some 20, (Op.load 63 (Operand.tmp 19)), 63, none⟩,
   ⟨some 21, (Op.move (Operand.tmp 1)), 22, none⟩,
   ⟨some 22, (Op.move (Operand.tmp 5)), 3, none⟩,
   ⟨some 23, (Op.indexAddr 22 (Operand.tmp 21) (Operand.tmp 22)), 0, none⟩,
   ⟨some 24, (Op.load 63 (Operand.tmp 23)), 63, none⟩,
   ⟨some 25, (Op.binOp BinOp.neq 63 (Operand.tmp 20) (Operand.tmp 24) 63), 4, none⟩]
def r16_7 : List VOp :=
  [⟨some 4, (Op.assign (Operand.const (Value.bool false))), 4, none⟩]
def r16_5 : List VOp :=
  [⟨some 15, (Op.move (Operand.tmp 5)), 3, none⟩,
   ⟨some 16, (Op.binOp BinOp.add 3 (Operand.tmp 15) (Operand.const (Value.int IntKind.i64 1)) 3), 3, none⟩,
   ⟨some 5, (Op.assign (Operand.tmp 16)), 3, none⟩]
def r16_8 : List VOp :=
  [⟨some 4, (Op.assign (Operand.const (Value.bool true))), 4, none⟩]
def B16 : VC :=
  (.seq (.region r16_0) (.seq (.seq (.region r16_1) (.cond (Operand.tmp 10) (.seq (.region r16_2) .ret) .skip)) (.seq (.seq (.region r16_3) (.block 0 (.loop (.seq (.seq (.region r16_4) (.cond (Operand.tmp 14) .skip (.exit 0))) (.seq (.block 1 (.seq (.draw r16_6 2) (.cond (Operand.tmp 25) (.seq (.region r16_7) .ret) .skip))) (.region r16_5)))))) (.seq (.region r16_8) .ret))))
theorem code16 : ∃ c, Try.f16.body = some c ∧ abs Try.f16.ntmps c = B16 := ⟨_, rfl, by kernel_rfl⟩
theorem hb16 : HasBody Try.prog 16 := hasBody_of Try.func16 (by kernel_rfl)
theorem res16 : Try.f16.results = #[(ResultVar.tmp 4)] := rfl
theorem enter16 {w : World} {R : Value → World → Prop} (x0 x1 : Value) (h : vc Try.prog B16 (retK Try.prog #[(ResultVar.tmp 4)] R) [] (initEnv [x0, x1] 0) w) : FnC Try.prog 16 #[x0, x1] w R := by
  obtain ⟨c, h1, h2⟩ := code16
  exact hb16.fn (ret_of_vc mixed Try.func16 h1 (Nat.le_of_ble_eq_true rfl) B16 h2 h)
@[push_cast] theorem vr16_0 (Q : Post) (ds : List Deferred) (σ : Env) (w : World) : vc Try.prog (.region r16_0) Q ds σ w = vcOps Try.prog [⟨some 4, (Op.assign (Operand.const (Value.bool false))), 4, none⟩] (Q .normal ds) σ w := mk_eq rfl
@[push_cast] theorem vr16_1 (Q : Post) (ds : List Deferred) (σ : Env) (w : World) : vc Try.prog (.region r16_1) Q ds σ w = vcOps Try.prog [⟨some 6, (Op.move (Operand.tmp 0)), 22, none⟩, ⟨some 7, (Op.call { callee := (Callee.builtin Builtin.len), args := #[(Operand.tmp 6)], argTypes := #[22] }), 3, none⟩, ⟨some 8, (Op.move (Operand.tmp 1)), 22, none⟩, ⟨some 9, (Op.call { callee := (Callee.builtin Builtin.len), args := #[(Operand.tmp 8)], argTypes := #[22] }), 3, none⟩, ⟨some 10, (Op.binOp BinOp.neq 3 (Operand.tmp 7) (Operand.tmp 9) 3), 4, none⟩] (Q .normal ds) σ w := mk_eq rfl
@[push_cast] theorem vr16_2 (Q : Post) (ds : List Deferred) (σ : Env) (w : World) : vc Try.prog (.region r16_2) Q ds σ w = vcOps Try.prog [⟨some 4, (Op.assign (Operand.const (Value.bool false))), 4, none⟩] (Q .normal ds) σ w := mk_eq rfl
@[push_cast] theorem vr16_3 (Q : Post) (ds : List Deferred) (σ : Env) (w : World) : vc Try.prog (.region r16_3) Q ds σ w = vcOps Try.prog [⟨some 5, (Op.assign (Operand.const (Value.int IntKind.i64 0))), 3, none⟩] (Q .normal ds) σ w := mk_eq rfl
@[push_cast] theorem vr16_4 (Q : Post) (ds : List Deferred) (σ : Env) (w : World) : vc Try.prog (.region r16_4) Q ds σ w = vcOps Try.prog [⟨some 11, (Op.move (Operand.tmp 5)), 3, none⟩, ⟨some 12, (Op.move (Operand.tmp 0)), 22, none⟩, ⟨some 13, (Op.call { callee := (Callee.builtin Builtin.len), args := #[(Operand.tmp 12)], argTypes := #[22] }), 3, none⟩, ⟨some 14, (Op.binOp BinOp.lss 3 (Operand.tmp 11) (Operand.tmp 13) 3), 4, none⟩] (Q .normal ds) σ w := mk_eq rfl
@[push_cast] theorem vr16_6 (Q : Post) (ds : List Deferred) (σ : Env) (w : World) : vc Try.prog (.draw r16_6 2) Q ds σ w = drawn Try.prog [(⟨some 17, (Op.move (Operand.tmp 0)), 22, none⟩, [0]), (⟨some 18, (Op.move (Operand.tmp 5)), 3, none⟩, [5]), (⟨some 19, (Op.indexAddr 22 (Operand.tmp 17) (Operand.tmp 18)), 0, none⟩, [17, 18]), (⟨some 20, (Op.load 63 (Operand.tmp 19)), 63, none⟩, [19]), (⟨some 21, (Op.move (Operand.tmp 1)), 22, none⟩, [1]), (⟨some 22, (Op.move (Operand.tmp 5)), 3, none⟩, [5]), (⟨some 23, (Op.indexAddr 22 (Operand.tmp 21) (Operand.tmp 22)), 0, none⟩, [21, 22]), (⟨some 24, (Op.load 63 (Operand.tmp 23)), 63, none⟩, [23]), (⟨some 25, (Op.binOp BinOp.neq 63 (Operand.tmp 20) (Operand.tmp 24) 63), 4, none⟩, [20, 24])] 2 (Q .normal ds) σ w := mk_eq rfl
@[push_cast] theorem vr16_7 (Q : Post) (ds : List Deferred) (σ : Env) (w : World) : vc Try.prog (.region r16_7) Q ds σ w = vcOps Try.prog [⟨some 4, (Op.assign (Operand.const (Value.bool false))), 4, none⟩] (Q .normal ds) σ w := mk_eq rfl
@[push_cast] theorem vr16_5 (Q : Post) (ds : List Deferred) (σ : Env) (w : World) : vc Try.prog (.region r16_5) Q ds σ w = vcOps Try.prog [⟨some 15, (Op.move (Operand.tmp 5)), 3, none⟩, ⟨some 16, (Op.binOp BinOp.add 3 (Operand.tmp 15) (Operand.const (Value.int IntKind.i64 1)) 3), 3, none⟩, ⟨some 5, (Op.assign (Operand.tmp 16)), 3, none⟩] (Q .normal ds) σ w := mk_eq rfl
@[push_cast] theorem vr16_8 (Q : Post) (ds : List Deferred) (σ : Env) (w : World) : vc Try.prog (.region r16_8) Q ds σ w = vcOps Try.prog [⟨some 4, (Op.assign (Operand.const (Value.bool true))), 4, none⟩] (Q .normal ds) σ w := mk_eq rfl
/-! 19 columbary/columbaryref04.Rank (params #[22, 3], results #[(ResultVar.tmp 4)], 36 slots) -/
def W19_0 : List Nat := [5, 6, 7, 8, 9, 10, 11, 12, 13, 14, 15, 16, 17, 18, 19, 20, 21, 22, 23, 24, 25, 26, 27, 28, 29, 30, 31, 32, 33, 34]
@[push_cast] theorem W19_0_def : W19_0 = [5, 6, 7, 8, 9, 10, 11, 12, 13, 14, 15, 16, 17, 18, 19, 20, 21, 22, 23, 24, 25, 26, 27, 28, 29, 30, 31, 32, 33, 34] := mk_eq rfl
def r19_0 : List VOp :=
  [⟨some 4, (Op.assign (Operand.const (Value.int IntKind.i64 0))), 3, none⟩]
def r19_1 : List VOp :=
  [⟨some 5, (Op.assign (Operand.const (Value.int IntKind.i64 0))), 3, none⟩]
def r19_2 : List VOp :=
  [⟨some 6, (Op.assign (Operand.const (Value.int IntKind.i64 0))), 3, none⟩]
def r19_3 : List VOp :=
  [⟨some 7, (Op.move (Operand.tmp 6)), 3, none⟩,
   ⟨some 8, (Op.move (Operand.tmp 0)), 22, none⟩,
   ⟨some 9, (Op.call { callee := (Callee.builtin Builtin.len), args := #[(Operand.tmp 8)], argTypes := #[22] }), 3, none⟩,
   ⟨some 10, (Op.binOp BinOp.lss 3 (Operand.tmp 7) (Operand.tmp 9) 3), 4, none⟩]
def r19_5 : List VOp :=
  [⟨some 13, (Op.move (Operand.tmp 1)), 3, none⟩,
   ⟨some 14, (Op.move (Operand.tmp 0)), 22, none⟩,
   ⟨some 15, (Op.move (Operand.tmp 6)), 3, none⟩,
   ⟨some 16, (Op.indexAddr 22 (Operand.tmp 14) (Operand.tmp 15)), 0, none⟩,
   ⟨some 17, (Op.fieldAddr 63 (Operand.tmp 16) 0), 0, none⟩,
   ⟨some 18, (Op.load 3 (Operand.tmp 17)), 3, none⟩,
   ⟨some 19, (Op.binOp BinOp.gtr 3 (Operand.tmp 13) (Operand.tmp 18) 3), 4, none⟩]
def r19_6 : List VOp :=
  [⟨some 20, (Op.move (Operand.tmp 5)), 3, none⟩,
   ⟨some 21, (Op.move (Operand.tmp 1)), 3, none⟩,
   ⟨some 22, (Op.move (Operand.tmp 0)), 22, none⟩,
   ⟨some 23, (Op.move (Operand.tmp 6)), 3, none⟩,
   ⟨some 24, (Op.indexAddr 22 (Operand.tmp 22) (Operand.tmp 23)), 0, none⟩,
   ⟨some 25, (Op.fieldAddr 63 (Operand.tmp 24) 1), 0, none⟩,
   ⟨some 26, (Op.load 3 (Operand.tmp 25)), 3, none⟩,
   ⟨some 27, (Op.call { callee := (Callee.builtin Builtin.min), args := #[(Operand.tmp 21), (Operand.tmp 26)], argTypes := #[3, 3] }), 3, none⟩,
   ⟨some 28, (Op.binOp BinOp.add 3 (Operand.tmp 20) (Operand.tmp 27) 3), 3, none⟩,
   ⟨some 29, (Op.move (Operand.tmp 0)), 22, none⟩,
   ⟨some 30, (Op.move (Operand.tmp 6)), 3, none⟩,
   ⟨some 31, (Op.indexAddr 22 (Operand.tmp 29) (Operand.tmp 30)), 0, none⟩,
   ⟨some 32, (Op.fieldAddr 63 (Operand.tmp 31) 0), 0, none⟩,
   ⟨some 33, (Op.load 3 (Operand.tmp 32)), 3, none⟩,
   ⟨some 34, (Op.binOp BinOp.sub 3 (Operand.tmp 28) (Operand.tmp 33) 3), 3, none⟩,
   ⟨some 5, (Op.assign (Operand.tmp 34)), 3, none⟩]
def r19_4 : List VOp :=
  [⟨some 11, (Op.move (Operand.tmp 6)), 3, none⟩,
   ⟨some 12, (Op.binOp BinOp.add 3 (Operand.tmp 11) (Operand.const (Value.int IntKind.i64 1)) 3), 3, none⟩,
   ⟨some 6, (Op.assign (Operand.tmp 12)), 3, none⟩]
def r19_7 : List VOp :=
  [⟨some 35, (Op.move (Operand.tmp 5)), 3, none⟩,
   ⟨some 4, (Op.assign (Operand.tmp 35)), 3, none⟩]
def B19 : VC :=
  (.seq (.region r19_0) (.seq (.region r19_1) (.seq (.seq (.region r19_2) (.block 0 (.loop (.seq (.seq (.region r19_3) (.cond (Operand.tmp 10) .skip (.exit 0))) (.seq (.block 1 (.seq (.region r19_5) (.cond (Operand.tmp 19) (.draw r19_6 3) .skip))) (.region r19_4)))))) (.seq (.region r19_7) .ret))))
theorem code19 : ∃ c, Try.f19.body = some c ∧ abs Try.f19.ntmps c = B19 := ⟨_, rfl, by kernel_rfl⟩
theorem hb19 : HasBody Try.prog 19 := hasBody_of Try.func19 (by kernel_rfl)
theorem res19 : Try.f19.results = #[(ResultVar.tmp 4)] := rfl
theorem enter19 {w : World} {R : Value → World → Prop} (x0 x1 : Value) (h : vc Try.prog B19 (retK Try.prog #[(ResultVar.tmp 4)] R) [] (initEnv [x0, x1] 0) w) : FnC Try.prog 19 #[x0, x1] w R := by
  obtain ⟨c, h1, h2⟩ := code19
  exact hb19.fn (ret_of_vc mixed Try.func19 h1 (Nat.le_of_ble_eq_true rfl) B19 h2 h)
@[push_cast] theorem vr19_0 (Q : Post) (ds : List Deferred) (σ : Env) (w : World) : vc Try.prog (.region r19_0) Q ds σ w = vcOps Try.prog [⟨some 4, (Op.assign (Operand.const (Value.int IntKind.i64 0))), 3, none⟩] (Q .normal ds) σ w := mk_eq rfl
@[push_cast] theorem vr19_1 (Q : Post) (ds : List Deferred) (σ : Env) (w : World) : vc Try.prog (.region r19_1) Q ds σ w = vcOps Try.prog [⟨some 5, (Op.assign (Operand.const (Value.int IntKind.i64 0))), 3, none⟩] (Q .normal ds) σ w := mk_eq rfl
@[push_cast] theorem vr19_2 (Q : Post) (ds : List Deferred) (σ : Env) (w : World) : vc Try.prog (.region r19_2) Q ds σ w = vcOps Try.prog [⟨some 6, (Op.assign (Operand.const (Value.int IntKind.i64 0))), 3, none⟩] (Q .normal ds) σ w := mk_eq rfl
@[push_cast] theorem vr19_3 (Q : Post) (ds : List Deferred) (σ : Env) (w : World) : vc Try.prog (.region r19_3) Q ds σ w = vcOps Try.prog [⟨some 7, (Op.move (Operand.tmp 6)), 3, none⟩, ⟨some 8, (Op.move (Operand.tmp 0)), 22, none⟩, ⟨some 9, (Op.call { callee := (Callee.builtin Builtin.len), args := #[(Operand.tmp 8)], argTypes := #[22] }), 3, none⟩, ⟨some 10, (Op.binOp BinOp.lss 3 (Operand.tmp 7) (Operand.tmp 9) 3), 4, none⟩] (Q .normal ds) σ w := mk_eq rfl
@[push_cast] theorem vr19_5 (Q : Post) (ds : List Deferred) (σ : Env) (w : World) : vc Try.prog (.region r19_5) Q ds σ w = vcOps Try.prog [⟨some 13, (Op.move (Operand.tmp 1)), 3, none⟩, ⟨some 14, (Op.move (Operand.tmp 0)), 22, none⟩, ⟨some 15, (Op.move (Operand.tmp 6)), 3, none⟩, ⟨some 16, (Op.indexAddr 22 (Operand.tmp 14) (Operand.tmp 15)), 0, none⟩, ⟨some 17, (Op.fieldAddr 63 (Operand.tmp 16) 0), 0, none⟩, ⟨some 18, (Op.load 3 (Operand.tmp 17)), 3, none⟩, ⟨some 19, (Op.binOp BinOp.gtr 3 (Operand.tmp 13) (Operand.tmp 18) 3), 4, none⟩] (Q .normal ds) σ w := mk_eq rfl
@[push_cast] theorem vr19_6 (Q : Post) (ds : List Deferred) (σ : Env) (w : World) : vc Try.prog (.draw r19_6 3) Q ds σ w = drawn Try.prog [(⟨some 20, (Op.move (Operand.tmp 5)), 3, none⟩, [5]), (⟨some 21, (Op.move (Operand.tmp 1)), 3, none⟩, [1]), (⟨some 22, (Op.move (Operand.tmp 0)), 22, none⟩, [0]), (⟨some 23, (Op.move (Operand.tmp 6)), 3, none⟩, [6]), (⟨some 24, (Op.indexAddr 22 (Operand.tmp 22) (Operand.tmp 23)), 0, none⟩, [22, 23]), (⟨some 25, (Op.fieldAddr 63 (Operand.tmp 24) 1), 0, none⟩, [24]), (⟨some 26, (Op.load 3 (Operand.tmp 25)), 3, none⟩, [25]), (⟨some 27, (Op.call { callee := (Callee.builtin Builtin.min), args := #[(Operand.tmp 21), (Operand.tmp 26)], argTypes := #[3, 3] }), 3, none⟩, [21, 26]), (⟨some 28, (Op.binOp BinOp.add 3 (Operand.tmp 20) (Operand.tmp 27) 3), 3, none⟩, [20, 27]), (⟨some 29, (Op.move (Operand.tmp 0)), 22, none⟩, [0]), (⟨some 30, (Op.move (Operand.tmp 6)), 3, none⟩, [6]), (⟨some 31, (Op.indexAddr 22 (Operand.tmp 29) (Operand.tmp 30)), 0, none⟩, [29, 30]), (⟨some 32, (Op.fieldAddr 63 (Operand.tmp 31) 0), 0, none⟩, [31]), (⟨some 33, (Op.load 3 (Operand.tmp 32)), 3, none⟩, [32]), (⟨some 34, (Op.binOp BinOp.sub 3 (Operand.tmp 28) (Operand.tmp 33) 3), 3, none⟩, [28, 33]), (⟨some 5, (Op.assign (Operand.tmp 34)), 3, none⟩, [34])] 3 (Q .normal ds) σ w := mk_eq rfl
@[push_cast] theorem vr19_4 (Q : Post) (ds : List Deferred) (σ : Env) (w : World) : vc Try.prog (.region r19_4) Q ds σ w = vcOps Try.prog [⟨some 11, (Op.move (Operand.tmp 6)), 3, none⟩, ⟨some 12, (Op.binOp BinOp.add 3 (Operand.tmp 11) (Operand.const (Value.int IntKind.i64 1)) 3), 3, none⟩, ⟨some 6, (Op.assign (Operand.tmp 12)), 3, none⟩] (Q .normal ds) σ w := mk_eq rfl
@[push_cast] theorem vr19_7 (Q : Post) (ds : List Deferred) (σ : Env) (w : World) : vc Try.prog (.region r19_7) Q ds σ w = vcOps Try.prog [⟨some 35, (Op.move (Operand.tmp 5)), 3, none⟩, ⟨some 4, (Op.assign (Operand.tmp 35)), 3, none⟩] (Q .normal ds) σ w := mk_eq rfl
/-! 21 columbary/columbaryref04.Has (params #[22, 3], results #[(ResultVar.tmp 4)], 28 slots) -/
def W21_0 : List Nat := [4, 5, 6, 7, 8, 9, 10, 11, 12, 13, 14, 15, 16, 17, 18, 19, 20, 21, 22, 23, 24, 25, 26, 27]
@[push_cast] theorem W21_0_def : W21_0 = [4, 5, 6, 7, 8, 9, 10, 11, 12, 13, 14, 15, 16, 17, 18, 19, 20, 21, 22, 23, 24, 25, 26, 27] := mk_eq rfl
def r21_0 : List VOp :=
  [⟨some 4, (Op.assign (Operand.const (Value.bool false))), 4, none⟩]
def r21_1 : List VOp :=
  [⟨some 5, (Op.assign (Operand.const (Value.int IntKind.i64 0))), 3, none⟩]
def r21_2 : List VOp :=
  [⟨some 6, (Op.move (Operand.tmp 5)), 3, none⟩,
   ⟨some 7, (Op.move (Operand.tmp 0)), 22, none⟩,
   ⟨some 8, (Op.call { callee := (Callee.builtin Builtin.len), args := #[(Operand.tmp 7)], argTypes := #[22] }), 3, none⟩,
   ⟨some 9, (Op.binOp BinOp.lss 3 (Operand.tmp 6) (Operand.tmp 8) 3), 4, none⟩]
def r21_4 : List VOp :=
  [⟨some 12, (Op.move (Operand.tmp 1)), 3, none⟩,
   ⟨some 13, (Op.move (Operand.tmp 0)), 22, none⟩,
   ⟨some 14, (Op.move (Operand.tmp 5)), 3, none⟩,
   ⟨some 15, (Op.indexAddr 22 (Operand.tmp 13) (Operand.tmp 14)), 0, none⟩,
   ⟨some 16, (Op.fieldAddr 63 (Operand.tmp 15) 0), 0, none⟩,
   ⟨some 17, (Op.load 3 (Operand.tmp 16)), 3, none⟩,
   ⟨some 18, (Op.binOp BinOp.geq 3 (Operand.tmp 12) (Operand.tmp 17) 3), 4, none⟩,
   ⟨some 19, (Op.move (Operand.tmp 18)), 4, none⟩,
   ⟨some 20, (Op.move (Operand.tmp 1)), 3, some (19, true)⟩,
   ⟨some 21, (Op.move (Operand.tmp 0)), 22, some (19, true)⟩,
   ⟨some 22, (Op.move (Operand.tmp 5)), 3, some (19, true)⟩,
   ⟨some 23, (Op.indexAddr 22 (Operand.tmp 21) (Operand.tmp 22)), 0, some (19, true)⟩,
   ⟨some 24, (Op.fieldAddr 63 (Operand.tmp 23) 1), 0, some (19, true)⟩,
   ⟨some 25, (Op.load 3 (Operand.tmp 24)), 3, some (19, true)⟩,
   ⟨some 26, (Op.binOp BinOp.lss 3 (Operand.tmp 20) (Operand.tmp 25) 3), 4, some (19, true)⟩,
   ⟨some 27, (Op.pick (Operand.tmp 19) (Operand.tmp 26) (Operand.const (Value.bool false))), 4, none⟩]
def r21_5 : List VOp :=
  [⟨some 4, (Op.assign (Operand.const (Value.bool true))), 4, none⟩]
def r21_3 : List VOp :=
  [⟨some 10, (Op.move (Operand.tmp 5)), 3, none⟩,
   ⟨some 11, (Op.binOp BinOp.add 3 (Operand.tmp 10) (Operand.const (Value.int IntKind.i64 1)) 3), 3, none⟩,
   ⟨some 5, (Op.assign (Operand.tmp 11)), 3, none⟩]
def r21_6 : List VOp :=
  [⟨some 4, (Op.assign (Operand.const (Value.bool false))), 4, none⟩]
def B21 : VC :=
  (.seq (.region r21_0) (.seq (.seq (.region r21_1) (.block 0 (.loop (.seq (.seq (.region r21_2) (.cond (Operand.tmp 9) .skip (.exit 0))) (.seq (.block 1 (.seq (.region r21_4) (.cond (Operand.tmp 27) (.seq (.region r21_5) .ret) .skip))) (.region r21_3)))))) (.seq (.region r21_6) .ret)))
theorem code21 : ∃ c, Try.f21.body = some c ∧ abs Try.f21.ntmps c = B21 := ⟨_, rfl, by kernel_rfl⟩
theorem hb21 : HasBody Try.prog 21 := hasBody_of Try.func21 (by kernel_rfl)
theorem res21 : Try.f21.results = #[(ResultVar.tmp 4)] := rfl
theorem enter21 {w : World} {R : Value → World → Prop} (x0 x1 : Value) (h : vc Try.prog B21 (retK Try.prog #[(ResultVar.tmp 4)] R) [] (initEnv [x0, x1] 0) w) : FnC Try.prog 21 #[x0, x1] w R := by
  obtain ⟨c, h1, h2⟩ := code21
  exact hb21.fn (ret_of_vc mixed Try.func21 h1 (Nat.le_of_ble_eq_true rfl) B21 h2 h)
@[push_cast] theorem vr21_0 (Q : Post) (ds : List Deferred) (σ : Env) (w : World) : vc Try.prog (.region r21_0) Q ds σ w = vcOps Try.prog [⟨some 4, (Op.assign (Operand.const (Value.bool false))), 4, none⟩] (Q .normal ds) σ w := mk_eq rfl
@[push_cast] theorem vr21_1 (Q : Post) (ds : List Deferred) (σ : Env) (w : World) : vc Try.prog (.region r21_1) Q ds σ w = vcOps Try.prog [⟨some 5, (Op.assign (Operand.const (Value.int IntKind.i64 0))), 3, none⟩] (Q .normal ds) σ w := mk_eq rfl
@[push_cast] theorem vr21_2 (Q : Post) (ds : List Deferred) (σ : Env) (w : World) : vc Try.prog (.region r21_2) Q ds σ w = vcOps Try.prog [⟨some 6, (Op.move (Operand.tmp 5)), 3, none⟩, ⟨some 7, (Op.move (Operand.tmp 0)), 22, none⟩, ⟨some 8, (Op.call { callee := (Callee.builtin Builtin.len), args := #[(Operand.tmp 7)], argTypes := #[22] }), 3, none⟩, ⟨some 9, (Op.binOp BinOp.lss 3 (Operand.tmp 6) (Operand.tmp 8) 3), 4, none⟩] (Q .normal ds) σ w := mk_eq rfl
@[push_cast] theorem vr21_4 (Q : Post) (ds : List Deferred) (σ : Env) (w : World) : vc Try.prog (.region r21_4) Q ds σ w = vcOps Try.prog [⟨some 12, (Op.move (Operand.tmp 1)), 3, none⟩, ⟨some 13, (Op.move (Operand.tmp 0)), 22, none⟩, ⟨some 14, (Op.move (Operand.tmp 5)), 3, none⟩, ⟨some 15, (Op.indexAddr 22 (Operand.tmp 13) (Operand.tmp 14)), 0, none⟩, ⟨some 16, (Op.fieldAddr 63 (Operand.tmp 15) 0), 0, none⟩, ⟨some 17, (Op.load 3 (Operand.tmp 16)), 3, none⟩, ⟨some 18, (Op.binOp BinOp.geq 3 (Operand.tmp 12) (Operand.tmp 17) 3), 4, none⟩, ⟨some 19, (Op.move (Operand.tmp 18)), 4, none⟩, ⟨some 20, (Op.move (Operand.tmp 1)), 3, some (19, true)⟩, ⟨some 21, (Op.move (Operand.tmp 0)), 22, some (19, true)⟩, ⟨some 22, (Op.move (Operand.tmp 5)), 3, some (19, true)⟩, ⟨some 23, (Op.indexAddr 22 (Operand.tmp 21) (Operand.tmp 22)), 0, some (19, true)⟩, ⟨some 24, (Op.fieldAddr 63 (Operand.tmp 23) 1), 0, some (19, true)⟩, ⟨some 25, (Op.load 3 (Operand.tmp 24)), 3, some (19, true)⟩, ⟨some 26, (Op.binOp BinOp.lss 3 (Operand.tmp 20) (Operand.tmp 25) 3), 4, some (19, true)⟩, ⟨some 27, (Op.pick (Operand.tmp 19) (Operand.tmp 26) (Operand.const (Value.bool false))), 4, none⟩] (Q .normal ds) σ w := mk_eq rfl
@[push_cast] theorem vr21_5 (Q : Post) (ds : List Deferred) (σ : Env) (w : World) : vc Try.prog (.region r21_5) Q ds σ w = vcOps Try.prog [⟨some 4, (Op.assign (Operand.const (Value.bool true))), 4, none⟩] (Q .normal ds) σ w := mk_eq rfl
@[push_cast] theorem vr21_3 (Q : Post) (ds : List Deferred) (σ : Env) (w : World) : vc Try.prog (.region r21_3) Q ds σ w = vcOps Try.prog [⟨some 10, (Op.move (Operand.tmp 5)), 3, none⟩, ⟨some 11, (Op.binOp BinOp.add 3 (Operand.tmp 10) (Operand.const (Value.int IntKind.i64 1)) 3), 3, none⟩, ⟨some 5, (Op.assign (Operand.tmp 11)), 3, none⟩] (Q .normal ds) σ w := mk_eq rfl
@[push_cast] theorem vr21_6 (Q : Post) (ds : List Deferred) (σ : Env) (w : World) : vc Try.prog (.region r21_6) Q ds σ w = vcOps Try.prog [⟨some 4, (Op.assign (Operand.const (Value.bool false))), 4, none⟩] (Q .normal ds) σ w := mk_eq rfl
/-! 31 columbary/runs.Select (params #[22, 3], results #[(ResultVar.tmp 4), (ResultVar.tmp 5)], 33 slots) -/
def W31_0 : List Nat := [1, 4, 5, 7, 8, 13, 14, 15, 16, 17, 18, 19, 20, 21, 22, 23, 24, 25, 26, 27, 28, 29, 30, 31, 32]
@[push_cast] theorem W31_0_def : W31_0 = [1, 4, 5, 7, 8, 13, 14, 15, 16, 17, 18, 19, 20, 21, 22, 23, 24, 25, 26, 27, 28, 29, 30, 31, 32] := mk_eq rfl
def r31_0 : List VOp :=
  [⟨some 4, (Op.assign (Operand.const (Value.int IntKind.i64 0))), 3, none⟩,
   ⟨some 5, (Op.assign (Operand.const (Value.bool false))), 4, none⟩]
def r31_1 : List VOp :=
  [⟨some 9, (Op.move (Operand.tmp 1)), 3, none⟩,
   ⟨some 10, (Op.binOp BinOp.lss 3 (Operand.tmp 9) (Operand.const (Value.int IntKind.i64 0)) 3), 4, none⟩]
def r31_2 : List VOp :=
  [⟨some 4, (Op.assign (Operand.const (Value.int IntKind.i64 0))), 3, none⟩,
   ⟨some 5, (Op.assign (Operand.const (Value.bool false))), 4, none⟩]
def r31_3 : List VOp :=
  [⟨some 11, (Op.move (Operand.tmp 0)), 22, none⟩,
   ⟨some 12, (Op.call { callee := (Callee.builtin Builtin.len), args := #[(Operand.tmp 11)], argTypes := #[22] }), 3, none⟩,
   ⟨some 13, (Op.move (Operand.const (Value.int IntKind.i64 0))), 3, none⟩]
def r31_4 : List VOp :=
  [⟨some 14, (Op.binOp BinOp.lss 3 (Operand.tmp 13) (Operand.tmp 12) 3), 0, none⟩]
def r31_5 : List VOp :=
  [⟨some 15, (Op.indexAddr 22 (Operand.tmp 11) (Operand.tmp 13)), 0, none⟩,
   ⟨some 16, (Op.load 63 (Operand.tmp 15)), 63, none⟩,
   ⟨some 7, (Op.alloc 63), 0, none⟩,
   ⟨none, (Op.store 63 (Operand.tmp 7) (Operand.tmp 16)), 0, none⟩]
def r31_6 : List VOp :=
  [⟨some 17, (Op.fieldAddr 63 (Operand.tmp 7) 1), 0, none⟩,
   ⟨some 18, (Op.load 3 (Operand.tmp 17)), 3, none⟩,
   ⟨some 19, (Op.fieldAddr 63 (Operand.tmp 7) 0), 0, none⟩,
   ⟨some 20, (Op.load 3 (Operand.tmp 19)), 3, none⟩,
   ⟨some 21, (Op.binOp BinOp.sub 3 (Operand.tmp 18) (Operand.tmp 20) 3), 3, none⟩,
   ⟨some 8, (Op.assign (Operand.tmp 21)), 3, none⟩]
def r31_7 : List VOp :=
  [⟨some 22, (Op.move (Operand.tmp 1)), 3, none⟩,
   ⟨some 23, (Op.move (Operand.tmp 8)), 3, none⟩,
   ⟨some 24, (Op.binOp BinOp.geq 3 (Operand.tmp 22) (Operand.tmp 23) 3), 4, none⟩]
def r31_8 : List VOp :=
  [⟨some 25, (Op.move (Operand.tmp 1)), 3, none⟩,
   ⟨some 26, (Op.move (Operand.tmp 8)), 3, none⟩,
   ⟨some 27, (Op.binOp BinOp.sub 3 (Operand.tmp 25) (Operand.tmp 26) 3), 3, none⟩,
   ⟨some 1, (Op.assign (Operand.tmp 27)), 3, none⟩]
def r31_9 : List VOp :=
  [⟨some 28, (Op.fieldAddr 63 (Operand.tmp 7) 0), 0, none⟩,
   ⟨some 29, (Op.load 3 (Operand.tmp 28)), 3, none⟩,
   ⟨some 30, (Op.move (Operand.tmp 1)), 3, none⟩,
   ⟨some 31, (Op.binOp BinOp.add 3 (Operand.tmp 29) (Operand.tmp 30) 3), 3, none⟩,
   ⟨some 4, (Op.assign (Operand.tmp 31)), 3, none⟩,
   ⟨some 5, (Op.assign (Operand.const (Value.bool true))), 4, none⟩]
def r31_10 : List VOp :=
  [⟨some 32, (Op.binOp BinOp.add 3 (Operand.tmp 13) (Operand.const (Value.int IntKind.i64 1)) 3), 3, none⟩,
   ⟨some 13, (Op.move (Operand.tmp 32)), 3, none⟩]
def r31_11 : List VOp :=
  [⟨some 4, (Op.assign (Operand.const (Value.int IntKind.i64 0))), 3, none⟩,
   ⟨some 5, (Op.assign (Operand.const (Value.bool false))), 4, none⟩]
def B31 : VC :=
  (.seq (.region r31_0) (.seq (.seq (.region r31_1) (.cond (Operand.tmp 10) (.seq (.region r31_2) .ret) .skip)) (.seq (.seq (.region r31_3) (.block 0 (.loop (.seq (.region r31_4) (.seq (.cond (Operand.tmp 14) .skip (.exit 0)) (.seq (.block 1 (.seq (.region r31_5) (.seq (.seq (.region r31_6) (.seq (.region r31_7) (.cond (Operand.tmp 24) (.seq (.region r31_8) (.exit 1)) .skip))) (.seq (.region r31_9) .ret)))) (.region r31_10))))))) (.seq (.region r31_11) .ret))))
theorem code31 : ∃ c, Try.f31.body = some c ∧ abs Try.f31.ntmps c = B31 := ⟨_, rfl, by kernel_rfl⟩
theorem hb31 : HasBody Try.prog 31 := hasBody_of Try.func31 (by kernel_rfl)
theorem res31 : Try.f31.results = #[(ResultVar.tmp 4), (ResultVar.tmp 5)] := rfl
theorem enter31 {w : World} {R : Value → World → Prop} (x0 x1 : Value) (h : vc Try.prog B31 (retK Try.prog #[(ResultVar.tmp 4), (ResultVar.tmp 5)] R) [] (initEnv [x0, x1] 0) w) : FnC Try.prog 31 #[x0, x1] w R := by
  obtain ⟨c, h1, h2⟩ := code31
  exact hb31.fn (ret_of_vc mixed Try.func31 h1 (Nat.le_of_ble_eq_true rfl) B31 h2 h)
@[push_cast] theorem vr31_0 (Q : Post) (ds : List Deferred) (σ : Env) (w : World) : vc Try.prog (.region r31_0) Q ds σ w = vcOps Try.prog [⟨some 4, (Op.assign (Operand.const (Value.int IntKind.i64 0))), 3, none⟩, ⟨some 5, (Op.assign (Operand.const (Value.bool false))), 4, none⟩] (Q .normal ds) σ w := mk_eq rfl
@[push_cast] theorem vr31_1 (Q : Post) (ds : List Deferred) (σ : Env) (w : World) : vc Try.prog (.region r31_1) Q ds σ w = vcOps Try.prog [⟨some 9, (Op.move (Operand.tmp 1)), 3, none⟩, ⟨some 10, (Op.binOp BinOp.lss 3 (Operand.tmp 9) (Operand.const (Value.int IntKind.i64 0)) 3), 4, none⟩] (Q .normal ds) σ w := mk_eq rfl
@[push_cast] theorem vr31_2 (Q : Post) (ds : List Deferred) (σ : Env) (w : World) : vc Try.prog (.region r31_2) Q ds σ w = vcOps Try.prog [⟨some 4, (Op.assign (Operand.const (Value.int IntKind.i64 0))), 3, none⟩, ⟨some 5, (Op.assign (Operand.const (Value.bool false))), 4, none⟩] (Q .normal ds) σ w := mk_eq rfl
@[push_cast] theorem vr31_3 (Q : Post) (ds : List Deferred) (σ : Env) (w : World) : vc Try.prog (.region r31_3) Q ds σ w = vcOps Try.prog [⟨some 11, (Op.move (Operand.tmp 0)), 22, none⟩, ⟨some 12, (Op.call { callee := (Callee.builtin Builtin.len), args := #[(Operand.tmp 11)], argTypes := #[22] }), 3, none⟩, ⟨some 13, (Op.move (Operand.const (Value.int IntKind.i64 0))), 3, none⟩] (Q .normal ds) σ w := mk_eq rfl
@[push_cast] theorem vr31_4 (Q : Post) (ds : List Deferred) (σ : Env) (w : World) : vc Try.prog (.region r31_4) Q ds σ w = vcOps Try.prog [⟨some 14, (Op.binOp BinOp.lss 3 (Operand.tmp 13) (Operand.tmp 12) 3), 0, none⟩] (Q .normal ds) σ w := mk_eq rfl
@[push_cast] theorem vr31_5 (Q : Post) (ds : List Deferred) (σ : Env) (w : World) : vc Try.prog (.region r31_5) Q ds σ w = vcOps Try.prog [⟨some 15, (Op.indexAddr 22 (Operand.tmp 11) (Operand.tmp 13)), 0, none⟩, ⟨some 16, (Op.load 63 (Operand.tmp 15)), 63, none⟩, ⟨some 7, (Op.alloc 63), 0, none⟩, ⟨none, (Op.store 63 (Operand.tmp 7) (Operand.tmp 16)), 0, none⟩] (Q .normal ds) σ w := mk_eq rfl
@[push_cast] theorem vr31_6 (Q : Post) (ds : List Deferred) (σ : Env) (w : World) : vc Try.prog (.region r31_6) Q ds σ w = vcOps Try.prog [⟨some 17, (Op.fieldAddr 63 (Operand.tmp 7) 1), 0, none⟩, ⟨some 18, (Op.load 3 (Operand.tmp 17)), 3, none⟩, ⟨some 19, (Op.fieldAddr 63 (Operand.tmp 7) 0), 0, none⟩, ⟨some 20, (Op.load 3 (Operand.tmp 19)), 3, none⟩, ⟨some 21, (Op.binOp BinOp.sub 3 (Operand.tmp 18) (Operand.tmp 20) 3), 3, none⟩, ⟨some 8, (Op.assign (Operand.tmp 21)), 3, none⟩] (Q .normal ds) σ w := mk_eq rfl
@[push_cast] theorem vr31_7 (Q : Post) (ds : List Deferred) (σ : Env) (w : World) : vc Try.prog (.region r31_7) Q ds σ w = vcOps Try.prog [⟨some 22, (Op.move (Operand.tmp 1)), 3, none⟩, ⟨some 23, (Op.move (Operand.tmp 8)), 3, none⟩, ⟨some 24, (Op.binOp BinOp.geq 3 (Operand.tmp 22) (Operand.tmp 23) 3), 4, none⟩] (Q .normal ds) σ w := mk_eq rfl
@[push_cast] theorem vr31_8 (Q : Post) (ds : List Deferred) (σ : Env) (w : World) : vc Try.prog (.region r31_8) Q ds σ w = vcOps Try.prog [⟨some 25, (Op.move (Operand.tmp 1)), 3, none⟩, ⟨some 26, (Op.move (Operand.tmp 8)), 3, none⟩, ⟨some 27, (Op.binOp BinOp.sub 3 (Operand.tmp 25) (Operand.tmp 26) 3), 3, none⟩, ⟨some 1, (Op.assign (Operand.tmp 27)), 3, none⟩] (Q .normal ds) σ w := mk_eq rfl
@[push_cast] theorem vr31_9 (Q : Post) (ds : List Deferred) (σ : Env) (w : World) : vc Try.prog (.region r31_9) Q ds σ w = vcOps Try.prog [⟨some 28, (Op.fieldAddr 63 (Operand.tmp 7) 0), 0, none⟩, ⟨some 29, (Op.load 3 (Operand.tmp 28)), 3, none⟩, ⟨some 30, (Op.move (Operand.tmp 1)), 3, none⟩, ⟨some 31, (Op.binOp BinOp.add 3 (Operand.tmp 29) (Operand.tmp 30) 3), 3, none⟩, ⟨some 4, (Op.assign (Operand.tmp 31)), 3, none⟩, ⟨some 5, (Op.assign (Operand.const (Value.bool true))), 4, none⟩] (Q .normal ds) σ w := mk_eq rfl
@[push_cast] theorem vr31_10 (Q : Post) (ds : List Deferred) (σ : Env) (w : World) : vc Try.prog (.region r31_10) Q ds σ w = vcOps Try.prog [⟨some 32, (Op.binOp BinOp.add 3 (Operand.tmp 13) (Operand.const (Value.int IntKind.i64 1)) 3), 3, none⟩, ⟨some 13, (Op.move (Operand.tmp 32)), 3, none⟩] (Q .normal ds) σ w := mk_eq rfl
@[push_cast] theorem vr31_11 (Q : Post) (ds : List Deferred) (σ : Env) (w : World) : vc Try.prog (.region r31_11) Q ds σ w = vcOps Try.prog [⟨some 4, (Op.assign (Operand.const (Value.int IntKind.i64 0))), 3, none⟩, ⟨some 5, (Op.assign (Operand.const (Value.bool false))), 4, none⟩] (Q .normal ds) σ w := mk_eq rfl
/-! 32 columbary/runs.Count (params #[22], results #[(ResultVar.tmp 2)], 21 slots) -/
def W32_0 : List Nat := [3, 5, 8, 9, 10, 11, 12, 13, 14, 15, 16, 17, 18, 19]
@[push_cast] theorem W32_0_def : W32_0 = [3, 5, 8, 9, 10, 11, 12, 13, 14, 15, 16, 17, 18, 19] := mk_eq rfl
def r32_0 : List VOp :=
  [⟨some 2, (Op.assign (Operand.const (Value.int IntKind.i64 0))), 3, none⟩]
def r32_1 : List VOp :=
  [⟨some 3, (Op.assign (Operand.const (Value.int IntKind.i64 0))), 3, none⟩]
def r32_2 : List VOp :=
  [⟨some 6, (Op.move (Operand.tmp 0)), 22, none⟩,
   ⟨some 7, (Op.call { callee := (Callee.builtin Builtin.len), args := #[(Operand.tmp 6)], argTypes := #[22] }), 3, none⟩,
   ⟨some 8, (Op.move (Operand.const (Value.int IntKind.i64 0))), 3, none⟩]
def r32_3 : List VOp :=
  [⟨some 9, (Op.binOp BinOp.lss 3 (Operand.tmp 8) (Operand.tmp 7) 3), 0, none⟩]
def r32_4 : List VOp :=
  [⟨some 10, (Op.indexAddr 22 (Operand.tmp 6) (Operand.tmp 8)), 0, none⟩,
   ⟨some 11, (Op.load 63 (Operand.tmp 10)), 63, none⟩,
   ⟨some 5, (Op.alloc 63), 0, none⟩,
   ⟨none, (Op.store 63 (Operand.tmp 5) (Operand.tmp 11)), 0, none⟩]
def r32_5 : List VOp :=
  [⟨some 12, (Op.move (Operand.tmp 3)), 3, none⟩,
   ⟨some 13, (Op.fieldAddr 63 (Operand.tmp 5) 1), 0, none⟩,
   ⟨some 14, (Op.load 3 (Operand.tmp 13)), 3, none⟩,
   ⟨some 15, (Op.fieldAddr 63 (Operand.tmp 5) 0), 0, none⟩,
   ⟨some 16, (Op.load 3 (Operand.tmp 15)), 3, none⟩,
   ⟨some 17, (Op.binOp BinOp.sub 3 (Operand.tmp 14) (Operand.tmp 16) 3), 3, none⟩,
   ⟨some 18, (Op.binOp BinOp.add 3 (Operand.tmp 12) (Operand.tmp 17) 3), 3, none⟩,
   ⟨some 3, (Op.assign (Operand.tmp 18)), 3, none⟩]
def r32_6 : List VOp :=
  [⟨some 19, (Op.binOp BinOp.add 3 (Operand.tmp 8) (Operand.const (Value.int IntKind.i64 1)) 3), 3, none⟩,
   ⟨some 8, (Op.move (Operand.tmp 19)), 3, none⟩]
def r32_7 : List VOp :=
  [⟨some 20, (Op.move (Operand.tmp 3)), 3, none⟩,
   ⟨some 2, (Op.assign (Operand.tmp 20)), 3, none⟩]
def B32 : VC :=
  (.seq (.region r32_0) (.seq (.region r32_1) (.seq (.seq (.region r32_2) (.block 0 (.loop (.seq (.region r32_3) (.seq (.cond (Operand.tmp 9) .skip (.exit 0)) (.seq (.block 1 (.seq (.region r32_4) (.region r32_5))) (.region r32_6))))))) (.seq (.region r32_7) .ret))))
theorem code32 : ∃ c, Try.f32.body = some c ∧ abs Try.f32.ntmps c = B32 := ⟨_, rfl, by kernel_rfl⟩
theorem hb32 : HasBody Try.prog 32 := hasBody_of Try.func32 (by kernel_rfl)
theorem res32 : Try.f32.results = #[(ResultVar.tmp 2)] := rfl
theorem enter32 {w : World} {R : Value → World → Prop} (x0 : Value) (h : vc Try.prog B32 (retK Try.prog #[(ResultVar.tmp 2)] R) [] (initEnv [x0] 0) w) : FnC Try.prog 32 #[x0] w R := by
  obtain ⟨c, h1, h2⟩ := code32
  exact hb32.fn (ret_of_vc mixed Try.func32 h1 (Nat.le_of_ble_eq_true rfl) B32 h2 h)
@[push_cast] theorem vr32_0 (Q : Post) (ds : List Deferred) (σ : Env) (w : World) : vc Try.prog (.region r32_0) Q ds σ w = vcOps Try.prog [⟨some 2, (Op.assign (Operand.const (Value.int IntKind.i64 0))), 3, none⟩] (Q .normal ds) σ w := mk_eq rfl
@[push_cast] theorem vr32_1 (Q : Post) (ds : List Deferred) (σ : Env) (w : World) : vc Try.prog (.region r32_1) Q ds σ w = vcOps Try.prog [⟨some 3, (Op.assign (Operand.const (Value.int IntKind.i64 0))), 3, none⟩] (Q .normal ds) σ w := mk_eq rfl
@[push_cast] theorem vr32_2 (Q : Post) (ds : List Deferred) (σ : Env) (w : World) : vc Try.prog (.region r32_2) Q ds σ w = vcOps Try.prog [⟨some 6, (Op.move (Operand.tmp 0)), 22, none⟩, ⟨some 7, (Op.call { callee := (Callee.builtin Builtin.len), args := #[(Operand.tmp 6)], argTypes := #[22] }), 3, none⟩, ⟨some 8, (Op.move (Operand.const (Value.int IntKind.i64 0))), 3, none⟩] (Q .normal ds) σ w := mk_eq rfl
@[push_cast] theorem vr32_3 (Q : Post) (ds : List Deferred) (σ : Env) (w : World) : vc Try.prog (.region r32_3) Q ds σ w = vcOps Try.prog [⟨some 9, (Op.binOp BinOp.lss 3 (Operand.tmp 8) (Operand.tmp 7) 3), 0, none⟩] (Q .normal ds) σ w := mk_eq rfl
@[push_cast] theorem vr32_4 (Q : Post) (ds : List Deferred) (σ : Env) (w : World) : vc Try.prog (.region r32_4) Q ds σ w = vcOps Try.prog [⟨some 10, (Op.indexAddr 22 (Operand.tmp 6) (Operand.tmp 8)), 0, none⟩, ⟨some 11, (Op.load 63 (Operand.tmp 10)), 63, none⟩, ⟨some 5, (Op.alloc 63), 0, none⟩, ⟨none, (Op.store 63 (Operand.tmp 5) (Operand.tmp 11)), 0, none⟩] (Q .normal ds) σ w := mk_eq rfl
@[push_cast] theorem vr32_5 (Q : Post) (ds : List Deferred) (σ : Env) (w : World) : vc Try.prog (.region r32_5) Q ds σ w = vcOps Try.prog [⟨some 12, (Op.move (Operand.tmp 3)), 3, none⟩, ⟨some 13, (Op.fieldAddr 63 (Operand.tmp 5) 1), 0, none⟩, ⟨some 14, (Op.load 3 (Operand.tmp 13)), 3, none⟩, ⟨some 15, (Op.fieldAddr 63 (Operand.tmp 5) 0), 0, none⟩, ⟨some 16, (Op.load 3 (Operand.tmp 15)), 3, none⟩, ⟨some 17, (Op.binOp BinOp.sub 3 (Operand.tmp 14) (Operand.tmp 16) 3), 3, none⟩, ⟨some 18, (Op.binOp BinOp.add 3 (Operand.tmp 12) (Operand.tmp 17) 3), 3, none⟩, ⟨some 3, (Op.assign (Operand.tmp 18)), 3, none⟩] (Q .normal ds) σ w := mk_eq rfl
@[push_cast] theorem vr32_6 (Q : Post) (ds : List Deferred) (σ : Env) (w : World) : vc Try.prog (.region r32_6) Q ds σ w = vcOps Try.prog [⟨some 19, (Op.binOp BinOp.add 3 (Operand.tmp 8) (Operand.const (Value.int IntKind.i64 1)) 3), 3, none⟩, ⟨some 8, (Op.move (Operand.tmp 19)), 3, none⟩] (Q .normal ds) σ w := mk_eq rfl
@[push_cast] theorem vr32_7 (Q : Post) (ds : List Deferred) (σ : Env) (w : World) : vc Try.prog (.region r32_7) Q ds σ w = vcOps Try.prog [⟨some 20, (Op.move (Operand.tmp 3)), 3, none⟩, ⟨some 2, (Op.assign (Operand.tmp 20)), 3, none⟩] (Q .normal ds) σ w := mk_eq rfl
/-! 33 columbary/runs.Has (params #[22, 3], results #[(ResultVar.tmp 4)], 22 slots) -/
def r33_0 : List VOp :=
  [⟨some 4, (Op.assign (Operand.const (Value.bool false))), 4, none⟩]
def r33_1 : List VOp :=
  [⟨some 6, (Op.move (Operand.tmp 0)), 22, none⟩,
   ⟨some 7, (Op.move (Operand.tmp 1)), 3, none⟩,
   ⟨some 8, (Op.call { callee := (Callee.value (Operand.func 67)), args := #[(Operand.tmp 6), (Operand.tmp 7)], argTypes := #[22, 3] }), 3, none⟩,
   ⟨some 5, (Op.assign (Operand.tmp 8)), 3, none⟩]
def r33_2 : List VOp :=
  [⟨some 9, (Op.move (Operand.tmp 5)), 3, none⟩,
   ⟨some 10, (Op.move (Operand.tmp 0)), 22, none⟩,
   ⟨some 11, (Op.call { callee := (Callee.builtin Builtin.len), args := #[(Operand.tmp 10)], argTypes := #[22] }), 3, none⟩,
   ⟨some 12, (Op.binOp BinOp.lss 3 (Operand.tmp 9) (Operand.tmp 11) 3), 4, none⟩,
   ⟨some 13, (Op.move (Operand.tmp 12)), 4, none⟩,
   ⟨some 14, (Op.move (Operand.tmp 0)), 22, some (13, true)⟩,
   ⟨some 15, (Op.move (Operand.tmp 5)), 3, some (13, true)⟩,
   ⟨some 16, (Op.indexAddr 22 (Operand.tmp 14) (Operand.tmp 15)), 0, some (13, true)⟩,
   ⟨some 17, (Op.fieldAddr 63 (Operand.tmp 16) 0), 0, some (13, true)⟩,
   ⟨some 18, (Op.load 3 (Operand.tmp 17)), 3, some (13, true)⟩,
   ⟨some 19, (Op.move (Operand.tmp 1)), 3, some (13, true)⟩,
   ⟨some 20, (Op.binOp BinOp.leq 3 (Operand.tmp 18) (Operand.tmp 19) 3), 4, some (13, true)⟩,
   ⟨some 21, (Op.pick (Operand.tmp 13) (Operand.tmp 20) (Operand.const (Value.bool false))), 4, none⟩,
   ⟨some 4, (Op.assign (Operand.tmp 21)), 4, none⟩]
def B33 : VC :=
  (.seq (.region r33_0) (.seq (.region r33_1) (.seq (.region r33_2) .ret)))
theorem code33 : ∃ c, Try.f33.body = some c ∧ abs Try.f33.ntmps c = B33 := ⟨_, rfl, by kernel_rfl⟩
theorem hb33 : HasBody Try.prog 33 := hasBody_of Try.func33 (by kernel_rfl)
theorem res33 : Try.f33.results = #[(ResultVar.tmp 4)] := rfl
theorem enter33 {w : World} {R : Value → World → Prop} (x0 x1 : Value) (h : vc Try.prog B33 (retK Try.prog #[(ResultVar.tmp 4)] R) [] (initEnv [x0, x1] 0) w) : FnC Try.prog 33 #[x0, x1] w R := by
  obtain ⟨c, h1, h2⟩ := code33
  exact hb33.fn (ret_of_vc mixed Try.func33 h1 (Nat.le_of_ble_eq_true rfl) B33 h2 h)
@[push_cast] theorem vr33_0 (Q : Post) (ds : List Deferred) (σ : Env) (w : World) : vc Try.prog (.region r33_0) Q ds σ w = vcOps Try.prog [⟨some 4, (Op.assign (Operand.const (Value.bool false))), 4, none⟩] (Q .normal ds) σ w := mk_eq rfl
@[push_cast] theorem vr33_1 (Q : Post) (ds : List Deferred) (σ : Env) (w : World) : vc Try.prog (.region r33_1) Q ds σ w = vcOps Try.prog [⟨some 6, (Op.move (Operand.tmp 0)), 22, none⟩, ⟨some 7, (Op.move (Operand.tmp 1)), 3, none⟩, ⟨some 8, (Op.call { callee := (Callee.value (Operand.func 67)), args := #[(Operand.tmp 6), (Operand.tmp 7)], argTypes := #[22, 3] }), 3, none⟩, ⟨some 5, (Op.assign (Operand.tmp 8)), 3, none⟩] (Q .normal ds) σ w := mk_eq rfl
@[push_cast] theorem vr33_2 (Q : Post) (ds : List Deferred) (σ : Env) (w : World) : vc Try.prog (.region r33_2) Q ds σ w = vcOps Try.prog [⟨some 9, (Op.move (Operand.tmp 5)), 3, none⟩, ⟨some 10, (Op.move (Operand.tmp 0)), 22, none⟩, ⟨some 11, (Op.call { callee := (Callee.builtin Builtin.len), args := #[(Operand.tmp 10)], argTypes := #[22] }), 3, none⟩, ⟨some 12, (Op.binOp BinOp.lss 3 (Operand.tmp 9) (Operand.tmp 11) 3), 4, none⟩, ⟨some 13, (Op.move (Operand.tmp 12)), 4, none⟩, ⟨some 14, (Op.move (Operand.tmp 0)), 22, some (13, true)⟩, ⟨some 15, (Op.move (Operand.tmp 5)), 3, some (13, true)⟩, ⟨some 16, (Op.indexAddr 22 (Operand.tmp 14) (Operand.tmp 15)), 0, some (13, true)⟩, ⟨some 17, (Op.fieldAddr 63 (Operand.tmp 16) 0), 0, some (13, true)⟩, ⟨some 18, (Op.load 3 (Operand.tmp 17)), 3, some (13, true)⟩, ⟨some 19, (Op.move (Operand.tmp 1)), 3, some (13, true)⟩, ⟨some 20, (Op.binOp BinOp.leq 3 (Operand.tmp 18) (Operand.tmp 19) 3), 4, some (13, true)⟩, ⟨some 21, (Op.pick (Operand.tmp 13) (Operand.tmp 20) (Operand.const (Value.bool false))), 4, none⟩, ⟨some 4, (Op.assign (Operand.tmp 21)), 4, none⟩] (Q .normal ds) σ w := mk_eq rfl
/-! 34 columbary/runs.Rank (params #[22, 3], results #[(ResultVar.tmp 4)], 37 slots) -/
def r34_0 : List VOp :=
  [⟨some 4, (Op.assign (Operand.const (Value.int IntKind.i64 0))), 3, none⟩]
def r34_1 : List VOp :=
  [⟨some 7, (Op.move (Operand.tmp 0)), 22, none⟩,
   ⟨some 8, (Op.move (Operand.tmp 1)), 3, none⟩,
   ⟨some 9, (Op.call { callee := (Callee.value (Operand.func 67)), args := #[(Operand.tmp 7), (Operand.tmp 8)], argTypes := #[22, 3] }), 3, none⟩,
   ⟨some 5, (Op.assign (Operand.tmp 9)), 3, none⟩]
def r34_2 : List VOp :=
  [⟨some 10, (Op.move (Operand.tmp 0)), 22, none⟩,
   ⟨some 11, (Op.move (Operand.tmp 5)), 3, none⟩,
   ⟨some 12, (Op.slice 22 (Operand.tmp 10) none (some (Operand.tmp 11)) none), 22, none⟩,
   ⟨some 13, (Op.call { callee := (Callee.value (Operand.func 32)), args := #[(Operand.tmp 12)], argTypes := #[22] }), 3, none⟩,
   ⟨some 6, (Op.assign (Operand.tmp 13)), 3, none⟩]
def r34_3 : List VOp :=
  [⟨some 14, (Op.move (Operand.tmp 5)), 3, none⟩,
   ⟨some 15, (Op.move (Operand.tmp 0)), 22, none⟩,
   ⟨some 16, (Op.call { callee := (Callee.builtin Builtin.len), args := #[(Operand.tmp 15)], argTypes := #[22] }), 3, none⟩,
   ⟨some 17, (Op.binOp BinOp.lss 3 (Operand.tmp 14) (Operand.tmp 16) 3), 4, none⟩,
   ⟨some 18, (Op.move (Operand.tmp 17)), 4, none⟩,
   ⟨some 19, (Op.move (Operand.tmp 0)), 22, some (18, true)⟩,
   ⟨some 20, (Op.move (Operand.tmp 5)), 3, some (18, true)⟩,
   ⟨some 21, (Op.indexAddr 22 (Operand.tmp 19) (Operand.tmp 20)), 0, some (18, true)⟩,
   ⟨some 22, (Op.fieldAddr 63 (Operand.tmp 21) 0), 0, some (18, true)⟩,
   ⟨some 23, (Op.load 3 (Operand.tmp 22)), 3, some (18, true)⟩,
   ⟨some 24, (Op.move (Operand.tmp 1)), 3, some (18, true)⟩,
   ⟨some 25, (Op.binOp BinOp.lss 3 (Operand.tmp 23) (Operand.tmp 24) 3), 4, some (18, true)⟩,
   ⟨some 26, (Op.pick (Operand.tmp 18) (Operand.tmp 25) (Operand.const (Value.bool false))), 4, none⟩]
def r34_4 : List VOp :=
  [⟨some 27, (Op.move (Operand.tmp 6)), 3, none⟩,
   ⟨some 28, (Op.move (Operand.tmp 1)), 3, none⟩,
   ⟨some 29, (Op.move (Operand.tmp 0)), 22, none⟩,
   ⟨some 30, (Op.move (Operand.tmp 5)), 3, none⟩,
   ⟨some 31, (Op.indexAddr 22 (Operand.tmp 29) (Operand.tmp 30)), 0, none⟩,
   ⟨some 32, (Op.fieldAddr 63 (Operand.tmp 31) 0), 0, none⟩,
   ⟨some 33, (Op.load 3 (Operand.tmp 32)), 3, none⟩,
   ⟨some 34, (Op.binOp BinOp.sub 3 (Operand.tmp 28) (Operand.tmp 33) 3), 3, none⟩,
   ⟨some 35, (Op.binOp BinOp.add 3 (Operand.tmp 27) (Operand.tmp 34) 3), 3, none⟩,
   ⟨some 6, (Op.assign (Operand.tmp 35)), 3, none⟩]
def r34_5 : List VOp :=
  [⟨some 36, (Op.move (Operand.tmp 6)), 3, none⟩,
   ⟨some 4, (Op.assign (Operand.tmp 36)), 3, none⟩]
def B34 : VC :=
  (.seq (.region r34_0) (.seq (.region r34_1) (.seq (.region r34_2) (.seq (.seq (.region r34_3) (.cond (Operand.tmp 26) (.region r34_4) .skip)) (.seq (.region r34_5) .ret)))))
theorem code34 : ∃ c, Try.f34.body = some c ∧ abs Try.f34.ntmps c = B34 := ⟨_, rfl, by kernel_rfl⟩
theorem hb34 : HasBody Try.prog 34 := hasBody_of Try.func34 (by kernel_rfl)
theorem res34 : Try.f34.results = #[(ResultVar.tmp 4)] := rfl
theorem enter34 {w : World} {R : Value → World → Prop} (x0 x1 : Value) (h : vc Try.prog B34 (retK Try.prog #[(ResultVar.tmp 4)] R) [] (initEnv [x0, x1] 0) w) : FnC Try.prog 34 #[x0, x1] w R := by
  obtain ⟨c, h1, h2⟩ := code34
  exact hb34.fn (ret_of_vc mixed Try.func34 h1 (Nat.le_of_ble_eq_true rfl) B34 h2 h)
@[push_cast] theorem vr34_0 (Q : Post) (ds : List Deferred) (σ : Env) (w : World) : vc Try.prog (.region r34_0) Q ds σ w = vcOps Try.prog [⟨some 4, (Op.assign (Operand.const (Value.int IntKind.i64 0))), 3, none⟩] (Q .normal ds) σ w := mk_eq rfl
@[push_cast] theorem vr34_1 (Q : Post) (ds : List Deferred) (σ : Env) (w : World) : vc Try.prog (.region r34_1) Q ds σ w = vcOps Try.prog [⟨some 7, (Op.move (Operand.tmp 0)), 22, none⟩, ⟨some 8, (Op.move (Operand.tmp 1)), 3, none⟩, ⟨some 9, (Op.call { callee := (Callee.value (Operand.func 67)), args := #[(Operand.tmp 7), (Operand.tmp 8)], argTypes := #[22, 3] }), 3, none⟩, ⟨some 5, (Op.assign (Operand.tmp 9)), 3, none⟩] (Q .normal ds) σ w := mk_eq rfl
@[push_cast] theorem vr34_2 (Q : Post) (ds : List Deferred) (σ : Env) (w : World) : vc Try.prog (.region r34_2) Q ds σ w = vcOps Try.prog [⟨some 10, (Op.move (Operand.tmp 0)), 22, none⟩, ⟨some 11, (Op.move (Operand.tmp 5)), 3, none⟩, ⟨some 12, (Op.slice 22 (Operand.tmp 10) none (some (Operand.tmp 11)) none), 22, none⟩, ⟨some 13, (Op.call { callee := (Callee.value (Operand.func 32)), args := #[(Operand.tmp 12)], argTypes := #[22] }), 3, none⟩, ⟨some 6, (Op.assign (Operand.tmp 13)), 3, none⟩] (Q .normal ds) σ w := mk_eq rfl
@[push_cast] theorem vr34_3 (Q : Post) (ds : List Deferred) (σ : Env) (w : World) : vc Try.prog (.region r34_3) Q ds σ w = vcOps Try.prog [⟨some 14, (Op.move (Operand.tmp 5)), 3, none⟩, ⟨some 15, (Op.move (Operand.tmp 0)), 22, none⟩, ⟨some 16, (Op.call { callee := (Callee.builtin Builtin.len), args := #[(Operand.tmp 15)], argTypes := #[22] }), 3, none⟩, ⟨some 17, (Op.binOp BinOp.lss 3 (Operand.tmp 14) (Operand.tmp 16) 3), 4, none⟩, ⟨some 18, (Op.move (Operand.tmp 17)), 4, none⟩, ⟨some 19, (Op.move (Operand.tmp 0)), 22, some (18, true)⟩, ⟨some 20, (Op.move (Operand.tmp 5)), 3, some (18, true)⟩, ⟨some 21, (Op.indexAddr 22 (Operand.tmp 19) (Operand.tmp 20)), 0, some (18, true)⟩, ⟨some 22, (Op.fieldAddr 63 (Operand.tmp 21) 0), 0, some (18, true)⟩, ⟨some 23, (Op.load 3 (Operand.tmp 22)), 3, some (18, true)⟩, ⟨some 24, (Op.move (Operand.tmp 1)), 3, some (18, true)⟩, ⟨some 25, (Op.binOp BinOp.lss 3 (Operand.tmp 23) (Operand.tmp 24) 3), 4, some (18, true)⟩, ⟨some 26, (Op.pick (Operand.tmp 18) (Operand.tmp 25) (Operand.const (Value.bool false))), 4, none⟩] (Q .normal ds) σ w := mk_eq rfl
@[push_cast] theorem vr34_4 (Q : Post) (ds : List Deferred) (σ : Env) (w : World) : vc Try.prog (.region r34_4) Q ds σ w = vcOps Try.prog [⟨some 27, (Op.move (Operand.tmp 6)), 3, none⟩, ⟨some 28, (Op.move (Operand.tmp 1)), 3, none⟩, ⟨some 29, (Op.move (Operand.tmp 0)), 22, none⟩, ⟨some 30, (Op.move (Operand.tmp 5)), 3, none⟩, ⟨some 31, (Op.indexAddr 22 (Operand.tmp 29) (Operand.tmp 30)), 0, none⟩, ⟨some 32, (Op.fieldAddr 63 (Operand.tmp 31) 0), 0, none⟩, ⟨some 33, (Op.load 3 (Operand.tmp 32)), 3, none⟩, ⟨some 34, (Op.binOp BinOp.sub 3 (Operand.tmp 28) (Operand.tmp 33) 3), 3, none⟩, ⟨some 35, (Op.binOp BinOp.add 3 (Operand.tmp 27) (Operand.tmp 34) 3), 3, none⟩, ⟨some 6, (Op.assign (Operand.tmp 35)), 3, none⟩] (Q .normal ds) σ w := mk_eq rfl
@[push_cast] theorem vr34_5 (Q : Post) (ds : List Deferred) (σ : Env) (w : World) : vc Try.prog (.region r34_5) Q ds σ w = vcOps Try.prog [⟨some 36, (Op.move (Operand.tmp 6)), 3, none⟩, ⟨some 4, (Op.assign (Operand.tmp 36)), 3, none⟩] (Q .normal ds) σ w := mk_eq rfl
/-! 35 columbary/runs.And (params #[22, 22], results #[(ResultVar.tmp 4)], 8 slots) -/
def r35_0 : List VOp :=
  [⟨some 4, (Op.assign (Operand.const (Value.slice none 0 0))), 22, none⟩]
def r35_1 : List VOp :=
  [⟨some 5, (Op.move (Operand.tmp 0)), 22, none⟩,
   ⟨some 6, (Op.move (Operand.tmp 1)), 22, none⟩,
   ⟨some 7, (Op.call { callee := (Callee.value (Operand.func 68)), args := #[(Operand.tmp 5), (Operand.tmp 6), (Operand.func 69)], argTypes := #[22, 22, 81] }), 22, none⟩,
   ⟨some 4, (Op.assign (Operand.tmp 7)), 22, none⟩]
def B35 : VC :=
  (.seq (.region r35_0) (.seq (.region r35_1) .ret))
theorem code35 : ∃ c, Try.f35.body = some c ∧ abs Try.f35.ntmps c = B35 := ⟨_, rfl, by kernel_rfl⟩
theorem hb35 : HasBody Try.prog 35 := hasBody_of Try.func35 (by kernel_rfl)
theorem res35 : Try.f35.results = #[(ResultVar.tmp 4)] := rfl
theorem enter35 {w : World} {R : Value → World → Prop} (x0 x1 : Value) (h : vc Try.prog B35 (retK Try.prog #[(ResultVar.tmp 4)] R) [] (initEnv [x0, x1] 0) w) : FnC Try.prog 35 #[x0, x1] w R := by
  obtain ⟨c, h1, h2⟩ := code35
  exact hb35.fn (ret_of_vc mixed Try.func35 h1 (Nat.le_of_ble_eq_true rfl) B35 h2 h)
@[push_cast] theorem vr35_0 (Q : Post) (ds : List Deferred) (σ : Env) (w : World) : vc Try.prog (.region r35_0) Q ds σ w = vcOps Try.prog [⟨some 4, (Op.assign (Operand.const (Value.slice none 0 0))), 22, none⟩] (Q .normal ds) σ w := mk_eq rfl
@[push_cast] theorem vr35_1 (Q : Post) (ds : List Deferred) (σ : Env) (w : World) : vc Try.prog (.region r35_1) Q ds σ w = vcOps Try.prog [⟨some 5, (Op.move (Operand.tmp 0)), 22, none⟩, ⟨some 6, (Op.move (Operand.tmp 1)), 22, none⟩, ⟨some 7, (Op.call { callee := (Callee.value (Operand.func 68)), args := #[(Operand.tmp 5), (Operand.tmp 6), (Operand.func 69)], argTypes := #[22, 22, 81] }), 22, none⟩, ⟨some 4, (Op.assign (Operand.tmp 7)), 22, none⟩] (Q .normal ds) σ w := mk_eq rfl
/-! 36 columbary/runs.Upto (params #[3], results #[(ResultVar.tmp 2)], 9 slots) -/
def r36_0 : List VOp :=
  [⟨some 2, (Op.assign (Operand.const (Value.slice none 0 0))), 22, none⟩]
def r36_1 : List VOp :=
  [⟨some 3, (Op.move (Operand.tmp 0)), 3, none⟩,
   ⟨some 4, (Op.binOp BinOp.leq 3 (Operand.tmp 3) (Operand.const (Value.int IntKind.i64 0)) 3), 4, none⟩]
def r36_2 : List VOp :=
  [⟨some 2, (Op.assign (Operand.const (Value.slice none 0 0))), 22, none⟩]
def r36_3 : List VOp :=
  [⟨some 5, (Op.move (Operand.tmp 0)), 3, none⟩,
   ⟨some 6, (Op.call { callee := (Callee.builtin Builtin.min), args := #[(Operand.tmp 5), (Operand.const (Value.int IntKind.i64 65536))], argTypes := #[3, 3] }), 3, none⟩,
   ⟨some 7, (Op.build 63 #[(0, (Operand.const (Value.int IntKind.i64 0))), (1, (Operand.tmp 6))]), 63, none⟩,
   ⟨some 8, (Op.buildSlice 22 1 #[(0, (Operand.tmp 7))]), 22, none⟩,
   ⟨some 2, (Op.assign (Operand.tmp 8)), 22, none⟩]
def B36 : VC :=
  (.seq (.region r36_0) (.seq (.seq (.region r36_1) (.cond (Operand.tmp 4) (.seq (.region r36_2) .ret) .skip)) (.seq (.region r36_3) .ret)))
theorem code36 : ∃ c, Try.f36.body = some c ∧ abs Try.f36.ntmps c = B36 := ⟨_, rfl, by kernel_rfl⟩
theorem hb36 : HasBody Try.prog 36 := hasBody_of Try.func36 (by kernel_rfl)
theorem res36 : Try.f36.results = #[(ResultVar.tmp 2)] := rfl
theorem enter36 {w : World} {R : Value → World → Prop} (x0 : Value) (h : vc Try.prog B36 (retK Try.prog #[(ResultVar.tmp 2)] R) [] (initEnv [x0] 0) w) : FnC Try.prog 36 #[x0] w R := by
  obtain ⟨c, h1, h2⟩ := code36
  exact hb36.fn (ret_of_vc mixed Try.func36 h1 (Nat.le_of_ble_eq_true rfl) B36 h2 h)
@[push_cast] theorem vr36_0 (Q : Post) (ds : List Deferred) (σ : Env) (w : World) : vc Try.prog (.region r36_0) Q ds σ w = vcOps Try.prog [⟨some 2, (Op.assign (Operand.const (Value.slice none 0 0))), 22, none⟩] (Q .normal ds) σ w := mk_eq rfl
@[push_cast] theorem vr36_1 (Q : Post) (ds : List Deferred) (σ : Env) (w : World) : vc Try.prog (.region r36_1) Q ds σ w = vcOps Try.prog [⟨some 3, (Op.move (Operand.tmp 0)), 3, none⟩, ⟨some 4, (Op.binOp BinOp.leq 3 (Operand.tmp 3) (Operand.const (Value.int IntKind.i64 0)) 3), 4, none⟩] (Q .normal ds) σ w := mk_eq rfl
@[push_cast] theorem vr36_2 (Q : Post) (ds : List Deferred) (σ : Env) (w : World) : vc Try.prog (.region r36_2) Q ds σ w = vcOps Try.prog [⟨some 2, (Op.assign (Operand.const (Value.slice none 0 0))), 22, none⟩] (Q .normal ds) σ w := mk_eq rfl
@[push_cast] theorem vr36_3 (Q : Post) (ds : List Deferred) (σ : Env) (w : World) : vc Try.prog (.region r36_3) Q ds σ w = vcOps Try.prog [⟨some 5, (Op.move (Operand.tmp 0)), 3, none⟩, ⟨some 6, (Op.call { callee := (Callee.builtin Builtin.min), args := #[(Operand.tmp 5), (Operand.const (Value.int IntKind.i64 65536))], argTypes := #[3, 3] }), 3, none⟩, ⟨some 7, (Op.build 63 #[(0, (Operand.const (Value.int IntKind.i64 0))), (1, (Operand.tmp 6))]), 63, none⟩, ⟨some 8, (Op.buildSlice 22 1 #[(0, (Operand.tmp 7))]), 22, none⟩, ⟨some 2, (Op.assign (Operand.tmp 8)), 22, none⟩] (Q .normal ds) σ w := mk_eq rfl
/-! 37 columbary/columbaryref04.And (params #[22, 22], results #[(ResultVar.tmp 4)], 33 slots) -/
def W37_0 : List Nat := [5, 7, 8, 11, 12, 13, 14, 15, 16, 17, 18, 19, 20, 21, 22, 23, 24, 25, 26, 27, 28, 29, 30]
@[push_cast] theorem W37_0_def : W37_0 = [5, 7, 8, 11, 12, 13, 14, 15, 16, 17, 18, 19, 20, 21, 22, 23, 24, 25, 26, 27, 28, 29, 30] := mk_eq rfl
def r37_0 : List VOp :=
  [⟨some 4, (Op.assign (Operand.const (Value.slice none 0 0))), 22, none⟩]
def r37_1 : List VOp :=
  [⟨some 5, (Op.assign (Operand.const (Value.slice none 0 0))), 49, none⟩]
def r37_2 : List VOp :=
  [⟨some 9, (Op.move (Operand.tmp 0)), 22, none⟩,
   ⟨some 10, (Op.call { callee := (Callee.value (Operand.func 49)), args := #[(Operand.tmp 9)], argTypes := #[22] }), 49, none⟩,
   ⟨some 6, (Op.assign (Operand.tmp 10)), 49, none⟩]
def r37_3 : List VOp :=
  [⟨some 7, (Op.assign (Operand.const (Value.int IntKind.i64 0))), 3, none⟩]
def r37_4 : List VOp :=
  [⟨some 11, (Op.move (Operand.tmp 7)), 3, none⟩,
   ⟨some 12, (Op.move (Operand.tmp 6)), 49, none⟩,
   ⟨some 13, (Op.call { callee := (Callee.builtin Builtin.len), args := #[(Operand.tmp 12)], argTypes := #[49] }), 3, none⟩,
   ⟨some 14, (Op.binOp BinOp.lss 3 (Operand.tmp 11) (Operand.tmp 13) 3), 4, none⟩]
def r37_6 : List VOp :=
  [⟨some 17, (Op.move (Operand.tmp 1)), 22, none⟩,
   ⟨some 18, (Op.move (Operand.tmp 6)), 49, none⟩,
   ⟨some 19, (Op.move (Operand.tmp 7)), 3, none⟩,
   ⟨some 20, (Op.indexAddr 49 (Operand.tmp 18) (Operand.tmp 19)), 0, none⟩,
   ⟨some 21, (Op.load 3 (Operand.tmp 20)), 3, none⟩,
   ⟨some 22, (Op.call { callee := (Callee.value (Operand.func 21)), args := #[(Operand.tmp 17), (Operand.tmp 21)], argTypes := #[22, 3] }), 4, none⟩,
   ⟨some 8, (Op.assign (Operand.tmp 22)), 4, none⟩]
def r37_7 : List VOp :=
  [⟨some 23, (Op.move (Operand.tmp 8)), 4, none⟩]
def r37_8 : List VOp :=
  [⟨some 24, (Op.move (Operand.tmp 5)), 49, none⟩,
   ⟨some 25, (Op.move (Operand.tmp 6)), 49, none⟩,
   ⟨some 26, (Op.move (Operand.tmp 7)), 3, none⟩,
   ⟨some 27, (Op.indexAddr 49 (Operand.tmp 25) (Operand.tmp 26)), 0, none⟩,
   ⟨some 28, (Op.load 3 (Operand.tmp 27)), 3, none⟩,
   ⟨some 29, (Op.buildSlice 49 1 #[(0, (Operand.tmp 28))]), 49, none⟩,
   ⟨some 30, (Op.call { callee := (Callee.builtin Builtin.append), args := #[(Operand.tmp 24), (Operand.tmp 29)], argTypes := #[49, 49] }), 49, none⟩,
   ⟨some 5, (Op.assign (Operand.tmp 30)), 49, none⟩]
def r37_5 : List VOp :=
  [⟨some 15, (Op.move (Operand.tmp 7)), 3, none⟩,
   ⟨some 16, (Op.binOp BinOp.add 3 (Operand.tmp 15) (Operand.const (Value.int IntKind.i64 1)) 3), 3, none⟩,
   ⟨some 7, (Op.assign (Operand.tmp 16)), 3, none⟩]
def r37_9 : List VOp :=
  [⟨some 31, (Op.move (Operand.tmp 5)), 49, none⟩,
   ⟨some 32, (Op.call { callee := (Callee.value (Operand.func 70)), args := #[(Operand.tmp 31)], argTypes := #[49] }), 22, none⟩,
   ⟨some 4, (Op.assign (Operand.tmp 32)), 22, none⟩]
def B37 : VC :=
  (.seq (.region r37_0) (.seq (.region r37_1) (.seq (.region r37_2) (.seq (.seq (.region r37_3) (.block 0 (.loop (.seq (.seq (.region r37_4) (.cond (Operand.tmp 14) .skip (.exit 0))) (.seq (.block 1 (.seq (.region r37_6) (.seq (.region r37_7) (.cond (Operand.tmp 23) (.region r37_8) .skip)))) (.region r37_5)))))) (.seq (.region r37_9) .ret)))))
theorem code37 : ∃ c, Try.f37.body = some c ∧ abs Try.f37.ntmps c = B37 := ⟨_, rfl, by kernel_rfl⟩
theorem hb37 : HasBody Try.prog 37 := hasBody_of Try.func37 (by kernel_rfl)
theorem res37 : Try.f37.results = #[(ResultVar.tmp 4)] := rfl
theorem enter37 {w : World} {R : Value → World → Prop} (x0 x1 : Value) (h : vc Try.prog B37 (retK Try.prog #[(ResultVar.tmp 4)] R) [] (initEnv [x0, x1] 0) w) : FnC Try.prog 37 #[x0, x1] w R := by
  obtain ⟨c, h1, h2⟩ := code37
  exact hb37.fn (ret_of_vc mixed Try.func37 h1 (Nat.le_of_ble_eq_true rfl) B37 h2 h)
@[push_cast] theorem vr37_0 (Q : Post) (ds : List Deferred) (σ : Env) (w : World) : vc Try.prog (.region r37_0) Q ds σ w = vcOps Try.prog [⟨some 4, (Op.assign (Operand.const (Value.slice none 0 0))), 22, none⟩] (Q .normal ds) σ w := mk_eq rfl
@[push_cast] theorem vr37_1 (Q : Post) (ds : List Deferred) (σ : Env) (w : World) : vc Try.prog (.region r37_1) Q ds σ w = vcOps Try.prog [⟨some 5, (Op.assign (Operand.const (Value.slice none 0 0))), 49, none⟩] (Q .normal ds) σ w := mk_eq rfl
@[push_cast] theorem vr37_2 (Q : Post) (ds : List Deferred) (σ : Env) (w : World) : vc Try.prog (.region r37_2) Q ds σ w = vcOps Try.prog [⟨some 9, (Op.move (Operand.tmp 0)), 22, none⟩, ⟨some 10, (Op.call { callee := (Callee.value (Operand.func 49)), args := #[(Operand.tmp 9)], argTypes := #[22] }), 49, none⟩, ⟨some 6, (Op.assign (Operand.tmp 10)), 49, none⟩] (Q .normal ds) σ w := mk_eq rfl
@[push_cast] theorem vr37_3 (Q : Post) (ds : List Deferred) (σ : Env) (w : World) : vc Try.prog (.region r37_3) Q ds σ w = vcOps Try.prog [⟨some 7, (Op.assign (Operand.const (Value.int IntKind.i64 0))), 3, none⟩] (Q .normal ds) σ w := mk_eq rfl
@[push_cast] theorem vr37_4 (Q : Post) (ds : List Deferred) (σ : Env) (w : World) : vc Try.prog (.region r37_4) Q ds σ w = vcOps Try.prog [⟨some 11, (Op.move (Operand.tmp 7)), 3, none⟩, ⟨some 12, (Op.move (Operand.tmp 6)), 49, none⟩, ⟨some 13, (Op.call { callee := (Callee.builtin Builtin.len), args := #[(Operand.tmp 12)], argTypes := #[49] }), 3, none⟩, ⟨some 14, (Op.binOp BinOp.lss 3 (Operand.tmp 11) (Operand.tmp 13) 3), 4, none⟩] (Q .normal ds) σ w := mk_eq rfl
@[push_cast] theorem vr37_6 (Q : Post) (ds : List Deferred) (σ : Env) (w : World) : vc Try.prog (.region r37_6) Q ds σ w = vcOps Try.prog [⟨some 17, (Op.move (Operand.tmp 1)), 22, none⟩, ⟨some 18, (Op.move (Operand.tmp 6)), 49, none⟩, ⟨some 19, (Op.move (Operand.tmp 7)), 3, none⟩, ⟨some 20, (Op.indexAddr 49 (Operand.tmp 18) (Operand.tmp 19)), 0, none⟩, ⟨some 21, (Op.load 3 (Operand.tmp 20)), 3, none⟩, ⟨some 22, (Op.call { callee := (Callee.value (Operand.func 21)), args := #[(Operand.tmp 17), (Operand.tmp 21)], argTypes := #[22, 3] }), 4, none⟩, ⟨some 8, (Op.assign (Operand.tmp 22)), 4, none⟩] (Q .normal ds) σ w := mk_eq rfl
@[push_cast] theorem vr37_7 (Q : Post) (ds : List Deferred) (σ : Env) (w : World) : vc Try.prog (.region r37_7) Q ds σ w = vcOps Try.prog [⟨some 23, (Op.move (Operand.tmp 8)), 4, none⟩] (Q .normal ds) σ w := mk_eq rfl
@[push_cast] theorem vr37_8 (Q : Post) (ds : List Deferred) (σ : Env) (w : World) : vc Try.prog (.region r37_8) Q ds σ w = vcOps Try.prog [⟨some 24, (Op.move (Operand.tmp 5)), 49, none⟩, ⟨some 25, (Op.move (Operand.tmp 6)), 49, none⟩, ⟨some 26, (Op.move (Operand.tmp 7)), 3, none⟩, ⟨some 27, (Op.indexAddr 49 (Operand.tmp 25) (Operand.tmp 26)), 0, none⟩, ⟨some 28, (Op.load 3 (Operand.tmp 27)), 3, none⟩, ⟨some 29, (Op.buildSlice 49 1 #[(0, (Operand.tmp 28))]), 49, none⟩, ⟨some 30, (Op.call { callee := (Callee.builtin Builtin.append), args := #[(Operand.tmp 24), (Operand.tmp 29)], argTypes := #[49, 49] }), 49, none⟩, ⟨some 5, (Op.assign (Operand.tmp 30)), 49, none⟩] (Q .normal ds) σ w := mk_eq rfl
@[push_cast] theorem vr37_5 (Q : Post) (ds : List Deferred) (σ : Env) (w : World) : vc Try.prog (.region r37_5) Q ds σ w = vcOps Try.prog [⟨some 15, (Op.move (Operand.tmp 7)), 3, none⟩, ⟨some 16, (Op.binOp BinOp.add 3 (Operand.tmp 15) (Operand.const (Value.int IntKind.i64 1)) 3), 3, none⟩, ⟨some 7, (Op.assign (Operand.tmp 16)), 3, none⟩] (Q .normal ds) σ w := mk_eq rfl
@[push_cast] theorem vr37_9 (Q : Post) (ds : List Deferred) (σ : Env) (w : World) : vc Try.prog (.region r37_9) Q ds σ w = vcOps Try.prog [⟨some 31, (Op.move (Operand.tmp 5)), 49, none⟩, ⟨some 32, (Op.call { callee := (Callee.value (Operand.func 70)), args := #[(Operand.tmp 31)], argTypes := #[49] }), 22, none⟩, ⟨some 4, (Op.assign (Operand.tmp 32)), 22, none⟩] (Q .normal ds) σ w := mk_eq rfl
/-! 38 columbary/runs.Or (params #[22, 22], results #[(ResultVar.tmp 4)], 8 slots) -/
def r38_0 : List VOp :=
  [⟨some 4, (Op.assign (Operand.const (Value.slice none 0 0))), 22, none⟩]
def r38_1 : List VOp :=
  [⟨some 5, (Op.move (Operand.tmp 0)), 22, none⟩,
   ⟨some 6, (Op.move (Operand.tmp 1)), 22, none⟩,
   ⟨some 7, (Op.call { callee := (Callee.value (Operand.func 68)), args := #[(Operand.tmp 5), (Operand.tmp 6), (Operand.func 71)], argTypes := #[22, 22, 81] }), 22, none⟩,
   ⟨some 4, (Op.assign (Operand.tmp 7)), 22, none⟩]
def B38 : VC :=
  (.seq (.region r38_0) (.seq (.region r38_1) .ret))
theorem code38 : ∃ c, Try.f38.body = some c ∧ abs Try.f38.ntmps c = B38 := ⟨_, rfl, by kernel_rfl⟩
theorem hb38 : HasBody Try.prog 38 := hasBody_of Try.func38 (by kernel_rfl)
theorem res38 : Try.f38.results = #[(ResultVar.tmp 4)] := rfl
theorem enter38 {w : World} {R : Value → World → Prop} (x0 x1 : Value) (h : vc Try.prog B38 (retK Try.prog #[(ResultVar.tmp 4)] R) [] (initEnv [x0, x1] 0) w) : FnC Try.prog 38 #[x0, x1] w R := by
  obtain ⟨c, h1, h2⟩ := code38
  exact hb38.fn (ret_of_vc mixed Try.func38 h1 (Nat.le_of_ble_eq_true rfl) B38 h2 h)
@[push_cast] theorem vr38_0 (Q : Post) (ds : List Deferred) (σ : Env) (w : World) : vc Try.prog (.region r38_0) Q ds σ w = vcOps Try.prog [⟨some 4, (Op.assign (Operand.const (Value.slice none 0 0))), 22, none⟩] (Q .normal ds) σ w := mk_eq rfl
@[push_cast] theorem vr38_1 (Q : Post) (ds : List Deferred) (σ : Env) (w : World) : vc Try.prog (.region r38_1) Q ds σ w = vcOps Try.prog [⟨some 5, (Op.move (Operand.tmp 0)), 22, none⟩, ⟨some 6, (Op.move (Operand.tmp 1)), 22, none⟩, ⟨some 7, (Op.call { callee := (Callee.value (Operand.func 68)), args := #[(Operand.tmp 5), (Operand.tmp 6), (Operand.func 71)], argTypes := #[22, 22, 81] }), 22, none⟩, ⟨some 4, (Op.assign (Operand.tmp 7)), 22, none⟩] (Q .normal ds) σ w := mk_eq rfl
/-! 39 columbary/columbaryref04.Or (params #[22, 22], results #[(ResultVar.tmp 4)], 82 slots) -/
def W39_0 : List Nat := [7, 8, 9, 14, 15, 16, 17, 18, 19, 20, 21, 22, 23, 24, 25, 26, 27, 28, 29, 30, 31, 32, 33, 34, 35, 36, 37, 38, 39, 40, 41, 42, 43, 44, 45, 46, 47, 48, 49, 50, 51, 52, 53, 54, 55, 56, 57, 58, 59, 60, 61, 62, 63, 64, 65, 66, 67, 68, 69, 70, 71, 72, 73, 74, 75, 76, 77, 78, 79]
@[push_cast] theorem W39_0_def : W39_0 = [7, 8, 9, 14, 15, 16, 17, 18, 19, 20, 21, 22, 23, 24, 25, 26, 27, 28, 29, 30, 31, 32, 33, 34, 35, 36, 37, 38, 39, 40, 41, 42, 43, 44, 45, 46, 47, 48, 49, 50, 51, 52, 53, 54, 55, 56, 57, 58, 59, 60, 61, 62, 63, 64, 65, 66, 67, 68, 69, 70, 71, 72, 73, 74, 75, 76, 77, 78, 79] := mk_eq rfl
def r39_0 : List VOp :=
  [⟨some 4, (Op.assign (Operand.const (Value.slice none 0 0))), 22, none⟩]
def r39_1 : List VOp :=
  [⟨some 10, (Op.move (Operand.tmp 0)), 22, none⟩,
   ⟨some 11, (Op.call { callee := (Callee.value (Operand.func 49)), args := #[(Operand.tmp 10)], argTypes := #[22] }), 49, none⟩,
   ⟨some 5, (Op.assign (Operand.tmp 11)), 49, none⟩]
def r39_2 : List VOp :=
  [⟨some 12, (Op.move (Operand.tmp 1)), 22, none⟩,
   ⟨some 13, (Op.call { callee := (Callee.value (Operand.func 49)), args := #[(Operand.tmp 12)], argTypes := #[22] }), 49, none⟩,
   ⟨some 6, (Op.assign (Operand.tmp 13)), 49, none⟩]
def r39_3 : List VOp :=
  [⟨some 7, (Op.assign (Operand.const (Value.slice none 0 0))), 49, none⟩]
def r39_4 : List VOp :=
  [⟨some 8, (Op.assign (Operand.const (Value.int IntKind.i64 0))), 3, none⟩]
def r39_5 : List VOp :=
  [⟨some 9, (Op.assign (Operand.const (Value.int IntKind.i64 0))), 3, none⟩]
def r39_6 : List VOp :=
  [⟨some 14, (Op.move (Operand.tmp 8)), 3, none⟩,
   ⟨some 15, (Op.move (Operand.tmp 5)), 49, none⟩,
   ⟨some 16, (Op.call { callee := (Callee.builtin Builtin.len), args := #[(Operand.tmp 15)], argTypes := #[49] }), 3, none⟩,
   ⟨some 17, (Op.binOp BinOp.lss 3 (Operand.tmp 14) (Operand.tmp 16) 3), 4, none⟩,
   ⟨some 18, (Op.move (Operand.tmp 17)), 4, none⟩,
   ⟨some 19, (Op.move (Operand.tmp 9)), 3, some (18, false)⟩,
   ⟨some 20, (Op.move (Operand.tmp 6)), 49, some (18, false)⟩,
   ⟨some 21, (Op.call { callee := (Callee.builtin Builtin.len), args := #[(Operand.tmp 20)], argTypes := #[49] }), 3, some (18, false)⟩,
   ⟨some 22, (Op.binOp BinOp.lss 3 (Operand.tmp 19) (Operand.tmp 21) 3), 4, some (18, false)⟩,
   ⟨some 23, (Op.pick (Operand.tmp 18) (Operand.const (Value.bool true)) (Operand.tmp 22)), 4, none⟩]
def r39_7 : List VOp :=
  [⟨some 24, (Op.move (Operand.tmp 9)), 3, none⟩,
   ⟨some 25, (Op.move (Operand.tmp 6)), 49, none⟩,
   ⟨some 26, (Op.call { callee := (Callee.builtin Builtin.len), args := #[(Operand.tmp 25)], argTypes := #[49] }), 3, none⟩,
   ⟨some 27, (Op.binOp BinOp.eql 3 (Operand.tmp 24) (Operand.tmp 26) 3), 4, none⟩,
   ⟨some 28, (Op.move (Operand.tmp 27)), 4, none⟩,
   ⟨some 29, (Op.move (Operand.tmp 8)), 3, some (28, false)⟩,
   ⟨some 30, (Op.move (Operand.tmp 5)), 49, some (28, false)⟩,
   ⟨some 31, (Op.call { callee := (Callee.builtin Builtin.len), args := #[(Operand.tmp 30)], argTypes := #[49] }), 3, some (28, false)⟩,
   ⟨some 32, (Op.binOp BinOp.lss 3 (Operand.tmp 29) (Operand.tmp 31) 3), 4, some (28, false)⟩,
   ⟨some 33, (Op.move (Operand.tmp 32)), 4, some (28, false)⟩,
   ⟨some 34, (Op.move (Operand.tmp 5)), 49, some (33, true)⟩,
   ⟨some 35, (Op.move (Operand.tmp 8)), 3, some (33, true)⟩,
   ⟨some 36, (Op.indexAddr 49 (Operand.tmp 34) (Operand.tmp 35)), 0, some (33, true)⟩,
   ⟨some 37, (Op.load 3 (Operand.tmp 36)), 3, some (33, true)⟩,
   ⟨some 38, (Op.move (Operand.tmp 6)), 49, some (33, true)⟩,
   ⟨some 39, (Op.move (Operand.tmp 9)), 3, some (33, true)⟩,
   ⟨some 40, (Op.indexAddr 49 (Operand.tmp 38) (Operand.tmp 39)), 0, some (33, true)⟩,
   ⟨some 41, (Op.load 3 (Operand.tmp 40)), 3, some (33, true)⟩,
   ⟨some 42, (Op.binOp BinOp.leq 3 (Operand.tmp 37) (Operand.tmp 41) 3), 4, some (33, true)⟩,
   ⟨some 43, (Op.pick (Operand.tmp 33) (Operand.tmp 42) (Operand.const (Value.bool false))), 4, some (28, false)⟩,
   ⟨some 44, (Op.pick (Operand.tmp 28) (Operand.const (Value.bool true)) (Operand.tmp 43)), 4, none⟩]
def r39_8 : List VOp :=
  [⟨some 45, (Op.move (Operand.tmp 9)), 3, none⟩,
   ⟨some 46, (Op.move (Operand.tmp 6)), 49, none⟩,
   ⟨some 47, (Op.call { callee := (Callee.builtin Builtin.len), args := #[(Operand.tmp 46)], argTypes := #[49] }), 3, none⟩,
   ⟨some 48, (Op.binOp BinOp.lss 3 (Operand.tmp 45) (Operand.tmp 47) 3), 4, none⟩,
   ⟨some 49, (Op.move (Operand.tmp 48)), 4, none⟩,
   ⟨some 50, (Op.move (Operand.tmp 5)), 49, some (49, true)⟩,
   ⟨some 51, (Op.move (Operand.tmp 8)), 3, some (49, true)⟩,
   ⟨some 52, (Op.indexAddr 49 (Operand.tmp 50) (Operand.tmp 51)), 0, some (49, true)⟩,
   ⟨some 53, (Op.load 3 (Operand.tmp 52)), 3, some (49, true)⟩,
   ⟨some 54, (Op.move (Operand.tmp 6)), 49, some (49, true)⟩,
   ⟨some 55, (Op.move (Operand.tmp 9)), 3, some (49, true)⟩,
   ⟨some 56, (Op.indexAddr 49 (Operand.tmp 54) (Operand.tmp 55)), 0, some (49, true)⟩,
   ⟨some 57, (Op.load 3 (Operand.tmp 56)), 3, some (49, true)⟩,
   ⟨some 58, (Op.binOp BinOp.eql 3 (Operand.tmp 53) (Operand.tmp 57) 3), 4, some (49, true)⟩,
   ⟨some 59, (Op.pick (Operand.tmp 49) (Operand.tmp 58) (Operand.const (Value.bool false))), 4, none⟩]
def r39_9 : List VOp :=
  [⟨some 60, (Op.move (Operand.tmp 9)), 3, none⟩,
   ⟨some 61, (Op.binOp BinOp.add 3 (Operand.tmp 60) (Operand.const (Value.int IntKind.i64 1)) 3), 3, none⟩,
   ⟨some 9, (Op.assign (Operand.tmp 61)), 3, none⟩]
def r39_10 : List VOp :=
  [⟨some 62, (Op.move (Operand.tmp 7)), 49, none⟩,
   ⟨some 63, (Op.move (Operand.tmp 5)), 49, none⟩,
   ⟨some 64, (Op.move (Operand.tmp 8)), 3, none⟩,
   ⟨some 65, (Op.indexAddr 49 (Operand.tmp 63) (Operand.tmp 64)), 0, none⟩,
   ⟨some 66, (Op.load 3 (Operand.tmp 65)), 3, none⟩,
   ⟨some 67, (Op.buildSlice 49 1 #[(0, (Operand.tmp 66))]), 49, none⟩,
   ⟨some 68, (Op.call { callee := (Callee.builtin Builtin.append), args := #[(Operand.tmp 62), (Operand.tmp 67)], argTypes := #[49, 49] }), 49, none⟩,
   ⟨some 7, (Op.assign (Operand.tmp 68)), 49, none⟩]
def r39_11 : List VOp :=
  [⟨some 69, (Op.move (Operand.tmp 8)), 3, none⟩,
   ⟨some 70, (Op.binOp BinOp.add 3 (Operand.tmp 69) (Operand.const (Value.int IntKind.i64 1)) 3), 3, none⟩,
   ⟨some 8, (Op.assign (Operand.tmp 70)), 3, none⟩]
def r39_12 : List VOp :=
  [⟨some 71, (Op.move (Operand.tmp 7)), 49, none⟩,
   ⟨some 72, (Op.move (Operand.tmp 6)), 49, none⟩,
   ⟨some 73, (Op.move (Operand.tmp 9)), 3, none⟩,
   ⟨some 74, (Op.indexAddr 49 (Operand.tmp 72) (Operand.tmp 73)), 0, none⟩,
   ⟨some 75, (Op.load 3 (Operand.tmp 74)), 3, none⟩,
   ⟨some 76, (Op.buildSlice 49 1 #[(0, (Operand.tmp 75))]), 49, none⟩,
   ⟨some 77, (Op.call { callee := (Callee.builtin Builtin.append), args := #[(Operand.tmp 71), (Operand.tmp 76)], argTypes := #[49, 49] }), 49, none⟩,
   ⟨some 7, (Op.assign (Operand.tmp 77)), 49, none⟩]
def r39_13 : List VOp :=
  [⟨some 78, (Op.move (Operand.tmp 9)), 3, none⟩,
   ⟨some 79, (Op.binOp BinOp.add 3 (Operand.tmp 78) (Operand.const (Value.int IntKind.i64 1)) 3), 3, none⟩,
   ⟨some 9, (Op.assign (Operand.tmp 79)), 3, none⟩]
def r39_14 : List VOp :=
  [⟨some 80, (Op.move (Operand.tmp 7)), 49, none⟩,
   ⟨some 81, (Op.call { callee := (Callee.value (Operand.func 70)), args := #[(Operand.tmp 80)], argTypes := #[49] }), 22, none⟩,
   ⟨some 4, (Op.assign (Operand.tmp 81)), 22, none⟩]
def B39 : VC :=
  (.seq (.region r39_0) (.seq (.region r39_1) (.seq (.region r39_2) (.seq (.region r39_3) (.seq (.region r39_4) (.seq (.region r39_5) (.seq (.block 0 (.loop (.seq (.seq (.region r39_6) (.cond (Operand.tmp 23) .skip (.exit 0))) (.block 1 (.seq (.draw r39_7 4) (.cond (Operand.tmp 44) (.seq (.seq (.draw r39_8 3) (.cond (Operand.tmp 59) (.region r39_9) .skip)) (.seq (.region r39_10) (.region r39_11))) (.seq (.region r39_12) (.region r39_13)))))))) (.seq (.region r39_14) .ret))))))))
theorem code39 : ∃ c, Try.f39.body = some c ∧ abs Try.f39.ntmps c = B39 := ⟨_, rfl, by kernel_rfl⟩
theorem hb39 : HasBody Try.prog 39 := hasBody_of Try.func39 (by kernel_rfl)
theorem res39 : Try.f39.results = #[(ResultVar.tmp 4)] := rfl
theorem enter39 {w : World} {R : Value → World → Prop} (x0 x1 : Value) (h : vc Try.prog B39 (retK Try.prog #[(ResultVar.tmp 4)] R) [] (initEnv [x0, x1] 0) w) : FnC Try.prog 39 #[x0, x1] w R := by
  obtain ⟨c, h1, h2⟩ := code39
  exact hb39.fn (ret_of_vc mixed Try.func39 h1 (Nat.le_of_ble_eq_true rfl) B39 h2 h)
@[push_cast] theorem vr39_0 (Q : Post) (ds : List Deferred) (σ : Env) (w : World) : vc Try.prog (.region r39_0) Q ds σ w = vcOps Try.prog [⟨some 4, (Op.assign (Operand.const (Value.slice none 0 0))), 22, none⟩] (Q .normal ds) σ w := mk_eq rfl
@[push_cast] theorem vr39_1 (Q : Post) (ds : List Deferred) (σ : Env) (w : World) : vc Try.prog (.region r39_1) Q ds σ w = vcOps Try.prog [⟨some 10, (Op.move (Operand.tmp 0)), 22, none⟩, ⟨some 11, (Op.call { callee := (Callee.value (Operand.func 49)), args := #[(Operand.tmp 10)], argTypes := #[22] }), 49, none⟩, ⟨some 5, (Op.assign (Operand.tmp 11)), 49, none⟩] (Q .normal ds) σ w := mk_eq rfl
@[push_cast] theorem vr39_2 (Q : Post) (ds : List Deferred) (σ : Env) (w : World) : vc Try.prog (.region r39_2) Q ds σ w = vcOps Try.prog [⟨some 12, (Op.move (Operand.tmp 1)), 22, none⟩, ⟨some 13, (Op.call { callee := (Callee.value (Operand.func 49)), args := #[(Operand.tmp 12)], argTypes := #[22] }), 49, none⟩, ⟨some 6, (Op.assign (Operand.tmp 13)), 49, none⟩] (Q .normal ds) σ w := mk_eq rfl
@[push_cast] theorem vr39_3 (Q : Post) (ds : List Deferred) (σ : Env) (w : World) : vc Try.prog (.region r39_3) Q ds σ w = vcOps Try.prog [⟨some 7, (Op.assign (Operand.const (Value.slice none 0 0))), 49, none⟩] (Q .normal ds) σ w := mk_eq rfl
@[push_cast] theorem vr39_4 (Q : Post) (ds : List Deferred) (σ : Env) (w : World) : vc Try.prog (.region r39_4) Q ds σ w = vcOps Try.prog [⟨some 8, (Op.assign (Operand.const (Value.int IntKind.i64 0))), 3, none⟩] (Q .normal ds) σ w := mk_eq rfl
@[push_cast] theorem vr39_5 (Q : Post) (ds : List Deferred) (σ : Env) (w : World) : vc Try.prog (.region r39_5) Q ds σ w = vcOps Try.prog [⟨some 9, (Op.assign (Operand.const (Value.int IntKind.i64 0))), 3, none⟩] (Q .normal ds) σ w := mk_eq rfl
@[push_cast] theorem vr39_6 (Q : Post) (ds : List Deferred) (σ : Env) (w : World) : vc Try.prog (.region r39_6) Q ds σ w = vcOps Try.prog [⟨some 14, (Op.move (Operand.tmp 8)), 3, none⟩, ⟨some 15, (Op.move (Operand.tmp 5)), 49, none⟩, ⟨some 16, (Op.call { callee := (Callee.builtin Builtin.len), args := #[(Operand.tmp 15)], argTypes := #[49] }), 3, none⟩, ⟨some 17, (Op.binOp BinOp.lss 3 (Operand.tmp 14) (Operand.tmp 16) 3), 4, none⟩, ⟨some 18, (Op.move (Operand.tmp 17)), 4, none⟩, ⟨some 19, (Op.move (Operand.tmp 9)), 3, some (18, false)⟩, ⟨some 20, (Op.move (Operand.tmp 6)), 49, some (18, false)⟩, ⟨some 21, (Op.call { callee := (Callee.builtin Builtin.len), args := #[(Operand.tmp 20)], argTypes := #[49] }), 3, some (18, false)⟩, ⟨some 22, (Op.binOp BinOp.lss 3 (Operand.tmp 19) (Operand.tmp 21) 3), 4, some (18, false)⟩, ⟨some 23, (Op.pick (Operand.tmp 18) (Operand.const (Value.bool true)) (Operand.tmp 22)), 4, none⟩] (Q .normal ds) σ w := mk_eq rfl
@[push_cast] theorem vr39_7 (Q : Post) (ds : List Deferred) (σ : Env) (w : World) : vc Try.prog (.draw r39_7 4) Q ds σ w = drawn Try.prog [(⟨some 24, (Op.move (Operand.tmp 9)), 3, none⟩, [9]), (⟨some 25, (Op.move (Operand.tmp 6)), 49, none⟩, [6]), (⟨some 26, (Op.call { callee := (Callee.builtin Builtin.len), args := #[(Operand.tmp 25)], argTypes := #[49] }), 3, none⟩, [25]), (⟨some 27, (Op.binOp BinOp.eql 3 (Operand.tmp 24) (Operand.tmp 26) 3), 4, none⟩, [24, 26]), (⟨some 28, (Op.move (Operand.tmp 27)), 4, none⟩, [27]), (⟨some 29, (Op.move (Operand.tmp 8)), 3, some (28, false)⟩, [8, 28]), (⟨some 30, (Op.move (Operand.tmp 5)), 49, some (28, false)⟩, [5, 28]), (⟨some 31, (Op.call { callee := (Callee.builtin Builtin.len), args := #[(Operand.tmp 30)], argTypes := #[49] }), 3, some (28, false)⟩, [30, 28]), (⟨some 32, (Op.binOp BinOp.lss 3 (Operand.tmp 29) (Operand.tmp 31) 3), 4, some (28, false)⟩, [29, 31, 28]), (⟨some 33, (Op.move (Operand.tmp 32)), 4, some (28, false)⟩, [32, 28]), (⟨some 34, (Op.move (Operand.tmp 5)), 49, some (33, true)⟩, [5, 33]), (⟨some 35, (Op.move (Operand.tmp 8)), 3, some (33, true)⟩, [8, 33]), (⟨some 36, (Op.indexAddr 49 (Operand.tmp 34) (Operand.tmp 35)), 0, some (33, true)⟩, [34, 35, 33]), (⟨some 37, (Op.load 3 (Operand.tmp 36)), 3, some (33, true)⟩, [36, 33]), (⟨some 38, (Op.move (Operand.tmp 6)), 49, some (33, true)⟩, [6, 33]), (⟨some 39, (Op.move (Operand.tmp 9)), 3, some (33, true)⟩, [9, 33]), (⟨some 40, (Op.indexAddr 49 (Operand.tmp 38) (Operand.tmp 39)), 0, some (33, true)⟩, [38, 39, 33]), (⟨some 41, (Op.load 3 (Operand.tmp 40)), 3, some (33, true)⟩, [40, 33]), (⟨some 42, (Op.binOp BinOp.leq 3 (Operand.tmp 37) (Operand.tmp 41) 3), 4, some (33, true)⟩, [37, 41, 33]), (⟨some 43, (Op.pick (Operand.tmp 33) (Operand.tmp 42) (Operand.const (Value.bool false))), 4, some (28, false)⟩, [33, 42, 28]), (⟨some 44, (Op.pick (Operand.tmp 28) (Operand.const (Value.bool true)) (Operand.tmp 43)), 4, none⟩, [28, 43])] 4 (Q .normal ds) σ w := mk_eq rfl
@[push_cast] theorem vr39_8 (Q : Post) (ds : List Deferred) (σ : Env) (w : World) : vc Try.prog (.draw r39_8 3) Q ds σ w = drawn Try.prog [(⟨some 45, (Op.move (Operand.tmp 9)), 3, none⟩, [9]), (⟨some 46, (Op.move (Operand.tmp 6)), 49, none⟩, [6]), (⟨some 47, (Op.call { callee := (Callee.builtin Builtin.len), args := #[(Operand.tmp 46)], argTypes := #[49] }), 3, none⟩, [46]), (⟨some 48, (Op.binOp BinOp.lss 3 (Operand.tmp 45) (Operand.tmp 47) 3), 4, none⟩, [45, 47]), (⟨some 49, (Op.move (Operand.tmp 48)), 4, none⟩, [48]), (⟨some 50, (Op.move (Operand.tmp 5)), 49, some (49, true)⟩, [5, 49]), (⟨some 51, (Op.move (Operand.tmp 8)), 3, some (49, true)⟩, [8, 49]), (⟨some 52, (Op.indexAddr 49 (Operand.tmp 50) (Operand.tmp 51)), 0, some (49, true)⟩, [50, 51, 49]), (⟨some 53, (Op.load 3 (Operand.tmp 52)), 3, some (49, true)⟩, [52, 49]), (⟨some 54, (Op.move (Operand.tmp 6)), 49, some (49, true)⟩, [6, 49]), (⟨some 55, (Op.move (Operand.tmp 9)), 3, some (49, true)⟩, [9, 49]), (⟨some 56, (Op.indexAddr 49 (Operand.tmp 54) (Operand.tmp 55)), 0, some (49, true)⟩, [54, 55, 49]), (⟨some 57, (Op.load 3 (Operand.tmp 56)), 3, some (49, true)⟩, [56, 49]), (⟨some 58, (Op.binOp BinOp.eql 3 (Operand.tmp 53) (Operand.tmp 57) 3), 4, some (49, true)⟩, [53, 57, 49]), (⟨some 59, (Op.pick (Operand.tmp 49) (Operand.tmp 58) (Operand.const (Value.bool false))), 4, none⟩, [49, 58])] 3 (Q .normal ds) σ w := mk_eq rfl
@[push_cast] theorem vr39_9 (Q : Post) (ds : List Deferred) (σ : Env) (w : World) : vc Try.prog (.region r39_9) Q ds σ w = vcOps Try.prog [⟨some 60, (Op.move (Operand.tmp 9)), 3, none⟩, ⟨some 61, (Op.binOp BinOp.add 3 (Operand.tmp 60) (Operand.const (Value.int IntKind.i64 1)) 3), 3, none⟩, ⟨some 9, (Op.assign (Operand.tmp 61)), 3, none⟩] (Q .normal ds) σ w := mk_eq rfl
@[push_cast] theorem vr39_10 (Q : Post) (ds : List Deferred) (σ : Env) (w : World) : vc Try.prog (.region r39_10) Q ds σ w = vcOps Try.prog [⟨some 62, (Op.move (Operand.tmp 7)), 49, none⟩, ⟨some 63, (Op.move (Operand.tmp 5)), 49, none⟩, ⟨some 64, (Op.move (Operand.tmp 8)), 3, none⟩, ⟨some 65, (Op.indexAddr 49 (Operand.tmp 63) (Operand.tmp 64)), 0, none⟩, ⟨some 66, (Op.load 3 (Operand.tmp 65)), 3, none⟩, ⟨some 67, (Op.buildSlice 49 1 #[(0, (Operand.tmp 66))]), 49, none⟩, ⟨some 68, (Op.call { callee := (Callee.builtin Builtin.append), args := #[(Operand.tmp 62), (Operand.tmp 67)], argTypes := #[49, 49] }), 49, none⟩, ⟨some 7, (Op.assign (Operand.tmp 68)), 49, none⟩] (Q .normal ds) σ w := mk_eq rfl
@[push_cast] theorem vr39_11 (Q : Post) (ds : List Deferred) (σ : Env) (w : World) : vc Try.prog (.region r39_11) Q ds σ w = vcOps Try.prog [⟨some 69, (Op.move (Operand.tmp 8)), 3, none⟩, ⟨some 70, (Op.binOp BinOp.add 3 (Operand.tmp 69) (Operand.const (Value.int IntKind.i64 1)) 3), 3, none⟩, ⟨some 8, (Op.assign (Operand.tmp 70)), 3, none⟩] (Q .normal ds) σ w := mk_eq rfl
@[push_cast] theorem vr39_12 (Q : Post) (ds : List Deferred) (σ : Env) (w : World) : vc Try.prog (.region r39_12) Q ds σ w = vcOps Try.prog [⟨some 71, (Op.move (Operand.tmp 7)), 49, none⟩, ⟨some 72, (Op.move (Operand.tmp 6)), 49, none⟩, ⟨some 73, (Op.move (Operand.tmp 9)), 3, none⟩, ⟨some 74, (Op.indexAddr 49 (Operand.tmp 72) (Operand.tmp 73)), 0, none⟩, ⟨some 75, (Op.load 3 (Operand.tmp 74)), 3, none⟩, ⟨some 76, (Op.buildSlice 49 1 #[(0, (Operand.tmp 75))]), 49, none⟩, ⟨some 77, (Op.call { callee := (Callee.builtin Builtin.append), args := #[(Operand.tmp 71), (Operand.tmp 76)], argTypes := #[49, 49] }), 49, none⟩, ⟨some 7, (Op.assign (Operand.tmp 77)), 49, none⟩] (Q .normal ds) σ w := mk_eq rfl
@[push_cast] theorem vr39_13 (Q : Post) (ds : List Deferred) (σ : Env) (w : World) : vc Try.prog (.region r39_13) Q ds σ w = vcOps Try.prog [⟨some 78, (Op.move (Operand.tmp 9)), 3, none⟩, ⟨some 79, (Op.binOp BinOp.add 3 (Operand.tmp 78) (Operand.const (Value.int IntKind.i64 1)) 3), 3, none⟩, ⟨some 9, (Op.assign (Operand.tmp 79)), 3, none⟩] (Q .normal ds) σ w := mk_eq rfl
@[push_cast] theorem vr39_14 (Q : Post) (ds : List Deferred) (σ : Env) (w : World) : vc Try.prog (.region r39_14) Q ds σ w = vcOps Try.prog [⟨some 80, (Op.move (Operand.tmp 7)), 49, none⟩, ⟨some 81, (Op.call { callee := (Callee.value (Operand.func 70)), args := #[(Operand.tmp 80)], argTypes := #[49] }), 22, none⟩, ⟨some 4, (Op.assign (Operand.tmp 81)), 22, none⟩] (Q .normal ds) σ w := mk_eq rfl
/-! 40 columbary/runs.Minus (params #[22, 22], results #[(ResultVar.tmp 4)], 8 slots) -/
def r40_0 : List VOp :=
  [⟨some 4, (Op.assign (Operand.const (Value.slice none 0 0))), 22, none⟩]
def r40_1 : List VOp :=
  [⟨some 5, (Op.move (Operand.tmp 0)), 22, none⟩,
   ⟨some 6, (Op.move (Operand.tmp 1)), 22, none⟩,
   ⟨some 7, (Op.call { callee := (Callee.value (Operand.func 68)), args := #[(Operand.tmp 5), (Operand.tmp 6), (Operand.func 72)], argTypes := #[22, 22, 81] }), 22, none⟩,
   ⟨some 4, (Op.assign (Operand.tmp 7)), 22, none⟩]
def B40 : VC :=
  (.seq (.region r40_0) (.seq (.region r40_1) .ret))
theorem code40 : ∃ c, Try.f40.body = some c ∧ abs Try.f40.ntmps c = B40 := ⟨_, rfl, by kernel_rfl⟩
theorem hb40 : HasBody Try.prog 40 := hasBody_of Try.func40 (by kernel_rfl)
theorem res40 : Try.f40.results = #[(ResultVar.tmp 4)] := rfl
theorem enter40 {w : World} {R : Value → World → Prop} (x0 x1 : Value) (h : vc Try.prog B40 (retK Try.prog #[(ResultVar.tmp 4)] R) [] (initEnv [x0, x1] 0) w) : FnC Try.prog 40 #[x0, x1] w R := by
  obtain ⟨c, h1, h2⟩ := code40
  exact hb40.fn (ret_of_vc mixed Try.func40 h1 (Nat.le_of_ble_eq_true rfl) B40 h2 h)
@[push_cast] theorem vr40_0 (Q : Post) (ds : List Deferred) (σ : Env) (w : World) : vc Try.prog (.region r40_0) Q ds σ w = vcOps Try.prog [⟨some 4, (Op.assign (Operand.const (Value.slice none 0 0))), 22, none⟩] (Q .normal ds) σ w := mk_eq rfl
@[push_cast] theorem vr40_1 (Q : Post) (ds : List Deferred) (σ : Env) (w : World) : vc Try.prog (.region r40_1) Q ds σ w = vcOps Try.prog [⟨some 5, (Op.move (Operand.tmp 0)), 22, none⟩, ⟨some 6, (Op.move (Operand.tmp 1)), 22, none⟩, ⟨some 7, (Op.call { callee := (Callee.value (Operand.func 68)), args := #[(Operand.tmp 5), (Operand.tmp 6), (Operand.func 72)], argTypes := #[22, 22, 81] }), 22, none⟩, ⟨some 4, (Op.assign (Operand.tmp 7)), 22, none⟩] (Q .normal ds) σ w := mk_eq rfl
/-! 41 columbary/columbaryref04.Minus (params #[22, 22], results #[(ResultVar.tmp 4)], 34 slots) -/
def W41_0 : List Nat := [5, 7, 8, 11, 12, 13, 14, 15, 16, 17, 18, 19, 20, 21, 22, 23, 24, 25, 26, 27, 28, 29, 30, 31]
@[push_cast] theorem W41_0_def : W41_0 = [5, 7, 8, 11, 12, 13, 14, 15, 16, 17, 18, 19, 20, 21, 22, 23, 24, 25, 26, 27, 28, 29, 30, 31] := mk_eq rfl
def r41_0 : List VOp :=
  [⟨some 4, (Op.assign (Operand.const (Value.slice none 0 0))), 22, none⟩]
def r41_1 : List VOp :=
  [⟨some 5, (Op.assign (Operand.const (Value.slice none 0 0))), 49, none⟩]
def r41_2 : List VOp :=
  [⟨some 9, (Op.move (Operand.tmp 0)), 22, none⟩,
   ⟨some 10, (Op.call { callee := (Callee.value (Operand.func 49)), args := #[(Operand.tmp 9)], argTypes := #[22] }), 49, none⟩,
   ⟨some 6, (Op.assign (Operand.tmp 10)), 49, none⟩]
def r41_3 : List VOp :=
  [⟨some 7, (Op.assign (Operand.const (Value.int IntKind.i64 0))), 3, none⟩]
def r41_4 : List VOp :=
  [⟨some 11, (Op.move (Operand.tmp 7)), 3, none⟩,
   ⟨some 12, (Op.move (Operand.tmp 6)), 49, none⟩,
   ⟨some 13, (Op.call { callee := (Callee.builtin Builtin.len), args := #[(Operand.tmp 12)], argTypes := #[49] }), 3, none⟩,
   ⟨some 14, (Op.binOp BinOp.lss 3 (Operand.tmp 11) (Operand.tmp 13) 3), 4, none⟩]
def r41_6 : List VOp :=
  [⟨some 17, (Op.move (Operand.tmp 1)), 22, none⟩,
   ⟨some 18, (Op.move (Operand.tmp 6)), 49, none⟩,
   ⟨some 19, (Op.move (Operand.tmp 7)), 3, none⟩,
   ⟨some 20, (Op.indexAddr 49 (Operand.tmp 18) (Operand.tmp 19)), 0, none⟩,
   ⟨some 21, (Op.load 3 (Operand.tmp 20)), 3, none⟩,
   ⟨some 22, (Op.call { callee := (Callee.value (Operand.func 21)), args := #[(Operand.tmp 17), (Operand.tmp 21)], argTypes := #[22, 3] }), 4, none⟩,
   ⟨some 8, (Op.assign (Operand.tmp 22)), 4, none⟩]
def r41_7 : List VOp :=
  [⟨some 23, (Op.move (Operand.tmp 8)), 4, none⟩,
   ⟨some 24, (Op.unOp UnOp.not 4 (Operand.tmp 23)), 4, none⟩]
def r41_8 : List VOp :=
  [⟨some 25, (Op.move (Operand.tmp 5)), 49, none⟩,
   ⟨some 26, (Op.move (Operand.tmp 6)), 49, none⟩,
   ⟨some 27, (Op.move (Operand.tmp 7)), 3, none⟩,
   ⟨some 28, (Op.indexAddr 49 (Operand.tmp 26) (Operand.tmp 27)), 0, none⟩,
   ⟨some 29, (Op.load 3 (Operand.tmp 28)), 3, none⟩,
   ⟨some 30, (Op.buildSlice 49 1 #[(0, (Operand.tmp 29))]), 49, none⟩,
   ⟨some 31, (Op.call { callee := (Callee.builtin Builtin.append), args := #[(Operand.tmp 25), (Operand.tmp 30)], argTypes := #[49, 49] }), 49, none⟩,
   ⟨some 5, (Op.assign (Operand.tmp 31)), 49, none⟩]
def r41_5 : List VOp :=
  [⟨some 15, (Op.move (Operand.tmp 7)), 3, none⟩,
   ⟨some 16, (Op.binOp BinOp.add 3 (Operand.tmp 15) (Operand.const (Value.int IntKind.i64 1)) 3), 3, none⟩,
   ⟨some 7, (Op.assign (Operand.tmp 16)), 3, none⟩]
def r41_9 : List VOp :=
  [⟨some 32, (Op.move (Operand.tmp 5)), 49, none⟩,
   ⟨some 33, (Op.call { callee := (Callee.value (Operand.func 70)), args := #[(Operand.tmp 32)], argTypes := #[49] }), 22, none⟩,
   ⟨some 4, (Op.assign (Operand.tmp 33)), 22, none⟩]
def B41 : VC :=
  (.seq (.region r41_0) (.seq (.region r41_1) (.seq (.region r41_2) (.seq (.seq (.region r41_3) (.block 0 (.loop (.seq (.seq (.region r41_4) (.cond (Operand.tmp 14) .skip (.exit 0))) (.seq (.block 1 (.seq (.region r41_6) (.seq (.region r41_7) (.cond (Operand.tmp 24) (.region r41_8) .skip)))) (.region r41_5)))))) (.seq (.region r41_9) .ret)))))
theorem code41 : ∃ c, Try.f41.body = some c ∧ abs Try.f41.ntmps c = B41 := ⟨_, rfl, by kernel_rfl⟩
theorem hb41 : HasBody Try.prog 41 := hasBody_of Try.func41 (by kernel_rfl)
theorem res41 : Try.f41.results = #[(ResultVar.tmp 4)] := rfl
theorem enter41 {w : World} {R : Value → World → Prop} (x0 x1 : Value) (h : vc Try.prog B41 (retK Try.prog #[(ResultVar.tmp 4)] R) [] (initEnv [x0, x1] 0) w) : FnC Try.prog 41 #[x0, x1] w R := by
  obtain ⟨c, h1, h2⟩ := code41
  exact hb41.fn (ret_of_vc mixed Try.func41 h1 (Nat.le_of_ble_eq_true rfl) B41 h2 h)
@[push_cast] theorem vr41_0 (Q : Post) (ds : List Deferred) (σ : Env) (w : World) : vc Try.prog (.region r41_0) Q ds σ w = vcOps Try.prog [⟨some 4, (Op.assign (Operand.const (Value.slice none 0 0))), 22, none⟩] (Q .normal ds) σ w := mk_eq rfl
@[push_cast] theorem vr41_1 (Q : Post) (ds : List Deferred) (σ : Env) (w : World) : vc Try.prog (.region r41_1) Q ds σ w = vcOps Try.prog [⟨some 5, (Op.assign (Operand.const (Value.slice none 0 0))), 49, none⟩] (Q .normal ds) σ w := mk_eq rfl
@[push_cast] theorem vr41_2 (Q : Post) (ds : List Deferred) (σ : Env) (w : World) : vc Try.prog (.region r41_2) Q ds σ w = vcOps Try.prog [⟨some 9, (Op.move (Operand.tmp 0)), 22, none⟩, ⟨some 10, (Op.call { callee := (Callee.value (Operand.func 49)), args := #[(Operand.tmp 9)], argTypes := #[22] }), 49, none⟩, ⟨some 6, (Op.assign (Operand.tmp 10)), 49, none⟩] (Q .normal ds) σ w := mk_eq rfl
@[push_cast] theorem vr41_3 (Q : Post) (ds : List Deferred) (σ : Env) (w : World) : vc Try.prog (.region r41_3) Q ds σ w = vcOps Try.prog [⟨some 7, (Op.assign (Operand.const (Value.int IntKind.i64 0))), 3, none⟩] (Q .normal ds) σ w := mk_eq rfl
@[push_cast] theorem vr41_4 (Q : Post) (ds : List Deferred) (σ : Env) (w : World) : vc Try.prog (.region r41_4) Q ds σ w = vcOps Try.prog [⟨some 11, (Op.move (Operand.tmp 7)), 3, none⟩, ⟨some 12, (Op.move (Operand.tmp 6)), 49, none⟩, ⟨some 13, (Op.call { callee := (Callee.builtin Builtin.len), args := #[(Operand.tmp 12)], argTypes := #[49] }), 3, none⟩, ⟨some 14, (Op.binOp BinOp.lss 3 (Operand.tmp 11) (Operand.tmp 13) 3), 4, none⟩] (Q .normal ds) σ w := mk_eq rfl
@[push_cast] theorem vr41_6 (Q : Post) (ds : List Deferred) (σ : Env) (w : World) : vc Try.prog (.region r41_6) Q ds σ w = vcOps Try.prog [⟨some 17, (Op.move (Operand.tmp 1)), 22, none⟩, ⟨some 18, (Op.move (Operand.tmp 6)), 49, none⟩, ⟨some 19, (Op.move (Operand.tmp 7)), 3, none⟩, ⟨some 20, (Op.indexAddr 49 (Operand.tmp 18) (Operand.tmp 19)), 0, none⟩, ⟨some 21, (Op.load 3 (Operand.tmp 20)), 3, none⟩, ⟨some 22, (Op.call { callee := (Callee.value (Operand.func 21)), args := #[(Operand.tmp 17), (Operand.tmp 21)], argTypes := #[22, 3] }), 4, none⟩, ⟨some 8, (Op.assign (Operand.tmp 22)), 4, none⟩] (Q .normal ds) σ w := mk_eq rfl
@[push_cast] theorem vr41_7 (Q : Post) (ds : List Deferred) (σ : Env) (w : World) : vc Try.prog (.region r41_7) Q ds σ w = vcOps Try.prog [⟨some 23, (Op.move (Operand.tmp 8)), 4, none⟩, ⟨some 24, (Op.unOp UnOp.not 4 (Operand.tmp 23)), 4, none⟩] (Q .normal ds) σ w := mk_eq rfl
@[push_cast] theorem vr41_8 (Q : Post) (ds : List Deferred) (σ : Env) (w : World) : vc Try.prog (.region r41_8) Q ds σ w = vcOps Try.prog [⟨some 25, (Op.move (Operand.tmp 5)), 49, none⟩, ⟨some 26, (Op.move (Operand.tmp 6)), 49, none⟩, ⟨some 27, (Op.move (Operand.tmp 7)), 3, none⟩, ⟨some 28, (Op.indexAddr 49 (Operand.tmp 26) (Operand.tmp 27)), 0, none⟩, ⟨some 29, (Op.load 3 (Operand.tmp 28)), 3, none⟩, ⟨some 30, (Op.buildSlice 49 1 #[(0, (Operand.tmp 29))]), 49, none⟩, ⟨some 31, (Op.call { callee := (Callee.builtin Builtin.append), args := #[(Operand.tmp 25), (Operand.tmp 30)], argTypes := #[49, 49] }), 49, none⟩, ⟨some 5, (Op.assign (Operand.tmp 31)), 49, none⟩] (Q .normal ds) σ w := mk_eq rfl
@[push_cast] theorem vr41_5 (Q : Post) (ds : List Deferred) (σ : Env) (w : World) : vc Try.prog (.region r41_5) Q ds σ w = vcOps Try.prog [⟨some 15, (Op.move (Operand.tmp 7)), 3, none⟩, ⟨some 16, (Op.binOp BinOp.add 3 (Operand.tmp 15) (Operand.const (Value.int IntKind.i64 1)) 3), 3, none⟩, ⟨some 7, (Op.assign (Operand.tmp 16)), 3, none⟩] (Q .normal ds) σ w := mk_eq rfl
@[push_cast] theorem vr41_9 (Q : Post) (ds : List Deferred) (σ : Env) (w : World) : vc Try.prog (.region r41_9) Q ds σ w = vcOps Try.prog [⟨some 32, (Op.move (Operand.tmp 5)), 49, none⟩, ⟨some 33, (Op.call { callee := (Callee.value (Operand.func 70)), args := #[(Operand.tmp 32)], argTypes := #[49] }), 22, none⟩, ⟨some 4, (Op.assign (Operand.tmp 33)), 22, none⟩] (Q .normal ds) σ w := mk_eq rfl
/-! 42 columbary/runs.Of (params #[49], results #[(ResultVar.tmp 2), (ResultVar.tmp 3)], 28 slots) -/
def W42_0 : List Nat := [4, 6, 16, 17, 18, 19, 20, 21, 22, 23, 24, 25, 26]
@[push_cast] theorem W42_0_def : W42_0 = [4, 6, 16, 17, 18, 19, 20, 21, 22, 23, 24, 25, 26] := mk_eq rfl
def r42_0 : List VOp :=
  [⟨some 2, (Op.assign (Operand.const (Value.slice none 0 0))), 22, none⟩,
   ⟨some 3, (Op.assign (Operand.const (Value.int IntKind.i64 0))), 24, none⟩]
def r42_1 : List VOp :=
  [⟨some 7, (Op.move (Operand.tmp 0)), 49, none⟩,
   ⟨some 8, (Op.call { callee := (Callee.value (Operand.func 73)), args := #[(Operand.tmp 7), (Operand.func 74)], argTypes := #[49, 33] }), 4, none⟩]
def r42_2 : List VOp :=
  [⟨some 2, (Op.assign (Operand.const (Value.slice none 0 0))), 22, none⟩,
   ⟨some 3, (Op.assign (Operand.const (Value.int IntKind.i64 41))), 24, none⟩]
def r42_3 : List VOp :=
  [⟨some 9, (Op.move (Operand.tmp 0)), 49, none⟩,
   ⟨some 10, (Op.call { callee := (Callee.value (Operand.func 75)), args := #[(Operand.tmp 9)], argTypes := #[49] }), 49, none⟩,
   ⟨some 0, (Op.assign (Operand.tmp 10)), 49, none⟩]
def r42_4 : List VOp :=
  [⟨some 11, (Op.move (Operand.tmp 0)), 49, none⟩,
   ⟨some 12, (Op.call { callee := (Callee.value (Operand.func 76)), args := #[(Operand.tmp 11)], argTypes := #[49] }), 0, none⟩]
def r42_5 : List VOp :=
  [⟨some 4, (Op.assign (Operand.const (Value.slice none 0 0))), 22, none⟩]
def r42_6 : List VOp :=
  [⟨some 13, (Op.move (Operand.tmp 0)), 49, none⟩,
   ⟨some 14, (Op.call { callee := (Callee.value (Operand.func 77)), args := #[(Operand.tmp 13)], argTypes := #[49] }), 49, none⟩,
   ⟨some 15, (Op.call { callee := (Callee.builtin Builtin.len), args := #[(Operand.tmp 14)], argTypes := #[49] }), 3, none⟩,
   ⟨some 16, (Op.move (Operand.const (Value.int IntKind.i64 0))), 3, none⟩]
def r42_7 : List VOp :=
  [⟨some 17, (Op.binOp BinOp.lss 3 (Operand.tmp 16) (Operand.tmp 15) 3), 0, none⟩]
def r42_8 : List VOp :=
  [⟨some 18, (Op.indexAddr 49 (Operand.tmp 14) (Operand.tmp 16)), 0, none⟩,
   ⟨some 19, (Op.load 3 (Operand.tmp 18)), 3, none⟩,
   ⟨some 6, (Op.assign (Operand.tmp 19)), 3, none⟩]
def r42_9 : List VOp :=
  [⟨some 20, (Op.move (Operand.tmp 4)), 22, none⟩,
   ⟨some 21, (Op.move (Operand.tmp 6)), 3, none⟩,
   ⟨some 22, (Op.move (Operand.tmp 6)), 3, none⟩,
   ⟨some 23, (Op.binOp BinOp.add 3 (Operand.tmp 22) (Operand.const (Value.int IntKind.i64 1)) 3), 3, none⟩,
   ⟨some 24, (Op.build 63 #[(0, (Operand.tmp 21)), (1, (Operand.tmp 23))]), 63, none⟩,
   ⟨some 25, (Op.call { callee := (Callee.value (Operand.func 78)), args := #[(Operand.tmp 20), (Operand.tmp 24)], argTypes := #[22, 63] }), 22, none⟩,
   ⟨some 4, (Op.assign (Operand.tmp 25)), 22, none⟩]
def r42_10 : List VOp :=
  [⟨some 26, (Op.binOp BinOp.add 3 (Operand.tmp 16) (Operand.const (Value.int IntKind.i64 1)) 3), 3, none⟩,
   ⟨some 16, (Op.move (Operand.tmp 26)), 3, none⟩]
def r42_11 : List VOp :=
  [⟨some 27, (Op.move (Operand.tmp 4)), 22, none⟩,
   ⟨some 2, (Op.assign (Operand.tmp 27)), 22, none⟩,
   ⟨some 3, (Op.assign (Operand.const (Value.int IntKind.i64 0))), 24, none⟩]
def B42 : VC :=
  (.seq (.region r42_0) (.seq (.seq (.region r42_1) (.cond (Operand.tmp 8) (.seq (.region r42_2) .ret) .skip)) (.seq (.region r42_3) (.seq (.region r42_4) (.seq (.region r42_5) (.seq (.seq (.region r42_6) (.block 0 (.loop (.seq (.region r42_7) (.seq (.cond (Operand.tmp 17) .skip (.exit 0)) (.seq (.block 1 (.seq (.region r42_8) (.region r42_9))) (.region r42_10))))))) (.seq (.region r42_11) .ret)))))))
theorem code42 : ∃ c, Try.f42.body = some c ∧ abs Try.f42.ntmps c = B42 := ⟨_, rfl, by kernel_rfl⟩
theorem hb42 : HasBody Try.prog 42 := hasBody_of Try.func42 (by kernel_rfl)
theorem res42 : Try.f42.results = #[(ResultVar.tmp 2), (ResultVar.tmp 3)] := rfl
theorem enter42 {w : World} {R : Value → World → Prop} (x0 : Value) (h : vc Try.prog B42 (retK Try.prog #[(ResultVar.tmp 2), (ResultVar.tmp 3)] R) [] (initEnv [x0] 0) w) : FnC Try.prog 42 #[x0] w R := by
  obtain ⟨c, h1, h2⟩ := code42
  exact hb42.fn (ret_of_vc mixed Try.func42 h1 (Nat.le_of_ble_eq_true rfl) B42 h2 h)
@[push_cast] theorem vr42_0 (Q : Post) (ds : List Deferred) (σ : Env) (w : World) : vc Try.prog (.region r42_0) Q ds σ w = vcOps Try.prog [⟨some 2, (Op.assign (Operand.const (Value.slice none 0 0))), 22, none⟩, ⟨some 3, (Op.assign (Operand.const (Value.int IntKind.i64 0))), 24, none⟩] (Q .normal ds) σ w := mk_eq rfl
@[push_cast] theorem vr42_1 (Q : Post) (ds : List Deferred) (σ : Env) (w : World) : vc Try.prog (.region r42_1) Q ds σ w = vcOps Try.prog [⟨some 7, (Op.move (Operand.tmp 0)), 49, none⟩, ⟨some 8, (Op.call { callee := (Callee.value (Operand.func 73)), args := #[(Operand.tmp 7), (Operand.func 74)], argTypes := #[49, 33] }), 4, none⟩] (Q .normal ds) σ w := mk_eq rfl
@[push_cast] theorem vr42_2 (Q : Post) (ds : List Deferred) (σ : Env) (w : World) : vc Try.prog (.region r42_2) Q ds σ w = vcOps Try.prog [⟨some 2, (Op.assign (Operand.const (Value.slice none 0 0))), 22, none⟩, ⟨some 3, (Op.assign (Operand.const (Value.int IntKind.i64 41))), 24, none⟩] (Q .normal ds) σ w := mk_eq rfl
@[push_cast] theorem vr42_3 (Q : Post) (ds : List Deferred) (σ : Env) (w : World) : vc Try.prog (.region r42_3) Q ds σ w = vcOps Try.prog [⟨some 9, (Op.move (Operand.tmp 0)), 49, none⟩, ⟨some 10, (Op.call { callee := (Callee.value (Operand.func 75)), args := #[(Operand.tmp 9)], argTypes := #[49] }), 49, none⟩, ⟨some 0, (Op.assign (Operand.tmp 10)), 49, none⟩] (Q .normal ds) σ w := mk_eq rfl
@[push_cast] theorem vr42_4 (Q : Post) (ds : List Deferred) (σ : Env) (w : World) : vc Try.prog (.region r42_4) Q ds σ w = vcOps Try.prog [⟨some 11, (Op.move (Operand.tmp 0)), 49, none⟩, ⟨some 12, (Op.call { callee := (Callee.value (Operand.func 76)), args := #[(Operand.tmp 11)], argTypes := #[49] }), 0, none⟩] (Q .normal ds) σ w := mk_eq rfl
@[push_cast] theorem vr42_5 (Q : Post) (ds : List Deferred) (σ : Env) (w : World) : vc Try.prog (.region r42_5) Q ds σ w = vcOps Try.prog [⟨some 4, (Op.assign (Operand.const (Value.slice none 0 0))), 22, none⟩] (Q .normal ds) σ w := mk_eq rfl
@[push_cast] theorem vr42_6 (Q : Post) (ds : List Deferred) (σ : Env) (w : World) : vc Try.prog (.region r42_6) Q ds σ w = vcOps Try.prog [⟨some 13, (Op.move (Operand.tmp 0)), 49, none⟩, ⟨some 14, (Op.call { callee := (Callee.value (Operand.func 77)), args := #[(Operand.tmp 13)], argTypes := #[49] }), 49, none⟩, ⟨some 15, (Op.call { callee := (Callee.builtin Builtin.len), args := #[(Operand.tmp 14)], argTypes := #[49] }), 3, none⟩, ⟨some 16, (Op.move (Operand.const (Value.int IntKind.i64 0))), 3, none⟩] (Q .normal ds) σ w := mk_eq rfl
@[push_cast] theorem vr42_7 (Q : Post) (ds : List Deferred) (σ : Env) (w : World) : vc Try.prog (.region r42_7) Q ds σ w = vcOps Try.prog [⟨some 17, (Op.binOp BinOp.lss 3 (Operand.tmp 16) (Operand.tmp 15) 3), 0, none⟩] (Q .normal ds) σ w := mk_eq rfl
@[push_cast] theorem vr42_8 (Q : Post) (ds : List Deferred) (σ : Env) (w : World) : vc Try.prog (.region r42_8) Q ds σ w = vcOps Try.prog [⟨some 18, (Op.indexAddr 49 (Operand.tmp 14) (Operand.tmp 16)), 0, none⟩, ⟨some 19, (Op.load 3 (Operand.tmp 18)), 3, none⟩, ⟨some 6, (Op.assign (Operand.tmp 19)), 3, none⟩] (Q .normal ds) σ w := mk_eq rfl
@[push_cast] theorem vr42_9 (Q : Post) (ds : List Deferred) (σ : Env) (w : World) : vc Try.prog (.region r42_9) Q ds σ w = vcOps Try.prog [⟨some 20, (Op.move (Operand.tmp 4)), 22, none⟩, ⟨some 21, (Op.move (Operand.tmp 6)), 3, none⟩, ⟨some 22, (Op.move (Operand.tmp 6)), 3, none⟩, ⟨some 23, (Op.binOp BinOp.add 3 (Operand.tmp 22) (Operand.const (Value.int IntKind.i64 1)) 3), 3, none⟩, ⟨some 24, (Op.build 63 #[(0, (Operand.tmp 21)), (1, (Operand.tmp 23))]), 63, none⟩, ⟨some 25, (Op.call { callee := (Callee.value (Operand.func 78)), args := #[(Operand.tmp 20), (Operand.tmp 24)], argTypes := #[22, 63] }), 22, none⟩, ⟨some 4, (Op.assign (Operand.tmp 25)), 22, none⟩] (Q .normal ds) σ w := mk_eq rfl
@[push_cast] theorem vr42_10 (Q : Post) (ds : List Deferred) (σ : Env) (w : World) : vc Try.prog (.region r42_10) Q ds σ w = vcOps Try.prog [⟨some 26, (Op.binOp BinOp.add 3 (Operand.tmp 16) (Operand.const (Value.int IntKind.i64 1)) 3), 3, none⟩, ⟨some 16, (Op.move (Operand.tmp 26)), 3, none⟩] (Q .normal ds) σ w := mk_eq rfl
@[push_cast] theorem vr42_11 (Q : Post) (ds : List Deferred) (σ : Env) (w : World) : vc Try.prog (.region r42_11) Q ds σ w = vcOps Try.prog [⟨some 27, (Op.move (Operand.tmp 4)), 22, none⟩, ⟨some 2, (Op.assign (Operand.tmp 27)), 22, none⟩, ⟨some 3, (Op.assign (Operand.const (Value.int IntKind.i64 0))), 24, none⟩] (Q .normal ds) σ w := mk_eq rfl
/-! 43 columbary/columbaryref04.Of (params #[49], results #[(ResultVar.tmp 2), (ResultVar.tmp 3)], 26 slots) -/
def W43_0 : List Nat := [2, 3, 4, 5, 6, 7, 8, 9, 10, 11, 12, 13, 14, 15, 16, 17, 18, 19, 20, 21, 22]
@[push_cast] theorem W43_0_def : W43_0 = [2, 3, 4, 5, 6, 7, 8, 9, 10, 11, 12, 13, 14, 15, 16, 17, 18, 19, 20, 21, 22] := mk_eq rfl
def r43_0 : List VOp :=
  [⟨some 2, (Op.assign (Operand.const (Value.slice none 0 0))), 22, none⟩,
   ⟨some 3, (Op.assign (Operand.const (Value.int IntKind.i64 0))), 24, none⟩]
def r43_1 : List VOp :=
  [⟨some 4, (Op.assign (Operand.const (Value.int IntKind.i64 0))), 3, none⟩]
def r43_2 : List VOp :=
  [⟨some 5, (Op.move (Operand.tmp 4)), 3, none⟩,
   ⟨some 6, (Op.move (Operand.tmp 0)), 49, none⟩,
   ⟨some 7, (Op.call { callee := (Callee.builtin Builtin.len), args := #[(Operand.tmp 6)], argTypes := #[49] }), 3, none⟩,
   ⟨some 8, (Op.binOp BinOp.lss 3 (Operand.tmp 5) (Operand.tmp 7) 3), 4, none⟩]
def r43_4 : List VOp :=
  [⟨some 11, (Op.move (Operand.tmp 0)), 49, none⟩,
   ⟨some 12, (Op.move (Operand.tmp 4)), 3, none⟩,
   ⟨some 13, (Op.indexAddr 49 (Operand.tmp 11) (Operand.tmp 12)), 0, none⟩,
   ⟨some 14, (Op.load 3 (Operand.tmp 13)), 3, none⟩,
   ⟨some 15, (Op.binOp BinOp.lss 3 (Operand.tmp 14) (Operand.const (Value.int IntKind.i64 0)) 3), 4, none⟩,
   ⟨some 16, (Op.move (Operand.tmp 15)), 4, none⟩,
   ⟨some 17, (Op.move (Operand.tmp 0)), 49, some (16, false)⟩,
   ⟨some 18, (Op.move (Operand.tmp 4)), 3, some (16, false)⟩,
   ⟨some 19, (Op.indexAddr 49 (Operand.tmp 17) (Operand.tmp 18)), 0, some (16, false)⟩,
   ⟨some 20, (Op.load 3 (Operand.tmp 19)), 3, some (16, false)⟩,
   ⟨some 21, (Op.binOp BinOp.geq 3 (Operand.tmp 20) (Operand.const (Value.int IntKind.i64 65536)) 3), 4, some (16, false)⟩,
   ⟨some 22, (Op.pick (Operand.tmp 16) (Operand.const (Value.bool true)) (Operand.tmp 21)), 4, none⟩]
def r43_5 : List VOp :=
  [⟨some 2, (Op.assign (Operand.const (Value.slice none 0 0))), 22, none⟩,
   ⟨some 3, (Op.assign (Operand.const (Value.int IntKind.i64 41))), 24, none⟩]
def r43_3 : List VOp :=
  [⟨some 9, (Op.move (Operand.tmp 4)), 3, none⟩,
   ⟨some 10, (Op.binOp BinOp.add 3 (Operand.tmp 9) (Operand.const (Value.int IntKind.i64 1)) 3), 3, none⟩,
   ⟨some 4, (Op.assign (Operand.tmp 10)), 3, none⟩]
def r43_6 : List VOp :=
  [⟨some 23, (Op.move (Operand.tmp 0)), 49, none⟩,
   ⟨some 24, (Op.call { callee := (Callee.value (Operand.func 46)), args := #[(Operand.tmp 23)], argTypes := #[49] }), 49, none⟩,
   ⟨some 25, (Op.call { callee := (Callee.value (Operand.func 70)), args := #[(Operand.tmp 24)], argTypes := #[49] }), 22, none⟩,
   ⟨some 2, (Op.assign (Operand.tmp 25)), 22, none⟩,
   ⟨some 3, (Op.assign (Operand.const (Value.int IntKind.i64 0))), 24, none⟩]
def B43 : VC :=
  (.seq (.region r43_0) (.seq (.seq (.region r43_1) (.block 0 (.loop (.seq (.seq (.region r43_2) (.cond (Operand.tmp 8) .skip (.exit 0))) (.seq (.block 1 (.seq (.region r43_4) (.cond (Operand.tmp 22) (.seq (.region r43_5) .ret) .skip))) (.region r43_3)))))) (.seq (.region r43_6) .ret)))
theorem code43 : ∃ c, Try.f43.body = some c ∧ abs Try.f43.ntmps c = B43 := ⟨_, rfl, by kernel_rfl⟩
theorem hb43 : HasBody Try.prog 43 := hasBody_of Try.func43 (by kernel_rfl)
theorem res43 : Try.f43.results = #[(ResultVar.tmp 2), (ResultVar.tmp 3)] := rfl
theorem enter43 {w : World} {R : Value → World → Prop} (x0 : Value) (h : vc Try.prog B43 (retK Try.prog #[(ResultVar.tmp 2), (ResultVar.tmp 3)] R) [] (initEnv [x0] 0) w) : FnC Try.prog 43 #[x0] w R := by
  obtain ⟨c, h1, h2⟩ := code43
  exact hb43.fn (ret_of_vc mixed Try.func43 h1 (Nat.le_of_ble_eq_true rfl) B43 h2 h)
@[push_cast] theorem vr43_0 (Q : Post) (ds : List Deferred) (σ : Env) (w : World) : vc Try.prog (.region r43_0) Q ds σ w = vcOps Try.prog [⟨some 2, (Op.assign (Operand.const (Value.slice none 0 0))), 22, none⟩, ⟨some 3, (Op.assign (Operand.const (Value.int IntKind.i64 0))), 24, none⟩] (Q .normal ds) σ w := mk_eq rfl
@[push_cast] theorem vr43_1 (Q : Post) (ds : List Deferred) (σ : Env) (w : World) : vc Try.prog (.region r43_1) Q ds σ w = vcOps Try.prog [⟨some 4, (Op.assign (Operand.const (Value.int IntKind.i64 0))), 3, none⟩] (Q .normal ds) σ w := mk_eq rfl
@[push_cast] theorem vr43_2 (Q : Post) (ds : List Deferred) (σ : Env) (w : World) : vc Try.prog (.region r43_2) Q ds σ w = vcOps Try.prog [⟨some 5, (Op.move (Operand.tmp 4)), 3, none⟩, ⟨some 6, (Op.move (Operand.tmp 0)), 49, none⟩, ⟨some 7, (Op.call { callee := (Callee.builtin Builtin.len), args := #[(Operand.tmp 6)], argTypes := #[49] }), 3, none⟩, ⟨some 8, (Op.binOp BinOp.lss 3 (Operand.tmp 5) (Operand.tmp 7) 3), 4, none⟩] (Q .normal ds) σ w := mk_eq rfl
@[push_cast] theorem vr43_4 (Q : Post) (ds : List Deferred) (σ : Env) (w : World) : vc Try.prog (.region r43_4) Q ds σ w = vcOps Try.prog [⟨some 11, (Op.move (Operand.tmp 0)), 49, none⟩, ⟨some 12, (Op.move (Operand.tmp 4)), 3, none⟩, ⟨some 13, (Op.indexAddr 49 (Operand.tmp 11) (Operand.tmp 12)), 0, none⟩, ⟨some 14, (Op.load 3 (Operand.tmp 13)), 3, none⟩, ⟨some 15, (Op.binOp BinOp.lss 3 (Operand.tmp 14) (Operand.const (Value.int IntKind.i64 0)) 3), 4, none⟩, ⟨some 16, (Op.move (Operand.tmp 15)), 4, none⟩, ⟨some 17, (Op.move (Operand.tmp 0)), 49, some (16, false)⟩, ⟨some 18, (Op.move (Operand.tmp 4)), 3, some (16, false)⟩, ⟨some 19, (Op.indexAddr 49 (Operand.tmp 17) (Operand.tmp 18)), 0, some (16, false)⟩, ⟨some 20, (Op.load 3 (Operand.tmp 19)), 3, some (16, false)⟩, ⟨some 21, (Op.binOp BinOp.geq 3 (Operand.tmp 20) (Operand.const (Value.int IntKind.i64 65536)) 3), 4, some (16, false)⟩, ⟨some 22, (Op.pick (Operand.tmp 16) (Operand.const (Value.bool true)) (Operand.tmp 21)), 4, none⟩] (Q .normal ds) σ w := mk_eq rfl
@[push_cast] theorem vr43_5 (Q : Post) (ds : List Deferred) (σ : Env) (w : World) : vc Try.prog (.region r43_5) Q ds σ w = vcOps Try.prog [⟨some 2, (Op.assign (Operand.const (Value.slice none 0 0))), 22, none⟩, ⟨some 3, (Op.assign (Operand.const (Value.int IntKind.i64 41))), 24, none⟩] (Q .normal ds) σ w := mk_eq rfl
@[push_cast] theorem vr43_3 (Q : Post) (ds : List Deferred) (σ : Env) (w : World) : vc Try.prog (.region r43_3) Q ds σ w = vcOps Try.prog [⟨some 9, (Op.move (Operand.tmp 4)), 3, none⟩, ⟨some 10, (Op.binOp BinOp.add 3 (Operand.tmp 9) (Operand.const (Value.int IntKind.i64 1)) 3), 3, none⟩, ⟨some 4, (Op.assign (Operand.tmp 10)), 3, none⟩] (Q .normal ds) σ w := mk_eq rfl
@[push_cast] theorem vr43_6 (Q : Post) (ds : List Deferred) (σ : Env) (w : World) : vc Try.prog (.region r43_6) Q ds σ w = vcOps Try.prog [⟨some 23, (Op.move (Operand.tmp 0)), 49, none⟩, ⟨some 24, (Op.call { callee := (Callee.value (Operand.func 46)), args := #[(Operand.tmp 23)], argTypes := #[49] }), 49, none⟩, ⟨some 25, (Op.call { callee := (Callee.value (Operand.func 70)), args := #[(Operand.tmp 24)], argTypes := #[49] }), 22, none⟩, ⟨some 2, (Op.assign (Operand.tmp 25)), 22, none⟩, ⟨some 3, (Op.assign (Operand.const (Value.int IntKind.i64 0))), 24, none⟩] (Q .normal ds) σ w := mk_eq rfl
/-! 44 columbary/columbaryref04.Ints (params #[49, 49], results #[(ResultVar.tmp 4)], 26 slots) -/
def W44_0 : List Nat := [4, 5, 11, 12, 13, 14, 15, 16, 17, 18, 19, 20, 21, 22, 23, 24, 25]
@[push_cast] theorem W44_0_def : W44_0 = [4, 5, 11, 12, 13, 14, 15, 16, 17, 18, 19, 20, 21, 22, 23, 24, 25] := mk_eq rfl
def r44_0 : List VOp :=
  [⟨some 4, (Op.assign (Operand.const (Value.bool false))), 4, none⟩]
def r44_1 : List VOp :=
  [⟨some 6, (Op.move (Operand.tmp 0)), 49, none⟩,
   ⟨some 7, (Op.call { callee := (Callee.builtin Builtin.len), args := #[(Operand.tmp 6)], argTypes := #[49] }), 3, none⟩,
   ⟨some 8, (Op.move (Operand.tmp 1)), 49, none⟩,
   ⟨some 9, (Op.call { callee := (Callee.builtin Builtin.len), args := #[(Operand.tmp 8)], argTypes := #[49] }), 3, none⟩,
   ⟨some 10, (Op.binOp BinOp.neq 3 (Operand.tmp 7) (Operand.tmp 9) 3), 4, none⟩]
def r44_2 : List VOp :=
  [⟨some 4, (Op.assign (Operand.const (Value.bool false))), 4, none⟩]
def r44_3 : List VOp :=
  [⟨some 5, (Op.assign (Operand.const (Value.int IntKind.i64 0))), 3, none⟩]
def r44_4 : List VOp :=
  [⟨some 11, (Op.move (Operand.tmp 5)), 3, none⟩,
   ⟨some 12, (Op.move (Operand.tmp 0)), 49, none⟩,
   ⟨some 13, (Op.call { callee := (Callee.builtin Builtin.len), args := #[(Operand.tmp 12)], argTypes := #[49] }), 3, none⟩,
   ⟨some 14, (Op.binOp BinOp.lss 3 (Operand.tmp 11) (Operand.tmp 13) 3), 4, none⟩]
def r44_6 : List VOp :=
  [⟨some 17, (Op.move (Operand.tmp 0)), 49, none⟩,
   ⟨some 18, (Op.move (Operand.tmp 5)), 3, none⟩,
   ⟨some 19, (Op.indexAddr 49 (Operand.tmp 17) (Operand.tmp 18)), 0, none⟩,
   ⟨some 20, (Op.load 3 (Operand.tmp 19)), 3, none⟩,
   ⟨some 21, (Op.move (Operand.tmp 1)), 49, none⟩,
   ⟨some 22, (Op.move (Operand.tmp 5)), 3, none⟩,
   ⟨some 23, (Op.indexAddr 49 (Operand.tmp 21) (Operand.tmp 22)), 0, none⟩,
   ⟨some 24, (Op.load 3 (Operand.tmp 23)), 3, none⟩,
   ⟨some 25, (Op.binOp BinOp.neq 3 (Operand.tmp 20) (Operand.tmp 24) 3), 4, none⟩]
def r44_7 : List VOp :=
  [⟨some 4, (Op.assign (Operand.const (Value.bool false))), 4, none⟩]
def r44_5 : List VOp :=
  [⟨some 15, (Op.move (Operand.tmp 5)), 3, none⟩,
   ⟨some 16, (Op.binOp BinOp.add 3 (Operand.tmp 15) (Operand.const (Value.int IntKind.i64 1)) 3), 3, none⟩,
   ⟨some 5, (Op.assign (Operand.tmp 16)), 3, none⟩]
def r44_8 : List VOp :=
  [⟨some 4, (Op.assign (Operand.const (Value.bool true))), 4, none⟩]
def B44 : VC :=
  (.seq (.region r44_0) (.seq (.seq (.region r44_1) (.cond (Operand.tmp 10) (.seq (.region r44_2) .ret) .skip)) (.seq (.seq (.region r44_3) (.block 0 (.loop (.seq (.seq (.region r44_4) (.cond (Operand.tmp 14) .skip (.exit 0))) (.seq (.block 1 (.seq (.draw r44_6 2) (.cond (Operand.tmp 25) (.seq (.region r44_7) .ret) .skip))) (.region r44_5)))))) (.seq (.region r44_8) .ret))))
theorem code44 : ∃ c, Try.f44.body = some c ∧ abs Try.f44.ntmps c = B44 := ⟨_, rfl, by kernel_rfl⟩
theorem hb44 : HasBody Try.prog 44 := hasBody_of Try.func44 (by kernel_rfl)
theorem res44 : Try.f44.results = #[(ResultVar.tmp 4)] := rfl
theorem enter44 {w : World} {R : Value → World → Prop} (x0 x1 : Value) (h : vc Try.prog B44 (retK Try.prog #[(ResultVar.tmp 4)] R) [] (initEnv [x0, x1] 0) w) : FnC Try.prog 44 #[x0, x1] w R := by
  obtain ⟨c, h1, h2⟩ := code44
  exact hb44.fn (ret_of_vc mixed Try.func44 h1 (Nat.le_of_ble_eq_true rfl) B44 h2 h)
@[push_cast] theorem vr44_0 (Q : Post) (ds : List Deferred) (σ : Env) (w : World) : vc Try.prog (.region r44_0) Q ds σ w = vcOps Try.prog [⟨some 4, (Op.assign (Operand.const (Value.bool false))), 4, none⟩] (Q .normal ds) σ w := mk_eq rfl
@[push_cast] theorem vr44_1 (Q : Post) (ds : List Deferred) (σ : Env) (w : World) : vc Try.prog (.region r44_1) Q ds σ w = vcOps Try.prog [⟨some 6, (Op.move (Operand.tmp 0)), 49, none⟩, ⟨some 7, (Op.call { callee := (Callee.builtin Builtin.len), args := #[(Operand.tmp 6)], argTypes := #[49] }), 3, none⟩, ⟨some 8, (Op.move (Operand.tmp 1)), 49, none⟩, ⟨some 9, (Op.call { callee := (Callee.builtin Builtin.len), args := #[(Operand.tmp 8)], argTypes := #[49] }), 3, none⟩, ⟨some 10, (Op.binOp BinOp.neq 3 (Operand.tmp 7) (Operand.tmp 9) 3), 4, none⟩] (Q .normal ds) σ w := mk_eq rfl
@[push_cast] theorem vr44_2 (Q : Post) (ds : List Deferred) (σ : Env) (w : World) : vc Try.prog (.region r44_2) Q ds σ w = vcOps Try.prog [⟨some 4, (Op.assign (Operand.const (Value.bool false))), 4, none⟩] (Q .normal ds) σ w := mk_eq rfl
@[push_cast] theorem vr44_3 (Q : Post) (ds : List Deferred) (σ : Env) (w : World) : vc Try.prog (.region r44_3) Q ds σ w = vcOps Try.prog [⟨some 5, (Op.assign (Operand.const (Value.int IntKind.i64 0))), 3, none⟩] (Q .normal ds) σ w := mk_eq rfl
@[push_cast] theorem vr44_4 (Q : Post) (ds : List Deferred) (σ : Env) (w : World) : vc Try.prog (.region r44_4) Q ds σ w = vcOps Try.prog [⟨some 11, (Op.move (Operand.tmp 5)), 3, none⟩, ⟨some 12, (Op.move (Operand.tmp 0)), 49, none⟩, ⟨some 13, (Op.call { callee := (Callee.builtin Builtin.len), args := #[(Operand.tmp 12)], argTypes := #[49] }), 3, none⟩, ⟨some 14, (Op.binOp BinOp.lss 3 (Operand.tmp 11) (Operand.tmp 13) 3), 4, none⟩] (Q .normal ds) σ w := mk_eq rfl
@[push_cast] theorem vr44_6 (Q : Post) (ds : List Deferred) (σ : Env) (w : World) : vc Try.prog (.draw r44_6 2) Q ds σ w = drawn Try.prog [(⟨some 17, (Op.move (Operand.tmp 0)), 49, none⟩, [0]), (⟨some 18, (Op.move (Operand.tmp 5)), 3, none⟩, [5]), (⟨some 19, (Op.indexAddr 49 (Operand.tmp 17) (Operand.tmp 18)), 0, none⟩, [17, 18]), (⟨some 20, (Op.load 3 (Operand.tmp 19)), 3, none⟩, [19]), (⟨some 21, (Op.move (Operand.tmp 1)), 49, none⟩, [1]), (⟨some 22, (Op.move (Operand.tmp 5)), 3, none⟩, [5]), (⟨some 23, (Op.indexAddr 49 (Operand.tmp 21) (Operand.tmp 22)), 0, none⟩, [21, 22]), (⟨some 24, (Op.load 3 (Operand.tmp 23)), 3, none⟩, [23]), (⟨some 25, (Op.binOp BinOp.neq 3 (Operand.tmp 20) (Operand.tmp 24) 3), 4, none⟩, [20, 24])] 2 (Q .normal ds) σ w := mk_eq rfl
@[push_cast] theorem vr44_7 (Q : Post) (ds : List Deferred) (σ : Env) (w : World) : vc Try.prog (.region r44_7) Q ds σ w = vcOps Try.prog [⟨some 4, (Op.assign (Operand.const (Value.bool false))), 4, none⟩] (Q .normal ds) σ w := mk_eq rfl
@[push_cast] theorem vr44_5 (Q : Post) (ds : List Deferred) (σ : Env) (w : World) : vc Try.prog (.region r44_5) Q ds σ w = vcOps Try.prog [⟨some 15, (Op.move (Operand.tmp 5)), 3, none⟩, ⟨some 16, (Op.binOp BinOp.add 3 (Operand.tmp 15) (Operand.const (Value.int IntKind.i64 1)) 3), 3, none⟩, ⟨some 5, (Op.assign (Operand.tmp 16)), 3, none⟩] (Q .normal ds) σ w := mk_eq rfl
@[push_cast] theorem vr44_8 (Q : Post) (ds : List Deferred) (σ : Env) (w : World) : vc Try.prog (.region r44_8) Q ds σ w = vcOps Try.prog [⟨some 4, (Op.assign (Operand.const (Value.bool true))), 4, none⟩] (Q .normal ds) σ w := mk_eq rfl
/-! 45 columbary/runs.List (params #[22], results #[(ResultVar.tmp 2)], 27 slots) -/
def W45_0 : List Nat := [3, 5, 6, 9, 10, 11, 12, 13, 14, 15, 16, 17, 18, 19, 20, 21, 22, 23, 24, 25]
@[push_cast] theorem W45_0_def : W45_0 = [3, 5, 6, 9, 10, 11, 12, 13, 14, 15, 16, 17, 18, 19, 20, 21, 22, 23, 24, 25] := mk_eq rfl
def W45_1 : List Nat := [3, 6, 15, 16, 17, 18, 19, 20, 21, 22, 23, 24]
@[push_cast] theorem W45_1_def : W45_1 = [3, 6, 15, 16, 17, 18, 19, 20, 21, 22, 23, 24] := mk_eq rfl
def r45_0 : List VOp :=
  [⟨some 2, (Op.assign (Operand.const (Value.slice none 0 0))), 49, none⟩]
def r45_1 : List VOp :=
  [⟨some 3, (Op.assign (Operand.const (Value.slice none 0 0))), 49, none⟩]
def r45_2 : List VOp :=
  [⟨some 7, (Op.move (Operand.tmp 0)), 22, none⟩,
   ⟨some 8, (Op.call { callee := (Callee.builtin Builtin.len), args := #[(Operand.tmp 7)], argTypes := #[22] }), 3, none⟩,
   ⟨some 9, (Op.move (Operand.const (Value.int IntKind.i64 0))), 3, none⟩]
def r45_3 : List VOp :=
  [⟨some 10, (Op.binOp BinOp.lss 3 (Operand.tmp 9) (Operand.tmp 8) 3), 0, none⟩]
def r45_4 : List VOp :=
  [⟨some 11, (Op.indexAddr 22 (Operand.tmp 7) (Operand.tmp 9)), 0, none⟩,
   ⟨some 12, (Op.load 63 (Operand.tmp 11)), 63, none⟩,
   ⟨some 5, (Op.alloc 63), 0, none⟩,
   ⟨none, (Op.store 63 (Operand.tmp 5) (Operand.tmp 12)), 0, none⟩]
def r45_5 : List VOp :=
  [⟨some 13, (Op.fieldAddr 63 (Operand.tmp 5) 0), 0, none⟩,
   ⟨some 14, (Op.load 3 (Operand.tmp 13)), 3, none⟩,
   ⟨some 6, (Op.assign (Operand.tmp 14)), 3, none⟩]
def r45_6 : List VOp :=
  [⟨some 15, (Op.move (Operand.tmp 6)), 3, none⟩,
   ⟨some 16, (Op.fieldAddr 63 (Operand.tmp 5) 1), 0, none⟩,
   ⟨some 17, (Op.load 3 (Operand.tmp 16)), 3, none⟩,
   ⟨some 18, (Op.binOp BinOp.lss 3 (Operand.tmp 15) (Operand.tmp 17) 3), 4, none⟩]
def r45_8 : List VOp :=
  [⟨some 21, (Op.move (Operand.tmp 3)), 49, none⟩,
   ⟨some 22, (Op.move (Operand.tmp 6)), 3, none⟩,
   ⟨some 23, (Op.buildSlice 49 1 #[(0, (Operand.tmp 22))]), 49, none⟩,
   ⟨some 24, (Op.call { callee := (Callee.builtin Builtin.append), args := #[(Operand.tmp 21), (Operand.tmp 23)], argTypes := #[49, 49] }), 49, none⟩,
   ⟨some 3, (Op.assign (Operand.tmp 24)), 49, none⟩]
def r45_7 : List VOp :=
  [⟨some 19, (Op.move (Operand.tmp 6)), 3, none⟩,
   ⟨some 20, (Op.binOp BinOp.add 3 (Operand.tmp 19) (Operand.const (Value.int IntKind.i64 1)) 3), 3, none⟩,
   ⟨some 6, (Op.assign (Operand.tmp 20)), 3, none⟩]
def r45_9 : List VOp :=
  [⟨some 25, (Op.binOp BinOp.add 3 (Operand.tmp 9) (Operand.const (Value.int IntKind.i64 1)) 3), 3, none⟩,
   ⟨some 9, (Op.move (Operand.tmp 25)), 3, none⟩]
def r45_10 : List VOp :=
  [⟨some 26, (Op.move (Operand.tmp 3)), 49, none⟩,
   ⟨some 2, (Op.assign (Operand.tmp 26)), 49, none⟩]
def B45 : VC :=
  (.seq (.region r45_0) (.seq (.region r45_1) (.seq (.seq (.region r45_2) (.block 0 (.loop (.seq (.region r45_3) (.seq (.cond (Operand.tmp 10) .skip (.exit 0)) (.seq (.block 1 (.seq (.region r45_4) (.seq (.region r45_5) (.block 2 (.loop (.seq (.seq (.region r45_6) (.cond (Operand.tmp 18) .skip (.exit 2))) (.seq (.block 3 (.region r45_8)) (.region r45_7)))))))) (.region r45_9))))))) (.seq (.region r45_10) .ret))))
theorem code45 : ∃ c, Try.f45.body = some c ∧ abs Try.f45.ntmps c = B45 := ⟨_, rfl, by kernel_rfl⟩
theorem hb45 : HasBody Try.prog 45 := hasBody_of Try.func45 (by kernel_rfl)
theorem res45 : Try.f45.results = #[(ResultVar.tmp 2)] := rfl
theorem enter45 {w : World} {R : Value → World → Prop} (x0 : Value) (h : vc Try.prog B45 (retK Try.prog #[(ResultVar.tmp 2)] R) [] (initEnv [x0] 0) w) : FnC Try.prog 45 #[x0] w R := by
  obtain ⟨c, h1, h2⟩ := code45
  exact hb45.fn (ret_of_vc mixed Try.func45 h1 (Nat.le_of_ble_eq_true rfl) B45 h2 h)
@[push_cast] theorem vr45_0 (Q : Post) (ds : List Deferred) (σ : Env) (w : World) : vc Try.prog (.region r45_0) Q ds σ w = vcOps Try.prog [⟨some 2, (Op.assign (Operand.const (Value.slice none 0 0))), 49, none⟩] (Q .normal ds) σ w := mk_eq rfl
@[push_cast] theorem vr45_1 (Q : Post) (ds : List Deferred) (σ : Env) (w : World) : vc Try.prog (.region r45_1) Q ds σ w = vcOps Try.prog [⟨some 3, (Op.assign (Operand.const (Value.slice none 0 0))), 49, none⟩] (Q .normal ds) σ w := mk_eq rfl
@[push_cast] theorem vr45_2 (Q : Post) (ds : List Deferred) (σ : Env) (w : World) : vc Try.prog (.region r45_2) Q ds σ w = vcOps Try.prog [⟨some 7, (Op.move (Operand.tmp 0)), 22, none⟩, ⟨some 8, (Op.call { callee := (Callee.builtin Builtin.len), args := #[(Operand.tmp 7)], argTypes := #[22] }), 3, none⟩, ⟨some 9, (Op.move (Operand.const (Value.int IntKind.i64 0))), 3, none⟩] (Q .normal ds) σ w := mk_eq rfl
@[push_cast] theorem vr45_3 (Q : Post) (ds : List Deferred) (σ : Env) (w : World) : vc Try.prog (.region r45_3) Q ds σ w = vcOps Try.prog [⟨some 10, (Op.binOp BinOp.lss 3 (Operand.tmp 9) (Operand.tmp 8) 3), 0, none⟩] (Q .normal ds) σ w := mk_eq rfl
@[push_cast] theorem vr45_4 (Q : Post) (ds : List Deferred) (σ : Env) (w : World) : vc Try.prog (.region r45_4) Q ds σ w = vcOps Try.prog [⟨some 11, (Op.indexAddr 22 (Operand.tmp 7) (Operand.tmp 9)), 0, none⟩, ⟨some 12, (Op.load 63 (Operand.tmp 11)), 63, none⟩, ⟨some 5, (Op.alloc 63), 0, none⟩, ⟨none, (Op.store 63 (Operand.tmp 5) (Operand.tmp 12)), 0, none⟩] (Q .normal ds) σ w := mk_eq rfl
@[push_cast] theorem vr45_5 (Q : Post) (ds : List Deferred) (σ : Env) (w : World) : vc Try.prog (.region r45_5) Q ds σ w = vcOps Try.prog [⟨some 13, (Op.fieldAddr 63 (Operand.tmp 5) 0), 0, none⟩, ⟨some 14, (Op.load 3 (Operand.tmp 13)), 3, none⟩, ⟨some 6, (Op.assign (Operand.tmp 14)), 3, none⟩] (Q .normal ds) σ w := mk_eq rfl
@[push_cast] theorem vr45_6 (Q : Post) (ds : List Deferred) (σ : Env) (w : World) : vc Try.prog (.region r45_6) Q ds σ w = vcOps Try.prog [⟨some 15, (Op.move (Operand.tmp 6)), 3, none⟩, ⟨some 16, (Op.fieldAddr 63 (Operand.tmp 5) 1), 0, none⟩, ⟨some 17, (Op.load 3 (Operand.tmp 16)), 3, none⟩, ⟨some 18, (Op.binOp BinOp.lss 3 (Operand.tmp 15) (Operand.tmp 17) 3), 4, none⟩] (Q .normal ds) σ w := mk_eq rfl
@[push_cast] theorem vr45_8 (Q : Post) (ds : List Deferred) (σ : Env) (w : World) : vc Try.prog (.region r45_8) Q ds σ w = vcOps Try.prog [⟨some 21, (Op.move (Operand.tmp 3)), 49, none⟩, ⟨some 22, (Op.move (Operand.tmp 6)), 3, none⟩, ⟨some 23, (Op.buildSlice 49 1 #[(0, (Operand.tmp 22))]), 49, none⟩, ⟨some 24, (Op.call { callee := (Callee.builtin Builtin.append), args := #[(Operand.tmp 21), (Operand.tmp 23)], argTypes := #[49, 49] }), 49, none⟩, ⟨some 3, (Op.assign (Operand.tmp 24)), 49, none⟩] (Q .normal ds) σ w := mk_eq rfl
@[push_cast] theorem vr45_7 (Q : Post) (ds : List Deferred) (σ : Env) (w : World) : vc Try.prog (.region r45_7) Q ds σ w = vcOps Try.prog [⟨some 19, (Op.move (Operand.tmp 6)), 3, none⟩, ⟨some 20, (Op.binOp BinOp.add 3 (Operand.tmp 19) (Operand.const (Value.int IntKind.i64 1)) 3), 3, none⟩, ⟨some 6, (Op.assign (Operand.tmp 20)), 3, none⟩] (Q .normal ds) σ w := mk_eq rfl
@[push_cast] theorem vr45_9 (Q : Post) (ds : List Deferred) (σ : Env) (w : World) : vc Try.prog (.region r45_9) Q ds σ w = vcOps Try.prog [⟨some 25, (Op.binOp BinOp.add 3 (Operand.tmp 9) (Operand.const (Value.int IntKind.i64 1)) 3), 3, none⟩, ⟨some 9, (Op.move (Operand.tmp 25)), 3, none⟩] (Q .normal ds) σ w := mk_eq rfl
@[push_cast] theorem vr45_10 (Q : Post) (ds : List Deferred) (σ : Env) (w : World) : vc Try.prog (.region r45_10) Q ds σ w = vcOps Try.prog [⟨some 26, (Op.move (Operand.tmp 3)), 49, none⟩, ⟨some 2, (Op.assign (Operand.tmp 26)), 49, none⟩] (Q .normal ds) σ w := mk_eq rfl
/-! 46 columbary/columbaryref04.Rising (params #[49], results #[(ResultVar.tmp 2)], 87 slots) -/
def W46_0 : List Nat := [3, 4, 5, 6, 7, 8, 9, 10, 11, 12, 13, 14, 15, 16, 17, 18, 19, 20, 21, 22, 23, 24, 25, 26, 27, 28, 29, 30, 31, 32, 33, 34, 35, 36, 37, 38, 39, 40, 41, 42, 43, 44, 45, 46, 47, 48, 49, 50, 51, 52, 53, 54, 55, 56, 57, 58, 59, 60, 61, 62, 63, 64, 65, 66, 67, 68, 69, 70, 71, 72, 73, 74, 75, 76, 77, 78, 79, 80, 81, 82, 83, 84, 85]
@[push_cast] theorem W46_0_def : W46_0 = [3, 4, 5, 6, 7, 8, 9, 10, 11, 12, 13, 14, 15, 16, 17, 18, 19, 20, 21, 22, 23, 24, 25, 26, 27, 28, 29, 30, 31, 32, 33, 34, 35, 36, 37, 38, 39, 40, 41, 42, 43, 44, 45, 46, 47, 48, 49, 50, 51, 52, 53, 54, 55, 56, 57, 58, 59, 60, 61, 62, 63, 64, 65, 66, 67, 68, 69, 70, 71, 72, 73, 74, 75, 76, 77, 78, 79, 80, 81, 82, 83, 84, 85] := mk_eq rfl
def W46_1 : List Nat := [5, 36, 37, 38, 39, 40, 41, 42, 43, 44, 45, 46, 47, 48, 49, 50, 51, 52]
@[push_cast] theorem W46_1_def : W46_1 = [5, 36, 37, 38, 39, 40, 41, 42, 43, 44, 45, 46, 47, 48, 49, 50, 51, 52] := mk_eq rfl
def r46_0 : List VOp :=
  [⟨some 2, (Op.assign (Operand.const (Value.slice none 0 0))), 49, none⟩]
def r46_1 : List VOp :=
  [⟨some 3, (Op.assign (Operand.const (Value.slice none 0 0))), 49, none⟩]
def r46_2 : List VOp :=
  [⟨some 4, (Op.assign (Operand.const (Value.int IntKind.i64 0))), 3, none⟩]
def r46_3 : List VOp :=
  [⟨some 7, (Op.move (Operand.tmp 4)), 3, none⟩,
   ⟨some 8, (Op.move (Operand.tmp 0)), 49, none⟩,
   ⟨some 9, (Op.call { callee := (Callee.builtin Builtin.len), args := #[(Operand.tmp 8)], argTypes := #[49] }), 3, none⟩,
   ⟨some 10, (Op.binOp BinOp.lss 3 (Operand.tmp 7) (Operand.tmp 9) 3), 4, none⟩]
def r46_5 : List VOp :=
  [⟨some 13, (Op.move (Operand.tmp 3)), 49, none⟩,
   ⟨some 14, (Op.call { callee := (Callee.builtin Builtin.len), args := #[(Operand.tmp 13)], argTypes := #[49] }), 3, none⟩,
   ⟨some 15, (Op.binOp BinOp.eql 3 (Operand.tmp 14) (Operand.const (Value.int IntKind.i64 0)) 3), 4, none⟩,
   ⟨some 16, (Op.move (Operand.tmp 15)), 4, none⟩,
   ⟨some 17, (Op.move (Operand.tmp 0)), 49, some (16, false)⟩,
   ⟨some 18, (Op.move (Operand.tmp 4)), 3, some (16, false)⟩,
   ⟨some 19, (Op.indexAddr 49 (Operand.tmp 17) (Operand.tmp 18)), 0, some (16, false)⟩,
   ⟨some 20, (Op.load 3 (Operand.tmp 19)), 3, some (16, false)⟩,
   ⟨some 21, (Op.move (Operand.tmp 3)), 49, some (16, false)⟩,
   ⟨some 22, (Op.move (Operand.tmp 3)), 49, some (16, false)⟩,
   ⟨some 23, (Op.call { callee := (Callee.builtin Builtin.len), args := #[(Operand.tmp 22)], argTypes := #[49] }), 3, some (16, false)⟩,
   ⟨some 24, (Op.binOp BinOp.sub 3 (Operand.tmp 23) (Operand.const (Value.int IntKind.i64 1)) 3), 3, some (16, false)⟩,
   ⟨some 25, (Op.indexAddr 49 (Operand.tmp 21) (Operand.tmp 24)), 0, some (16, false)⟩,
   ⟨some 26, (Op.load 3 (Operand.tmp 25)), 3, some (16, false)⟩,
   ⟨some 27, (Op.binOp BinOp.gtr 3 (Operand.tmp 20) (Operand.tmp 26) 3), 4, some (16, false)⟩,
   ⟨some 28, (Op.pick (Operand.tmp 16) (Operand.const (Value.bool true)) (Operand.tmp 27)), 4, none⟩]
def r46_6 : List VOp :=
  [⟨some 29, (Op.move (Operand.tmp 3)), 49, none⟩,
   ⟨some 30, (Op.move (Operand.tmp 0)), 49, none⟩,
   ⟨some 31, (Op.move (Operand.tmp 4)), 3, none⟩,
   ⟨some 32, (Op.indexAddr 49 (Operand.tmp 30) (Operand.tmp 31)), 0, none⟩,
   ⟨some 33, (Op.load 3 (Operand.tmp 32)), 3, none⟩,
   ⟨some 34, (Op.buildSlice 49 1 #[(0, (Operand.tmp 33))]), 49, none⟩,
   ⟨some 35, (Op.call { callee := (Callee.builtin Builtin.append), args := #[(Operand.tmp 29), (Operand.tmp 34)], argTypes := #[49, 49] }), 49, none⟩,
   ⟨some 3, (Op.assign (Operand.tmp 35)), 49, none⟩]
def r46_7 : List VOp :=
  [⟨some 5, (Op.assign (Operand.const (Value.int IntKind.i64 0))), 3, none⟩]
def r46_8 : List VOp :=
  [⟨some 36, (Op.move (Operand.tmp 5)), 3, none⟩,
   ⟨some 37, (Op.move (Operand.tmp 3)), 49, none⟩,
   ⟨some 38, (Op.call { callee := (Callee.builtin Builtin.len), args := #[(Operand.tmp 37)], argTypes := #[49] }), 3, none⟩,
   ⟨some 39, (Op.binOp BinOp.lss 3 (Operand.tmp 36) (Operand.tmp 38) 3), 4, none⟩,
   ⟨some 40, (Op.move (Operand.tmp 39)), 4, none⟩,
   ⟨some 41, (Op.move (Operand.tmp 3)), 49, some (40, true)⟩,
   ⟨some 42, (Op.move (Operand.tmp 5)), 3, some (40, true)⟩,
   ⟨some 43, (Op.indexAddr 49 (Operand.tmp 41) (Operand.tmp 42)), 0, some (40, true)⟩,
   ⟨some 44, (Op.load 3 (Operand.tmp 43)), 3, some (40, true)⟩,
   ⟨some 45, (Op.move (Operand.tmp 0)), 49, some (40, true)⟩,
   ⟨some 46, (Op.move (Operand.tmp 4)), 3, some (40, true)⟩,
   ⟨some 47, (Op.indexAddr 49 (Operand.tmp 45) (Operand.tmp 46)), 0, some (40, true)⟩,
   ⟨some 48, (Op.load 3 (Operand.tmp 47)), 3, some (40, true)⟩,
   ⟨some 49, (Op.binOp BinOp.lss 3 (Operand.tmp 44) (Operand.tmp 48) 3), 4, some (40, true)⟩,
   ⟨some 50, (Op.pick (Operand.tmp 40) (Operand.tmp 49) (Operand.const (Value.bool false))), 4, none⟩]
def r46_9 : List VOp :=
  [⟨some 51, (Op.move (Operand.tmp 5)), 3, none⟩,
   ⟨some 52, (Op.binOp BinOp.add 3 (Operand.tmp 51) (Operand.const (Value.int IntKind.i64 1)) 3), 3, none⟩,
   ⟨some 5, (Op.assign (Operand.tmp 52)), 3, none⟩]
def r46_10 : List VOp :=
  [⟨some 53, (Op.move (Operand.tmp 5)), 3, none⟩,
   ⟨some 54, (Op.move (Operand.tmp 3)), 49, none⟩,
   ⟨some 55, (Op.call { callee := (Callee.builtin Builtin.len), args := #[(Operand.tmp 54)], argTypes := #[49] }), 3, none⟩,
   ⟨some 56, (Op.binOp BinOp.eql 3 (Operand.tmp 53) (Operand.tmp 55) 3), 4, none⟩,
   ⟨some 57, (Op.move (Operand.tmp 56)), 4, none⟩,
   ⟨some 58, (Op.move (Operand.tmp 3)), 49, some (57, false)⟩,
   ⟨some 59, (Op.move (Operand.tmp 5)), 3, some (57, false)⟩,
   ⟨some 60, (Op.indexAddr 49 (Operand.tmp 58) (Operand.tmp 59)), 0, some (57, false)⟩,
   ⟨some 61, (Op.load 3 (Operand.tmp 60)), 3, some (57, false)⟩,
   ⟨some 62, (Op.move (Operand.tmp 0)), 49, some (57, false)⟩,
   ⟨some 63, (Op.move (Operand.tmp 4)), 3, some (57, false)⟩,
   ⟨some 64, (Op.indexAddr 49 (Operand.tmp 62) (Operand.tmp 63)), 0, some (57, false)⟩,
   ⟨some 65, (Op.load 3 (Operand.tmp 64)), 3, some (57, false)⟩,
   ⟨some 66, (Op.binOp BinOp.neq 3 (Operand.tmp 61) (Operand.tmp 65) 3), 4, some (57, false)⟩,
   ⟨some 67, (Op.pick (Operand.tmp 57) (Operand.const (Value.bool true)) (Operand.tmp 66)), 4, none⟩]
def r46_11 : List VOp :=
  [⟨some 68, (Op.buildSlice 49 0 #[]), 49, none⟩,
   ⟨some 69, (Op.move (Operand.tmp 3)), 49, none⟩,
   ⟨some 70, (Op.move (Operand.tmp 5)), 3, none⟩,
   ⟨some 71, (Op.slice 49 (Operand.tmp 69) none (some (Operand.tmp 70)) none), 49, none⟩,
   ⟨some 72, (Op.call { callee := (Callee.builtin Builtin.append), args := #[(Operand.tmp 68), (Operand.tmp 71)], argTypes := #[49, 49] }), 49, none⟩,
   ⟨some 6, (Op.assign (Operand.tmp 72)), 49, none⟩]
def r46_12 : List VOp :=
  [⟨some 73, (Op.move (Operand.tmp 6)), 49, none⟩,
   ⟨some 74, (Op.move (Operand.tmp 0)), 49, none⟩,
   ⟨some 75, (Op.move (Operand.tmp 4)), 3, none⟩,
   ⟨some 76, (Op.indexAddr 49 (Operand.tmp 74) (Operand.tmp 75)), 0, none⟩,
   ⟨some 77, (Op.load 3 (Operand.tmp 76)), 3, none⟩,
   ⟨some 78, (Op.buildSlice 49 1 #[(0, (Operand.tmp 77))]), 49, none⟩,
   ⟨some 79, (Op.call { callee := (Callee.builtin Builtin.append), args := #[(Operand.tmp 73), (Operand.tmp 78)], argTypes := #[49, 49] }), 49, none⟩,
   ⟨some 6, (Op.assign (Operand.tmp 79)), 49, none⟩]
def r46_13 : List VOp :=
  [⟨some 80, (Op.move (Operand.tmp 6)), 49, none⟩,
   ⟨some 81, (Op.move (Operand.tmp 3)), 49, none⟩,
   ⟨some 82, (Op.move (Operand.tmp 5)), 3, none⟩,
   ⟨some 83, (Op.slice 49 (Operand.tmp 81) (some (Operand.tmp 82)) none none), 49, none⟩,
   ⟨some 84, (Op.call { callee := (Callee.builtin Builtin.append), args := #[(Operand.tmp 80), (Operand.tmp 83)], argTypes := #[49, 49] }), 49, none⟩,
   ⟨some 6, (Op.assign (Operand.tmp 84)), 49, none⟩]
def r46_14 : List VOp :=
  [⟨some 85, (Op.move (Operand.tmp 6)), 49, none⟩,
   ⟨some 3, (Op.assign (Operand.tmp 85)), 49, none⟩]
def r46_4 : List VOp :=
  [⟨some 11, (Op.move (Operand.tmp 4)), 3, none⟩,
   ⟨some 12, (Op.binOp BinOp.add 3 (Operand.tmp 11) (Operand.const (Value.int IntKind.i64 1)) 3), 3, none⟩,
   ⟨some 4, (Op.assign (Operand.tmp 12)), 3, none⟩]
def r46_15 : List VOp :=
  [⟨some 86, (Op.move (Operand.tmp 3)), 49, none⟩,
   ⟨some 2, (Op.assign (Operand.tmp 86)), 49, none⟩]
def B46 : VC :=
  (.seq (.region r46_0) (.seq (.region r46_1) (.seq (.seq (.region r46_2) (.block 0 (.loop (.seq (.seq (.region r46_3) (.cond (Operand.tmp 10) .skip (.exit 0))) (.seq (.block 1 (.seq (.seq (.draw r46_5 3) (.cond (Operand.tmp 28) (.seq (.region r46_6) (.exit 1)) .skip)) (.seq (.region r46_7) (.seq (.block 2 (.loop (.seq (.seq (.draw r46_8 3) (.cond (Operand.tmp 50) .skip (.exit 2))) (.block 3 (.region r46_9))))) (.seq (.draw r46_10 3) (.cond (Operand.tmp 67) (.seq (.region r46_11) (.seq (.region r46_12) (.seq (.region r46_13) (.region r46_14)))) .skip)))))) (.region r46_4)))))) (.seq (.region r46_15) .ret))))
theorem code46 : ∃ c, Try.f46.body = some c ∧ abs Try.f46.ntmps c = B46 := ⟨_, rfl, by kernel_rfl⟩
theorem hb46 : HasBody Try.prog 46 := hasBody_of Try.func46 (by kernel_rfl)
theorem res46 : Try.f46.results = #[(ResultVar.tmp 2)] := rfl
theorem enter46 {w : World} {R : Value → World → Prop} (x0 : Value) (h : vc Try.prog B46 (retK Try.prog #[(ResultVar.tmp 2)] R) [] (initEnv [x0] 0) w) : FnC Try.prog 46 #[x0] w R := by
  obtain ⟨c, h1, h2⟩ := code46
  exact hb46.fn (ret_of_vc mixed Try.func46 h1 (Nat.le_of_ble_eq_true rfl) B46 h2 h)
@[push_cast] theorem vr46_0 (Q : Post) (ds : List Deferred) (σ : Env) (w : World) : vc Try.prog (.region r46_0) Q ds σ w = vcOps Try.prog [⟨some 2, (Op.assign (Operand.const (Value.slice none 0 0))), 49, none⟩] (Q .normal ds) σ w := mk_eq rfl
@[push_cast] theorem vr46_1 (Q : Post) (ds : List Deferred) (σ : Env) (w : World) : vc Try.prog (.region r46_1) Q ds σ w = vcOps Try.prog [⟨some 3, (Op.assign (Operand.const (Value.slice none 0 0))), 49, none⟩] (Q .normal ds) σ w := mk_eq rfl
@[push_cast] theorem vr46_2 (Q : Post) (ds : List Deferred) (σ : Env) (w : World) : vc Try.prog (.region r46_2) Q ds σ w = vcOps Try.prog [⟨some 4, (Op.assign (Operand.const (Value.int IntKind.i64 0))), 3, none⟩] (Q .normal ds) σ w := mk_eq rfl
@[push_cast] theorem vr46_3 (Q : Post) (ds : List Deferred) (σ : Env) (w : World) : vc Try.prog (.region r46_3) Q ds σ w = vcOps Try.prog [⟨some 7, (Op.move (Operand.tmp 4)), 3, none⟩, ⟨some 8, (Op.move (Operand.tmp 0)), 49, none⟩, ⟨some 9, (Op.call { callee := (Callee.builtin Builtin.len), args := #[(Operand.tmp 8)], argTypes := #[49] }), 3, none⟩, ⟨some 10, (Op.binOp BinOp.lss 3 (Operand.tmp 7) (Operand.tmp 9) 3), 4, none⟩] (Q .normal ds) σ w := mk_eq rfl
@[push_cast] theorem vr46_5 (Q : Post) (ds : List Deferred) (σ : Env) (w : World) : vc Try.prog (.draw r46_5 3) Q ds σ w = drawn Try.prog [(⟨some 13, (Op.move (Operand.tmp 3)), 49, none⟩, [3]), (⟨some 14, (Op.call { callee := (Callee.builtin Builtin.len), args := #[(Operand.tmp 13)], argTypes := #[49] }), 3, none⟩, [13]), (⟨some 15, (Op.binOp BinOp.eql 3 (Operand.tmp 14) (Operand.const (Value.int IntKind.i64 0)) 3), 4, none⟩, [14]), (⟨some 16, (Op.move (Operand.tmp 15)), 4, none⟩, [15]), (⟨some 17, (Op.move (Operand.tmp 0)), 49, some (16, false)⟩, [0, 16]), (⟨some 18, (Op.move (Operand.tmp 4)), 3, some (16, false)⟩, [4, 16]), (⟨some 19, (Op.indexAddr 49 (Operand.tmp 17) (Operand.tmp 18)), 0, some (16, false)⟩, [17, 18, 16]), (⟨some 20, (Op.load 3 (Operand.tmp 19)), 3, some (16, false)⟩, [19, 16]), (⟨some 21, (Op.move (Operand.tmp 3)), 49, some (16, false)⟩, [3, 16]), (⟨some 22, (Op.move (Operand.tmp 3)), 49, some (16, false)⟩, [3, 16]), (⟨some 23, (Op.call { callee := (Callee.builtin Builtin.len), args := #[(Operand.tmp 22)], argTypes := #[49] }), 3, some (16, false)⟩, [22, 16]), (⟨some 24, (Op.binOp BinOp.sub 3 (Operand.tmp 23) (Operand.const (Value.int IntKind.i64 1)) 3), 3, some (16, false)⟩, [23, 16]), (⟨some 25, (Op.indexAddr 49 (Operand.tmp 21) (Operand.tmp 24)), 0, some (16, false)⟩, [21, 24, 16]), (⟨some 26, (Op.load 3 (Operand.tmp 25)), 3, some (16, false)⟩, [25, 16]), (⟨some 27, (Op.binOp BinOp.gtr 3 (Operand.tmp 20) (Operand.tmp 26) 3), 4, some (16, false)⟩, [20, 26, 16]), (⟨some 28, (Op.pick (Operand.tmp 16) (Operand.const (Value.bool true)) (Operand.tmp 27)), 4, none⟩, [16, 27])] 3 (Q .normal ds) σ w := mk_eq rfl
@[push_cast] theorem vr46_6 (Q : Post) (ds : List Deferred) (σ : Env) (w : World) : vc Try.prog (.region r46_6) Q ds σ w = vcOps Try.prog [⟨some 29, (Op.move (Operand.tmp 3)), 49, none⟩, ⟨some 30, (Op.move (Operand.tmp 0)), 49, none⟩, ⟨some 31, (Op.move (Operand.tmp 4)), 3, none⟩, ⟨some 32, (Op.indexAddr 49 (Operand.tmp 30) (Operand.tmp 31)), 0, none⟩, ⟨some 33, (Op.load 3 (Operand.tmp 32)), 3, none⟩, ⟨some 34, (Op.buildSlice 49 1 #[(0, (Operand.tmp 33))]), 49, none⟩, ⟨some 35, (Op.call { callee := (Callee.builtin Builtin.append), args := #[(Operand.tmp 29), (Operand.tmp 34)], argTypes := #[49, 49] }), 49, none⟩, ⟨some 3, (Op.assign (Operand.tmp 35)), 49, none⟩] (Q .normal ds) σ w := mk_eq rfl
@[push_cast] theorem vr46_7 (Q : Post) (ds : List Deferred) (σ : Env) (w : World) : vc Try.prog (.region r46_7) Q ds σ w = vcOps Try.prog [⟨some 5, (Op.assign (Operand.const (Value.int IntKind.i64 0))), 3, none⟩] (Q .normal ds) σ w := mk_eq rfl
@[push_cast] theorem vr46_8 (Q : Post) (ds : List Deferred) (σ : Env) (w : World) : vc Try.prog (.draw r46_8 3) Q ds σ w = drawn Try.prog [(⟨some 36, (Op.move (Operand.tmp 5)), 3, none⟩, [5]), (⟨some 37, (Op.move (Operand.tmp 3)), 49, none⟩, [3]), (⟨some 38, (Op.call { callee := (Callee.builtin Builtin.len), args := #[(Operand.tmp 37)], argTypes := #[49] }), 3, none⟩, [37]), (⟨some 39, (Op.binOp BinOp.lss 3 (Operand.tmp 36) (Operand.tmp 38) 3), 4, none⟩, [36, 38]), (⟨some 40, (Op.move (Operand.tmp 39)), 4, none⟩, [39]), (⟨some 41, (Op.move (Operand.tmp 3)), 49, some (40, true)⟩, [3, 40]), (⟨some 42, (Op.move (Operand.tmp 5)), 3, some (40, true)⟩, [5, 40]), (⟨some 43, (Op.indexAddr 49 (Operand.tmp 41) (Operand.tmp 42)), 0, some (40, true)⟩, [41, 42, 40]), (⟨some 44, (Op.load 3 (Operand.tmp 43)), 3, some (40, true)⟩, [43, 40]), (⟨some 45, (Op.move (Operand.tmp 0)), 49, some (40, true)⟩, [0, 40]), (⟨some 46, (Op.move (Operand.tmp 4)), 3, some (40, true)⟩, [4, 40]), (⟨some 47, (Op.indexAddr 49 (Operand.tmp 45) (Operand.tmp 46)), 0, some (40, true)⟩, [45, 46, 40]), (⟨some 48, (Op.load 3 (Operand.tmp 47)), 3, some (40, true)⟩, [47, 40]), (⟨some 49, (Op.binOp BinOp.lss 3 (Operand.tmp 44) (Operand.tmp 48) 3), 4, some (40, true)⟩, [44, 48, 40]), (⟨some 50, (Op.pick (Operand.tmp 40) (Operand.tmp 49) (Operand.const (Value.bool false))), 4, none⟩, [40, 49])] 3 (Q .normal ds) σ w := mk_eq rfl
@[push_cast] theorem vr46_9 (Q : Post) (ds : List Deferred) (σ : Env) (w : World) : vc Try.prog (.region r46_9) Q ds σ w = vcOps Try.prog [⟨some 51, (Op.move (Operand.tmp 5)), 3, none⟩, ⟨some 52, (Op.binOp BinOp.add 3 (Operand.tmp 51) (Operand.const (Value.int IntKind.i64 1)) 3), 3, none⟩, ⟨some 5, (Op.assign (Operand.tmp 52)), 3, none⟩] (Q .normal ds) σ w := mk_eq rfl
@[push_cast] theorem vr46_10 (Q : Post) (ds : List Deferred) (σ : Env) (w : World) : vc Try.prog (.draw r46_10 3) Q ds σ w = drawn Try.prog [(⟨some 53, (Op.move (Operand.tmp 5)), 3, none⟩, [5]), (⟨some 54, (Op.move (Operand.tmp 3)), 49, none⟩, [3]), (⟨some 55, (Op.call { callee := (Callee.builtin Builtin.len), args := #[(Operand.tmp 54)], argTypes := #[49] }), 3, none⟩, [54]), (⟨some 56, (Op.binOp BinOp.eql 3 (Operand.tmp 53) (Operand.tmp 55) 3), 4, none⟩, [53, 55]), (⟨some 57, (Op.move (Operand.tmp 56)), 4, none⟩, [56]), (⟨some 58, (Op.move (Operand.tmp 3)), 49, some (57, false)⟩, [3, 57]), (⟨some 59, (Op.move (Operand.tmp 5)), 3, some (57, false)⟩, [5, 57]), (⟨some 60, (Op.indexAddr 49 (Operand.tmp 58) (Operand.tmp 59)), 0, some (57, false)⟩, [58, 59, 57]), (⟨some 61, (Op.load 3 (Operand.tmp 60)), 3, some (57, false)⟩, [60, 57]), (⟨some 62, (Op.move (Operand.tmp 0)), 49, some (57, false)⟩, [0, 57]), (⟨some 63, (Op.move (Operand.tmp 4)), 3, some (57, false)⟩, [4, 57]), (⟨some 64, (Op.indexAddr 49 (Operand.tmp 62) (Operand.tmp 63)), 0, some (57, false)⟩, [62, 63, 57]), (⟨some 65, (Op.load 3 (Operand.tmp 64)), 3, some (57, false)⟩, [64, 57]), (⟨some 66, (Op.binOp BinOp.neq 3 (Operand.tmp 61) (Operand.tmp 65) 3), 4, some (57, false)⟩, [61, 65, 57]), (⟨some 67, (Op.pick (Operand.tmp 57) (Operand.const (Value.bool true)) (Operand.tmp 66)), 4, none⟩, [57, 66])] 3 (Q .normal ds) σ w := mk_eq rfl
@[push_cast] theorem vr46_11 (Q : Post) (ds : List Deferred) (σ : Env) (w : World) : vc Try.prog (.region r46_11) Q ds σ w = vcOps Try.prog [⟨some 68, (Op.buildSlice 49 0 #[]), 49, none⟩, ⟨some 69, (Op.move (Operand.tmp 3)), 49, none⟩, ⟨some 70, (Op.move (Operand.tmp 5)), 3, none⟩, ⟨some 71, (Op.slice 49 (Operand.tmp 69) none (some (Operand.tmp 70)) none), 49, none⟩, ⟨some 72, (Op.call { callee := (Callee.builtin Builtin.append), args := #[(Operand.tmp 68), (Operand.tmp 71)], argTypes := #[49, 49] }), 49, none⟩, ⟨some 6, (Op.assign (Operand.tmp 72)), 49, none⟩] (Q .normal ds) σ w := mk_eq rfl
@[push_cast] theorem vr46_12 (Q : Post) (ds : List Deferred) (σ : Env) (w : World) : vc Try.prog (.region r46_12) Q ds σ w = vcOps Try.prog [⟨some 73, (Op.move (Operand.tmp 6)), 49, none⟩, ⟨some 74, (Op.move (Operand.tmp 0)), 49, none⟩, ⟨some 75, (Op.move (Operand.tmp 4)), 3, none⟩, ⟨some 76, (Op.indexAddr 49 (Operand.tmp 74) (Operand.tmp 75)), 0, none⟩, ⟨some 77, (Op.load 3 (Operand.tmp 76)), 3, none⟩, ⟨some 78, (Op.buildSlice 49 1 #[(0, (Operand.tmp 77))]), 49, none⟩, ⟨some 79, (Op.call { callee := (Callee.builtin Builtin.append), args := #[(Operand.tmp 73), (Operand.tmp 78)], argTypes := #[49, 49] }), 49, none⟩, ⟨some 6, (Op.assign (Operand.tmp 79)), 49, none⟩] (Q .normal ds) σ w := mk_eq rfl
@[push_cast] theorem vr46_13 (Q : Post) (ds : List Deferred) (σ : Env) (w : World) : vc Try.prog (.region r46_13) Q ds σ w = vcOps Try.prog [⟨some 80, (Op.move (Operand.tmp 6)), 49, none⟩, ⟨some 81, (Op.move (Operand.tmp 3)), 49, none⟩, ⟨some 82, (Op.move (Operand.tmp 5)), 3, none⟩, ⟨some 83, (Op.slice 49 (Operand.tmp 81) (some (Operand.tmp 82)) none none), 49, none⟩, ⟨some 84, (Op.call { callee := (Callee.builtin Builtin.append), args := #[(Operand.tmp 80), (Operand.tmp 83)], argTypes := #[49, 49] }), 49, none⟩, ⟨some 6, (Op.assign (Operand.tmp 84)), 49, none⟩] (Q .normal ds) σ w := mk_eq rfl
@[push_cast] theorem vr46_14 (Q : Post) (ds : List Deferred) (σ : Env) (w : World) : vc Try.prog (.region r46_14) Q ds σ w = vcOps Try.prog [⟨some 85, (Op.move (Operand.tmp 6)), 49, none⟩, ⟨some 3, (Op.assign (Operand.tmp 85)), 49, none⟩] (Q .normal ds) σ w := mk_eq rfl
@[push_cast] theorem vr46_4 (Q : Post) (ds : List Deferred) (σ : Env) (w : World) : vc Try.prog (.region r46_4) Q ds σ w = vcOps Try.prog [⟨some 11, (Op.move (Operand.tmp 4)), 3, none⟩, ⟨some 12, (Op.binOp BinOp.add 3 (Operand.tmp 11) (Operand.const (Value.int IntKind.i64 1)) 3), 3, none⟩, ⟨some 4, (Op.assign (Operand.tmp 12)), 3, none⟩] (Q .normal ds) σ w := mk_eq rfl
@[push_cast] theorem vr46_15 (Q : Post) (ds : List Deferred) (σ : Env) (w : World) : vc Try.prog (.region r46_15) Q ds σ w = vcOps Try.prog [⟨some 86, (Op.move (Operand.tmp 3)), 49, none⟩, ⟨some 2, (Op.assign (Operand.tmp 86)), 49, none⟩] (Q .normal ds) σ w := mk_eq rfl
/-! 47 columbary/runs.Right (params #[22], results #[(ResultVar.tmp 2)], 31 slots) -/
def W47_0 : List Nat := [2, 3, 5, 8, 9, 10, 11, 12, 13, 14, 15, 16, 17, 18, 19, 20, 21, 22, 23, 24, 25, 26, 27, 28, 29, 30]
@[push_cast] theorem W47_0_def : W47_0 = [2, 3, 5, 8, 9, 10, 11, 12, 13, 14, 15, 16, 17, 18, 19, 20, 21, 22, 23, 24, 25, 26, 27, 28, 29, 30] := mk_eq rfl
def r47_0 : List VOp :=
  [⟨some 2, (Op.assign (Operand.const (Value.bool false))), 4, none⟩]
def r47_1 : List VOp :=
  [⟨some 3, (Op.assign (Operand.const (Value.int IntKind.i64 (-1)))), 3, none⟩]
def r47_2 : List VOp :=
  [⟨some 6, (Op.move (Operand.tmp 0)), 22, none⟩,
   ⟨some 7, (Op.call { callee := (Callee.builtin Builtin.len), args := #[(Operand.tmp 6)], argTypes := #[22] }), 3, none⟩,
   ⟨some 8, (Op.move (Operand.const (Value.int IntKind.i64 0))), 3, none⟩]
def r47_3 : List VOp :=
  [⟨some 9, (Op.binOp BinOp.lss 3 (Operand.tmp 8) (Operand.tmp 7) 3), 0, none⟩]
def r47_4 : List VOp :=
  [⟨some 10, (Op.indexAddr 22 (Operand.tmp 6) (Operand.tmp 8)), 0, none⟩,
   ⟨some 11, (Op.load 63 (Operand.tmp 10)), 63, none⟩,
   ⟨some 5, (Op.alloc 63), 0, none⟩,
   ⟨none, (Op.store 63 (Operand.tmp 5) (Operand.tmp 11)), 0, none⟩]
def r47_5 : List VOp :=
  [⟨some 12, (Op.fieldAddr 63 (Operand.tmp 5) 0), 0, none⟩,
   ⟨some 13, (Op.load 3 (Operand.tmp 12)), 3, none⟩,
   ⟨some 14, (Op.move (Operand.tmp 3)), 3, none⟩,
   ⟨some 15, (Op.binOp BinOp.leq 3 (Operand.tmp 13) (Operand.tmp 14) 3), 4, none⟩,
   ⟨some 16, (Op.move (Operand.tmp 15)), 4, none⟩,
   ⟨some 17, (Op.fieldAddr 63 (Operand.tmp 5) 0), 0, some (16, false)⟩,
   ⟨some 18, (Op.load 3 (Operand.tmp 17)), 3, some (16, false)⟩,
   ⟨some 19, (Op.fieldAddr 63 (Operand.tmp 5) 1), 0, some (16, false)⟩,
   ⟨some 20, (Op.load 3 (Operand.tmp 19)), 3, some (16, false)⟩,
   ⟨some 21, (Op.binOp BinOp.geq 3 (Operand.tmp 18) (Operand.tmp 20) 3), 4, some (16, false)⟩,
   ⟨some 22, (Op.pick (Operand.tmp 16) (Operand.const (Value.bool true)) (Operand.tmp 21)), 4, none⟩,
   ⟨some 23, (Op.move (Operand.tmp 22)), 4, none⟩,
   ⟨some 24, (Op.fieldAddr 63 (Operand.tmp 5) 1), 0, some (23, false)⟩,
   ⟨some 25, (Op.load 3 (Operand.tmp 24)), 3, some (23, false)⟩,
   ⟨some 26, (Op.binOp BinOp.gtr 3 (Operand.tmp 25) (Operand.const (Value.int IntKind.i64 65536)) 3), 4, some (23, false)⟩,
   ⟨some 27, (Op.pick (Operand.tmp 23) (Operand.const (Value.bool true)) (Operand.tmp 26)), 4, none⟩]
def r47_6 : List VOp :=
  [⟨some 2, (Op.assign (Operand.const (Value.bool false))), 4, none⟩]
def r47_7 : List VOp :=
  [⟨some 28, (Op.fieldAddr 63 (Operand.tmp 5) 1), 0, none⟩,
   ⟨some 29, (Op.load 3 (Operand.tmp 28)), 3, none⟩,
   ⟨some 3, (Op.assign (Operand.tmp 29)), 3, none⟩]
def r47_8 : List VOp :=
  [⟨some 30, (Op.binOp BinOp.add 3 (Operand.tmp 8) (Operand.const (Value.int IntKind.i64 1)) 3), 3, none⟩,
   ⟨some 8, (Op.move (Operand.tmp 30)), 3, none⟩]
def r47_9 : List VOp :=
  [⟨some 2, (Op.assign (Operand.const (Value.bool true))), 4, none⟩]
def B47 : VC :=
  (.seq (.region r47_0) (.seq (.region r47_1) (.seq (.seq (.region r47_2) (.block 0 (.loop (.seq (.region r47_3) (.seq (.cond (Operand.tmp 9) .skip (.exit 0)) (.seq (.block 1 (.seq (.region r47_4) (.seq (.seq (.region r47_5) (.cond (Operand.tmp 27) (.seq (.region r47_6) .ret) .skip)) (.region r47_7)))) (.region r47_8))))))) (.seq (.region r47_9) .ret))))
theorem code47 : ∃ c, Try.f47.body = some c ∧ abs Try.f47.ntmps c = B47 := ⟨_, rfl, by kernel_rfl⟩
theorem hb47 : HasBody Try.prog 47 := hasBody_of Try.func47 (by kernel_rfl)
theorem res47 : Try.f47.results = #[(ResultVar.tmp 2)] := rfl
theorem enter47 {w : World} {R : Value → World → Prop} (x0 : Value) (h : vc Try.prog B47 (retK Try.prog #[(ResultVar.tmp 2)] R) [] (initEnv [x0] 0) w) : FnC Try.prog 47 #[x0] w R := by
  obtain ⟨c, h1, h2⟩ := code47
  exact hb47.fn (ret_of_vc mixed Try.func47 h1 (Nat.le_of_ble_eq_true rfl) B47 h2 h)
@[push_cast] theorem vr47_0 (Q : Post) (ds : List Deferred) (σ : Env) (w : World) : vc Try.prog (.region r47_0) Q ds σ w = vcOps Try.prog [⟨some 2, (Op.assign (Operand.const (Value.bool false))), 4, none⟩] (Q .normal ds) σ w := mk_eq rfl
@[push_cast] theorem vr47_1 (Q : Post) (ds : List Deferred) (σ : Env) (w : World) : vc Try.prog (.region r47_1) Q ds σ w = vcOps Try.prog [⟨some 3, (Op.assign (Operand.const (Value.int IntKind.i64 (-1)))), 3, none⟩] (Q .normal ds) σ w := mk_eq rfl
@[push_cast] theorem vr47_2 (Q : Post) (ds : List Deferred) (σ : Env) (w : World) : vc Try.prog (.region r47_2) Q ds σ w = vcOps Try.prog [⟨some 6, (Op.move (Operand.tmp 0)), 22, none⟩, ⟨some 7, (Op.call { callee := (Callee.builtin Builtin.len), args := #[(Operand.tmp 6)], argTypes := #[22] }), 3, none⟩, ⟨some 8, (Op.move (Operand.const (Value.int IntKind.i64 0))), 3, none⟩] (Q .normal ds) σ w := mk_eq rfl
@[push_cast] theorem vr47_3 (Q : Post) (ds : List Deferred) (σ : Env) (w : World) : vc Try.prog (.region r47_3) Q ds σ w = vcOps Try.prog [⟨some 9, (Op.binOp BinOp.lss 3 (Operand.tmp 8) (Operand.tmp 7) 3), 0, none⟩] (Q .normal ds) σ w := mk_eq rfl
@[push_cast] theorem vr47_4 (Q : Post) (ds : List Deferred) (σ : Env) (w : World) : vc Try.prog (.region r47_4) Q ds σ w = vcOps Try.prog [⟨some 10, (Op.indexAddr 22 (Operand.tmp 6) (Operand.tmp 8)), 0, none⟩, ⟨some 11, (Op.load 63 (Operand.tmp 10)), 63, none⟩, ⟨some 5, (Op.alloc 63), 0, none⟩, ⟨none, (Op.store 63 (Operand.tmp 5) (Operand.tmp 11)), 0, none⟩] (Q .normal ds) σ w := mk_eq rfl
@[push_cast] theorem vr47_5 (Q : Post) (ds : List Deferred) (σ : Env) (w : World) : vc Try.prog (.region r47_5) Q ds σ w = vcOps Try.prog [⟨some 12, (Op.fieldAddr 63 (Operand.tmp 5) 0), 0, none⟩, ⟨some 13, (Op.load 3 (Operand.tmp 12)), 3, none⟩, ⟨some 14, (Op.move (Operand.tmp 3)), 3, none⟩, ⟨some 15, (Op.binOp BinOp.leq 3 (Operand.tmp 13) (Operand.tmp 14) 3), 4, none⟩, ⟨some 16, (Op.move (Operand.tmp 15)), 4, none⟩, ⟨some 17, (Op.fieldAddr 63 (Operand.tmp 5) 0), 0, some (16, false)⟩, ⟨some 18, (Op.load 3 (Operand.tmp 17)), 3, some (16, false)⟩, ⟨some 19, (Op.fieldAddr 63 (Operand.tmp 5) 1), 0, some (16, false)⟩, ⟨some 20, (Op.load 3 (Operand.tmp 19)), 3, some (16, false)⟩, ⟨some 21, (Op.binOp BinOp.geq 3 (Operand.tmp 18) (Operand.tmp 20) 3), 4, some (16, false)⟩, ⟨some 22, (Op.pick (Operand.tmp 16) (Operand.const (Value.bool true)) (Operand.tmp 21)), 4, none⟩, ⟨some 23, (Op.move (Operand.tmp 22)), 4, none⟩, ⟨some 24, (Op.fieldAddr 63 (Operand.tmp 5) 1), 0, some (23, false)⟩, ⟨some 25, (Op.load 3 (Operand.tmp 24)), 3, some (23, false)⟩, ⟨some 26, (Op.binOp BinOp.gtr 3 (Operand.tmp 25) (Operand.const (Value.int IntKind.i64 65536)) 3), 4, some (23, false)⟩, ⟨some 27, (Op.pick (Operand.tmp 23) (Operand.const (Value.bool true)) (Operand.tmp 26)), 4, none⟩] (Q .normal ds) σ w := mk_eq rfl
@[push_cast] theorem vr47_6 (Q : Post) (ds : List Deferred) (σ : Env) (w : World) : vc Try.prog (.region r47_6) Q ds σ w = vcOps Try.prog [⟨some 2, (Op.assign (Operand.const (Value.bool false))), 4, none⟩] (Q .normal ds) σ w := mk_eq rfl
@[push_cast] theorem vr47_7 (Q : Post) (ds : List Deferred) (σ : Env) (w : World) : vc Try.prog (.region r47_7) Q ds σ w = vcOps Try.prog [⟨some 28, (Op.fieldAddr 63 (Operand.tmp 5) 1), 0, none⟩, ⟨some 29, (Op.load 3 (Operand.tmp 28)), 3, none⟩, ⟨some 3, (Op.assign (Operand.tmp 29)), 3, none⟩] (Q .normal ds) σ w := mk_eq rfl
@[push_cast] theorem vr47_8 (Q : Post) (ds : List Deferred) (σ : Env) (w : World) : vc Try.prog (.region r47_8) Q ds σ w = vcOps Try.prog [⟨some 30, (Op.binOp BinOp.add 3 (Operand.tmp 8) (Operand.const (Value.int IntKind.i64 1)) 3), 3, none⟩, ⟨some 8, (Op.move (Operand.tmp 30)), 3, none⟩] (Q .normal ds) σ w := mk_eq rfl
@[push_cast] theorem vr47_9 (Q : Post) (ds : List Deferred) (σ : Env) (w : World) : vc Try.prog (.region r47_9) Q ds σ w = vcOps Try.prog [⟨some 2, (Op.assign (Operand.const (Value.bool true))), 4, none⟩] (Q .normal ds) σ w := mk_eq rfl
/-! 48 columbary/columbaryref04.Select (params #[22, 3], results #[(ResultVar.tmp 4), (ResultVar.tmp 5)], 42 slots) -/
def W48_0 : List Nat := [1, 4, 5, 6, 7, 8, 9, 10, 11, 12, 13, 14, 15, 16, 17, 18, 19, 20, 21, 22, 23, 24, 25, 26, 27, 28, 29, 30, 31, 32, 33, 34, 35, 36, 37, 38, 39, 40, 41]
@[push_cast] theorem W48_0_def : W48_0 = [1, 4, 5, 6, 7, 8, 9, 10, 11, 12, 13, 14, 15, 16, 17, 18, 19, 20, 21, 22, 23, 24, 25, 26, 27, 28, 29, 30, 31, 32, 33, 34, 35, 36, 37, 38, 39, 40, 41] := mk_eq rfl
def r48_0 : List VOp :=
  [⟨some 4, (Op.assign (Operand.const (Value.int IntKind.i64 0))), 3, none⟩,
   ⟨some 5, (Op.assign (Operand.const (Value.bool false))), 4, none⟩]
def r48_1 : List VOp :=
  [⟨some 6, (Op.assign (Operand.const (Value.int IntKind.i64 0))), 3, none⟩]
def r48_2 : List VOp :=
  [⟨some 8, (Op.move (Operand.tmp 6)), 3, none⟩,
   ⟨some 9, (Op.move (Operand.tmp 0)), 22, none⟩,
   ⟨some 10, (Op.call { callee := (Callee.builtin Builtin.len), args := #[(Operand.tmp 9)], argTypes := #[22] }), 3, none⟩,
   ⟨some 11, (Op.binOp BinOp.lss 3 (Operand.tmp 8) (Operand.tmp 10) 3), 4, none⟩,
   ⟨some 12, (Op.move (Operand.tmp 11)), 4, none⟩,
   ⟨some 13, (Op.move (Operand.tmp 1)), 3, some (12, true)⟩,
   ⟨some 14, (Op.binOp BinOp.geq 3 (Operand.tmp 13) (Operand.const (Value.int IntKind.i64 0)) 3), 4, some (12, true)⟩,
   ⟨some 15, (Op.pick (Operand.tmp 12) (Operand.tmp 14) (Operand.const (Value.bool false))), 4, none⟩]
def r48_4 : List VOp :=
  [⟨some 18, (Op.move (Operand.tmp 0)), 22, none⟩,
   ⟨some 19, (Op.move (Operand.tmp 6)), 3, none⟩,
   ⟨some 20, (Op.indexAddr 22 (Operand.tmp 18) (Operand.tmp 19)), 0, none⟩,
   ⟨some 21, (Op.fieldAddr 63 (Operand.tmp 20) 1), 0, none⟩,
   ⟨some 22, (Op.load 3 (Operand.tmp 21)), 3, none⟩,
   ⟨some 23, (Op.move (Operand.tmp 0)), 22, none⟩,
   ⟨some 24, (Op.move (Operand.tmp 6)), 3, none⟩,
   ⟨some 25, (Op.indexAddr 22 (Operand.tmp 23) (Operand.tmp 24)), 0, none⟩,
   ⟨some 26, (Op.fieldAddr 63 (Operand.tmp 25) 0), 0, none⟩,
   ⟨some 27, (Op.load 3 (Operand.tmp 26)), 3, none⟩,
   ⟨some 28, (Op.binOp BinOp.sub 3 (Operand.tmp 22) (Operand.tmp 27) 3), 3, none⟩,
   ⟨some 7, (Op.assign (Operand.tmp 28)), 3, none⟩]
def r48_5 : List VOp :=
  [⟨some 29, (Op.move (Operand.tmp 1)), 3, none⟩,
   ⟨some 30, (Op.move (Operand.tmp 7)), 3, none⟩,
   ⟨some 31, (Op.binOp BinOp.lss 3 (Operand.tmp 29) (Operand.tmp 30) 3), 4, none⟩]
def r48_6 : List VOp :=
  [⟨some 32, (Op.move (Operand.tmp 0)), 22, none⟩,
   ⟨some 33, (Op.move (Operand.tmp 6)), 3, none⟩,
   ⟨some 34, (Op.indexAddr 22 (Operand.tmp 32) (Operand.tmp 33)), 0, none⟩,
   ⟨some 35, (Op.fieldAddr 63 (Operand.tmp 34) 0), 0, none⟩,
   ⟨some 36, (Op.load 3 (Operand.tmp 35)), 3, none⟩,
   ⟨some 37, (Op.move (Operand.tmp 1)), 3, none⟩,
   ⟨some 38, (Op.binOp BinOp.add 3 (Operand.tmp 36) (Operand.tmp 37) 3), 3, none⟩,
   ⟨some 4, (Op.assign (Operand.tmp 38)), 3, none⟩,
   ⟨some 5, (Op.assign (Operand.const (Value.bool true))), 4, none⟩]
def r48_7 : List VOp :=
  [⟨some 39, (Op.move (Operand.tmp 1)), 3, none⟩,
   ⟨some 40, (Op.move (Operand.tmp 7)), 3, none⟩,
   ⟨some 41, (Op.binOp BinOp.sub 3 (Operand.tmp 39) (Operand.tmp 40) 3), 3, none⟩,
   ⟨some 1, (Op.assign (Operand.tmp 41)), 3, none⟩]
def r48_3 : List VOp :=
  [⟨some 16, (Op.move (Operand.tmp 6)), 3, none⟩,
   ⟨some 17, (Op.binOp BinOp.add 3 (Operand.tmp 16) (Operand.const (Value.int IntKind.i64 1)) 3), 3, none⟩,
   ⟨some 6, (Op.assign (Operand.tmp 17)), 3, none⟩]
def r48_8 : List VOp :=
  [⟨some 4, (Op.assign (Operand.const (Value.int IntKind.i64 0))), 3, none⟩,
   ⟨some 5, (Op.assign (Operand.const (Value.bool false))), 4, none⟩]
def B48 : VC :=
  (.seq (.region r48_0) (.seq (.seq (.region r48_1) (.block 0 (.loop (.seq (.seq (.region r48_2) (.cond (Operand.tmp 15) .skip (.exit 0))) (.seq (.block 1 (.seq (.draw r48_4 3) (.seq (.seq (.region r48_5) (.cond (Operand.tmp 31) (.seq (.region r48_6) .ret) .skip)) (.region r48_7)))) (.region r48_3)))))) (.seq (.region r48_8) .ret)))
theorem code48 : ∃ c, Try.f48.body = some c ∧ abs Try.f48.ntmps c = B48 := ⟨_, rfl, by kernel_rfl⟩
theorem hb48 : HasBody Try.prog 48 := hasBody_of Try.func48 (by kernel_rfl)
theorem res48 : Try.f48.results = #[(ResultVar.tmp 4), (ResultVar.tmp 5)] := rfl
theorem enter48 {w : World} {R : Value → World → Prop} (x0 x1 : Value) (h : vc Try.prog B48 (retK Try.prog #[(ResultVar.tmp 4), (ResultVar.tmp 5)] R) [] (initEnv [x0, x1] 0) w) : FnC Try.prog 48 #[x0, x1] w R := by
  obtain ⟨c, h1, h2⟩ := code48
  exact hb48.fn (ret_of_vc mixed Try.func48 h1 (Nat.le_of_ble_eq_true rfl) B48 h2 h)
@[push_cast] theorem vr48_0 (Q : Post) (ds : List Deferred) (σ : Env) (w : World) : vc Try.prog (.region r48_0) Q ds σ w = vcOps Try.prog [⟨some 4, (Op.assign (Operand.const (Value.int IntKind.i64 0))), 3, none⟩, ⟨some 5, (Op.assign (Operand.const (Value.bool false))), 4, none⟩] (Q .normal ds) σ w := mk_eq rfl
@[push_cast] theorem vr48_1 (Q : Post) (ds : List Deferred) (σ : Env) (w : World) : vc Try.prog (.region r48_1) Q ds σ w = vcOps Try.prog [⟨some 6, (Op.assign (Operand.const (Value.int IntKind.i64 0))), 3, none⟩] (Q .normal ds) σ w := mk_eq rfl
@[push_cast] theorem vr48_2 (Q : Post) (ds : List Deferred) (σ : Env) (w : World) : vc Try.prog (.region r48_2) Q ds σ w = vcOps Try.prog [⟨some 8, (Op.move (Operand.tmp 6)), 3, none⟩, ⟨some 9, (Op.move (Operand.tmp 0)), 22, none⟩, ⟨some 10, (Op.call { callee := (Callee.builtin Builtin.len), args := #[(Operand.tmp 9)], argTypes := #[22] }), 3, none⟩, ⟨some 11, (Op.binOp BinOp.lss 3 (Operand.tmp 8) (Operand.tmp 10) 3), 4, none⟩, ⟨some 12, (Op.move (Operand.tmp 11)), 4, none⟩, ⟨some 13, (Op.move (Operand.tmp 1)), 3, some (12, true)⟩, ⟨some 14, (Op.binOp BinOp.geq 3 (Operand.tmp 13) (Operand.const (Value.int IntKind.i64 0)) 3), 4, some (12, true)⟩, ⟨some 15, (Op.pick (Operand.tmp 12) (Operand.tmp 14) (Operand.const (Value.bool false))), 4, none⟩] (Q .normal ds) σ w := mk_eq rfl
@[push_cast] theorem vr48_4 (Q : Post) (ds : List Deferred) (σ : Env) (w : World) : vc Try.prog (.draw r48_4 3) Q ds σ w = drawn Try.prog [(⟨some 18, (Op.move (Operand.tmp 0)), 22, none⟩, [0]), (⟨some 19, (Op.move (Operand.tmp 6)), 3, none⟩, [6]), (⟨some 20, (Op.indexAddr 22 (Operand.tmp 18) (Operand.tmp 19)), 0, none⟩, [18, 19]), (⟨some 21, (Op.fieldAddr 63 (Operand.tmp 20) 1), 0, none⟩, [20]), (⟨some 22, (Op.load 3 (Operand.tmp 21)), 3, none⟩, [21]), (⟨some 23, (Op.move (Operand.tmp 0)), 22, none⟩, [0]), (⟨some 24, (Op.move (Operand.tmp 6)), 3, none⟩, [6]), (⟨some 25, (Op.indexAddr 22 (Operand.tmp 23) (Operand.tmp 24)), 0, none⟩, [23, 24]), (⟨some 26, (Op.fieldAddr 63 (Operand.tmp 25) 0), 0, none⟩, [25]), (⟨some 27, (Op.load 3 (Operand.tmp 26)), 3, none⟩, [26]), (⟨some 28, (Op.binOp BinOp.sub 3 (Operand.tmp 22) (Operand.tmp 27) 3), 3, none⟩, [22, 27]), (⟨some 7, (Op.assign (Operand.tmp 28)), 3, none⟩, [28])] 3 (Q .normal ds) σ w := mk_eq rfl
@[push_cast] theorem vr48_5 (Q : Post) (ds : List Deferred) (σ : Env) (w : World) : vc Try.prog (.region r48_5) Q ds σ w = vcOps Try.prog [⟨some 29, (Op.move (Operand.tmp 1)), 3, none⟩, ⟨some 30, (Op.move (Operand.tmp 7)), 3, none⟩, ⟨some 31, (Op.binOp BinOp.lss 3 (Operand.tmp 29) (Operand.tmp 30) 3), 4, none⟩] (Q .normal ds) σ w := mk_eq rfl
@[push_cast] theorem vr48_6 (Q : Post) (ds : List Deferred) (σ : Env) (w : World) : vc Try.prog (.region r48_6) Q ds σ w = vcOps Try.prog [⟨some 32, (Op.move (Operand.tmp 0)), 22, none⟩, ⟨some 33, (Op.move (Operand.tmp 6)), 3, none⟩, ⟨some 34, (Op.indexAddr 22 (Operand.tmp 32) (Operand.tmp 33)), 0, none⟩, ⟨some 35, (Op.fieldAddr 63 (Operand.tmp 34) 0), 0, none⟩, ⟨some 36, (Op.load 3 (Operand.tmp 35)), 3, none⟩, ⟨some 37, (Op.move (Operand.tmp 1)), 3, none⟩, ⟨some 38, (Op.binOp BinOp.add 3 (Operand.tmp 36) (Operand.tmp 37) 3), 3, none⟩, ⟨some 4, (Op.assign (Operand.tmp 38)), 3, none⟩, ⟨some 5, (Op.assign (Operand.const (Value.bool true))), 4, none⟩] (Q .normal ds) σ w := mk_eq rfl
@[push_cast] theorem vr48_7 (Q : Post) (ds : List Deferred) (σ : Env) (w : World) : vc Try.prog (.region r48_7) Q ds σ w = vcOps Try.prog [⟨some 39, (Op.move (Operand.tmp 1)), 3, none⟩, ⟨some 40, (Op.move (Operand.tmp 7)), 3, none⟩, ⟨some 41, (Op.binOp BinOp.sub 3 (Operand.tmp 39) (Operand.tmp 40) 3), 3, none⟩, ⟨some 1, (Op.assign (Operand.tmp 41)), 3, none⟩] (Q .normal ds) σ w := mk_eq rfl
@[push_cast] theorem vr48_3 (Q : Post) (ds : List Deferred) (σ : Env) (w : World) : vc Try.prog (.region r48_3) Q ds σ w = vcOps Try.prog [⟨some 16, (Op.move (Operand.tmp 6)), 3, none⟩, ⟨some 17, (Op.binOp BinOp.add 3 (Operand.tmp 16) (Operand.const (Value.int IntKind.i64 1)) 3), 3, none⟩, ⟨some 6, (Op.assign (Operand.tmp 17)), 3, none⟩] (Q .normal ds) σ w := mk_eq rfl
@[push_cast] theorem vr48_8 (Q : Post) (ds : List Deferred) (σ : Env) (w : World) : vc Try.prog (.region r48_8) Q ds σ w = vcOps Try.prog [⟨some 4, (Op.assign (Operand.const (Value.int IntKind.i64 0))), 3, none⟩, ⟨some 5, (Op.assign (Operand.const (Value.bool false))), 4, none⟩] (Q .normal ds) σ w := mk_eq rfl
/-! 49 columbary/columbaryref04.List (params #[22], results #[(ResultVar.tmp 2)], 31 slots) -/
def W49_0 : List Nat := [3, 4, 5, 6, 7, 8, 9, 10, 11, 12, 13, 14, 15, 16, 17, 18, 19, 20, 21, 22, 23, 24, 25, 26, 27, 28, 29]
@[push_cast] theorem W49_0_def : W49_0 = [3, 4, 5, 6, 7, 8, 9, 10, 11, 12, 13, 14, 15, 16, 17, 18, 19, 20, 21, 22, 23, 24, 25, 26, 27, 28, 29] := mk_eq rfl
def W49_1 : List Nat := [3, 5, 17, 18, 19, 20, 21, 22, 23, 24, 25, 26, 27, 28, 29]
@[push_cast] theorem W49_1_def : W49_1 = [3, 5, 17, 18, 19, 20, 21, 22, 23, 24, 25, 26, 27, 28, 29] := mk_eq rfl
def r49_0 : List VOp :=
  [⟨some 2, (Op.assign (Operand.const (Value.slice none 0 0))), 49, none⟩]
def r49_1 : List VOp :=
  [⟨some 3, (Op.assign (Operand.const (Value.slice none 0 0))), 49, none⟩]
def r49_2 : List VOp :=
  [⟨some 4, (Op.assign (Operand.const (Value.int IntKind.i64 0))), 3, none⟩]
def r49_3 : List VOp :=
  [⟨some 6, (Op.move (Operand.tmp 4)), 3, none⟩,
   ⟨some 7, (Op.move (Operand.tmp 0)), 22, none⟩,
   ⟨some 8, (Op.call { callee := (Callee.builtin Builtin.len), args := #[(Operand.tmp 7)], argTypes := #[22] }), 3, none⟩,
   ⟨some 9, (Op.binOp BinOp.lss 3 (Operand.tmp 6) (Operand.tmp 8) 3), 4, none⟩]
def r49_5 : List VOp :=
  [⟨some 12, (Op.move (Operand.tmp 0)), 22, none⟩,
   ⟨some 13, (Op.move (Operand.tmp 4)), 3, none⟩,
   ⟨some 14, (Op.indexAddr 22 (Operand.tmp 12) (Operand.tmp 13)), 0, none⟩,
   ⟨some 15, (Op.fieldAddr 63 (Operand.tmp 14) 0), 0, none⟩,
   ⟨some 16, (Op.load 3 (Operand.tmp 15)), 3, none⟩,
   ⟨some 5, (Op.assign (Operand.tmp 16)), 3, none⟩]
def r49_6 : List VOp :=
  [⟨some 17, (Op.move (Operand.tmp 5)), 3, none⟩,
   ⟨some 18, (Op.move (Operand.tmp 0)), 22, none⟩,
   ⟨some 19, (Op.move (Operand.tmp 4)), 3, none⟩,
   ⟨some 20, (Op.indexAddr 22 (Operand.tmp 18) (Operand.tmp 19)), 0, none⟩,
   ⟨some 21, (Op.fieldAddr 63 (Operand.tmp 20) 1), 0, none⟩,
   ⟨some 22, (Op.load 3 (Operand.tmp 21)), 3, none⟩,
   ⟨some 23, (Op.binOp BinOp.lss 3 (Operand.tmp 17) (Operand.tmp 22) 3), 4, none⟩]
def r49_8 : List VOp :=
  [⟨some 26, (Op.move (Operand.tmp 3)), 49, none⟩,
   ⟨some 27, (Op.move (Operand.tmp 5)), 3, none⟩,
   ⟨some 28, (Op.buildSlice 49 1 #[(0, (Operand.tmp 27))]), 49, none⟩,
   ⟨some 29, (Op.call { callee := (Callee.builtin Builtin.append), args := #[(Operand.tmp 26), (Operand.tmp 28)], argTypes := #[49, 49] }), 49, none⟩,
   ⟨some 3, (Op.assign (Operand.tmp 29)), 49, none⟩]
def r49_7 : List VOp :=
  [⟨some 24, (Op.move (Operand.tmp 5)), 3, none⟩,
   ⟨some 25, (Op.binOp BinOp.add 3 (Operand.tmp 24) (Operand.const (Value.int IntKind.i64 1)) 3), 3, none⟩,
   ⟨some 5, (Op.assign (Operand.tmp 25)), 3, none⟩]
def r49_4 : List VOp :=
  [⟨some 10, (Op.move (Operand.tmp 4)), 3, none⟩,
   ⟨some 11, (Op.binOp BinOp.add 3 (Operand.tmp 10) (Operand.const (Value.int IntKind.i64 1)) 3), 3, none⟩,
   ⟨some 4, (Op.assign (Operand.tmp 11)), 3, none⟩]
def r49_9 : List VOp :=
  [⟨some 30, (Op.move (Operand.tmp 3)), 49, none⟩,
   ⟨some 2, (Op.assign (Operand.tmp 30)), 49, none⟩]
def B49 : VC :=
  (.seq (.region r49_0) (.seq (.region r49_1) (.seq (.seq (.region r49_2) (.block 0 (.loop (.seq (.seq (.region r49_3) (.cond (Operand.tmp 9) .skip (.exit 0))) (.seq (.block 1 (.seq (.region r49_5) (.block 2 (.loop (.seq (.seq (.region r49_6) (.cond (Operand.tmp 23) .skip (.exit 2))) (.seq (.block 3 (.region r49_8)) (.region r49_7))))))) (.region r49_4)))))) (.seq (.region r49_9) .ret))))
theorem code49 : ∃ c, Try.f49.body = some c ∧ abs Try.f49.ntmps c = B49 := ⟨_, rfl, by kernel_rfl⟩
theorem hb49 : HasBody Try.prog 49 := hasBody_of Try.func49 (by kernel_rfl)
theorem res49 : Try.f49.results = #[(ResultVar.tmp 2)] := rfl
theorem enter49 {w : World} {R : Value → World → Prop} (x0 : Value) (h : vc Try.prog B49 (retK Try.prog #[(ResultVar.tmp 2)] R) [] (initEnv [x0] 0) w) : FnC Try.prog 49 #[x0] w R := by
  obtain ⟨c, h1, h2⟩ := code49
  exact hb49.fn (ret_of_vc mixed Try.func49 h1 (Nat.le_of_ble_eq_true rfl) B49 h2 h)
@[push_cast] theorem vr49_0 (Q : Post) (ds : List Deferred) (σ : Env) (w : World) : vc Try.prog (.region r49_0) Q ds σ w = vcOps Try.prog [⟨some 2, (Op.assign (Operand.const (Value.slice none 0 0))), 49, none⟩] (Q .normal ds) σ w := mk_eq rfl
@[push_cast] theorem vr49_1 (Q : Post) (ds : List Deferred) (σ : Env) (w : World) : vc Try.prog (.region r49_1) Q ds σ w = vcOps Try.prog [⟨some 3, (Op.assign (Operand.const (Value.slice none 0 0))), 49, none⟩] (Q .normal ds) σ w := mk_eq rfl
@[push_cast] theorem vr49_2 (Q : Post) (ds : List Deferred) (σ : Env) (w : World) : vc Try.prog (.region r49_2) Q ds σ w = vcOps Try.prog [⟨some 4, (Op.assign (Operand.const (Value.int IntKind.i64 0))), 3, none⟩] (Q .normal ds) σ w := mk_eq rfl
@[push_cast] theorem vr49_3 (Q : Post) (ds : List Deferred) (σ : Env) (w : World) : vc Try.prog (.region r49_3) Q ds σ w = vcOps Try.prog [⟨some 6, (Op.move (Operand.tmp 4)), 3, none⟩, ⟨some 7, (Op.move (Operand.tmp 0)), 22, none⟩, ⟨some 8, (Op.call { callee := (Callee.builtin Builtin.len), args := #[(Operand.tmp 7)], argTypes := #[22] }), 3, none⟩, ⟨some 9, (Op.binOp BinOp.lss 3 (Operand.tmp 6) (Operand.tmp 8) 3), 4, none⟩] (Q .normal ds) σ w := mk_eq rfl
@[push_cast] theorem vr49_5 (Q : Post) (ds : List Deferred) (σ : Env) (w : World) : vc Try.prog (.region r49_5) Q ds σ w = vcOps Try.prog [⟨some 12, (Op.move (Operand.tmp 0)), 22, none⟩, ⟨some 13, (Op.move (Operand.tmp 4)), 3, none⟩, ⟨some 14, (Op.indexAddr 22 (Operand.tmp 12) (Operand.tmp 13)), 0, none⟩, ⟨some 15, (Op.fieldAddr 63 (Operand.tmp 14) 0), 0, none⟩, ⟨some 16, (Op.load 3 (Operand.tmp 15)), 3, none⟩, ⟨some 5, (Op.assign (Operand.tmp 16)), 3, none⟩] (Q .normal ds) σ w := mk_eq rfl
@[push_cast] theorem vr49_6 (Q : Post) (ds : List Deferred) (σ : Env) (w : World) : vc Try.prog (.region r49_6) Q ds σ w = vcOps Try.prog [⟨some 17, (Op.move (Operand.tmp 5)), 3, none⟩, ⟨some 18, (Op.move (Operand.tmp 0)), 22, none⟩, ⟨some 19, (Op.move (Operand.tmp 4)), 3, none⟩, ⟨some 20, (Op.indexAddr 22 (Operand.tmp 18) (Operand.tmp 19)), 0, none⟩, ⟨some 21, (Op.fieldAddr 63 (Operand.tmp 20) 1), 0, none⟩, ⟨some 22, (Op.load 3 (Operand.tmp 21)), 3, none⟩, ⟨some 23, (Op.binOp BinOp.lss 3 (Operand.tmp 17) (Operand.tmp 22) 3), 4, none⟩] (Q .normal ds) σ w := mk_eq rfl
@[push_cast] theorem vr49_8 (Q : Post) (ds : List Deferred) (σ : Env) (w : World) : vc Try.prog (.region r49_8) Q ds σ w = vcOps Try.prog [⟨some 26, (Op.move (Operand.tmp 3)), 49, none⟩, ⟨some 27, (Op.move (Operand.tmp 5)), 3, none⟩, ⟨some 28, (Op.buildSlice 49 1 #[(0, (Operand.tmp 27))]), 49, none⟩, ⟨some 29, (Op.call { callee := (Callee.builtin Builtin.append), args := #[(Operand.tmp 26), (Operand.tmp 28)], argTypes := #[49, 49] }), 49, none⟩, ⟨some 3, (Op.assign (Operand.tmp 29)), 49, none⟩] (Q .normal ds) σ w := mk_eq rfl
@[push_cast] theorem vr49_7 (Q : Post) (ds : List Deferred) (σ : Env) (w : World) : vc Try.prog (.region r49_7) Q ds σ w = vcOps Try.prog [⟨some 24, (Op.move (Operand.tmp 5)), 3, none⟩, ⟨some 25, (Op.binOp BinOp.add 3 (Operand.tmp 24) (Operand.const (Value.int IntKind.i64 1)) 3), 3, none⟩, ⟨some 5, (Op.assign (Operand.tmp 25)), 3, none⟩] (Q .normal ds) σ w := mk_eq rfl
@[push_cast] theorem vr49_4 (Q : Post) (ds : List Deferred) (σ : Env) (w : World) : vc Try.prog (.region r49_4) Q ds σ w = vcOps Try.prog [⟨some 10, (Op.move (Operand.tmp 4)), 3, none⟩, ⟨some 11, (Op.binOp BinOp.add 3 (Operand.tmp 10) (Operand.const (Value.int IntKind.i64 1)) 3), 3, none⟩, ⟨some 4, (Op.assign (Operand.tmp 11)), 3, none⟩] (Q .normal ds) σ w := mk_eq rfl
@[push_cast] theorem vr49_9 (Q : Post) (ds : List Deferred) (σ : Env) (w : World) : vc Try.prog (.region r49_9) Q ds σ w = vcOps Try.prog [⟨some 30, (Op.move (Operand.tmp 3)), 49, none⟩, ⟨some 2, (Op.assign (Operand.tmp 30)), 49, none⟩] (Q .normal ds) σ w := mk_eq rfl
/-! 67 columbary/runs.behind (params #[22, 3], results #[(ResultVar.tmp 4)], 14 slots) -/
def r67_0 : List VOp :=
  [⟨some 4, (Op.assign (Operand.const (Value.int IntKind.i64 0))), 3, none⟩]
def r67_1 : List VOp :=
  [⟨some 8, (Op.move (Operand.tmp 0)), 22, none⟩,
   ⟨some 9, (Op.move (Operand.tmp 1)), 3, none⟩,
   ⟨some 10, (Op.call { callee := (Callee.value (Operand.func 89)), args := #[(Operand.tmp 8), (Operand.tmp 9), (Operand.func 90)], argTypes := #[22, 3, 104] }), 44, none⟩,
   ⟨some 7, (Op.move (Operand.tmp 10)), 44, none⟩,
   ⟨some 11, (Op.extract (Operand.tmp 7) 0), 3, none⟩,
   ⟨some 12, (Op.extract (Operand.tmp 7) 1), 4, none⟩,
   ⟨some 5, (Op.assign (Operand.tmp 11)), 3, none⟩,
   ⟨some 6, (Op.assign (Operand.tmp 12)), 4, none⟩]
def r67_2 : List VOp :=
  [⟨some 13, (Op.move (Operand.tmp 5)), 3, none⟩,
   ⟨some 4, (Op.assign (Operand.tmp 13)), 3, none⟩]
def B67 : VC :=
  (.seq (.region r67_0) (.seq (.region r67_1) (.seq (.region r67_2) .ret)))
theorem code67 : ∃ c, Try.f67.body = some c ∧ abs Try.f67.ntmps c = B67 := ⟨_, rfl, by kernel_rfl⟩
theorem hb67 : HasBody Try.prog 67 := hasBody_of Try.func67 (by kernel_rfl)
theorem res67 : Try.f67.results = #[(ResultVar.tmp 4)] := rfl
theorem enter67 {w : World} {R : Value → World → Prop} (x0 x1 : Value) (h : vc Try.prog B67 (retK Try.prog #[(ResultVar.tmp 4)] R) [] (initEnv [x0, x1] 0) w) : FnC Try.prog 67 #[x0, x1] w R := by
  obtain ⟨c, h1, h2⟩ := code67
  exact hb67.fn (ret_of_vc mixed Try.func67 h1 (Nat.le_of_ble_eq_true rfl) B67 h2 h)
@[push_cast] theorem vr67_0 (Q : Post) (ds : List Deferred) (σ : Env) (w : World) : vc Try.prog (.region r67_0) Q ds σ w = vcOps Try.prog [⟨some 4, (Op.assign (Operand.const (Value.int IntKind.i64 0))), 3, none⟩] (Q .normal ds) σ w := mk_eq rfl
@[push_cast] theorem vr67_1 (Q : Post) (ds : List Deferred) (σ : Env) (w : World) : vc Try.prog (.region r67_1) Q ds σ w = vcOps Try.prog [⟨some 8, (Op.move (Operand.tmp 0)), 22, none⟩, ⟨some 9, (Op.move (Operand.tmp 1)), 3, none⟩, ⟨some 10, (Op.call { callee := (Callee.value (Operand.func 89)), args := #[(Operand.tmp 8), (Operand.tmp 9), (Operand.func 90)], argTypes := #[22, 3, 104] }), 44, none⟩, ⟨some 7, (Op.move (Operand.tmp 10)), 44, none⟩, ⟨some 11, (Op.extract (Operand.tmp 7) 0), 3, none⟩, ⟨some 12, (Op.extract (Operand.tmp 7) 1), 4, none⟩, ⟨some 5, (Op.assign (Operand.tmp 11)), 3, none⟩, ⟨some 6, (Op.assign (Operand.tmp 12)), 4, none⟩] (Q .normal ds) σ w := mk_eq rfl
@[push_cast] theorem vr67_2 (Q : Post) (ds : List Deferred) (σ : Env) (w : World) : vc Try.prog (.region r67_2) Q ds σ w = vcOps Try.prog [⟨some 13, (Op.move (Operand.tmp 5)), 3, none⟩, ⟨some 4, (Op.assign (Operand.tmp 13)), 3, none⟩] (Q .normal ds) σ w := mk_eq rfl
/-! 68 columbary/runs.both (params #[22, 22, 81], results #[(ResultVar.tmp 6)], 34 slots) -/
def r68_0 : List VOp :=
  [⟨some 5, (Op.box 81 (Operand.tmp 2)), 0, none⟩,
   ⟨some 6, (Op.assign (Operand.const (Value.slice none 0 0))), 22, none⟩]
def r68_1 : List VOp :=
  [⟨some 7, (Op.alloc 22), 0, none⟩]
def r68_2 : List VOp :=
  [⟨some 8, (Op.alloc 3), 0, none⟩,
   ⟨none, (Op.store 3 (Operand.tmp 8) (Operand.const (Value.int IntKind.i64 0))), 0, none⟩]
def r68_3 : List VOp :=
  [⟨some 11, (Op.move (Operand.tmp 0)), 22, none⟩,
   ⟨some 12, (Op.move (Operand.tmp 1)), 22, none⟩,
   ⟨some 13, (Op.call { callee := (Callee.value (Operand.func 91)), args := #[(Operand.tmp 11), (Operand.tmp 12)], argTypes := #[22, 22] }), 106, none⟩]
def r68_4 : List VOp :=
  [⟨some 9, (Op.assign (Operand.tmp 14)), 3, none⟩]
def r68_5 : List VOp :=
  [⟨some 10, (Op.alloc 108), 0, none⟩,
   ⟨none, (Op.store 108 (Operand.tmp 10) (Operand.tmp 15)), 0, none⟩]
def r68_6 : List VOp :=
  [⟨some 16, (Op.move (Operand.tmp 9)), 3, none⟩,
   ⟨some 17, (Op.load 3 (Operand.tmp 8)), 3, none⟩,
   ⟨some 18, (Op.binOp BinOp.gtr 3 (Operand.tmp 16) (Operand.tmp 17) 3), 4, none⟩,
   ⟨some 19, (Op.move (Operand.tmp 18)), 4, none⟩,
   ⟨some 20, (Op.load 81 (Operand.tmp 5)), 81, some (19, true)⟩,
   ⟨some 21, (Op.indexAddr 108 (Operand.tmp 10) (Operand.const (Value.int IntKind.i64 0))), 0, some (19, true)⟩,
   ⟨some 22, (Op.load 4 (Operand.tmp 21)), 4, some (19, true)⟩,
   ⟨some 23, (Op.indexAddr 108 (Operand.tmp 10) (Operand.const (Value.int IntKind.i64 1))), 0, some (19, true)⟩,
   ⟨some 24, (Op.load 4 (Operand.tmp 23)), 4, some (19, true)⟩,
   ⟨some 25, (Op.call { callee := (Callee.value (Operand.tmp 20)), args := #[(Operand.tmp 22), (Operand.tmp 24)], argTypes := #[4, 4] }), 4, some (19, true)⟩,
   ⟨some 26, (Op.pick (Operand.tmp 19) (Operand.tmp 25) (Operand.const (Value.bool false))), 4, none⟩]
def r68_7 : List VOp :=
  [⟨some 27, (Op.load 22 (Operand.tmp 7)), 22, none⟩,
   ⟨some 28, (Op.load 3 (Operand.tmp 8)), 3, none⟩,
   ⟨some 29, (Op.move (Operand.tmp 9)), 3, none⟩,
   ⟨some 30, (Op.build 63 #[(0, (Operand.tmp 28)), (1, (Operand.tmp 29))]), 63, none⟩,
   ⟨some 31, (Op.call { callee := (Callee.value (Operand.func 78)), args := #[(Operand.tmp 27), (Operand.tmp 30)], argTypes := #[22, 63] }), 22, none⟩,
   ⟨none, (Op.store 22 (Operand.tmp 7) (Operand.tmp 31)), 0, none⟩]
def r68_8 : List VOp :=
  [⟨some 32, (Op.move (Operand.tmp 9)), 3, none⟩,
   ⟨none, (Op.store 3 (Operand.tmp 8) (Operand.tmp 32)), 0, none⟩]
def r68_9 : List VOp :=
  [⟨some 33, (Op.load 22 (Operand.tmp 7)), 22, none⟩,
   ⟨some 6, (Op.assign (Operand.tmp 33)), 22, none⟩]
def B68 : VC :=
  (.seq (.region r68_0) (.seq (.region r68_1) (.seq (.region r68_2) (.seq (.seq (.region r68_3) (.block 0 (.rangeFunc (Operand.tmp 13) [14, 15] (.seq (.region r68_4) (.region r68_5)) (.block 1 (.seq (.seq (.region r68_6) (.cond (Operand.tmp 26) (.region r68_7) .skip)) (.region r68_8)))))) (.seq (.region r68_9) .ret)))))
theorem code68 : ∃ c, Try.f68.body = some c ∧ abs Try.f68.ntmps c = B68 := ⟨_, rfl, by kernel_rfl⟩
theorem hb68 : HasBody Try.prog 68 := hasBody_of Try.func68 (by kernel_rfl)
theorem res68 : Try.f68.results = #[(ResultVar.tmp 6)] := rfl
theorem enter68 {w : World} {R : Value → World → Prop} (x0 x1 x2 : Value) (h : vc Try.prog B68 (retK Try.prog #[(ResultVar.tmp 6)] R) [] (initEnv [x0, x1, x2] 0) w) : FnC Try.prog 68 #[x0, x1, x2] w R := by
  obtain ⟨c, h1, h2⟩ := code68
  exact hb68.fn (ret_of_vc mixed Try.func68 h1 (Nat.le_of_ble_eq_true rfl) B68 h2 h)
@[push_cast] theorem vr68_0 (Q : Post) (ds : List Deferred) (σ : Env) (w : World) : vc Try.prog (.region r68_0) Q ds σ w = vcOps Try.prog [⟨some 5, (Op.box 81 (Operand.tmp 2)), 0, none⟩, ⟨some 6, (Op.assign (Operand.const (Value.slice none 0 0))), 22, none⟩] (Q .normal ds) σ w := mk_eq rfl
@[push_cast] theorem vr68_1 (Q : Post) (ds : List Deferred) (σ : Env) (w : World) : vc Try.prog (.region r68_1) Q ds σ w = vcOps Try.prog [⟨some 7, (Op.alloc 22), 0, none⟩] (Q .normal ds) σ w := mk_eq rfl
@[push_cast] theorem vr68_2 (Q : Post) (ds : List Deferred) (σ : Env) (w : World) : vc Try.prog (.region r68_2) Q ds σ w = vcOps Try.prog [⟨some 8, (Op.alloc 3), 0, none⟩, ⟨none, (Op.store 3 (Operand.tmp 8) (Operand.const (Value.int IntKind.i64 0))), 0, none⟩] (Q .normal ds) σ w := mk_eq rfl
@[push_cast] theorem vr68_3 (Q : Post) (ds : List Deferred) (σ : Env) (w : World) : vc Try.prog (.region r68_3) Q ds σ w = vcOps Try.prog [⟨some 11, (Op.move (Operand.tmp 0)), 22, none⟩, ⟨some 12, (Op.move (Operand.tmp 1)), 22, none⟩, ⟨some 13, (Op.call { callee := (Callee.value (Operand.func 91)), args := #[(Operand.tmp 11), (Operand.tmp 12)], argTypes := #[22, 22] }), 106, none⟩] (Q .normal ds) σ w := mk_eq rfl
@[push_cast] theorem vr68_4 (Q : Post) (ds : List Deferred) (σ : Env) (w : World) : vc Try.prog (.region r68_4) Q ds σ w = vcOps Try.prog [⟨some 9, (Op.assign (Operand.tmp 14)), 3, none⟩] (Q .normal ds) σ w := mk_eq rfl
@[push_cast] theorem vr68_5 (Q : Post) (ds : List Deferred) (σ : Env) (w : World) : vc Try.prog (.region r68_5) Q ds σ w = vcOps Try.prog [⟨some 10, (Op.alloc 108), 0, none⟩, ⟨none, (Op.store 108 (Operand.tmp 10) (Operand.tmp 15)), 0, none⟩] (Q .normal ds) σ w := mk_eq rfl
@[push_cast] theorem vr68_6 (Q : Post) (ds : List Deferred) (σ : Env) (w : World) : vc Try.prog (.region r68_6) Q ds σ w = vcOps Try.prog [⟨some 16, (Op.move (Operand.tmp 9)), 3, none⟩, ⟨some 17, (Op.load 3 (Operand.tmp 8)), 3, none⟩, ⟨some 18, (Op.binOp BinOp.gtr 3 (Operand.tmp 16) (Operand.tmp 17) 3), 4, none⟩, ⟨some 19, (Op.move (Operand.tmp 18)), 4, none⟩, ⟨some 20, (Op.load 81 (Operand.tmp 5)), 81, some (19, true)⟩, ⟨some 21, (Op.indexAddr 108 (Operand.tmp 10) (Operand.const (Value.int IntKind.i64 0))), 0, some (19, true)⟩, ⟨some 22, (Op.load 4 (Operand.tmp 21)), 4, some (19, true)⟩, ⟨some 23, (Op.indexAddr 108 (Operand.tmp 10) (Operand.const (Value.int IntKind.i64 1))), 0, some (19, true)⟩, ⟨some 24, (Op.load 4 (Operand.tmp 23)), 4, some (19, true)⟩, ⟨some 25, (Op.call { callee := (Callee.value (Operand.tmp 20)), args := #[(Operand.tmp 22), (Operand.tmp 24)], argTypes := #[4, 4] }), 4, some (19, true)⟩, ⟨some 26, (Op.pick (Operand.tmp 19) (Operand.tmp 25) (Operand.const (Value.bool false))), 4, none⟩] (Q .normal ds) σ w := mk_eq rfl
@[push_cast] theorem vr68_7 (Q : Post) (ds : List Deferred) (σ : Env) (w : World) : vc Try.prog (.region r68_7) Q ds σ w = vcOps Try.prog [⟨some 27, (Op.load 22 (Operand.tmp 7)), 22, none⟩, ⟨some 28, (Op.load 3 (Operand.tmp 8)), 3, none⟩, ⟨some 29, (Op.move (Operand.tmp 9)), 3, none⟩, ⟨some 30, (Op.build 63 #[(0, (Operand.tmp 28)), (1, (Operand.tmp 29))]), 63, none⟩, ⟨some 31, (Op.call { callee := (Callee.value (Operand.func 78)), args := #[(Operand.tmp 27), (Operand.tmp 30)], argTypes := #[22, 63] }), 22, none⟩, ⟨none, (Op.store 22 (Operand.tmp 7) (Operand.tmp 31)), 0, none⟩] (Q .normal ds) σ w := mk_eq rfl
@[push_cast] theorem vr68_8 (Q : Post) (ds : List Deferred) (σ : Env) (w : World) : vc Try.prog (.region r68_8) Q ds σ w = vcOps Try.prog [⟨some 32, (Op.move (Operand.tmp 9)), 3, none⟩, ⟨none, (Op.store 3 (Operand.tmp 8) (Operand.tmp 32)), 0, none⟩] (Q .normal ds) σ w := mk_eq rfl
@[push_cast] theorem vr68_9 (Q : Post) (ds : List Deferred) (σ : Env) (w : World) : vc Try.prog (.region r68_9) Q ds σ w = vcOps Try.prog [⟨some 33, (Op.load 22 (Operand.tmp 7)), 22, none⟩, ⟨some 6, (Op.assign (Operand.tmp 33)), 22, none⟩] (Q .normal ds) σ w := mk_eq rfl
/-! 69 columbary/runs.And$1 (params #[4, 4], results #[(ResultVar.tmp 4)], 9 slots) -/
def r69_0 : List VOp :=
  [⟨some 4, (Op.assign (Operand.const (Value.bool false))), 4, none⟩]
def r69_1 : List VOp :=
  [⟨some 5, (Op.move (Operand.tmp 0)), 4, none⟩,
   ⟨some 6, (Op.move (Operand.tmp 5)), 4, none⟩,
   ⟨some 7, (Op.move (Operand.tmp 1)), 4, some (6, true)⟩,
   ⟨some 8, (Op.pick (Operand.tmp 6) (Operand.tmp 7) (Operand.const (Value.bool false))), 4, none⟩,
   ⟨some 4, (Op.assign (Operand.tmp 8)), 4, none⟩]
def B69 : VC :=
  (.seq (.region r69_0) (.seq (.region r69_1) .ret))
theorem code69 : ∃ c, Try.f69.body = some c ∧ abs Try.f69.ntmps c = B69 := ⟨_, rfl, by kernel_rfl⟩
theorem hb69 : HasBody Try.prog 69 := hasBody_of Try.func69 (by kernel_rfl)
theorem res69 : Try.f69.results = #[(ResultVar.tmp 4)] := rfl
theorem enter69 {w : World} {R : Value → World → Prop} (x0 x1 : Value) (h : vc Try.prog B69 (retK Try.prog #[(ResultVar.tmp 4)] R) [] (initEnv [x0, x1] 0) w) : FnC Try.prog 69 #[x0, x1] w R := by
  obtain ⟨c, h1, h2⟩ := code69
  exact hb69.fn (ret_of_vc mixed Try.func69 h1 (Nat.le_of_ble_eq_true rfl) B69 h2 h)
@[push_cast] theorem vr69_0 (Q : Post) (ds : List Deferred) (σ : Env) (w : World) : vc Try.prog (.region r69_0) Q ds σ w = vcOps Try.prog [⟨some 4, (Op.assign (Operand.const (Value.bool false))), 4, none⟩] (Q .normal ds) σ w := mk_eq rfl
@[push_cast] theorem vr69_1 (Q : Post) (ds : List Deferred) (σ : Env) (w : World) : vc Try.prog (.region r69_1) Q ds σ w = vcOps Try.prog [⟨some 5, (Op.move (Operand.tmp 0)), 4, none⟩, ⟨some 6, (Op.move (Operand.tmp 5)), 4, none⟩, ⟨some 7, (Op.move (Operand.tmp 1)), 4, some (6, true)⟩, ⟨some 8, (Op.pick (Operand.tmp 6) (Operand.tmp 7) (Operand.const (Value.bool false))), 4, none⟩, ⟨some 4, (Op.assign (Operand.tmp 8)), 4, none⟩] (Q .normal ds) σ w := mk_eq rfl
/-! 70 columbary/columbaryref04.set (params #[49], results #[(ResultVar.tmp 2)], 53 slots) -/
def W70_0 : List Nat := [3, 4, 5, 6, 7, 8, 9, 10, 11, 12, 13, 14, 15, 16, 17, 18, 19, 20, 21, 22, 23, 24, 25, 26, 27, 28, 29, 30, 31, 32, 33, 34, 35, 36, 37, 38, 39, 40, 41, 42, 43, 44, 45, 46, 47, 48, 49, 50, 51]
@[push_cast] theorem W70_0_def : W70_0 = [3, 4, 5, 6, 7, 8, 9, 10, 11, 12, 13, 14, 15, 16, 17, 18, 19, 20, 21, 22, 23, 24, 25, 26, 27, 28, 29, 30, 31, 32, 33, 34, 35, 36, 37, 38, 39, 40, 41, 42, 43, 44, 45, 46, 47, 48, 49, 50, 51] := mk_eq rfl
def r70_0 : List VOp :=
  [⟨some 2, (Op.assign (Operand.const (Value.slice none 0 0))), 22, none⟩]
def r70_1 : List VOp :=
  [⟨some 3, (Op.assign (Operand.const (Value.slice none 0 0))), 22, none⟩]
def r70_2 : List VOp :=
  [⟨some 4, (Op.assign (Operand.const (Value.int IntKind.i64 0))), 3, none⟩]
def r70_3 : List VOp :=
  [⟨some 6, (Op.move (Operand.tmp 4)), 3, none⟩,
   ⟨some 7, (Op.move (Operand.tmp 0)), 49, none⟩,
   ⟨some 8, (Op.call { callee := (Callee.builtin Builtin.len), args := #[(Operand.tmp 7)], argTypes := #[49] }), 3, none⟩,
   ⟨some 9, (Op.binOp BinOp.lss 3 (Operand.tmp 6) (Operand.tmp 8) 3), 4, none⟩]
def r70_5 : List VOp :=
  [⟨some 12, (Op.move (Operand.tmp 3)), 22, none⟩,
   ⟨some 13, (Op.call { callee := (Callee.builtin Builtin.len), args := #[(Operand.tmp 12)], argTypes := #[22] }), 3, none⟩,
   ⟨some 5, (Op.assign (Operand.tmp 13)), 3, none⟩]
def r70_6 : List VOp :=
  [⟨some 14, (Op.move (Operand.tmp 5)), 3, none⟩,
   ⟨some 15, (Op.binOp BinOp.gtr 3 (Operand.tmp 14) (Operand.const (Value.int IntKind.i64 0)) 3), 4, none⟩,
   ⟨some 16, (Op.move (Operand.tmp 15)), 4, none⟩,
   ⟨some 17, (Op.move (Operand.tmp 3)), 22, some (16, true)⟩,
   ⟨some 18, (Op.move (Operand.tmp 5)), 3, some (16, true)⟩,
   ⟨some 19, (Op.binOp BinOp.sub 3 (Operand.tmp 18) (Operand.const (Value.int IntKind.i64 1)) 3), 3, some (16, true)⟩,
   ⟨some 20, (Op.indexAddr 22 (Operand.tmp 17) (Operand.tmp 19)), 0, some (16, true)⟩,
   ⟨some 21, (Op.fieldAddr 63 (Operand.tmp 20) 1), 0, some (16, true)⟩,
   ⟨some 22, (Op.load 3 (Operand.tmp 21)), 3, some (16, true)⟩,
   ⟨some 23, (Op.move (Operand.tmp 0)), 49, some (16, true)⟩,
   ⟨some 24, (Op.move (Operand.tmp 4)), 3, some (16, true)⟩,
   ⟨some 25, (Op.indexAddr 49 (Operand.tmp 23) (Operand.tmp 24)), 0, some (16, true)⟩,
   ⟨some 26, (Op.load 3 (Operand.tmp 25)), 3, some (16, true)⟩,
   ⟨some 27, (Op.binOp BinOp.eql 3 (Operand.tmp 22) (Operand.tmp 26) 3), 4, some (16, true)⟩,
   ⟨some 28, (Op.pick (Operand.tmp 16) (Operand.tmp 27) (Operand.const (Value.bool false))), 4, none⟩]
def r70_7 : List VOp :=
  [⟨some 29, (Op.move (Operand.tmp 3)), 22, none⟩,
   ⟨some 30, (Op.move (Operand.tmp 5)), 3, none⟩,
   ⟨some 31, (Op.binOp BinOp.sub 3 (Operand.tmp 30) (Operand.const (Value.int IntKind.i64 1)) 3), 3, none⟩,
   ⟨some 32, (Op.move (Operand.tmp 0)), 49, none⟩,
   ⟨some 33, (Op.move (Operand.tmp 4)), 3, none⟩,
   ⟨some 34, (Op.indexAddr 49 (Operand.tmp 32) (Operand.tmp 33)), 0, none⟩,
   ⟨some 35, (Op.load 3 (Operand.tmp 34)), 3, none⟩,
   ⟨some 36, (Op.binOp BinOp.add 3 (Operand.tmp 35) (Operand.const (Value.int IntKind.i64 1)) 3), 3, none⟩,
   ⟨some 37, (Op.indexAddr 22 (Operand.tmp 29) (Operand.tmp 31)), 0, none⟩,
   ⟨some 38, (Op.fieldAddr 63 (Operand.tmp 37) 1), 0, none⟩,
   ⟨none, (Op.store 3 (Operand.tmp 38) (Operand.tmp 36)), 0, none⟩]
def r70_8 : List VOp :=
  [⟨some 39, (Op.move (Operand.tmp 3)), 22, none⟩,
   ⟨some 40, (Op.move (Operand.tmp 0)), 49, none⟩,
   ⟨some 41, (Op.move (Operand.tmp 4)), 3, none⟩,
   ⟨some 42, (Op.indexAddr 49 (Operand.tmp 40) (Operand.tmp 41)), 0, none⟩,
   ⟨some 43, (Op.load 3 (Operand.tmp 42)), 3, none⟩,
   ⟨some 44, (Op.move (Operand.tmp 0)), 49, none⟩,
   ⟨some 45, (Op.move (Operand.tmp 4)), 3, none⟩,
   ⟨some 46, (Op.indexAddr 49 (Operand.tmp 44) (Operand.tmp 45)), 0, none⟩,
   ⟨some 47, (Op.load 3 (Operand.tmp 46)), 3, none⟩,
   ⟨some 48, (Op.binOp BinOp.add 3 (Operand.tmp 47) (Operand.const (Value.int IntKind.i64 1)) 3), 3, none⟩,
   ⟨some 49, (Op.build 63 #[(0, (Operand.tmp 43)), (1, (Operand.tmp 48))]), 63, none⟩,
   ⟨some 50, (Op.buildSlice 22 1 #[(0, (Operand.tmp 49))]), 22, none⟩,
   ⟨some 51, (Op.call { callee := (Callee.builtin Builtin.append), args := #[(Operand.tmp 39), (Operand.tmp 50)], argTypes := #[22, 22] }), 22, none⟩,
   ⟨some 3, (Op.assign (Operand.tmp 51)), 22, none⟩]
def r70_4 : List VOp :=
  [⟨some 10, (Op.move (Operand.tmp 4)), 3, none⟩,
   ⟨some 11, (Op.binOp BinOp.add 3 (Operand.tmp 10) (Operand.const (Value.int IntKind.i64 1)) 3), 3, none⟩,
   ⟨some 4, (Op.assign (Operand.tmp 11)), 3, none⟩]
def r70_9 : List VOp :=
  [⟨some 52, (Op.move (Operand.tmp 3)), 22, none⟩,
   ⟨some 2, (Op.assign (Operand.tmp 52)), 22, none⟩]
def B70 : VC :=
  (.seq (.region r70_0) (.seq (.region r70_1) (.seq (.seq (.region r70_2) (.block 0 (.loop (.seq (.seq (.region r70_3) (.cond (Operand.tmp 9) .skip (.exit 0))) (.seq (.block 1 (.seq (.region r70_5) (.seq (.draw r70_6 3) (.cond (Operand.tmp 28) (.region r70_7) (.draw r70_8 3))))) (.region r70_4)))))) (.seq (.region r70_9) .ret))))
theorem code70 : ∃ c, Try.f70.body = some c ∧ abs Try.f70.ntmps c = B70 := ⟨_, rfl, by kernel_rfl⟩
theorem hb70 : HasBody Try.prog 70 := hasBody_of Try.func70 (by kernel_rfl)
theorem res70 : Try.f70.results = #[(ResultVar.tmp 2)] := rfl
theorem enter70 {w : World} {R : Value → World → Prop} (x0 : Value) (h : vc Try.prog B70 (retK Try.prog #[(ResultVar.tmp 2)] R) [] (initEnv [x0] 0) w) : FnC Try.prog 70 #[x0] w R := by
  obtain ⟨c, h1, h2⟩ := code70
  exact hb70.fn (ret_of_vc mixed Try.func70 h1 (Nat.le_of_ble_eq_true rfl) B70 h2 h)
@[push_cast] theorem vr70_0 (Q : Post) (ds : List Deferred) (σ : Env) (w : World) : vc Try.prog (.region r70_0) Q ds σ w = vcOps Try.prog [⟨some 2, (Op.assign (Operand.const (Value.slice none 0 0))), 22, none⟩] (Q .normal ds) σ w := mk_eq rfl
@[push_cast] theorem vr70_1 (Q : Post) (ds : List Deferred) (σ : Env) (w : World) : vc Try.prog (.region r70_1) Q ds σ w = vcOps Try.prog [⟨some 3, (Op.assign (Operand.const (Value.slice none 0 0))), 22, none⟩] (Q .normal ds) σ w := mk_eq rfl
@[push_cast] theorem vr70_2 (Q : Post) (ds : List Deferred) (σ : Env) (w : World) : vc Try.prog (.region r70_2) Q ds σ w = vcOps Try.prog [⟨some 4, (Op.assign (Operand.const (Value.int IntKind.i64 0))), 3, none⟩] (Q .normal ds) σ w := mk_eq rfl
@[push_cast] theorem vr70_3 (Q : Post) (ds : List Deferred) (σ : Env) (w : World) : vc Try.prog (.region r70_3) Q ds σ w = vcOps Try.prog [⟨some 6, (Op.move (Operand.tmp 4)), 3, none⟩, ⟨some 7, (Op.move (Operand.tmp 0)), 49, none⟩, ⟨some 8, (Op.call { callee := (Callee.builtin Builtin.len), args := #[(Operand.tmp 7)], argTypes := #[49] }), 3, none⟩, ⟨some 9, (Op.binOp BinOp.lss 3 (Operand.tmp 6) (Operand.tmp 8) 3), 4, none⟩] (Q .normal ds) σ w := mk_eq rfl
@[push_cast] theorem vr70_5 (Q : Post) (ds : List Deferred) (σ : Env) (w : World) : vc Try.prog (.region r70_5) Q ds σ w = vcOps Try.prog [⟨some 12, (Op.move (Operand.tmp 3)), 22, none⟩, ⟨some 13, (Op.call { callee := (Callee.builtin Builtin.len), args := #[(Operand.tmp 12)], argTypes := #[22] }), 3, none⟩, ⟨some 5, (Op.assign (Operand.tmp 13)), 3, none⟩] (Q .normal ds) σ w := mk_eq rfl
@[push_cast] theorem vr70_6 (Q : Post) (ds : List Deferred) (σ : Env) (w : World) : vc Try.prog (.draw r70_6 3) Q ds σ w = drawn Try.prog [(⟨some 14, (Op.move (Operand.tmp 5)), 3, none⟩, [5]), (⟨some 15, (Op.binOp BinOp.gtr 3 (Operand.tmp 14) (Operand.const (Value.int IntKind.i64 0)) 3), 4, none⟩, [14]), (⟨some 16, (Op.move (Operand.tmp 15)), 4, none⟩, [15]), (⟨some 17, (Op.move (Operand.tmp 3)), 22, some (16, true)⟩, [3, 16]), (⟨some 18, (Op.move (Operand.tmp 5)), 3, some (16, true)⟩, [5, 16]), (⟨some 19, (Op.binOp BinOp.sub 3 (Operand.tmp 18) (Operand.const (Value.int IntKind.i64 1)) 3), 3, some (16, true)⟩, [18, 16]), (⟨some 20, (Op.indexAddr 22 (Operand.tmp 17) (Operand.tmp 19)), 0, some (16, true)⟩, [17, 19, 16]), (⟨some 21, (Op.fieldAddr 63 (Operand.tmp 20) 1), 0, some (16, true)⟩, [20, 16]), (⟨some 22, (Op.load 3 (Operand.tmp 21)), 3, some (16, true)⟩, [21, 16]), (⟨some 23, (Op.move (Operand.tmp 0)), 49, some (16, true)⟩, [0, 16]), (⟨some 24, (Op.move (Operand.tmp 4)), 3, some (16, true)⟩, [4, 16]), (⟨some 25, (Op.indexAddr 49 (Operand.tmp 23) (Operand.tmp 24)), 0, some (16, true)⟩, [23, 24, 16]), (⟨some 26, (Op.load 3 (Operand.tmp 25)), 3, some (16, true)⟩, [25, 16]), (⟨some 27, (Op.binOp BinOp.eql 3 (Operand.tmp 22) (Operand.tmp 26) 3), 4, some (16, true)⟩, [22, 26, 16]), (⟨some 28, (Op.pick (Operand.tmp 16) (Operand.tmp 27) (Operand.const (Value.bool false))), 4, none⟩, [16, 27])] 3 (Q .normal ds) σ w := mk_eq rfl
@[push_cast] theorem vr70_7 (Q : Post) (ds : List Deferred) (σ : Env) (w : World) : vc Try.prog (.region r70_7) Q ds σ w = vcOps Try.prog [⟨some 29, (Op.move (Operand.tmp 3)), 22, none⟩, ⟨some 30, (Op.move (Operand.tmp 5)), 3, none⟩, ⟨some 31, (Op.binOp BinOp.sub 3 (Operand.tmp 30) (Operand.const (Value.int IntKind.i64 1)) 3), 3, none⟩, ⟨some 32, (Op.move (Operand.tmp 0)), 49, none⟩, ⟨some 33, (Op.move (Operand.tmp 4)), 3, none⟩, ⟨some 34, (Op.indexAddr 49 (Operand.tmp 32) (Operand.tmp 33)), 0, none⟩, ⟨some 35, (Op.load 3 (Operand.tmp 34)), 3, none⟩, ⟨some 36, (Op.binOp BinOp.add 3 (Operand.tmp 35) (Operand.const (Value.int IntKind.i64 1)) 3), 3, none⟩, ⟨some 37, (Op.indexAddr 22 (Operand.tmp 29) (Operand.tmp 31)), 0, none⟩, ⟨some 38, (Op.fieldAddr 63 (Operand.tmp 37) 1), 0, none⟩, ⟨none, (Op.store 3 (Operand.tmp 38) (Operand.tmp 36)), 0, none⟩] (Q .normal ds) σ w := mk_eq rfl
@[push_cast] theorem vr70_8 (Q : Post) (ds : List Deferred) (σ : Env) (w : World) : vc Try.prog (.draw r70_8 3) Q ds σ w = drawn Try.prog [(⟨some 39, (Op.move (Operand.tmp 3)), 22, none⟩, [3]), (⟨some 40, (Op.move (Operand.tmp 0)), 49, none⟩, [0]), (⟨some 41, (Op.move (Operand.tmp 4)), 3, none⟩, [4]), (⟨some 42, (Op.indexAddr 49 (Operand.tmp 40) (Operand.tmp 41)), 0, none⟩, [40, 41]), (⟨some 43, (Op.load 3 (Operand.tmp 42)), 3, none⟩, [42]), (⟨some 44, (Op.move (Operand.tmp 0)), 49, none⟩, [0]), (⟨some 45, (Op.move (Operand.tmp 4)), 3, none⟩, [4]), (⟨some 46, (Op.indexAddr 49 (Operand.tmp 44) (Operand.tmp 45)), 0, none⟩, [44, 45]), (⟨some 47, (Op.load 3 (Operand.tmp 46)), 3, none⟩, [46]), (⟨some 48, (Op.binOp BinOp.add 3 (Operand.tmp 47) (Operand.const (Value.int IntKind.i64 1)) 3), 3, none⟩, [47]), (⟨some 49, (Op.build 63 #[(0, (Operand.tmp 43)), (1, (Operand.tmp 48))]), 63, none⟩, [43, 48]), (⟨some 50, (Op.buildSlice 22 1 #[(0, (Operand.tmp 49))]), 22, none⟩, [49]), (⟨some 51, (Op.call { callee := (Callee.builtin Builtin.append), args := #[(Operand.tmp 39), (Operand.tmp 50)], argTypes := #[22, 22] }), 22, none⟩, [39, 50]), (⟨some 3, (Op.assign (Operand.tmp 51)), 22, none⟩, [51])] 3 (Q .normal ds) σ w := mk_eq rfl
@[push_cast] theorem vr70_4 (Q : Post) (ds : List Deferred) (σ : Env) (w : World) : vc Try.prog (.region r70_4) Q ds σ w = vcOps Try.prog [⟨some 10, (Op.move (Operand.tmp 4)), 3, none⟩, ⟨some 11, (Op.binOp BinOp.add 3 (Operand.tmp 10) (Operand.const (Value.int IntKind.i64 1)) 3), 3, none⟩, ⟨some 4, (Op.assign (Operand.tmp 11)), 3, none⟩] (Q .normal ds) σ w := mk_eq rfl
@[push_cast] theorem vr70_9 (Q : Post) (ds : List Deferred) (σ : Env) (w : World) : vc Try.prog (.region r70_9) Q ds σ w = vcOps Try.prog [⟨some 52, (Op.move (Operand.tmp 3)), 22, none⟩, ⟨some 2, (Op.assign (Operand.tmp 52)), 22, none⟩] (Q .normal ds) σ w := mk_eq rfl
/-! 71 columbary/runs.Or$1 (params #[4, 4], results #[(ResultVar.tmp 4)], 9 slots) -/
def r71_0 : List VOp :=
  [⟨some 4, (Op.assign (Operand.const (Value.bool false))), 4, none⟩]
def r71_1 : List VOp :=
  [⟨some 5, (Op.move (Operand.tmp 0)), 4, none⟩,
   ⟨some 6, (Op.move (Operand.tmp 5)), 4, none⟩,
   ⟨some 7, (Op.move (Operand.tmp 1)), 4, some (6, false)⟩,
   ⟨some 8, (Op.pick (Operand.tmp 6) (Operand.const (Value.bool true)) (Operand.tmp 7)), 4, none⟩,
   ⟨some 4, (Op.assign (Operand.tmp 8)), 4, none⟩]
def B71 : VC :=
  (.seq (.region r71_0) (.seq (.region r71_1) .ret))
theorem code71 : ∃ c, Try.f71.body = some c ∧ abs Try.f71.ntmps c = B71 := ⟨_, rfl, by kernel_rfl⟩
theorem hb71 : HasBody Try.prog 71 := hasBody_of Try.func71 (by kernel_rfl)
theorem res71 : Try.f71.results = #[(ResultVar.tmp 4)] := rfl
theorem enter71 {w : World} {R : Value → World → Prop} (x0 x1 : Value) (h : vc Try.prog B71 (retK Try.prog #[(ResultVar.tmp 4)] R) [] (initEnv [x0, x1] 0) w) : FnC Try.prog 71 #[x0, x1] w R := by
  obtain ⟨c, h1, h2⟩ := code71
  exact hb71.fn (ret_of_vc mixed Try.func71 h1 (Nat.le_of_ble_eq_true rfl) B71 h2 h)
@[push_cast] theorem vr71_0 (Q : Post) (ds : List Deferred) (σ : Env) (w : World) : vc Try.prog (.region r71_0) Q ds σ w = vcOps Try.prog [⟨some 4, (Op.assign (Operand.const (Value.bool false))), 4, none⟩] (Q .normal ds) σ w := mk_eq rfl
@[push_cast] theorem vr71_1 (Q : Post) (ds : List Deferred) (σ : Env) (w : World) : vc Try.prog (.region r71_1) Q ds σ w = vcOps Try.prog [⟨some 5, (Op.move (Operand.tmp 0)), 4, none⟩, ⟨some 6, (Op.move (Operand.tmp 5)), 4, none⟩, ⟨some 7, (Op.move (Operand.tmp 1)), 4, some (6, false)⟩, ⟨some 8, (Op.pick (Operand.tmp 6) (Operand.const (Value.bool true)) (Operand.tmp 7)), 4, none⟩, ⟨some 4, (Op.assign (Operand.tmp 8)), 4, none⟩] (Q .normal ds) σ w := mk_eq rfl
/-! 72 columbary/runs.Minus$1 (params #[4, 4], results #[(ResultVar.tmp 4)], 10 slots) -/
def r72_0 : List VOp :=
  [⟨some 4, (Op.assign (Operand.const (Value.bool false))), 4, none⟩]
def r72_1 : List VOp :=
  [⟨some 5, (Op.move (Operand.tmp 0)), 4, none⟩,
   ⟨some 6, (Op.move (Operand.tmp 5)), 4, none⟩,
   ⟨some 7, (Op.move (Operand.tmp 1)), 4, some (6, true)⟩,
   ⟨some 8, (Op.unOp UnOp.not 4 (Operand.tmp 7)), 4, some (6, true)⟩,
   ⟨some 9, (Op.pick (Operand.tmp 6) (Operand.tmp 8) (Operand.const (Value.bool false))), 4, none⟩,
   ⟨some 4, (Op.assign (Operand.tmp 9)), 4, none⟩]
def B72 : VC :=
  (.seq (.region r72_0) (.seq (.region r72_1) .ret))
theorem code72 : ∃ c, Try.f72.body = some c ∧ abs Try.f72.ntmps c = B72 := ⟨_, rfl, by kernel_rfl⟩
theorem hb72 : HasBody Try.prog 72 := hasBody_of Try.func72 (by kernel_rfl)
theorem res72 : Try.f72.results = #[(ResultVar.tmp 4)] := rfl
theorem enter72 {w : World} {R : Value → World → Prop} (x0 x1 : Value) (h : vc Try.prog B72 (retK Try.prog #[(ResultVar.tmp 4)] R) [] (initEnv [x0, x1] 0) w) : FnC Try.prog 72 #[x0, x1] w R := by
  obtain ⟨c, h1, h2⟩ := code72
  exact hb72.fn (ret_of_vc mixed Try.func72 h1 (Nat.le_of_ble_eq_true rfl) B72 h2 h)
@[push_cast] theorem vr72_0 (Q : Post) (ds : List Deferred) (σ : Env) (w : World) : vc Try.prog (.region r72_0) Q ds σ w = vcOps Try.prog [⟨some 4, (Op.assign (Operand.const (Value.bool false))), 4, none⟩] (Q .normal ds) σ w := mk_eq rfl
@[push_cast] theorem vr72_1 (Q : Post) (ds : List Deferred) (σ : Env) (w : World) : vc Try.prog (.region r72_1) Q ds σ w = vcOps Try.prog [⟨some 5, (Op.move (Operand.tmp 0)), 4, none⟩, ⟨some 6, (Op.move (Operand.tmp 5)), 4, none⟩, ⟨some 7, (Op.move (Operand.tmp 1)), 4, some (6, true)⟩, ⟨some 8, (Op.unOp UnOp.not 4 (Operand.tmp 7)), 4, some (6, true)⟩, ⟨some 9, (Op.pick (Operand.tmp 6) (Operand.tmp 8) (Operand.const (Value.bool false))), 4, none⟩, ⟨some 4, (Op.assign (Operand.tmp 9)), 4, none⟩] (Q .normal ds) σ w := mk_eq rfl
/-! 73 slices.ContainsFunc[[]int,int] (params #[49, 33], results #[(ResultVar.tmp 4)], 9 slots) -/
def r73_0 : List VOp :=
  [⟨some 4, (Op.assign (Operand.const (Value.bool false))), 4, none⟩]
def r73_1 : List VOp :=
  [⟨some 5, (Op.move (Operand.tmp 0)), 49, none⟩,
   ⟨some 6, (Op.move (Operand.tmp 1)), 33, none⟩,
   ⟨some 7, (Op.call { callee := (Callee.value (Operand.func 92)), args := #[(Operand.tmp 5), (Operand.tmp 6)], argTypes := #[49, 33] }), 3, none⟩,
   ⟨some 8, (Op.binOp BinOp.geq 3 (Operand.tmp 7) (Operand.const (Value.int IntKind.i64 0)) 3), 4, none⟩,
   ⟨some 4, (Op.assign (Operand.tmp 8)), 4, none⟩]
def B73 : VC :=
  (.seq (.region r73_0) (.seq (.region r73_1) .ret))
theorem code73 : ∃ c, Try.f73.body = some c ∧ abs Try.f73.ntmps c = B73 := ⟨_, rfl, by kernel_rfl⟩
theorem hb73 : HasBody Try.prog 73 := hasBody_of Try.func73 (by kernel_rfl)
theorem res73 : Try.f73.results = #[(ResultVar.tmp 4)] := rfl
theorem enter73 {w : World} {R : Value → World → Prop} (x0 x1 : Value) (h : vc Try.prog B73 (retK Try.prog #[(ResultVar.tmp 4)] R) [] (initEnv [x0, x1] 0) w) : FnC Try.prog 73 #[x0, x1] w R := by
  obtain ⟨c, h1, h2⟩ := code73
  exact hb73.fn (ret_of_vc mixed Try.func73 h1 (Nat.le_of_ble_eq_true rfl) B73 h2 h)
@[push_cast] theorem vr73_0 (Q : Post) (ds : List Deferred) (σ : Env) (w : World) : vc Try.prog (.region r73_0) Q ds σ w = vcOps Try.prog [⟨some 4, (Op.assign (Operand.const (Value.bool false))), 4, none⟩] (Q .normal ds) σ w := mk_eq rfl
@[push_cast] theorem vr73_1 (Q : Post) (ds : List Deferred) (σ : Env) (w : World) : vc Try.prog (.region r73_1) Q ds σ w = vcOps Try.prog [⟨some 5, (Op.move (Operand.tmp 0)), 49, none⟩, ⟨some 6, (Op.move (Operand.tmp 1)), 33, none⟩, ⟨some 7, (Op.call { callee := (Callee.value (Operand.func 92)), args := #[(Operand.tmp 5), (Operand.tmp 6)], argTypes := #[49, 33] }), 3, none⟩, ⟨some 8, (Op.binOp BinOp.geq 3 (Operand.tmp 7) (Operand.const (Value.int IntKind.i64 0)) 3), 4, none⟩, ⟨some 4, (Op.assign (Operand.tmp 8)), 4, none⟩] (Q .normal ds) σ w := mk_eq rfl
/-! 74 columbary/runs.Of$1 (params #[3], results #[(ResultVar.tmp 2)], 9 slots) -/
def r74_0 : List VOp :=
  [⟨some 2, (Op.assign (Operand.const (Value.bool false))), 4, none⟩]
def r74_1 : List VOp :=
  [⟨some 3, (Op.move (Operand.tmp 0)), 3, none⟩,
   ⟨some 4, (Op.binOp BinOp.lss 3 (Operand.tmp 3) (Operand.const (Value.int IntKind.i64 0)) 3), 4, none⟩,
   ⟨some 5, (Op.move (Operand.tmp 4)), 4, none⟩,
   ⟨some 6, (Op.move (Operand.tmp 0)), 3, some (5, false)⟩,
   ⟨some 7, (Op.binOp BinOp.geq 3 (Operand.tmp 6) (Operand.const (Value.int IntKind.i64 65536)) 3), 4, some (5, false)⟩,
   ⟨some 8, (Op.pick (Operand.tmp 5) (Operand.const (Value.bool true)) (Operand.tmp 7)), 4, none⟩,
   ⟨some 2, (Op.assign (Operand.tmp 8)), 4, none⟩]
def B74 : VC :=
  (.seq (.region r74_0) (.seq (.region r74_1) .ret))
theorem code74 : ∃ c, Try.f74.body = some c ∧ abs Try.f74.ntmps c = B74 := ⟨_, rfl, by kernel_rfl⟩
theorem hb74 : HasBody Try.prog 74 := hasBody_of Try.func74 (by kernel_rfl)
theorem res74 : Try.f74.results = #[(ResultVar.tmp 2)] := rfl
theorem enter74 {w : World} {R : Value → World → Prop} (x0 : Value) (h : vc Try.prog B74 (retK Try.prog #[(ResultVar.tmp 2)] R) [] (initEnv [x0] 0) w) : FnC Try.prog 74 #[x0] w R := by
  obtain ⟨c, h1, h2⟩ := code74
  exact hb74.fn (ret_of_vc mixed Try.func74 h1 (Nat.le_of_ble_eq_true rfl) B74 h2 h)
@[push_cast] theorem vr74_0 (Q : Post) (ds : List Deferred) (σ : Env) (w : World) : vc Try.prog (.region r74_0) Q ds σ w = vcOps Try.prog [⟨some 2, (Op.assign (Operand.const (Value.bool false))), 4, none⟩] (Q .normal ds) σ w := mk_eq rfl
@[push_cast] theorem vr74_1 (Q : Post) (ds : List Deferred) (σ : Env) (w : World) : vc Try.prog (.region r74_1) Q ds σ w = vcOps Try.prog [⟨some 3, (Op.move (Operand.tmp 0)), 3, none⟩, ⟨some 4, (Op.binOp BinOp.lss 3 (Operand.tmp 3) (Operand.const (Value.int IntKind.i64 0)) 3), 4, none⟩, ⟨some 5, (Op.move (Operand.tmp 4)), 4, none⟩, ⟨some 6, (Op.move (Operand.tmp 0)), 3, some (5, false)⟩, ⟨some 7, (Op.binOp BinOp.geq 3 (Operand.tmp 6) (Operand.const (Value.int IntKind.i64 65536)) 3), 4, some (5, false)⟩, ⟨some 8, (Op.pick (Operand.tmp 5) (Operand.const (Value.bool true)) (Operand.tmp 7)), 4, none⟩, ⟨some 2, (Op.assign (Operand.tmp 8)), 4, none⟩] (Q .normal ds) σ w := mk_eq rfl
/-! 75 slices.Clone[[]int,int] (params #[49], results #[(ResultVar.tmp 2)], 8 slots) -/
def r75_0 : List VOp :=
  [⟨some 2, (Op.assign (Operand.const (Value.slice none 0 0))), 49, none⟩]
def r75_1 : List VOp :=
  [⟨some 3, (Op.move (Operand.tmp 0)), 49, none⟩,
   ⟨some 4, (Op.binOp BinOp.eql 49 (Operand.tmp 3) (Operand.const (Value.slice none 0 0)) 49), 4, none⟩]
def r75_2 : List VOp :=
  [⟨some 2, (Op.assign (Operand.const (Value.slice none 0 0))), 49, none⟩]
def r75_3 : List VOp :=
  [⟨some 5, (Op.buildSlice 49 0 #[]), 49, none⟩,
   ⟨some 6, (Op.move (Operand.tmp 0)), 49, none⟩,
   ⟨some 7, (Op.call { callee := (Callee.builtin Builtin.append), args := #[(Operand.tmp 5), (Operand.tmp 6)], argTypes := #[49, 49] }), 49, none⟩,
   ⟨some 2, (Op.assign (Operand.tmp 7)), 49, none⟩]
def B75 : VC :=
  (.seq (.region r75_0) (.seq (.seq (.region r75_1) (.cond (Operand.tmp 4) (.seq (.region r75_2) .ret) .skip)) (.seq (.region r75_3) .ret)))
theorem code75 : ∃ c, Try.f75.body = some c ∧ abs Try.f75.ntmps c = B75 := ⟨_, rfl, by kernel_rfl⟩
theorem hb75 : HasBody Try.prog 75 := hasBody_of Try.func75 (by kernel_rfl)
theorem res75 : Try.f75.results = #[(ResultVar.tmp 2)] := rfl
theorem enter75 {w : World} {R : Value → World → Prop} (x0 : Value) (h : vc Try.prog B75 (retK Try.prog #[(ResultVar.tmp 2)] R) [] (initEnv [x0] 0) w) : FnC Try.prog 75 #[x0] w R := by
  obtain ⟨c, h1, h2⟩ := code75
  exact hb75.fn (ret_of_vc mixed Try.func75 h1 (Nat.le_of_ble_eq_true rfl) B75 h2 h)
@[push_cast] theorem vr75_0 (Q : Post) (ds : List Deferred) (σ : Env) (w : World) : vc Try.prog (.region r75_0) Q ds σ w = vcOps Try.prog [⟨some 2, (Op.assign (Operand.const (Value.slice none 0 0))), 49, none⟩] (Q .normal ds) σ w := mk_eq rfl
@[push_cast] theorem vr75_1 (Q : Post) (ds : List Deferred) (σ : Env) (w : World) : vc Try.prog (.region r75_1) Q ds σ w = vcOps Try.prog [⟨some 3, (Op.move (Operand.tmp 0)), 49, none⟩, ⟨some 4, (Op.binOp BinOp.eql 49 (Operand.tmp 3) (Operand.const (Value.slice none 0 0)) 49), 4, none⟩] (Q .normal ds) σ w := mk_eq rfl
@[push_cast] theorem vr75_2 (Q : Post) (ds : List Deferred) (σ : Env) (w : World) : vc Try.prog (.region r75_2) Q ds σ w = vcOps Try.prog [⟨some 2, (Op.assign (Operand.const (Value.slice none 0 0))), 49, none⟩] (Q .normal ds) σ w := mk_eq rfl
@[push_cast] theorem vr75_3 (Q : Post) (ds : List Deferred) (σ : Env) (w : World) : vc Try.prog (.region r75_3) Q ds σ w = vcOps Try.prog [⟨some 5, (Op.buildSlice 49 0 #[]), 49, none⟩, ⟨some 6, (Op.move (Operand.tmp 0)), 49, none⟩, ⟨some 7, (Op.call { callee := (Callee.builtin Builtin.append), args := #[(Operand.tmp 5), (Operand.tmp 6)], argTypes := #[49, 49] }), 49, none⟩, ⟨some 2, (Op.assign (Operand.tmp 7)), 49, none⟩] (Q .normal ds) σ w := mk_eq rfl
/-! 78 columbary/runs.with (params #[22, 63], results #[(ResultVar.tmp 4)], 33 slots) -/
def r78_0 : List VOp :=
  [⟨some 3, (Op.box 63 (Operand.tmp 1)), 0, none⟩,
   ⟨some 4, (Op.assign (Operand.const (Value.slice none 0 0))), 22, none⟩]
def r78_1 : List VOp :=
  [⟨some 6, (Op.move (Operand.tmp 0)), 22, none⟩,
   ⟨some 7, (Op.call { callee := (Callee.builtin Builtin.len), args := #[(Operand.tmp 6)], argTypes := #[22] }), 3, none⟩,
   ⟨some 5, (Op.assign (Operand.tmp 7)), 3, none⟩]
def r78_2 : List VOp :=
  [⟨some 8, (Op.move (Operand.tmp 5)), 3, none⟩,
   ⟨some 9, (Op.binOp BinOp.gtr 3 (Operand.tmp 8) (Operand.const (Value.int IntKind.i64 0)) 3), 4, none⟩,
   ⟨some 10, (Op.move (Operand.tmp 9)), 4, none⟩,
   ⟨some 11, (Op.move (Operand.tmp 0)), 22, some (10, true)⟩,
   ⟨some 12, (Op.move (Operand.tmp 5)), 3, some (10, true)⟩,
   ⟨some 13, (Op.binOp BinOp.sub 3 (Operand.tmp 12) (Operand.const (Value.int IntKind.i64 1)) 3), 3, some (10, true)⟩,
   ⟨some 14, (Op.indexAddr 22 (Operand.tmp 11) (Operand.tmp 13)), 0, some (10, true)⟩,
   ⟨some 15, (Op.fieldAddr 63 (Operand.tmp 14) 1), 0, some (10, true)⟩,
   ⟨some 16, (Op.load 3 (Operand.tmp 15)), 3, some (10, true)⟩,
   ⟨some 17, (Op.fieldAddr 63 (Operand.tmp 3) 0), 0, some (10, true)⟩,
   ⟨some 18, (Op.load 3 (Operand.tmp 17)), 3, some (10, true)⟩,
   ⟨some 19, (Op.binOp BinOp.eql 3 (Operand.tmp 16) (Operand.tmp 18) 3), 4, some (10, true)⟩,
   ⟨some 20, (Op.pick (Operand.tmp 10) (Operand.tmp 19) (Operand.const (Value.bool false))), 4, none⟩]
def r78_3 : List VOp :=
  [⟨some 21, (Op.move (Operand.tmp 0)), 22, none⟩,
   ⟨some 22, (Op.move (Operand.tmp 5)), 3, none⟩,
   ⟨some 23, (Op.binOp BinOp.sub 3 (Operand.tmp 22) (Operand.const (Value.int IntKind.i64 1)) 3), 3, none⟩,
   ⟨some 24, (Op.fieldAddr 63 (Operand.tmp 3) 1), 0, none⟩,
   ⟨some 25, (Op.load 3 (Operand.tmp 24)), 3, none⟩,
   ⟨some 26, (Op.indexAddr 22 (Operand.tmp 21) (Operand.tmp 23)), 0, none⟩,
   ⟨some 27, (Op.fieldAddr 63 (Operand.tmp 26) 1), 0, none⟩,
   ⟨none, (Op.store 3 (Operand.tmp 27) (Operand.tmp 25)), 0, none⟩]
def r78_4 : List VOp :=
  [⟨some 28, (Op.move (Operand.tmp 0)), 22, none⟩,
   ⟨some 4, (Op.assign (Operand.tmp 28)), 22, none⟩]
def r78_5 : List VOp :=
  [⟨some 29, (Op.move (Operand.tmp 0)), 22, none⟩,
   ⟨some 30, (Op.load 63 (Operand.tmp 3)), 63, none⟩,
   ⟨some 31, (Op.buildSlice 22 1 #[(0, (Operand.tmp 30))]), 22, none⟩,
   ⟨some 32, (Op.call { callee := (Callee.builtin Builtin.append), args := #[(Operand.tmp 29), (Operand.tmp 31)], argTypes := #[22, 22] }), 22, none⟩,
   ⟨some 4, (Op.assign (Operand.tmp 32)), 22, none⟩]
def B78 : VC :=
  (.seq (.region r78_0) (.seq (.seq (.region r78_1) (.seq (.draw r78_2 3) (.cond (Operand.tmp 20) (.seq (.region r78_3) (.seq (.region r78_4) .ret)) .skip))) (.seq (.region r78_5) .ret)))
theorem code78 : ∃ c, Try.f78.body = some c ∧ abs Try.f78.ntmps c = B78 := ⟨_, rfl, by kernel_rfl⟩
theorem hb78 : HasBody Try.prog 78 := hasBody_of Try.func78 (by kernel_rfl)
theorem res78 : Try.f78.results = #[(ResultVar.tmp 4)] := rfl
theorem enter78 {w : World} {R : Value → World → Prop} (x0 x1 : Value) (h : vc Try.prog B78 (retK Try.prog #[(ResultVar.tmp 4)] R) [] (initEnv [x0, x1] 0) w) : FnC Try.prog 78 #[x0, x1] w R := by
  obtain ⟨c, h1, h2⟩ := code78
  exact hb78.fn (ret_of_vc mixed Try.func78 h1 (Nat.le_of_ble_eq_true rfl) B78 h2 h)
@[push_cast] theorem vr78_0 (Q : Post) (ds : List Deferred) (σ : Env) (w : World) : vc Try.prog (.region r78_0) Q ds σ w = vcOps Try.prog [⟨some 3, (Op.box 63 (Operand.tmp 1)), 0, none⟩, ⟨some 4, (Op.assign (Operand.const (Value.slice none 0 0))), 22, none⟩] (Q .normal ds) σ w := mk_eq rfl
@[push_cast] theorem vr78_1 (Q : Post) (ds : List Deferred) (σ : Env) (w : World) : vc Try.prog (.region r78_1) Q ds σ w = vcOps Try.prog [⟨some 6, (Op.move (Operand.tmp 0)), 22, none⟩, ⟨some 7, (Op.call { callee := (Callee.builtin Builtin.len), args := #[(Operand.tmp 6)], argTypes := #[22] }), 3, none⟩, ⟨some 5, (Op.assign (Operand.tmp 7)), 3, none⟩] (Q .normal ds) σ w := mk_eq rfl
@[push_cast] theorem vr78_2 (Q : Post) (ds : List Deferred) (σ : Env) (w : World) : vc Try.prog (.draw r78_2 3) Q ds σ w = drawn Try.prog [(⟨some 8, (Op.move (Operand.tmp 5)), 3, none⟩, [5]), (⟨some 9, (Op.binOp BinOp.gtr 3 (Operand.tmp 8) (Operand.const (Value.int IntKind.i64 0)) 3), 4, none⟩, [8]), (⟨some 10, (Op.move (Operand.tmp 9)), 4, none⟩, [9]), (⟨some 11, (Op.move (Operand.tmp 0)), 22, some (10, true)⟩, [0, 10]), (⟨some 12, (Op.move (Operand.tmp 5)), 3, some (10, true)⟩, [5, 10]), (⟨some 13, (Op.binOp BinOp.sub 3 (Operand.tmp 12) (Operand.const (Value.int IntKind.i64 1)) 3), 3, some (10, true)⟩, [12, 10]), (⟨some 14, (Op.indexAddr 22 (Operand.tmp 11) (Operand.tmp 13)), 0, some (10, true)⟩, [11, 13, 10]), (⟨some 15, (Op.fieldAddr 63 (Operand.tmp 14) 1), 0, some (10, true)⟩, [14, 10]), (⟨some 16, (Op.load 3 (Operand.tmp 15)), 3, some (10, true)⟩, [15, 10]), (⟨some 17, (Op.fieldAddr 63 (Operand.tmp 3) 0), 0, some (10, true)⟩, [3, 10]), (⟨some 18, (Op.load 3 (Operand.tmp 17)), 3, some (10, true)⟩, [17, 10]), (⟨some 19, (Op.binOp BinOp.eql 3 (Operand.tmp 16) (Operand.tmp 18) 3), 4, some (10, true)⟩, [16, 18, 10]), (⟨some 20, (Op.pick (Operand.tmp 10) (Operand.tmp 19) (Operand.const (Value.bool false))), 4, none⟩, [10, 19])] 3 (Q .normal ds) σ w := mk_eq rfl
@[push_cast] theorem vr78_3 (Q : Post) (ds : List Deferred) (σ : Env) (w : World) : vc Try.prog (.region r78_3) Q ds σ w = vcOps Try.prog [⟨some 21, (Op.move (Operand.tmp 0)), 22, none⟩, ⟨some 22, (Op.move (Operand.tmp 5)), 3, none⟩, ⟨some 23, (Op.binOp BinOp.sub 3 (Operand.tmp 22) (Operand.const (Value.int IntKind.i64 1)) 3), 3, none⟩, ⟨some 24, (Op.fieldAddr 63 (Operand.tmp 3) 1), 0, none⟩, ⟨some 25, (Op.load 3 (Operand.tmp 24)), 3, none⟩, ⟨some 26, (Op.indexAddr 22 (Operand.tmp 21) (Operand.tmp 23)), 0, none⟩, ⟨some 27, (Op.fieldAddr 63 (Operand.tmp 26) 1), 0, none⟩, ⟨none, (Op.store 3 (Operand.tmp 27) (Operand.tmp 25)), 0, none⟩] (Q .normal ds) σ w := mk_eq rfl
@[push_cast] theorem vr78_4 (Q : Post) (ds : List Deferred) (σ : Env) (w : World) : vc Try.prog (.region r78_4) Q ds σ w = vcOps Try.prog [⟨some 28, (Op.move (Operand.tmp 0)), 22, none⟩, ⟨some 4, (Op.assign (Operand.tmp 28)), 22, none⟩] (Q .normal ds) σ w := mk_eq rfl
@[push_cast] theorem vr78_5 (Q : Post) (ds : List Deferred) (σ : Env) (w : World) : vc Try.prog (.region r78_5) Q ds σ w = vcOps Try.prog [⟨some 29, (Op.move (Operand.tmp 0)), 22, none⟩, ⟨some 30, (Op.load 63 (Operand.tmp 3)), 63, none⟩, ⟨some 31, (Op.buildSlice 22 1 #[(0, (Operand.tmp 30))]), 22, none⟩, ⟨some 32, (Op.call { callee := (Callee.builtin Builtin.append), args := #[(Operand.tmp 29), (Operand.tmp 31)], argTypes := #[22, 22] }), 22, none⟩, ⟨some 4, (Op.assign (Operand.tmp 32)), 22, none⟩] (Q .normal ds) σ w := mk_eq rfl
/-! 89 slices.BinarySearchFunc[[]columbary/api.Run,columbary/api.Run,int] (params #[22, 3, 104], results #[(ResultVar.tmp 6), (ResultVar.tmp 7)], 49 slots) -/
def W89_0 : List Nat := [9, 10, 11, 15, 16, 17, 18, 19, 20, 21, 22, 23, 24, 25, 26, 27, 28, 29, 30, 31, 32, 33, 34]
@[push_cast] theorem W89_0_def : W89_0 = [9, 10, 11, 15, 16, 17, 18, 19, 20, 21, 22, 23, 24, 25, 26, 27, 28, 29, 30, 31, 32, 33, 34] := mk_eq rfl
def r89_0 : List VOp :=
  [⟨some 6, (Op.assign (Operand.const (Value.int IntKind.i64 0))), 3, none⟩,
   ⟨some 7, (Op.assign (Operand.const (Value.bool false))), 4, none⟩]
def r89_1 : List VOp :=
  [⟨some 12, (Op.move (Operand.tmp 0)), 22, none⟩,
   ⟨some 13, (Op.call { callee := (Callee.builtin Builtin.len), args := #[(Operand.tmp 12)], argTypes := #[22] }), 3, none⟩,
   ⟨some 8, (Op.assign (Operand.tmp 13)), 3, none⟩]
def r89_2 : List VOp :=
  [⟨some 14, (Op.move (Operand.tmp 8)), 3, none⟩,
   ⟨some 9, (Op.assign (Operand.const (Value.int IntKind.i64 0))), 3, none⟩,
   ⟨some 10, (Op.assign (Operand.tmp 14)), 3, none⟩]
def r89_3 : List VOp :=
  [⟨some 15, (Op.move (Operand.tmp 9)), 3, none⟩,
   ⟨some 16, (Op.move (Operand.tmp 10)), 3, none⟩,
   ⟨some 17, (Op.binOp BinOp.lss 3 (Operand.tmp 15) (Operand.tmp 16) 3), 4, none⟩]
def r89_4 : List VOp :=
  [⟨some 18, (Op.move (Operand.tmp 9)), 3, none⟩,
   ⟨some 19, (Op.move (Operand.tmp 10)), 3, none⟩,
   ⟨some 20, (Op.binOp BinOp.add 3 (Operand.tmp 18) (Operand.tmp 19) 3), 3, none⟩,
   ⟨some 21, (Op.convert 3 102 (Operand.tmp 20)), 102, none⟩,
   ⟨some 22, (Op.binOp BinOp.shr 102 (Operand.tmp 21) (Operand.const (Value.int IntKind.u64 1)) 102), 102, none⟩,
   ⟨some 23, (Op.convert 102 3 (Operand.tmp 22)), 3, none⟩,
   ⟨some 11, (Op.assign (Operand.tmp 23)), 3, none⟩]
def r89_5 : List VOp :=
  [⟨some 24, (Op.move (Operand.tmp 2)), 104, none⟩,
   ⟨some 25, (Op.move (Operand.tmp 0)), 22, none⟩,
   ⟨some 26, (Op.move (Operand.tmp 11)), 3, none⟩,
   ⟨some 27, (Op.indexAddr 22 (Operand.tmp 25) (Operand.tmp 26)), 0, none⟩,
   ⟨some 28, (Op.load 63 (Operand.tmp 27)), 63, none⟩,
   ⟨some 29, (Op.move (Operand.tmp 1)), 3, none⟩,
   ⟨some 30, (Op.call { callee := (Callee.value (Operand.tmp 24)), args := #[(Operand.tmp 28), (Operand.tmp 29)], argTypes := #[63, 3] }), 3, none⟩,
   ⟨some 31, (Op.binOp BinOp.lss 3 (Operand.tmp 30) (Operand.const (Value.int IntKind.i64 0)) 3), 4, none⟩]
def r89_6 : List VOp :=
  [⟨some 32, (Op.move (Operand.tmp 11)), 3, none⟩,
   ⟨some 33, (Op.binOp BinOp.add 3 (Operand.tmp 32) (Operand.const (Value.int IntKind.i64 1)) 3), 3, none⟩,
   ⟨some 9, (Op.assign (Operand.tmp 33)), 3, none⟩]
def r89_7 : List VOp :=
  [⟨some 34, (Op.move (Operand.tmp 11)), 3, none⟩,
   ⟨some 10, (Op.assign (Operand.tmp 34)), 3, none⟩]
def r89_8 : List VOp :=
  [⟨some 35, (Op.move (Operand.tmp 9)), 3, none⟩,
   ⟨some 36, (Op.move (Operand.tmp 9)), 3, none⟩,
   ⟨some 37, (Op.move (Operand.tmp 8)), 3, none⟩,
   ⟨some 38, (Op.binOp BinOp.lss 3 (Operand.tmp 36) (Operand.tmp 37) 3), 4, none⟩,
   ⟨some 39, (Op.move (Operand.tmp 38)), 4, none⟩,
   ⟨some 40, (Op.move (Operand.tmp 2)), 104, some (39, true)⟩,
   ⟨some 41, (Op.move (Operand.tmp 0)), 22, some (39, true)⟩,
   ⟨some 42, (Op.move (Operand.tmp 9)), 3, some (39, true)⟩,
   ⟨some 43, (Op.indexAddr 22 (Operand.tmp 41) (Operand.tmp 42)), 0, some (39, true)⟩,
   ⟨some 44, (Op.load 63 (Operand.tmp 43)), 63, some (39, true)⟩,
   ⟨some 45, (Op.move (Operand.tmp 1)), 3, some (39, true)⟩,
   ⟨some 46, (Op.call { callee := (Callee.value (Operand.tmp 40)), args := #[(Operand.tmp 44), (Operand.tmp 45)], argTypes := #[63, 3] }), 3, some (39, true)⟩,
   ⟨some 47, (Op.binOp BinOp.eql 3 (Operand.tmp 46) (Operand.const (Value.int IntKind.i64 0)) 3), 4, some (39, true)⟩,
   ⟨some 48, (Op.pick (Operand.tmp 39) (Operand.tmp 47) (Operand.const (Value.bool false))), 4, none⟩,
   ⟨some 6, (Op.assign (Operand.tmp 35)), 3, none⟩,
   ⟨some 7, (Op.assign (Operand.tmp 48)), 4, none⟩]
def B89 : VC :=
  (.seq (.region r89_0) (.seq (.region r89_1) (.seq (.region r89_2) (.seq (.block 0 (.loop (.seq (.seq (.region r89_3) (.cond (Operand.tmp 17) .skip (.exit 0))) (.block 1 (.seq (.region r89_4) (.seq (.region r89_5) (.cond (Operand.tmp 31) (.region r89_6) (.region r89_7)))))))) (.seq (.region r89_8) .ret)))))
theorem code89 : ∃ c, Try.f89.body = some c ∧ abs Try.f89.ntmps c = B89 := ⟨_, rfl, by kernel_rfl⟩
theorem hb89 : HasBody Try.prog 89 := hasBody_of Try.func89 (by kernel_rfl)
theorem res89 : Try.f89.results = #[(ResultVar.tmp 6), (ResultVar.tmp 7)] := rfl
theorem enter89 {w : World} {R : Value → World → Prop} (x0 x1 x2 : Value) (h : vc Try.prog B89 (retK Try.prog #[(ResultVar.tmp 6), (ResultVar.tmp 7)] R) [] (initEnv [x0, x1, x2] 0) w) : FnC Try.prog 89 #[x0, x1, x2] w R := by
  obtain ⟨c, h1, h2⟩ := code89
  exact hb89.fn (ret_of_vc mixed Try.func89 h1 (Nat.le_of_ble_eq_true rfl) B89 h2 h)
@[push_cast] theorem vr89_0 (Q : Post) (ds : List Deferred) (σ : Env) (w : World) : vc Try.prog (.region r89_0) Q ds σ w = vcOps Try.prog [⟨some 6, (Op.assign (Operand.const (Value.int IntKind.i64 0))), 3, none⟩, ⟨some 7, (Op.assign (Operand.const (Value.bool false))), 4, none⟩] (Q .normal ds) σ w := mk_eq rfl
@[push_cast] theorem vr89_1 (Q : Post) (ds : List Deferred) (σ : Env) (w : World) : vc Try.prog (.region r89_1) Q ds σ w = vcOps Try.prog [⟨some 12, (Op.move (Operand.tmp 0)), 22, none⟩, ⟨some 13, (Op.call { callee := (Callee.builtin Builtin.len), args := #[(Operand.tmp 12)], argTypes := #[22] }), 3, none⟩, ⟨some 8, (Op.assign (Operand.tmp 13)), 3, none⟩] (Q .normal ds) σ w := mk_eq rfl
@[push_cast] theorem vr89_2 (Q : Post) (ds : List Deferred) (σ : Env) (w : World) : vc Try.prog (.region r89_2) Q ds σ w = vcOps Try.prog [⟨some 14, (Op.move (Operand.tmp 8)), 3, none⟩, ⟨some 9, (Op.assign (Operand.const (Value.int IntKind.i64 0))), 3, none⟩, ⟨some 10, (Op.assign (Operand.tmp 14)), 3, none⟩] (Q .normal ds) σ w := mk_eq rfl
@[push_cast] theorem vr89_3 (Q : Post) (ds : List Deferred) (σ : Env) (w : World) : vc Try.prog (.region r89_3) Q ds σ w = vcOps Try.prog [⟨some 15, (Op.move (Operand.tmp 9)), 3, none⟩, ⟨some 16, (Op.move (Operand.tmp 10)), 3, none⟩, ⟨some 17, (Op.binOp BinOp.lss 3 (Operand.tmp 15) (Operand.tmp 16) 3), 4, none⟩] (Q .normal ds) σ w := mk_eq rfl
@[push_cast] theorem vr89_4 (Q : Post) (ds : List Deferred) (σ : Env) (w : World) : vc Try.prog (.region r89_4) Q ds σ w = vcOps Try.prog [⟨some 18, (Op.move (Operand.tmp 9)), 3, none⟩, ⟨some 19, (Op.move (Operand.tmp 10)), 3, none⟩, ⟨some 20, (Op.binOp BinOp.add 3 (Operand.tmp 18) (Operand.tmp 19) 3), 3, none⟩, ⟨some 21, (Op.convert 3 102 (Operand.tmp 20)), 102, none⟩, ⟨some 22, (Op.binOp BinOp.shr 102 (Operand.tmp 21) (Operand.const (Value.int IntKind.u64 1)) 102), 102, none⟩, ⟨some 23, (Op.convert 102 3 (Operand.tmp 22)), 3, none⟩, ⟨some 11, (Op.assign (Operand.tmp 23)), 3, none⟩] (Q .normal ds) σ w := mk_eq rfl
@[push_cast] theorem vr89_5 (Q : Post) (ds : List Deferred) (σ : Env) (w : World) : vc Try.prog (.region r89_5) Q ds σ w = vcOps Try.prog [⟨some 24, (Op.move (Operand.tmp 2)), 104, none⟩, ⟨some 25, (Op.move (Operand.tmp 0)), 22, none⟩, ⟨some 26, (Op.move (Operand.tmp 11)), 3, none⟩, ⟨some 27, (Op.indexAddr 22 (Operand.tmp 25) (Operand.tmp 26)), 0, none⟩, ⟨some 28, (Op.load 63 (Operand.tmp 27)), 63, none⟩, ⟨some 29, (Op.move (Operand.tmp 1)), 3, none⟩, ⟨some 30, (Op.call { callee := (Callee.value (Operand.tmp 24)), args := #[(Operand.tmp 28), (Operand.tmp 29)], argTypes := #[63, 3] }), 3, none⟩, ⟨some 31, (Op.binOp BinOp.lss 3 (Operand.tmp 30) (Operand.const (Value.int IntKind.i64 0)) 3), 4, none⟩] (Q .normal ds) σ w := mk_eq rfl
@[push_cast] theorem vr89_6 (Q : Post) (ds : List Deferred) (σ : Env) (w : World) : vc Try.prog (.region r89_6) Q ds σ w = vcOps Try.prog [⟨some 32, (Op.move (Operand.tmp 11)), 3, none⟩, ⟨some 33, (Op.binOp BinOp.add 3 (Operand.tmp 32) (Operand.const (Value.int IntKind.i64 1)) 3), 3, none⟩, ⟨some 9, (Op.assign (Operand.tmp 33)), 3, none⟩] (Q .normal ds) σ w := mk_eq rfl
@[push_cast] theorem vr89_7 (Q : Post) (ds : List Deferred) (σ : Env) (w : World) : vc Try.prog (.region r89_7) Q ds σ w = vcOps Try.prog [⟨some 34, (Op.move (Operand.tmp 11)), 3, none⟩, ⟨some 10, (Op.assign (Operand.tmp 34)), 3, none⟩] (Q .normal ds) σ w := mk_eq rfl
@[push_cast] theorem vr89_8 (Q : Post) (ds : List Deferred) (σ : Env) (w : World) : vc Try.prog (.region r89_8) Q ds σ w = vcOps Try.prog [⟨some 35, (Op.move (Operand.tmp 9)), 3, none⟩, ⟨some 36, (Op.move (Operand.tmp 9)), 3, none⟩, ⟨some 37, (Op.move (Operand.tmp 8)), 3, none⟩, ⟨some 38, (Op.binOp BinOp.lss 3 (Operand.tmp 36) (Operand.tmp 37) 3), 4, none⟩, ⟨some 39, (Op.move (Operand.tmp 38)), 4, none⟩, ⟨some 40, (Op.move (Operand.tmp 2)), 104, some (39, true)⟩, ⟨some 41, (Op.move (Operand.tmp 0)), 22, some (39, true)⟩, ⟨some 42, (Op.move (Operand.tmp 9)), 3, some (39, true)⟩, ⟨some 43, (Op.indexAddr 22 (Operand.tmp 41) (Operand.tmp 42)), 0, some (39, true)⟩, ⟨some 44, (Op.load 63 (Operand.tmp 43)), 63, some (39, true)⟩, ⟨some 45, (Op.move (Operand.tmp 1)), 3, some (39, true)⟩, ⟨some 46, (Op.call { callee := (Callee.value (Operand.tmp 40)), args := #[(Operand.tmp 44), (Operand.tmp 45)], argTypes := #[63, 3] }), 3, some (39, true)⟩, ⟨some 47, (Op.binOp BinOp.eql 3 (Operand.tmp 46) (Operand.const (Value.int IntKind.i64 0)) 3), 4, some (39, true)⟩, ⟨some 48, (Op.pick (Operand.tmp 39) (Operand.tmp 47) (Operand.const (Value.bool false))), 4, none⟩, ⟨some 6, (Op.assign (Operand.tmp 35)), 3, none⟩, ⟨some 7, (Op.assign (Operand.tmp 48)), 4, none⟩] (Q .normal ds) σ w := mk_eq rfl
/-! 90 columbary/runs.behind$1 (params #[63, 3], results #[(ResultVar.tmp 4)], 9 slots) -/
def r90_0 : List VOp :=
  [⟨some 2, (Op.box 63 (Operand.tmp 0)), 0, none⟩,
   ⟨some 4, (Op.assign (Operand.const (Value.int IntKind.i64 0))), 3, none⟩]
def r90_1 : List VOp :=
  [⟨some 5, (Op.fieldAddr 63 (Operand.tmp 2) 1), 0, none⟩,
   ⟨some 6, (Op.load 3 (Operand.tmp 5)), 3, none⟩,
   ⟨some 7, (Op.move (Operand.tmp 1)), 3, none⟩,
   ⟨some 8, (Op.binOp BinOp.leq 3 (Operand.tmp 6) (Operand.tmp 7) 3), 4, none⟩]
def r90_2 : List VOp :=
  [⟨some 4, (Op.assign (Operand.const (Value.int IntKind.i64 (-1)))), 3, none⟩]
def r90_3 : List VOp :=
  [⟨some 4, (Op.assign (Operand.const (Value.int IntKind.i64 1))), 3, none⟩]
def B90 : VC :=
  (.seq (.region r90_0) (.seq (.seq (.region r90_1) (.cond (Operand.tmp 8) (.seq (.region r90_2) .ret) .skip)) (.seq (.region r90_3) .ret)))
theorem code90 : ∃ c, Try.f90.body = some c ∧ abs Try.f90.ntmps c = B90 := ⟨_, rfl, by kernel_rfl⟩
theorem hb90 : HasBody Try.prog 90 := hasBody_of Try.func90 (by kernel_rfl)
theorem res90 : Try.f90.results = #[(ResultVar.tmp 4)] := rfl
theorem enter90 {w : World} {R : Value → World → Prop} (x0 x1 : Value) (h : vc Try.prog B90 (retK Try.prog #[(ResultVar.tmp 4)] R) [] (initEnv [x0, x1] 0) w) : FnC Try.prog 90 #[x0, x1] w R := by
  obtain ⟨c, h1, h2⟩ := code90
  exact hb90.fn (ret_of_vc mixed Try.func90 h1 (Nat.le_of_ble_eq_true rfl) B90 h2 h)
@[push_cast] theorem vr90_0 (Q : Post) (ds : List Deferred) (σ : Env) (w : World) : vc Try.prog (.region r90_0) Q ds σ w = vcOps Try.prog [⟨some 2, (Op.box 63 (Operand.tmp 0)), 0, none⟩, ⟨some 4, (Op.assign (Operand.const (Value.int IntKind.i64 0))), 3, none⟩] (Q .normal ds) σ w := mk_eq rfl
@[push_cast] theorem vr90_1 (Q : Post) (ds : List Deferred) (σ : Env) (w : World) : vc Try.prog (.region r90_1) Q ds σ w = vcOps Try.prog [⟨some 5, (Op.fieldAddr 63 (Operand.tmp 2) 1), 0, none⟩, ⟨some 6, (Op.load 3 (Operand.tmp 5)), 3, none⟩, ⟨some 7, (Op.move (Operand.tmp 1)), 3, none⟩, ⟨some 8, (Op.binOp BinOp.leq 3 (Operand.tmp 6) (Operand.tmp 7) 3), 4, none⟩] (Q .normal ds) σ w := mk_eq rfl
@[push_cast] theorem vr90_2 (Q : Post) (ds : List Deferred) (σ : Env) (w : World) : vc Try.prog (.region r90_2) Q ds σ w = vcOps Try.prog [⟨some 4, (Op.assign (Operand.const (Value.int IntKind.i64 (-1)))), 3, none⟩] (Q .normal ds) σ w := mk_eq rfl
@[push_cast] theorem vr90_3 (Q : Post) (ds : List Deferred) (σ : Env) (w : World) : vc Try.prog (.region r90_3) Q ds σ w = vcOps Try.prog [⟨some 4, (Op.assign (Operand.const (Value.int IntKind.i64 1))), 3, none⟩] (Q .normal ds) σ w := mk_eq rfl
/-! 91 columbary/runs.ends (params #[22, 22], results #[(ResultVar.tmp 4)], 6 slots) -/
def r91_0 : List VOp :=
  [⟨some 2, (Op.box 22 (Operand.tmp 0)), 0, none⟩,
   ⟨some 3, (Op.box 22 (Operand.tmp 1)), 0, none⟩,
   ⟨some 4, (Op.assign (Operand.const Value.nilFunc)), 106, none⟩]
def r91_1 : List VOp :=
  [⟨some 5, (Op.makeFunc (Fn.func 97) #[] #[(Operand.tmp 2), (Operand.tmp 3)]), 105, none⟩,
   ⟨some 4, (Op.assign (Operand.tmp 5)), 106, none⟩]
def B91 : VC :=
  (.seq (.region r91_0) (.seq (.region r91_1) .ret))
theorem code91 : ∃ c, Try.f91.body = some c ∧ abs Try.f91.ntmps c = B91 := ⟨_, rfl, by kernel_rfl⟩
theorem hb91 : HasBody Try.prog 91 := hasBody_of Try.func91 (by kernel_rfl)
theorem res91 : Try.f91.results = #[(ResultVar.tmp 4)] := rfl
theorem enter91 {w : World} {R : Value → World → Prop} (x0 x1 : Value) (h : vc Try.prog B91 (retK Try.prog #[(ResultVar.tmp 4)] R) [] (initEnv [x0, x1] 0) w) : FnC Try.prog 91 #[x0, x1] w R := by
  obtain ⟨c, h1, h2⟩ := code91
  exact hb91.fn (ret_of_vc mixed Try.func91 h1 (Nat.le_of_ble_eq_true rfl) B91 h2 h)
@[push_cast] theorem vr91_0 (Q : Post) (ds : List Deferred) (σ : Env) (w : World) : vc Try.prog (.region r91_0) Q ds σ w = vcOps Try.prog [⟨some 2, (Op.box 22 (Operand.tmp 0)), 0, none⟩, ⟨some 3, (Op.box 22 (Operand.tmp 1)), 0, none⟩, ⟨some 4, (Op.assign (Operand.const Value.nilFunc)), 106, none⟩] (Q .normal ds) σ w := mk_eq rfl
@[push_cast] theorem vr91_1 (Q : Post) (ds : List Deferred) (σ : Env) (w : World) : vc Try.prog (.region r91_1) Q ds σ w = vcOps Try.prog [⟨some 5, (Op.makeFunc (Fn.func 97) #[] #[(Operand.tmp 2), (Operand.tmp 3)]), 105, none⟩, ⟨some 4, (Op.assign (Operand.tmp 5)), 106, none⟩] (Q .normal ds) σ w := mk_eq rfl
/-! 92 slices.IndexFunc[[]int,int] (params #[49, 33], results #[(ResultVar.tmp 4)], 19 slots) -/
def W92_0 : List Nat := [4, 5, 8, 9, 10, 11, 12, 13, 14, 15, 16, 17, 18]
@[push_cast] theorem W92_0_def : W92_0 = [4, 5, 8, 9, 10, 11, 12, 13, 14, 15, 16, 17, 18] := mk_eq rfl
def r92_0 : List VOp :=
  [⟨some 4, (Op.assign (Operand.const (Value.int IntKind.i64 0))), 3, none⟩]
def r92_1 : List VOp :=
  [⟨some 6, (Op.move (Operand.tmp 0)), 49, none⟩,
   ⟨some 7, (Op.call { callee := (Callee.builtin Builtin.len), args := #[(Operand.tmp 6)], argTypes := #[49] }), 3, none⟩,
   ⟨some 8, (Op.move (Operand.const (Value.int IntKind.i64 0))), 3, none⟩]
def r92_2 : List VOp :=
  [⟨some 9, (Op.binOp BinOp.lss 3 (Operand.tmp 8) (Operand.tmp 7) 3), 0, none⟩]
def r92_3 : List VOp :=
  [⟨some 10, (Op.move (Operand.tmp 8)), 3, none⟩,
   ⟨some 5, (Op.assign (Operand.tmp 10)), 3, none⟩]
def r92_4 : List VOp :=
  [⟨some 11, (Op.move (Operand.tmp 1)), 33, none⟩,
   ⟨some 12, (Op.move (Operand.tmp 0)), 49, none⟩,
   ⟨some 13, (Op.move (Operand.tmp 5)), 3, none⟩,
   ⟨some 14, (Op.indexAddr 49 (Operand.tmp 12) (Operand.tmp 13)), 0, none⟩,
   ⟨some 15, (Op.load 3 (Operand.tmp 14)), 3, none⟩,
   ⟨some 16, (Op.call { callee := (Callee.value (Operand.tmp 11)), args := #[(Operand.tmp 15)], argTypes := #[3] }), 4, none⟩]
def r92_5 : List VOp :=
  [⟨some 17, (Op.move (Operand.tmp 5)), 3, none⟩,
   ⟨some 4, (Op.assign (Operand.tmp 17)), 3, none⟩]
def r92_6 : List VOp :=
  [⟨some 18, (Op.binOp BinOp.add 3 (Operand.tmp 8) (Operand.const (Value.int IntKind.i64 1)) 3), 3, none⟩,
   ⟨some 8, (Op.move (Operand.tmp 18)), 3, none⟩]
def r92_7 : List VOp :=
  [⟨some 4, (Op.assign (Operand.const (Value.int IntKind.i64 (-1)))), 3, none⟩]
def B92 : VC :=
  (.seq (.region r92_0) (.seq (.seq (.region r92_1) (.block 0 (.loop (.seq (.region r92_2) (.seq (.cond (Operand.tmp 9) .skip (.exit 0)) (.seq (.block 1 (.seq (.region r92_3) (.seq (.region r92_4) (.cond (Operand.tmp 16) (.seq (.region r92_5) .ret) .skip)))) (.region r92_6))))))) (.seq (.region r92_7) .ret)))
theorem code92 : ∃ c, Try.f92.body = some c ∧ abs Try.f92.ntmps c = B92 := ⟨_, rfl, by kernel_rfl⟩
theorem hb92 : HasBody Try.prog 92 := hasBody_of Try.func92 (by kernel_rfl)
theorem res92 : Try.f92.results = #[(ResultVar.tmp 4)] := rfl
theorem enter92 {w : World} {R : Value → World → Prop} (x0 x1 : Value) (h : vc Try.prog B92 (retK Try.prog #[(ResultVar.tmp 4)] R) [] (initEnv [x0, x1] 0) w) : FnC Try.prog 92 #[x0, x1] w R := by
  obtain ⟨c, h1, h2⟩ := code92
  exact hb92.fn (ret_of_vc mixed Try.func92 h1 (Nat.le_of_ble_eq_true rfl) B92 h2 h)
@[push_cast] theorem vr92_0 (Q : Post) (ds : List Deferred) (σ : Env) (w : World) : vc Try.prog (.region r92_0) Q ds σ w = vcOps Try.prog [⟨some 4, (Op.assign (Operand.const (Value.int IntKind.i64 0))), 3, none⟩] (Q .normal ds) σ w := mk_eq rfl
@[push_cast] theorem vr92_1 (Q : Post) (ds : List Deferred) (σ : Env) (w : World) : vc Try.prog (.region r92_1) Q ds σ w = vcOps Try.prog [⟨some 6, (Op.move (Operand.tmp 0)), 49, none⟩, ⟨some 7, (Op.call { callee := (Callee.builtin Builtin.len), args := #[(Operand.tmp 6)], argTypes := #[49] }), 3, none⟩, ⟨some 8, (Op.move (Operand.const (Value.int IntKind.i64 0))), 3, none⟩] (Q .normal ds) σ w := mk_eq rfl
@[push_cast] theorem vr92_2 (Q : Post) (ds : List Deferred) (σ : Env) (w : World) : vc Try.prog (.region r92_2) Q ds σ w = vcOps Try.prog [⟨some 9, (Op.binOp BinOp.lss 3 (Operand.tmp 8) (Operand.tmp 7) 3), 0, none⟩] (Q .normal ds) σ w := mk_eq rfl
@[push_cast] theorem vr92_3 (Q : Post) (ds : List Deferred) (σ : Env) (w : World) : vc Try.prog (.region r92_3) Q ds σ w = vcOps Try.prog [⟨some 10, (Op.move (Operand.tmp 8)), 3, none⟩, ⟨some 5, (Op.assign (Operand.tmp 10)), 3, none⟩] (Q .normal ds) σ w := mk_eq rfl
@[push_cast] theorem vr92_4 (Q : Post) (ds : List Deferred) (σ : Env) (w : World) : vc Try.prog (.region r92_4) Q ds σ w = vcOps Try.prog [⟨some 11, (Op.move (Operand.tmp 1)), 33, none⟩, ⟨some 12, (Op.move (Operand.tmp 0)), 49, none⟩, ⟨some 13, (Op.move (Operand.tmp 5)), 3, none⟩, ⟨some 14, (Op.indexAddr 49 (Operand.tmp 12) (Operand.tmp 13)), 0, none⟩, ⟨some 15, (Op.load 3 (Operand.tmp 14)), 3, none⟩, ⟨some 16, (Op.call { callee := (Callee.value (Operand.tmp 11)), args := #[(Operand.tmp 15)], argTypes := #[3] }), 4, none⟩] (Q .normal ds) σ w := mk_eq rfl
@[push_cast] theorem vr92_5 (Q : Post) (ds : List Deferred) (σ : Env) (w : World) : vc Try.prog (.region r92_5) Q ds σ w = vcOps Try.prog [⟨some 17, (Op.move (Operand.tmp 5)), 3, none⟩, ⟨some 4, (Op.assign (Operand.tmp 17)), 3, none⟩] (Q .normal ds) σ w := mk_eq rfl
@[push_cast] theorem vr92_6 (Q : Post) (ds : List Deferred) (σ : Env) (w : World) : vc Try.prog (.region r92_6) Q ds σ w = vcOps Try.prog [⟨some 18, (Op.binOp BinOp.add 3 (Operand.tmp 8) (Operand.const (Value.int IntKind.i64 1)) 3), 3, none⟩, ⟨some 8, (Op.move (Operand.tmp 18)), 3, none⟩] (Q .normal ds) σ w := mk_eq rfl
@[push_cast] theorem vr92_7 (Q : Post) (ds : List Deferred) (σ : Env) (w : World) : vc Try.prog (.region r92_7) Q ds σ w = vcOps Try.prog [⟨some 4, (Op.assign (Operand.const (Value.int IntKind.i64 (-1)))), 3, none⟩] (Q .normal ds) σ w := mk_eq rfl
/-! 97 columbary/runs.ends$1 (params #[121], results #[], 66 slots) -/
def W97_0 : List Nat := [6, 7, 8, 9, 10, 14, 15, 16, 17, 18, 19, 20, 21, 22, 23, 24, 25, 26, 27, 28, 29, 30, 31, 32, 33, 34, 35, 36, 37, 38, 39, 40, 41, 42, 43, 44, 45, 46, 47, 48, 49, 50, 51, 52, 53, 54, 55, 56, 57, 58, 59, 60, 61, 62, 63, 64, 65]
@[push_cast] theorem W97_0_def : W97_0 = [6, 7, 8, 9, 10, 14, 15, 16, 17, 18, 19, 20, 21, 22, 23, 24, 25, 26, 27, 28, 29, 30, 31, 32, 33, 34, 35, 36, 37, 38, 39, 40, 41, 42, 43, 44, 45, 46, 47, 48, 49, 50, 51, 52, 53, 54, 55, 56, 57, 58, 59, 60, 61, 62, 63, 64, 65] := mk_eq rfl
def W97_1 : List Nat := [6, 7, 8, 23, 24, 25, 26, 27, 28, 29, 30, 31, 32, 33, 34]
@[push_cast] theorem W97_1_def : W97_1 = [6, 7, 8, 23, 24, 25, 26, 27, 28, 29, 30, 31, 32, 33, 34] := mk_eq rfl
def W97_2 : List Nat := [9, 10, 41, 42, 43, 44, 45, 46, 47, 48, 49, 50, 51, 52, 53, 54, 55, 56, 57, 58, 59, 60, 61, 62, 63, 64, 65]
@[push_cast] theorem W97_2_def : W97_2 = [9, 10, 41, 42, 43, 44, 45, 46, 47, 48, 49, 50, 51, 52, 53, 54, 55, 56, 57, 58, 59, 60, 61, 62, 63, 64, 65] := mk_eq rfl
def r97_0 : List VOp :=
  [⟨some 11, (Op.load 22 (Operand.tmp 1)), 22, none⟩,
   ⟨some 12, (Op.load 22 (Operand.tmp 2)), 22, none⟩,
   ⟨some 13, (Op.build 122 #[(0, (Operand.tmp 11)), (1, (Operand.tmp 12))]), 122, none⟩,
   ⟨some 4, (Op.alloc 122), 0, none⟩,
   ⟨none, (Op.store 122 (Operand.tmp 4) (Operand.tmp 13)), 0, none⟩]
def r97_1 : List VOp :=
  [⟨some 5, (Op.alloc 108), 0, none⟩]
def r97_2 : List VOp :=
  [⟨some 14, (Op.indexAddr 122 (Operand.tmp 4) (Operand.const (Value.int IntKind.i64 0))), 0, none⟩,
   ⟨some 15, (Op.load 22 (Operand.tmp 14)), 22, none⟩,
   ⟨some 16, (Op.call { callee := (Callee.builtin Builtin.len), args := #[(Operand.tmp 15)], argTypes := #[22] }), 3, none⟩,
   ⟨some 17, (Op.indexAddr 122 (Operand.tmp 4) (Operand.const (Value.int IntKind.i64 1))), 0, none⟩,
   ⟨some 18, (Op.load 22 (Operand.tmp 17)), 22, none⟩,
   ⟨some 19, (Op.call { callee := (Callee.builtin Builtin.len), args := #[(Operand.tmp 18)], argTypes := #[22] }), 3, none⟩,
   ⟨some 20, (Op.binOp BinOp.add 3 (Operand.tmp 16) (Operand.tmp 19) 3), 3, none⟩,
   ⟨some 21, (Op.binOp BinOp.gtr 3 (Operand.tmp 20) (Operand.const (Value.int IntKind.i64 0)) 3), 4, none⟩]
def r97_3 : List VOp :=
  [⟨some 6, (Op.assign (Operand.const (Value.int IntKind.i64 65537))), 3, none⟩]
def r97_4 : List VOp :=
  [⟨some 22, (Op.load 122 (Operand.tmp 4)), 122, none⟩,
   ⟨some 23, (Op.move (Operand.const (Value.int IntKind.i64 0))), 3, none⟩]
def r97_5 : List VOp :=
  [⟨some 24, (Op.binOp BinOp.lss 3 (Operand.tmp 23) (Operand.const (Value.int IntKind.i64 2)) 3), 0, none⟩]
def r97_6 : List VOp :=
  [⟨some 25, (Op.move (Operand.tmp 23)), 3, none⟩,
   ⟨some 26, (Op.index 122 (Operand.tmp 22) (Operand.tmp 23)), 22, none⟩,
   ⟨some 7, (Op.assign (Operand.tmp 25)), 3, none⟩,
   ⟨some 8, (Op.assign (Operand.tmp 26)), 22, none⟩]
def r97_7 : List VOp :=
  [⟨some 27, (Op.move (Operand.tmp 6)), 3, none⟩,
   ⟨some 28, (Op.move (Operand.tmp 8)), 22, none⟩,
   ⟨some 29, (Op.move (Operand.tmp 7)), 3, none⟩,
   ⟨some 30, (Op.indexAddr 108 (Operand.tmp 5) (Operand.tmp 29)), 0, none⟩,
   ⟨some 31, (Op.load 4 (Operand.tmp 30)), 4, none⟩,
   ⟨some 32, (Op.call { callee := (Callee.value (Operand.func 98)), args := #[(Operand.tmp 28), (Operand.tmp 31)], argTypes := #[22, 4] }), 3, none⟩,
   ⟨some 33, (Op.call { callee := (Callee.builtin Builtin.min), args := #[(Operand.tmp 27), (Operand.tmp 32)], argTypes := #[3, 3] }), 3, none⟩,
   ⟨some 6, (Op.assign (Operand.tmp 33)), 3, none⟩]
def r97_8 : List VOp :=
  [⟨some 34, (Op.binOp BinOp.add 3 (Operand.tmp 23) (Operand.const (Value.int IntKind.i64 1)) 3), 3, none⟩,
   ⟨some 23, (Op.move (Operand.tmp 34)), 3, none⟩]
def r97_9 : List VOp :=
  [⟨some 35, (Op.move (Operand.tmp 0)), 121, none⟩,
   ⟨some 36, (Op.move (Operand.tmp 6)), 3, none⟩,
   ⟨some 37, (Op.load 108 (Operand.tmp 5)), 108, none⟩,
   ⟨some 38, (Op.call { callee := (Callee.value (Operand.tmp 35)), args := #[(Operand.tmp 36), (Operand.tmp 37)], argTypes := #[3, 108] }), 4, none⟩,
   ⟨some 39, (Op.unOp UnOp.not 4 (Operand.tmp 38)), 4, none⟩]
def r97_10 : List VOp :=
  [⟨some 40, (Op.load 122 (Operand.tmp 4)), 122, none⟩,
   ⟨some 41, (Op.move (Operand.const (Value.int IntKind.i64 0))), 3, none⟩]
def r97_11 : List VOp :=
  [⟨some 42, (Op.binOp BinOp.lss 3 (Operand.tmp 41) (Operand.const (Value.int IntKind.i64 2)) 3), 0, none⟩]
def r97_12 : List VOp :=
  [⟨some 43, (Op.move (Operand.tmp 41)), 3, none⟩,
   ⟨some 44, (Op.index 122 (Operand.tmp 40) (Operand.tmp 41)), 22, none⟩,
   ⟨some 9, (Op.assign (Operand.tmp 43)), 3, none⟩,
   ⟨some 10, (Op.assign (Operand.tmp 44)), 22, none⟩]
def r97_13 : List VOp :=
  [⟨some 45, (Op.move (Operand.tmp 10)), 22, none⟩,
   ⟨some 46, (Op.move (Operand.tmp 9)), 3, none⟩,
   ⟨some 47, (Op.indexAddr 108 (Operand.tmp 5) (Operand.tmp 46)), 0, none⟩,
   ⟨some 48, (Op.load 4 (Operand.tmp 47)), 4, none⟩,
   ⟨some 49, (Op.call { callee := (Callee.value (Operand.func 98)), args := #[(Operand.tmp 45), (Operand.tmp 48)], argTypes := #[22, 4] }), 3, none⟩,
   ⟨some 50, (Op.move (Operand.tmp 6)), 3, none⟩,
   ⟨some 51, (Op.binOp BinOp.neq 3 (Operand.tmp 49) (Operand.tmp 50) 3), 4, none⟩]
def r97_14 : List VOp :=
  [⟨some 52, (Op.move (Operand.tmp 9)), 3, none⟩,
   ⟨some 53, (Op.indexAddr 108 (Operand.tmp 5) (Operand.tmp 52)), 0, none⟩,
   ⟨some 54, (Op.load 4 (Operand.tmp 53)), 4, none⟩]
def r97_15 : List VOp :=
  [⟨some 55, (Op.move (Operand.tmp 9)), 3, none⟩,
   ⟨some 56, (Op.move (Operand.tmp 10)), 22, none⟩,
   ⟨some 57, (Op.slice 22 (Operand.tmp 56) (some (Operand.const (Value.int IntKind.i64 1))) none none), 22, none⟩,
   ⟨some 58, (Op.indexAddr 122 (Operand.tmp 4) (Operand.tmp 55)), 0, none⟩,
   ⟨none, (Op.store 22 (Operand.tmp 58) (Operand.tmp 57)), 0, none⟩]
def r97_16 : List VOp :=
  [⟨some 59, (Op.move (Operand.tmp 9)), 3, none⟩,
   ⟨some 60, (Op.move (Operand.tmp 9)), 3, none⟩,
   ⟨some 61, (Op.indexAddr 108 (Operand.tmp 5) (Operand.tmp 60)), 0, none⟩,
   ⟨some 62, (Op.load 4 (Operand.tmp 61)), 4, none⟩,
   ⟨some 63, (Op.unOp UnOp.not 4 (Operand.tmp 62)), 4, none⟩,
   ⟨some 64, (Op.indexAddr 108 (Operand.tmp 5) (Operand.tmp 59)), 0, none⟩,
   ⟨none, (Op.store 4 (Operand.tmp 64) (Operand.tmp 63)), 0, none⟩]
def r97_17 : List VOp :=
  [⟨some 65, (Op.binOp BinOp.add 3 (Operand.tmp 41) (Operand.const (Value.int IntKind.i64 1)) 3), 3, none⟩,
   ⟨some 41, (Op.move (Operand.tmp 65)), 3, none⟩]
def B97 : VC :=
  (.seq (.region r97_0) (.seq (.region r97_1) (.block 0 (.loop (.seq (.seq (.region r97_2) (.cond (Operand.tmp 21) .skip (.exit 0))) (.block 1 (.seq (.region r97_3) (.seq (.seq (.region r97_4) (.block 2 (.loop (.seq (.region r97_5) (.seq (.cond (Operand.tmp 24) .skip (.exit 2)) (.seq (.block 3 (.seq (.region r97_6) (.region r97_7))) (.region r97_8))))))) (.seq (.seq (.region r97_9) (.cond (Operand.tmp 39) .ret .skip)) (.seq (.region r97_10) (.block 4 (.loop (.seq (.region r97_11) (.seq (.cond (Operand.tmp 42) .skip (.exit 4)) (.seq (.block 5 (.seq (.region r97_12) (.seq (.seq (.region r97_13) (.cond (Operand.tmp 51) (.exit 5) .skip)) (.seq (.seq (.region r97_14) (.cond (Operand.tmp 54) (.region r97_15) .skip)) (.region r97_16))))) (.region r97_17))))))))))))))))
theorem code97 : ∃ c, Try.f97.body = some c ∧ abs Try.f97.ntmps c = B97 := ⟨_, rfl, by kernel_rfl⟩
theorem hb97 : HasBody Try.prog 97 := hasBody_of Try.func97 (by kernel_rfl)
theorem res97 : Try.f97.results = #[] := rfl
theorem enter97 {w : World} {R : Value → World → Prop} (x0 x1 x2 : Value) (h : vc Try.prog B97 (retK Try.prog #[] R) [] (initEnv [x0, x1, x2] 0) w) : FnC Try.prog 97 #[x0, x1, x2] w R := by
  obtain ⟨c, h1, h2⟩ := code97
  exact hb97.fn (ret_of_vc mixed Try.func97 h1 (Nat.le_of_ble_eq_true rfl) B97 h2 h)
@[push_cast] theorem vr97_0 (Q : Post) (ds : List Deferred) (σ : Env) (w : World) : vc Try.prog (.region r97_0) Q ds σ w = vcOps Try.prog [⟨some 11, (Op.load 22 (Operand.tmp 1)), 22, none⟩, ⟨some 12, (Op.load 22 (Operand.tmp 2)), 22, none⟩, ⟨some 13, (Op.build 122 #[(0, (Operand.tmp 11)), (1, (Operand.tmp 12))]), 122, none⟩, ⟨some 4, (Op.alloc 122), 0, none⟩, ⟨none, (Op.store 122 (Operand.tmp 4) (Operand.tmp 13)), 0, none⟩] (Q .normal ds) σ w := mk_eq rfl
@[push_cast] theorem vr97_1 (Q : Post) (ds : List Deferred) (σ : Env) (w : World) : vc Try.prog (.region r97_1) Q ds σ w = vcOps Try.prog [⟨some 5, (Op.alloc 108), 0, none⟩] (Q .normal ds) σ w := mk_eq rfl
@[push_cast] theorem vr97_2 (Q : Post) (ds : List Deferred) (σ : Env) (w : World) : vc Try.prog (.region r97_2) Q ds σ w = vcOps Try.prog [⟨some 14, (Op.indexAddr 122 (Operand.tmp 4) (Operand.const (Value.int IntKind.i64 0))), 0, none⟩, ⟨some 15, (Op.load 22 (Operand.tmp 14)), 22, none⟩, ⟨some 16, (Op.call { callee := (Callee.builtin Builtin.len), args := #[(Operand.tmp 15)], argTypes := #[22] }), 3, none⟩, ⟨some 17, (Op.indexAddr 122 (Operand.tmp 4) (Operand.const (Value.int IntKind.i64 1))), 0, none⟩, ⟨some 18, (Op.load 22 (Operand.tmp 17)), 22, none⟩, ⟨some 19, (Op.call { callee := (Callee.builtin Builtin.len), args := #[(Operand.tmp 18)], argTypes := #[22] }), 3, none⟩, ⟨some 20, (Op.binOp BinOp.add 3 (Operand.tmp 16) (Operand.tmp 19) 3), 3, none⟩, ⟨some 21, (Op.binOp BinOp.gtr 3 (Operand.tmp 20) (Operand.const (Value.int IntKind.i64 0)) 3), 4, none⟩] (Q .normal ds) σ w := mk_eq rfl
@[push_cast] theorem vr97_3 (Q : Post) (ds : List Deferred) (σ : Env) (w : World) : vc Try.prog (.region r97_3) Q ds σ w = vcOps Try.prog [⟨some 6, (Op.assign (Operand.const (Value.int IntKind.i64 65537))), 3, none⟩] (Q .normal ds) σ w := mk_eq rfl
@[push_cast] theorem vr97_4 (Q : Post) (ds : List Deferred) (σ : Env) (w : World) : vc Try.prog (.region r97_4) Q ds σ w = vcOps Try.prog [⟨some 22, (Op.load 122 (Operand.tmp 4)), 122, none⟩, ⟨some 23, (Op.move (Operand.const (Value.int IntKind.i64 0))), 3, none⟩] (Q .normal ds) σ w := mk_eq rfl
@[push_cast] theorem vr97_5 (Q : Post) (ds : List Deferred) (σ : Env) (w : World) : vc Try.prog (.region r97_5) Q ds σ w = vcOps Try.prog [⟨some 24, (Op.binOp BinOp.lss 3 (Operand.tmp 23) (Operand.const (Value.int IntKind.i64 2)) 3), 0, none⟩] (Q .normal ds) σ w := mk_eq rfl
@[push_cast] theorem vr97_6 (Q : Post) (ds : List Deferred) (σ : Env) (w : World) : vc Try.prog (.region r97_6) Q ds σ w = vcOps Try.prog [⟨some 25, (Op.move (Operand.tmp 23)), 3, none⟩, ⟨some 26, (Op.index 122 (Operand.tmp 22) (Operand.tmp 23)), 22, none⟩, ⟨some 7, (Op.assign (Operand.tmp 25)), 3, none⟩, ⟨some 8, (Op.assign (Operand.tmp 26)), 22, none⟩] (Q .normal ds) σ w := mk_eq rfl
@[push_cast] theorem vr97_7 (Q : Post) (ds : List Deferred) (σ : Env) (w : World) : vc Try.prog (.region r97_7) Q ds σ w = vcOps Try.prog [⟨some 27, (Op.move (Operand.tmp 6)), 3, none⟩, ⟨some 28, (Op.move (Operand.tmp 8)), 22, none⟩, ⟨some 29, (Op.move (Operand.tmp 7)), 3, none⟩, ⟨some 30, (Op.indexAddr 108 (Operand.tmp 5) (Operand.tmp 29)), 0, none⟩, ⟨some 31, (Op.load 4 (Operand.tmp 30)), 4, none⟩, ⟨some 32, (Op.call { callee := (Callee.value (Operand.func 98)), args := #[(Operand.tmp 28), (Operand.tmp 31)], argTypes := #[22, 4] }), 3, none⟩, ⟨some 33, (Op.call { callee := (Callee.builtin Builtin.min), args := #[(Operand.tmp 27), (Operand.tmp 32)], argTypes := #[3, 3] }), 3, none⟩, ⟨some 6, (Op.assign (Operand.tmp 33)), 3, none⟩] (Q .normal ds) σ w := mk_eq rfl
@[push_cast] theorem vr97_8 (Q : Post) (ds : List Deferred) (σ : Env) (w : World) : vc Try.prog (.region r97_8) Q ds σ w = vcOps Try.prog [⟨some 34, (Op.binOp BinOp.add 3 (Operand.tmp 23) (Operand.const (Value.int IntKind.i64 1)) 3), 3, none⟩, ⟨some 23, (Op.move (Operand.tmp 34)), 3, none⟩] (Q .normal ds) σ w := mk_eq rfl
@[push_cast] theorem vr97_9 (Q : Post) (ds : List Deferred) (σ : Env) (w : World) : vc Try.prog (.region r97_9) Q ds σ w = vcOps Try.prog [⟨some 35, (Op.move (Operand.tmp 0)), 121, none⟩, ⟨some 36, (Op.move (Operand.tmp 6)), 3, none⟩, ⟨some 37, (Op.load 108 (Operand.tmp 5)), 108, none⟩, ⟨some 38, (Op.call { callee := (Callee.value (Operand.tmp 35)), args := #[(Operand.tmp 36), (Operand.tmp 37)], argTypes := #[3, 108] }), 4, none⟩, ⟨some 39, (Op.unOp UnOp.not 4 (Operand.tmp 38)), 4, none⟩] (Q .normal ds) σ w := mk_eq rfl
@[push_cast] theorem vr97_10 (Q : Post) (ds : List Deferred) (σ : Env) (w : World) : vc Try.prog (.region r97_10) Q ds σ w = vcOps Try.prog [⟨some 40, (Op.load 122 (Operand.tmp 4)), 122, none⟩, ⟨some 41, (Op.move (Operand.const (Value.int IntKind.i64 0))), 3, none⟩] (Q .normal ds) σ w := mk_eq rfl
@[push_cast] theorem vr97_11 (Q : Post) (ds : List Deferred) (σ : Env) (w : World) : vc Try.prog (.region r97_11) Q ds σ w = vcOps Try.prog [⟨some 42, (Op.binOp BinOp.lss 3 (Operand.tmp 41) (Operand.const (Value.int IntKind.i64 2)) 3), 0, none⟩] (Q .normal ds) σ w := mk_eq rfl
@[push_cast] theorem vr97_12 (Q : Post) (ds : List Deferred) (σ : Env) (w : World) : vc Try.prog (.region r97_12) Q ds σ w = vcOps Try.prog [⟨some 43, (Op.move (Operand.tmp 41)), 3, none⟩, ⟨some 44, (Op.index 122 (Operand.tmp 40) (Operand.tmp 41)), 22, none⟩, ⟨some 9, (Op.assign (Operand.tmp 43)), 3, none⟩, ⟨some 10, (Op.assign (Operand.tmp 44)), 22, none⟩] (Q .normal ds) σ w := mk_eq rfl
@[push_cast] theorem vr97_13 (Q : Post) (ds : List Deferred) (σ : Env) (w : World) : vc Try.prog (.region r97_13) Q ds σ w = vcOps Try.prog [⟨some 45, (Op.move (Operand.tmp 10)), 22, none⟩, ⟨some 46, (Op.move (Operand.tmp 9)), 3, none⟩, ⟨some 47, (Op.indexAddr 108 (Operand.tmp 5) (Operand.tmp 46)), 0, none⟩, ⟨some 48, (Op.load 4 (Operand.tmp 47)), 4, none⟩, ⟨some 49, (Op.call { callee := (Callee.value (Operand.func 98)), args := #[(Operand.tmp 45), (Operand.tmp 48)], argTypes := #[22, 4] }), 3, none⟩, ⟨some 50, (Op.move (Operand.tmp 6)), 3, none⟩, ⟨some 51, (Op.binOp BinOp.neq 3 (Operand.tmp 49) (Operand.tmp 50) 3), 4, none⟩] (Q .normal ds) σ w := mk_eq rfl
@[push_cast] theorem vr97_14 (Q : Post) (ds : List Deferred) (σ : Env) (w : World) : vc Try.prog (.region r97_14) Q ds σ w = vcOps Try.prog [⟨some 52, (Op.move (Operand.tmp 9)), 3, none⟩, ⟨some 53, (Op.indexAddr 108 (Operand.tmp 5) (Operand.tmp 52)), 0, none⟩, ⟨some 54, (Op.load 4 (Operand.tmp 53)), 4, none⟩] (Q .normal ds) σ w := mk_eq rfl
@[push_cast] theorem vr97_15 (Q : Post) (ds : List Deferred) (σ : Env) (w : World) : vc Try.prog (.region r97_15) Q ds σ w = vcOps Try.prog [⟨some 55, (Op.move (Operand.tmp 9)), 3, none⟩, ⟨some 56, (Op.move (Operand.tmp 10)), 22, none⟩, ⟨some 57, (Op.slice 22 (Operand.tmp 56) (some (Operand.const (Value.int IntKind.i64 1))) none none), 22, none⟩, ⟨some 58, (Op.indexAddr 122 (Operand.tmp 4) (Operand.tmp 55)), 0, none⟩, ⟨none, (Op.store 22 (Operand.tmp 58) (Operand.tmp 57)), 0, none⟩] (Q .normal ds) σ w := mk_eq rfl
@[push_cast] theorem vr97_16 (Q : Post) (ds : List Deferred) (σ : Env) (w : World) : vc Try.prog (.region r97_16) Q ds σ w = vcOps Try.prog [⟨some 59, (Op.move (Operand.tmp 9)), 3, none⟩, ⟨some 60, (Op.move (Operand.tmp 9)), 3, none⟩, ⟨some 61, (Op.indexAddr 108 (Operand.tmp 5) (Operand.tmp 60)), 0, none⟩, ⟨some 62, (Op.load 4 (Operand.tmp 61)), 4, none⟩, ⟨some 63, (Op.unOp UnOp.not 4 (Operand.tmp 62)), 4, none⟩, ⟨some 64, (Op.indexAddr 108 (Operand.tmp 5) (Operand.tmp 59)), 0, none⟩, ⟨none, (Op.store 4 (Operand.tmp 64) (Operand.tmp 63)), 0, none⟩] (Q .normal ds) σ w := mk_eq rfl
@[push_cast] theorem vr97_17 (Q : Post) (ds : List Deferred) (σ : Env) (w : World) : vc Try.prog (.region r97_17) Q ds σ w = vcOps Try.prog [⟨some 65, (Op.binOp BinOp.add 3 (Operand.tmp 41) (Operand.const (Value.int IntKind.i64 1)) 3), 3, none⟩, ⟨some 41, (Op.move (Operand.tmp 65)), 3, none⟩] (Q .normal ds) σ w := mk_eq rfl
/-! 98 columbary/runs.edge (params #[22, 4], results #[(ResultVar.tmp 4)], 19 slots) -/
def r98_0 : List VOp :=
  [⟨some 4, (Op.assign (Operand.const (Value.int IntKind.i64 0))), 3, none⟩]
def r98_1 : List VOp :=
  [⟨some 6, (Op.move (Operand.tmp 0)), 22, none⟩,
   ⟨some 7, (Op.call { callee := (Callee.builtin Builtin.len), args := #[(Operand.tmp 6)], argTypes := #[22] }), 3, none⟩,
   ⟨some 8, (Op.binOp BinOp.eql 3 (Operand.tmp 7) (Operand.const (Value.int IntKind.i64 0)) 3), 4, none⟩,
   ⟨some 5, (Op.assign (Operand.tmp 8)), 4, none⟩]
def r98_2 : List VOp :=
  [⟨some 4, (Op.assign (Operand.const (Value.int IntKind.i64 65537))), 3, none⟩]
def r98_3 : List VOp :=
  [⟨some 10, (Op.move (Operand.tmp 1)), 4, none⟩,
   ⟨some 9, (Op.assign (Operand.tmp 10)), 4, none⟩]
def r98_4 : List VOp :=
  [⟨some 11, (Op.move (Operand.tmp 0)), 22, none⟩,
   ⟨some 12, (Op.indexAddr 22 (Operand.tmp 11) (Operand.const (Value.int IntKind.i64 0))), 0, none⟩,
   ⟨some 13, (Op.fieldAddr 63 (Operand.tmp 12) 1), 0, none⟩,
   ⟨some 14, (Op.load 3 (Operand.tmp 13)), 3, none⟩,
   ⟨some 4, (Op.assign (Operand.tmp 14)), 3, none⟩]
def r98_5 : List VOp :=
  [⟨some 15, (Op.move (Operand.tmp 0)), 22, none⟩,
   ⟨some 16, (Op.indexAddr 22 (Operand.tmp 15) (Operand.const (Value.int IntKind.i64 0))), 0, none⟩,
   ⟨some 17, (Op.fieldAddr 63 (Operand.tmp 16) 0), 0, none⟩,
   ⟨some 18, (Op.load 3 (Operand.tmp 17)), 3, none⟩,
   ⟨some 4, (Op.assign (Operand.tmp 18)), 3, none⟩]
def B98 : VC :=
  (.seq (.region r98_0) (.seq (.block 0 (.seq (.region r98_1) (.cond (Operand.tmp 5) (.seq (.region r98_2) .ret) (.seq (.region r98_3) (.cond (Operand.tmp 9) (.seq (.region r98_4) .ret) .skip))))) (.seq (.region r98_5) .ret)))
theorem code98 : ∃ c, Try.f98.body = some c ∧ abs Try.f98.ntmps c = B98 := ⟨_, rfl, by kernel_rfl⟩
theorem hb98 : HasBody Try.prog 98 := hasBody_of Try.func98 (by kernel_rfl)
theorem res98 : Try.f98.results = #[(ResultVar.tmp 4)] := rfl
theorem enter98 {w : World} {R : Value → World → Prop} (x0 x1 : Value) (h : vc Try.prog B98 (retK Try.prog #[(ResultVar.tmp 4)] R) [] (initEnv [x0, x1] 0) w) : FnC Try.prog 98 #[x0, x1] w R := by
  obtain ⟨c, h1, h2⟩ := code98
  exact hb98.fn (ret_of_vc mixed Try.func98 h1 (Nat.le_of_ble_eq_true rfl) B98 h2 h)
@[push_cast] theorem vr98_0 (Q : Post) (ds : List Deferred) (σ : Env) (w : World) : vc Try.prog (.region r98_0) Q ds σ w = vcOps Try.prog [⟨some 4, (Op.assign (Operand.const (Value.int IntKind.i64 0))), 3, none⟩] (Q .normal ds) σ w := mk_eq rfl
@[push_cast] theorem vr98_1 (Q : Post) (ds : List Deferred) (σ : Env) (w : World) : vc Try.prog (.region r98_1) Q ds σ w = vcOps Try.prog [⟨some 6, (Op.move (Operand.tmp 0)), 22, none⟩, ⟨some 7, (Op.call { callee := (Callee.builtin Builtin.len), args := #[(Operand.tmp 6)], argTypes := #[22] }), 3, none⟩, ⟨some 8, (Op.binOp BinOp.eql 3 (Operand.tmp 7) (Operand.const (Value.int IntKind.i64 0)) 3), 4, none⟩, ⟨some 5, (Op.assign (Operand.tmp 8)), 4, none⟩] (Q .normal ds) σ w := mk_eq rfl
@[push_cast] theorem vr98_2 (Q : Post) (ds : List Deferred) (σ : Env) (w : World) : vc Try.prog (.region r98_2) Q ds σ w = vcOps Try.prog [⟨some 4, (Op.assign (Operand.const (Value.int IntKind.i64 65537))), 3, none⟩] (Q .normal ds) σ w := mk_eq rfl
@[push_cast] theorem vr98_3 (Q : Post) (ds : List Deferred) (σ : Env) (w : World) : vc Try.prog (.region r98_3) Q ds σ w = vcOps Try.prog [⟨some 10, (Op.move (Operand.tmp 1)), 4, none⟩, ⟨some 9, (Op.assign (Operand.tmp 10)), 4, none⟩] (Q .normal ds) σ w := mk_eq rfl
@[push_cast] theorem vr98_4 (Q : Post) (ds : List Deferred) (σ : Env) (w : World) : vc Try.prog (.region r98_4) Q ds σ w = vcOps Try.prog [⟨some 11, (Op.move (Operand.tmp 0)), 22, none⟩, ⟨some 12, (Op.indexAddr 22 (Operand.tmp 11) (Operand.const (Value.int IntKind.i64 0))), 0, none⟩, ⟨some 13, (Op.fieldAddr 63 (Operand.tmp 12) 1), 0, none⟩, ⟨some 14, (Op.load 3 (Operand.tmp 13)), 3, none⟩, ⟨some 4, (Op.assign (Operand.tmp 14)), 3, none⟩] (Q .normal ds) σ w := mk_eq rfl
@[push_cast] theorem vr98_5 (Q : Post) (ds : List Deferred) (σ : Env) (w : World) : vc Try.prog (.region r98_5) Q ds σ w = vcOps Try.prog [⟨some 15, (Op.move (Operand.tmp 0)), 22, none⟩, ⟨some 16, (Op.indexAddr 22 (Operand.tmp 15) (Operand.const (Value.int IntKind.i64 0))), 0, none⟩, ⟨some 17, (Op.fieldAddr 63 (Operand.tmp 16) 0), 0, none⟩, ⟨some 18, (Op.load 3 (Operand.tmp 17)), 3, none⟩, ⟨some 4, (Op.assign (Operand.tmp 18)), 3, none⟩] (Q .normal ds) σ w := mk_eq rfl
@[push_cast] theorem bsl22_1_CodesR {K : Value → World → Prop} {w : World} (x00 x01 : Value) : vBuildSlice Try.prog 22 1 #[(0, (.agg #[x00, x01]))] K w = K (.slice (some ⟨w.heap.size, 0, none⟩) 1 1) (w.alloc (.cells #[x00, x01] 63)) :=
  vBuildSlice_ok Try.underlying22 ti63 (by kernel_rfl) (by decide)
@[push_cast] theorem bsl49_0_CodesR {K : Value → World → Prop} {w : World}  : vBuildSlice Try.prog 49 0 #[] K w = K (.slice (some ⟨w.heap.size, 0, none⟩) 0 0) (w.alloc (.cells #[] 3)) :=
  vBuildSlice_ok Try.underlying49 ti3 (by kernel_rfl) (by decide)
@[push_cast] theorem bsl49_1_CodesR {K : Value → World → Prop} {w : World} (x0 : Int) : vBuildSlice Try.prog 49 1 #[(0, (.int .i64 x0))] K w = K (.slice (some ⟨w.heap.size, 0, none⟩) 1 1) (w.alloc (.cells #[(.int .i64 x0)] 3)) :=
  vBuildSlice_ok Try.underlying49 ti3 (by kernel_rfl) (by decide)
@[push_cast] theorem bld63_0_1_CodesR {K : Value → World → Prop} {w : World} (x0 : Int) (x1 : Int) : vBuild Try.prog 63 #[(0, (.int .i64 x0)), (1, (.int .i64 x1))] K w = K (.agg #[(.int .i64 x0), (.int .i64 x1)]) w :=
  vBuild_ok (by kernel_rfl)
@[push_cast] theorem bld122_0_1_CodesR {K : Value → World → Prop} {w : World} (x0o : Option Addr) (x0n x0c : Nat) (x1o : Option Addr) (x1n x1c : Nat) : vBuild Try.prog 122 #[(0, (.slice x0o x0n x0c)), (1, (.slice x1o x1n x1c))] K w = K (.agg #[(.slice x0o x0n x0c), (.slice x1o x1n x1c)]) w :=
  vBuild_ok (by kernel_rfl)
end Go.Proofs.Ytfeocfcclmndoaa
