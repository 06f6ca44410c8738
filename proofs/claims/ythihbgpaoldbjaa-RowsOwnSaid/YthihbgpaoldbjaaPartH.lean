/- The functions' code in the generator's form. Written by a program (codes.py) out of Lean's own print of the loaded translation. -/
import Derived.Test.YthihbgpaoldbjaaPartG
set_option linter.all false
open Nat renaming reduceEqDiff → zA, reducePow → zB, reduceMul → zC, reduceAdd → zD, reduceSub → zE, reduceLeDiff → zF
open Int renaming reduceToNat → zG, reducePow → zH, reduceNeg → zI, reduceMul → zJ, reduceAdd → zK, reduceSub → zL, reduceLT → zM, reduceLE → zN, reduceEq → zO, reduceMod → zP, reduceDiv → zQ
section
namespace Go.Proofs.Ythihbgpaoldbjaa
open Go.Vc
set_option maxRecDepth 100000
variable (Q : Post) (ds : List Deferred) (σ : Env) (w : World)
/-! 15 columbary/columbaryref13.Same (params #[25, 25], results #[(.tmp 4)], 29 slots) -/
def W15_0 : List Nat := [4, 5, 6, 12, 13, 14, 15, 16, 17, 18, 19, 20, 21, 22, 23, 24, 25, 26, 27, 28]
@[push_cast] theorem W15_0_def : W15_0 = [4, 5, 6, 12, 13, 14, 15, 16, 17, 18, 19, 20, 21, 22, 23, 24, 25, 26, 27, 28] := mk_eq rfl
def r15_0 : List VOp :=
  [⟨some 4, .assign (.const (.bool false)), 4, none⟩]
def r15_1 : List VOp :=
  [⟨some 7, .move (.tmp 0), 25, none⟩,
   ⟨some 8, .call ⟨.builtin .len, #[.tmp 7], #[25]⟩, 3, none⟩,
   ⟨some 9, .move (.tmp 1), 25, none⟩,
   ⟨some 10, .call ⟨.builtin .len, #[.tmp 9], #[25]⟩, 3, none⟩,
   ⟨some 11, .binOp .neq 3 (.tmp 8) (.tmp 10) 3, 4, none⟩]
def r15_2 : List VOp :=
  [⟨some 4, .assign (.const (.bool false)), 4, none⟩]
def r15_3 : List VOp :=
  [⟨some 5, .assign (.const (.int .i64 0)), 3, none⟩]
def r15_4 : List VOp :=
  [⟨some 12, .move (.tmp 5), 3, none⟩,
   ⟨some 13, .move (.tmp 0), 25, none⟩,
   ⟨some 14, .call ⟨.builtin .len, #[.tmp 13], #[25]⟩, 3, none⟩,
   ⟨some 15, .binOp .lss 3 (.tmp 12) (.tmp 14) 3, 4, none⟩]
def r15_6 : List VOp :=
  [⟨some 18, .move (.tmp 0), 25, none⟩,
   ⟨some 19, .move (.tmp 5), 3, none⟩,
   ⟨some 20, .indexAddr 25 (.tmp 18) (.tmp 19), 0, none⟩,
   ⟨some 21, .load 35 (.tmp 20), 35, none⟩,
   ⟨some 22, .move (.tmp 1), 25, none⟩,
   ⟨some 23, .move (.tmp 5), 3, none⟩,
   ⟨some 24, .indexAddr 25 (.tmp 22) (.tmp 23), 0, none⟩,
   ⟨some 25, .load 35 (.tmp 24), 35, none⟩,
   ⟨some 26, .call ⟨.value (.func 29), #[.tmp 21, .tmp 25], #[35, 35]⟩, 4, none⟩,
   ⟨some 6, .assign (.tmp 26), 4, none⟩]
def r15_7 : List VOp :=
  [⟨some 27, .move (.tmp 6), 4, none⟩,
   ⟨some 28, .unOp .not 4 (.tmp 27), 4, none⟩]
def r15_8 : List VOp :=
  [⟨some 4, .assign (.const (.bool false)), 4, none⟩]
def r15_5 : List VOp :=
  [⟨some 16, .move (.tmp 5), 3, none⟩,
   ⟨some 17, .binOp .add 3 (.tmp 16) (.const (.int .i64 1)) 3, 3, none⟩,
   ⟨some 5, .assign (.tmp 17), 3, none⟩]
def r15_9 : List VOp :=
  [⟨some 4, .assign (.const (.bool true)), 4, none⟩]
def B15 : VC :=
  (.seq (.region r15_0) (.seq (.seq (.region r15_1) (.cond (.tmp 11) (.seq (.region r15_2) .ret) .skip)) (.seq (.seq (.region r15_3) (.block 0 (.loop (.seq (.seq (.region r15_4) (.cond (.tmp 15) .skip (.exit 0))) (.seq (.block 1 (.seq (.draw r15_6 3) (.seq (.region r15_7) (.cond (.tmp 28) (.seq (.region r15_8) .ret) .skip)))) (.region r15_5)))))) (.seq (.region r15_9) .ret))))
theorem code15 : ∃ c, Try.f15.body = some c ∧ abs Try.f15.ntmps c = B15 := ⟨_, rfl, by kernel_rfl⟩
theorem hb15 : HasBody Try.prog 15 := hasBody_of Try.func15 (by kernel_rfl)
theorem res15 : Try.f15.results = #[(.tmp 4)] := rfl
theorem enter15 {w : World} {R : Value → World → Prop} (x0 x1 : Value) (h : vc Try.prog B15 (retK Try.prog #[(.tmp 4)] R) [] (initEnv [x0, x1] 0) w) : FnC Try.prog 15 #[x0, x1] w R := by
  obtain ⟨c, h1, h2⟩ := code15
  exact hb15.fn (ret_of_vc mixed Try.func15 h1 (Nat.le_of_ble_eq_true rfl) B15 h2 h)
@[push_cast] theorem vr15_0 : vc Try.prog (.region r15_0) Q ds σ w = vcOps Try.prog [⟨some 4, .assign (.const (.bool false)), 4, none⟩] (Q .normal ds) σ w := mk_eq rfl
@[push_cast] theorem vr15_1 : vc Try.prog (.region r15_1) Q ds σ w = vcOps Try.prog [⟨some 7, .move (.tmp 0), 25, none⟩, ⟨some 8, .call ⟨.builtin .len, #[.tmp 7], #[25]⟩, 3, none⟩, ⟨some 9, .move (.tmp 1), 25, none⟩, ⟨some 10, .call ⟨.builtin .len, #[.tmp 9], #[25]⟩, 3, none⟩, ⟨some 11, .binOp .neq 3 (.tmp 8) (.tmp 10) 3, 4, none⟩] (Q .normal ds) σ w := mk_eq rfl
@[push_cast] theorem vr15_2 : vc Try.prog (.region r15_2) Q ds σ w = vcOps Try.prog [⟨some 4, .assign (.const (.bool false)), 4, none⟩] (Q .normal ds) σ w := mk_eq rfl
@[push_cast] theorem vr15_3 : vc Try.prog (.region r15_3) Q ds σ w = vcOps Try.prog [⟨some 5, .assign (.const (.int .i64 0)), 3, none⟩] (Q .normal ds) σ w := mk_eq rfl
@[push_cast] theorem vr15_4 : vc Try.prog (.region r15_4) Q ds σ w = vcOps Try.prog [⟨some 12, .move (.tmp 5), 3, none⟩, ⟨some 13, .move (.tmp 0), 25, none⟩, ⟨some 14, .call ⟨.builtin .len, #[.tmp 13], #[25]⟩, 3, none⟩, ⟨some 15, .binOp .lss 3 (.tmp 12) (.tmp 14) 3, 4, none⟩] (Q .normal ds) σ w := mk_eq rfl
@[push_cast] theorem vr15_6 : vc Try.prog (.draw r15_6 3) Q ds σ w = drawn Try.prog [(⟨some 18, .move (.tmp 0), 25, none⟩, [0]), (⟨some 19, .move (.tmp 5), 3, none⟩, [5]), (⟨some 20, .indexAddr 25 (.tmp 18) (.tmp 19), 0, none⟩, [18, 19]), (⟨some 21, .load 35 (.tmp 20), 35, none⟩, [20]), (⟨some 22, .move (.tmp 1), 25, none⟩, [1]), (⟨some 23, .move (.tmp 5), 3, none⟩, [5]), (⟨some 24, .indexAddr 25 (.tmp 22) (.tmp 23), 0, none⟩, [22, 23]), (⟨some 25, .load 35 (.tmp 24), 35, none⟩, [24]), (⟨some 26, .call ⟨.value (.func 29), #[.tmp 21, .tmp 25], #[35, 35]⟩, 4, none⟩, [21, 25]), (⟨some 6, .assign (.tmp 26), 4, none⟩, [26])] 3 (Q .normal ds) σ w := mk_eq rfl
@[push_cast] theorem vr15_7 : vc Try.prog (.region r15_7) Q ds σ w = vcOps Try.prog [⟨some 27, .move (.tmp 6), 4, none⟩, ⟨some 28, .unOp .not 4 (.tmp 27), 4, none⟩] (Q .normal ds) σ w := mk_eq rfl
@[push_cast] theorem vr15_8 : vc Try.prog (.region r15_8) Q ds σ w = vcOps Try.prog [⟨some 4, .assign (.const (.bool false)), 4, none⟩] (Q .normal ds) σ w := mk_eq rfl
@[push_cast] theorem vr15_5 : vc Try.prog (.region r15_5) Q ds σ w = vcOps Try.prog [⟨some 16, .move (.tmp 5), 3, none⟩, ⟨some 17, .binOp .add 3 (.tmp 16) (.const (.int .i64 1)) 3, 3, none⟩, ⟨some 5, .assign (.tmp 17), 3, none⟩] (Q .normal ds) σ w := mk_eq rfl
@[push_cast] theorem vr15_9 : vc Try.prog (.region r15_9) Q ds σ w = vcOps Try.prog [⟨some 4, .assign (.const (.bool true)), 4, none⟩] (Q .normal ds) σ w := mk_eq rfl
/-! 21 columbary/columbaryref03.Texts (params #[22, 22], results #[(.tmp 4)], 26 slots) -/
def W21_0 : List Nat := [4, 5, 11, 12, 13, 14, 15, 16, 17, 18, 19, 20, 21, 22, 23, 24, 25]
@[push_cast] theorem W21_0_def : W21_0 = [4, 5, 11, 12, 13, 14, 15, 16, 17, 18, 19, 20, 21, 22, 23, 24, 25] := mk_eq rfl
def r21_0 : List VOp :=
  [⟨some 4, .assign (.const (.bool false)), 4, none⟩]
def r21_1 : List VOp :=
  [⟨some 6, .move (.tmp 0), 22, none⟩,
   ⟨some 7, .call ⟨.builtin .len, #[.tmp 6], #[22]⟩, 3, none⟩,
   ⟨some 8, .move (.tmp 1), 22, none⟩,
   ⟨some 9, .call ⟨.builtin .len, #[.tmp 8], #[22]⟩, 3, none⟩,
   ⟨some 10, .binOp .neq 3 (.tmp 7) (.tmp 9) 3, 4, none⟩]
def r21_2 : List VOp :=
  [⟨some 4, .assign (.const (.bool false)), 4, none⟩]
def r21_3 : List VOp :=
  [⟨some 5, .assign (.const (.int .i64 0)), 3, none⟩]
def r21_4 : List VOp :=
  [⟨some 11, .move (.tmp 5), 3, none⟩,
   ⟨some 12, .move (.tmp 0), 22, none⟩,
   ⟨some 13, .call ⟨.builtin .len, #[.tmp 12], #[22]⟩, 3, none⟩,
   ⟨some 14, .binOp .lss 3 (.tmp 11) (.tmp 13) 3, 4, none⟩]
def r21_6 : List VOp :=
  [⟨some 17, .move (.tmp 0), 22, none⟩,
   ⟨some 18, .move (.tmp 5), 3, none⟩,
   ⟨some 19, .indexAddr 22 (.tmp 17) (.tmp 18), 0, none⟩,
   ⟨some 20, .load 9 (.tmp 19), 9, none⟩,
   ⟨some 21, .move (.tmp 1), 22, none⟩,
   ⟨some 22, .move (.tmp 5), 3, none⟩,
   ⟨some 23, .indexAddr 22 (.tmp 21) (.tmp 22), 0, none⟩,
   ⟨some 24, .load 9 (.tmp 23), 9, none⟩,
   ⟨some 25, .binOp .neq 9 (.tmp 20) (.tmp 24) 9, 4, none⟩]
def r21_7 : List VOp :=
  [⟨some 4, .assign (.const (.bool false)), 4, none⟩]
def r21_5 : List VOp :=
  [⟨some 15, .move (.tmp 5), 3, none⟩,
   ⟨some 16, .binOp .add 3 (.tmp 15) (.const (.int .i64 1)) 3, 3, none⟩,
   ⟨some 5, .assign (.tmp 16), 3, none⟩]
def r21_8 : List VOp :=
  [⟨some 4, .assign (.const (.bool true)), 4, none⟩]
def B21 : VC :=
  (.seq (.region r21_0) (.seq (.seq (.region r21_1) (.cond (.tmp 10) (.seq (.region r21_2) .ret) .skip)) (.seq (.seq (.region r21_3) (.block 0 (.loop (.seq (.seq (.region r21_4) (.cond (.tmp 14) .skip (.exit 0))) (.seq (.block 1 (.seq (.draw r21_6 2) (.cond (.tmp 25) (.seq (.region r21_7) .ret) .skip))) (.region r21_5)))))) (.seq (.region r21_8) .ret))))
theorem code21 : ∃ c, Try.f21.body = some c ∧ abs Try.f21.ntmps c = B21 := ⟨_, rfl, by kernel_rfl⟩
theorem hb21 : HasBody Try.prog 21 := hasBody_of Try.func21 (by kernel_rfl)
theorem res21 : Try.f21.results = #[(.tmp 4)] := rfl
theorem enter21 {w : World} {R : Value → World → Prop} (x0 x1 : Value) (h : vc Try.prog B21 (retK Try.prog #[(.tmp 4)] R) [] (initEnv [x0, x1] 0) w) : FnC Try.prog 21 #[x0, x1] w R := by
  obtain ⟨c, h1, h2⟩ := code21
  exact hb21.fn (ret_of_vc mixed Try.func21 h1 (Nat.le_of_ble_eq_true rfl) B21 h2 h)
@[push_cast] theorem vr21_0 : vc Try.prog (.region r21_0) Q ds σ w = vcOps Try.prog [⟨some 4, .assign (.const (.bool false)), 4, none⟩] (Q .normal ds) σ w := mk_eq rfl
@[push_cast] theorem vr21_1 : vc Try.prog (.region r21_1) Q ds σ w = vcOps Try.prog [⟨some 6, .move (.tmp 0), 22, none⟩, ⟨some 7, .call ⟨.builtin .len, #[.tmp 6], #[22]⟩, 3, none⟩, ⟨some 8, .move (.tmp 1), 22, none⟩, ⟨some 9, .call ⟨.builtin .len, #[.tmp 8], #[22]⟩, 3, none⟩, ⟨some 10, .binOp .neq 3 (.tmp 7) (.tmp 9) 3, 4, none⟩] (Q .normal ds) σ w := mk_eq rfl
@[push_cast] theorem vr21_2 : vc Try.prog (.region r21_2) Q ds σ w = vcOps Try.prog [⟨some 4, .assign (.const (.bool false)), 4, none⟩] (Q .normal ds) σ w := mk_eq rfl
@[push_cast] theorem vr21_3 : vc Try.prog (.region r21_3) Q ds σ w = vcOps Try.prog [⟨some 5, .assign (.const (.int .i64 0)), 3, none⟩] (Q .normal ds) σ w := mk_eq rfl
@[push_cast] theorem vr21_4 : vc Try.prog (.region r21_4) Q ds σ w = vcOps Try.prog [⟨some 11, .move (.tmp 5), 3, none⟩, ⟨some 12, .move (.tmp 0), 22, none⟩, ⟨some 13, .call ⟨.builtin .len, #[.tmp 12], #[22]⟩, 3, none⟩, ⟨some 14, .binOp .lss 3 (.tmp 11) (.tmp 13) 3, 4, none⟩] (Q .normal ds) σ w := mk_eq rfl
@[push_cast] theorem vr21_6 : vc Try.prog (.draw r21_6 2) Q ds σ w = drawn Try.prog [(⟨some 17, .move (.tmp 0), 22, none⟩, [0]), (⟨some 18, .move (.tmp 5), 3, none⟩, [5]), (⟨some 19, .indexAddr 22 (.tmp 17) (.tmp 18), 0, none⟩, [17, 18]), (⟨some 20, .load 9 (.tmp 19), 9, none⟩, [19]), (⟨some 21, .move (.tmp 1), 22, none⟩, [1]), (⟨some 22, .move (.tmp 5), 3, none⟩, [5]), (⟨some 23, .indexAddr 22 (.tmp 21) (.tmp 22), 0, none⟩, [21, 22]), (⟨some 24, .load 9 (.tmp 23), 9, none⟩, [23]), (⟨some 25, .binOp .neq 9 (.tmp 20) (.tmp 24) 9, 4, none⟩, [20, 24])] 2 (Q .normal ds) σ w := mk_eq rfl
@[push_cast] theorem vr21_7 : vc Try.prog (.region r21_7) Q ds σ w = vcOps Try.prog [⟨some 4, .assign (.const (.bool false)), 4, none⟩] (Q .normal ds) σ w := mk_eq rfl
@[push_cast] theorem vr21_5 : vc Try.prog (.region r21_5) Q ds σ w = vcOps Try.prog [⟨some 15, .move (.tmp 5), 3, none⟩, ⟨some 16, .binOp .add 3 (.tmp 15) (.const (.int .i64 1)) 3, 3, none⟩, ⟨some 5, .assign (.tmp 16), 3, none⟩] (Q .normal ds) σ w := mk_eq rfl
@[push_cast] theorem vr21_8 : vc Try.prog (.region r21_8) Q ds σ w = vcOps Try.prog [⟨some 4, .assign (.const (.bool true)), 4, none⟩] (Q .normal ds) σ w := mk_eq rfl
/-! 25 columbary/rows.Of (params #[24, 49], results #[(.cell 4 35), (.tmp 5)], 45 slots) -/
def W25_0 : List Nat := [9, 10, 11, 28, 29, 30, 31, 32, 33, 34, 35, 36, 37, 38, 39, 40, 41, 42, 43]
@[push_cast] theorem W25_0_def : W25_0 = [9, 10, 11, 28, 29, 30, 31, 32, 33, 34, 35, 36, 37, 38, 39, 40, 41, 42, 43] := mk_eq rfl
def r25_0 : List VOp :=
  [⟨some 2, .box 24 (.tmp 0), 0, none⟩,
   ⟨some 3, .box 49 (.tmp 1), 0, none⟩,
   ⟨some 4, .alloc 35, 0, none⟩,
   ⟨some 5, .assign (.const (.int .i64 0)), 28, none⟩]
def r25_1 : List VOp :=
  [⟨some 12, .load 24 (.tmp 2), 24, none⟩,
   ⟨some 13, .load 49 (.tmp 3), 49, none⟩,
   ⟨some 14, .call ⟨.value (.func 55), #[.tmp 12, .tmp 13], #[24, 49]⟩, 28, none⟩,
   ⟨some 6, .assign (.tmp 14), 28, none⟩]
def r25_2 : List VOp :=
  [⟨some 15, .move (.tmp 6), 28, none⟩,
   ⟨some 16, .binOp .neq 28 (.tmp 15) (.const (.int .i64 0)) 28, 4, none⟩]
def r25_3 : List VOp :=
  [⟨some 17, .build 35 #[], 35, none⟩,
   ⟨some 18, .move (.tmp 6), 28, none⟩,
   ⟨none, .store 35 (.tmp 4) (.tmp 17), 0, none⟩,
   ⟨some 5, .assign (.tmp 18), 28, none⟩]
def r25_4 : List VOp :=
  [⟨some 19, .fieldAddr 49 (.tmp 3) 0, 0, none⟩,
   ⟨some 20, .load 3 (.tmp 19), 3, none⟩,
   ⟨some 21, .fieldAddr 49 (.tmp 3) 1, 0, none⟩,
   ⟨some 22, .load 22 (.tmp 21), 22, none⟩,
   ⟨some 23, .call ⟨.value (.func 52), #[.tmp 22], #[22]⟩, 22, none⟩,
   ⟨some 24, .build 35 #[(0, (.tmp 20)), (1, (.tmp 23)), (2, (.const (.int .i64 1)))], 35, none⟩,
   ⟨some 7, .alloc 35, 0, none⟩,
   ⟨none, .store 35 (.tmp 7) (.tmp 24), 0, none⟩]
def r25_5 : List VOp :=
  [⟨some 25, .fieldAddr 49 (.tmp 3) 2, 0, none⟩,
   ⟨some 26, .load 47 (.tmp 25), 47, none⟩,
   ⟨some 27, .call ⟨.builtin .len, #[.tmp 26], #[47]⟩, 3, none⟩,
   ⟨some 28, .move (.const (.int .i64 0)), 3, none⟩]
def r25_6 : List VOp :=
  [⟨some 29, .binOp .lss 3 (.tmp 28) (.tmp 27) 3, 0, none⟩]
def r25_7 : List VOp :=
  [⟨some 30, .indexAddr 47 (.tmp 26) (.tmp 28), 0, none⟩,
   ⟨some 31, .load 3 (.tmp 30), 3, none⟩,
   ⟨some 9, .assign (.tmp 31), 3, none⟩]
def r25_8 : List VOp :=
  [⟨some 33, .move (.tmp 9), 3, none⟩,
   ⟨some 34, .call ⟨.value (.func 56), #[.tmp 33], #[3]⟩, 78, none⟩,
   ⟨some 32, .move (.tmp 34), 78, none⟩,
   ⟨some 35, .extract (.tmp 32) 0, 64, none⟩,
   ⟨some 36, .extract (.tmp 32) 1, 28, none⟩,
   ⟨some 10, .alloc 64, 0, none⟩,
   ⟨none, .store 64 (.tmp 10) (.tmp 35), 0, none⟩,
   ⟨some 11, .assign (.tmp 36), 28, none⟩]
def r25_9 : List VOp :=
  [⟨some 37, .fieldAddr 35 (.tmp 7) 3, 0, none⟩,
   ⟨some 38, .load 33 (.tmp 37), 33, none⟩,
   ⟨some 39, .load 64 (.tmp 10), 64, none⟩,
   ⟨some 40, .buildSlice 33 1 #[(0, (.tmp 39))], 33, none⟩,
   ⟨some 41, .call ⟨.builtin .append, #[.tmp 38, .tmp 40], #[33, 33]⟩, 33, none⟩,
   ⟨some 42, .fieldAddr 35 (.tmp 7) 3, 0, none⟩,
   ⟨none, .store 33 (.tmp 42) (.tmp 41), 0, none⟩]
def r25_10 : List VOp :=
  [⟨some 43, .binOp .add 3 (.tmp 28) (.const (.int .i64 1)) 3, 3, none⟩,
   ⟨some 28, .move (.tmp 43), 3, none⟩]
def r25_11 : List VOp :=
  [⟨some 44, .load 35 (.tmp 7), 35, none⟩,
   ⟨none, .store 35 (.tmp 4) (.tmp 44), 0, none⟩,
   ⟨some 5, .assign (.const (.int .i64 0)), 28, none⟩]
def B25 : VC :=
  (.seq (.region r25_0) (.seq (.seq (.region r25_1) (.seq (.region r25_2) (.cond (.tmp 16) (.seq (.region r25_3) .ret) .skip))) (.seq (.draw r25_4 2) (.seq (.seq (.region r25_5) (.block 0 (.loop (.seq (.region r25_6) (.seq (.cond (.tmp 29) .skip (.exit 0)) (.seq (.block 1 (.seq (.region r25_7) (.seq (.region r25_8) (.region r25_9)))) (.region r25_10))))))) (.seq (.region r25_11) .ret)))))
theorem code25 : ∃ c, Try.f25.body = some c ∧ abs Try.f25.ntmps c = B25 := ⟨_, rfl, by kernel_rfl⟩
theorem hb25 : HasBody Try.prog 25 := hasBody_of Try.func25 (by kernel_rfl)
theorem res25 : Try.f25.results = #[(.cell 4 35), (.tmp 5)] := rfl
theorem enter25 {w : World} {R : Value → World → Prop} (x0 x1 : Value) (h : vc Try.prog B25 (retK Try.prog #[(.cell 4 35), (.tmp 5)] R) [] (initEnv [x0, x1] 0) w) : FnC Try.prog 25 #[x0, x1] w R := by
  obtain ⟨c, h1, h2⟩ := code25
  exact hb25.fn (ret_of_vc mixed Try.func25 h1 (Nat.le_of_ble_eq_true rfl) B25 h2 h)
@[push_cast] theorem vr25_0 : vc Try.prog (.region r25_0) Q ds σ w = vcOps Try.prog [⟨some 2, .box 24 (.tmp 0), 0, none⟩, ⟨some 3, .box 49 (.tmp 1), 0, none⟩, ⟨some 4, .alloc 35, 0, none⟩, ⟨some 5, .assign (.const (.int .i64 0)), 28, none⟩] (Q .normal ds) σ w := mk_eq rfl
@[push_cast] theorem vr25_1 : vc Try.prog (.region r25_1) Q ds σ w = vcOps Try.prog [⟨some 12, .load 24 (.tmp 2), 24, none⟩, ⟨some 13, .load 49 (.tmp 3), 49, none⟩, ⟨some 14, .call ⟨.value (.func 55), #[.tmp 12, .tmp 13], #[24, 49]⟩, 28, none⟩, ⟨some 6, .assign (.tmp 14), 28, none⟩] (Q .normal ds) σ w := mk_eq rfl
@[push_cast] theorem vr25_2 : vc Try.prog (.region r25_2) Q ds σ w = vcOps Try.prog [⟨some 15, .move (.tmp 6), 28, none⟩, ⟨some 16, .binOp .neq 28 (.tmp 15) (.const (.int .i64 0)) 28, 4, none⟩] (Q .normal ds) σ w := mk_eq rfl
@[push_cast] theorem vr25_3 : vc Try.prog (.region r25_3) Q ds σ w = vcOps Try.prog [⟨some 17, .build 35 #[], 35, none⟩, ⟨some 18, .move (.tmp 6), 28, none⟩, ⟨none, .store 35 (.tmp 4) (.tmp 17), 0, none⟩, ⟨some 5, .assign (.tmp 18), 28, none⟩] (Q .normal ds) σ w := mk_eq rfl
@[push_cast] theorem vr25_4 : vc Try.prog (.draw r25_4 2) Q ds σ w = drawn Try.prog [(⟨some 19, .fieldAddr 49 (.tmp 3) 0, 0, none⟩, [3]), (⟨some 20, .load 3 (.tmp 19), 3, none⟩, [19]), (⟨some 21, .fieldAddr 49 (.tmp 3) 1, 0, none⟩, [3]), (⟨some 22, .load 22 (.tmp 21), 22, none⟩, [21]), (⟨some 23, .call ⟨.value (.func 52), #[.tmp 22], #[22]⟩, 22, none⟩, [22]), (⟨some 24, .build 35 #[(0, (.tmp 20)), (1, (.tmp 23)), (2, (.const (.int .i64 1)))], 35, none⟩, [20, 23]), (⟨some 7, .alloc 35, 0, none⟩, []), (⟨none, .store 35 (.tmp 7) (.tmp 24), 0, none⟩, [7, 24])] 2 (Q .normal ds) σ w := mk_eq rfl
@[push_cast] theorem vr25_5 : vc Try.prog (.region r25_5) Q ds σ w = vcOps Try.prog [⟨some 25, .fieldAddr 49 (.tmp 3) 2, 0, none⟩, ⟨some 26, .load 47 (.tmp 25), 47, none⟩, ⟨some 27, .call ⟨.builtin .len, #[.tmp 26], #[47]⟩, 3, none⟩, ⟨some 28, .move (.const (.int .i64 0)), 3, none⟩] (Q .normal ds) σ w := mk_eq rfl
@[push_cast] theorem vr25_6 : vc Try.prog (.region r25_6) Q ds σ w = vcOps Try.prog [⟨some 29, .binOp .lss 3 (.tmp 28) (.tmp 27) 3, 0, none⟩] (Q .normal ds) σ w := mk_eq rfl
@[push_cast] theorem vr25_7 : vc Try.prog (.region r25_7) Q ds σ w = vcOps Try.prog [⟨some 30, .indexAddr 47 (.tmp 26) (.tmp 28), 0, none⟩, ⟨some 31, .load 3 (.tmp 30), 3, none⟩, ⟨some 9, .assign (.tmp 31), 3, none⟩] (Q .normal ds) σ w := mk_eq rfl
@[push_cast] theorem vr25_8 : vc Try.prog (.region r25_8) Q ds σ w = vcOps Try.prog [⟨some 33, .move (.tmp 9), 3, none⟩, ⟨some 34, .call ⟨.value (.func 56), #[.tmp 33], #[3]⟩, 78, none⟩, ⟨some 32, .move (.tmp 34), 78, none⟩, ⟨some 35, .extract (.tmp 32) 0, 64, none⟩, ⟨some 36, .extract (.tmp 32) 1, 28, none⟩, ⟨some 10, .alloc 64, 0, none⟩, ⟨none, .store 64 (.tmp 10) (.tmp 35), 0, none⟩, ⟨some 11, .assign (.tmp 36), 28, none⟩] (Q .normal ds) σ w := mk_eq rfl
@[push_cast] theorem vr25_9 : vc Try.prog (.region r25_9) Q ds σ w = vcOps Try.prog [⟨some 37, .fieldAddr 35 (.tmp 7) 3, 0, none⟩, ⟨some 38, .load 33 (.tmp 37), 33, none⟩, ⟨some 39, .load 64 (.tmp 10), 64, none⟩, ⟨some 40, .buildSlice 33 1 #[(0, (.tmp 39))], 33, none⟩, ⟨some 41, .call ⟨.builtin .append, #[.tmp 38, .tmp 40], #[33, 33]⟩, 33, none⟩, ⟨some 42, .fieldAddr 35 (.tmp 7) 3, 0, none⟩, ⟨none, .store 33 (.tmp 42) (.tmp 41), 0, none⟩] (Q .normal ds) σ w := mk_eq rfl
@[push_cast] theorem vr25_10 : vc Try.prog (.region r25_10) Q ds σ w = vcOps Try.prog [⟨some 43, .binOp .add 3 (.tmp 28) (.const (.int .i64 1)) 3, 3, none⟩, ⟨some 28, .move (.tmp 43), 3, none⟩] (Q .normal ds) σ w := mk_eq rfl
@[push_cast] theorem vr25_11 : vc Try.prog (.region r25_11) Q ds σ w = vcOps Try.prog [⟨some 44, .load 35 (.tmp 7), 35, none⟩, ⟨none, .store 35 (.tmp 4) (.tmp 44), 0, none⟩, ⟨some 5, .assign (.const (.int .i64 0)), 28, none⟩] (Q .normal ds) σ w := mk_eq rfl
/-! 28 columbary/columbaryref13.Right (params #[24, 35], results #[(.tmp 4)], 73 slots) -/
def W28_0 : List Nat := [4, 5, 6, 25, 26, 27, 28, 29, 30, 31, 32, 33, 34, 35, 36, 37, 38, 39]
@[push_cast] theorem W28_0_def : W28_0 = [4, 5, 6, 25, 26, 27, 28, 29, 30, 31, 32, 33, 34, 35, 36, 37, 38, 39] := mk_eq rfl
def W28_1 : List Nat := [4, 7, 8, 40, 41, 42, 43, 44, 45, 46, 47, 48, 49, 50, 51, 52, 53, 54]
@[push_cast] theorem W28_1_def : W28_1 = [4, 7, 8, 40, 41, 42, 43, 44, 45, 46, 47, 48, 49, 50, 51, 52, 53, 54] := mk_eq rfl
def r28_0 : List VOp :=
  [⟨some 2, .box 24 (.tmp 0), 0, none⟩,
   ⟨some 3, .box 35 (.tmp 1), 0, none⟩,
   ⟨some 4, .assign (.const (.bool false)), 4, none⟩]
def r28_1 : List VOp :=
  [⟨some 9, .fieldAddr 35 (.tmp 3) 1, 0, none⟩,
   ⟨some 10, .load 22 (.tmp 9), 22, none⟩,
   ⟨some 11, .call ⟨.builtin .len, #[.tmp 10], #[22]⟩, 3, none⟩,
   ⟨some 12, .fieldAddr 24 (.tmp 2) 0, 0, none⟩,
   ⟨some 13, .load 22 (.tmp 12), 22, none⟩,
   ⟨some 14, .call ⟨.builtin .len, #[.tmp 13], #[22]⟩, 3, none⟩,
   ⟨some 15, .binOp .neq 3 (.tmp 11) (.tmp 14) 3, 4, none⟩,
   ⟨some 16, .move (.tmp 15), 4, none⟩,
   ⟨some 17, .fieldAddr 35 (.tmp 3) 3, 0, some (16, false)⟩,
   ⟨some 18, .load 33 (.tmp 17), 33, some (16, false)⟩,
   ⟨some 19, .call ⟨.builtin .len, #[.tmp 18], #[33]⟩, 3, some (16, false)⟩,
   ⟨some 20, .fieldAddr 24 (.tmp 2) 1, 0, some (16, false)⟩,
   ⟨some 21, .load 22 (.tmp 20), 22, some (16, false)⟩,
   ⟨some 22, .call ⟨.builtin .len, #[.tmp 21], #[22]⟩, 3, some (16, false)⟩,
   ⟨some 23, .binOp .neq 3 (.tmp 19) (.tmp 22) 3, 4, some (16, false)⟩,
   ⟨some 24, .pick (.tmp 16) (.const (.bool true)) (.tmp 23), 4, none⟩]
def r28_2 : List VOp :=
  [⟨some 4, .assign (.const (.bool false)), 4, none⟩]
def r28_3 : List VOp :=
  [⟨some 5, .assign (.const (.int .i64 0)), 3, none⟩]
def r28_4 : List VOp :=
  [⟨some 25, .move (.tmp 5), 3, none⟩,
   ⟨some 26, .fieldAddr 35 (.tmp 3) 1, 0, none⟩,
   ⟨some 27, .load 22 (.tmp 26), 22, none⟩,
   ⟨some 28, .call ⟨.builtin .len, #[.tmp 27], #[22]⟩, 3, none⟩,
   ⟨some 29, .binOp .lss 3 (.tmp 25) (.tmp 28) 3, 4, none⟩]
def r28_6 : List VOp :=
  [⟨some 32, .fieldAddr 35 (.tmp 3) 1, 0, none⟩,
   ⟨some 33, .load 22 (.tmp 32), 22, none⟩,
   ⟨some 34, .move (.tmp 5), 3, none⟩,
   ⟨some 35, .indexAddr 22 (.tmp 33) (.tmp 34), 0, none⟩,
   ⟨some 36, .load 9 (.tmp 35), 9, none⟩,
   ⟨some 37, .call ⟨.value (.func 65), #[.tmp 36], #[9]⟩, 4, none⟩,
   ⟨some 6, .assign (.tmp 37), 4, none⟩]
def r28_7 : List VOp :=
  [⟨some 38, .move (.tmp 6), 4, none⟩,
   ⟨some 39, .unOp .not 4 (.tmp 38), 4, none⟩]
def r28_8 : List VOp :=
  [⟨some 4, .assign (.const (.bool false)), 4, none⟩]
def r28_5 : List VOp :=
  [⟨some 30, .move (.tmp 5), 3, none⟩,
   ⟨some 31, .binOp .add 3 (.tmp 30) (.const (.int .i64 1)) 3, 3, none⟩,
   ⟨some 5, .assign (.tmp 31), 3, none⟩]
def r28_9 : List VOp :=
  [⟨some 7, .assign (.const (.int .i64 0)), 3, none⟩]
def r28_10 : List VOp :=
  [⟨some 40, .move (.tmp 7), 3, none⟩,
   ⟨some 41, .fieldAddr 35 (.tmp 3) 3, 0, none⟩,
   ⟨some 42, .load 33 (.tmp 41), 33, none⟩,
   ⟨some 43, .call ⟨.builtin .len, #[.tmp 42], #[33]⟩, 3, none⟩,
   ⟨some 44, .binOp .lss 3 (.tmp 40) (.tmp 43) 3, 4, none⟩]
def r28_12 : List VOp :=
  [⟨some 47, .fieldAddr 35 (.tmp 3) 3, 0, none⟩,
   ⟨some 48, .load 33 (.tmp 47), 33, none⟩,
   ⟨some 49, .move (.tmp 7), 3, none⟩,
   ⟨some 50, .indexAddr 33 (.tmp 48) (.tmp 49), 0, none⟩,
   ⟨some 51, .load 64 (.tmp 50), 64, none⟩,
   ⟨some 52, .call ⟨.value (.func 66), #[.tmp 51], #[64]⟩, 4, none⟩,
   ⟨some 8, .assign (.tmp 52), 4, none⟩]
def r28_13 : List VOp :=
  [⟨some 53, .move (.tmp 8), 4, none⟩,
   ⟨some 54, .unOp .not 4 (.tmp 53), 4, none⟩]
def r28_14 : List VOp :=
  [⟨some 4, .assign (.const (.bool false)), 4, none⟩]
def r28_11 : List VOp :=
  [⟨some 45, .move (.tmp 7), 3, none⟩,
   ⟨some 46, .binOp .add 3 (.tmp 45) (.const (.int .i64 1)) 3, 3, none⟩,
   ⟨some 7, .assign (.tmp 46), 3, none⟩]
def r28_15 : List VOp :=
  [⟨some 55, .fieldAddr 35 (.tmp 3) 0, 0, none⟩,
   ⟨some 56, .load 3 (.tmp 55), 3, none⟩,
   ⟨some 57, .binOp .geq 3 (.tmp 56) (.const (.int .i64 0)) 3, 4, none⟩,
   ⟨some 58, .move (.tmp 57), 4, none⟩,
   ⟨some 59, .fieldAddr 35 (.tmp 3) 0, 0, some (58, true)⟩,
   ⟨some 60, .load 3 (.tmp 59), 3, some (58, true)⟩,
   ⟨some 61, .binOp .leq 3 (.tmp 60) (.const (.int .i64 1099511627776)) 3, 4, some (58, true)⟩,
   ⟨some 62, .pick (.tmp 58) (.tmp 61) (.const (.bool false)), 4, none⟩,
   ⟨some 63, .move (.tmp 62), 4, none⟩,
   ⟨some 64, .fieldAddr 35 (.tmp 3) 2, 0, some (63, true)⟩,
   ⟨some 65, .load 3 (.tmp 64), 3, some (63, true)⟩,
   ⟨some 66, .binOp .geq 3 (.tmp 65) (.const (.int .i64 1)) 3, 4, some (63, true)⟩,
   ⟨some 67, .pick (.tmp 63) (.tmp 66) (.const (.bool false)), 4, none⟩,
   ⟨some 68, .move (.tmp 67), 4, none⟩,
   ⟨some 69, .fieldAddr 35 (.tmp 3) 2, 0, some (68, true)⟩,
   ⟨some 70, .load 3 (.tmp 69), 3, some (68, true)⟩,
   ⟨some 71, .binOp .leq 3 (.tmp 70) (.const (.int .i64 1048576)) 3, 4, some (68, true)⟩,
   ⟨some 72, .pick (.tmp 68) (.tmp 71) (.const (.bool false)), 4, none⟩,
   ⟨some 4, .assign (.tmp 72), 4, none⟩]
def B28 : VC :=
  (.seq (.region r28_0) (.seq (.seq (.region r28_1) (.cond (.tmp 24) (.seq (.region r28_2) .ret) .skip)) (.seq (.seq (.region r28_3) (.block 0 (.loop (.seq (.seq (.region r28_4) (.cond (.tmp 29) .skip (.exit 0))) (.seq (.block 1 (.seq (.region r28_6) (.seq (.region r28_7) (.cond (.tmp 39) (.seq (.region r28_8) .ret) .skip)))) (.region r28_5)))))) (.seq (.seq (.region r28_9) (.block 2 (.loop (.seq (.seq (.region r28_10) (.cond (.tmp 44) .skip (.exit 2))) (.seq (.block 3 (.seq (.region r28_12) (.seq (.region r28_13) (.cond (.tmp 54) (.seq (.region r28_14) .ret) .skip)))) (.region r28_11)))))) (.seq (.region r28_15) .ret)))))
theorem code28 : ∃ c, Try.f28.body = some c ∧ abs Try.f28.ntmps c = B28 := ⟨_, rfl, by kernel_rfl⟩
theorem hb28 : HasBody Try.prog 28 := hasBody_of Try.func28 (by kernel_rfl)
theorem res28 : Try.f28.results = #[(.tmp 4)] := rfl
theorem enter28 {w : World} {R : Value → World → Prop} (x0 x1 : Value) (h : vc Try.prog B28 (retK Try.prog #[(.tmp 4)] R) [] (initEnv [x0, x1] 0) w) : FnC Try.prog 28 #[x0, x1] w R := by
  obtain ⟨c, h1, h2⟩ := code28
  exact hb28.fn (ret_of_vc mixed Try.func28 h1 (Nat.le_of_ble_eq_true rfl) B28 h2 h)
@[push_cast] theorem vr28_0 : vc Try.prog (.region r28_0) Q ds σ w = vcOps Try.prog [⟨some 2, .box 24 (.tmp 0), 0, none⟩, ⟨some 3, .box 35 (.tmp 1), 0, none⟩, ⟨some 4, .assign (.const (.bool false)), 4, none⟩] (Q .normal ds) σ w := mk_eq rfl
@[push_cast] theorem vr28_1 : vc Try.prog (.region r28_1) Q ds σ w = vcOps Try.prog [⟨some 9, .fieldAddr 35 (.tmp 3) 1, 0, none⟩, ⟨some 10, .load 22 (.tmp 9), 22, none⟩, ⟨some 11, .call ⟨.builtin .len, #[.tmp 10], #[22]⟩, 3, none⟩, ⟨some 12, .fieldAddr 24 (.tmp 2) 0, 0, none⟩, ⟨some 13, .load 22 (.tmp 12), 22, none⟩, ⟨some 14, .call ⟨.builtin .len, #[.tmp 13], #[22]⟩, 3, none⟩, ⟨some 15, .binOp .neq 3 (.tmp 11) (.tmp 14) 3, 4, none⟩, ⟨some 16, .move (.tmp 15), 4, none⟩, ⟨some 17, .fieldAddr 35 (.tmp 3) 3, 0, some (16, false)⟩, ⟨some 18, .load 33 (.tmp 17), 33, some (16, false)⟩, ⟨some 19, .call ⟨.builtin .len, #[.tmp 18], #[33]⟩, 3, some (16, false)⟩, ⟨some 20, .fieldAddr 24 (.tmp 2) 1, 0, some (16, false)⟩, ⟨some 21, .load 22 (.tmp 20), 22, some (16, false)⟩, ⟨some 22, .call ⟨.builtin .len, #[.tmp 21], #[22]⟩, 3, some (16, false)⟩, ⟨some 23, .binOp .neq 3 (.tmp 19) (.tmp 22) 3, 4, some (16, false)⟩, ⟨some 24, .pick (.tmp 16) (.const (.bool true)) (.tmp 23), 4, none⟩] (Q .normal ds) σ w := mk_eq rfl
@[push_cast] theorem vr28_2 : vc Try.prog (.region r28_2) Q ds σ w = vcOps Try.prog [⟨some 4, .assign (.const (.bool false)), 4, none⟩] (Q .normal ds) σ w := mk_eq rfl
@[push_cast] theorem vr28_3 : vc Try.prog (.region r28_3) Q ds σ w = vcOps Try.prog [⟨some 5, .assign (.const (.int .i64 0)), 3, none⟩] (Q .normal ds) σ w := mk_eq rfl
@[push_cast] theorem vr28_4 : vc Try.prog (.region r28_4) Q ds σ w = vcOps Try.prog [⟨some 25, .move (.tmp 5), 3, none⟩, ⟨some 26, .fieldAddr 35 (.tmp 3) 1, 0, none⟩, ⟨some 27, .load 22 (.tmp 26), 22, none⟩, ⟨some 28, .call ⟨.builtin .len, #[.tmp 27], #[22]⟩, 3, none⟩, ⟨some 29, .binOp .lss 3 (.tmp 25) (.tmp 28) 3, 4, none⟩] (Q .normal ds) σ w := mk_eq rfl
@[push_cast] theorem vr28_6 : vc Try.prog (.region r28_6) Q ds σ w = vcOps Try.prog [⟨some 32, .fieldAddr 35 (.tmp 3) 1, 0, none⟩, ⟨some 33, .load 22 (.tmp 32), 22, none⟩, ⟨some 34, .move (.tmp 5), 3, none⟩, ⟨some 35, .indexAddr 22 (.tmp 33) (.tmp 34), 0, none⟩, ⟨some 36, .load 9 (.tmp 35), 9, none⟩, ⟨some 37, .call ⟨.value (.func 65), #[.tmp 36], #[9]⟩, 4, none⟩, ⟨some 6, .assign (.tmp 37), 4, none⟩] (Q .normal ds) σ w := mk_eq rfl
@[push_cast] theorem vr28_7 : vc Try.prog (.region r28_7) Q ds σ w = vcOps Try.prog [⟨some 38, .move (.tmp 6), 4, none⟩, ⟨some 39, .unOp .not 4 (.tmp 38), 4, none⟩] (Q .normal ds) σ w := mk_eq rfl
@[push_cast] theorem vr28_8 : vc Try.prog (.region r28_8) Q ds σ w = vcOps Try.prog [⟨some 4, .assign (.const (.bool false)), 4, none⟩] (Q .normal ds) σ w := mk_eq rfl
@[push_cast] theorem vr28_5 : vc Try.prog (.region r28_5) Q ds σ w = vcOps Try.prog [⟨some 30, .move (.tmp 5), 3, none⟩, ⟨some 31, .binOp .add 3 (.tmp 30) (.const (.int .i64 1)) 3, 3, none⟩, ⟨some 5, .assign (.tmp 31), 3, none⟩] (Q .normal ds) σ w := mk_eq rfl
@[push_cast] theorem vr28_9 : vc Try.prog (.region r28_9) Q ds σ w = vcOps Try.prog [⟨some 7, .assign (.const (.int .i64 0)), 3, none⟩] (Q .normal ds) σ w := mk_eq rfl
@[push_cast] theorem vr28_10 : vc Try.prog (.region r28_10) Q ds σ w = vcOps Try.prog [⟨some 40, .move (.tmp 7), 3, none⟩, ⟨some 41, .fieldAddr 35 (.tmp 3) 3, 0, none⟩, ⟨some 42, .load 33 (.tmp 41), 33, none⟩, ⟨some 43, .call ⟨.builtin .len, #[.tmp 42], #[33]⟩, 3, none⟩, ⟨some 44, .binOp .lss 3 (.tmp 40) (.tmp 43) 3, 4, none⟩] (Q .normal ds) σ w := mk_eq rfl
@[push_cast] theorem vr28_12 : vc Try.prog (.region r28_12) Q ds σ w = vcOps Try.prog [⟨some 47, .fieldAddr 35 (.tmp 3) 3, 0, none⟩, ⟨some 48, .load 33 (.tmp 47), 33, none⟩, ⟨some 49, .move (.tmp 7), 3, none⟩, ⟨some 50, .indexAddr 33 (.tmp 48) (.tmp 49), 0, none⟩, ⟨some 51, .load 64 (.tmp 50), 64, none⟩, ⟨some 52, .call ⟨.value (.func 66), #[.tmp 51], #[64]⟩, 4, none⟩, ⟨some 8, .assign (.tmp 52), 4, none⟩] (Q .normal ds) σ w := mk_eq rfl
@[push_cast] theorem vr28_13 : vc Try.prog (.region r28_13) Q ds σ w = vcOps Try.prog [⟨some 53, .move (.tmp 8), 4, none⟩, ⟨some 54, .unOp .not 4 (.tmp 53), 4, none⟩] (Q .normal ds) σ w := mk_eq rfl
@[push_cast] theorem vr28_14 : vc Try.prog (.region r28_14) Q ds σ w = vcOps Try.prog [⟨some 4, .assign (.const (.bool false)), 4, none⟩] (Q .normal ds) σ w := mk_eq rfl
@[push_cast] theorem vr28_11 : vc Try.prog (.region r28_11) Q ds σ w = vcOps Try.prog [⟨some 45, .move (.tmp 7), 3, none⟩, ⟨some 46, .binOp .add 3 (.tmp 45) (.const (.int .i64 1)) 3, 3, none⟩, ⟨some 7, .assign (.tmp 46), 3, none⟩] (Q .normal ds) σ w := mk_eq rfl
@[push_cast] theorem vr28_15 : vc Try.prog (.region r28_15) Q ds σ w = vcOps Try.prog [⟨some 55, .fieldAddr 35 (.tmp 3) 0, 0, none⟩, ⟨some 56, .load 3 (.tmp 55), 3, none⟩, ⟨some 57, .binOp .geq 3 (.tmp 56) (.const (.int .i64 0)) 3, 4, none⟩, ⟨some 58, .move (.tmp 57), 4, none⟩, ⟨some 59, .fieldAddr 35 (.tmp 3) 0, 0, some (58, true)⟩, ⟨some 60, .load 3 (.tmp 59), 3, some (58, true)⟩, ⟨some 61, .binOp .leq 3 (.tmp 60) (.const (.int .i64 1099511627776)) 3, 4, some (58, true)⟩, ⟨some 62, .pick (.tmp 58) (.tmp 61) (.const (.bool false)), 4, none⟩, ⟨some 63, .move (.tmp 62), 4, none⟩, ⟨some 64, .fieldAddr 35 (.tmp 3) 2, 0, some (63, true)⟩, ⟨some 65, .load 3 (.tmp 64), 3, some (63, true)⟩, ⟨some 66, .binOp .geq 3 (.tmp 65) (.const (.int .i64 1)) 3, 4, some (63, true)⟩, ⟨some 67, .pick (.tmp 63) (.tmp 66) (.const (.bool false)), 4, none⟩, ⟨some 68, .move (.tmp 67), 4, none⟩, ⟨some 69, .fieldAddr 35 (.tmp 3) 2, 0, some (68, true)⟩, ⟨some 70, .load 3 (.tmp 69), 3, some (68, true)⟩, ⟨some 71, .binOp .leq 3 (.tmp 70) (.const (.int .i64 1048576)) 3, 4, some (68, true)⟩, ⟨some 72, .pick (.tmp 68) (.tmp 71) (.const (.bool false)), 4, none⟩, ⟨some 4, .assign (.tmp 72), 4, none⟩] (Q .normal ds) σ w := mk_eq rfl
/-! 29 columbary/columbaryref13.One (params #[35, 35], results #[(.tmp 4)], 26 slots) -/
def r29_0 : List VOp :=
  [⟨some 2, .box 35 (.tmp 0), 0, none⟩,
   ⟨some 3, .box 35 (.tmp 1), 0, none⟩,
   ⟨some 4, .assign (.const (.bool false)), 4, none⟩]
def r29_1 : List VOp :=
  [⟨some 7, .load 35 (.tmp 2), 35, none⟩,
   ⟨some 8, .load 35 (.tmp 3), 35, none⟩,
   ⟨some 9, .call ⟨.value (.func 45), #[.tmp 7, .tmp 8], #[35, 35]⟩, 4, none⟩,
   ⟨some 5, .assign (.tmp 9), 4, none⟩]
def r29_2 : List VOp :=
  [⟨some 10, .fieldAddr 35 (.tmp 2) 3, 0, none⟩,
   ⟨some 11, .load 33 (.tmp 10), 33, none⟩,
   ⟨some 12, .fieldAddr 35 (.tmp 3) 3, 0, none⟩,
   ⟨some 13, .load 33 (.tmp 12), 33, none⟩,
   ⟨some 14, .call ⟨.value (.func 67), #[.tmp 11, .tmp 13], #[33, 33]⟩, 4, none⟩,
   ⟨some 6, .assign (.tmp 14), 4, none⟩]
def r29_3 : List VOp :=
  [⟨some 15, .move (.tmp 5), 4, none⟩,
   ⟨some 16, .move (.tmp 15), 4, none⟩,
   ⟨some 17, .move (.tmp 6), 4, some (16, true)⟩,
   ⟨some 18, .pick (.tmp 16) (.tmp 17) (.const (.bool false)), 4, none⟩,
   ⟨some 19, .move (.tmp 18), 4, none⟩,
   ⟨some 20, .fieldAddr 35 (.tmp 2) 2, 0, some (19, true)⟩,
   ⟨some 21, .load 3 (.tmp 20), 3, some (19, true)⟩,
   ⟨some 22, .fieldAddr 35 (.tmp 3) 2, 0, some (19, true)⟩,
   ⟨some 23, .load 3 (.tmp 22), 3, some (19, true)⟩,
   ⟨some 24, .binOp .eql 3 (.tmp 21) (.tmp 23) 3, 4, some (19, true)⟩,
   ⟨some 25, .pick (.tmp 19) (.tmp 24) (.const (.bool false)), 4, none⟩,
   ⟨some 4, .assign (.tmp 25), 4, none⟩]
def B29 : VC :=
  (.seq (.region r29_0) (.seq (.region r29_1) (.seq (.region r29_2) (.seq (.region r29_3) .ret))))
theorem code29 : ∃ c, Try.f29.body = some c ∧ abs Try.f29.ntmps c = B29 := ⟨_, rfl, by kernel_rfl⟩
theorem hb29 : HasBody Try.prog 29 := hasBody_of Try.func29 (by kernel_rfl)
theorem res29 : Try.f29.results = #[(.tmp 4)] := rfl
theorem enter29 {w : World} {R : Value → World → Prop} (x0 x1 : Value) (h : vc Try.prog B29 (retK Try.prog #[(.tmp 4)] R) [] (initEnv [x0, x1] 0) w) : FnC Try.prog 29 #[x0, x1] w R := by
  obtain ⟨c, h1, h2⟩ := code29
  exact hb29.fn (ret_of_vc mixed Try.func29 h1 (Nat.le_of_ble_eq_true rfl) B29 h2 h)
@[push_cast] theorem vr29_0 : vc Try.prog (.region r29_0) Q ds σ w = vcOps Try.prog [⟨some 2, .box 35 (.tmp 0), 0, none⟩, ⟨some 3, .box 35 (.tmp 1), 0, none⟩, ⟨some 4, .assign (.const (.bool false)), 4, none⟩] (Q .normal ds) σ w := mk_eq rfl
@[push_cast] theorem vr29_1 : vc Try.prog (.region r29_1) Q ds σ w = vcOps Try.prog [⟨some 7, .load 35 (.tmp 2), 35, none⟩, ⟨some 8, .load 35 (.tmp 3), 35, none⟩, ⟨some 9, .call ⟨.value (.func 45), #[.tmp 7, .tmp 8], #[35, 35]⟩, 4, none⟩, ⟨some 5, .assign (.tmp 9), 4, none⟩] (Q .normal ds) σ w := mk_eq rfl
@[push_cast] theorem vr29_2 : vc Try.prog (.region r29_2) Q ds σ w = vcOps Try.prog [⟨some 10, .fieldAddr 35 (.tmp 2) 3, 0, none⟩, ⟨some 11, .load 33 (.tmp 10), 33, none⟩, ⟨some 12, .fieldAddr 35 (.tmp 3) 3, 0, none⟩, ⟨some 13, .load 33 (.tmp 12), 33, none⟩, ⟨some 14, .call ⟨.value (.func 67), #[.tmp 11, .tmp 13], #[33, 33]⟩, 4, none⟩, ⟨some 6, .assign (.tmp 14), 4, none⟩] (Q .normal ds) σ w := mk_eq rfl
@[push_cast] theorem vr29_3 : vc Try.prog (.region r29_3) Q ds σ w = vcOps Try.prog [⟨some 15, .move (.tmp 5), 4, none⟩, ⟨some 16, .move (.tmp 15), 4, none⟩, ⟨some 17, .move (.tmp 6), 4, some (16, true)⟩, ⟨some 18, .pick (.tmp 16) (.tmp 17) (.const (.bool false)), 4, none⟩, ⟨some 19, .move (.tmp 18), 4, none⟩, ⟨some 20, .fieldAddr 35 (.tmp 2) 2, 0, some (19, true)⟩, ⟨some 21, .load 3 (.tmp 20), 3, some (19, true)⟩, ⟨some 22, .fieldAddr 35 (.tmp 3) 2, 0, some (19, true)⟩, ⟨some 23, .load 3 (.tmp 22), 3, some (19, true)⟩, ⟨some 24, .binOp .eql 3 (.tmp 21) (.tmp 23) 3, 4, some (19, true)⟩, ⟨some 25, .pick (.tmp 19) (.tmp 24) (.const (.bool false)), 4, none⟩, ⟨some 4, .assign (.tmp 25), 4, none⟩] (Q .normal ds) σ w := mk_eq rfl
/-! 30 columbary/rows.Copy (params #[25], results #[(.tmp 2)], 14 slots) -/
def r30_0 : List VOp :=
  [⟨some 2, .assign (.const (.slice none 0 0)), 25, none⟩]
def r30_1 : List VOp :=
  [⟨some 3, .alloc 25, 0, none⟩]
def r30_2 : List VOp :=
  [⟨some 5, .move (.tmp 0), 25, none⟩,
   ⟨some 6, .call ⟨.value (.func 68), #[.tmp 5], #[25]⟩, 86, none⟩]
def r30_3 : List VOp :=
  [⟨some 4, .alloc 35, 0, none⟩,
   ⟨none, .store 35 (.tmp 4) (.tmp 7), 0, none⟩]
def r30_4 : List VOp :=
  [⟨some 8, .load 25 (.tmp 3), 25, none⟩,
   ⟨some 9, .load 35 (.tmp 4), 35, none⟩,
   ⟨some 10, .call ⟨.value (.func 69), #[.tmp 9], #[35]⟩, 35, none⟩,
   ⟨some 11, .buildSlice 25 1 #[(0, (.tmp 10))], 25, none⟩,
   ⟨some 12, .call ⟨.builtin .append, #[.tmp 8, .tmp 11], #[25, 25]⟩, 25, none⟩,
   ⟨none, .store 25 (.tmp 3) (.tmp 12), 0, none⟩]
def r30_5 : List VOp :=
  [⟨some 13, .load 25 (.tmp 3), 25, none⟩,
   ⟨some 2, .assign (.tmp 13), 25, none⟩]
def B30 : VC :=
  (.seq (.region r30_0) (.seq (.region r30_1) (.seq (.seq (.region r30_2) (.block 0 (.rangeFunc (.tmp 6) [7] (.region r30_3) (.block 1 (.drawR r30_4 3))))) (.seq (.region r30_5) .ret))))
theorem code30 : ∃ c, Try.f30.body = some c ∧ abs Try.f30.ntmps c = B30 := ⟨_, rfl, by kernel_rfl⟩
theorem hb30 : HasBody Try.prog 30 := hasBody_of Try.func30 (by kernel_rfl)
theorem res30 : Try.f30.results = #[(.tmp 2)] := rfl
theorem enter30 {w : World} {R : Value → World → Prop} (x0 : Value) (h : vc Try.prog B30 (retK Try.prog #[(.tmp 2)] R) [] (initEnv [x0] 0) w) : FnC Try.prog 30 #[x0] w R := by
  obtain ⟨c, h1, h2⟩ := code30
  exact hb30.fn (ret_of_vc mixed Try.func30 h1 (Nat.le_of_ble_eq_true rfl) B30 h2 h)
@[push_cast] theorem vr30_0 : vc Try.prog (.region r30_0) Q ds σ w = vcOps Try.prog [⟨some 2, .assign (.const (.slice none 0 0)), 25, none⟩] (Q .normal ds) σ w := mk_eq rfl
@[push_cast] theorem vr30_1 : vc Try.prog (.region r30_1) Q ds σ w = vcOps Try.prog [⟨some 3, .alloc 25, 0, none⟩] (Q .normal ds) σ w := mk_eq rfl
@[push_cast] theorem vr30_2 : vc Try.prog (.region r30_2) Q ds σ w = vcOps Try.prog [⟨some 5, .move (.tmp 0), 25, none⟩, ⟨some 6, .call ⟨.value (.func 68), #[.tmp 5], #[25]⟩, 86, none⟩] (Q .normal ds) σ w := mk_eq rfl
@[push_cast] theorem vr30_3 : vc Try.prog (.region r30_3) Q ds σ w = vcOps Try.prog [⟨some 4, .alloc 35, 0, none⟩, ⟨none, .store 35 (.tmp 4) (.tmp 7), 0, none⟩] (Q .normal ds) σ w := mk_eq rfl
@[push_cast] theorem vr30_4 : vc Try.prog (.drawR r30_4 3) Q ds σ w = drawnR Try.prog [(⟨some 8, .load 25 (.tmp 3), 25, none⟩, [3]), (⟨some 9, .load 35 (.tmp 4), 35, none⟩, [4]), (⟨some 10, .call ⟨.value (.func 69), #[.tmp 9], #[35]⟩, 35, none⟩, [9]), (⟨some 11, .buildSlice 25 1 #[(0, (.tmp 10))], 25, none⟩, [10]), (⟨some 12, .call ⟨.builtin .append, #[.tmp 8, .tmp 11], #[25, 25]⟩, 25, none⟩, [8, 11]), (⟨none, .store 25 (.tmp 3) (.tmp 12), 0, none⟩, [3, 12])] 3 (Q .normal ds) σ w := mk_eq rfl
@[push_cast] theorem vr30_5 : vc Try.prog (.region r30_5) Q ds σ w = vcOps Try.prog [⟨some 13, .load 25 (.tmp 3), 25, none⟩, ⟨some 2, .assign (.tmp 13), 25, none⟩] (Q .normal ds) σ w := mk_eq rfl
/-! 31 columbary/rows.Fold (params #[25], results #[(.tmp 2), (.tmp 3)], 58 slots) -/
def W31_0 : List Nat := [2, 3, 4, 6, 7, 8, 9, 16, 17, 18, 19, 20, 21, 22, 23, 24, 25, 26, 27, 28, 29, 30, 31, 32, 33, 34, 35, 36, 37, 38, 39, 40, 41, 42, 43, 44, 45, 46, 47, 48, 49, 50, 51, 52, 53, 54, 55, 56]
@[push_cast] theorem W31_0_def : W31_0 = [2, 3, 4, 6, 7, 8, 9, 16, 17, 18, 19, 20, 21, 22, 23, 24, 25, 26, 27, 28, 29, 30, 31, 32, 33, 34, 35, 36, 37, 38, 39, 40, 41, 42, 43, 44, 45, 46, 47, 48, 49, 50, 51, 52, 53, 54, 55, 56] := mk_eq rfl
def r31_0 : List VOp :=
  [⟨some 2, .assign (.const (.slice none 0 0)), 25, none⟩,
   ⟨some 3, .assign (.const (.int .i64 0)), 28, none⟩]
def r31_1 : List VOp :=
  [⟨some 10, .move (.tmp 0), 25, none⟩,
   ⟨some 11, .call ⟨.value (.func 30), #[.tmp 10], #[25]⟩, 25, none⟩,
   ⟨some 0, .assign (.tmp 11), 25, none⟩]
def r31_2 : List VOp :=
  [⟨some 12, .move (.tmp 0), 25, none⟩,
   ⟨some 13, .call ⟨.value (.func 70), #[(.tmp 12), (.func 34)], #[25, 58]⟩, 0, none⟩]
def r31_3 : List VOp :=
  [⟨some 4, .assign (.const (.slice none 0 0)), 25, none⟩]
def r31_4 : List VOp :=
  [⟨some 14, .move (.tmp 0), 25, none⟩,
   ⟨some 15, .call ⟨.builtin .len, #[.tmp 14], #[25]⟩, 3, none⟩,
   ⟨some 16, .move (.const (.int .i64 0)), 3, none⟩]
def r31_5 : List VOp :=
  [⟨some 17, .binOp .lss 3 (.tmp 16) (.tmp 15) 3, 0, none⟩]
def r31_6 : List VOp :=
  [⟨some 18, .indexAddr 25 (.tmp 14) (.tmp 16), 0, none⟩,
   ⟨some 19, .load 35 (.tmp 18), 35, none⟩,
   ⟨some 6, .alloc 35, 0, none⟩,
   ⟨none, .store 35 (.tmp 6) (.tmp 19), 0, none⟩]
def r31_7 : List VOp :=
  [⟨some 20, .move (.tmp 4), 25, none⟩,
   ⟨some 21, .call ⟨.builtin .len, #[.tmp 20], #[25]⟩, 3, none⟩,
   ⟨some 7, .assign (.tmp 21), 3, none⟩]
def r31_8 : List VOp :=
  [⟨some 22, .move (.tmp 7), 3, none⟩,
   ⟨some 23, .binOp .eql 3 (.tmp 22) (.const (.int .i64 0)) 3, 4, none⟩,
   ⟨some 24, .move (.tmp 23), 4, none⟩,
   ⟨some 25, .move (.tmp 4), 25, some (24, false)⟩,
   ⟨some 26, .move (.tmp 7), 3, some (24, false)⟩,
   ⟨some 27, .binOp .sub 3 (.tmp 26) (.const (.int .i64 1)) 3, 3, some (24, false)⟩,
   ⟨some 28, .indexAddr 25 (.tmp 25) (.tmp 27), 0, some (24, false)⟩,
   ⟨some 29, .load 35 (.tmp 28), 35, some (24, false)⟩,
   ⟨some 30, .load 35 (.tmp 6), 35, some (24, false)⟩,
   ⟨some 31, .call ⟨.value (.func 34), #[.tmp 29, .tmp 30], #[35, 35]⟩, 3, some (24, false)⟩,
   ⟨some 32, .binOp .neq 3 (.tmp 31) (.const (.int .i64 0)) 3, 4, some (24, false)⟩,
   ⟨some 33, .pick (.tmp 24) (.const (.bool true)) (.tmp 32), 4, none⟩]
def r31_9 : List VOp :=
  [⟨some 34, .move (.tmp 4), 25, none⟩,
   ⟨some 35, .load 35 (.tmp 6), 35, none⟩,
   ⟨some 36, .buildSlice 25 1 #[(0, (.tmp 35))], 25, none⟩,
   ⟨some 37, .call ⟨.builtin .append, #[.tmp 34, .tmp 36], #[25, 25]⟩, 25, none⟩,
   ⟨some 4, .assign (.tmp 37), 25, none⟩]
def r31_10 : List VOp :=
  [⟨some 39, .move (.tmp 4), 25, none⟩,
   ⟨some 40, .move (.tmp 7), 3, none⟩,
   ⟨some 41, .binOp .sub 3 (.tmp 40) (.const (.int .i64 1)) 3, 3, none⟩,
   ⟨some 42, .indexAddr 25 (.tmp 39) (.tmp 41), 0, none⟩,
   ⟨some 43, .load 35 (.tmp 42), 35, none⟩,
   ⟨some 44, .load 35 (.tmp 6), 35, none⟩,
   ⟨some 45, .call ⟨.value (.func 35), #[.tmp 43, .tmp 44], #[35, 35]⟩, 50, none⟩,
   ⟨some 38, .move (.tmp 45), 50, none⟩,
   ⟨some 46, .extract (.tmp 38) 0, 35, none⟩,
   ⟨some 47, .extract (.tmp 38) 1, 28, none⟩,
   ⟨some 8, .alloc 35, 0, none⟩,
   ⟨none, .store 35 (.tmp 8) (.tmp 46), 0, none⟩,
   ⟨some 9, .assign (.tmp 47), 28, none⟩]
def r31_11 : List VOp :=
  [⟨some 48, .move (.tmp 9), 28, none⟩,
   ⟨some 49, .binOp .neq 28 (.tmp 48) (.const (.int .i64 0)) 28, 4, none⟩]
def r31_12 : List VOp :=
  [⟨some 50, .move (.tmp 9), 28, none⟩,
   ⟨some 2, .assign (.const (.slice none 0 0)), 25, none⟩,
   ⟨some 3, .assign (.tmp 50), 28, none⟩]
def r31_13 : List VOp :=
  [⟨some 51, .move (.tmp 4), 25, none⟩,
   ⟨some 52, .move (.tmp 7), 3, none⟩,
   ⟨some 53, .binOp .sub 3 (.tmp 52) (.const (.int .i64 1)) 3, 3, none⟩,
   ⟨some 54, .load 35 (.tmp 8), 35, none⟩,
   ⟨some 55, .indexAddr 25 (.tmp 51) (.tmp 53), 0, none⟩,
   ⟨none, .store 35 (.tmp 55) (.tmp 54), 0, none⟩]
def r31_14 : List VOp :=
  [⟨some 56, .binOp .add 3 (.tmp 16) (.const (.int .i64 1)) 3, 3, none⟩,
   ⟨some 16, .move (.tmp 56), 3, none⟩]
def r31_15 : List VOp :=
  [⟨some 57, .move (.tmp 4), 25, none⟩,
   ⟨some 2, .assign (.tmp 57), 25, none⟩,
   ⟨some 3, .assign (.const (.int .i64 0)), 28, none⟩]
def B31 : VC :=
  (.seq (.region r31_0) (.seq (.region r31_1) (.seq (.region r31_2) (.seq (.region r31_3) (.seq (.seq (.region r31_4) (.block 0 (.loop (.seq (.region r31_5) (.seq (.cond (.tmp 17) .skip (.exit 0)) (.seq (.block 1 (.seq (.region r31_6) (.seq (.region r31_7) (.seq (.seq (.draw r31_8 4) (.cond (.tmp 33) (.seq (.region r31_9) (.exit 1)) .skip)) (.seq (.drawS r31_10 2 [47]) (.seq (.seq (.region r31_11) (.cond (.tmp 49) (.seq (.region r31_12) .ret) .skip)) (.region r31_13))))))) (.region r31_14))))))) (.seq (.region r31_15) .ret))))))
theorem code31 : ∃ c, Try.f31.body = some c ∧ abs Try.f31.ntmps c = B31 := ⟨_, rfl, by kernel_rfl⟩
theorem hb31 : HasBody Try.prog 31 := hasBody_of Try.func31 (by kernel_rfl)
theorem res31 : Try.f31.results = #[(.tmp 2), (.tmp 3)] := rfl
theorem enter31 {w : World} {R : Value → World → Prop} (x0 : Value) (h : vc Try.prog B31 (retK Try.prog #[(.tmp 2), (.tmp 3)] R) [] (initEnv [x0] 0) w) : FnC Try.prog 31 #[x0] w R := by
  obtain ⟨c, h1, h2⟩ := code31
  exact hb31.fn (ret_of_vc mixed Try.func31 h1 (Nat.le_of_ble_eq_true rfl) B31 h2 h)
@[push_cast] theorem vr31_0 : vc Try.prog (.region r31_0) Q ds σ w = vcOps Try.prog [⟨some 2, .assign (.const (.slice none 0 0)), 25, none⟩, ⟨some 3, .assign (.const (.int .i64 0)), 28, none⟩] (Q .normal ds) σ w := mk_eq rfl
@[push_cast] theorem vr31_1 : vc Try.prog (.region r31_1) Q ds σ w = vcOps Try.prog [⟨some 10, .move (.tmp 0), 25, none⟩, ⟨some 11, .call ⟨.value (.func 30), #[.tmp 10], #[25]⟩, 25, none⟩, ⟨some 0, .assign (.tmp 11), 25, none⟩] (Q .normal ds) σ w := mk_eq rfl
@[push_cast] theorem vr31_2 : vc Try.prog (.region r31_2) Q ds σ w = vcOps Try.prog [⟨some 12, .move (.tmp 0), 25, none⟩, ⟨some 13, .call ⟨.value (.func 70), #[(.tmp 12), (.func 34)], #[25, 58]⟩, 0, none⟩] (Q .normal ds) σ w := mk_eq rfl
@[push_cast] theorem vr31_3 : vc Try.prog (.region r31_3) Q ds σ w = vcOps Try.prog [⟨some 4, .assign (.const (.slice none 0 0)), 25, none⟩] (Q .normal ds) σ w := mk_eq rfl
@[push_cast] theorem vr31_4 : vc Try.prog (.region r31_4) Q ds σ w = vcOps Try.prog [⟨some 14, .move (.tmp 0), 25, none⟩, ⟨some 15, .call ⟨.builtin .len, #[.tmp 14], #[25]⟩, 3, none⟩, ⟨some 16, .move (.const (.int .i64 0)), 3, none⟩] (Q .normal ds) σ w := mk_eq rfl
@[push_cast] theorem vr31_5 : vc Try.prog (.region r31_5) Q ds σ w = vcOps Try.prog [⟨some 17, .binOp .lss 3 (.tmp 16) (.tmp 15) 3, 0, none⟩] (Q .normal ds) σ w := mk_eq rfl
@[push_cast] theorem vr31_6 : vc Try.prog (.region r31_6) Q ds σ w = vcOps Try.prog [⟨some 18, .indexAddr 25 (.tmp 14) (.tmp 16), 0, none⟩, ⟨some 19, .load 35 (.tmp 18), 35, none⟩, ⟨some 6, .alloc 35, 0, none⟩, ⟨none, .store 35 (.tmp 6) (.tmp 19), 0, none⟩] (Q .normal ds) σ w := mk_eq rfl
@[push_cast] theorem vr31_7 : vc Try.prog (.region r31_7) Q ds σ w = vcOps Try.prog [⟨some 20, .move (.tmp 4), 25, none⟩, ⟨some 21, .call ⟨.builtin .len, #[.tmp 20], #[25]⟩, 3, none⟩, ⟨some 7, .assign (.tmp 21), 3, none⟩] (Q .normal ds) σ w := mk_eq rfl
@[push_cast] theorem vr31_8 : vc Try.prog (.draw r31_8 4) Q ds σ w = drawn Try.prog [(⟨some 22, .move (.tmp 7), 3, none⟩, [7]), (⟨some 23, .binOp .eql 3 (.tmp 22) (.const (.int .i64 0)) 3, 4, none⟩, [22]), (⟨some 24, .move (.tmp 23), 4, none⟩, [23]), (⟨some 25, .move (.tmp 4), 25, some (24, false)⟩, [4, 24]), (⟨some 26, .move (.tmp 7), 3, some (24, false)⟩, [7, 24]), (⟨some 27, .binOp .sub 3 (.tmp 26) (.const (.int .i64 1)) 3, 3, some (24, false)⟩, [26, 24]), (⟨some 28, .indexAddr 25 (.tmp 25) (.tmp 27), 0, some (24, false)⟩, [25, 27, 24]), (⟨some 29, .load 35 (.tmp 28), 35, some (24, false)⟩, [28, 24]), (⟨some 30, .load 35 (.tmp 6), 35, some (24, false)⟩, [6, 24]), (⟨some 31, .call ⟨.value (.func 34), #[.tmp 29, .tmp 30], #[35, 35]⟩, 3, some (24, false)⟩, [29, 30, 24]), (⟨some 32, .binOp .neq 3 (.tmp 31) (.const (.int .i64 0)) 3, 4, some (24, false)⟩, [31, 24]), (⟨some 33, .pick (.tmp 24) (.const (.bool true)) (.tmp 32), 4, none⟩, [24, 32])] 4 (Q .normal ds) σ w := mk_eq rfl
@[push_cast] theorem vr31_9 : vc Try.prog (.region r31_9) Q ds σ w = vcOps Try.prog [⟨some 34, .move (.tmp 4), 25, none⟩, ⟨some 35, .load 35 (.tmp 6), 35, none⟩, ⟨some 36, .buildSlice 25 1 #[(0, (.tmp 35))], 25, none⟩, ⟨some 37, .call ⟨.builtin .append, #[.tmp 34, .tmp 36], #[25, 25]⟩, 25, none⟩, ⟨some 4, .assign (.tmp 37), 25, none⟩] (Q .normal ds) σ w := mk_eq rfl
@[push_cast] theorem vr31_10 : vc Try.prog (.drawS r31_10 2 [47]) Q ds σ w = drawnS Try.prog [(⟨some 39, .move (.tmp 4), 25, none⟩, [4]), (⟨some 40, .move (.tmp 7), 3, none⟩, [7]), (⟨some 41, .binOp .sub 3 (.tmp 40) (.const (.int .i64 1)) 3, 3, none⟩, [40]), (⟨some 42, .indexAddr 25 (.tmp 39) (.tmp 41), 0, none⟩, [39, 41]), (⟨some 43, .load 35 (.tmp 42), 35, none⟩, [42]), (⟨some 44, .load 35 (.tmp 6), 35, none⟩, [6]), (⟨some 45, .call ⟨.value (.func 35), #[.tmp 43, .tmp 44], #[35, 35]⟩, 50, none⟩, [43, 44]), (⟨some 38, .move (.tmp 45), 50, none⟩, [45]), (⟨some 46, .extract (.tmp 38) 0, 35, none⟩, [38]), (⟨some 47, .extract (.tmp 38) 1, 28, none⟩, [38]), (⟨some 8, .alloc 35, 0, none⟩, []), (⟨none, .store 35 (.tmp 8) (.tmp 46), 0, none⟩, [8, 46]), (⟨some 9, .assign (.tmp 47), 28, none⟩, [47])] 2 [47] (Q .normal ds) σ w := mk_eq rfl
@[push_cast] theorem vr31_11 : vc Try.prog (.region r31_11) Q ds σ w = vcOps Try.prog [⟨some 48, .move (.tmp 9), 28, none⟩, ⟨some 49, .binOp .neq 28 (.tmp 48) (.const (.int .i64 0)) 28, 4, none⟩] (Q .normal ds) σ w := mk_eq rfl
@[push_cast] theorem vr31_12 : vc Try.prog (.region r31_12) Q ds σ w = vcOps Try.prog [⟨some 50, .move (.tmp 9), 28, none⟩, ⟨some 2, .assign (.const (.slice none 0 0)), 25, none⟩, ⟨some 3, .assign (.tmp 50), 28, none⟩] (Q .normal ds) σ w := mk_eq rfl
@[push_cast] theorem vr31_13 : vc Try.prog (.region r31_13) Q ds σ w = vcOps Try.prog [⟨some 51, .move (.tmp 4), 25, none⟩, ⟨some 52, .move (.tmp 7), 3, none⟩, ⟨some 53, .binOp .sub 3 (.tmp 52) (.const (.int .i64 1)) 3, 3, none⟩, ⟨some 54, .load 35 (.tmp 8), 35, none⟩, ⟨some 55, .indexAddr 25 (.tmp 51) (.tmp 53), 0, none⟩, ⟨none, .store 35 (.tmp 55) (.tmp 54), 0, none⟩] (Q .normal ds) σ w := mk_eq rfl
@[push_cast] theorem vr31_14 : vc Try.prog (.region r31_14) Q ds σ w = vcOps Try.prog [⟨some 56, .binOp .add 3 (.tmp 16) (.const (.int .i64 1)) 3, 3, none⟩, ⟨some 16, .move (.tmp 56), 3, none⟩] (Q .normal ds) σ w := mk_eq rfl
@[push_cast] theorem vr31_15 : vc Try.prog (.region r31_15) Q ds σ w = vcOps Try.prog [⟨some 57, .move (.tmp 4), 25, none⟩, ⟨some 2, .assign (.tmp 57), 25, none⟩, ⟨some 3, .assign (.const (.int .i64 0)), 28, none⟩] (Q .normal ds) σ w := mk_eq rfl
/-! 32 columbary/rows.Sorted (params #[25], results #[(.tmp 2)], 25 slots) -/
def W32_0 : List Nat := [2, 3, 6, 7, 8, 9, 10, 11, 12, 13, 14, 15, 16, 17, 18, 19, 20, 21, 22, 23, 24]
@[push_cast] theorem W32_0_def : W32_0 = [2, 3, 6, 7, 8, 9, 10, 11, 12, 13, 14, 15, 16, 17, 18, 19, 20, 21, 22, 23, 24] := mk_eq rfl
def r32_0 : List VOp :=
  [⟨some 2, .assign (.const (.bool false)), 4, none⟩]
def r32_1 : List VOp :=
  [⟨some 4, .move (.tmp 0), 25, none⟩,
   ⟨some 5, .call ⟨.builtin .len, #[.tmp 4], #[25]⟩, 3, none⟩,
   ⟨some 6, .move (.const (.int .i64 0)), 3, none⟩]
def r32_2 : List VOp :=
  [⟨some 7, .binOp .lss 3 (.tmp 6) (.tmp 5) 3, 0, none⟩]
def r32_3 : List VOp :=
  [⟨some 8, .move (.tmp 6), 3, none⟩,
   ⟨some 3, .assign (.tmp 8), 3, none⟩]
def r32_4 : List VOp :=
  [⟨some 9, .move (.tmp 3), 3, none⟩,
   ⟨some 10, .binOp .gtr 3 (.tmp 9) (.const (.int .i64 0)) 3, 4, none⟩,
   ⟨some 11, .move (.tmp 10), 4, none⟩,
   ⟨some 12, .move (.tmp 0), 25, some (11, true)⟩,
   ⟨some 13, .move (.tmp 3), 3, some (11, true)⟩,
   ⟨some 14, .binOp .sub 3 (.tmp 13) (.const (.int .i64 1)) 3, 3, some (11, true)⟩,
   ⟨some 15, .indexAddr 25 (.tmp 12) (.tmp 14), 0, some (11, true)⟩,
   ⟨some 16, .load 35 (.tmp 15), 35, some (11, true)⟩,
   ⟨some 17, .move (.tmp 0), 25, some (11, true)⟩,
   ⟨some 18, .move (.tmp 3), 3, some (11, true)⟩,
   ⟨some 19, .indexAddr 25 (.tmp 17) (.tmp 18), 0, some (11, true)⟩,
   ⟨some 20, .load 35 (.tmp 19), 35, some (11, true)⟩,
   ⟨some 21, .call ⟨.value (.func 34), #[.tmp 16, .tmp 20], #[35, 35]⟩, 3, some (11, true)⟩,
   ⟨some 22, .binOp .geq 3 (.tmp 21) (.const (.int .i64 0)) 3, 4, some (11, true)⟩,
   ⟨some 23, .pick (.tmp 11) (.tmp 22) (.const (.bool false)), 4, none⟩]
def r32_5 : List VOp :=
  [⟨some 2, .assign (.const (.bool false)), 4, none⟩]
def r32_6 : List VOp :=
  [⟨some 24, .binOp .add 3 (.tmp 6) (.const (.int .i64 1)) 3, 3, none⟩,
   ⟨some 6, .move (.tmp 24), 3, none⟩]
def r32_7 : List VOp :=
  [⟨some 2, .assign (.const (.bool true)), 4, none⟩]
def B32 : VC :=
  (.seq (.region r32_0) (.seq (.seq (.region r32_1) (.block 0 (.loop (.seq (.region r32_2) (.seq (.cond (.tmp 7) .skip (.exit 0)) (.seq (.block 1 (.seq (.region r32_3) (.seq (.draw r32_4 4) (.cond (.tmp 23) (.seq (.region r32_5) .ret) .skip)))) (.region r32_6))))))) (.seq (.region r32_7) .ret)))
theorem code32 : ∃ c, Try.f32.body = some c ∧ abs Try.f32.ntmps c = B32 := ⟨_, rfl, by kernel_rfl⟩
theorem hb32 : HasBody Try.prog 32 := hasBody_of Try.func32 (by kernel_rfl)
theorem res32 : Try.f32.results = #[(.tmp 2)] := rfl
theorem enter32 {w : World} {R : Value → World → Prop} (x0 : Value) (h : vc Try.prog B32 (retK Try.prog #[(.tmp 2)] R) [] (initEnv [x0] 0) w) : FnC Try.prog 32 #[x0] w R := by
  obtain ⟨c, h1, h2⟩ := code32
  exact hb32.fn (ret_of_vc mixed Try.func32 h1 (Nat.le_of_ble_eq_true rfl) B32 h2 h)
@[push_cast] theorem vr32_0 : vc Try.prog (.region r32_0) Q ds σ w = vcOps Try.prog [⟨some 2, .assign (.const (.bool false)), 4, none⟩] (Q .normal ds) σ w := mk_eq rfl
@[push_cast] theorem vr32_1 : vc Try.prog (.region r32_1) Q ds σ w = vcOps Try.prog [⟨some 4, .move (.tmp 0), 25, none⟩, ⟨some 5, .call ⟨.builtin .len, #[.tmp 4], #[25]⟩, 3, none⟩, ⟨some 6, .move (.const (.int .i64 0)), 3, none⟩] (Q .normal ds) σ w := mk_eq rfl
@[push_cast] theorem vr32_2 : vc Try.prog (.region r32_2) Q ds σ w = vcOps Try.prog [⟨some 7, .binOp .lss 3 (.tmp 6) (.tmp 5) 3, 0, none⟩] (Q .normal ds) σ w := mk_eq rfl
@[push_cast] theorem vr32_3 : vc Try.prog (.region r32_3) Q ds σ w = vcOps Try.prog [⟨some 8, .move (.tmp 6), 3, none⟩, ⟨some 3, .assign (.tmp 8), 3, none⟩] (Q .normal ds) σ w := mk_eq rfl
@[push_cast] theorem vr32_4 : vc Try.prog (.draw r32_4 4) Q ds σ w = drawn Try.prog [(⟨some 9, .move (.tmp 3), 3, none⟩, [3]), (⟨some 10, .binOp .gtr 3 (.tmp 9) (.const (.int .i64 0)) 3, 4, none⟩, [9]), (⟨some 11, .move (.tmp 10), 4, none⟩, [10]), (⟨some 12, .move (.tmp 0), 25, some (11, true)⟩, [0, 11]), (⟨some 13, .move (.tmp 3), 3, some (11, true)⟩, [3, 11]), (⟨some 14, .binOp .sub 3 (.tmp 13) (.const (.int .i64 1)) 3, 3, some (11, true)⟩, [13, 11]), (⟨some 15, .indexAddr 25 (.tmp 12) (.tmp 14), 0, some (11, true)⟩, [12, 14, 11]), (⟨some 16, .load 35 (.tmp 15), 35, some (11, true)⟩, [15, 11]), (⟨some 17, .move (.tmp 0), 25, some (11, true)⟩, [0, 11]), (⟨some 18, .move (.tmp 3), 3, some (11, true)⟩, [3, 11]), (⟨some 19, .indexAddr 25 (.tmp 17) (.tmp 18), 0, some (11, true)⟩, [17, 18, 11]), (⟨some 20, .load 35 (.tmp 19), 35, some (11, true)⟩, [19, 11]), (⟨some 21, .call ⟨.value (.func 34), #[.tmp 16, .tmp 20], #[35, 35]⟩, 3, some (11, true)⟩, [16, 20, 11]), (⟨some 22, .binOp .geq 3 (.tmp 21) (.const (.int .i64 0)) 3, 4, some (11, true)⟩, [21, 11]), (⟨some 23, .pick (.tmp 11) (.tmp 22) (.const (.bool false)), 4, none⟩, [11, 22])] 4 (Q .normal ds) σ w := mk_eq rfl
@[push_cast] theorem vr32_5 : vc Try.prog (.region r32_5) Q ds σ w = vcOps Try.prog [⟨some 2, .assign (.const (.bool false)), 4, none⟩] (Q .normal ds) σ w := mk_eq rfl
@[push_cast] theorem vr32_6 : vc Try.prog (.region r32_6) Q ds σ w = vcOps Try.prog [⟨some 24, .binOp .add 3 (.tmp 6) (.const (.int .i64 1)) 3, 3, none⟩, ⟨some 6, .move (.tmp 24), 3, none⟩] (Q .normal ds) σ w := mk_eq rfl
@[push_cast] theorem vr32_7 : vc Try.prog (.region r32_7) Q ds σ w = vcOps Try.prog [⟨some 2, .assign (.const (.bool true)), 4, none⟩] (Q .normal ds) σ w := mk_eq rfl
/-! 34 columbary/rows.Compare (params #[35, 35], results #[(.tmp 4)], 17 slots) -/
def r34_0 : List VOp :=
  [⟨some 2, .box 35 (.tmp 0), 0, none⟩,
   ⟨some 3, .box 35 (.tmp 1), 0, none⟩,
   ⟨some 4, .assign (.const (.int .i64 0)), 3, none⟩]
def r34_1 : List VOp :=
  [⟨some 5, .fieldAddr 35 (.tmp 2) 0, 0, none⟩,
   ⟨some 6, .load 3 (.tmp 5), 3, none⟩,
   ⟨some 7, .fieldAddr 35 (.tmp 3) 0, 0, none⟩,
   ⟨some 8, .load 3 (.tmp 7), 3, none⟩,
   ⟨some 9, .call ⟨.value (.func 72), #[.tmp 6, .tmp 8], #[3, 3]⟩, 3, none⟩,
   ⟨some 10, .fieldAddr 35 (.tmp 2) 1, 0, none⟩,
   ⟨some 11, .load 22 (.tmp 10), 22, none⟩,
   ⟨some 12, .fieldAddr 35 (.tmp 3) 1, 0, none⟩,
   ⟨some 13, .load 22 (.tmp 12), 22, none⟩,
   ⟨some 14, .call ⟨.value (.func 73), #[.tmp 11, .tmp 13], #[22, 22]⟩, 3, none⟩,
   ⟨some 15, .buildSlice 47 2 #[(0, (.tmp 9)), (1, (.tmp 14))], 47, none⟩,
   ⟨some 16, .call ⟨.value (.func 71), #[.tmp 15], #[47]⟩, 3, none⟩,
   ⟨some 4, .assign (.tmp 16), 3, none⟩]
def B34 : VC :=
  (.seq (.region r34_0) (.seq (.draw r34_1 5) .ret))
theorem code34 : ∃ c, Try.f34.body = some c ∧ abs Try.f34.ntmps c = B34 := ⟨_, rfl, by kernel_rfl⟩
theorem hb34 : HasBody Try.prog 34 := hasBody_of Try.func34 (by kernel_rfl)
theorem res34 : Try.f34.results = #[(.tmp 4)] := rfl
theorem enter34 {w : World} {R : Value → World → Prop} (x0 x1 : Value) (h : vc Try.prog B34 (retK Try.prog #[(.tmp 4)] R) [] (initEnv [x0, x1] 0) w) : FnC Try.prog 34 #[x0, x1] w R := by
  obtain ⟨c, h1, h2⟩ := code34
  exact hb34.fn (ret_of_vc mixed Try.func34 h1 (Nat.le_of_ble_eq_true rfl) B34 h2 h)
@[push_cast] theorem vr34_0 : vc Try.prog (.region r34_0) Q ds σ w = vcOps Try.prog [⟨some 2, .box 35 (.tmp 0), 0, none⟩, ⟨some 3, .box 35 (.tmp 1), 0, none⟩, ⟨some 4, .assign (.const (.int .i64 0)), 3, none⟩] (Q .normal ds) σ w := mk_eq rfl
@[push_cast] theorem vr34_1 : vc Try.prog (.draw r34_1 5) Q ds σ w = drawn Try.prog [(⟨some 5, .fieldAddr 35 (.tmp 2) 0, 0, none⟩, [2]), (⟨some 6, .load 3 (.tmp 5), 3, none⟩, [5]), (⟨some 7, .fieldAddr 35 (.tmp 3) 0, 0, none⟩, [3]), (⟨some 8, .load 3 (.tmp 7), 3, none⟩, [7]), (⟨some 9, .call ⟨.value (.func 72), #[.tmp 6, .tmp 8], #[3, 3]⟩, 3, none⟩, [6, 8]), (⟨some 10, .fieldAddr 35 (.tmp 2) 1, 0, none⟩, [2]), (⟨some 11, .load 22 (.tmp 10), 22, none⟩, [10]), (⟨some 12, .fieldAddr 35 (.tmp 3) 1, 0, none⟩, [3]), (⟨some 13, .load 22 (.tmp 12), 22, none⟩, [12]), (⟨some 14, .call ⟨.value (.func 73), #[.tmp 11, .tmp 13], #[22, 22]⟩, 3, none⟩, [11, 13]), (⟨some 15, .buildSlice 47 2 #[(0, (.tmp 9)), (1, (.tmp 14))], 47, none⟩, [9, 14]), (⟨some 16, .call ⟨.value (.func 71), #[.tmp 15], #[47]⟩, 3, none⟩, [15]), (⟨some 4, .assign (.tmp 16), 3, none⟩, [16])] 5 (Q .normal ds) σ w := mk_eq rfl
/-! 35 columbary/rows.Join (params #[35, 35], results #[(.cell 4 35), (.tmp 5)], 74 slots) -/
def W35_0 : List Nat := [5, 7, 8, 9, 10, 48, 49, 50, 51, 52, 53, 54, 55, 56, 57, 58, 59, 60, 61, 62, 63, 64, 65, 66, 67, 68, 69, 70, 71, 72]
@[push_cast] theorem W35_0_def : W35_0 = [5, 7, 8, 9, 10, 48, 49, 50, 51, 52, 53, 54, 55, 56, 57, 58, 59, 60, 61, 62, 63, 64, 65, 66, 67, 68, 69, 70, 71, 72] := mk_eq rfl
def r35_0 : List VOp :=
  [⟨some 2, .box 35 (.tmp 0), 0, none⟩,
   ⟨some 3, .box 35 (.tmp 1), 0, none⟩,
   ⟨some 4, .alloc 35, 0, none⟩,
   ⟨some 5, .assign (.const (.int .i64 0)), 28, none⟩]
def r35_1 : List VOp :=
  [⟨some 12, .load 35 (.tmp 2), 35, none⟩,
   ⟨some 13, .load 35 (.tmp 3), 35, none⟩,
   ⟨some 14, .call ⟨.value (.func 34), #[.tmp 12, .tmp 13], #[35, 35]⟩, 3, none⟩,
   ⟨some 15, .binOp .neq 3 (.tmp 14) (.const (.int .i64 0)) 3, 4, none⟩,
   ⟨some 16, .move (.tmp 15), 4, none⟩,
   ⟨some 17, .fieldAddr 35 (.tmp 2) 3, 0, some (16, false)⟩,
   ⟨some 18, .load 33 (.tmp 17), 33, some (16, false)⟩,
   ⟨some 19, .call ⟨.builtin .len, #[.tmp 18], #[33]⟩, 3, some (16, false)⟩,
   ⟨some 20, .fieldAddr 35 (.tmp 3) 3, 0, some (16, false)⟩,
   ⟨some 21, .load 33 (.tmp 20), 33, some (16, false)⟩,
   ⟨some 22, .call ⟨.builtin .len, #[.tmp 21], #[33]⟩, 3, some (16, false)⟩,
   ⟨some 23, .binOp .neq 3 (.tmp 19) (.tmp 22) 3, 4, some (16, false)⟩,
   ⟨some 24, .pick (.tmp 16) (.const (.bool true)) (.tmp 23), 4, none⟩,
   ⟨some 11, .assign (.tmp 24), 4, none⟩]
def r35_2 : List VOp :=
  [⟨some 25, .build 35 #[], 35, none⟩,
   ⟨none, .store 35 (.tmp 4) (.tmp 25), 0, none⟩,
   ⟨some 5, .assign (.const (.int .i64 131)), 28, none⟩]
def r35_3 : List VOp :=
  [⟨some 27, .fieldAddr 35 (.tmp 2) 2, 0, none⟩,
   ⟨some 28, .load 3 (.tmp 27), 3, none⟩,
   ⟨some 29, .fieldAddr 35 (.tmp 3) 2, 0, none⟩,
   ⟨some 30, .load 3 (.tmp 29), 3, none⟩,
   ⟨some 31, .binOp .add 3 (.tmp 28) (.tmp 30) 3, 3, none⟩,
   ⟨some 32, .binOp .gtr 3 (.tmp 31) (.const (.int .i64 1048576)) 3, 4, none⟩,
   ⟨some 26, .assign (.tmp 32), 4, none⟩]
def r35_4 : List VOp :=
  [⟨some 33, .build 35 #[], 35, none⟩,
   ⟨none, .store 35 (.tmp 4) (.tmp 33), 0, none⟩,
   ⟨some 5, .assign (.const (.int .i64 121)), 28, none⟩]
def r35_5 : List VOp :=
  [⟨some 34, .fieldAddr 35 (.tmp 2) 0, 0, none⟩,
   ⟨some 35, .load 3 (.tmp 34), 3, none⟩,
   ⟨some 36, .fieldAddr 35 (.tmp 2) 1, 0, none⟩,
   ⟨some 37, .load 22 (.tmp 36), 22, none⟩,
   ⟨some 38, .call ⟨.value (.func 52), #[.tmp 37], #[22]⟩, 22, none⟩,
   ⟨some 39, .fieldAddr 35 (.tmp 2) 2, 0, none⟩,
   ⟨some 40, .load 3 (.tmp 39), 3, none⟩,
   ⟨some 41, .fieldAddr 35 (.tmp 3) 2, 0, none⟩,
   ⟨some 42, .load 3 (.tmp 41), 3, none⟩,
   ⟨some 43, .binOp .add 3 (.tmp 40) (.tmp 42) 3, 3, none⟩,
   ⟨some 44, .build 35 #[(0, (.tmp 35)), (1, (.tmp 38)), (2, (.tmp 43))], 35, none⟩,
   ⟨some 6, .alloc 35, 0, none⟩,
   ⟨none, .store 35 (.tmp 6) (.tmp 44), 0, none⟩]
def r35_6 : List VOp :=
  [⟨some 45, .fieldAddr 35 (.tmp 2) 3, 0, none⟩,
   ⟨some 46, .load 33 (.tmp 45), 33, none⟩,
   ⟨some 47, .call ⟨.builtin .len, #[.tmp 46], #[33]⟩, 3, none⟩,
   ⟨some 48, .move (.const (.int .i64 0)), 3, none⟩]
def r35_7 : List VOp :=
  [⟨some 49, .binOp .lss 3 (.tmp 48) (.tmp 47) 3, 0, none⟩]
def r35_8 : List VOp :=
  [⟨some 50, .move (.tmp 48), 3, none⟩,
   ⟨some 51, .indexAddr 33 (.tmp 46) (.tmp 48), 0, none⟩,
   ⟨some 52, .load 64 (.tmp 51), 64, none⟩,
   ⟨some 8, .alloc 64, 0, none⟩,
   ⟨some 7, .assign (.tmp 50), 3, none⟩,
   ⟨none, .store 64 (.tmp 8) (.tmp 52), 0, none⟩]
def r35_9 : List VOp :=
  [⟨some 54, .load 64 (.tmp 8), 64, none⟩,
   ⟨some 55, .fieldAddr 35 (.tmp 3) 3, 0, none⟩,
   ⟨some 56, .load 33 (.tmp 55), 33, none⟩,
   ⟨some 57, .move (.tmp 7), 3, none⟩,
   ⟨some 58, .indexAddr 33 (.tmp 56) (.tmp 57), 0, none⟩,
   ⟨some 59, .load 64 (.tmp 58), 64, none⟩,
   ⟨some 60, .call ⟨.value (.func 74), #[.tmp 54, .tmp 59], #[64, 64]⟩, 78, none⟩,
   ⟨some 53, .move (.tmp 60), 78, none⟩,
   ⟨some 61, .extract (.tmp 53) 0, 64, none⟩,
   ⟨some 62, .extract (.tmp 53) 1, 28, none⟩,
   ⟨some 9, .alloc 64, 0, none⟩,
   ⟨none, .store 64 (.tmp 9) (.tmp 61), 0, none⟩,
   ⟨some 10, .assign (.tmp 62), 28, none⟩]
def r35_10 : List VOp :=
  [⟨some 63, .move (.tmp 10), 28, none⟩,
   ⟨some 64, .binOp .neq 28 (.tmp 63) (.const (.int .i64 0)) 28, 4, none⟩]
def r35_11 : List VOp :=
  [⟨some 65, .build 35 #[], 35, none⟩,
   ⟨none, .store 35 (.tmp 4) (.tmp 65), 0, none⟩,
   ⟨some 5, .assign (.const (.int .i64 121)), 28, none⟩]
def r35_12 : List VOp :=
  [⟨some 66, .fieldAddr 35 (.tmp 6) 3, 0, none⟩,
   ⟨some 67, .load 33 (.tmp 66), 33, none⟩,
   ⟨some 68, .load 64 (.tmp 9), 64, none⟩,
   ⟨some 69, .buildSlice 33 1 #[(0, (.tmp 68))], 33, none⟩,
   ⟨some 70, .call ⟨.builtin .append, #[.tmp 67, .tmp 69], #[33, 33]⟩, 33, none⟩,
   ⟨some 71, .fieldAddr 35 (.tmp 6) 3, 0, none⟩,
   ⟨none, .store 33 (.tmp 71) (.tmp 70), 0, none⟩]
def r35_13 : List VOp :=
  [⟨some 72, .binOp .add 3 (.tmp 48) (.const (.int .i64 1)) 3, 3, none⟩,
   ⟨some 48, .move (.tmp 72), 3, none⟩]
def r35_14 : List VOp :=
  [⟨some 73, .load 35 (.tmp 6), 35, none⟩,
   ⟨none, .store 35 (.tmp 4) (.tmp 73), 0, none⟩,
   ⟨some 5, .assign (.const (.int .i64 0)), 28, none⟩]
def B35 : VC :=
  (.seq (.region r35_0) (.seq (.block 0 (.seq (.region r35_1) (.cond (.tmp 11) (.seq (.region r35_2) .ret) (.seq (.region r35_3) (.cond (.tmp 26) (.seq (.region r35_4) .ret) .skip))))) (.seq (.draw r35_5 2) (.seq (.seq (.region r35_6) (.block 1 (.loop (.seq (.region r35_7) (.seq (.cond (.tmp 49) .skip (.exit 1)) (.seq (.block 2 (.seq (.region r35_8) (.seq (.drawS r35_9 2 [62]) (.seq (.seq (.region r35_10) (.cond (.tmp 64) (.seq (.region r35_11) .ret) .skip)) (.region r35_12))))) (.region r35_13))))))) (.seq (.region r35_14) .ret)))))
theorem code35 : ∃ c, Try.f35.body = some c ∧ abs Try.f35.ntmps c = B35 := ⟨_, rfl, by kernel_rfl⟩
theorem hb35 : HasBody Try.prog 35 := hasBody_of Try.func35 (by kernel_rfl)
theorem res35 : Try.f35.results = #[(.cell 4 35), (.tmp 5)] := rfl
theorem enter35 {w : World} {R : Value → World → Prop} (x0 x1 : Value) (h : vc Try.prog B35 (retK Try.prog #[(.cell 4 35), (.tmp 5)] R) [] (initEnv [x0, x1] 0) w) : FnC Try.prog 35 #[x0, x1] w R := by
  obtain ⟨c, h1, h2⟩ := code35
  exact hb35.fn (ret_of_vc mixed Try.func35 h1 (Nat.le_of_ble_eq_true rfl) B35 h2 h)
@[push_cast] theorem vr35_0 : vc Try.prog (.region r35_0) Q ds σ w = vcOps Try.prog [⟨some 2, .box 35 (.tmp 0), 0, none⟩, ⟨some 3, .box 35 (.tmp 1), 0, none⟩, ⟨some 4, .alloc 35, 0, none⟩, ⟨some 5, .assign (.const (.int .i64 0)), 28, none⟩] (Q .normal ds) σ w := mk_eq rfl
@[push_cast] theorem vr35_1 : vc Try.prog (.region r35_1) Q ds σ w = vcOps Try.prog [⟨some 12, .load 35 (.tmp 2), 35, none⟩, ⟨some 13, .load 35 (.tmp 3), 35, none⟩, ⟨some 14, .call ⟨.value (.func 34), #[.tmp 12, .tmp 13], #[35, 35]⟩, 3, none⟩, ⟨some 15, .binOp .neq 3 (.tmp 14) (.const (.int .i64 0)) 3, 4, none⟩, ⟨some 16, .move (.tmp 15), 4, none⟩, ⟨some 17, .fieldAddr 35 (.tmp 2) 3, 0, some (16, false)⟩, ⟨some 18, .load 33 (.tmp 17), 33, some (16, false)⟩, ⟨some 19, .call ⟨.builtin .len, #[.tmp 18], #[33]⟩, 3, some (16, false)⟩, ⟨some 20, .fieldAddr 35 (.tmp 3) 3, 0, some (16, false)⟩, ⟨some 21, .load 33 (.tmp 20), 33, some (16, false)⟩, ⟨some 22, .call ⟨.builtin .len, #[.tmp 21], #[33]⟩, 3, some (16, false)⟩, ⟨some 23, .binOp .neq 3 (.tmp 19) (.tmp 22) 3, 4, some (16, false)⟩, ⟨some 24, .pick (.tmp 16) (.const (.bool true)) (.tmp 23), 4, none⟩, ⟨some 11, .assign (.tmp 24), 4, none⟩] (Q .normal ds) σ w := mk_eq rfl
@[push_cast] theorem vr35_2 : vc Try.prog (.region r35_2) Q ds σ w = vcOps Try.prog [⟨some 25, .build 35 #[], 35, none⟩, ⟨none, .store 35 (.tmp 4) (.tmp 25), 0, none⟩, ⟨some 5, .assign (.const (.int .i64 131)), 28, none⟩] (Q .normal ds) σ w := mk_eq rfl
@[push_cast] theorem vr35_3 : vc Try.prog (.region r35_3) Q ds σ w = vcOps Try.prog [⟨some 27, .fieldAddr 35 (.tmp 2) 2, 0, none⟩, ⟨some 28, .load 3 (.tmp 27), 3, none⟩, ⟨some 29, .fieldAddr 35 (.tmp 3) 2, 0, none⟩, ⟨some 30, .load 3 (.tmp 29), 3, none⟩, ⟨some 31, .binOp .add 3 (.tmp 28) (.tmp 30) 3, 3, none⟩, ⟨some 32, .binOp .gtr 3 (.tmp 31) (.const (.int .i64 1048576)) 3, 4, none⟩, ⟨some 26, .assign (.tmp 32), 4, none⟩] (Q .normal ds) σ w := mk_eq rfl
@[push_cast] theorem vr35_4 : vc Try.prog (.region r35_4) Q ds σ w = vcOps Try.prog [⟨some 33, .build 35 #[], 35, none⟩, ⟨none, .store 35 (.tmp 4) (.tmp 33), 0, none⟩, ⟨some 5, .assign (.const (.int .i64 121)), 28, none⟩] (Q .normal ds) σ w := mk_eq rfl
@[push_cast] theorem vr35_5 : vc Try.prog (.draw r35_5 2) Q ds σ w = drawn Try.prog [(⟨some 34, .fieldAddr 35 (.tmp 2) 0, 0, none⟩, [2]), (⟨some 35, .load 3 (.tmp 34), 3, none⟩, [34]), (⟨some 36, .fieldAddr 35 (.tmp 2) 1, 0, none⟩, [2]), (⟨some 37, .load 22 (.tmp 36), 22, none⟩, [36]), (⟨some 38, .call ⟨.value (.func 52), #[.tmp 37], #[22]⟩, 22, none⟩, [37]), (⟨some 39, .fieldAddr 35 (.tmp 2) 2, 0, none⟩, [2]), (⟨some 40, .load 3 (.tmp 39), 3, none⟩, [39]), (⟨some 41, .fieldAddr 35 (.tmp 3) 2, 0, none⟩, [3]), (⟨some 42, .load 3 (.tmp 41), 3, none⟩, [41]), (⟨some 43, .binOp .add 3 (.tmp 40) (.tmp 42) 3, 3, none⟩, [40, 42]), (⟨some 44, .build 35 #[(0, (.tmp 35)), (1, (.tmp 38)), (2, (.tmp 43))], 35, none⟩, [35, 38, 43]), (⟨some 6, .alloc 35, 0, none⟩, []), (⟨none, .store 35 (.tmp 6) (.tmp 44), 0, none⟩, [6, 44])] 2 (Q .normal ds) σ w := mk_eq rfl
@[push_cast] theorem vr35_6 : vc Try.prog (.region r35_6) Q ds σ w = vcOps Try.prog [⟨some 45, .fieldAddr 35 (.tmp 2) 3, 0, none⟩, ⟨some 46, .load 33 (.tmp 45), 33, none⟩, ⟨some 47, .call ⟨.builtin .len, #[.tmp 46], #[33]⟩, 3, none⟩, ⟨some 48, .move (.const (.int .i64 0)), 3, none⟩] (Q .normal ds) σ w := mk_eq rfl
@[push_cast] theorem vr35_7 : vc Try.prog (.region r35_7) Q ds σ w = vcOps Try.prog [⟨some 49, .binOp .lss 3 (.tmp 48) (.tmp 47) 3, 0, none⟩] (Q .normal ds) σ w := mk_eq rfl
@[push_cast] theorem vr35_8 : vc Try.prog (.region r35_8) Q ds σ w = vcOps Try.prog [⟨some 50, .move (.tmp 48), 3, none⟩, ⟨some 51, .indexAddr 33 (.tmp 46) (.tmp 48), 0, none⟩, ⟨some 52, .load 64 (.tmp 51), 64, none⟩, ⟨some 8, .alloc 64, 0, none⟩, ⟨some 7, .assign (.tmp 50), 3, none⟩, ⟨none, .store 64 (.tmp 8) (.tmp 52), 0, none⟩] (Q .normal ds) σ w := mk_eq rfl
@[push_cast] theorem vr35_9 : vc Try.prog (.drawS r35_9 2 [62]) Q ds σ w = drawnS Try.prog [(⟨some 54, .load 64 (.tmp 8), 64, none⟩, [8]), (⟨some 55, .fieldAddr 35 (.tmp 3) 3, 0, none⟩, [3]), (⟨some 56, .load 33 (.tmp 55), 33, none⟩, [55]), (⟨some 57, .move (.tmp 7), 3, none⟩, [7]), (⟨some 58, .indexAddr 33 (.tmp 56) (.tmp 57), 0, none⟩, [56, 57]), (⟨some 59, .load 64 (.tmp 58), 64, none⟩, [58]), (⟨some 60, .call ⟨.value (.func 74), #[.tmp 54, .tmp 59], #[64, 64]⟩, 78, none⟩, [54, 59]), (⟨some 53, .move (.tmp 60), 78, none⟩, [60]), (⟨some 61, .extract (.tmp 53) 0, 64, none⟩, [53]), (⟨some 62, .extract (.tmp 53) 1, 28, none⟩, [53]), (⟨some 9, .alloc 64, 0, none⟩, []), (⟨none, .store 64 (.tmp 9) (.tmp 61), 0, none⟩, [9, 61]), (⟨some 10, .assign (.tmp 62), 28, none⟩, [62])] 2 [62] (Q .normal ds) σ w := mk_eq rfl
@[push_cast] theorem vr35_10 : vc Try.prog (.region r35_10) Q ds σ w = vcOps Try.prog [⟨some 63, .move (.tmp 10), 28, none⟩, ⟨some 64, .binOp .neq 28 (.tmp 63) (.const (.int .i64 0)) 28, 4, none⟩] (Q .normal ds) σ w := mk_eq rfl
@[push_cast] theorem vr35_11 : vc Try.prog (.region r35_11) Q ds σ w = vcOps Try.prog [⟨some 65, .build 35 #[], 35, none⟩, ⟨none, .store 35 (.tmp 4) (.tmp 65), 0, none⟩, ⟨some 5, .assign (.const (.int .i64 121)), 28, none⟩] (Q .normal ds) σ w := mk_eq rfl
@[push_cast] theorem vr35_12 : vc Try.prog (.region r35_12) Q ds σ w = vcOps Try.prog [⟨some 66, .fieldAddr 35 (.tmp 6) 3, 0, none⟩, ⟨some 67, .load 33 (.tmp 66), 33, none⟩, ⟨some 68, .load 64 (.tmp 9), 64, none⟩, ⟨some 69, .buildSlice 33 1 #[(0, (.tmp 68))], 33, none⟩, ⟨some 70, .call ⟨.builtin .append, #[.tmp 67, .tmp 69], #[33, 33]⟩, 33, none⟩, ⟨some 71, .fieldAddr 35 (.tmp 6) 3, 0, none⟩, ⟨none, .store 33 (.tmp 71) (.tmp 70), 0, none⟩] (Q .normal ds) σ w := mk_eq rfl
@[push_cast] theorem vr35_13 : vc Try.prog (.region r35_13) Q ds σ w = vcOps Try.prog [⟨some 72, .binOp .add 3 (.tmp 48) (.const (.int .i64 1)) 3, 3, none⟩, ⟨some 48, .move (.tmp 72), 3, none⟩] (Q .normal ds) σ w := mk_eq rfl
@[push_cast] theorem vr35_14 : vc Try.prog (.region r35_14) Q ds σ w = vcOps Try.prog [⟨some 73, .load 35 (.tmp 6), 35, none⟩, ⟨none, .store 35 (.tmp 4) (.tmp 73), 0, none⟩, ⟨some 5, .assign (.const (.int .i64 0)), 28, none⟩] (Q .normal ds) σ w := mk_eq rfl
/-! 36 columbary/columbaryref13.Less (params #[35, 35], results #[(.tmp 4)], 52 slots) -/
def W36_0 : List Nat := [4, 5, 16, 17, 18, 19, 20, 21, 22, 23, 24, 25, 26, 27, 28, 29, 30, 31, 32, 33, 34, 35, 36, 37, 38, 39, 40, 41, 42, 43, 44, 45, 46, 47, 48, 49, 50, 51]
@[push_cast] theorem W36_0_def : W36_0 = [4, 5, 16, 17, 18, 19, 20, 21, 22, 23, 24, 25, 26, 27, 28, 29, 30, 31, 32, 33, 34, 35, 36, 37, 38, 39, 40, 41, 42, 43, 44, 45, 46, 47, 48, 49, 50, 51] := mk_eq rfl
def r36_0 : List VOp :=
  [⟨some 2, .box 35 (.tmp 0), 0, none⟩,
   ⟨some 3, .box 35 (.tmp 1), 0, none⟩,
   ⟨some 4, .assign (.const (.bool false)), 4, none⟩]
def r36_1 : List VOp :=
  [⟨some 6, .fieldAddr 35 (.tmp 2) 0, 0, none⟩,
   ⟨some 7, .load 3 (.tmp 6), 3, none⟩,
   ⟨some 8, .fieldAddr 35 (.tmp 3) 0, 0, none⟩,
   ⟨some 9, .load 3 (.tmp 8), 3, none⟩,
   ⟨some 10, .binOp .neq 3 (.tmp 7) (.tmp 9) 3, 4, none⟩]
def r36_2 : List VOp :=
  [⟨some 11, .fieldAddr 35 (.tmp 2) 0, 0, none⟩,
   ⟨some 12, .load 3 (.tmp 11), 3, none⟩,
   ⟨some 13, .fieldAddr 35 (.tmp 3) 0, 0, none⟩,
   ⟨some 14, .load 3 (.tmp 13), 3, none⟩,
   ⟨some 15, .binOp .lss 3 (.tmp 12) (.tmp 14) 3, 4, none⟩,
   ⟨some 4, .assign (.tmp 15), 4, none⟩]
def r36_3 : List VOp :=
  [⟨some 5, .assign (.const (.int .i64 0)), 3, none⟩]
def r36_4 : List VOp :=
  [⟨some 16, .move (.tmp 5), 3, none⟩,
   ⟨some 17, .fieldAddr 35 (.tmp 2) 1, 0, none⟩,
   ⟨some 18, .load 22 (.tmp 17), 22, none⟩,
   ⟨some 19, .call ⟨.builtin .len, #[.tmp 18], #[22]⟩, 3, none⟩,
   ⟨some 20, .binOp .lss 3 (.tmp 16) (.tmp 19) 3, 4, none⟩,
   ⟨some 21, .move (.tmp 20), 4, none⟩,
   ⟨some 22, .move (.tmp 5), 3, some (21, true)⟩,
   ⟨some 23, .fieldAddr 35 (.tmp 3) 1, 0, some (21, true)⟩,
   ⟨some 24, .load 22 (.tmp 23), 22, some (21, true)⟩,
   ⟨some 25, .call ⟨.builtin .len, #[.tmp 24], #[22]⟩, 3, some (21, true)⟩,
   ⟨some 26, .binOp .lss 3 (.tmp 22) (.tmp 25) 3, 4, some (21, true)⟩,
   ⟨some 27, .pick (.tmp 21) (.tmp 26) (.const (.bool false)), 4, none⟩]
def r36_6 : List VOp :=
  [⟨some 30, .fieldAddr 35 (.tmp 2) 1, 0, none⟩,
   ⟨some 31, .load 22 (.tmp 30), 22, none⟩,
   ⟨some 32, .move (.tmp 5), 3, none⟩,
   ⟨some 33, .indexAddr 22 (.tmp 31) (.tmp 32), 0, none⟩,
   ⟨some 34, .load 9 (.tmp 33), 9, none⟩,
   ⟨some 35, .fieldAddr 35 (.tmp 3) 1, 0, none⟩,
   ⟨some 36, .load 22 (.tmp 35), 22, none⟩,
   ⟨some 37, .move (.tmp 5), 3, none⟩,
   ⟨some 38, .indexAddr 22 (.tmp 36) (.tmp 37), 0, none⟩,
   ⟨some 39, .load 9 (.tmp 38), 9, none⟩,
   ⟨some 40, .binOp .neq 9 (.tmp 34) (.tmp 39) 9, 4, none⟩]
def r36_7 : List VOp :=
  [⟨some 41, .fieldAddr 35 (.tmp 2) 1, 0, none⟩,
   ⟨some 42, .load 22 (.tmp 41), 22, none⟩,
   ⟨some 43, .move (.tmp 5), 3, none⟩,
   ⟨some 44, .indexAddr 22 (.tmp 42) (.tmp 43), 0, none⟩,
   ⟨some 45, .load 9 (.tmp 44), 9, none⟩,
   ⟨some 46, .fieldAddr 35 (.tmp 3) 1, 0, none⟩,
   ⟨some 47, .load 22 (.tmp 46), 22, none⟩,
   ⟨some 48, .move (.tmp 5), 3, none⟩,
   ⟨some 49, .indexAddr 22 (.tmp 47) (.tmp 48), 0, none⟩,
   ⟨some 50, .load 9 (.tmp 49), 9, none⟩,
   ⟨some 51, .binOp .lss 9 (.tmp 45) (.tmp 50) 9, 4, none⟩,
   ⟨some 4, .assign (.tmp 51), 4, none⟩]
def r36_5 : List VOp :=
  [⟨some 28, .move (.tmp 5), 3, none⟩,
   ⟨some 29, .binOp .add 3 (.tmp 28) (.const (.int .i64 1)) 3, 3, none⟩,
   ⟨some 5, .assign (.tmp 29), 3, none⟩]
def r36_8 : List VOp :=
  [⟨some 4, .assign (.const (.bool false)), 4, none⟩]
def B36 : VC :=
  (.seq (.region r36_0) (.seq (.seq (.region r36_1) (.cond (.tmp 10) (.seq (.region r36_2) .ret) .skip)) (.seq (.seq (.region r36_3) (.block 0 (.loop (.seq (.seq (.region r36_4) (.cond (.tmp 27) .skip (.exit 0))) (.seq (.block 1 (.seq (.draw r36_6 2) (.cond (.tmp 40) (.seq (.draw r36_7 3) .ret) .skip))) (.region r36_5)))))) (.seq (.region r36_8) .ret))))
theorem code36 : ∃ c, Try.f36.body = some c ∧ abs Try.f36.ntmps c = B36 := ⟨_, rfl, by kernel_rfl⟩
theorem hb36 : HasBody Try.prog 36 := hasBody_of Try.func36 (by kernel_rfl)
theorem res36 : Try.f36.results = #[(.tmp 4)] := rfl
theorem enter36 {w : World} {R : Value → World → Prop} (x0 x1 : Value) (h : vc Try.prog B36 (retK Try.prog #[(.tmp 4)] R) [] (initEnv [x0, x1] 0) w) : FnC Try.prog 36 #[x0, x1] w R := by
  obtain ⟨c, h1, h2⟩ := code36
  exact hb36.fn (ret_of_vc mixed Try.func36 h1 (Nat.le_of_ble_eq_true rfl) B36 h2 h)
@[push_cast] theorem vr36_0 : vc Try.prog (.region r36_0) Q ds σ w = vcOps Try.prog [⟨some 2, .box 35 (.tmp 0), 0, none⟩, ⟨some 3, .box 35 (.tmp 1), 0, none⟩, ⟨some 4, .assign (.const (.bool false)), 4, none⟩] (Q .normal ds) σ w := mk_eq rfl
@[push_cast] theorem vr36_1 : vc Try.prog (.region r36_1) Q ds σ w = vcOps Try.prog [⟨some 6, .fieldAddr 35 (.tmp 2) 0, 0, none⟩, ⟨some 7, .load 3 (.tmp 6), 3, none⟩, ⟨some 8, .fieldAddr 35 (.tmp 3) 0, 0, none⟩, ⟨some 9, .load 3 (.tmp 8), 3, none⟩, ⟨some 10, .binOp .neq 3 (.tmp 7) (.tmp 9) 3, 4, none⟩] (Q .normal ds) σ w := mk_eq rfl
@[push_cast] theorem vr36_2 : vc Try.prog (.region r36_2) Q ds σ w = vcOps Try.prog [⟨some 11, .fieldAddr 35 (.tmp 2) 0, 0, none⟩, ⟨some 12, .load 3 (.tmp 11), 3, none⟩, ⟨some 13, .fieldAddr 35 (.tmp 3) 0, 0, none⟩, ⟨some 14, .load 3 (.tmp 13), 3, none⟩, ⟨some 15, .binOp .lss 3 (.tmp 12) (.tmp 14) 3, 4, none⟩, ⟨some 4, .assign (.tmp 15), 4, none⟩] (Q .normal ds) σ w := mk_eq rfl
@[push_cast] theorem vr36_3 : vc Try.prog (.region r36_3) Q ds σ w = vcOps Try.prog [⟨some 5, .assign (.const (.int .i64 0)), 3, none⟩] (Q .normal ds) σ w := mk_eq rfl
@[push_cast] theorem vr36_4 : vc Try.prog (.region r36_4) Q ds σ w = vcOps Try.prog [⟨some 16, .move (.tmp 5), 3, none⟩, ⟨some 17, .fieldAddr 35 (.tmp 2) 1, 0, none⟩, ⟨some 18, .load 22 (.tmp 17), 22, none⟩, ⟨some 19, .call ⟨.builtin .len, #[.tmp 18], #[22]⟩, 3, none⟩, ⟨some 20, .binOp .lss 3 (.tmp 16) (.tmp 19) 3, 4, none⟩, ⟨some 21, .move (.tmp 20), 4, none⟩, ⟨some 22, .move (.tmp 5), 3, some (21, true)⟩, ⟨some 23, .fieldAddr 35 (.tmp 3) 1, 0, some (21, true)⟩, ⟨some 24, .load 22 (.tmp 23), 22, some (21, true)⟩, ⟨some 25, .call ⟨.builtin .len, #[.tmp 24], #[22]⟩, 3, some (21, true)⟩, ⟨some 26, .binOp .lss 3 (.tmp 22) (.tmp 25) 3, 4, some (21, true)⟩, ⟨some 27, .pick (.tmp 21) (.tmp 26) (.const (.bool false)), 4, none⟩] (Q .normal ds) σ w := mk_eq rfl
@[push_cast] theorem vr36_6 : vc Try.prog (.draw r36_6 2) Q ds σ w = drawn Try.prog [(⟨some 30, .fieldAddr 35 (.tmp 2) 1, 0, none⟩, [2]), (⟨some 31, .load 22 (.tmp 30), 22, none⟩, [30]), (⟨some 32, .move (.tmp 5), 3, none⟩, [5]), (⟨some 33, .indexAddr 22 (.tmp 31) (.tmp 32), 0, none⟩, [31, 32]), (⟨some 34, .load 9 (.tmp 33), 9, none⟩, [33]), (⟨some 35, .fieldAddr 35 (.tmp 3) 1, 0, none⟩, [3]), (⟨some 36, .load 22 (.tmp 35), 22, none⟩, [35]), (⟨some 37, .move (.tmp 5), 3, none⟩, [5]), (⟨some 38, .indexAddr 22 (.tmp 36) (.tmp 37), 0, none⟩, [36, 37]), (⟨some 39, .load 9 (.tmp 38), 9, none⟩, [38]), (⟨some 40, .binOp .neq 9 (.tmp 34) (.tmp 39) 9, 4, none⟩, [34, 39])] 2 (Q .normal ds) σ w := mk_eq rfl
@[push_cast] theorem vr36_7 : vc Try.prog (.draw r36_7 3) Q ds σ w = drawn Try.prog [(⟨some 41, .fieldAddr 35 (.tmp 2) 1, 0, none⟩, [2]), (⟨some 42, .load 22 (.tmp 41), 22, none⟩, [41]), (⟨some 43, .move (.tmp 5), 3, none⟩, [5]), (⟨some 44, .indexAddr 22 (.tmp 42) (.tmp 43), 0, none⟩, [42, 43]), (⟨some 45, .load 9 (.tmp 44), 9, none⟩, [44]), (⟨some 46, .fieldAddr 35 (.tmp 3) 1, 0, none⟩, [3]), (⟨some 47, .load 22 (.tmp 46), 22, none⟩, [46]), (⟨some 48, .move (.tmp 5), 3, none⟩, [5]), (⟨some 49, .indexAddr 22 (.tmp 47) (.tmp 48), 0, none⟩, [47, 48]), (⟨some 50, .load 9 (.tmp 49), 9, none⟩, [49]), (⟨some 51, .binOp .lss 9 (.tmp 45) (.tmp 50) 9, 4, none⟩, [45, 50]), (⟨some 4, .assign (.tmp 51), 4, none⟩, [51])] 3 (Q .normal ds) σ w := mk_eq rfl
@[push_cast] theorem vr36_5 : vc Try.prog (.region r36_5) Q ds σ w = vcOps Try.prog [⟨some 28, .move (.tmp 5), 3, none⟩, ⟨some 29, .binOp .add 3 (.tmp 28) (.const (.int .i64 1)) 3, 3, none⟩, ⟨some 5, .assign (.tmp 29), 3, none⟩] (Q .normal ds) σ w := mk_eq rfl
@[push_cast] theorem vr36_8 : vc Try.prog (.region r36_8) Q ds σ w = vcOps Try.prog [⟨some 4, .assign (.const (.bool false)), 4, none⟩] (Q .normal ds) σ w := mk_eq rfl
/-! 37 columbary/columbaryref13.Join (params #[35, 35], results #[(.cell 4 35), (.tmp 5)], 67 slots) -/
def W37_0 : List Nat := [5, 8, 9, 10, 36, 37, 38, 39, 40, 41, 42, 43, 44, 45, 46, 47, 48, 49, 50, 51, 52, 53, 54, 55, 56, 57, 58, 59, 60, 61, 62, 63, 64, 65]
@[push_cast] theorem W37_0_def : W37_0 = [5, 8, 9, 10, 36, 37, 38, 39, 40, 41, 42, 43, 44, 45, 46, 47, 48, 49, 50, 51, 52, 53, 54, 55, 56, 57, 58, 59, 60, 61, 62, 63, 64, 65] := mk_eq rfl
def r37_0 : List VOp :=
  [⟨some 2, .box 35 (.tmp 0), 0, none⟩,
   ⟨some 3, .box 35 (.tmp 1), 0, none⟩,
   ⟨some 4, .alloc 35, 0, none⟩,
   ⟨some 5, .assign (.const (.int .i64 0)), 28, none⟩]
def r37_1 : List VOp :=
  [⟨some 11, .load 35 (.tmp 2), 35, none⟩,
   ⟨some 12, .load 35 (.tmp 3), 35, none⟩,
   ⟨some 13, .call ⟨.value (.func 45), #[.tmp 11, .tmp 12], #[35, 35]⟩, 4, none⟩,
   ⟨some 6, .assign (.tmp 13), 4, none⟩]
def r37_2 : List VOp :=
  [⟨some 14, .move (.tmp 6), 4, none⟩,
   ⟨some 15, .unOp .not 4 (.tmp 14), 4, none⟩]
def r37_3 : List VOp :=
  [⟨some 16, .build 35 #[], 35, none⟩,
   ⟨none, .store 35 (.tmp 4) (.tmp 16), 0, none⟩,
   ⟨some 5, .assign (.const (.int .i64 131)), 28, none⟩]
def r37_4 : List VOp :=
  [⟨some 17, .fieldAddr 35 (.tmp 2) 2, 0, none⟩,
   ⟨some 18, .load 3 (.tmp 17), 3, none⟩,
   ⟨some 19, .fieldAddr 35 (.tmp 3) 2, 0, none⟩,
   ⟨some 20, .load 3 (.tmp 19), 3, none⟩,
   ⟨some 21, .binOp .add 3 (.tmp 18) (.tmp 20) 3, 3, none⟩,
   ⟨some 22, .binOp .gtr 3 (.tmp 21) (.const (.int .i64 1048576)) 3, 4, none⟩]
def r37_5 : List VOp :=
  [⟨some 23, .build 35 #[], 35, none⟩,
   ⟨none, .store 35 (.tmp 4) (.tmp 23), 0, none⟩,
   ⟨some 5, .assign (.const (.int .i64 121)), 28, none⟩]
def r37_6 : List VOp :=
  [⟨some 24, .fieldAddr 35 (.tmp 2) 0, 0, none⟩,
   ⟨some 25, .load 3 (.tmp 24), 3, none⟩,
   ⟨some 26, .buildSlice 22 0 #[], 22, none⟩,
   ⟨some 27, .fieldAddr 35 (.tmp 2) 1, 0, none⟩,
   ⟨some 28, .load 22 (.tmp 27), 22, none⟩,
   ⟨some 29, .call ⟨.builtin .append, #[.tmp 26, .tmp 28], #[22, 22]⟩, 22, none⟩,
   ⟨some 30, .fieldAddr 35 (.tmp 2) 2, 0, none⟩,
   ⟨some 31, .load 3 (.tmp 30), 3, none⟩,
   ⟨some 32, .fieldAddr 35 (.tmp 3) 2, 0, none⟩,
   ⟨some 33, .load 3 (.tmp 32), 3, none⟩,
   ⟨some 34, .binOp .add 3 (.tmp 31) (.tmp 33) 3, 3, none⟩,
   ⟨some 35, .build 35 #[(0, (.tmp 25)), (1, (.tmp 29)), (2, (.tmp 34))], 35, none⟩,
   ⟨some 7, .alloc 35, 0, none⟩,
   ⟨none, .store 35 (.tmp 7) (.tmp 35), 0, none⟩]
def r37_7 : List VOp :=
  [⟨some 8, .assign (.const (.int .i64 0)), 3, none⟩]
def r37_8 : List VOp :=
  [⟨some 36, .move (.tmp 8), 3, none⟩,
   ⟨some 37, .fieldAddr 35 (.tmp 2) 3, 0, none⟩,
   ⟨some 38, .load 33 (.tmp 37), 33, none⟩,
   ⟨some 39, .call ⟨.builtin .len, #[.tmp 38], #[33]⟩, 3, none⟩,
   ⟨some 40, .binOp .lss 3 (.tmp 36) (.tmp 39) 3, 4, none⟩]
def r37_10 : List VOp :=
  [⟨some 44, .fieldAddr 35 (.tmp 2) 3, 0, none⟩,
   ⟨some 45, .load 33 (.tmp 44), 33, none⟩,
   ⟨some 46, .move (.tmp 8), 3, none⟩,
   ⟨some 47, .indexAddr 33 (.tmp 45) (.tmp 46), 0, none⟩,
   ⟨some 48, .load 64 (.tmp 47), 64, none⟩,
   ⟨some 49, .fieldAddr 35 (.tmp 3) 3, 0, none⟩,
   ⟨some 50, .load 33 (.tmp 49), 33, none⟩,
   ⟨some 51, .move (.tmp 8), 3, none⟩,
   ⟨some 52, .indexAddr 33 (.tmp 50) (.tmp 51), 0, none⟩,
   ⟨some 53, .load 64 (.tmp 52), 64, none⟩,
   ⟨some 54, .call ⟨.value (.func 75), #[.tmp 48, .tmp 53], #[64, 64]⟩, 78, none⟩,
   ⟨some 43, .move (.tmp 54), 78, none⟩,
   ⟨some 55, .extract (.tmp 43) 0, 64, none⟩,
   ⟨some 56, .extract (.tmp 43) 1, 28, none⟩,
   ⟨some 9, .alloc 64, 0, none⟩,
   ⟨none, .store 64 (.tmp 9) (.tmp 55), 0, none⟩,
   ⟨some 10, .assign (.tmp 56), 28, none⟩]
def r37_11 : List VOp :=
  [⟨some 57, .move (.tmp 10), 28, none⟩,
   ⟨some 58, .binOp .neq 28 (.tmp 57) (.const (.int .i64 0)) 28, 4, none⟩]
def r37_12 : List VOp :=
  [⟨some 59, .build 35 #[], 35, none⟩,
   ⟨none, .store 35 (.tmp 4) (.tmp 59), 0, none⟩,
   ⟨some 5, .assign (.const (.int .i64 121)), 28, none⟩]
def r37_13 : List VOp :=
  [⟨some 60, .fieldAddr 35 (.tmp 7) 3, 0, none⟩,
   ⟨some 61, .load 33 (.tmp 60), 33, none⟩,
   ⟨some 62, .load 64 (.tmp 9), 64, none⟩,
   ⟨some 63, .buildSlice 33 1 #[(0, (.tmp 62))], 33, none⟩,
   ⟨some 64, .call ⟨.builtin .append, #[.tmp 61, .tmp 63], #[33, 33]⟩, 33, none⟩,
   ⟨some 65, .fieldAddr 35 (.tmp 7) 3, 0, none⟩,
   ⟨none, .store 33 (.tmp 65) (.tmp 64), 0, none⟩]
def r37_9 : List VOp :=
  [⟨some 41, .move (.tmp 8), 3, none⟩,
   ⟨some 42, .binOp .add 3 (.tmp 41) (.const (.int .i64 1)) 3, 3, none⟩,
   ⟨some 8, .assign (.tmp 42), 3, none⟩]
def r37_14 : List VOp :=
  [⟨some 66, .load 35 (.tmp 7), 35, none⟩,
   ⟨none, .store 35 (.tmp 4) (.tmp 66), 0, none⟩,
   ⟨some 5, .assign (.const (.int .i64 0)), 28, none⟩]
def B37 : VC :=
  (.seq (.region r37_0) (.seq (.region r37_1) (.seq (.seq (.region r37_2) (.cond (.tmp 15) (.seq (.region r37_3) .ret) .skip)) (.seq (.seq (.region r37_4) (.cond (.tmp 22) (.seq (.region r37_5) .ret) .skip)) (.seq (.draw r37_6 2) (.seq (.seq (.region r37_7) (.block 0 (.loop (.seq (.seq (.region r37_8) (.cond (.tmp 40) .skip (.exit 0))) (.seq (.block 1 (.seq (.drawS r37_10 2 [56]) (.seq (.seq (.region r37_11) (.cond (.tmp 58) (.seq (.region r37_12) .ret) .skip)) (.region r37_13)))) (.region r37_9)))))) (.seq (.region r37_14) .ret)))))))
theorem code37 : ∃ c, Try.f37.body = some c ∧ abs Try.f37.ntmps c = B37 := ⟨_, rfl, by kernel_rfl⟩
theorem hb37 : HasBody Try.prog 37 := hasBody_of Try.func37 (by kernel_rfl)
theorem res37 : Try.f37.results = #[(.cell 4 35), (.tmp 5)] := rfl
theorem enter37 {w : World} {R : Value → World → Prop} (x0 x1 : Value) (h : vc Try.prog B37 (retK Try.prog #[(.cell 4 35), (.tmp 5)] R) [] (initEnv [x0, x1] 0) w) : FnC Try.prog 37 #[x0, x1] w R := by
  obtain ⟨c, h1, h2⟩ := code37
  exact hb37.fn (ret_of_vc mixed Try.func37 h1 (Nat.le_of_ble_eq_true rfl) B37 h2 h)
@[push_cast] theorem vr37_0 : vc Try.prog (.region r37_0) Q ds σ w = vcOps Try.prog [⟨some 2, .box 35 (.tmp 0), 0, none⟩, ⟨some 3, .box 35 (.tmp 1), 0, none⟩, ⟨some 4, .alloc 35, 0, none⟩, ⟨some 5, .assign (.const (.int .i64 0)), 28, none⟩] (Q .normal ds) σ w := mk_eq rfl
@[push_cast] theorem vr37_1 : vc Try.prog (.region r37_1) Q ds σ w = vcOps Try.prog [⟨some 11, .load 35 (.tmp 2), 35, none⟩, ⟨some 12, .load 35 (.tmp 3), 35, none⟩, ⟨some 13, .call ⟨.value (.func 45), #[.tmp 11, .tmp 12], #[35, 35]⟩, 4, none⟩, ⟨some 6, .assign (.tmp 13), 4, none⟩] (Q .normal ds) σ w := mk_eq rfl
@[push_cast] theorem vr37_2 : vc Try.prog (.region r37_2) Q ds σ w = vcOps Try.prog [⟨some 14, .move (.tmp 6), 4, none⟩, ⟨some 15, .unOp .not 4 (.tmp 14), 4, none⟩] (Q .normal ds) σ w := mk_eq rfl
@[push_cast] theorem vr37_3 : vc Try.prog (.region r37_3) Q ds σ w = vcOps Try.prog [⟨some 16, .build 35 #[], 35, none⟩, ⟨none, .store 35 (.tmp 4) (.tmp 16), 0, none⟩, ⟨some 5, .assign (.const (.int .i64 131)), 28, none⟩] (Q .normal ds) σ w := mk_eq rfl
@[push_cast] theorem vr37_4 : vc Try.prog (.region r37_4) Q ds σ w = vcOps Try.prog [⟨some 17, .fieldAddr 35 (.tmp 2) 2, 0, none⟩, ⟨some 18, .load 3 (.tmp 17), 3, none⟩, ⟨some 19, .fieldAddr 35 (.tmp 3) 2, 0, none⟩, ⟨some 20, .load 3 (.tmp 19), 3, none⟩, ⟨some 21, .binOp .add 3 (.tmp 18) (.tmp 20) 3, 3, none⟩, ⟨some 22, .binOp .gtr 3 (.tmp 21) (.const (.int .i64 1048576)) 3, 4, none⟩] (Q .normal ds) σ w := mk_eq rfl
@[push_cast] theorem vr37_5 : vc Try.prog (.region r37_5) Q ds σ w = vcOps Try.prog [⟨some 23, .build 35 #[], 35, none⟩, ⟨none, .store 35 (.tmp 4) (.tmp 23), 0, none⟩, ⟨some 5, .assign (.const (.int .i64 121)), 28, none⟩] (Q .normal ds) σ w := mk_eq rfl
@[push_cast] theorem vr37_6 : vc Try.prog (.draw r37_6 2) Q ds σ w = drawn Try.prog [(⟨some 24, .fieldAddr 35 (.tmp 2) 0, 0, none⟩, [2]), (⟨some 25, .load 3 (.tmp 24), 3, none⟩, [24]), (⟨some 26, .buildSlice 22 0 #[], 22, none⟩, []), (⟨some 27, .fieldAddr 35 (.tmp 2) 1, 0, none⟩, [2]), (⟨some 28, .load 22 (.tmp 27), 22, none⟩, [27]), (⟨some 29, .call ⟨.builtin .append, #[.tmp 26, .tmp 28], #[22, 22]⟩, 22, none⟩, [26, 28]), (⟨some 30, .fieldAddr 35 (.tmp 2) 2, 0, none⟩, [2]), (⟨some 31, .load 3 (.tmp 30), 3, none⟩, [30]), (⟨some 32, .fieldAddr 35 (.tmp 3) 2, 0, none⟩, [3]), (⟨some 33, .load 3 (.tmp 32), 3, none⟩, [32]), (⟨some 34, .binOp .add 3 (.tmp 31) (.tmp 33) 3, 3, none⟩, [31, 33]), (⟨some 35, .build 35 #[(0, (.tmp 25)), (1, (.tmp 29)), (2, (.tmp 34))], 35, none⟩, [25, 29, 34]), (⟨some 7, .alloc 35, 0, none⟩, []), (⟨none, .store 35 (.tmp 7) (.tmp 35), 0, none⟩, [7, 35])] 2 (Q .normal ds) σ w := mk_eq rfl
@[push_cast] theorem vr37_7 : vc Try.prog (.region r37_7) Q ds σ w = vcOps Try.prog [⟨some 8, .assign (.const (.int .i64 0)), 3, none⟩] (Q .normal ds) σ w := mk_eq rfl
@[push_cast] theorem vr37_8 : vc Try.prog (.region r37_8) Q ds σ w = vcOps Try.prog [⟨some 36, .move (.tmp 8), 3, none⟩, ⟨some 37, .fieldAddr 35 (.tmp 2) 3, 0, none⟩, ⟨some 38, .load 33 (.tmp 37), 33, none⟩, ⟨some 39, .call ⟨.builtin .len, #[.tmp 38], #[33]⟩, 3, none⟩, ⟨some 40, .binOp .lss 3 (.tmp 36) (.tmp 39) 3, 4, none⟩] (Q .normal ds) σ w := mk_eq rfl
@[push_cast] theorem vr37_10 : vc Try.prog (.drawS r37_10 2 [56]) Q ds σ w = drawnS Try.prog [(⟨some 44, .fieldAddr 35 (.tmp 2) 3, 0, none⟩, [2]), (⟨some 45, .load 33 (.tmp 44), 33, none⟩, [44]), (⟨some 46, .move (.tmp 8), 3, none⟩, [8]), (⟨some 47, .indexAddr 33 (.tmp 45) (.tmp 46), 0, none⟩, [45, 46]), (⟨some 48, .load 64 (.tmp 47), 64, none⟩, [47]), (⟨some 49, .fieldAddr 35 (.tmp 3) 3, 0, none⟩, [3]), (⟨some 50, .load 33 (.tmp 49), 33, none⟩, [49]), (⟨some 51, .move (.tmp 8), 3, none⟩, [8]), (⟨some 52, .indexAddr 33 (.tmp 50) (.tmp 51), 0, none⟩, [50, 51]), (⟨some 53, .load 64 (.tmp 52), 64, none⟩, [52]), (⟨some 54, .call ⟨.value (.func 75), #[.tmp 48, .tmp 53], #[64, 64]⟩, 78, none⟩, [48, 53]), (⟨some 43, .move (.tmp 54), 78, none⟩, [54]), (⟨some 55, .extract (.tmp 43) 0, 64, none⟩, [43]), (⟨some 56, .extract (.tmp 43) 1, 28, none⟩, [43]), (⟨some 9, .alloc 64, 0, none⟩, []), (⟨none, .store 64 (.tmp 9) (.tmp 55), 0, none⟩, [9, 55]), (⟨some 10, .assign (.tmp 56), 28, none⟩, [56])] 2 [56] (Q .normal ds) σ w := mk_eq rfl
@[push_cast] theorem vr37_11 : vc Try.prog (.region r37_11) Q ds σ w = vcOps Try.prog [⟨some 57, .move (.tmp 10), 28, none⟩, ⟨some 58, .binOp .neq 28 (.tmp 57) (.const (.int .i64 0)) 28, 4, none⟩] (Q .normal ds) σ w := mk_eq rfl
@[push_cast] theorem vr37_12 : vc Try.prog (.region r37_12) Q ds σ w = vcOps Try.prog [⟨some 59, .build 35 #[], 35, none⟩, ⟨none, .store 35 (.tmp 4) (.tmp 59), 0, none⟩, ⟨some 5, .assign (.const (.int .i64 121)), 28, none⟩] (Q .normal ds) σ w := mk_eq rfl
@[push_cast] theorem vr37_13 : vc Try.prog (.region r37_13) Q ds σ w = vcOps Try.prog [⟨some 60, .fieldAddr 35 (.tmp 7) 3, 0, none⟩, ⟨some 61, .load 33 (.tmp 60), 33, none⟩, ⟨some 62, .load 64 (.tmp 9), 64, none⟩, ⟨some 63, .buildSlice 33 1 #[(0, (.tmp 62))], 33, none⟩, ⟨some 64, .call ⟨.builtin .append, #[.tmp 61, .tmp 63], #[33, 33]⟩, 33, none⟩, ⟨some 65, .fieldAddr 35 (.tmp 7) 3, 0, none⟩, ⟨none, .store 33 (.tmp 65) (.tmp 64), 0, none⟩] (Q .normal ds) σ w := mk_eq rfl
@[push_cast] theorem vr37_9 : vc Try.prog (.region r37_9) Q ds σ w = vcOps Try.prog [⟨some 41, .move (.tmp 8), 3, none⟩, ⟨some 42, .binOp .add 3 (.tmp 41) (.const (.int .i64 1)) 3, 3, none⟩, ⟨some 8, .assign (.tmp 42), 3, none⟩] (Q .normal ds) σ w := mk_eq rfl
@[push_cast] theorem vr37_14 : vc Try.prog (.region r37_14) Q ds σ w = vcOps Try.prog [⟨some 66, .load 35 (.tmp 7), 35, none⟩, ⟨none, .store 35 (.tmp 4) (.tmp 66), 0, none⟩, ⟨some 5, .assign (.const (.int .i64 0)), 28, none⟩] (Q .normal ds) σ w := mk_eq rfl
/-! 38 columbary/rows.Same (params #[25, 25], results #[(.tmp 4)], 8 slots) -/
def r38_0 : List VOp :=
  [⟨some 4, .assign (.const (.bool false)), 4, none⟩]
def r38_1 : List VOp :=
  [⟨some 5, .move (.tmp 0), 25, none⟩,
   ⟨some 6, .move (.tmp 1), 25, none⟩,
   ⟨some 7, .call ⟨.value (.func 76), #[(.tmp 5), (.tmp 6), (.func 77)], #[25, 25, 53]⟩, 4, none⟩,
   ⟨some 4, .assign (.tmp 7), 4, none⟩]
def B38 : VC :=
  (.seq (.region r38_0) (.seq (.region r38_1) .ret))
theorem code38 : ∃ c, Try.f38.body = some c ∧ abs Try.f38.ntmps c = B38 := ⟨_, rfl, by kernel_rfl⟩
theorem hb38 : HasBody Try.prog 38 := hasBody_of Try.func38 (by kernel_rfl)
theorem res38 : Try.f38.results = #[(.tmp 4)] := rfl
theorem enter38 {w : World} {R : Value → World → Prop} (x0 x1 : Value) (h : vc Try.prog B38 (retK Try.prog #[(.tmp 4)] R) [] (initEnv [x0, x1] 0) w) : FnC Try.prog 38 #[x0, x1] w R := by
  obtain ⟨c, h1, h2⟩ := code38
  exact hb38.fn (ret_of_vc mixed Try.func38 h1 (Nat.le_of_ble_eq_true rfl) B38 h2 h)
@[push_cast] theorem vr38_0 : vc Try.prog (.region r38_0) Q ds σ w = vcOps Try.prog [⟨some 4, .assign (.const (.bool false)), 4, none⟩] (Q .normal ds) σ w := mk_eq rfl
@[push_cast] theorem vr38_1 : vc Try.prog (.region r38_1) Q ds σ w = vcOps Try.prog [⟨some 5, .move (.tmp 0), 25, none⟩, ⟨some 6, .move (.tmp 1), 25, none⟩, ⟨some 7, .call ⟨.value (.func 76), #[(.tmp 5), (.tmp 6), (.func 77)], #[25, 25, 53]⟩, 4, none⟩, ⟨some 4, .assign (.tmp 7), 4, none⟩] (Q .normal ds) σ w := mk_eq rfl
/-! 39 columbary/columbaryref10.Right (params #[24], results #[(.tmp 2)], 57 slots) -/
def W39_0 : List Nat := [2, 4, 5, 6, 14, 15, 16, 17, 18, 19, 20, 21, 22, 23, 24, 25, 26, 27, 28, 29, 30, 31, 32, 33, 34, 35, 36, 37, 38, 39, 40]
@[push_cast] theorem W39_0_def : W39_0 = [2, 4, 5, 6, 14, 15, 16, 17, 18, 19, 20, 21, 22, 23, 24, 25, 26, 27, 28, 29, 30, 31, 32, 33, 34, 35, 36, 37, 38, 39, 40] := mk_eq rfl
def W39_1 : List Nat := [2, 6, 27, 28, 29, 30, 31, 32, 33, 34, 35, 36, 37, 38, 39, 40]
@[push_cast] theorem W39_1_def : W39_1 = [2, 6, 27, 28, 29, 30, 31, 32, 33, 34, 35, 36, 37, 38, 39, 40] := mk_eq rfl
def r39_0 : List VOp :=
  [⟨some 1, .box 24 (.tmp 0), 0, none⟩,
   ⟨some 2, .assign (.const (.bool false)), 4, none⟩]
def r39_1 : List VOp :=
  [⟨some 7, .buildSlice 22 0 #[], 22, none⟩,
   ⟨some 8, .fieldAddr 24 (.tmp 1) 0, 0, none⟩,
   ⟨some 9, .load 22 (.tmp 8), 22, none⟩,
   ⟨some 10, .call ⟨.builtin .append, #[.tmp 7, .tmp 9], #[22, 22]⟩, 22, none⟩,
   ⟨some 11, .fieldAddr 24 (.tmp 1) 1, 0, none⟩,
   ⟨some 12, .load 22 (.tmp 11), 22, none⟩,
   ⟨some 13, .call ⟨.builtin .append, #[.tmp 10, .tmp 12], #[22, 22]⟩, 22, none⟩,
   ⟨some 3, .assign (.tmp 13), 22, none⟩]
def r39_2 : List VOp :=
  [⟨some 4, .assign (.const (.int .i64 0)), 3, none⟩]
def r39_3 : List VOp :=
  [⟨some 14, .move (.tmp 4), 3, none⟩,
   ⟨some 15, .move (.tmp 3), 22, none⟩,
   ⟨some 16, .call ⟨.builtin .len, #[.tmp 15], #[22]⟩, 3, none⟩,
   ⟨some 17, .binOp .lss 3 (.tmp 14) (.tmp 16) 3, 4, none⟩]
def r39_5 : List VOp :=
  [⟨some 20, .move (.tmp 3), 22, none⟩,
   ⟨some 21, .move (.tmp 4), 3, none⟩,
   ⟨some 22, .indexAddr 22 (.tmp 20) (.tmp 21), 0, none⟩,
   ⟨some 23, .load 9 (.tmp 22), 9, none⟩,
   ⟨some 24, .call ⟨.value (.func 79), #[.tmp 23], #[9]⟩, 4, none⟩,
   ⟨some 5, .assign (.tmp 24), 4, none⟩]
def r39_6 : List VOp :=
  [⟨some 25, .move (.tmp 5), 4, none⟩,
   ⟨some 26, .unOp .not 4 (.tmp 25), 4, none⟩]
def r39_7 : List VOp :=
  [⟨some 2, .assign (.const (.bool false)), 4, none⟩]
def r39_8 : List VOp :=
  [⟨some 6, .assign (.const (.int .i64 0)), 3, none⟩]
def r39_9 : List VOp :=
  [⟨some 27, .move (.tmp 6), 3, none⟩,
   ⟨some 28, .move (.tmp 4), 3, none⟩,
   ⟨some 29, .binOp .lss 3 (.tmp 27) (.tmp 28) 3, 4, none⟩]
def r39_11 : List VOp :=
  [⟨some 32, .move (.tmp 3), 22, none⟩,
   ⟨some 33, .move (.tmp 6), 3, none⟩,
   ⟨some 34, .indexAddr 22 (.tmp 32) (.tmp 33), 0, none⟩,
   ⟨some 35, .load 9 (.tmp 34), 9, none⟩,
   ⟨some 36, .move (.tmp 3), 22, none⟩,
   ⟨some 37, .move (.tmp 4), 3, none⟩,
   ⟨some 38, .indexAddr 22 (.tmp 36) (.tmp 37), 0, none⟩,
   ⟨some 39, .load 9 (.tmp 38), 9, none⟩,
   ⟨some 40, .binOp .eql 9 (.tmp 35) (.tmp 39) 9, 4, none⟩]
def r39_12 : List VOp :=
  [⟨some 2, .assign (.const (.bool false)), 4, none⟩]
def r39_10 : List VOp :=
  [⟨some 30, .move (.tmp 6), 3, none⟩,
   ⟨some 31, .binOp .add 3 (.tmp 30) (.const (.int .i64 1)) 3, 3, none⟩,
   ⟨some 6, .assign (.tmp 31), 3, none⟩]
def r39_4 : List VOp :=
  [⟨some 18, .move (.tmp 4), 3, none⟩,
   ⟨some 19, .binOp .add 3 (.tmp 18) (.const (.int .i64 1)) 3, 3, none⟩,
   ⟨some 4, .assign (.tmp 19), 3, none⟩]
def r39_13 : List VOp :=
  [⟨some 41, .fieldAddr 24 (.tmp 1) 0, 0, none⟩,
   ⟨some 42, .load 22 (.tmp 41), 22, none⟩,
   ⟨some 43, .call ⟨.builtin .len, #[.tmp 42], #[22]⟩, 3, none⟩,
   ⟨some 44, .binOp .geq 3 (.tmp 43) (.const (.int .i64 1)) 3, 4, none⟩,
   ⟨some 45, .move (.tmp 44), 4, none⟩,
   ⟨some 46, .fieldAddr 24 (.tmp 1) 0, 0, some (45, true)⟩,
   ⟨some 47, .load 22 (.tmp 46), 22, some (45, true)⟩,
   ⟨some 48, .call ⟨.builtin .len, #[.tmp 47], #[22]⟩, 3, some (45, true)⟩,
   ⟨some 49, .binOp .leq 3 (.tmp 48) (.const (.int .i64 6)) 3, 4, some (45, true)⟩,
   ⟨some 50, .pick (.tmp 45) (.tmp 49) (.const (.bool false)), 4, none⟩,
   ⟨some 51, .move (.tmp 50), 4, none⟩,
   ⟨some 52, .fieldAddr 24 (.tmp 1) 1, 0, some (51, true)⟩,
   ⟨some 53, .load 22 (.tmp 52), 22, some (51, true)⟩,
   ⟨some 54, .call ⟨.builtin .len, #[.tmp 53], #[22]⟩, 3, some (51, true)⟩,
   ⟨some 55, .binOp .leq 3 (.tmp 54) (.const (.int .i64 4)) 3, 4, some (51, true)⟩,
   ⟨some 56, .pick (.tmp 51) (.tmp 55) (.const (.bool false)), 4, none⟩,
   ⟨some 2, .assign (.tmp 56), 4, none⟩]
def B39 : VC :=
  (.seq (.region r39_0) (.seq (.draw r39_1 3) (.seq (.seq (.region r39_2) (.block 0 (.loop (.seq (.seq (.region r39_3) (.cond (.tmp 17) .skip (.exit 0))) (.seq (.block 1 (.seq (.region r39_5) (.seq (.seq (.region r39_6) (.cond (.tmp 26) (.seq (.region r39_7) .ret) .skip)) (.seq (.region r39_8) (.block 2 (.loop (.seq (.seq (.region r39_9) (.cond (.tmp 29) .skip (.exit 2))) (.seq (.block 3 (.seq (.draw r39_11 2) (.cond (.tmp 40) (.seq (.region r39_12) .ret) .skip))) (.region r39_10))))))))) (.region r39_4)))))) (.seq (.region r39_13) .ret))))
theorem code39 : ∃ c, Try.f39.body = some c ∧ abs Try.f39.ntmps c = B39 := ⟨_, rfl, by kernel_rfl⟩
theorem hb39 : HasBody Try.prog 39 := hasBody_of Try.func39 (by kernel_rfl)
theorem res39 : Try.f39.results = #[(.tmp 2)] := rfl
theorem enter39 {w : World} {R : Value → World → Prop} (x0 : Value) (h : vc Try.prog B39 (retK Try.prog #[(.tmp 2)] R) [] (initEnv [x0] 0) w) : FnC Try.prog 39 #[x0] w R := by
  obtain ⟨c, h1, h2⟩ := code39
  exact hb39.fn (ret_of_vc mixed Try.func39 h1 (Nat.le_of_ble_eq_true rfl) B39 h2 h)
@[push_cast] theorem vr39_0 : vc Try.prog (.region r39_0) Q ds σ w = vcOps Try.prog [⟨some 1, .box 24 (.tmp 0), 0, none⟩, ⟨some 2, .assign (.const (.bool false)), 4, none⟩] (Q .normal ds) σ w := mk_eq rfl
@[push_cast] theorem vr39_1 : vc Try.prog (.draw r39_1 3) Q ds σ w = drawn Try.prog [(⟨some 7, .buildSlice 22 0 #[], 22, none⟩, []), (⟨some 8, .fieldAddr 24 (.tmp 1) 0, 0, none⟩, [1]), (⟨some 9, .load 22 (.tmp 8), 22, none⟩, [8]), (⟨some 10, .call ⟨.builtin .append, #[.tmp 7, .tmp 9], #[22, 22]⟩, 22, none⟩, [7, 9]), (⟨some 11, .fieldAddr 24 (.tmp 1) 1, 0, none⟩, [1]), (⟨some 12, .load 22 (.tmp 11), 22, none⟩, [11]), (⟨some 13, .call ⟨.builtin .append, #[.tmp 10, .tmp 12], #[22, 22]⟩, 22, none⟩, [10, 12]), (⟨some 3, .assign (.tmp 13), 22, none⟩, [13])] 3 (Q .normal ds) σ w := mk_eq rfl
@[push_cast] theorem vr39_2 : vc Try.prog (.region r39_2) Q ds σ w = vcOps Try.prog [⟨some 4, .assign (.const (.int .i64 0)), 3, none⟩] (Q .normal ds) σ w := mk_eq rfl
@[push_cast] theorem vr39_3 : vc Try.prog (.region r39_3) Q ds σ w = vcOps Try.prog [⟨some 14, .move (.tmp 4), 3, none⟩, ⟨some 15, .move (.tmp 3), 22, none⟩, ⟨some 16, .call ⟨.builtin .len, #[.tmp 15], #[22]⟩, 3, none⟩, ⟨some 17, .binOp .lss 3 (.tmp 14) (.tmp 16) 3, 4, none⟩] (Q .normal ds) σ w := mk_eq rfl
@[push_cast] theorem vr39_5 : vc Try.prog (.region r39_5) Q ds σ w = vcOps Try.prog [⟨some 20, .move (.tmp 3), 22, none⟩, ⟨some 21, .move (.tmp 4), 3, none⟩, ⟨some 22, .indexAddr 22 (.tmp 20) (.tmp 21), 0, none⟩, ⟨some 23, .load 9 (.tmp 22), 9, none⟩, ⟨some 24, .call ⟨.value (.func 79), #[.tmp 23], #[9]⟩, 4, none⟩, ⟨some 5, .assign (.tmp 24), 4, none⟩] (Q .normal ds) σ w := mk_eq rfl
@[push_cast] theorem vr39_6 : vc Try.prog (.region r39_6) Q ds σ w = vcOps Try.prog [⟨some 25, .move (.tmp 5), 4, none⟩, ⟨some 26, .unOp .not 4 (.tmp 25), 4, none⟩] (Q .normal ds) σ w := mk_eq rfl
@[push_cast] theorem vr39_7 : vc Try.prog (.region r39_7) Q ds σ w = vcOps Try.prog [⟨some 2, .assign (.const (.bool false)), 4, none⟩] (Q .normal ds) σ w := mk_eq rfl
@[push_cast] theorem vr39_8 : vc Try.prog (.region r39_8) Q ds σ w = vcOps Try.prog [⟨some 6, .assign (.const (.int .i64 0)), 3, none⟩] (Q .normal ds) σ w := mk_eq rfl
@[push_cast] theorem vr39_9 : vc Try.prog (.region r39_9) Q ds σ w = vcOps Try.prog [⟨some 27, .move (.tmp 6), 3, none⟩, ⟨some 28, .move (.tmp 4), 3, none⟩, ⟨some 29, .binOp .lss 3 (.tmp 27) (.tmp 28) 3, 4, none⟩] (Q .normal ds) σ w := mk_eq rfl
@[push_cast] theorem vr39_11 : vc Try.prog (.draw r39_11 2) Q ds σ w = drawn Try.prog [(⟨some 32, .move (.tmp 3), 22, none⟩, [3]), (⟨some 33, .move (.tmp 6), 3, none⟩, [6]), (⟨some 34, .indexAddr 22 (.tmp 32) (.tmp 33), 0, none⟩, [32, 33]), (⟨some 35, .load 9 (.tmp 34), 9, none⟩, [34]), (⟨some 36, .move (.tmp 3), 22, none⟩, [3]), (⟨some 37, .move (.tmp 4), 3, none⟩, [4]), (⟨some 38, .indexAddr 22 (.tmp 36) (.tmp 37), 0, none⟩, [36, 37]), (⟨some 39, .load 9 (.tmp 38), 9, none⟩, [38]), (⟨some 40, .binOp .eql 9 (.tmp 35) (.tmp 39) 9, 4, none⟩, [35, 39])] 2 (Q .normal ds) σ w := mk_eq rfl
@[push_cast] theorem vr39_12 : vc Try.prog (.region r39_12) Q ds σ w = vcOps Try.prog [⟨some 2, .assign (.const (.bool false)), 4, none⟩] (Q .normal ds) σ w := mk_eq rfl
@[push_cast] theorem vr39_10 : vc Try.prog (.region r39_10) Q ds σ w = vcOps Try.prog [⟨some 30, .move (.tmp 6), 3, none⟩, ⟨some 31, .binOp .add 3 (.tmp 30) (.const (.int .i64 1)) 3, 3, none⟩, ⟨some 6, .assign (.tmp 31), 3, none⟩] (Q .normal ds) σ w := mk_eq rfl
@[push_cast] theorem vr39_4 : vc Try.prog (.region r39_4) Q ds σ w = vcOps Try.prog [⟨some 18, .move (.tmp 4), 3, none⟩, ⟨some 19, .binOp .add 3 (.tmp 18) (.const (.int .i64 1)) 3, 3, none⟩, ⟨some 4, .assign (.tmp 19), 3, none⟩] (Q .normal ds) σ w := mk_eq rfl
@[push_cast] theorem vr39_13 : vc Try.prog (.region r39_13) Q ds σ w = vcOps Try.prog [⟨some 41, .fieldAddr 24 (.tmp 1) 0, 0, none⟩, ⟨some 42, .load 22 (.tmp 41), 22, none⟩, ⟨some 43, .call ⟨.builtin .len, #[.tmp 42], #[22]⟩, 3, none⟩, ⟨some 44, .binOp .geq 3 (.tmp 43) (.const (.int .i64 1)) 3, 4, none⟩, ⟨some 45, .move (.tmp 44), 4, none⟩, ⟨some 46, .fieldAddr 24 (.tmp 1) 0, 0, some (45, true)⟩, ⟨some 47, .load 22 (.tmp 46), 22, some (45, true)⟩, ⟨some 48, .call ⟨.builtin .len, #[.tmp 47], #[22]⟩, 3, some (45, true)⟩, ⟨some 49, .binOp .leq 3 (.tmp 48) (.const (.int .i64 6)) 3, 4, some (45, true)⟩, ⟨some 50, .pick (.tmp 45) (.tmp 49) (.const (.bool false)), 4, none⟩, ⟨some 51, .move (.tmp 50), 4, none⟩, ⟨some 52, .fieldAddr 24 (.tmp 1) 1, 0, some (51, true)⟩, ⟨some 53, .load 22 (.tmp 52), 22, some (51, true)⟩, ⟨some 54, .call ⟨.builtin .len, #[.tmp 53], #[22]⟩, 3, some (51, true)⟩, ⟨some 55, .binOp .leq 3 (.tmp 54) (.const (.int .i64 4)) 3, 4, some (51, true)⟩, ⟨some 56, .pick (.tmp 51) (.tmp 55) (.const (.bool false)), 4, none⟩, ⟨some 2, .assign (.tmp 56), 4, none⟩] (Q .normal ds) σ w := mk_eq rfl
/-! 45 columbary/columbaryref13.OneKey (params #[35, 35], results #[(.tmp 4)], 19 slots) -/
def r45_0 : List VOp :=
  [⟨some 2, .box 35 (.tmp 0), 0, none⟩,
   ⟨some 3, .box 35 (.tmp 1), 0, none⟩,
   ⟨some 4, .assign (.const (.bool false)), 4, none⟩]
def r45_1 : List VOp :=
  [⟨some 6, .fieldAddr 35 (.tmp 2) 1, 0, none⟩,
   ⟨some 7, .load 22 (.tmp 6), 22, none⟩,
   ⟨some 8, .fieldAddr 35 (.tmp 3) 1, 0, none⟩,
   ⟨some 9, .load 22 (.tmp 8), 22, none⟩,
   ⟨some 10, .call ⟨.value (.func 21), #[.tmp 7, .tmp 9], #[22, 22]⟩, 4, none⟩,
   ⟨some 5, .assign (.tmp 10), 4, none⟩]
def r45_2 : List VOp :=
  [⟨some 11, .move (.tmp 5), 4, none⟩,
   ⟨some 12, .move (.tmp 11), 4, none⟩,
   ⟨some 13, .fieldAddr 35 (.tmp 2) 0, 0, some (12, true)⟩,
   ⟨some 14, .load 3 (.tmp 13), 3, some (12, true)⟩,
   ⟨some 15, .fieldAddr 35 (.tmp 3) 0, 0, some (12, true)⟩,
   ⟨some 16, .load 3 (.tmp 15), 3, some (12, true)⟩,
   ⟨some 17, .binOp .eql 3 (.tmp 14) (.tmp 16) 3, 4, some (12, true)⟩,
   ⟨some 18, .pick (.tmp 12) (.tmp 17) (.const (.bool false)), 4, none⟩,
   ⟨some 4, .assign (.tmp 18), 4, none⟩]
def B45 : VC :=
  (.seq (.region r45_0) (.seq (.region r45_1) (.seq (.region r45_2) .ret)))
theorem code45 : ∃ c, Try.f45.body = some c ∧ abs Try.f45.ntmps c = B45 := ⟨_, rfl, by kernel_rfl⟩
theorem hb45 : HasBody Try.prog 45 := hasBody_of Try.func45 (by kernel_rfl)
theorem res45 : Try.f45.results = #[(.tmp 4)] := rfl
theorem enter45 {w : World} {R : Value → World → Prop} (x0 x1 : Value) (h : vc Try.prog B45 (retK Try.prog #[(.tmp 4)] R) [] (initEnv [x0, x1] 0) w) : FnC Try.prog 45 #[x0, x1] w R := by
  obtain ⟨c, h1, h2⟩ := code45
  exact hb45.fn (ret_of_vc mixed Try.func45 h1 (Nat.le_of_ble_eq_true rfl) B45 h2 h)
@[push_cast] theorem vr45_0 : vc Try.prog (.region r45_0) Q ds σ w = vcOps Try.prog [⟨some 2, .box 35 (.tmp 0), 0, none⟩, ⟨some 3, .box 35 (.tmp 1), 0, none⟩, ⟨some 4, .assign (.const (.bool false)), 4, none⟩] (Q .normal ds) σ w := mk_eq rfl
@[push_cast] theorem vr45_1 : vc Try.prog (.region r45_1) Q ds σ w = vcOps Try.prog [⟨some 6, .fieldAddr 35 (.tmp 2) 1, 0, none⟩, ⟨some 7, .load 22 (.tmp 6), 22, none⟩, ⟨some 8, .fieldAddr 35 (.tmp 3) 1, 0, none⟩, ⟨some 9, .load 22 (.tmp 8), 22, none⟩, ⟨some 10, .call ⟨.value (.func 21), #[.tmp 7, .tmp 9], #[22, 22]⟩, 4, none⟩, ⟨some 5, .assign (.tmp 10), 4, none⟩] (Q .normal ds) σ w := mk_eq rfl
@[push_cast] theorem vr45_2 : vc Try.prog (.region r45_2) Q ds σ w = vcOps Try.prog [⟨some 11, .move (.tmp 5), 4, none⟩, ⟨some 12, .move (.tmp 11), 4, none⟩, ⟨some 13, .fieldAddr 35 (.tmp 2) 0, 0, some (12, true)⟩, ⟨some 14, .load 3 (.tmp 13), 3, some (12, true)⟩, ⟨some 15, .fieldAddr 35 (.tmp 3) 0, 0, some (12, true)⟩, ⟨some 16, .load 3 (.tmp 15), 3, some (12, true)⟩, ⟨some 17, .binOp .eql 3 (.tmp 14) (.tmp 16) 3, 4, some (12, true)⟩, ⟨some 18, .pick (.tmp 12) (.tmp 17) (.const (.bool false)), 4, none⟩, ⟨some 4, .assign (.tmp 18), 4, none⟩] (Q .normal ds) σ w := mk_eq rfl
@[push_cast] theorem bsl22_0_CodesW {K : Value → World → Prop} {w : World}  : vBuildSlice Try.prog 22 0 #[] K w = K (.slice (some ⟨w.heap.size, 0, none⟩) 0 0) (w.alloc (.cells #[] 9)) :=
  vBuildSlice_ok Try.underlying22 ti9 (by kernel_rfl) (by decide)
@[push_cast] theorem bsl25_0_CodesW {K : Value → World → Prop} {w : World}  : vBuildSlice Try.prog 25 0 #[] K w = K (.slice (some ⟨w.heap.size, 0, none⟩) 0 0) (w.alloc (.cells #[] 35)) :=
  vBuildSlice_ok Try.underlying25 ti35 (by kernel_rfl) (by decide)
@[push_cast] theorem bsl25_1_CodesW {K : Value → World → Prop} {w : World} (x00 x01 x02 x03 : Value) : vBuildSlice Try.prog 25 1 #[(0, (.agg #[x00, x01, x02, x03]))] K w = K (.slice (some ⟨w.heap.size, 0, none⟩) 1 1) (w.alloc (.cells #[x00, x01, x02, x03] 35)) :=
  vBuildSlice_ok Try.underlying25 ti35 (by kernel_rfl) (by decide)
@[push_cast] theorem bsl33_1_CodesW {K : Value → World → Prop} {w : World} (x00 x01 x02 : Value) : vBuildSlice Try.prog 33 1 #[(0, (.agg #[x00, x01, x02]))] K w = K (.slice (some ⟨w.heap.size, 0, none⟩) 1 1) (w.alloc (.cells #[x00, x01, x02] 64)) :=
  vBuildSlice_ok Try.underlying33 ti64 (by kernel_rfl) (by decide)
@[push_cast] theorem bsl47_2_CodesW {K : Value → World → Prop} {w : World} (x0 : Int) (x1 : Int) : vBuildSlice Try.prog 47 2 #[(0, (.int .i64 x0)), (1, (.int .i64 x1))] K w = K (.slice (some ⟨w.heap.size, 0, none⟩) 2 2) (w.alloc (.cells #[(.int .i64 x0), (.int .i64 x1)] 3)) :=
  vBuildSlice_ok Try.underlying47 ti3 (by kernel_rfl) (by decide)
@[push_cast] theorem bld35__CodesW {K : Value → World → Prop} {w : World}  : vBuild Try.prog 35 #[] K w = K (.agg #[(.int .i64 0), (.slice none 0 0), (.int .i64 0), (.slice none 0 0)]) w :=
  vBuild_ok (by kernel_rfl)
@[push_cast] theorem bld35_0_1_2_CodesW {K : Value → World → Prop} {w : World} (x0 : Int) (x1o : Option Addr) (x1n x1c : Nat) (x2 : Int) : vBuild Try.prog 35 #[(0, (.int .i64 x0)), (1, (.slice x1o x1n x1c)), (2, (.int .i64 x2))] K w = K (.agg #[(.int .i64 x0), (.slice x1o x1n x1c), (.int .i64 x2), (.slice none 0 0)]) w :=
  vBuild_ok (by kernel_rfl)
end Go.Proofs.Ythihbgpaoldbjaa
end
section
set_option linter.unusedSimpArgs false
namespace Go.Proofs.Ythihbgpaoldbjaa
open Go.Vc Go.Key
set_option maxRecDepth 100000
abbrev StS (w : World) (v : Value) (l : List ByteArray) : Prop := Sl w v (l.map Value.string)
theorem StS.atS {w : World} {a : Addr} {l : List ByteArray} {n c : Nat} (h : StS w (.slice (some a) n c) l) {i : Nat} (hi : i < l.length) : w.cell? (a.add i) = some (.string l[i]) := Sl.at h (by simp [hi])
@[push_cast] theorem vBinS_gtr {P : Program} {t : TypeId} {x y : Operand} {m n : ByteArray} {K : Value → World → Prop} {w : World} : vBin P .gtr t x y (.string m) (.string n) K w = K (.bool (!(Op.bytesLess m.data.toList n.data.toList || decide (m = n)))) w := mk_eq rfl
theorem nanS_c (s : ByteArray) (w : World) : FnC Try.prog 111 #[.string s] w fun r w' => r = .bool false ∧ w' = w := by
  refine enter111 _ ?_
  unfold B111
  repeat' (first | (simp (disch := omega) only [push_cast, ↓reduceIte, zA, zG, zB, zH, zI, zC, zJ, zK, zL, zD, zE, zF, zM, zN, zO, zP, zQ, reduceCtorEq, not_true_eq_false, not_false_eq_true, decide_true, Bool.not_true]) | (first | refine vIfE_of ?_ ?_ | refine vIfD_of ?_ ?_ | refine vIfQ_of ?_ ?_ | refine vIfV_of ?_ ?_) <;> intro _ | refine And.intro (by omega) ?_ | refine drawn_q ?_ | fail)
  all_goals simp
theorem nanI_c (n : Int) (w : World) : FnC Try.prog 101 #[.int .i64 n] w fun r w' => r = .bool false ∧ w' = w := by
  refine enter101 _ ?_
  unfold B101
  repeat' (first | (simp (disch := omega) only [push_cast, ↓reduceIte, zA, zG, zB, zH, zI, zC, zJ, zK, zL, zD, zE, zF, zM, zN, zO, zP, zQ, reduceCtorEq, not_true_eq_false, not_false_eq_true, decide_true, Bool.not_true]) | (first | refine vIfE_of ?_ ?_ | refine vIfD_of ?_ ?_ | refine vIfQ_of ?_ ?_ | refine vIfV_of ?_ ?_) <;> intro _ | refine And.intro (by omega) ?_ | refine drawn_q ?_ | fail)
  all_goals simp
theorem cmpS_c (a b : ByteArray) (w : World) : FnC Try.prog 102 #[.string a, .string b] w fun r w' => r = .int .i64 (cstr a b) ∧ w' = w := by
  refine enter102 _ _ ?_
  unfold B102
  repeat' (first | (simp (disch := omega) only [push_cast, ↓reduceIte, zA, zG, zB, zH, zI, zC, zJ, zK, zL, zD, zE, zF, zM, zN, zO, zP, zQ, reduceCtorEq, not_true_eq_false, not_false_eq_true]) | (first | refine vIfE_of ?_ ?_ | refine vIfD_of ?_ ?_ | refine vIfQ_of ?_ ?_ | refine vIfV_of ?_ ?_) <;> intro _ | refine And.intro (by omega) ?_ | refine drawn_q ?_ | fail)
  refine (nanS_c a w).mono ?_
  rintro _ w0 ⟨rfl, h0⟩; obtain rfl := h0.symm
  repeat' (first | (simp (disch := omega) only [push_cast, ↓reduceIte, zA, zG, zB, zH, zI, zC, zJ, zK, zL, zD, zE, zF, zM, zN, zO, zP, zQ, reduceCtorEq, not_true_eq_false, not_false_eq_true]) | (first | refine vIfE_of ?_ ?_ | refine vIfD_of ?_ ?_ | refine vIfQ_of ?_ ?_ | refine vIfV_of ?_ ?_) <;> intro _ | refine And.intro (by omega) ?_ | refine drawn_q ?_ | fail)
  refine (nanS_c b w).mono ?_
  rintro _ w0 ⟨rfl, h0⟩; obtain rfl := h0.symm
  rcases blt_tri a b with ⟨h1, h2, h3⟩ | ⟨h1, h2⟩ | ⟨h1, h2, h3⟩
  · have h1' : Op.bytesLess a.data.toList b.data.toList = true := h1
    have e : cstr a b = -1 := by simp [cstr, h1]
    repeat' (first | (simp (disch := omega) only [push_cast, ↓reduceIte, zA, zG, zB, zH, zI, zC, zJ, zK, zL, zD, zE, zF, zM, zN, zO, zP, zQ, reduceCtorEq, not_true_eq_false, not_false_eq_true, h1']) | (first | refine vIfE_of ?_ ?_ | refine vIfD_of ?_ ?_ | refine vIfQ_of ?_ ?_ | refine vIfV_of ?_ ?_) <;> intro _ | refine And.intro (by omega) ?_ | refine drawn_q ?_ | fail)
    simp [e]
  · subst h1
    have h2' : Op.bytesLess a.data.toList a.data.toList = false := h2
    have e : cstr a a = 0 := by simp [cstr, h2]
    repeat' (first | (simp (disch := omega) only [push_cast, ↓reduceIte, zA, zG, zB, zH, zI, zC, zJ, zK, zL, zD, zE, zF, zM, zN, zO, zP, zQ, reduceCtorEq, not_true_eq_false, not_false_eq_true, h2', decide_true, Bool.or_true, Bool.false_or, Bool.not_true]) | (first | refine vIfE_of ?_ ?_ | refine vIfD_of ?_ ?_ | refine vIfQ_of ?_ ?_ | refine vIfV_of ?_ ?_) <;> intro _ | refine And.intro (by omega) ?_ | refine drawn_q ?_ | fail)
    simp [e]
  · have h1' : Op.bytesLess a.data.toList b.data.toList = false := h1
    have h4 : decide (a = b) = false := decide_eq_false h3
    have e : cstr a b = 1 := by simp [cstr, h1, h3]
    repeat' (first | (simp (disch := omega) only [push_cast, ↓reduceIte, zA, zG, zB, zH, zI, zC, zJ, zK, zL, zD, zE, zF, zM, zN, zO, zP, zQ, reduceCtorEq, not_true_eq_false, not_false_eq_true, h1', h4, Bool.or_false, Bool.false_or, Bool.not_false]) | (first | refine vIfE_of ?_ ?_ | refine vIfD_of ?_ ?_ | refine vIfQ_of ?_ ?_ | refine vIfV_of ?_ ?_) <;> intro _ | refine And.intro (by omega) ?_ | refine drawn_q ?_ | fail)
    simp [e]
theorem cmpI_c (a b : Int) (w : World) : FnC Try.prog 72 #[.int .i64 a, .int .i64 b] w fun r w' => r = .int .i64 (if a < b then -1 else if b < a then 1 else 0) ∧ w' = w := by
  refine enter72 _ _ ?_
  unfold B72
  repeat' (first | (simp (disch := omega) only [push_cast, ↓reduceIte, zA, zG, zB, zH, zI, zC, zJ, zK, zL, zD, zE, zF, zM, zN, zO, zP, zQ, reduceCtorEq, not_true_eq_false, not_false_eq_true]) | (first | refine vIfE_of ?_ ?_ | refine vIfD_of ?_ ?_ | refine vIfQ_of ?_ ?_ | refine vIfV_of ?_ ?_) <;> intro _ | refine And.intro (by omega) ?_ | refine drawn_q ?_ | fail)
  refine (nanI_c a w).mono ?_
  rintro _ w0 ⟨rfl, h0⟩; obtain rfl := h0.symm
  repeat' (first | (simp (disch := omega) only [push_cast, ↓reduceIte, zA, zG, zB, zH, zI, zC, zJ, zK, zL, zD, zE, zF, zM, zN, zO, zP, zQ, reduceCtorEq, not_true_eq_false, not_false_eq_true]) | (first | refine vIfE_of ?_ ?_ | refine vIfD_of ?_ ?_ | refine vIfQ_of ?_ ?_ | refine vIfV_of ?_ ?_) <;> intro _ | refine And.intro (by omega) ?_ | refine drawn_q ?_ | fail)
  refine (nanI_c b w).mono ?_
  rintro _ w0 ⟨rfl, h0⟩; obtain rfl := h0.symm
  by_cases h1 : a < b
  · repeat' (first | (simp (disch := omega) only [push_cast, ↓reduceIte, zA, zG, zB, zH, zI, zC, zJ, zK, zL, zD, zE, zF, zM, zN, zO, zP, zQ, reduceCtorEq, not_true_eq_false, not_false_eq_true]) | (first | refine vIfE_of ?_ ?_ | refine vIfD_of ?_ ?_ | refine vIfQ_of ?_ ?_ | refine vIfV_of ?_ ?_) <;> intro _ | refine And.intro (by omega) ?_ | refine drawn_q ?_ | fail)
    simp [h1]
  · by_cases h2 : b < a
    · repeat' (first | (simp (disch := omega) only [push_cast, ↓reduceIte, zA, zG, zB, zH, zI, zC, zJ, zK, zL, zD, zE, zF, zM, zN, zO, zP, zQ, reduceCtorEq, not_true_eq_false, not_false_eq_true]) | (first | refine vIfE_of ?_ ?_ | refine vIfD_of ?_ ?_ | refine vIfQ_of ?_ ?_ | refine vIfV_of ?_ ?_) <;> intro _ | refine And.intro (by omega) ?_ | refine drawn_q ?_ | fail)
      simp [h1, h2]
    · repeat' (first | (simp (disch := omega) only [push_cast, ↓reduceIte, zA, zG, zB, zH, zI, zC, zJ, zK, zL, zD, zE, zF, zM, zN, zO, zP, zQ, reduceCtorEq, not_true_eq_false, not_false_eq_true]) | (first | refine vIfE_of ?_ ?_ | refine vIfD_of ?_ ?_ | refine vIfQ_of ?_ ?_ | refine vIfV_of ?_ ?_) <;> intro _ | refine And.intro (by omega) ?_ | refine drawn_q ?_ | fail)
      simp [h1, h2]
theorem cmpOr_c (x y : Int) (v : Value) (w : World) (h : Sl w v (([x, y] : List Int).map i64v)) : FnC Try.prog 71 #[v] w fun r w' => r = .int .i64 (if x = 0 then y else x) ∧ w' = w := by
  obtain ⟨o, c, rfl, g1, g2, h, g3⟩ := h.openM
  have hL : ([x, y] : List Int).length = 2 := rfl
  rw [hL] at h g1
  obtain ⟨a, rfl⟩ := h.some (i := 0) (by simp)
  have c0 : w.cell? a = some (.int .i64 x) := by simpa [addr_add_zero] using h.atI (i := 0) (by simp)
  have c1 : w.cell? (a.add 1) = some (.int .i64 y) := h.atI (i := 1) (by simp)
  rw [hL]
  clear hL
  refine enter71 _ ?_
  unfold B71
  repeat' (first | (simp (disch := omega) only [push_cast, ↓reduceIte, zA, zG, zB, zH, zI, zC, zJ, zK, zL, zD, zE, zF, zM, zN, zO, zP, zQ, reduceCtorEq, not_true_eq_false, not_false_eq_true]) | (first | refine vIfE_of ?_ ?_ | refine vIfD_of ?_ ?_ | refine vIfQ_of ?_ ?_ | refine vIfV_of ?_ ?_) <;> intro _ | refine And.intro (by omega) ?_ | refine drawn_q ?_ | fail)
  refine vc_loop W71_0 (fun i : Nat => [(2, .int .i64 0), (8, .int .i64 (i : Int))]) (fun i w' => i ≤ 2 ∧ w' = w ∧ (1 ≤ i → x = 0) ∧ (2 ≤ i → y = 0)) (fun i => 2 - i) 0 (by decide) ?_ ?_ ?_
  · simp (disch := omega) only [push_cast, ↓reduceIte, zA, zG, zB, zH, zI, zC, zJ, zK, zL, zD, zE, zF, zM, zN, zO, zP, zQ, reduceCtorEq, not_true_eq_false, not_false_eq_true]
  · exact ⟨by omega, rfl, by omega, by omega⟩
  rintro i uu w1 ⟨hi, hw, hx, hy⟩
  obtain rfl := hw.symm
  match i, hi with
  | 0, _ =>
    by_cases h0 : x = 0
    · subst h0
      repeat' (first | (simp (disch := omega) only [push_cast, ↓reduceIte, zA, zG, zB, zH, zI, zC, zJ, zK, zL, zD, zE, zF, zM, zN, zO, zP, zQ, reduceCtorEq, not_true_eq_false, not_false_eq_true, c0]) | (first | refine vIfE_of ?_ ?_ | refine vIfD_of ?_ ?_ | refine vIfQ_of ?_ ?_ | refine vIfV_of ?_ ?_) <;> intro _ | refine And.intro (by omega) ?_ | refine drawn_q ?_ | fail)
      exact ⟨rfl, 1, by simp (disch := omega) only [push_cast, ↓reduceIte, zA, zG, zB, zH, zI, zC, zJ, zK, zL, zD, zE, zF, zM, zN, zO, zP, zQ, reduceCtorEq, not_true_eq_false, not_false_eq_true], ⟨by omega, rfl, by simp, by simp⟩, by dsimp only; omega⟩
    · repeat' (first | (simp (disch := omega) only [push_cast, ↓reduceIte, zA, zG, zB, zH, zI, zC, zJ, zK, zL, zD, zE, zF, zM, zN, zO, zP, zQ, reduceCtorEq, not_true_eq_false, not_false_eq_true, c0]) | (first | refine vIfE_of ?_ ?_ | refine vIfD_of ?_ ?_ | refine vIfQ_of ?_ ?_ | refine vIfV_of ?_ ?_) <;> intro _ | refine And.intro (by omega) ?_ | refine drawn_q ?_ | fail)
      simp [h0]
  | 1, _ =>
    have hx := hx (by omega)
    subst hx
    by_cases h0 : y = 0
    · subst h0
      repeat' (first | (simp (disch := omega) only [push_cast, ↓reduceIte, zA, zG, zB, zH, zI, zC, zJ, zK, zL, zD, zE, zF, zM, zN, zO, zP, zQ, reduceCtorEq, not_true_eq_false, not_false_eq_true, c1]) | (first | refine vIfE_of ?_ ?_ | refine vIfD_of ?_ ?_ | refine vIfQ_of ?_ ?_ | refine vIfV_of ?_ ?_) <;> intro _ | refine And.intro (by omega) ?_ | refine drawn_q ?_ | fail)
      exact ⟨rfl, 2, by simp (disch := omega) only [push_cast, ↓reduceIte, zA, zG, zB, zH, zI, zC, zJ, zK, zL, zD, zE, zF, zM, zN, zO, zP, zQ, reduceCtorEq, not_true_eq_false, not_false_eq_true], ⟨by omega, rfl, by simp, by simp⟩, by dsimp only; omega⟩
    · repeat' (first | (simp (disch := omega) only [push_cast, ↓reduceIte, zA, zG, zB, zH, zI, zC, zJ, zK, zL, zD, zE, zF, zM, zN, zO, zP, zQ, reduceCtorEq, not_true_eq_false, not_false_eq_true, c1]) | (first | refine vIfE_of ?_ ?_ | refine vIfD_of ?_ ?_ | refine vIfQ_of ?_ ?_ | refine vIfV_of ?_ ?_) <;> intro _ | refine And.intro (by omega) ?_ | refine drawn_q ?_ | fail)
      all_goals simp
  | 2, _ =>
    have hx := hx (by omega)
    have hy := hy (by omega)
    subst hx
    subst hy
    repeat' (first | (simp (disch := omega) only [push_cast, ↓reduceIte, zA, zG, zB, zH, zI, zC, zJ, zK, zL, zD, zE, zF, zM, zN, zO, zP, zQ, reduceCtorEq, not_true_eq_false, not_false_eq_true]) | (first | refine vIfE_of ?_ ?_ | refine vIfD_of ?_ ?_ | refine vIfQ_of ?_ ?_ | refine vIfV_of ?_ ?_) <;> intro _ | refine And.intro (by omega) ?_ | refine drawn_q ?_ | fail)
    all_goals simp
theorem clist_step {a b : List ByteArray} {i : Nat} (ha : i < a.length) (hb : i < b.length) : clist (a.drop i) (b.drop i) = if cstr a[i] b[i] = 0 then clist (a.drop (i + 1)) (b.drop (i + 1)) else cstr a[i] b[i] := by
  rw [List.drop_eq_getElem_cons ha, List.drop_eq_getElem_cons hb, clist]
theorem clist_l {a b : List ByteArray} {i : Nat} (ha : i < a.length) (hb : b.length ≤ i) : clist (a.drop i) (b.drop i) = 1 := by
  rw [List.drop_eq_getElem_cons ha, List.drop_eq_nil_of_le hb, clist]
theorem clist_r {a b : List ByteArray} {i : Nat} (ha : a.length ≤ i) (hb : i < b.length) : clist (a.drop i) (b.drop i) = -1 := by
  rw [List.drop_eq_getElem_cons hb, List.drop_eq_nil_of_le ha, clist]
theorem clist_n {a b : List ByteArray} {i : Nat} (ha : a.length ≤ i) (hb : b.length ≤ i) : clist (a.drop i) (b.drop i) = 0 := by
  rw [List.drop_eq_nil_of_le hb, List.drop_eq_nil_of_le ha, clist]
theorem scmp_c (u v : Value) (a b : List ByteArray) (w : World) (hu : StS w u a) (hv : StS w v b) : FnC Try.prog 73 #[u, v] w fun r w' => r = .int .i64 (clist a b) ∧ w' = w := by
  obtain ⟨oa, ca, rfl, g1, g2, hu, g3⟩ := hu.openM
  obtain ⟨ob, cb, rfl, k1, k2, hv, k3⟩ := hv.openM
  refine enter73 _ _ ?_
  unfold B73
  repeat' (first | (simp (disch := omega) only [push_cast, ↓reduceIte, zA, zG, zB, zH, zI, zC, zJ, zK, zL, zD, zE, zF, zM, zN, zO, zP, zQ, reduceCtorEq, not_true_eq_false, not_false_eq_true]) | (first | refine vIfE_of ?_ ?_ | refine vIfD_of ?_ ?_ | refine vIfQ_of ?_ ?_ | refine vIfV_of ?_ ?_) <;> intro _ | refine And.intro (by omega) ?_ | refine drawn_q ?_ | fail)
  refine vc_loop W73_0 (fun i : Nat => [(4, .int .i64 0), (11, .int .i64 (i : Int))])
    (fun i w' => i ≤ a.length ∧ i ≤ b.length ∧ w' = w ∧ clist (a.drop i) (b.drop i) = clist a b) (fun i => a.length - i) 0 (by decide) ?_ ?_ ?_
  · simp (disch := omega) only [push_cast, ↓reduceIte, zA, zG, zB, zH, zI, zC, zJ, zK, zL, zD, zE, zF, zM, zN, zO, zP, zQ, reduceCtorEq, not_true_eq_false, not_false_eq_true]
  · exact ⟨by omega, by omega, rfl, by simp⟩
  rintro i uu w0 ⟨hi, hib, hw, he⟩
  obtain rfl := hw.symm
  by_cases ha : i < a.length
  · obtain ⟨aa, rfl⟩ := hu.some ha
    have c1 := StS.atS hu ha
    by_cases hb : i < b.length
    · obtain ⟨bb, rfl⟩ := hv.some hb
      have c2 := StS.atS hv hb
      rw [clist_step ha hb] at he
      repeat' (first | (simp (disch := omega) only [push_cast, ↓reduceIte, zA, zG, zB, zH, zI, zC, zJ, zK, zL, zD, zE, zF, zM, zN, zO, zP, zQ, reduceCtorEq, not_true_eq_false, not_false_eq_true, c1, c2]) | (first | refine vIfE_of ?_ ?_ | refine vIfD_of ?_ ?_ | refine vIfQ_of ?_ ?_ | refine vIfV_of ?_ ?_) <;> intro _ | refine And.intro (by omega) ?_ | refine drawn_q ?_ | fail)
      refine (cmpS_c _ _ w).mono ?_
      rintro _ w0 ⟨rfl, h0⟩; obtain rfl := h0.symm
      by_cases h0 : cstr a[i] b[i] = 0
      · rw [if_pos h0] at he
        repeat' (first | (simp (disch := omega) only [push_cast, ↓reduceIte, zA, zG, zB, zH, zI, zC, zJ, zK, zL, zD, zE, zF, zM, zN, zO, zP, zQ, reduceCtorEq, not_true_eq_false, not_false_eq_true, h0]) | (first | refine vIfE_of ?_ ?_ | refine vIfD_of ?_ ?_ | refine vIfQ_of ?_ ?_ | refine vIfV_of ?_ ?_) <;> intro _ | refine And.intro (by omega) ?_ | refine drawn_q ?_ | fail)
        exact ⟨rfl, i + 1, by simp (disch := omega) only [push_cast, ↓reduceIte, zA, zG, zB, zH, zI, zC, zJ, zK, zL, zD, zE, zF, zM, zN, zO, zP, zQ, reduceCtorEq, not_true_eq_false, not_false_eq_true], ⟨by omega, by omega, rfl, he⟩, by dsimp only; omega⟩
      · rw [if_neg h0] at he
        repeat' (first | (simp (disch := omega) only [push_cast, ↓reduceIte, zA, zG, zB, zH, zI, zC, zJ, zK, zL, zD, zE, zF, zM, zN, zO, zP, zQ, reduceCtorEq, not_true_eq_false, not_false_eq_true]) | (first | refine vIfE_of ?_ ?_ | refine vIfD_of ?_ ?_ | refine vIfQ_of ?_ ?_ | refine vIfV_of ?_ ?_) <;> intro _ | refine And.intro (by omega) ?_ | refine drawn_q ?_ | fail)
        simp [he]
    · have hb' : b.length ≤ i := by omega
      rw [clist_l ha hb'] at he
      repeat' (first | (simp (disch := omega) only [push_cast, ↓reduceIte, zA, zG, zB, zH, zI, zC, zJ, zK, zL, zD, zE, zF, zM, zN, zO, zP, zQ, reduceCtorEq, not_true_eq_false, not_false_eq_true, c1]) | (first | refine vIfE_of ?_ ?_ | refine vIfD_of ?_ ?_ | refine vIfQ_of ?_ ?_ | refine vIfV_of ?_ ?_) <;> intro _ | refine And.intro (by omega) ?_ | refine drawn_q ?_ | fail)
      simp [← he]
  · by_cases hb : i < b.length
    · rw [clist_r (by omega) hb] at he
      repeat' (first | (simp (disch := omega) only [push_cast, ↓reduceIte, zA, zG, zB, zH, zI, zC, zJ, zK, zL, zD, zE, zF, zM, zN, zO, zP, zQ, reduceCtorEq, not_true_eq_false, not_false_eq_true]) | (first | refine vIfE_of ?_ ?_ | refine vIfD_of ?_ ?_ | refine vIfQ_of ?_ ?_ | refine vIfV_of ?_ ?_) <;> intro _ | refine And.intro (by omega) ?_ | refine drawn_q ?_ | fail)
      simp [← he]
    · rw [clist_n (by omega) (by omega)] at he
      repeat' (first | (simp (disch := omega) only [push_cast, ↓reduceIte, zA, zG, zB, zH, zI, zC, zJ, zK, zL, zD, zE, zF, zM, zN, zO, zP, zQ, reduceCtorEq, not_true_eq_false, not_false_eq_true]) | (first | refine vIfE_of ?_ ?_ | refine vIfD_of ?_ ?_ | refine vIfQ_of ?_ ?_ | refine vIfV_of ?_ ?_) <;> intro _ | refine And.intro (by omega) ?_ | refine drawn_q ?_ | fail)
      simp [← he]
theorem texts_c (u v : Value) (a b : List ByteArray) (w : World) (hu : StS w u a) (hv : StS w v b) : FnC Try.prog 21 #[u, v] w fun r w' => r = .bool (decide (a = b)) ∧ Later w w' := by
  obtain ⟨oa, ca, rfl, g1, g2, hu, g3⟩ := hu.openM
  obtain ⟨ob, cb, rfl, k1, k2, hv, k3⟩ := hv.openM
  refine enter21 _ _ ?_
  unfold B21
  by_cases hlen : a.length = b.length
  · repeat' (first | (simp (disch := omega) only [push_cast, ↓reduceIte, zA, zG, zB, zH, zI, zC, zJ, zK, zL, zD, zE, zF, zM, zN, zO, zP, zQ, reduceCtorEq, not_true_eq_false, not_false_eq_true]) | (first | refine vIfE_of ?_ ?_ | refine vIfD_of ?_ ?_ | refine vIfQ_of ?_ ?_ | refine vIfV_of ?_ ?_) <;> intro _ | refine And.intro (by omega) ?_ | refine drawn_q ?_ | fail)
    refine vc_loop W21_0 (fun i : Nat => [(4, .bool false), (5, .int .i64 (i : Int))])
      (fun i w' => i ≤ a.length ∧ Later w w' ∧ a.take i = b.take i) (fun i => a.length - i) 0 (by decide) ?_ ?_ ?_
    · simp (disch := omega) only [push_cast, ↓reduceIte, zA, zG, zB, zH, zI, zC, zJ, zK, zL, zD, zE, zF, zM, zN, zO, zP, zQ, reduceCtorEq, not_true_eq_false, not_false_eq_true]
    · exact ⟨by omega, Later.refl _, by simp⟩
    rintro i uu w0 ⟨hi, hl, he⟩
    by_cases ha : i < a.length
    · have hb : i < b.length := by omega
      obtain ⟨aa, rfl⟩ := hu.some ha
      obtain ⟨bb, rfl⟩ := hv.some hb
      have c1 := StS.atS (hu.later hl) ha
      have c2 := StS.atS (hv.later hl) hb
      by_cases hab : a[i] = b[i]
      · repeat' (first | (simp (disch := omega) only [push_cast, ↓reduceIte, zA, zG, zB, zH, zI, zC, zJ, zK, zL, zD, zE, zF, zM, zN, zO, zP, zQ, reduceCtorEq, not_true_eq_false, not_false_eq_true, c1, c2, hab, decide_true, Bool.not_true]) | (first | refine vIfE_of ?_ ?_ | refine vIfD_of ?_ ?_ | refine vIfQ_of ?_ ?_ | refine vIfV_of ?_ ?_) <;> intro _ | refine And.intro (by omega) ?_ | refine drawn_q ?_ | fail)
        intro w1 hl1
        repeat' (first | (simp (disch := omega) only [push_cast, ↓reduceIte, zA, zG, zB, zH, zI, zC, zJ, zK, zL, zD, zE, zF, zM, zN, zO, zP, zQ, reduceCtorEq, not_true_eq_false, not_false_eq_true]) | (first | refine vIfE_of ?_ ?_ | refine vIfD_of ?_ ?_ | refine vIfQ_of ?_ ?_ | refine vIfV_of ?_ ?_) <;> intro _ | refine And.intro (by omega) ?_ | refine drawn_q ?_ | fail)
        refine ⟨rfl, i + 1, by simp (disch := omega) only [push_cast, ↓reduceIte, zA, zG, zB, zH, zI, zC, zJ, zK, zL, zD, zE, zF, zM, zN, zO, zP, zQ, reduceCtorEq, not_true_eq_false, not_false_eq_true], ⟨by omega, hl.trans hl1, ?_⟩, by simp; omega⟩
        rw [take_snoc a i ha, take_snoc b i hb, he, hab]
      · have hne : a ≠ b := fun e => by subst e; exact hab rfl
        repeat' (first | (simp (disch := omega) only [push_cast, ↓reduceIte, zA, zG, zB, zH, zI, zC, zJ, zK, zL, zD, zE, zF, zM, zN, zO, zP, zQ, reduceCtorEq, not_true_eq_false, not_false_eq_true, c1, c2, hab, decide_false, Bool.not_false]) | (first | refine vIfE_of ?_ ?_ | refine vIfD_of ?_ ?_ | refine vIfQ_of ?_ ?_ | refine vIfV_of ?_ ?_) <;> intro _ | refine And.intro (by omega) ?_ | refine drawn_q ?_ | fail)
        intro w1 hl1
        repeat' (first | (simp (disch := omega) only [push_cast, ↓reduceIte, zA, zG, zB, zH, zI, zC, zJ, zK, zL, zD, zE, zF, zM, zN, zO, zP, zQ, reduceCtorEq, not_true_eq_false, not_false_eq_true]) | (first | refine vIfE_of ?_ ?_ | refine vIfD_of ?_ ?_ | refine vIfQ_of ?_ ?_ | refine vIfV_of ?_ ?_) <;> intro _ | refine And.intro (by omega) ?_ | refine drawn_q ?_ | fail)
        simp [hne, hl.trans hl1]
    · have e : i = a.length := by omega
      subst e
      rw [List.take_length, hlen, List.take_length] at he
      repeat' (first | (simp (disch := omega) only [push_cast, ↓reduceIte, zA, zG, zB, zH, zI, zC, zJ, zK, zL, zD, zE, zF, zM, zN, zO, zP, zQ, reduceCtorEq, not_true_eq_false, not_false_eq_true]) | (first | refine vIfE_of ?_ ?_ | refine vIfD_of ?_ ?_ | refine vIfQ_of ?_ ?_ | refine vIfV_of ?_ ?_) <;> intro _ | refine And.intro (by omega) ?_ | refine drawn_q ?_ | fail)
      simp [he, hl]
  · have hne : a ≠ b := fun e => by subst e; exact hlen rfl
    repeat' (first | (simp (disch := omega) only [push_cast, ↓reduceIte, zA, zG, zB, zH, zI, zC, zJ, zK, zL, zD, zE, zF, zM, zN, zO, zP, zQ, reduceCtorEq, not_true_eq_false, not_false_eq_true]) | (first | refine vIfE_of ?_ ?_ | refine vIfD_of ?_ ?_ | refine vIfQ_of ?_ ?_ | refine vIfV_of ?_ ?_) <;> intro _ | refine And.intro (by omega) ?_ | refine drawn_q ?_ | fail)
    simp [hne, Later.refl]
end Go.Proofs.Ythihbgpaoldbjaa
end
