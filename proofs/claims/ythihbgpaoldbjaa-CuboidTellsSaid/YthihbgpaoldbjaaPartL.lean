/- The functions' code in the generator's form. Written by a program (codes.py) out of Lean's own print of the loaded translation. -/
import Derived.Test.YthihbgpaoldbjaaPartK
set_option linter.all false
open Nat renaming reduceEqDiff → zA, reducePow → zB, reduceMul → zC, reduceAdd → zD, reduceSub → zE, reduceLeDiff → zF
open Int renaming reduceToNat → zG, reducePow → zH, reduceNeg → zI, reduceMul → zJ, reduceAdd → zK, reduceSub → zL, reduceLT → zM, reduceLE → zN, reduceEq → zO, reduceMod → zP, reduceDiv → zQ
section
namespace Go.Proofs.Ythihbgpaoldbjaa
open Go.Vc
set_option maxRecDepth 100000
variable (Q : Post) (ds : List Deferred) (σ : Env) (w : World)
/-! 13 columbary/cuboid.Project (params #[24, 25, 22, 3], results #[(.tmp 8), (.tmp 9)], 96 slots) -/
def W13_0 : List Nat := [10, 12, 13, 14, 33, 34, 35, 36, 37, 38, 39, 40, 41, 42, 43, 44, 45, 46, 47]
@[push_cast] theorem W13_0_def : W13_0 = [10, 12, 13, 14, 33, 34, 35, 36, 37, 38, 39, 40, 41, 42, 43, 44, 45, 46, 47] := mk_eq rfl
def W13_1 : List Nat := [15, 17, 18, 20, 53, 54, 55, 56, 57, 58, 59, 60, 61, 62, 63, 64, 65, 66, 67, 68, 69, 70, 71, 72, 73, 74, 75, 76, 77, 78, 79, 80, 81, 82, 83, 84, 85, 86, 87, 88, 89, 90, 91]
@[push_cast] theorem W13_1_def : W13_1 = [15, 17, 18, 20, 53, 54, 55, 56, 57, 58, 59, 60, 61, 62, 63, 64, 65, 66, 67, 68, 69, 70, 71, 72, 73, 74, 75, 76, 77, 78, 79, 80, 81, 82, 83, 84, 85, 86, 87, 88, 89, 90, 91] := mk_eq rfl
def W13_2 : List Nat := [20, 72, 73, 74, 75, 76, 77, 78, 79, 80, 81, 82, 83, 84, 85, 86]
@[push_cast] theorem W13_2_def : W13_2 = [20, 72, 73, 74, 75, 76, 77, 78, 79, 80, 81, 82, 83, 84, 85, 86] := mk_eq rfl
def r13_0 : List VOp :=
  [⟨some 4, .box 24 (.tmp 0), 0, none⟩,
   ⟨some 8, .assign (.const (.slice none 0 0)), 25, none⟩,
   ⟨some 9, .assign (.const (.int .i64 0)), 28, none⟩]
def r13_1 : List VOp :=
  [mv 22 2 22,
   fad 23 24 4 0,
   lda 24 22 23,
   ⟨some 25, .call ⟨.value (.func 41), #[.tmp 22, .tmp 24], #[22, 22]⟩, 4, none⟩,
   ⟨some 26, .unOp .not 4 (.tmp 25), 4, none⟩,
   asg 21 26 4]
def r13_2 : List VOp :=
  [⟨some 8, .assign (.const (.slice none 0 0)), 25, none⟩,
   ⟨some 9, .assign (.const (.int .i64 141)), 28, none⟩]
def r13_3 : List VOp :=
  [mv 28 3 3,
   ⟨some 29, .call ⟨.value (.func 42), #[.tmp 28], #[3]⟩, 4, none⟩,
   ⟨some 30, .unOp .not 4 (.tmp 29), 4, none⟩,
   asg 27 30 4]
def r13_4 : List VOp :=
  [⟨some 8, .assign (.const (.slice none 0 0)), 25, none⟩,
   ⟨some 9, .assign (.const (.int .i64 111)), 28, none⟩]
def r13_5 : List VOp :=
  [⟨some 10, .assign (.const (.slice none 0 0)), 47, none⟩]
def r13_6 : List VOp :=
  [mv 31 2 22,
   ⟨some 32, .call ⟨.builtin .len, #[.tmp 31], #[22]⟩, 3, none⟩,
   ⟨some 33, .move (.const (.int .i64 0)), 3, none⟩]
def r13_7 : List VOp :=
  [⟨some 34, .binOp .lss 3 (.tmp 33) (.tmp 32) 3, 0, none⟩]
def r13_8 : List VOp :=
  [iad 35 22 31 33,
   lda 36 9 35,
   asg 12 36 9]
def r13_9 : List VOp :=
  [lda 38 24 4,
   mv 39 12 9,
   ⟨some 40, .call ⟨.value (.func 43), #[.tmp 38, .tmp 39], #[24, 9]⟩, 69, none⟩,
   mv 37 40 69,
   ext 41 37 0 3,
   ext 42 37 1 4,
   asg 13 41 3,
   asg 14 42 4]
def r13_10 : List VOp :=
  [mv 43 10 47,
   mv 44 13 3,
   ⟨some 45, .buildSlice 47 1 #[(0, (.tmp 44))], 47, none⟩,
   ⟨some 46, .call ⟨.builtin .append, #[.tmp 43, .tmp 45], #[47, 47]⟩, 47, none⟩,
   asg 10 46 47]
def r13_11 : List VOp :=
  [⟨some 47, .binOp .add 3 (.tmp 33) (.const (.int .i64 1)) 3, 3, none⟩,
   mv 33 47 3]
def r13_12 : List VOp :=
  [mv 48 1 25,
   ⟨some 49, .call ⟨.builtin .len, #[.tmp 48], #[25]⟩, 3, none⟩,
   ⟨some 50, .makeSlice 25 (.const (.int .i64 0)) (.tmp 49), 25, none⟩,
   asg 15 50 25]
def r13_13 : List VOp :=
  [mv 51 1 25,
   ⟨some 52, .call ⟨.builtin .len, #[.tmp 51], #[25]⟩, 3, none⟩,
   ⟨some 53, .move (.const (.int .i64 0)), 3, none⟩]
def r13_14 : List VOp :=
  [⟨some 54, .binOp .lss 3 (.tmp 53) (.tmp 52) 3, 0, none⟩]
def r13_15 : List VOp :=
  [iad 55 25 51 53,
   lda 56 35 55,
   ⟨some 17, .alloc 35, 0, none⟩,
   ⟨none, .store 35 (.tmp 17) (.tmp 56), 0, none⟩]
def r13_16 : List VOp :=
  [fad 57 35 17 2,
   lda 58 3 57,
   fad 59 35 17 3,
   lda 60 33 59,
   ⟨some 61, .build 35 #[(2, (.tmp 58)), (3, (.tmp 60))], 35, none⟩,
   ⟨some 18, .alloc 35, 0, none⟩,
   ⟨none, .store 35 (.tmp 18) (.tmp 61), 0, none⟩]
def r13_17 : List VOp :=
  [fad 63 35 17 0,
   lda 64 3 63,
   mv 65 3 3,
   ⟨some 66, .call ⟨.value (.func 44), #[.tmp 64, .tmp 65], #[3, 3]⟩, 71, none⟩,
   mv 62 66 71,
   ext 67 62 0 3,
   ext 68 62 1 28,
   fad 69 35 18 0,
   ⟨none, .store 3 (.tmp 69) (.tmp 67), 0, none⟩]
def r13_18 : List VOp :=
  [mv 70 10 47,
   ⟨some 71, .call ⟨.builtin .len, #[.tmp 70], #[47]⟩, 3, none⟩,
   ⟨some 72, .move (.const (.int .i64 0)), 3, none⟩]
def r13_19 : List VOp :=
  [⟨some 73, .binOp .lss 3 (.tmp 72) (.tmp 71) 3, 0, none⟩]
def r13_20 : List VOp :=
  [iad 74 47 70 72,
   lda 75 3 74,
   asg 20 75 3]
def r13_21 : List VOp :=
  [fad 76 35 18 1,
   lda 77 22 76,
   fad 78 35 17 1,
   lda 79 22 78,
   mv 80 20 3,
   iad 81 22 79 80,
   lda 82 9 81,
   ⟨some 83, .buildSlice 22 1 #[(0, (.tmp 82))], 22, none⟩,
   ⟨some 84, .call ⟨.builtin .append, #[.tmp 77, .tmp 83], #[22, 22]⟩, 22, none⟩,
   fad 85 35 18 1,
   ⟨none, .store 22 (.tmp 85) (.tmp 84), 0, none⟩]
def r13_22 : List VOp :=
  [⟨some 86, .binOp .add 3 (.tmp 72) (.const (.int .i64 1)) 3, 3, none⟩,
   mv 72 86 3]
def r13_23 : List VOp :=
  [mv 87 15 25,
   lda 88 35 18,
   ⟨some 89, .buildSlice 25 1 #[(0, (.tmp 88))], 25, none⟩,
   ⟨some 90, .call ⟨.builtin .append, #[.tmp 87, .tmp 89], #[25, 25]⟩, 25, none⟩,
   asg 15 90 25]
def r13_24 : List VOp :=
  [⟨some 91, .binOp .add 3 (.tmp 53) (.const (.int .i64 1)) 3, 3, none⟩,
   mv 53 91 3]
def r13_25 : List VOp :=
  [mv 92 15 25,
   ⟨some 93, .call ⟨.value (.func 31), #[.tmp 92], #[25]⟩, 29, none⟩,
   ext 94 93 0 25,
   ext 95 93 1 28,
   asg 8 94 25,
   asg 9 95 28]
def B13 : VC :=
  (.seq (.region r13_0) (.seq (.block 0 (.seq (.region r13_1) (.cond (.tmp 21) (.seq (.region r13_2) .ret) (.seq (.region r13_3) (.cond (.tmp 27) (.seq (.region r13_4) .ret) .skip))))) (.seq (.region r13_5) (.seq (.seq (.region r13_6) (.block 1 (.loop (.seq (.region r13_7) (.seq (.cond (.tmp 34) .skip (.exit 1)) (.seq (.block 2 (.seq (.region r13_8) (.seq (.region r13_9) (.region r13_10)))) (.region r13_11))))))) (.seq (.region r13_12) (.seq (.seq (.region r13_13) (.block 3 (.loop (.seq (.region r13_14) (.seq (.cond (.tmp 54) .skip (.exit 3)) (.seq (.block 4 (.seq (.region r13_15) (.seq (.region r13_16) (.seq (.region r13_17) (.seq (.seq (.region r13_18) (.block 5 (.loop (.seq (.region r13_19) (.seq (.cond (.tmp 73) .skip (.exit 5)) (.seq (.block 6 (.seq (.region r13_20) (.draw r13_21 4))) (.region r13_22))))))) (.region r13_23)))))) (.region r13_24))))))) (.seq (.region r13_25) .ret)))))))
theorem code13 : ∃ c, Try.f13.body = some c ∧ abs Try.f13.ntmps c = B13 := ⟨_, rfl, by kernel_rfl⟩
theorem hb13 : HasBody Try.prog 13 := hasBody_of Try.func13 (by kernel_rfl)
theorem res13 : Try.f13.results = #[(.tmp 8), (.tmp 9)] := rfl
theorem enter13 {w : World} {R : Value → World → Prop} (x0 x1 x2 x3 : Value) (h : vc Try.prog B13 (retK Try.prog #[(.tmp 8), (.tmp 9)] R) [] (initEnv [x0, x1, x2, x3] 0) w) : FnC Try.prog 13 #[x0, x1, x2, x3] w R := by
  obtain ⟨c, h1, h2⟩ := code13
  exact hb13.fn (ret_of_vc mixed Try.func13 h1 (Nat.le_of_ble_eq_true rfl) B13 h2 h)
@[push_cast] theorem vr13_0 : VR r13_0 [⟨some 4, .box 24 (.tmp 0), 0, none⟩, ⟨some 8, .assign (.const (.slice none 0 0)), 25, none⟩, ⟨some 9, .assign (.const (.int .i64 0)), 28, none⟩] := vR rfl
@[push_cast] theorem vr13_1 : VR r13_1 [⟨some 22, .move (.tmp 2), 22, none⟩, ⟨some 23, .fieldAddr 24 (.tmp 4) 0, 0, none⟩, ⟨some 24, .load 22 (.tmp 23), 22, none⟩, ⟨some 25, .call ⟨.value (.func 41), #[.tmp 22, .tmp 24], #[22, 22]⟩, 4, none⟩, ⟨some 26, .unOp .not 4 (.tmp 25), 4, none⟩, ⟨some 21, .assign (.tmp 26), 4, none⟩] := vR rfl
@[push_cast] theorem vr13_2 : VR r13_2 [⟨some 8, .assign (.const (.slice none 0 0)), 25, none⟩, ⟨some 9, .assign (.const (.int .i64 141)), 28, none⟩] := vR rfl
@[push_cast] theorem vr13_3 : VR r13_3 [⟨some 28, .move (.tmp 3), 3, none⟩, ⟨some 29, .call ⟨.value (.func 42), #[.tmp 28], #[3]⟩, 4, none⟩, ⟨some 30, .unOp .not 4 (.tmp 29), 4, none⟩, ⟨some 27, .assign (.tmp 30), 4, none⟩] := vR rfl
@[push_cast] theorem vr13_4 : VR r13_4 [⟨some 8, .assign (.const (.slice none 0 0)), 25, none⟩, ⟨some 9, .assign (.const (.int .i64 111)), 28, none⟩] := vR rfl
@[push_cast] theorem vr13_5 : VR r13_5 [⟨some 10, .assign (.const (.slice none 0 0)), 47, none⟩] := vR rfl
@[push_cast] theorem vr13_6 : VR r13_6 [⟨some 31, .move (.tmp 2), 22, none⟩, ⟨some 32, .call ⟨.builtin .len, #[.tmp 31], #[22]⟩, 3, none⟩, ⟨some 33, .move (.const (.int .i64 0)), 3, none⟩] := vR rfl
@[push_cast] theorem vr13_7 : VR r13_7 [⟨some 34, .binOp .lss 3 (.tmp 33) (.tmp 32) 3, 0, none⟩] := vR rfl
@[push_cast] theorem vr13_8 : VR r13_8 [⟨some 35, .indexAddr 22 (.tmp 31) (.tmp 33), 0, none⟩, ⟨some 36, .load 9 (.tmp 35), 9, none⟩, ⟨some 12, .assign (.tmp 36), 9, none⟩] := vR rfl
@[push_cast] theorem vr13_9 : VR r13_9 [⟨some 38, .load 24 (.tmp 4), 24, none⟩, ⟨some 39, .move (.tmp 12), 9, none⟩, ⟨some 40, .call ⟨.value (.func 43), #[.tmp 38, .tmp 39], #[24, 9]⟩, 69, none⟩, ⟨some 37, .move (.tmp 40), 69, none⟩, ⟨some 41, .extract (.tmp 37) 0, 3, none⟩, ⟨some 42, .extract (.tmp 37) 1, 4, none⟩, ⟨some 13, .assign (.tmp 41), 3, none⟩, ⟨some 14, .assign (.tmp 42), 4, none⟩] := vR rfl
@[push_cast] theorem vr13_10 : VR r13_10 [⟨some 43, .move (.tmp 10), 47, none⟩, ⟨some 44, .move (.tmp 13), 3, none⟩, ⟨some 45, .buildSlice 47 1 #[(0, (.tmp 44))], 47, none⟩, ⟨some 46, .call ⟨.builtin .append, #[.tmp 43, .tmp 45], #[47, 47]⟩, 47, none⟩, ⟨some 10, .assign (.tmp 46), 47, none⟩] := vR rfl
@[push_cast] theorem vr13_11 : VR r13_11 [⟨some 47, .binOp .add 3 (.tmp 33) (.const (.int .i64 1)) 3, 3, none⟩, ⟨some 33, .move (.tmp 47), 3, none⟩] := vR rfl
@[push_cast] theorem vr13_12 : VR r13_12 [⟨some 48, .move (.tmp 1), 25, none⟩, ⟨some 49, .call ⟨.builtin .len, #[.tmp 48], #[25]⟩, 3, none⟩, ⟨some 50, .makeSlice 25 (.const (.int .i64 0)) (.tmp 49), 25, none⟩, ⟨some 15, .assign (.tmp 50), 25, none⟩] := vR rfl
@[push_cast] theorem vr13_13 : VR r13_13 [⟨some 51, .move (.tmp 1), 25, none⟩, ⟨some 52, .call ⟨.builtin .len, #[.tmp 51], #[25]⟩, 3, none⟩, ⟨some 53, .move (.const (.int .i64 0)), 3, none⟩] := vR rfl
@[push_cast] theorem vr13_14 : VR r13_14 [⟨some 54, .binOp .lss 3 (.tmp 53) (.tmp 52) 3, 0, none⟩] := vR rfl
@[push_cast] theorem vr13_15 : VR r13_15 [⟨some 55, .indexAddr 25 (.tmp 51) (.tmp 53), 0, none⟩, ⟨some 56, .load 35 (.tmp 55), 35, none⟩, ⟨some 17, .alloc 35, 0, none⟩, ⟨none, .store 35 (.tmp 17) (.tmp 56), 0, none⟩] := vR rfl
@[push_cast] theorem vr13_16 : VR r13_16 [⟨some 57, .fieldAddr 35 (.tmp 17) 2, 0, none⟩, ⟨some 58, .load 3 (.tmp 57), 3, none⟩, ⟨some 59, .fieldAddr 35 (.tmp 17) 3, 0, none⟩, ⟨some 60, .load 33 (.tmp 59), 33, none⟩, ⟨some 61, .build 35 #[(2, (.tmp 58)), (3, (.tmp 60))], 35, none⟩, ⟨some 18, .alloc 35, 0, none⟩, ⟨none, .store 35 (.tmp 18) (.tmp 61), 0, none⟩] := vR rfl
@[push_cast] theorem vr13_17 : VR r13_17 [⟨some 63, .fieldAddr 35 (.tmp 17) 0, 0, none⟩, ⟨some 64, .load 3 (.tmp 63), 3, none⟩, ⟨some 65, .move (.tmp 3), 3, none⟩, ⟨some 66, .call ⟨.value (.func 44), #[.tmp 64, .tmp 65], #[3, 3]⟩, 71, none⟩, ⟨some 62, .move (.tmp 66), 71, none⟩, ⟨some 67, .extract (.tmp 62) 0, 3, none⟩, ⟨some 68, .extract (.tmp 62) 1, 28, none⟩, ⟨some 69, .fieldAddr 35 (.tmp 18) 0, 0, none⟩, ⟨none, .store 3 (.tmp 69) (.tmp 67), 0, none⟩] := vR rfl
@[push_cast] theorem vr13_18 : VR r13_18 [⟨some 70, .move (.tmp 10), 47, none⟩, ⟨some 71, .call ⟨.builtin .len, #[.tmp 70], #[47]⟩, 3, none⟩, ⟨some 72, .move (.const (.int .i64 0)), 3, none⟩] := vR rfl
@[push_cast] theorem vr13_19 : VR r13_19 [⟨some 73, .binOp .lss 3 (.tmp 72) (.tmp 71) 3, 0, none⟩] := vR rfl
@[push_cast] theorem vr13_20 : VR r13_20 [⟨some 74, .indexAddr 47 (.tmp 70) (.tmp 72), 0, none⟩, ⟨some 75, .load 3 (.tmp 74), 3, none⟩, ⟨some 20, .assign (.tmp 75), 3, none⟩] := vR rfl
@[push_cast] theorem vr13_21 : vc Try.prog (.draw r13_21 4) Q ds σ w = drawn Try.prog [(⟨some 76, .fieldAddr 35 (.tmp 18) 1, 0, none⟩, [18]), (⟨some 77, .load 22 (.tmp 76), 22, none⟩, [76]), (⟨some 78, .fieldAddr 35 (.tmp 17) 1, 0, none⟩, [17]), (⟨some 79, .load 22 (.tmp 78), 22, none⟩, [78]), (⟨some 80, .move (.tmp 20), 3, none⟩, [20]), (⟨some 81, .indexAddr 22 (.tmp 79) (.tmp 80), 0, none⟩, [79, 80]), (⟨some 82, .load 9 (.tmp 81), 9, none⟩, [81]), (⟨some 83, .buildSlice 22 1 #[(0, (.tmp 82))], 22, none⟩, [82]), (⟨some 84, .call ⟨.builtin .append, #[.tmp 77, .tmp 83], #[22, 22]⟩, 22, none⟩, [77, 83]), (⟨some 85, .fieldAddr 35 (.tmp 18) 1, 0, none⟩, [18]), (⟨none, .store 22 (.tmp 85) (.tmp 84), 0, none⟩, [85, 84])] 4 (Q .normal ds) σ w := mk_eq rfl
@[push_cast] theorem vr13_22 : VR r13_22 [⟨some 86, .binOp .add 3 (.tmp 72) (.const (.int .i64 1)) 3, 3, none⟩, ⟨some 72, .move (.tmp 86), 3, none⟩] := vR rfl
@[push_cast] theorem vr13_23 : VR r13_23 [⟨some 87, .move (.tmp 15), 25, none⟩, ⟨some 88, .load 35 (.tmp 18), 35, none⟩, ⟨some 89, .buildSlice 25 1 #[(0, (.tmp 88))], 25, none⟩, ⟨some 90, .call ⟨.builtin .append, #[.tmp 87, .tmp 89], #[25, 25]⟩, 25, none⟩, ⟨some 15, .assign (.tmp 90), 25, none⟩] := vR rfl
@[push_cast] theorem vr13_24 : VR r13_24 [⟨some 91, .binOp .add 3 (.tmp 53) (.const (.int .i64 1)) 3, 3, none⟩, ⟨some 53, .move (.tmp 91), 3, none⟩] := vR rfl
@[push_cast] theorem vr13_25 : VR r13_25 [⟨some 92, .move (.tmp 15), 25, none⟩, ⟨some 93, .call ⟨.value (.func 31), #[.tmp 92], #[25]⟩, 29, none⟩, ⟨some 94, .extract (.tmp 93) 0, 25, none⟩, ⟨some 95, .extract (.tmp 93) 1, 28, none⟩, ⟨some 8, .assign (.tmp 94), 25, none⟩, ⟨some 9, .assign (.tmp 95), 28, none⟩] := vR rfl
/-! 17 columbary/cuboid.Split (params #[25, 3], results #[(.tmp 4), (.tmp 5)], 12 slots) -/
def r17_0 : List VOp :=
  [⟨some 3, .box 3 (.tmp 1), 0, none⟩,
   ⟨some 4, .assign (.const (.slice none 0 0)), 25, none⟩,
   ⟨some 5, .assign (.const (.slice none 0 0)), 25, none⟩]
def r17_1 : List VOp :=
  [mv 6 0 25,
   ⟨some 7, .makeFunc (Fn.func 47) #[] #[(.tmp 3)], 68, none⟩,
   ⟨some 8, .call ⟨.value (.func 46), #[.tmp 6, .tmp 7], #[25, 68]⟩, 25, none⟩,
   mv 9 0 25,
   ⟨some 10, .makeFunc (Fn.func 48) #[] #[(.tmp 3)], 68, none⟩,
   ⟨some 11, .call ⟨.value (.func 46), #[.tmp 9, .tmp 10], #[25, 68]⟩, 25, none⟩,
   asg 4 8 25,
   asg 5 11 25]
def B17 : VC :=
  (.seq (.region r17_0) (.seq (.region r17_1) .ret))
theorem code17 : ∃ c, Try.f17.body = some c ∧ abs Try.f17.ntmps c = B17 := ⟨_, rfl, by kernel_rfl⟩
theorem hb17 : HasBody Try.prog 17 := hasBody_of Try.func17 (by kernel_rfl)
theorem res17 : Try.f17.results = #[(.tmp 4), (.tmp 5)] := rfl
theorem enter17 {w : World} {R : Value → World → Prop} (x0 x1 : Value) (h : vc Try.prog B17 (retK Try.prog #[(.tmp 4), (.tmp 5)] R) [] (initEnv [x0, x1] 0) w) : FnC Try.prog 17 #[x0, x1] w R := by
  obtain ⟨c, h1, h2⟩ := code17
  exact hb17.fn (ret_of_vc mixed Try.func17 h1 (Nat.le_of_ble_eq_true rfl) B17 h2 h)
@[push_cast] theorem vr17_0 : VR r17_0 [⟨some 3, .box 3 (.tmp 1), 0, none⟩, ⟨some 4, .assign (.const (.slice none 0 0)), 25, none⟩, ⟨some 5, .assign (.const (.slice none 0 0)), 25, none⟩] := vR rfl
@[push_cast] theorem vr17_1 : VR r17_1 [⟨some 6, .move (.tmp 0), 25, none⟩, ⟨some 7, .makeFunc (Fn.func 47) #[] #[(.tmp 3)], 68, none⟩, ⟨some 8, .call ⟨.value (.func 46), #[.tmp 6, .tmp 7], #[25, 68]⟩, 25, none⟩, ⟨some 9, .move (.tmp 0), 25, none⟩, ⟨some 10, .makeFunc (Fn.func 48) #[] #[(.tmp 3)], 68, none⟩, ⟨some 11, .call ⟨.value (.func 46), #[.tmp 9, .tmp 10], #[25, 68]⟩, 25, none⟩, ⟨some 4, .assign (.tmp 8), 25, none⟩, ⟨some 5, .assign (.tmp 11), 25, none⟩] := vR rfl
/-! 18 columbary/columbaryref14.Project (params #[24, 25, 22, 3], results #[(.tmp 8), (.tmp 9)], 45 slots) -/
def W18_0 : List Nat := [12, 13, 24, 25, 26, 27, 28, 29, 30, 31, 32, 33, 34, 35, 36, 37, 38, 39, 40]
@[push_cast] theorem W18_0_def : W18_0 = [12, 13, 24, 25, 26, 27, 28, 29, 30, 31, 32, 33, 34, 35, 36, 37, 38, 39, 40] := mk_eq rfl
def r18_0 : List VOp :=
  [⟨some 4, .box 24 (.tmp 0), 0, none⟩,
   ⟨some 8, .assign (.const (.slice none 0 0)), 25, none⟩,
   ⟨some 9, .assign (.const (.int .i64 0)), 28, none⟩]
def r18_1 : List VOp :=
  [mv 14 2 22,
   fad 15 24 4 0,
   lda 16 22 15,
   ⟨some 17, .call ⟨.value (.func 49), #[.tmp 14, .tmp 16], #[22, 22]⟩, 4, none⟩,
   asg 10 17 4]
def r18_2 : List VOp :=
  [mv 18 10 4,
   ⟨some 19, .unOp .not 4 (.tmp 18), 4, none⟩]
def r18_3 : List VOp :=
  [⟨some 8, .assign (.const (.slice none 0 0)), 25, none⟩,
   ⟨some 9, .assign (.const (.int .i64 141)), 28, none⟩]
def r18_4 : List VOp :=
  [mv 20 3 3,
   ⟨some 21, .call ⟨.value (.func 50), #[.tmp 20], #[3]⟩, 4, none⟩,
   asg 11 21 4]
def r18_5 : List VOp :=
  [mv 22 11 4,
   ⟨some 23, .unOp .not 4 (.tmp 22), 4, none⟩]
def r18_6 : List VOp :=
  [⟨some 8, .assign (.const (.slice none 0 0)), 25, none⟩,
   ⟨some 9, .assign (.const (.int .i64 111)), 28, none⟩]
def r18_7 : List VOp :=
  [⟨some 12, .assign (.const (.slice none 0 0)), 25, none⟩]
def r18_8 : List VOp :=
  [⟨some 13, .assign (.const (.int .i64 0)), 3, none⟩]
def r18_9 : List VOp :=
  [mv 24 13 3,
   mv 25 1 25,
   ⟨some 26, .call ⟨.builtin .len, #[.tmp 25], #[25]⟩, 3, none⟩,
   ⟨some 27, .binOp .lss 3 (.tmp 24) (.tmp 26) 3, 4, none⟩]
def r18_11 : List VOp :=
  [mv 30 12 25,
   lda 31 24 4,
   mv 32 1 25,
   mv 33 13 3,
   iad 34 25 32 33,
   lda 35 35 34,
   mv 36 2 22,
   mv 37 3 3,
   ⟨some 38, .call ⟨.value (.func 51), #[.tmp 31, .tmp 35, .tmp 36, .tmp 37], #[24, 35, 22, 3]⟩, 35, none⟩,
   ⟨some 39, .buildSlice 25 1 #[(0, (.tmp 38))], 25, none⟩,
   ⟨some 40, .call ⟨.builtin .append, #[.tmp 30, .tmp 39], #[25, 25]⟩, 25, none⟩,
   asg 12 40 25]
def r18_10 : List VOp :=
  [mv 28 13 3,
   ⟨some 29, .binOp .add 3 (.tmp 28) (.const (.int .i64 1)) 3, 3, none⟩,
   asg 13 29 3]
def r18_12 : List VOp :=
  [mv 41 12 25,
   ⟨some 42, .call ⟨.value (.func 14), #[.tmp 41], #[25]⟩, 29, none⟩,
   ext 43 42 0 25,
   ext 44 42 1 28,
   asg 8 43 25,
   asg 9 44 28]
def B18 : VC :=
  (.seq (.region r18_0) (.seq (.region r18_1) (.seq (.seq (.region r18_2) (.cond (.tmp 19) (.seq (.region r18_3) .ret) .skip)) (.seq (.region r18_4) (.seq (.seq (.region r18_5) (.cond (.tmp 23) (.seq (.region r18_6) .ret) .skip)) (.seq (.region r18_7) (.seq (.seq (.region r18_8) (.block 0 (.loop (.seq (.seq (.region r18_9) (.cond (.tmp 27) .skip (.exit 0))) (.seq (.block 1 (.draw r18_11 3)) (.region r18_10)))))) (.seq (.region r18_12) .ret))))))))
theorem code18 : ∃ c, Try.f18.body = some c ∧ abs Try.f18.ntmps c = B18 := ⟨_, rfl, by kernel_rfl⟩
theorem hb18 : HasBody Try.prog 18 := hasBody_of Try.func18 (by kernel_rfl)
theorem res18 : Try.f18.results = #[(.tmp 8), (.tmp 9)] := rfl
theorem enter18 {w : World} {R : Value → World → Prop} (x0 x1 x2 x3 : Value) (h : vc Try.prog B18 (retK Try.prog #[(.tmp 8), (.tmp 9)] R) [] (initEnv [x0, x1, x2, x3] 0) w) : FnC Try.prog 18 #[x0, x1, x2, x3] w R := by
  obtain ⟨c, h1, h2⟩ := code18
  exact hb18.fn (ret_of_vc mixed Try.func18 h1 (Nat.le_of_ble_eq_true rfl) B18 h2 h)
@[push_cast] theorem vr18_0 : VR r18_0 [⟨some 4, .box 24 (.tmp 0), 0, none⟩, ⟨some 8, .assign (.const (.slice none 0 0)), 25, none⟩, ⟨some 9, .assign (.const (.int .i64 0)), 28, none⟩] := vR rfl
@[push_cast] theorem vr18_1 : VR r18_1 [⟨some 14, .move (.tmp 2), 22, none⟩, ⟨some 15, .fieldAddr 24 (.tmp 4) 0, 0, none⟩, ⟨some 16, .load 22 (.tmp 15), 22, none⟩, ⟨some 17, .call ⟨.value (.func 49), #[.tmp 14, .tmp 16], #[22, 22]⟩, 4, none⟩, ⟨some 10, .assign (.tmp 17), 4, none⟩] := vR rfl
@[push_cast] theorem vr18_2 : VR r18_2 [⟨some 18, .move (.tmp 10), 4, none⟩, ⟨some 19, .unOp .not 4 (.tmp 18), 4, none⟩] := vR rfl
@[push_cast] theorem vr18_3 : VR r18_3 [⟨some 8, .assign (.const (.slice none 0 0)), 25, none⟩, ⟨some 9, .assign (.const (.int .i64 141)), 28, none⟩] := vR rfl
@[push_cast] theorem vr18_4 : VR r18_4 [⟨some 20, .move (.tmp 3), 3, none⟩, ⟨some 21, .call ⟨.value (.func 50), #[.tmp 20], #[3]⟩, 4, none⟩, ⟨some 11, .assign (.tmp 21), 4, none⟩] := vR rfl
@[push_cast] theorem vr18_5 : VR r18_5 [⟨some 22, .move (.tmp 11), 4, none⟩, ⟨some 23, .unOp .not 4 (.tmp 22), 4, none⟩] := vR rfl
@[push_cast] theorem vr18_6 : VR r18_6 [⟨some 8, .assign (.const (.slice none 0 0)), 25, none⟩, ⟨some 9, .assign (.const (.int .i64 111)), 28, none⟩] := vR rfl
@[push_cast] theorem vr18_7 : VR r18_7 [⟨some 12, .assign (.const (.slice none 0 0)), 25, none⟩] := vR rfl
@[push_cast] theorem vr18_8 : VR r18_8 [⟨some 13, .assign (.const (.int .i64 0)), 3, none⟩] := vR rfl
@[push_cast] theorem vr18_9 : VR r18_9 [⟨some 24, .move (.tmp 13), 3, none⟩, ⟨some 25, .move (.tmp 1), 25, none⟩, ⟨some 26, .call ⟨.builtin .len, #[.tmp 25], #[25]⟩, 3, none⟩, ⟨some 27, .binOp .lss 3 (.tmp 24) (.tmp 26) 3, 4, none⟩] := vR rfl
@[push_cast] theorem vr18_11 : vc Try.prog (.draw r18_11 3) Q ds σ w = drawn Try.prog [(⟨some 30, .move (.tmp 12), 25, none⟩, [12]), (⟨some 31, .load 24 (.tmp 4), 24, none⟩, [4]), (⟨some 32, .move (.tmp 1), 25, none⟩, [1]), (⟨some 33, .move (.tmp 13), 3, none⟩, [13]), (⟨some 34, .indexAddr 25 (.tmp 32) (.tmp 33), 0, none⟩, [32, 33]), (⟨some 35, .load 35 (.tmp 34), 35, none⟩, [34]), (⟨some 36, .move (.tmp 2), 22, none⟩, [2]), (⟨some 37, .move (.tmp 3), 3, none⟩, [3]), (⟨some 38, .call ⟨.value (.func 51), #[.tmp 31, .tmp 35, .tmp 36, .tmp 37], #[24, 35, 22, 3]⟩, 35, none⟩, [31, 35, 36, 37]), (⟨some 39, .buildSlice 25 1 #[(0, (.tmp 38))], 25, none⟩, [38]), (⟨some 40, .call ⟨.builtin .append, #[.tmp 30, .tmp 39], #[25, 25]⟩, 25, none⟩, [30, 39]), (⟨some 12, .assign (.tmp 40), 25, none⟩, [40])] 3 (Q .normal ds) σ w := mk_eq rfl
@[push_cast] theorem vr18_10 : VR r18_10 [⟨some 28, .move (.tmp 13), 3, none⟩, ⟨some 29, .binOp .add 3 (.tmp 28) (.const (.int .i64 1)) 3, 3, none⟩, ⟨some 13, .assign (.tmp 29), 3, none⟩] := vR rfl
@[push_cast] theorem vr18_12 : VR r18_12 [⟨some 41, .move (.tmp 12), 25, none⟩, ⟨some 42, .call ⟨.value (.func 14), #[.tmp 41], #[25]⟩, 29, none⟩, ⟨some 43, .extract (.tmp 42) 0, 25, none⟩, ⟨some 44, .extract (.tmp 42) 1, 28, none⟩, ⟨some 8, .assign (.tmp 43), 25, none⟩, ⟨some 9, .assign (.tmp 44), 28, none⟩] := vR rfl
/-! 19 columbary/cuboid.Schema (params #[24, 22], results #[(.cell 4 24), (.tmp 5)], 18 slots) -/
def r19_0 : List VOp :=
  [⟨some 2, .box 24 (.tmp 0), 0, none⟩,
   ⟨some 4, .alloc 24, 0, none⟩,
   ⟨some 5, .assign (.const (.int .i64 0)), 28, none⟩]
def r19_1 : List VOp :=
  [mv 6 1 22,
   fad 7 24 2 0,
   lda 8 22 7,
   ⟨some 9, .call ⟨.value (.func 41), #[.tmp 6, .tmp 8], #[22, 22]⟩, 4, none⟩,
   ⟨some 10, .unOp .not 4 (.tmp 9), 4, none⟩]
def r19_2 : List VOp :=
  [⟨some 11, .build 24 #[], 24, none⟩,
   ⟨none, .store 24 (.tmp 4) (.tmp 11), 0, none⟩,
   ⟨some 5, .assign (.const (.int .i64 141)), 28, none⟩]
def r19_3 : List VOp :=
  [mv 12 1 22,
   ⟨some 13, .call ⟨.value (.func 52), #[.tmp 12], #[22]⟩, 22, none⟩,
   fad 14 24 2 1,
   lda 15 22 14,
   ⟨some 16, .call ⟨.value (.func 52), #[.tmp 15], #[22]⟩, 22, none⟩,
   ⟨some 17, .build 24 #[(0, (.tmp 13)), (1, (.tmp 16))], 24, none⟩,
   ⟨none, .store 24 (.tmp 4) (.tmp 17), 0, none⟩,
   ⟨some 5, .assign (.const (.int .i64 0)), 28, none⟩]
def B19 : VC :=
  (.seq (.region r19_0) (.seq (.seq (.region r19_1) (.cond (.tmp 10) (.seq (.region r19_2) .ret) .skip)) (.seq (.draw r19_3 5) .ret)))
theorem code19 : ∃ c, Try.f19.body = some c ∧ abs Try.f19.ntmps c = B19 := ⟨_, rfl, by kernel_rfl⟩
theorem hb19 : HasBody Try.prog 19 := hasBody_of Try.func19 (by kernel_rfl)
theorem res19 : Try.f19.results = #[(.cell 4 24), (.tmp 5)] := rfl
theorem enter19 {w : World} {R : Value → World → Prop} (x0 x1 : Value) (h : vc Try.prog B19 (retK Try.prog #[(.cell 4 24), (.tmp 5)] R) [] (initEnv [x0, x1] 0) w) : FnC Try.prog 19 #[x0, x1] w R := by
  obtain ⟨c, h1, h2⟩ := code19
  exact hb19.fn (ret_of_vc mixed Try.func19 h1 (Nat.le_of_ble_eq_true rfl) B19 h2 h)
@[push_cast] theorem vr19_0 : VR r19_0 [⟨some 2, .box 24 (.tmp 0), 0, none⟩, ⟨some 4, .alloc 24, 0, none⟩, ⟨some 5, .assign (.const (.int .i64 0)), 28, none⟩] := vR rfl
@[push_cast] theorem vr19_1 : VR r19_1 [⟨some 6, .move (.tmp 1), 22, none⟩, ⟨some 7, .fieldAddr 24 (.tmp 2) 0, 0, none⟩, ⟨some 8, .load 22 (.tmp 7), 22, none⟩, ⟨some 9, .call ⟨.value (.func 41), #[.tmp 6, .tmp 8], #[22, 22]⟩, 4, none⟩, ⟨some 10, .unOp .not 4 (.tmp 9), 4, none⟩] := vR rfl
@[push_cast] theorem vr19_2 : VR r19_2 [⟨some 11, .build 24 #[], 24, none⟩, ⟨none, .store 24 (.tmp 4) (.tmp 11), 0, none⟩, ⟨some 5, .assign (.const (.int .i64 141)), 28, none⟩] := vR rfl
@[push_cast] theorem vr19_3 : vc Try.prog (.draw r19_3 5) Q ds σ w = drawn Try.prog [(⟨some 12, .move (.tmp 1), 22, none⟩, [1]), (⟨some 13, .call ⟨.value (.func 52), #[.tmp 12], #[22]⟩, 22, none⟩, [12]), (⟨some 14, .fieldAddr 24 (.tmp 2) 1, 0, none⟩, [2]), (⟨some 15, .load 22 (.tmp 14), 22, none⟩, [14]), (⟨some 16, .call ⟨.value (.func 52), #[.tmp 15], #[22]⟩, 22, none⟩, [15]), (⟨some 17, .build 24 #[(0, (.tmp 13)), (1, (.tmp 16))], 24, none⟩, [13, 16]), (⟨none, .store 24 (.tmp 4) (.tmp 17), 0, none⟩, [4, 17]), (⟨some 5, .assign (.const (.int .i64 0)), 28, none⟩, [])] 5 (Q .normal ds) σ w := mk_eq rfl
/-! 20 columbary/columbaryref14.Schema (params #[24, 22], results #[(.cell 4 24), (.tmp 5)], 18 slots) -/
def r20_0 : List VOp :=
  [⟨some 2, .box 24 (.tmp 0), 0, none⟩,
   ⟨some 4, .alloc 24, 0, none⟩,
   ⟨some 5, .assign (.const (.int .i64 0)), 28, none⟩]
def r20_1 : List VOp :=
  [mv 7 1 22,
   fad 8 24 2 0,
   lda 9 22 8,
   ⟨some 10, .call ⟨.value (.func 49), #[.tmp 7, .tmp 9], #[22, 22]⟩, 4, none⟩,
   asg 6 10 4]
def r20_2 : List VOp :=
  [mv 11 6 4,
   ⟨some 12, .unOp .not 4 (.tmp 11), 4, none⟩]
def r20_3 : List VOp :=
  [⟨some 13, .build 24 #[], 24, none⟩,
   ⟨none, .store 24 (.tmp 4) (.tmp 13), 0, none⟩,
   ⟨some 5, .assign (.const (.int .i64 141)), 28, none⟩]
def r20_4 : List VOp :=
  [mv 14 1 22,
   fad 15 24 2 1,
   lda 16 22 15,
   ⟨some 17, .build 24 #[(0, (.tmp 14)), (1, (.tmp 16))], 24, none⟩,
   ⟨none, .store 24 (.tmp 4) (.tmp 17), 0, none⟩,
   ⟨some 5, .assign (.const (.int .i64 0)), 28, none⟩]
def B20 : VC :=
  (.seq (.region r20_0) (.seq (.region r20_1) (.seq (.seq (.region r20_2) (.cond (.tmp 12) (.seq (.region r20_3) .ret) .skip)) (.seq (.region r20_4) .ret))))
theorem code20 : ∃ c, Try.f20.body = some c ∧ abs Try.f20.ntmps c = B20 := ⟨_, rfl, by kernel_rfl⟩
theorem hb20 : HasBody Try.prog 20 := hasBody_of Try.func20 (by kernel_rfl)
theorem res20 : Try.f20.results = #[(.cell 4 24), (.tmp 5)] := rfl
theorem enter20 {w : World} {R : Value → World → Prop} (x0 x1 : Value) (h : vc Try.prog B20 (retK Try.prog #[(.cell 4 24), (.tmp 5)] R) [] (initEnv [x0, x1] 0) w) : FnC Try.prog 20 #[x0, x1] w R := by
  obtain ⟨c, h1, h2⟩ := code20
  exact hb20.fn (ret_of_vc mixed Try.func20 h1 (Nat.le_of_ble_eq_true rfl) B20 h2 h)
@[push_cast] theorem vr20_0 : VR r20_0 [⟨some 2, .box 24 (.tmp 0), 0, none⟩, ⟨some 4, .alloc 24, 0, none⟩, ⟨some 5, .assign (.const (.int .i64 0)), 28, none⟩] := vR rfl
@[push_cast] theorem vr20_1 : VR r20_1 [⟨some 7, .move (.tmp 1), 22, none⟩, ⟨some 8, .fieldAddr 24 (.tmp 2) 0, 0, none⟩, ⟨some 9, .load 22 (.tmp 8), 22, none⟩, ⟨some 10, .call ⟨.value (.func 49), #[.tmp 7, .tmp 9], #[22, 22]⟩, 4, none⟩, ⟨some 6, .assign (.tmp 10), 4, none⟩] := vR rfl
@[push_cast] theorem vr20_2 : VR r20_2 [⟨some 11, .move (.tmp 6), 4, none⟩, ⟨some 12, .unOp .not 4 (.tmp 11), 4, none⟩] := vR rfl
@[push_cast] theorem vr20_3 : VR r20_3 [⟨some 13, .build 24 #[], 24, none⟩, ⟨none, .store 24 (.tmp 4) (.tmp 13), 0, none⟩, ⟨some 5, .assign (.const (.int .i64 141)), 28, none⟩] := vR rfl
@[push_cast] theorem vr20_4 : VR r20_4 [⟨some 14, .move (.tmp 1), 22, none⟩, ⟨some 15, .fieldAddr 24 (.tmp 2) 1, 0, none⟩, ⟨some 16, .load 22 (.tmp 15), 22, none⟩, ⟨some 17, .build 24 #[(0, (.tmp 14)), (1, (.tmp 16))], 24, none⟩, ⟨none, .store 24 (.tmp 4) (.tmp 17), 0, none⟩, ⟨some 5, .assign (.const (.int .i64 0)), 28, none⟩] := vR rfl
/-! 22 columbary/cuboid.Within (params #[25, 3, 3], results #[(.tmp 6)], 10 slots) -/
def r22_0 : List VOp :=
  [⟨some 4, .box 3 (.tmp 1), 0, none⟩,
   ⟨some 5, .box 3 (.tmp 2), 0, none⟩,
   ⟨some 6, .assign (.const (.slice none 0 0)), 25, none⟩]
def r22_1 : List VOp :=
  [mv 7 0 25,
   ⟨some 8, .makeFunc (Fn.func 53) #[] #[(.tmp 4), (.tmp 5)], 68, none⟩,
   ⟨some 9, .call ⟨.value (.func 46), #[.tmp 7, .tmp 8], #[25, 68]⟩, 25, none⟩,
   asg 6 9 25]
def B22 : VC :=
  (.seq (.region r22_0) (.seq (.region r22_1) .ret))
theorem code22 : ∃ c, Try.f22.body = some c ∧ abs Try.f22.ntmps c = B22 := ⟨_, rfl, by kernel_rfl⟩
theorem hb22 : HasBody Try.prog 22 := hasBody_of Try.func22 (by kernel_rfl)
theorem res22 : Try.f22.results = #[(.tmp 6)] := rfl
theorem enter22 {w : World} {R : Value → World → Prop} (x0 x1 x2 : Value) (h : vc Try.prog B22 (retK Try.prog #[(.tmp 6)] R) [] (initEnv [x0, x1, x2] 0) w) : FnC Try.prog 22 #[x0, x1, x2] w R := by
  obtain ⟨c, h1, h2⟩ := code22
  exact hb22.fn (ret_of_vc mixed Try.func22 h1 (Nat.le_of_ble_eq_true rfl) B22 h2 h)
@[push_cast] theorem vr22_0 : VR r22_0 [⟨some 4, .box 3 (.tmp 1), 0, none⟩, ⟨some 5, .box 3 (.tmp 2), 0, none⟩, ⟨some 6, .assign (.const (.slice none 0 0)), 25, none⟩] := vR rfl
@[push_cast] theorem vr22_1 : VR r22_1 [⟨some 7, .move (.tmp 0), 25, none⟩, ⟨some 8, .makeFunc (Fn.func 53) #[] #[(.tmp 4), (.tmp 5)], 68, none⟩, ⟨some 9, .call ⟨.value (.func 46), #[.tmp 7, .tmp 8], #[25, 68]⟩, 25, none⟩, ⟨some 6, .assign (.tmp 9), 25, none⟩] := vR rfl
/-! 23 columbary/columbaryref14.Within (params #[25, 3, 3], results #[(.tmp 6)], 39 slots) -/
def W23_0 : List Nat := [7, 8, 9, 10, 11, 12, 13, 14, 15, 16, 17, 18, 19, 20, 21, 22, 23, 24, 25, 26, 27, 28, 29, 30, 31, 32, 33, 34, 35, 36, 37]
@[push_cast] theorem W23_0_def : W23_0 = [7, 8, 9, 10, 11, 12, 13, 14, 15, 16, 17, 18, 19, 20, 21, 22, 23, 24, 25, 26, 27, 28, 29, 30, 31, 32, 33, 34, 35, 36, 37] := mk_eq rfl
def r23_0 : List VOp :=
  [⟨some 6, .assign (.const (.slice none 0 0)), 25, none⟩]
def r23_1 : List VOp :=
  [⟨some 7, .assign (.const (.slice none 0 0)), 25, none⟩]
def r23_2 : List VOp :=
  [⟨some 8, .assign (.const (.int .i64 0)), 3, none⟩]
def r23_3 : List VOp :=
  [mv 9 8 3,
   mv 10 0 25,
   ⟨some 11, .call ⟨.builtin .len, #[.tmp 10], #[25]⟩, 3, none⟩,
   ⟨some 12, .binOp .lss 3 (.tmp 9) (.tmp 11) 3, 4, none⟩]
def r23_5 : List VOp :=
  [mv 15 0 25,
   mv 16 8 3,
   iad 17 25 15 16,
   fad 18 35 17 0,
   lda 19 3 18,
   mv 20 1 3,
   ⟨some 21, .binOp .geq 3 (.tmp 19) (.tmp 20) 3, 4, none⟩,
   mv 22 21 4,
   ⟨some 23, .move (.tmp 0), 25, some (22, true)⟩,
   ⟨some 24, .move (.tmp 8), 3, some (22, true)⟩,
   ⟨some 25, .indexAddr 25 (.tmp 23) (.tmp 24), 0, some (22, true)⟩,
   ⟨some 26, .fieldAddr 35 (.tmp 25) 0, 0, some (22, true)⟩,
   ⟨some 27, .load 3 (.tmp 26), 3, some (22, true)⟩,
   ⟨some 28, .move (.tmp 2), 3, some (22, true)⟩,
   ⟨some 29, .binOp .lss 3 (.tmp 27) (.tmp 28) 3, 4, some (22, true)⟩,
   ⟨some 30, .pick (.tmp 22) (.tmp 29) (.const (.bool false)), 4, none⟩]
def r23_6 : List VOp :=
  [mv 31 7 25,
   mv 32 0 25,
   mv 33 8 3,
   iad 34 25 32 33,
   lda 35 35 34,
   ⟨some 36, .buildSlice 25 1 #[(0, (.tmp 35))], 25, none⟩,
   ⟨some 37, .call ⟨.builtin .append, #[.tmp 31, .tmp 36], #[25, 25]⟩, 25, none⟩,
   asg 7 37 25]
def r23_4 : List VOp :=
  [mv 13 8 3,
   ⟨some 14, .binOp .add 3 (.tmp 13) (.const (.int .i64 1)) 3, 3, none⟩,
   asg 8 14 3]
def r23_7 : List VOp :=
  [mv 38 7 25,
   asg 6 38 25]
def B23 : VC :=
  (.seq (.region r23_0) (.seq (.region r23_1) (.seq (.seq (.region r23_2) (.block 0 (.loop (.seq (.seq (.region r23_3) (.cond (.tmp 12) .skip (.exit 0))) (.seq (.block 1 (.seq (.region r23_5) (.cond (.tmp 30) (.region r23_6) .skip))) (.region r23_4)))))) (.seq (.region r23_7) .ret))))
theorem code23 : ∃ c, Try.f23.body = some c ∧ abs Try.f23.ntmps c = B23 := ⟨_, rfl, by kernel_rfl⟩
theorem hb23 : HasBody Try.prog 23 := hasBody_of Try.func23 (by kernel_rfl)
theorem res23 : Try.f23.results = #[(.tmp 6)] := rfl
theorem enter23 {w : World} {R : Value → World → Prop} (x0 x1 x2 : Value) (h : vc Try.prog B23 (retK Try.prog #[(.tmp 6)] R) [] (initEnv [x0, x1, x2] 0) w) : FnC Try.prog 23 #[x0, x1, x2] w R := by
  obtain ⟨c, h1, h2⟩ := code23
  exact hb23.fn (ret_of_vc mixed Try.func23 h1 (Nat.le_of_ble_eq_true rfl) B23 h2 h)
@[push_cast] theorem vr23_0 : VR r23_0 [⟨some 6, .assign (.const (.slice none 0 0)), 25, none⟩] := vR rfl
@[push_cast] theorem vr23_1 : VR r23_1 [⟨some 7, .assign (.const (.slice none 0 0)), 25, none⟩] := vR rfl
@[push_cast] theorem vr23_2 : VR r23_2 [⟨some 8, .assign (.const (.int .i64 0)), 3, none⟩] := vR rfl
@[push_cast] theorem vr23_3 : VR r23_3 [⟨some 9, .move (.tmp 8), 3, none⟩, ⟨some 10, .move (.tmp 0), 25, none⟩, ⟨some 11, .call ⟨.builtin .len, #[.tmp 10], #[25]⟩, 3, none⟩, ⟨some 12, .binOp .lss 3 (.tmp 9) (.tmp 11) 3, 4, none⟩] := vR rfl
@[push_cast] theorem vr23_5 : VR r23_5 [⟨some 15, .move (.tmp 0), 25, none⟩, ⟨some 16, .move (.tmp 8), 3, none⟩, ⟨some 17, .indexAddr 25 (.tmp 15) (.tmp 16), 0, none⟩, ⟨some 18, .fieldAddr 35 (.tmp 17) 0, 0, none⟩, ⟨some 19, .load 3 (.tmp 18), 3, none⟩, ⟨some 20, .move (.tmp 1), 3, none⟩, ⟨some 21, .binOp .geq 3 (.tmp 19) (.tmp 20) 3, 4, none⟩, ⟨some 22, .move (.tmp 21), 4, none⟩, ⟨some 23, .move (.tmp 0), 25, some (22, true)⟩, ⟨some 24, .move (.tmp 8), 3, some (22, true)⟩, ⟨some 25, .indexAddr 25 (.tmp 23) (.tmp 24), 0, some (22, true)⟩, ⟨some 26, .fieldAddr 35 (.tmp 25) 0, 0, some (22, true)⟩, ⟨some 27, .load 3 (.tmp 26), 3, some (22, true)⟩, ⟨some 28, .move (.tmp 2), 3, some (22, true)⟩, ⟨some 29, .binOp .lss 3 (.tmp 27) (.tmp 28) 3, 4, some (22, true)⟩, ⟨some 30, .pick (.tmp 22) (.tmp 29) (.const (.bool false)), 4, none⟩] := vR rfl
@[push_cast] theorem vr23_6 : VR r23_6 [⟨some 31, .move (.tmp 7), 25, none⟩, ⟨some 32, .move (.tmp 0), 25, none⟩, ⟨some 33, .move (.tmp 8), 3, none⟩, ⟨some 34, .indexAddr 25 (.tmp 32) (.tmp 33), 0, none⟩, ⟨some 35, .load 35 (.tmp 34), 35, none⟩, ⟨some 36, .buildSlice 25 1 #[(0, (.tmp 35))], 25, none⟩, ⟨some 37, .call ⟨.builtin .append, #[.tmp 31, .tmp 36], #[25, 25]⟩, 25, none⟩, ⟨some 7, .assign (.tmp 37), 25, none⟩] := vR rfl
@[push_cast] theorem vr23_4 : VR r23_4 [⟨some 13, .move (.tmp 8), 3, none⟩, ⟨some 14, .binOp .add 3 (.tmp 13) (.const (.int .i64 1)) 3, 3, none⟩, ⟨some 8, .assign (.tmp 14), 3, none⟩] := vR rfl
@[push_cast] theorem vr23_7 : VR r23_7 [⟨some 38, .move (.tmp 7), 25, none⟩, ⟨some 6, .assign (.tmp 38), 25, none⟩] := vR rfl
/-! 40 columbary/columbarylaw14.two (params #[], results #[(.cell 0 24), (.tmp 1)], 11 slots) -/
def r40_0 : List VOp :=
  [⟨some 0, .alloc 24, 0, none⟩,
   ⟨some 1, .assign (.const (.slice none 0 0)), 25, none⟩]
def r40_1 : List VOp :=
  [⟨some 3, .buildSlice 22 2 #[(0, (.const (.string { data := #[97] }))), (1, (.const (.string { data := #[98] })))], 22, none⟩,
   ⟨some 4, .build 24 #[(0, (.tmp 3))], 24, none⟩,
   ⟨some 2, .alloc 24, 0, none⟩,
   ⟨none, .store 24 (.tmp 2) (.tmp 4), 0, none⟩]
def r40_2 : List VOp :=
  [lda 5 24 2,
   ⟨some 6, .buildSlice 22 2 #[(0, (.const (.string { data := #[120] }))), (1, (.const (.string { data := #[112] })))], 22, none⟩,
   ⟨some 7, .build 35 #[(0, (.const (.int .i64 3))), (1, (.tmp 6)), (2, (.const (.int .i64 1)))], 35, none⟩,
   ⟨some 8, .buildSlice 22 2 #[(0, (.const (.string { data := #[120] }))), (1, (.const (.string { data := #[113] })))], 22, none⟩,
   ⟨some 9, .build 35 #[(0, (.const (.int .i64 4))), (1, (.tmp 8)), (2, (.const (.int .i64 2)))], 35, none⟩,
   ⟨some 10, .buildSlice 25 2 #[(0, (.tmp 7)), (1, (.tmp 9))], 25, none⟩,
   ⟨none, .store 24 (.tmp 0) (.tmp 5), 0, none⟩,
   asg 1 10 25]
def B40 : VC :=
  (.seq (.region r40_0) (.seq (.region r40_1) (.seq (.region r40_2) .ret)))
theorem code40 : ∃ c, Try.f40.body = some c ∧ abs Try.f40.ntmps c = B40 := ⟨_, rfl, by kernel_rfl⟩
theorem hb40 : HasBody Try.prog 40 := hasBody_of Try.func40 (by kernel_rfl)
theorem res40 : Try.f40.results = #[(.cell 0 24), (.tmp 1)] := rfl
theorem enter40 {w : World} {R : Value → World → Prop} (h : vc Try.prog B40 (retK Try.prog #[(.cell 0 24), (.tmp 1)] R) [] (initEnv [] 0) w) : FnC Try.prog 40 #[] w R := by
  obtain ⟨c, h1, h2⟩ := code40
  exact hb40.fn (ret_of_vc mixed Try.func40 h1 (Nat.le_of_ble_eq_true rfl) B40 h2 h)
@[push_cast] theorem vr40_0 : VR r40_0 [⟨some 0, .alloc 24, 0, none⟩, ⟨some 1, .assign (.const (.slice none 0 0)), 25, none⟩] := vR rfl
@[push_cast] theorem vr40_1 : VR r40_1 [⟨some 3, .buildSlice 22 2 #[(0, (.const (.string { data := #[97] }))), (1, (.const (.string { data := #[98] })))], 22, none⟩, ⟨some 4, .build 24 #[(0, (.tmp 3))], 24, none⟩, ⟨some 2, .alloc 24, 0, none⟩, ⟨none, .store 24 (.tmp 2) (.tmp 4), 0, none⟩] := vR rfl
@[push_cast] theorem vr40_2 : VR r40_2 [⟨some 5, .load 24 (.tmp 2), 24, none⟩, ⟨some 6, .buildSlice 22 2 #[(0, (.const (.string { data := #[120] }))), (1, (.const (.string { data := #[112] })))], 22, none⟩, ⟨some 7, .build 35 #[(0, (.const (.int .i64 3))), (1, (.tmp 6)), (2, (.const (.int .i64 1)))], 35, none⟩, ⟨some 8, .buildSlice 22 2 #[(0, (.const (.string { data := #[120] }))), (1, (.const (.string { data := #[113] })))], 22, none⟩, ⟨some 9, .build 35 #[(0, (.const (.int .i64 4))), (1, (.tmp 8)), (2, (.const (.int .i64 2)))], 35, none⟩, ⟨some 10, .buildSlice 25 2 #[(0, (.tmp 7)), (1, (.tmp 9))], 25, none⟩, ⟨none, .store 24 (.tmp 0) (.tmp 5), 0, none⟩, ⟨some 1, .assign (.tmp 10), 25, none⟩] := vR rfl
/-! 41 columbary/schema.Subset (params #[22, 22], results #[(.tmp 4)], 24 slots) -/
def W41_0 : List Nat := [1, 4, 6, 7, 10, 11, 12, 13, 14, 15, 16, 17, 18, 19, 20, 21, 22, 23]
@[push_cast] theorem W41_0_def : W41_0 = [1, 4, 6, 7, 10, 11, 12, 13, 14, 15, 16, 17, 18, 19, 20, 21, 22, 23] := mk_eq rfl
def r41_0 : List VOp :=
  [⟨some 4, .assign (.const (.bool false)), 4, none⟩]
def r41_1 : List VOp :=
  [mv 8 0 22,
   ⟨some 9, .call ⟨.builtin .len, #[.tmp 8], #[22]⟩, 3, none⟩,
   ⟨some 10, .move (.const (.int .i64 0)), 3, none⟩]
def r41_2 : List VOp :=
  [⟨some 11, .binOp .lss 3 (.tmp 10) (.tmp 9) 3, 0, none⟩]
def r41_3 : List VOp :=
  [iad 12 22 8 10,
   lda 13 9 12,
   asg 6 13 9]
def r41_4 : List VOp :=
  [mv 14 1 22,
   mv 15 6 9,
   ⟨some 16, .call ⟨.value (.func 80), #[.tmp 14, .tmp 15], #[22, 9]⟩, 3, none⟩,
   asg 7 16 3]
def r41_5 : List VOp :=
  [mv 17 7 3,
   ⟨some 18, .binOp .lss 3 (.tmp 17) (.const (.int .i64 0)) 3, 4, none⟩]
def r41_6 : List VOp :=
  [⟨some 4, .assign (.const (.bool false)), 4, none⟩]
def r41_7 : List VOp :=
  [mv 19 1 22,
   mv 20 7 3,
   ⟨some 21, .binOp .add 3 (.tmp 20) (.const (.int .i64 1)) 3, 3, none⟩,
   ⟨some 22, .slice 22 (.tmp 19) (some (.tmp 21)) none none, 22, none⟩,
   asg 1 22 22]
def r41_8 : List VOp :=
  [⟨some 23, .binOp .add 3 (.tmp 10) (.const (.int .i64 1)) 3, 3, none⟩,
   mv 10 23 3]
def r41_9 : List VOp :=
  [⟨some 4, .assign (.const (.bool true)), 4, none⟩]
def B41 : VC :=
  (.seq (.region r41_0) (.seq (.seq (.region r41_1) (.block 0 (.loop (.seq (.region r41_2) (.seq (.cond (.tmp 11) .skip (.exit 0)) (.seq (.block 1 (.seq (.region r41_3) (.seq (.region r41_4) (.seq (.seq (.region r41_5) (.cond (.tmp 18) (.seq (.region r41_6) .ret) .skip)) (.region r41_7))))) (.region r41_8))))))) (.seq (.region r41_9) .ret)))
theorem code41 : ∃ c, Try.f41.body = some c ∧ abs Try.f41.ntmps c = B41 := ⟨_, rfl, by kernel_rfl⟩
theorem hb41 : HasBody Try.prog 41 := hasBody_of Try.func41 (by kernel_rfl)
theorem res41 : Try.f41.results = #[(.tmp 4)] := rfl
theorem enter41 {w : World} {R : Value → World → Prop} (x0 x1 : Value) (h : vc Try.prog B41 (retK Try.prog #[(.tmp 4)] R) [] (initEnv [x0, x1] 0) w) : FnC Try.prog 41 #[x0, x1] w R := by
  obtain ⟨c, h1, h2⟩ := code41
  exact hb41.fn (ret_of_vc mixed Try.func41 h1 (Nat.le_of_ble_eq_true rfl) B41 h2 h)
@[push_cast] theorem vr41_0 : VR r41_0 [⟨some 4, .assign (.const (.bool false)), 4, none⟩] := vR rfl
@[push_cast] theorem vr41_1 : VR r41_1 [⟨some 8, .move (.tmp 0), 22, none⟩, ⟨some 9, .call ⟨.builtin .len, #[.tmp 8], #[22]⟩, 3, none⟩, ⟨some 10, .move (.const (.int .i64 0)), 3, none⟩] := vR rfl
@[push_cast] theorem vr41_2 : VR r41_2 [⟨some 11, .binOp .lss 3 (.tmp 10) (.tmp 9) 3, 0, none⟩] := vR rfl
@[push_cast] theorem vr41_3 : VR r41_3 [⟨some 12, .indexAddr 22 (.tmp 8) (.tmp 10), 0, none⟩, ⟨some 13, .load 9 (.tmp 12), 9, none⟩, ⟨some 6, .assign (.tmp 13), 9, none⟩] := vR rfl
@[push_cast] theorem vr41_4 : VR r41_4 [⟨some 14, .move (.tmp 1), 22, none⟩, ⟨some 15, .move (.tmp 6), 9, none⟩, ⟨some 16, .call ⟨.value (.func 80), #[.tmp 14, .tmp 15], #[22, 9]⟩, 3, none⟩, ⟨some 7, .assign (.tmp 16), 3, none⟩] := vR rfl
@[push_cast] theorem vr41_5 : VR r41_5 [⟨some 17, .move (.tmp 7), 3, none⟩, ⟨some 18, .binOp .lss 3 (.tmp 17) (.const (.int .i64 0)) 3, 4, none⟩] := vR rfl
@[push_cast] theorem vr41_6 : VR r41_6 [⟨some 4, .assign (.const (.bool false)), 4, none⟩] := vR rfl
@[push_cast] theorem vr41_7 : VR r41_7 [⟨some 19, .move (.tmp 1), 22, none⟩, ⟨some 20, .move (.tmp 7), 3, none⟩, ⟨some 21, .binOp .add 3 (.tmp 20) (.const (.int .i64 1)) 3, 3, none⟩, ⟨some 22, .slice 22 (.tmp 19) (some (.tmp 21)) none none, 22, none⟩, ⟨some 1, .assign (.tmp 22), 22, none⟩] := vR rfl
@[push_cast] theorem vr41_8 : VR r41_8 [⟨some 23, .binOp .add 3 (.tmp 10) (.const (.int .i64 1)) 3, 3, none⟩, ⟨some 10, .move (.tmp 23), 3, none⟩] := vR rfl
@[push_cast] theorem vr41_9 : VR r41_9 [⟨some 4, .assign (.const (.bool true)), 4, none⟩] := vR rfl
/-! 43 columbary/schema.Dim (params #[24, 9], results #[(.tmp 4), (.tmp 5)], 12 slots) -/
def r43_0 : List VOp :=
  [⟨some 2, .box 24 (.tmp 0), 0, none⟩,
   ⟨some 4, .assign (.const (.int .i64 0)), 3, none⟩,
   ⟨some 5, .assign (.const (.bool false)), 4, none⟩]
def r43_1 : List VOp :=
  [fad 6 24 2 0,
   lda 7 22 6,
   mv 8 1 9,
   ⟨some 9, .call ⟨.value (.func 81), #[.tmp 7, .tmp 8], #[22, 9]⟩, 69, none⟩,
   ext 10 9 0 3,
   ext 11 9 1 4,
   asg 4 10 3,
   asg 5 11 4]
def B43 : VC :=
  (.seq (.region r43_0) (.seq (.region r43_1) .ret))
theorem code43 : ∃ c, Try.f43.body = some c ∧ abs Try.f43.ntmps c = B43 := ⟨_, rfl, by kernel_rfl⟩
theorem hb43 : HasBody Try.prog 43 := hasBody_of Try.func43 (by kernel_rfl)
theorem res43 : Try.f43.results = #[(.tmp 4), (.tmp 5)] := rfl
theorem enter43 {w : World} {R : Value → World → Prop} (x0 x1 : Value) (h : vc Try.prog B43 (retK Try.prog #[(.tmp 4), (.tmp 5)] R) [] (initEnv [x0, x1] 0) w) : FnC Try.prog 43 #[x0, x1] w R := by
  obtain ⟨c, h1, h2⟩ := code43
  exact hb43.fn (ret_of_vc mixed Try.func43 h1 (Nat.le_of_ble_eq_true rfl) B43 h2 h)
@[push_cast] theorem vr43_0 : VR r43_0 [⟨some 2, .box 24 (.tmp 0), 0, none⟩, ⟨some 4, .assign (.const (.int .i64 0)), 3, none⟩, ⟨some 5, .assign (.const (.bool false)), 4, none⟩] := vR rfl
@[push_cast] theorem vr43_1 : VR r43_1 [⟨some 6, .fieldAddr 24 (.tmp 2) 0, 0, none⟩, ⟨some 7, .load 22 (.tmp 6), 22, none⟩, ⟨some 8, .move (.tmp 1), 9, none⟩, ⟨some 9, .call ⟨.value (.func 81), #[.tmp 7, .tmp 8], #[22, 9]⟩, 69, none⟩, ⟨some 10, .extract (.tmp 9) 0, 3, none⟩, ⟨some 11, .extract (.tmp 9) 1, 4, none⟩, ⟨some 4, .assign (.tmp 10), 3, none⟩, ⟨some 5, .assign (.tmp 11), 4, none⟩] := vR rfl
/-! 46 columbary/cuboid.only (params #[25, 68], results #[(.tmp 4)], 9 slots) -/
def r46_0 : List VOp :=
  [⟨some 3, .box 68 (.tmp 1), 0, none⟩,
   ⟨some 4, .assign (.const (.slice none 0 0)), 25, none⟩]
def r46_1 : List VOp :=
  [mv 5 0 25,
   ⟨some 6, .call ⟨.value (.func 30), #[.tmp 5], #[25]⟩, 25, none⟩,
   ⟨some 7, .makeFunc (Fn.func 85) #[] #[(.tmp 3)], 98, none⟩,
   ⟨some 8, .call ⟨.value (.func 84), #[.tmp 6, .tmp 7], #[25, 98]⟩, 25, none⟩,
   asg 4 8 25]
def B46 : VC :=
  (.seq (.region r46_0) (.seq (.region r46_1) .ret))
theorem code46 : ∃ c, Try.f46.body = some c ∧ abs Try.f46.ntmps c = B46 := ⟨_, rfl, by kernel_rfl⟩
theorem hb46 : HasBody Try.prog 46 := hasBody_of Try.func46 (by kernel_rfl)
theorem res46 : Try.f46.results = #[(.tmp 4)] := rfl
theorem enter46 {w : World} {R : Value → World → Prop} (x0 x1 : Value) (h : vc Try.prog B46 (retK Try.prog #[(.tmp 4)] R) [] (initEnv [x0, x1] 0) w) : FnC Try.prog 46 #[x0, x1] w R := by
  obtain ⟨c, h1, h2⟩ := code46
  exact hb46.fn (ret_of_vc mixed Try.func46 h1 (Nat.le_of_ble_eq_true rfl) B46 h2 h)
@[push_cast] theorem vr46_0 : VR r46_0 [⟨some 3, .box 68 (.tmp 1), 0, none⟩, ⟨some 4, .assign (.const (.slice none 0 0)), 25, none⟩] := vR rfl
@[push_cast] theorem vr46_1 : VR r46_1 [⟨some 5, .move (.tmp 0), 25, none⟩, ⟨some 6, .call ⟨.value (.func 30), #[.tmp 5], #[25]⟩, 25, none⟩, ⟨some 7, .makeFunc (Fn.func 85) #[] #[(.tmp 3)], 98, none⟩, ⟨some 8, .call ⟨.value (.func 84), #[.tmp 6, .tmp 7], #[25, 98]⟩, 25, none⟩, ⟨some 4, .assign (.tmp 8), 25, none⟩] := vR rfl
/-! 47 columbary/cuboid.Split$1 (params #[3], results #[(.tmp 3)], 7 slots) -/
def r47_0 : List VOp :=
  [⟨some 3, .assign (.const (.bool false)), 4, none⟩]
def r47_1 : List VOp :=
  [mv 4 0 3,
   lda 5 3 1,
   ⟨some 6, .binOp .lss 3 (.tmp 4) (.tmp 5) 3, 4, none⟩,
   asg 3 6 4]
def B47 : VC :=
  (.seq (.region r47_0) (.seq (.region r47_1) .ret))
theorem code47 : ∃ c, Try.f47.body = some c ∧ abs Try.f47.ntmps c = B47 := ⟨_, rfl, by kernel_rfl⟩
theorem hb47 : HasBody Try.prog 47 := hasBody_of Try.func47 (by kernel_rfl)
theorem res47 : Try.f47.results = #[(.tmp 3)] := rfl
theorem enter47 {w : World} {R : Value → World → Prop} (x0 x1 : Value) (h : vc Try.prog B47 (retK Try.prog #[(.tmp 3)] R) [] (initEnv [x0, x1] 0) w) : FnC Try.prog 47 #[x0, x1] w R := by
  obtain ⟨c, h1, h2⟩ := code47
  exact hb47.fn (ret_of_vc mixed Try.func47 h1 (Nat.le_of_ble_eq_true rfl) B47 h2 h)
@[push_cast] theorem vr47_0 : VR r47_0 [⟨some 3, .assign (.const (.bool false)), 4, none⟩] := vR rfl
@[push_cast] theorem vr47_1 : VR r47_1 [⟨some 4, .move (.tmp 0), 3, none⟩, ⟨some 5, .load 3 (.tmp 1), 3, none⟩, ⟨some 6, .binOp .lss 3 (.tmp 4) (.tmp 5) 3, 4, none⟩, ⟨some 3, .assign (.tmp 6), 4, none⟩] := vR rfl
/-! 48 columbary/cuboid.Split$2 (params #[3], results #[(.tmp 3)], 7 slots) -/
def r48_0 : List VOp :=
  [⟨some 3, .assign (.const (.bool false)), 4, none⟩]
def r48_1 : List VOp :=
  [mv 4 0 3,
   lda 5 3 1,
   ⟨some 6, .binOp .geq 3 (.tmp 4) (.tmp 5) 3, 4, none⟩,
   asg 3 6 4]
def B48 : VC :=
  (.seq (.region r48_0) (.seq (.region r48_1) .ret))
theorem code48 : ∃ c, Try.f48.body = some c ∧ abs Try.f48.ntmps c = B48 := ⟨_, rfl, by kernel_rfl⟩
theorem hb48 : HasBody Try.prog 48 := hasBody_of Try.func48 (by kernel_rfl)
theorem res48 : Try.f48.results = #[(.tmp 3)] := rfl
theorem enter48 {w : World} {R : Value → World → Prop} (x0 x1 : Value) (h : vc Try.prog B48 (retK Try.prog #[(.tmp 3)] R) [] (initEnv [x0, x1] 0) w) : FnC Try.prog 48 #[x0, x1] w R := by
  obtain ⟨c, h1, h2⟩ := code48
  exact hb48.fn (ret_of_vc mixed Try.func48 h1 (Nat.le_of_ble_eq_true rfl) B48 h2 h)
@[push_cast] theorem vr48_0 : VR r48_0 [⟨some 3, .assign (.const (.bool false)), 4, none⟩] := vR rfl
@[push_cast] theorem vr48_1 : VR r48_1 [⟨some 4, .move (.tmp 0), 3, none⟩, ⟨some 5, .load 3 (.tmp 1), 3, none⟩, ⟨some 6, .binOp .geq 3 (.tmp 4) (.tmp 5) 3, 4, none⟩, ⟨some 3, .assign (.tmp 6), 4, none⟩] := vR rfl
/-! 49 columbary/columbaryref10.Subset (params #[22, 22], results #[(.tmp 4)], 32 slots) -/
def W49_0 : List Nat := [4, 5, 6, 7, 8, 9, 10, 11, 12, 13, 14, 15, 16, 17, 18, 19, 20, 21, 22, 23, 24, 25, 26, 27, 28, 29, 30, 31]
@[push_cast] theorem W49_0_def : W49_0 = [4, 5, 6, 7, 8, 9, 10, 11, 12, 13, 14, 15, 16, 17, 18, 19, 20, 21, 22, 23, 24, 25, 26, 27, 28, 29, 30, 31] := mk_eq rfl
def r49_0 : List VOp :=
  [⟨some 4, .assign (.const (.bool false)), 4, none⟩]
def r49_1 : List VOp :=
  [⟨some 5, .assign (.const (.int .i64 (-1))), 3, none⟩]
def r49_2 : List VOp :=
  [⟨some 6, .assign (.const (.int .i64 0)), 3, none⟩]
def r49_3 : List VOp :=
  [mv 9 6 3,
   mv 10 0 22,
   ⟨some 11, .call ⟨.builtin .len, #[.tmp 10], #[22]⟩, 3, none⟩,
   ⟨some 12, .binOp .lss 3 (.tmp 9) (.tmp 11) 3, 4, none⟩]
def r49_5 : List VOp :=
  [mv 16 1 22,
   mv 17 0 22,
   mv 18 6 3,
   iad 19 22 17 18,
   lda 20 9 19,
   ⟨some 21, .call ⟨.value (.func 86), #[.tmp 16, .tmp 20], #[22, 9]⟩, 69, none⟩,
   mv 15 21 69,
   ext 22 15 0 3,
   ext 23 15 1 4,
   asg 7 22 3,
   asg 8 23 4]
def r49_6 : List VOp :=
  [mv 24 8 4,
   ⟨some 25, .unOp .not 4 (.tmp 24), 4, none⟩,
   mv 26 25 4,
   ⟨some 27, .move (.tmp 7), 3, some (26, false)⟩,
   ⟨some 28, .move (.tmp 5), 3, some (26, false)⟩,
   ⟨some 29, .binOp .leq 3 (.tmp 27) (.tmp 28) 3, 4, some (26, false)⟩,
   ⟨some 30, .pick (.tmp 26) (.const (.bool true)) (.tmp 29), 4, none⟩]
def r49_7 : List VOp :=
  [⟨some 4, .assign (.const (.bool false)), 4, none⟩]
def r49_8 : List VOp :=
  [mv 31 7 3,
   asg 5 31 3]
def r49_4 : List VOp :=
  [mv 13 6 3,
   ⟨some 14, .binOp .add 3 (.tmp 13) (.const (.int .i64 1)) 3, 3, none⟩,
   asg 6 14 3]
def r49_9 : List VOp :=
  [⟨some 4, .assign (.const (.bool true)), 4, none⟩]
def B49 : VC :=
  (.seq (.region r49_0) (.seq (.region r49_1) (.seq (.seq (.region r49_2) (.block 0 (.loop (.seq (.seq (.region r49_3) (.cond (.tmp 12) .skip (.exit 0))) (.seq (.block 1 (.seq (.region r49_5) (.seq (.seq (.region r49_6) (.cond (.tmp 30) (.seq (.region r49_7) .ret) .skip)) (.region r49_8)))) (.region r49_4)))))) (.seq (.region r49_9) .ret))))
theorem code49 : ∃ c, Try.f49.body = some c ∧ abs Try.f49.ntmps c = B49 := ⟨_, rfl, by kernel_rfl⟩
theorem hb49 : HasBody Try.prog 49 := hasBody_of Try.func49 (by kernel_rfl)
theorem res49 : Try.f49.results = #[(.tmp 4)] := rfl
theorem enter49 {w : World} {R : Value → World → Prop} (x0 x1 : Value) (h : vc Try.prog B49 (retK Try.prog #[(.tmp 4)] R) [] (initEnv [x0, x1] 0) w) : FnC Try.prog 49 #[x0, x1] w R := by
  obtain ⟨c, h1, h2⟩ := code49
  exact hb49.fn (ret_of_vc mixed Try.func49 h1 (Nat.le_of_ble_eq_true rfl) B49 h2 h)
@[push_cast] theorem vr49_0 : VR r49_0 [⟨some 4, .assign (.const (.bool false)), 4, none⟩] := vR rfl
@[push_cast] theorem vr49_1 : VR r49_1 [⟨some 5, .assign (.const (.int .i64 (-1))), 3, none⟩] := vR rfl
@[push_cast] theorem vr49_2 : VR r49_2 [⟨some 6, .assign (.const (.int .i64 0)), 3, none⟩] := vR rfl
@[push_cast] theorem vr49_3 : VR r49_3 [⟨some 9, .move (.tmp 6), 3, none⟩, ⟨some 10, .move (.tmp 0), 22, none⟩, ⟨some 11, .call ⟨.builtin .len, #[.tmp 10], #[22]⟩, 3, none⟩, ⟨some 12, .binOp .lss 3 (.tmp 9) (.tmp 11) 3, 4, none⟩] := vR rfl
@[push_cast] theorem vr49_5 : VR r49_5 [⟨some 16, .move (.tmp 1), 22, none⟩, ⟨some 17, .move (.tmp 0), 22, none⟩, ⟨some 18, .move (.tmp 6), 3, none⟩, ⟨some 19, .indexAddr 22 (.tmp 17) (.tmp 18), 0, none⟩, ⟨some 20, .load 9 (.tmp 19), 9, none⟩, ⟨some 21, .call ⟨.value (.func 86), #[.tmp 16, .tmp 20], #[22, 9]⟩, 69, none⟩, ⟨some 15, .move (.tmp 21), 69, none⟩, ⟨some 22, .extract (.tmp 15) 0, 3, none⟩, ⟨some 23, .extract (.tmp 15) 1, 4, none⟩, ⟨some 7, .assign (.tmp 22), 3, none⟩, ⟨some 8, .assign (.tmp 23), 4, none⟩] := vR rfl
@[push_cast] theorem vr49_6 : VR r49_6 [⟨some 24, .move (.tmp 8), 4, none⟩, ⟨some 25, .unOp .not 4 (.tmp 24), 4, none⟩, ⟨some 26, .move (.tmp 25), 4, none⟩, ⟨some 27, .move (.tmp 7), 3, some (26, false)⟩, ⟨some 28, .move (.tmp 5), 3, some (26, false)⟩, ⟨some 29, .binOp .leq 3 (.tmp 27) (.tmp 28) 3, 4, some (26, false)⟩, ⟨some 30, .pick (.tmp 26) (.const (.bool true)) (.tmp 29), 4, none⟩] := vR rfl
@[push_cast] theorem vr49_7 : VR r49_7 [⟨some 4, .assign (.const (.bool false)), 4, none⟩] := vR rfl
@[push_cast] theorem vr49_8 : VR r49_8 [⟨some 31, .move (.tmp 7), 3, none⟩, ⟨some 5, .assign (.tmp 31), 3, none⟩] := vR rfl
@[push_cast] theorem vr49_4 : VR r49_4 [⟨some 13, .move (.tmp 6), 3, none⟩, ⟨some 14, .binOp .add 3 (.tmp 13) (.const (.int .i64 1)) 3, 3, none⟩, ⟨some 6, .assign (.tmp 14), 3, none⟩] := vR rfl
@[push_cast] theorem vr49_9 : VR r49_9 [⟨some 4, .assign (.const (.bool true)), 4, none⟩] := vR rfl
/-! 51 columbary/columbaryref14.Row (params #[24, 35, 22, 3], results #[(.cell 8 35)], 55 slots) -/
def W51_0 : List Nat := [12, 13, 14, 28, 29, 30, 31, 32, 33, 34, 35, 36, 37, 38, 39, 40, 41, 42, 43, 44, 45, 46, 47, 48, 49, 50, 51, 52, 53]
@[push_cast] theorem W51_0_def : W51_0 = [12, 13, 14, 28, 29, 30, 31, 32, 33, 34, 35, 36, 37, 38, 39, 40, 41, 42, 43, 44, 45, 46, 47, 48, 49, 50, 51, 52, 53] := mk_eq rfl
def r51_0 : List VOp :=
  [⟨some 4, .box 24 (.tmp 0), 0, none⟩,
   ⟨some 5, .box 35 (.tmp 1), 0, none⟩,
   ⟨some 8, .alloc 35, 0, none⟩]
def r51_1 : List VOp :=
  [fad 16 35 5 0,
   lda 17 3 16,
   mv 18 3 3,
   ⟨some 19, .call ⟨.value (.func 87), #[.tmp 17, .tmp 18], #[3, 3]⟩, 71, none⟩,
   mv 15 19 71,
   ext 20 15 0 3,
   ext 21 15 1 28,
   asg 9 20 3,
   asg 10 21 28]
def r51_2 : List VOp :=
  [mv 22 9 3,
   fad 23 35 5 2,
   lda 24 3 23,
   fad 25 35 5 3,
   lda 26 33 25,
   ⟨some 27, .build 35 #[(0, (.tmp 22)), (2, (.tmp 24)), (3, (.tmp 26))], 35, none⟩,
   ⟨some 11, .alloc 35, 0, none⟩,
   ⟨none, .store 35 (.tmp 11) (.tmp 27), 0, none⟩]
def r51_3 : List VOp :=
  [⟨some 12, .assign (.const (.int .i64 0)), 3, none⟩]
def r51_4 : List VOp :=
  [mv 28 12 3,
   mv 29 2 22,
   ⟨some 30, .call ⟨.builtin .len, #[.tmp 29], #[22]⟩, 3, none⟩,
   ⟨some 31, .binOp .lss 3 (.tmp 28) (.tmp 30) 3, 4, none⟩]
def r51_6 : List VOp :=
  [fad 35 24 4 0,
   lda 36 22 35,
   mv 37 2 22,
   mv 38 12 3,
   iad 39 22 37 38,
   lda 40 9 39,
   ⟨some 41, .call ⟨.value (.func 86), #[.tmp 36, .tmp 40], #[22, 9]⟩, 69, none⟩,
   mv 34 41 69,
   ext 42 34 0 3,
   ext 43 34 1 4,
   asg 13 42 3,
   asg 14 43 4]
def r51_7 : List VOp :=
  [fad 44 35 11 1,
   lda 45 22 44,
   fad 46 35 5 1,
   lda 47 22 46,
   mv 48 13 3,
   iad 49 22 47 48,
   lda 50 9 49,
   ⟨some 51, .buildSlice 22 1 #[(0, (.tmp 50))], 22, none⟩,
   ⟨some 52, .call ⟨.builtin .append, #[.tmp 45, .tmp 51], #[22, 22]⟩, 22, none⟩,
   fad 53 35 11 1,
   ⟨none, .store 22 (.tmp 53) (.tmp 52), 0, none⟩]
def r51_5 : List VOp :=
  [mv 32 12 3,
   ⟨some 33, .binOp .add 3 (.tmp 32) (.const (.int .i64 1)) 3, 3, none⟩,
   asg 12 33 3]
def r51_8 : List VOp :=
  [lda 54 35 11,
   ⟨none, .store 35 (.tmp 8) (.tmp 54), 0, none⟩]
def B51 : VC :=
  (.seq (.region r51_0) (.seq (.region r51_1) (.seq (.region r51_2) (.seq (.seq (.region r51_3) (.block 0 (.loop (.seq (.seq (.region r51_4) (.cond (.tmp 31) .skip (.exit 0))) (.seq (.block 1 (.seq (.draw r51_6 2) (.draw r51_7 4))) (.region r51_5)))))) (.seq (.region r51_8) .ret)))))
theorem code51 : ∃ c, Try.f51.body = some c ∧ abs Try.f51.ntmps c = B51 := ⟨_, rfl, by kernel_rfl⟩
theorem hb51 : HasBody Try.prog 51 := hasBody_of Try.func51 (by kernel_rfl)
theorem res51 : Try.f51.results = #[(.cell 8 35)] := rfl
theorem enter51 {w : World} {R : Value → World → Prop} (x0 x1 x2 x3 : Value) (h : vc Try.prog B51 (retK Try.prog #[(.cell 8 35)] R) [] (initEnv [x0, x1, x2, x3] 0) w) : FnC Try.prog 51 #[x0, x1, x2, x3] w R := by
  obtain ⟨c, h1, h2⟩ := code51
  exact hb51.fn (ret_of_vc mixed Try.func51 h1 (Nat.le_of_ble_eq_true rfl) B51 h2 h)
@[push_cast] theorem vr51_0 : VR r51_0 [⟨some 4, .box 24 (.tmp 0), 0, none⟩, ⟨some 5, .box 35 (.tmp 1), 0, none⟩, ⟨some 8, .alloc 35, 0, none⟩] := vR rfl
@[push_cast] theorem vr51_1 : VR r51_1 [⟨some 16, .fieldAddr 35 (.tmp 5) 0, 0, none⟩, ⟨some 17, .load 3 (.tmp 16), 3, none⟩, ⟨some 18, .move (.tmp 3), 3, none⟩, ⟨some 19, .call ⟨.value (.func 87), #[.tmp 17, .tmp 18], #[3, 3]⟩, 71, none⟩, ⟨some 15, .move (.tmp 19), 71, none⟩, ⟨some 20, .extract (.tmp 15) 0, 3, none⟩, ⟨some 21, .extract (.tmp 15) 1, 28, none⟩, ⟨some 9, .assign (.tmp 20), 3, none⟩, ⟨some 10, .assign (.tmp 21), 28, none⟩] := vR rfl
@[push_cast] theorem vr51_2 : VR r51_2 [⟨some 22, .move (.tmp 9), 3, none⟩, ⟨some 23, .fieldAddr 35 (.tmp 5) 2, 0, none⟩, ⟨some 24, .load 3 (.tmp 23), 3, none⟩, ⟨some 25, .fieldAddr 35 (.tmp 5) 3, 0, none⟩, ⟨some 26, .load 33 (.tmp 25), 33, none⟩, ⟨some 27, .build 35 #[(0, (.tmp 22)), (2, (.tmp 24)), (3, (.tmp 26))], 35, none⟩, ⟨some 11, .alloc 35, 0, none⟩, ⟨none, .store 35 (.tmp 11) (.tmp 27), 0, none⟩] := vR rfl
@[push_cast] theorem vr51_3 : VR r51_3 [⟨some 12, .assign (.const (.int .i64 0)), 3, none⟩] := vR rfl
@[push_cast] theorem vr51_4 : VR r51_4 [⟨some 28, .move (.tmp 12), 3, none⟩, ⟨some 29, .move (.tmp 2), 22, none⟩, ⟨some 30, .call ⟨.builtin .len, #[.tmp 29], #[22]⟩, 3, none⟩, ⟨some 31, .binOp .lss 3 (.tmp 28) (.tmp 30) 3, 4, none⟩] := vR rfl
@[push_cast] theorem vr51_6 : vc Try.prog (.draw r51_6 2) Q ds σ w = drawn Try.prog [(⟨some 35, .fieldAddr 24 (.tmp 4) 0, 0, none⟩, [4]), (⟨some 36, .load 22 (.tmp 35), 22, none⟩, [35]), (⟨some 37, .move (.tmp 2), 22, none⟩, [2]), (⟨some 38, .move (.tmp 12), 3, none⟩, [12]), (⟨some 39, .indexAddr 22 (.tmp 37) (.tmp 38), 0, none⟩, [37, 38]), (⟨some 40, .load 9 (.tmp 39), 9, none⟩, [39]), (⟨some 41, .call ⟨.value (.func 86), #[.tmp 36, .tmp 40], #[22, 9]⟩, 69, none⟩, [36, 40]), (⟨some 34, .move (.tmp 41), 69, none⟩, [41]), (⟨some 42, .extract (.tmp 34) 0, 3, none⟩, [34]), (⟨some 43, .extract (.tmp 34) 1, 4, none⟩, [34]), (⟨some 13, .assign (.tmp 42), 3, none⟩, [42]), (⟨some 14, .assign (.tmp 43), 4, none⟩, [43])] 2 (Q .normal ds) σ w := mk_eq rfl
@[push_cast] theorem vr51_7 : vc Try.prog (.draw r51_7 4) Q ds σ w = drawn Try.prog [(⟨some 44, .fieldAddr 35 (.tmp 11) 1, 0, none⟩, [11]), (⟨some 45, .load 22 (.tmp 44), 22, none⟩, [44]), (⟨some 46, .fieldAddr 35 (.tmp 5) 1, 0, none⟩, [5]), (⟨some 47, .load 22 (.tmp 46), 22, none⟩, [46]), (⟨some 48, .move (.tmp 13), 3, none⟩, [13]), (⟨some 49, .indexAddr 22 (.tmp 47) (.tmp 48), 0, none⟩, [47, 48]), (⟨some 50, .load 9 (.tmp 49), 9, none⟩, [49]), (⟨some 51, .buildSlice 22 1 #[(0, (.tmp 50))], 22, none⟩, [50]), (⟨some 52, .call ⟨.builtin .append, #[.tmp 45, .tmp 51], #[22, 22]⟩, 22, none⟩, [45, 51]), (⟨some 53, .fieldAddr 35 (.tmp 11) 1, 0, none⟩, [11]), (⟨none, .store 22 (.tmp 53) (.tmp 52), 0, none⟩, [53, 52])] 4 (Q .normal ds) σ w := mk_eq rfl
@[push_cast] theorem vr51_5 : VR r51_5 [⟨some 32, .move (.tmp 12), 3, none⟩, ⟨some 33, .binOp .add 3 (.tmp 32) (.const (.int .i64 1)) 3, 3, none⟩, ⟨some 12, .assign (.tmp 33), 3, none⟩] := vR rfl
@[push_cast] theorem vr51_8 : VR r51_8 [⟨some 54, .load 35 (.tmp 11), 35, none⟩, ⟨none, .store 35 (.tmp 8) (.tmp 54), 0, none⟩] := vR rfl
/-! 53 columbary/cuboid.Within$1 (params #[3], results #[(.tmp 4)], 13 slots) -/
def r53_0 : List VOp :=
  [⟨some 4, .assign (.const (.bool false)), 4, none⟩]
def r53_1 : List VOp :=
  [mv 5 0 3,
   lda 6 3 1,
   ⟨some 7, .binOp .geq 3 (.tmp 5) (.tmp 6) 3, 4, none⟩,
   mv 8 7 4,
   ⟨some 9, .move (.tmp 0), 3, some (8, true)⟩,
   ⟨some 10, .load 3 (.tmp 2), 3, some (8, true)⟩,
   ⟨some 11, .binOp .lss 3 (.tmp 9) (.tmp 10) 3, 4, some (8, true)⟩,
   ⟨some 12, .pick (.tmp 8) (.tmp 11) (.const (.bool false)), 4, none⟩,
   asg 4 12 4]
def B53 : VC :=
  (.seq (.region r53_0) (.seq (.region r53_1) .ret))
theorem code53 : ∃ c, Try.f53.body = some c ∧ abs Try.f53.ntmps c = B53 := ⟨_, rfl, by kernel_rfl⟩
theorem hb53 : HasBody Try.prog 53 := hasBody_of Try.func53 (by kernel_rfl)
theorem res53 : Try.f53.results = #[(.tmp 4)] := rfl
theorem enter53 {w : World} {R : Value → World → Prop} (x0 x1 x2 : Value) (h : vc Try.prog B53 (retK Try.prog #[(.tmp 4)] R) [] (initEnv [x0, x1, x2] 0) w) : FnC Try.prog 53 #[x0, x1, x2] w R := by
  obtain ⟨c, h1, h2⟩ := code53
  exact hb53.fn (ret_of_vc mixed Try.func53 h1 (Nat.le_of_ble_eq_true rfl) B53 h2 h)
@[push_cast] theorem vr53_0 : VR r53_0 [⟨some 4, .assign (.const (.bool false)), 4, none⟩] := vR rfl
@[push_cast] theorem vr53_1 : VR r53_1 [⟨some 5, .move (.tmp 0), 3, none⟩, ⟨some 6, .load 3 (.tmp 1), 3, none⟩, ⟨some 7, .binOp .geq 3 (.tmp 5) (.tmp 6) 3, 4, none⟩, ⟨some 8, .move (.tmp 7), 4, none⟩, ⟨some 9, .move (.tmp 0), 3, some (8, true)⟩, ⟨some 10, .load 3 (.tmp 2), 3, some (8, true)⟩, ⟨some 11, .binOp .lss 3 (.tmp 9) (.tmp 10) 3, 4, some (8, true)⟩, ⟨some 12, .pick (.tmp 8) (.tmp 11) (.const (.bool false)), 4, none⟩, ⟨some 4, .assign (.tmp 12), 4, none⟩] := vR rfl
/-! 80 slices.Index[[]string,string] (params #[22, 9], results #[(.tmp 4)], 19 slots) -/
def W80_0 : List Nat := [4, 5, 8, 9, 10, 11, 12, 13, 14, 15, 16, 17, 18]
@[push_cast] theorem W80_0_def : W80_0 = [4, 5, 8, 9, 10, 11, 12, 13, 14, 15, 16, 17, 18] := mk_eq rfl
def r80_0 : List VOp :=
  [⟨some 4, .assign (.const (.int .i64 0)), 3, none⟩]
def r80_1 : List VOp :=
  [mv 6 0 22,
   ⟨some 7, .call ⟨.builtin .len, #[.tmp 6], #[22]⟩, 3, none⟩,
   ⟨some 8, .move (.const (.int .i64 0)), 3, none⟩]
def r80_2 : List VOp :=
  [⟨some 9, .binOp .lss 3 (.tmp 8) (.tmp 7) 3, 0, none⟩]
def r80_3 : List VOp :=
  [mv 10 8 3,
   asg 5 10 3]
def r80_4 : List VOp :=
  [mv 11 1 9,
   mv 12 0 22,
   mv 13 5 3,
   iad 14 22 12 13,
   lda 15 9 14,
   ⟨some 16, .binOp .eql 9 (.tmp 11) (.tmp 15) 9, 4, none⟩]
def r80_5 : List VOp :=
  [mv 17 5 3,
   asg 4 17 3]
def r80_6 : List VOp :=
  [⟨some 18, .binOp .add 3 (.tmp 8) (.const (.int .i64 1)) 3, 3, none⟩,
   mv 8 18 3]
def r80_7 : List VOp :=
  [⟨some 4, .assign (.const (.int .i64 (-1))), 3, none⟩]
def B80 : VC :=
  (.seq (.region r80_0) (.seq (.seq (.region r80_1) (.block 0 (.loop (.seq (.region r80_2) (.seq (.cond (.tmp 9) .skip (.exit 0)) (.seq (.block 1 (.seq (.region r80_3) (.seq (.region r80_4) (.cond (.tmp 16) (.seq (.region r80_5) .ret) .skip)))) (.region r80_6))))))) (.seq (.region r80_7) .ret)))
theorem code80 : ∃ c, Try.f80.body = some c ∧ abs Try.f80.ntmps c = B80 := ⟨_, rfl, by kernel_rfl⟩
theorem hb80 : HasBody Try.prog 80 := hasBody_of Try.func80 (by kernel_rfl)
theorem res80 : Try.f80.results = #[(.tmp 4)] := rfl
theorem enter80 {w : World} {R : Value → World → Prop} (x0 x1 : Value) (h : vc Try.prog B80 (retK Try.prog #[(.tmp 4)] R) [] (initEnv [x0, x1] 0) w) : FnC Try.prog 80 #[x0, x1] w R := by
  obtain ⟨c, h1, h2⟩ := code80
  exact hb80.fn (ret_of_vc mixed Try.func80 h1 (Nat.le_of_ble_eq_true rfl) B80 h2 h)
@[push_cast] theorem vr80_0 : VR r80_0 [⟨some 4, .assign (.const (.int .i64 0)), 3, none⟩] := vR rfl
@[push_cast] theorem vr80_1 : VR r80_1 [⟨some 6, .move (.tmp 0), 22, none⟩, ⟨some 7, .call ⟨.builtin .len, #[.tmp 6], #[22]⟩, 3, none⟩, ⟨some 8, .move (.const (.int .i64 0)), 3, none⟩] := vR rfl
@[push_cast] theorem vr80_2 : VR r80_2 [⟨some 9, .binOp .lss 3 (.tmp 8) (.tmp 7) 3, 0, none⟩] := vR rfl
@[push_cast] theorem vr80_3 : VR r80_3 [⟨some 10, .move (.tmp 8), 3, none⟩, ⟨some 5, .assign (.tmp 10), 3, none⟩] := vR rfl
@[push_cast] theorem vr80_4 : VR r80_4 [⟨some 11, .move (.tmp 1), 9, none⟩, ⟨some 12, .move (.tmp 0), 22, none⟩, ⟨some 13, .move (.tmp 5), 3, none⟩, ⟨some 14, .indexAddr 22 (.tmp 12) (.tmp 13), 0, none⟩, ⟨some 15, .load 9 (.tmp 14), 9, none⟩, ⟨some 16, .binOp .eql 9 (.tmp 11) (.tmp 15) 9, 4, none⟩] := vR rfl
@[push_cast] theorem vr80_5 : VR r80_5 [⟨some 17, .move (.tmp 5), 3, none⟩, ⟨some 4, .assign (.tmp 17), 3, none⟩] := vR rfl
@[push_cast] theorem vr80_6 : VR r80_6 [⟨some 18, .binOp .add 3 (.tmp 8) (.const (.int .i64 1)) 3, 3, none⟩, ⟨some 8, .move (.tmp 18), 3, none⟩] := vR rfl
@[push_cast] theorem vr80_7 : VR r80_7 [⟨some 4, .assign (.const (.int .i64 (-1))), 3, none⟩] := vR rfl
/-! 81 columbary/schema.find (params #[22, 9], results #[(.tmp 4), (.tmp 5)], 14 slots) -/
def r81_0 : List VOp :=
  [⟨some 4, .assign (.const (.int .i64 0)), 3, none⟩,
   ⟨some 5, .assign (.const (.bool false)), 4, none⟩]
def r81_1 : List VOp :=
  [mv 7 0 22,
   mv 8 1 9,
   ⟨some 9, .call ⟨.value (.func 80), #[.tmp 7, .tmp 8], #[22, 9]⟩, 3, none⟩,
   asg 6 9 3]
def r81_2 : List VOp :=
  [mv 10 6 3,
   ⟨some 11, .call ⟨.builtin .max, #[(.tmp 10), (.const (.int .i64 0))], #[3, 3]⟩, 3, none⟩,
   mv 12 6 3,
   ⟨some 13, .binOp .geq 3 (.tmp 12) (.const (.int .i64 0)) 3, 4, none⟩,
   asg 4 11 3,
   asg 5 13 4]
def B81 : VC :=
  (.seq (.region r81_0) (.seq (.region r81_1) (.seq (.region r81_2) .ret)))
theorem code81 : ∃ c, Try.f81.body = some c ∧ abs Try.f81.ntmps c = B81 := ⟨_, rfl, by kernel_rfl⟩
theorem hb81 : HasBody Try.prog 81 := hasBody_of Try.func81 (by kernel_rfl)
theorem res81 : Try.f81.results = #[(.tmp 4), (.tmp 5)] := rfl
theorem enter81 {w : World} {R : Value → World → Prop} (x0 x1 : Value) (h : vc Try.prog B81 (retK Try.prog #[(.tmp 4), (.tmp 5)] R) [] (initEnv [x0, x1] 0) w) : FnC Try.prog 81 #[x0, x1] w R := by
  obtain ⟨c, h1, h2⟩ := code81
  exact hb81.fn (ret_of_vc mixed Try.func81 h1 (Nat.le_of_ble_eq_true rfl) B81 h2 h)
@[push_cast] theorem vr81_0 : VR r81_0 [⟨some 4, .assign (.const (.int .i64 0)), 3, none⟩, ⟨some 5, .assign (.const (.bool false)), 4, none⟩] := vR rfl
@[push_cast] theorem vr81_1 : VR r81_1 [⟨some 7, .move (.tmp 0), 22, none⟩, ⟨some 8, .move (.tmp 1), 9, none⟩, ⟨some 9, .call ⟨.value (.func 80), #[.tmp 7, .tmp 8], #[22, 9]⟩, 3, none⟩, ⟨some 6, .assign (.tmp 9), 3, none⟩] := vR rfl
@[push_cast] theorem vr81_2 : VR r81_2 [⟨some 10, .move (.tmp 6), 3, none⟩, ⟨some 11, .call ⟨.builtin .max, #[(.tmp 10), (.const (.int .i64 0))], #[3, 3]⟩, 3, none⟩, ⟨some 12, .move (.tmp 6), 3, none⟩, ⟨some 13, .binOp .geq 3 (.tmp 12) (.const (.int .i64 0)) 3, 4, none⟩, ⟨some 4, .assign (.tmp 11), 3, none⟩, ⟨some 5, .assign (.tmp 13), 4, none⟩] := vR rfl
/-! 84 slices.DeleteFunc[[]columbary/api.Row,columbary/api.Row] (params #[25, 98], results #[(.tmp 4)], 42 slots) -/
def W84_0 : List Nat := [5, 6, 7, 16, 17, 18, 19, 20, 21, 22, 23, 24, 25, 26, 27, 28, 29, 30, 31, 32, 33, 34, 35]
@[push_cast] theorem W84_0_def : W84_0 = [5, 6, 7, 16, 17, 18, 19, 20, 21, 22, 23, 24, 25, 26, 27, 28, 29, 30, 31, 32, 33, 34, 35] := mk_eq rfl
def r84_0 : List VOp :=
  [⟨some 4, .assign (.const (.slice none 0 0)), 25, none⟩]
def r84_1 : List VOp :=
  [mv 8 0 25,
   mv 9 1 98,
   ⟨some 10, .call ⟨.value (.func 104), #[.tmp 8, .tmp 9], #[25, 98]⟩, 3, none⟩,
   asg 5 10 3]
def r84_2 : List VOp :=
  [mv 11 5 3,
   ⟨some 12, .binOp .eql 3 (.tmp 11) (.const (.int .i64 (-1))) 3, 4, none⟩]
def r84_3 : List VOp :=
  [mv 13 0 25,
   asg 4 13 25]
def r84_4 : List VOp :=
  [mv 14 5 3,
   ⟨some 15, .binOp .add 3 (.tmp 14) (.const (.int .i64 1)) 3, 3, none⟩,
   asg 6 15 3]
def r84_5 : List VOp :=
  [mv 16 6 3,
   mv 17 0 25,
   ⟨some 18, .call ⟨.builtin .len, #[.tmp 17], #[25]⟩, 3, none⟩,
   ⟨some 19, .binOp .lss 3 (.tmp 16) (.tmp 18) 3, 4, none⟩]
def r84_7 : List VOp :=
  [mv 22 0 25,
   mv 23 6 3,
   iad 24 25 22 23,
   lda 25 35 24,
   ⟨some 7, .alloc 35, 0, none⟩,
   ⟨none, .store 35 (.tmp 7) (.tmp 25), 0, none⟩]
def r84_8 : List VOp :=
  [mv 26 1 98,
   lda 27 35 7,
   ⟨some 28, .call ⟨.value (.tmp 26), #[.tmp 27], #[35]⟩, 4, none⟩,
   ⟨some 29, .unOp .not 4 (.tmp 28), 4, none⟩]
def r84_9 : List VOp :=
  [mv 30 0 25,
   mv 31 5 3,
   lda 32 35 7,
   iad 33 25 30 31,
   ⟨none, .store 35 (.tmp 33) (.tmp 32), 0, none⟩]
def r84_10 : List VOp :=
  [mv 34 5 3,
   ⟨some 35, .binOp .add 3 (.tmp 34) (.const (.int .i64 1)) 3, 3, none⟩,
   asg 5 35 3]
def r84_6 : List VOp :=
  [mv 20 6 3,
   ⟨some 21, .binOp .add 3 (.tmp 20) (.const (.int .i64 1)) 3, 3, none⟩,
   asg 6 21 3]
def r84_11 : List VOp :=
  [mv 36 0 25,
   mv 37 5 3,
   ⟨some 38, .slice 25 (.tmp 36) (some (.tmp 37)) none none, 25, none⟩,
   ⟨none, .call ⟨.builtin .clear, #[.tmp 38], #[25]⟩, 0, none⟩]
def r84_12 : List VOp :=
  [mv 39 0 25,
   mv 40 5 3,
   ⟨some 41, .slice 25 (.tmp 39) none (some (.tmp 40)) none, 25, none⟩,
   asg 4 41 25]
def B84 : VC :=
  (.seq (.region r84_0) (.seq (.region r84_1) (.seq (.seq (.region r84_2) (.cond (.tmp 12) (.seq (.region r84_3) .ret) .skip)) (.seq (.seq (.region r84_4) (.block 0 (.loop (.seq (.seq (.region r84_5) (.cond (.tmp 19) .skip (.exit 0))) (.seq (.block 1 (.seq (.region r84_7) (.seq (.region r84_8) (.cond (.tmp 29) (.seq (.region r84_9) (.region r84_10)) .skip)))) (.region r84_6)))))) (.seq (.region r84_11) (.seq (.region r84_12) .ret))))))
theorem code84 : ∃ c, Try.f84.body = some c ∧ abs Try.f84.ntmps c = B84 := ⟨_, rfl, by kernel_rfl⟩
theorem hb84 : HasBody Try.prog 84 := hasBody_of Try.func84 (by kernel_rfl)
theorem res84 : Try.f84.results = #[(.tmp 4)] := rfl
theorem enter84 {w : World} {R : Value → World → Prop} (x0 x1 : Value) (h : vc Try.prog B84 (retK Try.prog #[(.tmp 4)] R) [] (initEnv [x0, x1] 0) w) : FnC Try.prog 84 #[x0, x1] w R := by
  obtain ⟨c, h1, h2⟩ := code84
  exact hb84.fn (ret_of_vc mixed Try.func84 h1 (Nat.le_of_ble_eq_true rfl) B84 h2 h)
@[push_cast] theorem vr84_0 : VR r84_0 [⟨some 4, .assign (.const (.slice none 0 0)), 25, none⟩] := vR rfl
@[push_cast] theorem vr84_1 : VR r84_1 [⟨some 8, .move (.tmp 0), 25, none⟩, ⟨some 9, .move (.tmp 1), 98, none⟩, ⟨some 10, .call ⟨.value (.func 104), #[.tmp 8, .tmp 9], #[25, 98]⟩, 3, none⟩, ⟨some 5, .assign (.tmp 10), 3, none⟩] := vR rfl
@[push_cast] theorem vr84_2 : VR r84_2 [⟨some 11, .move (.tmp 5), 3, none⟩, ⟨some 12, .binOp .eql 3 (.tmp 11) (.const (.int .i64 (-1))) 3, 4, none⟩] := vR rfl
@[push_cast] theorem vr84_3 : VR r84_3 [⟨some 13, .move (.tmp 0), 25, none⟩, ⟨some 4, .assign (.tmp 13), 25, none⟩] := vR rfl
@[push_cast] theorem vr84_4 : VR r84_4 [⟨some 14, .move (.tmp 5), 3, none⟩, ⟨some 15, .binOp .add 3 (.tmp 14) (.const (.int .i64 1)) 3, 3, none⟩, ⟨some 6, .assign (.tmp 15), 3, none⟩] := vR rfl
@[push_cast] theorem vr84_5 : VR r84_5 [⟨some 16, .move (.tmp 6), 3, none⟩, ⟨some 17, .move (.tmp 0), 25, none⟩, ⟨some 18, .call ⟨.builtin .len, #[.tmp 17], #[25]⟩, 3, none⟩, ⟨some 19, .binOp .lss 3 (.tmp 16) (.tmp 18) 3, 4, none⟩] := vR rfl
@[push_cast] theorem vr84_7 : VR r84_7 [⟨some 22, .move (.tmp 0), 25, none⟩, ⟨some 23, .move (.tmp 6), 3, none⟩, ⟨some 24, .indexAddr 25 (.tmp 22) (.tmp 23), 0, none⟩, ⟨some 25, .load 35 (.tmp 24), 35, none⟩, ⟨some 7, .alloc 35, 0, none⟩, ⟨none, .store 35 (.tmp 7) (.tmp 25), 0, none⟩] := vR rfl
@[push_cast] theorem vr84_8 : VR r84_8 [⟨some 26, .move (.tmp 1), 98, none⟩, ⟨some 27, .load 35 (.tmp 7), 35, none⟩, ⟨some 28, .call ⟨.value (.tmp 26), #[.tmp 27], #[35]⟩, 4, none⟩, ⟨some 29, .unOp .not 4 (.tmp 28), 4, none⟩] := vR rfl
@[push_cast] theorem vr84_9 : VR r84_9 [⟨some 30, .move (.tmp 0), 25, none⟩, ⟨some 31, .move (.tmp 5), 3, none⟩, ⟨some 32, .load 35 (.tmp 7), 35, none⟩, ⟨some 33, .indexAddr 25 (.tmp 30) (.tmp 31), 0, none⟩, ⟨none, .store 35 (.tmp 33) (.tmp 32), 0, none⟩] := vR rfl
@[push_cast] theorem vr84_10 : VR r84_10 [⟨some 34, .move (.tmp 5), 3, none⟩, ⟨some 35, .binOp .add 3 (.tmp 34) (.const (.int .i64 1)) 3, 3, none⟩, ⟨some 5, .assign (.tmp 35), 3, none⟩] := vR rfl
@[push_cast] theorem vr84_6 : VR r84_6 [⟨some 20, .move (.tmp 6), 3, none⟩, ⟨some 21, .binOp .add 3 (.tmp 20) (.const (.int .i64 1)) 3, 3, none⟩, ⟨some 6, .assign (.tmp 21), 3, none⟩] := vR rfl
@[push_cast] theorem vr84_11 : VR r84_11 [⟨some 36, .move (.tmp 0), 25, none⟩, ⟨some 37, .move (.tmp 5), 3, none⟩, ⟨some 38, .slice 25 (.tmp 36) (some (.tmp 37)) none none, 25, none⟩, ⟨none, .call ⟨.builtin .clear, #[.tmp 38], #[25]⟩, 0, none⟩] := vR rfl
@[push_cast] theorem vr84_12 : VR r84_12 [⟨some 39, .move (.tmp 0), 25, none⟩, ⟨some 40, .move (.tmp 5), 3, none⟩, ⟨some 41, .slice 25 (.tmp 39) none (some (.tmp 40)) none, 25, none⟩, ⟨some 4, .assign (.tmp 41), 25, none⟩] := vR rfl
/-! 85 columbary/cuboid.only$1 (params #[35], results #[(.tmp 3)], 9 slots) -/
def r85_0 : List VOp :=
  [⟨some 2, .box 35 (.tmp 0), 0, none⟩,
   ⟨some 3, .assign (.const (.bool false)), 4, none⟩]
def r85_1 : List VOp :=
  [lda 4 68 1,
   fad 5 35 2 0,
   lda 6 3 5,
   ⟨some 7, .call ⟨.value (.tmp 4), #[.tmp 6], #[3]⟩, 4, none⟩,
   ⟨some 8, .unOp .not 4 (.tmp 7), 4, none⟩,
   asg 3 8 4]
def B85 : VC :=
  (.seq (.region r85_0) (.seq (.region r85_1) .ret))
theorem code85 : ∃ c, Try.f85.body = some c ∧ abs Try.f85.ntmps c = B85 := ⟨_, rfl, by kernel_rfl⟩
theorem hb85 : HasBody Try.prog 85 := hasBody_of Try.func85 (by kernel_rfl)
theorem res85 : Try.f85.results = #[(.tmp 3)] := rfl
theorem enter85 {w : World} {R : Value → World → Prop} (x0 x1 : Value) (h : vc Try.prog B85 (retK Try.prog #[(.tmp 3)] R) [] (initEnv [x0, x1] 0) w) : FnC Try.prog 85 #[x0, x1] w R := by
  obtain ⟨c, h1, h2⟩ := code85
  exact hb85.fn (ret_of_vc mixed Try.func85 h1 (Nat.le_of_ble_eq_true rfl) B85 h2 h)
@[push_cast] theorem vr85_0 : VR r85_0 [⟨some 2, .box 35 (.tmp 0), 0, none⟩, ⟨some 3, .assign (.const (.bool false)), 4, none⟩] := vR rfl
@[push_cast] theorem vr85_1 : VR r85_1 [⟨some 4, .load 68 (.tmp 1), 68, none⟩, ⟨some 5, .fieldAddr 35 (.tmp 2) 0, 0, none⟩, ⟨some 6, .load 3 (.tmp 5), 3, none⟩, ⟨some 7, .call ⟨.value (.tmp 4), #[.tmp 6], #[3]⟩, 4, none⟩, ⟨some 8, .unOp .not 4 (.tmp 7), 4, none⟩, ⟨some 3, .assign (.tmp 8), 4, none⟩] := vR rfl
/-! 86 columbary/columbaryref10.Find (params #[22, 9], results #[(.tmp 4), (.tmp 5)], 20 slots) -/
def W86_0 : List Nat := [4, 5, 6, 7, 8, 9, 10, 11, 12, 13, 14, 15, 16, 17, 18, 19]
@[push_cast] theorem W86_0_def : W86_0 = [4, 5, 6, 7, 8, 9, 10, 11, 12, 13, 14, 15, 16, 17, 18, 19] := mk_eq rfl
def r86_0 : List VOp :=
  [⟨some 4, .assign (.const (.int .i64 0)), 3, none⟩,
   ⟨some 5, .assign (.const (.bool false)), 4, none⟩]
def r86_1 : List VOp :=
  [⟨some 6, .assign (.const (.int .i64 0)), 3, none⟩]
def r86_2 : List VOp :=
  [mv 7 6 3,
   mv 8 0 22,
   ⟨some 9, .call ⟨.builtin .len, #[.tmp 8], #[22]⟩, 3, none⟩,
   ⟨some 10, .binOp .lss 3 (.tmp 7) (.tmp 9) 3, 4, none⟩]
def r86_4 : List VOp :=
  [mv 13 0 22,
   mv 14 6 3,
   iad 15 22 13 14,
   lda 16 9 15,
   mv 17 1 9,
   ⟨some 18, .binOp .eql 9 (.tmp 16) (.tmp 17) 9, 4, none⟩]
def r86_5 : List VOp :=
  [mv 19 6 3,
   asg 4 19 3,
   ⟨some 5, .assign (.const (.bool true)), 4, none⟩]
def r86_3 : List VOp :=
  [mv 11 6 3,
   ⟨some 12, .binOp .add 3 (.tmp 11) (.const (.int .i64 1)) 3, 3, none⟩,
   asg 6 12 3]
def r86_6 : List VOp :=
  [⟨some 4, .assign (.const (.int .i64 0)), 3, none⟩,
   ⟨some 5, .assign (.const (.bool false)), 4, none⟩]
def B86 : VC :=
  (.seq (.region r86_0) (.seq (.seq (.region r86_1) (.block 0 (.loop (.seq (.seq (.region r86_2) (.cond (.tmp 10) .skip (.exit 0))) (.seq (.block 1 (.seq (.region r86_4) (.cond (.tmp 18) (.seq (.region r86_5) .ret) .skip))) (.region r86_3)))))) (.seq (.region r86_6) .ret)))
theorem code86 : ∃ c, Try.f86.body = some c ∧ abs Try.f86.ntmps c = B86 := ⟨_, rfl, by kernel_rfl⟩
theorem hb86 : HasBody Try.prog 86 := hasBody_of Try.func86 (by kernel_rfl)
theorem res86 : Try.f86.results = #[(.tmp 4), (.tmp 5)] := rfl
theorem enter86 {w : World} {R : Value → World → Prop} (x0 x1 : Value) (h : vc Try.prog B86 (retK Try.prog #[(.tmp 4), (.tmp 5)] R) [] (initEnv [x0, x1] 0) w) : FnC Try.prog 86 #[x0, x1] w R := by
  obtain ⟨c, h1, h2⟩ := code86
  exact hb86.fn (ret_of_vc mixed Try.func86 h1 (Nat.le_of_ble_eq_true rfl) B86 h2 h)
@[push_cast] theorem vr86_0 : VR r86_0 [⟨some 4, .assign (.const (.int .i64 0)), 3, none⟩, ⟨some 5, .assign (.const (.bool false)), 4, none⟩] := vR rfl
@[push_cast] theorem vr86_1 : VR r86_1 [⟨some 6, .assign (.const (.int .i64 0)), 3, none⟩] := vR rfl
@[push_cast] theorem vr86_2 : VR r86_2 [⟨some 7, .move (.tmp 6), 3, none⟩, ⟨some 8, .move (.tmp 0), 22, none⟩, ⟨some 9, .call ⟨.builtin .len, #[.tmp 8], #[22]⟩, 3, none⟩, ⟨some 10, .binOp .lss 3 (.tmp 7) (.tmp 9) 3, 4, none⟩] := vR rfl
@[push_cast] theorem vr86_4 : VR r86_4 [⟨some 13, .move (.tmp 0), 22, none⟩, ⟨some 14, .move (.tmp 6), 3, none⟩, ⟨some 15, .indexAddr 22 (.tmp 13) (.tmp 14), 0, none⟩, ⟨some 16, .load 9 (.tmp 15), 9, none⟩, ⟨some 17, .move (.tmp 1), 9, none⟩, ⟨some 18, .binOp .eql 9 (.tmp 16) (.tmp 17) 9, 4, none⟩] := vR rfl
@[push_cast] theorem vr86_5 : VR r86_5 [⟨some 19, .move (.tmp 6), 3, none⟩, ⟨some 4, .assign (.tmp 19), 3, none⟩, ⟨some 5, .assign (.const (.bool true)), 4, none⟩] := vR rfl
@[push_cast] theorem vr86_3 : VR r86_3 [⟨some 11, .move (.tmp 6), 3, none⟩, ⟨some 12, .binOp .add 3 (.tmp 11) (.const (.int .i64 1)) 3, 3, none⟩, ⟨some 6, .assign (.tmp 12), 3, none⟩] := vR rfl
@[push_cast] theorem vr86_6 : VR r86_6 [⟨some 4, .assign (.const (.int .i64 0)), 3, none⟩, ⟨some 5, .assign (.const (.bool false)), 4, none⟩] := vR rfl
/-! 104 slices.IndexFunc[[]columbary/api.Row,columbary/api.Row] (params #[25, 98], results #[(.tmp 4)], 19 slots) -/
def W104_0 : List Nat := [4, 5, 8, 9, 10, 11, 12, 13, 14, 15, 16, 17, 18]
@[push_cast] theorem W104_0_def : W104_0 = [4, 5, 8, 9, 10, 11, 12, 13, 14, 15, 16, 17, 18] := mk_eq rfl
def r104_0 : List VOp :=
  [⟨some 4, .assign (.const (.int .i64 0)), 3, none⟩]
def r104_1 : List VOp :=
  [mv 6 0 25,
   ⟨some 7, .call ⟨.builtin .len, #[.tmp 6], #[25]⟩, 3, none⟩,
   ⟨some 8, .move (.const (.int .i64 0)), 3, none⟩]
def r104_2 : List VOp :=
  [⟨some 9, .binOp .lss 3 (.tmp 8) (.tmp 7) 3, 0, none⟩]
def r104_3 : List VOp :=
  [mv 10 8 3,
   asg 5 10 3]
def r104_4 : List VOp :=
  [mv 11 1 98,
   mv 12 0 25,
   mv 13 5 3,
   iad 14 25 12 13,
   lda 15 35 14,
   ⟨some 16, .call ⟨.value (.tmp 11), #[.tmp 15], #[35]⟩, 4, none⟩]
def r104_5 : List VOp :=
  [mv 17 5 3,
   asg 4 17 3]
def r104_6 : List VOp :=
  [⟨some 18, .binOp .add 3 (.tmp 8) (.const (.int .i64 1)) 3, 3, none⟩,
   mv 8 18 3]
def r104_7 : List VOp :=
  [⟨some 4, .assign (.const (.int .i64 (-1))), 3, none⟩]
def B104 : VC :=
  (.seq (.region r104_0) (.seq (.seq (.region r104_1) (.block 0 (.loop (.seq (.region r104_2) (.seq (.cond (.tmp 9) .skip (.exit 0)) (.seq (.block 1 (.seq (.region r104_3) (.seq (.region r104_4) (.cond (.tmp 16) (.seq (.region r104_5) .ret) .skip)))) (.region r104_6))))))) (.seq (.region r104_7) .ret)))
theorem code104 : ∃ c, Try.f104.body = some c ∧ abs Try.f104.ntmps c = B104 := ⟨_, rfl, by kernel_rfl⟩
theorem hb104 : HasBody Try.prog 104 := hasBody_of Try.func104 (by kernel_rfl)
theorem res104 : Try.f104.results = #[(.tmp 4)] := rfl
theorem enter104 {w : World} {R : Value → World → Prop} (x0 x1 : Value) (h : vc Try.prog B104 (retK Try.prog #[(.tmp 4)] R) [] (initEnv [x0, x1] 0) w) : FnC Try.prog 104 #[x0, x1] w R := by
  obtain ⟨c, h1, h2⟩ := code104
  exact hb104.fn (ret_of_vc mixed Try.func104 h1 (Nat.le_of_ble_eq_true rfl) B104 h2 h)
@[push_cast] theorem vr104_0 : VR r104_0 [⟨some 4, .assign (.const (.int .i64 0)), 3, none⟩] := vR rfl
@[push_cast] theorem vr104_1 : VR r104_1 [⟨some 6, .move (.tmp 0), 25, none⟩, ⟨some 7, .call ⟨.builtin .len, #[.tmp 6], #[25]⟩, 3, none⟩, ⟨some 8, .move (.const (.int .i64 0)), 3, none⟩] := vR rfl
@[push_cast] theorem vr104_2 : VR r104_2 [⟨some 9, .binOp .lss 3 (.tmp 8) (.tmp 7) 3, 0, none⟩] := vR rfl
@[push_cast] theorem vr104_3 : VR r104_3 [⟨some 10, .move (.tmp 8), 3, none⟩, ⟨some 5, .assign (.tmp 10), 3, none⟩] := vR rfl
@[push_cast] theorem vr104_4 : VR r104_4 [⟨some 11, .move (.tmp 1), 98, none⟩, ⟨some 12, .move (.tmp 0), 25, none⟩, ⟨some 13, .move (.tmp 5), 3, none⟩, ⟨some 14, .indexAddr 25 (.tmp 12) (.tmp 13), 0, none⟩, ⟨some 15, .load 35 (.tmp 14), 35, none⟩, ⟨some 16, .call ⟨.value (.tmp 11), #[.tmp 15], #[35]⟩, 4, none⟩] := vR rfl
@[push_cast] theorem vr104_5 : VR r104_5 [⟨some 17, .move (.tmp 5), 3, none⟩, ⟨some 4, .assign (.tmp 17), 3, none⟩] := vR rfl
@[push_cast] theorem vr104_6 : VR r104_6 [⟨some 18, .binOp .add 3 (.tmp 8) (.const (.int .i64 1)) 3, 3, none⟩, ⟨some 8, .move (.tmp 18), 3, none⟩] := vR rfl
@[push_cast] theorem vr104_7 : VR r104_7 [⟨some 4, .assign (.const (.int .i64 (-1))), 3, none⟩] := vR rfl
@[push_cast] theorem bsl22_1_CodesC {K : Value → World → Prop} {w : World} (x0 : ByteArray) : vBuildSlice Try.prog 22 1 #[(0, (.string x0))] K w = K (.slice (some ⟨w.heap.size, 0, none⟩) 1 1) (w.alloc (.cells #[(.string x0)] 9)) :=
  vBuildSlice_ok Try.underlying22 ti9 (by kernel_rfl) (by decide)
@[push_cast] theorem bsl22_2_CodesC {K : Value → World → Prop} {w : World} (x0 : ByteArray) (x1 : ByteArray) : vBuildSlice Try.prog 22 2 #[(0, (.string x0)), (1, (.string x1))] K w = K (.slice (some ⟨w.heap.size, 0, none⟩) 2 2) (w.alloc (.cells #[(.string x0), (.string x1)] 9)) :=
  vBuildSlice_ok Try.underlying22 ti9 (by kernel_rfl) (by decide)
@[push_cast] theorem bsl25_1_CodesC {K : Value → World → Prop} {w : World} (x00 x01 x02 x03 : Value) : vBuildSlice Try.prog 25 1 #[(0, (.agg #[x00, x01, x02, x03]))] K w = K (.slice (some ⟨w.heap.size, 0, none⟩) 1 1) (w.alloc (.cells #[x00, x01, x02, x03] 35)) :=
  vBuildSlice_ok Try.underlying25 ti35 (by kernel_rfl) (by decide)
@[push_cast] theorem bsl25_2_CodesC {K : Value → World → Prop} {w : World} (x00 x01 x02 x03 : Value) (x10 x11 x12 x13 : Value) : vBuildSlice Try.prog 25 2 #[(0, (.agg #[x00, x01, x02, x03])), (1, (.agg #[x10, x11, x12, x13]))] K w = K (.slice (some ⟨w.heap.size, 0, none⟩) 2 2) (w.alloc (.cells #[x00, x01, x02, x03, x10, x11, x12, x13] 35)) :=
  vBuildSlice_ok Try.underlying25 ti35 (by kernel_rfl) (by decide)
@[push_cast] theorem bsl47_1_CodesC {K : Value → World → Prop} {w : World} (x0 : Int) : vBuildSlice Try.prog 47 1 #[(0, (.int .i64 x0))] K w = K (.slice (some ⟨w.heap.size, 0, none⟩) 1 1) (w.alloc (.cells #[(.int .i64 x0)] 3)) :=
  vBuildSlice_ok Try.underlying47 ti3 (by kernel_rfl) (by decide)
@[push_cast] theorem bld24__CodesC {K : Value → World → Prop} {w : World}  : vBuild Try.prog 24 #[] K w = K (.agg #[(.slice none 0 0), (.slice none 0 0)]) w :=
  vBuild_ok (by kernel_rfl)
@[push_cast] theorem bld24_0_CodesC {K : Value → World → Prop} {w : World} (x0o : Option Addr) (x0n x0c : Nat) : vBuild Try.prog 24 #[(0, (.slice x0o x0n x0c))] K w = K (.agg #[(.slice x0o x0n x0c), (.slice none 0 0)]) w :=
  vBuild_ok (by kernel_rfl)
@[push_cast] theorem bld24_0_1_CodesC {K : Value → World → Prop} {w : World} (x0o : Option Addr) (x0n x0c : Nat) (x1o : Option Addr) (x1n x1c : Nat) : vBuild Try.prog 24 #[(0, (.slice x0o x0n x0c)), (1, (.slice x1o x1n x1c))] K w = K (.agg #[(.slice x0o x0n x0c), (.slice x1o x1n x1c)]) w :=
  vBuild_ok (by kernel_rfl)
@[push_cast] theorem bld35_0_1_2_CodesC {K : Value → World → Prop} {w : World} (x0 : Int) (x1o : Option Addr) (x1n x1c : Nat) (x2 : Int) : vBuild Try.prog 35 #[(0, (.int .i64 x0)), (1, (.slice x1o x1n x1c)), (2, (.int .i64 x2))] K w = K (.agg #[(.int .i64 x0), (.slice x1o x1n x1c), (.int .i64 x2), (.slice none 0 0)]) w :=
  vBuild_ok (by kernel_rfl)
@[push_cast] theorem bld35_0_2_3_CodesC {K : Value → World → Prop} {w : World} (x0 : Int) (x2 : Int) (x3o : Option Addr) (x3n x3c : Nat) : vBuild Try.prog 35 #[(0, (.int .i64 x0)), (2, (.int .i64 x2)), (3, (.slice x3o x3n x3c))] K w = K (.agg #[(.int .i64 x0), (.slice none 0 0), (.int .i64 x2), (.slice x3o x3n x3c)]) w :=
  vBuild_ok (by kernel_rfl)
@[push_cast] theorem bld35_2_3_CodesC {K : Value → World → Prop} {w : World} (x2 : Int) (x3o : Option Addr) (x3n x3c : Nat) : vBuild Try.prog 35 #[(2, (.int .i64 x2)), (3, (.slice x3o x3n x3c))] K w = K (.agg #[(.int .i64 0), (.slice none 0 0), (.int .i64 x2), (.slice x3o x3n x3c)]) w :=
  vBuild_ok (by kernel_rfl)
end Go.Proofs.Ythihbgpaoldbjaa
end
section
set_option linter.unusedSimpArgs false
namespace Go.Proofs.Ythihbgpaoldbjaa
open Go.Vc Go.Key Go.Cub
set_option maxRecDepth 100000
def fiZ : Option Nat → Int
  | some k => k
  | none => -1
/-- What is known of a list's slice. -/
theorem StS.opn {w : World} {v : Value} {l : List ByteArray} (h : StS w v l) : ∃ o c, v = .slice o l.length c ∧ StS w (.slice o l.length c) l ∧ l.length ≤ c ∧ c ≤ 9223372036854775807 ∧ (o = none → l = []) := by
  obtain ⟨o, c, rfl⟩ := Sl.slice h
  rw [List.length_map] at h ⊢
  have h2 := Sl.len h
  exact ⟨o, c, rfl, h, h2.2.1, h2.2.2.1, fun ho => by simpa using (h2.2.2.2 ho).1⟩
theorem index_c (v : Value) (l : List ByteArray) (x : ByteArray) (w : World) (h : StS w v l) : FnC Try.prog 80 #[v, .string x] w fun r w' => r = .int .i64 (fiZ (fi l x)) ∧ w' = w := by
  obtain ⟨o, c, rfl, h, g1, g2, g3⟩ := StS.opn h
  refine enter80 _ _ ?_
  unfold B80
  repeat' (first | (simp (disch := omega) only [push_cast, ↓reduceIte, zA, zG, zB, zH, zI, zC, zJ, zK, zL, zD, zE, zF, zM, zN, zO, zP, zQ, reduceCtorEq, not_true_eq_false, not_false_eq_true]) | (first | refine vIfE_of ?_ ?_ | refine vIfD_of ?_ ?_ | refine vIfQ_of ?_ ?_ | refine vIfV_of ?_ ?_) <;> intro _ | refine And.intro (by omega) ?_ | refine drawn_q ?_ | fail)
  refine vc_loop W80_0 (fun i : Nat => [(8, .int .i64 (i : Int))]) (fun i w' => i ≤ l.length ∧ w' = w ∧ ∀ j (hj : j < l.length), j < i → l[j] ≠ x) (fun i => l.length - i) 0 (by decide) ?_ ?_ ?_
  · simp (disch := omega) only [push_cast, ↓reduceIte, zA, zG, zB, zH, zI, zC, zJ, zK, zL, zD, zE, zF, zM, zN, zO, zP, zQ, reduceCtorEq, not_true_eq_false, not_false_eq_true]
  · exact ⟨by omega, rfl, fun j _ hj => absurd hj (Nat.not_lt_zero _)⟩
  rintro i uu w1 ⟨hi, hw, hn⟩
  obtain rfl := hw.symm
  by_cases hlt : i < l.length
  · cases o with
    | none => have := g3 rfl; rw [this] at hlt; simp at hlt
    | some a =>
    have hc := StS.atS h hlt
    by_cases he : l[i] = x
    · have e : fi l x = some i := fi_mk hlt he fun j hj => hn j (by omega) hj
      have he' := he.symm
      repeat' (first | (simp (disch := omega) only [push_cast, ↓reduceIte, zA, zG, zB, zH, zI, zC, zJ, zK, zL, zD, zE, zF, zM, zN, zO, zP, zQ, reduceCtorEq, not_true_eq_false, not_false_eq_true, hc, he, decide_true]) | (first | refine vIfE_of ?_ ?_ | refine vIfD_of ?_ ?_ | refine vIfQ_of ?_ ?_ | refine vIfV_of ?_ ?_) <;> intro _ | refine And.intro (by omega) ?_ | refine drawn_q ?_ | fail)
      rw [e]; rfl
    · have he' : ¬ x = l[i] := fun h => he h.symm
      repeat' (first | (simp (disch := omega) only [push_cast, ↓reduceIte, zA, zG, zB, zH, zI, zC, zJ, zK, zL, zD, zE, zF, zM, zN, zO, zP, zQ, reduceCtorEq, not_true_eq_false, not_false_eq_true, hc, he', decide_false]) | (first | refine vIfE_of ?_ ?_ | refine vIfD_of ?_ ?_ | refine vIfQ_of ?_ ?_ | refine vIfV_of ?_ ?_) <;> intro _ | refine And.intro (by omega) ?_ | refine drawn_q ?_ | fail)
      refine ⟨rfl, i + 1, by simp (disch := omega) only [push_cast, ↓reduceIte, zA, zG, zB, zH, zI, zC, zJ, zK, zL, zD, zE, zF, zM, zN, zO, zP, zQ, reduceCtorEq, not_true_eq_false, not_false_eq_true], ⟨by omega, rfl, fun j hj hji => ?_⟩, by dsimp only; omega⟩
      by_cases h : j < i
      · exact hn j hj h
      · have : j = i := by omega
        subst this
        exact he
  · have e : fi l x = none := fi_none.2 fun y hy => by
      obtain ⟨j, hj, rfl⟩ := List.getElem_of_mem hy
      exact hn j hj (by omega)
    repeat' (first | (simp (disch := omega) only [push_cast, ↓reduceIte, zA, zG, zB, zH, zI, zC, zJ, zK, zL, zD, zE, zF, zM, zN, zO, zP, zQ, reduceCtorEq, not_true_eq_false, not_false_eq_true]) | (first | refine vIfE_of ?_ ?_ | refine vIfD_of ?_ ?_ | refine vIfQ_of ?_ ?_ | refine vIfV_of ?_ ?_) <;> intro _ | refine And.intro (by omega) ?_ | refine drawn_q ?_ | fail)
    rw [e]; rfl
def fiT (o : Option Nat) : Value := .tuple #[.int .i64 ((o.getD 0 : Nat) : Int), .bool o.isSome]
theorem find_c (v : Value) (l : List ByteArray) (x : ByteArray) (w : World) (h : StS w v l) : FnC Try.prog 81 #[v, .string x] w fun r w' => r = fiT (fi l x) ∧ w' = w := by
  obtain ⟨o, c, rfl, h, g1, g2, g3⟩ := StS.opn h
  refine enter81 _ _ ?_
  unfold B81
  repeat' (first | (simp (disch := omega) only [push_cast, ↓reduceIte, zA, zG, zB, zH, zI, zC, zJ, zK, zL, zD, zE, zF, zM, zN, zO, zP, zQ, reduceCtorEq, not_true_eq_false, not_false_eq_true]) | (first | refine vIfE_of ?_ ?_ | refine vIfD_of ?_ ?_ | refine vIfQ_of ?_ ?_ | refine vIfV_of ?_ ?_) <;> intro _ | refine And.intro (by omega) ?_ | refine drawn_q ?_ | fail)
  refine (index_c _ l x w h).mono ?_
  rintro _ w0 ⟨rfl, h0⟩
  obtain rfl := h0.symm
  cases hf : fi l x with
  | none =>
    simp only [fiZ]
    repeat' (first | (simp (disch := omega) only [push_cast, ↓reduceIte, zA, zG, zB, zH, zI, zC, zJ, zK, zL, zD, zE, zF, zM, zN, zO, zP, zQ, reduceCtorEq, not_true_eq_false, not_false_eq_true]) | (first | refine vIfE_of ?_ ?_ | refine vIfD_of ?_ ?_ | refine vIfQ_of ?_ ?_ | refine vIfV_of ?_ ?_) <;> intro _ | refine And.intro (by omega) ?_ | refine drawn_q ?_ | fail)
    all_goals simp [fiT]
  | some k =>
    simp only [fiZ]
    repeat' (first | (simp (disch := omega) only [push_cast, ↓reduceIte, zA, zG, zB, zH, zI, zC, zJ, zK, zL, zD, zE, zF, zM, zN, zO, zP, zQ, reduceCtorEq, not_true_eq_false, not_false_eq_true]) | (first | refine vIfE_of ?_ ?_ | refine vIfD_of ?_ ?_ | refine vIfQ_of ?_ ?_ | refine vIfV_of ?_ ?_) <;> intro _ | refine And.intro (by omega) ?_ | refine drawn_q ?_ | fail)
    all_goals simp [fiT]
    all_goals omega
theorem dim_c (dv mv : Value) (d m : List ByteArray) (x : ByteArray) (w : World) (h : ScIs w dv mv d m) : FnC Try.prog 43 #[scV dv mv, .string x] w fun r w' => r = fiT (fi d x) ∧ Later w w' := by
  unfold scV
  refine enter43 _ _ ?_
  unfold B43
  obtain ⟨l1, s1, F⟩ := box2 w dv mv 24
  have eca : (Value.agg #[dv, mv]).cells = #[dv, mv] := rfl
  repeat' (first | (simp (disch := omega) only [push_cast, ↓reduceIte, zA, zG, zB, zH, zI, zC, zJ, zK, zL, zD, zE, zF, zM, zN, zO, zP, zQ, reduceCtorEq, not_true_eq_false, not_false_eq_true, eca, s1]) | (first | refine vIfE_of ?_ ?_ | refine vIfD_of ?_ ?_ | refine vIfQ_of ?_ ?_ | refine vIfV_of ?_ ?_) <;> intro _ | refine And.intro (by omega) ?_ | fail)
  generalize w.alloc (.cells #[dv, mv] 24) = w1 at *
  obtain ⟨a0, a1, a2⟩ := F w1 (Later.refl _)
  repeat' (first | (simp (disch := omega) only [push_cast, ↓reduceIte, zA, zG, zB, zH, zI, zC, zJ, zK, zL, zD, zE, zF, zM, zN, zO, zP, zQ, reduceCtorEq, not_true_eq_false, not_false_eq_true, a0, addr_add_eq, Nat.zero_add]) | (first | refine vIfE_of ?_ ?_ | refine vIfD_of ?_ ?_ | refine vIfQ_of ?_ ?_ | refine vIfV_of ?_ ?_) <;> intro _ | refine And.intro (by omega) ?_ | refine drawn_q ?_ | fail)
  refine (find_c _ d x w1 (Sl.later h.dS l1)).mono ?_
  rintro _ w0 ⟨rfl, h0⟩
  obtain rfl := h0.symm
  unfold fiT
  repeat' (first | (simp (disch := omega) only [push_cast, ↓reduceIte, zA, zG, zB, zH, zI, zC, zJ, zK, zL, zD, zE, zF, zM, zN, zO, zP, zQ, reduceCtorEq, not_true_eq_false, not_false_eq_true]) | (first | refine vIfE_of ?_ ?_ | refine vIfD_of ?_ ?_ | refine vIfQ_of ?_ ?_ | refine vIfV_of ?_ ?_) <;> intro _ | refine And.intro (by omega) ?_ | refine drawn_q ?_ | fail)
  first | exact ⟨rfl, l1⟩ | exact l1
theorem dfind_c (v : Value) (l : List ByteArray) (x : ByteArray) (w : World) (h : StS w v l) : FnC Try.prog 86 #[v, .string x] w fun r w' => r = fiT (fi l x) ∧ w' = w := by
  obtain ⟨o, c, rfl, h, g1, g2, g3⟩ := StS.opn h
  refine enter86 _ _ ?_
  unfold B86
  repeat' (first | (simp (disch := omega) only [push_cast, ↓reduceIte, zA, zG, zB, zH, zI, zC, zJ, zK, zL, zD, zE, zF, zM, zN, zO, zP, zQ, reduceCtorEq, not_true_eq_false, not_false_eq_true]) | (first | refine vIfE_of ?_ ?_ | refine vIfD_of ?_ ?_ | refine vIfQ_of ?_ ?_ | refine vIfV_of ?_ ?_) <;> intro _ | refine And.intro (by omega) ?_ | refine drawn_q ?_ | fail)
  refine vc_loop W86_0 (fun i : Nat => [(4, .int .i64 0), (5, .bool false), (6, .int .i64 (i : Int))]) (fun i w' => i ≤ l.length ∧ w' = w ∧ ∀ j (hj : j < l.length), j < i → l[j] ≠ x) (fun i => l.length - i) 0 (by decide) ?_ ?_ ?_
  · simp (disch := omega) only [push_cast, ↓reduceIte, zA, zG, zB, zH, zI, zC, zJ, zK, zL, zD, zE, zF, zM, zN, zO, zP, zQ, reduceCtorEq, not_true_eq_false, not_false_eq_true]
  · exact ⟨by omega, rfl, fun j _ hj => absurd hj (Nat.not_lt_zero _)⟩
  rintro i uu w1 ⟨hi, hw, hn⟩
  obtain rfl := hw.symm
  by_cases hlt : i < l.length
  · cases o with
    | none => have := g3 rfl; rw [this] at hlt; simp at hlt
    | some a =>
    have hc := StS.atS h hlt
    by_cases he : l[i] = x
    · have e : fi l x = some i := fi_mk hlt he fun j hj => hn j (by omega) hj
      repeat' (first | (simp (disch := omega) only [push_cast, ↓reduceIte, zA, zG, zB, zH, zI, zC, zJ, zK, zL, zD, zE, zF, zM, zN, zO, zP, zQ, reduceCtorEq, not_true_eq_false, not_false_eq_true, hc, he, decide_true]) | (first | refine vIfE_of ?_ ?_ | refine vIfD_of ?_ ?_ | refine vIfQ_of ?_ ?_ | refine vIfV_of ?_ ?_) <;> intro _ | refine And.intro (by omega) ?_ | refine drawn_q ?_ | fail)
      rw [e]; rfl
    · repeat' (first | (simp (disch := omega) only [push_cast, ↓reduceIte, zA, zG, zB, zH, zI, zC, zJ, zK, zL, zD, zE, zF, zM, zN, zO, zP, zQ, reduceCtorEq, not_true_eq_false, not_false_eq_true, hc, he, decide_false]) | (first | refine vIfE_of ?_ ?_ | refine vIfD_of ?_ ?_ | refine vIfQ_of ?_ ?_ | refine vIfV_of ?_ ?_) <;> intro _ | refine And.intro (by omega) ?_ | refine drawn_q ?_ | fail)
      refine ⟨rfl, i + 1, by simp (disch := omega) only [push_cast, ↓reduceIte, zA, zG, zB, zH, zI, zC, zJ, zK, zL, zD, zE, zF, zM, zN, zO, zP, zQ, reduceCtorEq, not_true_eq_false, not_false_eq_true], ⟨by omega, rfl, fun j hj hji => ?_⟩, by dsimp only; omega⟩
      by_cases h : j < i
      · exact hn j hj h
      · have : j = i := by omega
        subst this
        exact he
  · have e : fi l x = none := fi_none.2 fun y hy => by
      obtain ⟨j, hj, rfl⟩ := List.getElem_of_mem hy
      exact hn j hj (by omega)
    repeat' (first | (simp (disch := omega) only [push_cast, ↓reduceIte, zA, zG, zB, zH, zI, zC, zJ, zK, zL, zD, zE, zF, zM, zN, zO, zP, zQ, reduceCtorEq, not_true_eq_false, not_false_eq_true]) | (first | refine vIfE_of ?_ ?_ | refine vIfD_of ?_ ?_ | refine vIfQ_of ?_ ?_ | refine vIfV_of ?_ ?_) <;> intro _ | refine And.intro (by omega) ?_ | refine drawn_q ?_ | fail)
    rw [e]; rfl
theorem subset_c (u v : Value) (a b : List ByteArray) (w : World) (hu : StS w u a) (hv : StS w v b) (hb : Ap b) : FnC Try.prog 41 #[u, v] w fun r w' => r = .bool (sub b 0 a) ∧ w' = w := by
  obtain ⟨oa, ca, rfl, hu, g1, g2, g3⟩ := StS.opn hu
  obtain ⟨ob, cb, rfl, hv, k1, k2, k3⟩ := StS.opn hv
  refine enter41 _ _ ?_
  unfold B41
  repeat' (first | (simp (disch := omega) only [push_cast, ↓reduceIte, zA, zG, zB, zH, zI, zC, zJ, zK, zL, zD, zE, zF, zM, zN, zO, zP, zQ, reduceCtorEq, not_true_eq_false, not_false_eq_true]) | (first | refine vIfE_of ?_ ?_ | refine vIfD_of ?_ ?_ | refine vIfQ_of ?_ ?_ | refine vIfV_of ?_ ?_) <;> intro _ | refine And.intro (by omega) ?_ | refine drawn_q ?_ | fail)
  refine vc_loop W41_0 (fun p : Nat × Value => [(1, p.2), (10, .int .i64 (p.1 : Int))]) (fun p w' => p.1 ≤ a.length ∧ w' = w ∧ ∃ s, StS w p.2 (b.drop s) ∧ sub b 0 a = sub b s (a.drop p.1)) (fun p => a.length - p.1) (0, .slice ob b.length cb) (by decide) ?_ ?_ ?_
  · simp (disch := omega) only [push_cast, ↓reduceIte, zA, zG, zB, zH, zI, zC, zJ, zK, zL, zD, zE, zF, zM, zN, zO, zP, zQ, reduceCtorEq, not_true_eq_false, not_false_eq_true]
  · exact ⟨by omega, rfl, 0, by simpa using hv, by simp⟩
  rintro ⟨i, bv⟩ uu w1 ⟨hi, hw, s, hs, he⟩
  obtain rfl := hw.symm
  dsimp only at hi hs he
  by_cases hlt : i < a.length
  · cases oa with
    | none => have := g3 rfl; rw [this] at hlt; simp at hlt
    | some ad =>
    have hc := StS.atS hu hlt
    rw [List.drop_eq_getElem_cons hlt] at he
    generalize a[i] = n at *
    obtain ⟨oc, cc, rfl, hs, j1, j2, j3⟩ := StS.opn hs
    repeat' (first | (simp (disch := omega) only [push_cast, ↓reduceIte, zA, zG, zB, zH, zI, zC, zJ, zK, zL, zD, zE, zF, zM, zN, zO, zP, zQ, reduceCtorEq, not_true_eq_false, not_false_eq_true, hc]) | (first | refine vIfE_of ?_ ?_ | refine vIfD_of ?_ ?_ | refine vIfQ_of ?_ ?_ | refine vIfV_of ?_ ?_) <;> intro _ | refine And.intro (by omega) ?_ | refine drawn_q ?_ | fail)
    refine (index_c _ _ n w hs).mono ?_
    rintro _ w0 ⟨rfl, h0⟩
    obtain rfl := h0.symm
    cases hf : fi (b.drop s) n with
    | none =>
      have e : sub b s (n :: a.drop (i + 1)) = false := by
        unfold sub
        split
        · rename_i k hk
          rw [if_neg (fi_drop_none hf hk)]
        · rfl
      simp only [fiZ]
      repeat' (first | (simp (disch := omega) only [push_cast, ↓reduceIte, zA, zG, zB, zH, zI, zC, zJ, zK, zL, zD, zE, zF, zM, zN, zO, zP, zQ, reduceCtorEq, not_true_eq_false, not_false_eq_true]) | (first | refine vIfE_of ?_ ?_ | refine vIfD_of ?_ ?_ | refine vIfQ_of ?_ ?_ | refine vIfV_of ?_ ?_) <;> intro _ | refine And.intro (by omega) ?_ | refine drawn_q ?_ | fail)
      rw [he, e]
    | some j =>
      have hfb := fi_drop hb hf
      have e : sub b s (n :: a.drop (i + 1)) = sub b (s + j + 1) (a.drop (i + 1)) := by
        rw [sub, hfb]
        dsimp only
        rw [if_pos (by omega)]
      obtain ⟨hj, _⟩ := fi_some hf
      cases oc with
      | none => have := j3 rfl; rw [this] at hj; simp at hj
      | some ac =>
      have hsub : StS w (.slice (slAddr (some ac) ((j : Int) + 1) (cc : Int) 1) (((b.drop s).length : Int) - ((j : Int) + 1)).toNat ((cc : Int) - ((j : Int) + 1)).toNat) (b.drop (s + j + 1)) := by
        have := Sl.part hs (l := (j : Int) + 1) (k := ((b.drop s).length : Int)) (m := (cc : Int)) (by omega) (by omega) (by omega) (by omega) (by omega)
        rw [Int.toNat_natCast, List.take_of_length_le (by simp), ← List.map_drop, List.drop_drop, show s + ((j : Int) + 1).toNat = s + j + 1 by omega] at this
        exact this
      simp only [fiZ]
      repeat' (first | (simp (disch := omega) only [push_cast, ↓reduceIte, zA, zG, zB, zH, zI, zC, zJ, zK, zL, zD, zE, zF, zM, zN, zO, zP, zQ, reduceCtorEq, not_true_eq_false, not_false_eq_true]) | (first | refine vIfE_of ?_ ?_ | refine vIfD_of ?_ ?_ | refine vIfQ_of ?_ ?_ | refine vIfV_of ?_ ?_) <;> intro _ | refine And.intro (by omega) ?_ | refine drawn_q ?_ | fail)
      exact ⟨rfl, (i + 1, _), by simp (disch := omega) only [push_cast, ↓reduceIte, zA, zG, zB, zH, zI, zC, zJ, zK, zL, zD, zE, zF, zM, zN, zO, zP, zQ, reduceCtorEq, not_true_eq_false, not_false_eq_true], ⟨by dsimp only; omega, rfl, s + j + 1, hsub, by rw [he, e]⟩, by dsimp only; omega⟩
  · have e : sub b 0 a = true := by rw [he, List.drop_of_length_le (by omega)]; rfl
    repeat' (first | (simp (disch := omega) only [push_cast, ↓reduceIte, zA, zG, zB, zH, zI, zC, zJ, zK, zL, zD, zE, zF, zM, zN, zO, zP, zQ, reduceCtorEq, not_true_eq_false, not_false_eq_true]) | (first | refine vIfE_of ?_ ?_ | refine vIfD_of ?_ ?_ | refine vIfQ_of ?_ ?_ | refine vIfV_of ?_ ?_) <;> intro _ | refine And.intro (by omega) ?_ | refine drawn_q ?_ | fail)
    rw [e]
theorem dsubset_c (u v : Value) (a b : List ByteArray) (w : World) (hu : StS w u a) (hv : StS w v b) : FnC Try.prog 49 #[u, v] w fun r w' => r = .bool (sub b 0 a) ∧ w' = w := by
  obtain ⟨oa, ca, rfl, hu, g1, g2, g3⟩ := StS.opn hu
  obtain ⟨ob, cb, rfl, hv, k1, k2, k3⟩ := StS.opn hv
  refine enter49 _ _ ?_
  unfold B49
  repeat' (first | (simp (disch := omega) only [push_cast, ↓reduceIte, zA, zG, zB, zH, zI, zC, zJ, zK, zL, zD, zE, zF, zM, zN, zO, zP, zQ, reduceCtorEq, not_true_eq_false, not_false_eq_true]) | (first | refine vIfE_of ?_ ?_ | refine vIfD_of ?_ ?_ | refine vIfQ_of ?_ ?_ | refine vIfV_of ?_ ?_) <;> intro _ | refine And.intro (by omega) ?_ | refine drawn_q ?_ | fail)
  refine vc_loop W49_0 (fun p : Nat × Nat => [(4, .bool false), (5, .int .i64 ((p.2 : Int) - 1)), (6, .int .i64 (p.1 : Int))]) (fun p w' => p.1 ≤ a.length ∧ p.2 ≤ b.length ∧ w' = w ∧ sub b 0 a = sub b p.2 (a.drop p.1)) (fun p => a.length - p.1) (0, 0) (by decide) ?_ ?_ ?_
  · simp (disch := omega) only [push_cast, ↓reduceIte, zA, zG, zB, zH, zI, zC, zJ, zK, zL, zD, zE, zF, zM, zN, zO, zP, zQ, reduceCtorEq, not_true_eq_false, not_false_eq_true]
  · exact ⟨by omega, by omega, rfl, by simp⟩
  rintro ⟨i, s⟩ uu w1 ⟨hi, hsb, hw, he⟩
  obtain rfl := hw.symm
  dsimp only at hi he hsb
  by_cases hlt : i < a.length
  · cases oa with
    | none => have := g3 rfl; rw [this] at hlt; simp at hlt
    | some ad =>
    have hc := StS.atS hu hlt
    rw [List.drop_eq_getElem_cons hlt] at he
    generalize a[i] = n at *
    repeat' (first | (simp (disch := omega) only [push_cast, ↓reduceIte, zA, zG, zB, zH, zI, zC, zJ, zK, zL, zD, zE, zF, zM, zN, zO, zP, zQ, reduceCtorEq, not_true_eq_false, not_false_eq_true, hc]) | (first | refine vIfE_of ?_ ?_ | refine vIfD_of ?_ ?_ | refine vIfQ_of ?_ ?_ | refine vIfV_of ?_ ?_) <;> intro _ | refine And.intro (by omega) ?_ | refine drawn_q ?_ | fail)
    refine (dfind_c _ b n w hv).mono ?_
    rintro _ w0 ⟨rfl, h0⟩
    obtain rfl := h0.symm
    unfold fiT
    cases hf : fi b n with
    | none =>
      have e : sub b s (n :: a.drop (i + 1)) = false := by rw [sub, hf]
      simp only [Option.getD_none, Option.isSome_none]
      repeat' (first | (simp (disch := omega) only [push_cast, ↓reduceIte, zA, zG, zB, zH, zI, zC, zJ, zK, zL, zD, zE, zF, zM, zN, zO, zP, zQ, reduceCtorEq, not_true_eq_false, not_false_eq_true]) | (first | refine vIfE_of ?_ ?_ | refine vIfD_of ?_ ?_ | refine vIfQ_of ?_ ?_ | refine vIfV_of ?_ ?_) <;> intro _ | refine And.intro (by omega) ?_ | refine drawn_q ?_ | fail)
      rw [he, e]
    | some k =>
      obtain ⟨hk, _⟩ := fi_some hf
      simp only [Option.getD_some, Option.isSome_some]
      by_cases hsk : s ≤ k
      · have e : sub b s (n :: a.drop (i + 1)) = sub b (k + 1) (a.drop (i + 1)) := by
          rw [sub, hf]
          dsimp only
          rw [if_pos hsk]
        have ek : (k : Int) + 1 - 1 = (k : Int) := by omega
        repeat' (first | (simp (disch := omega) only [push_cast, ↓reduceIte, zA, zG, zB, zH, zI, zC, zJ, zK, zL, zD, zE, zF, zM, zN, zO, zP, zQ, reduceCtorEq, not_true_eq_false, not_false_eq_true]) | (first | refine vIfE_of ?_ ?_ | refine vIfD_of ?_ ?_ | refine vIfQ_of ?_ ?_ | refine vIfV_of ?_ ?_) <;> intro _ | refine And.intro (by omega) ?_ | refine drawn_q ?_ | fail)
        exact ⟨rfl, (i + 1, k + 1), by simp (disch := omega) only [push_cast, ↓reduceIte, zA, zG, zB, zH, zI, zC, zJ, zK, zL, zD, zE, zF, zM, zN, zO, zP, zQ, reduceCtorEq, not_true_eq_false, not_false_eq_true, ek], ⟨by dsimp only; omega, by dsimp only; omega, rfl, by rw [he, e]⟩, by dsimp only; omega⟩
      · have e : sub b s (n :: a.drop (i + 1)) = false := by
          rw [sub, hf]
          dsimp only
          rw [if_neg hsk]
        repeat' (first | (simp (disch := omega) only [push_cast, ↓reduceIte, zA, zG, zB, zH, zI, zC, zJ, zK, zL, zD, zE, zF, zM, zN, zO, zP, zQ, reduceCtorEq, not_true_eq_false, not_false_eq_true]) | (first | refine vIfE_of ?_ ?_ | refine vIfD_of ?_ ?_ | refine vIfQ_of ?_ ?_ | refine vIfV_of ?_ ?_) <;> intro _ | refine And.intro (by omega) ?_ | refine drawn_q ?_ | fail)
        rw [he, e]
  · have e : sub b 0 a = true := by rw [he, List.drop_of_length_le (by omega)]; rfl
    repeat' (first | (simp (disch := omega) only [push_cast, ↓reduceIte, zA, zG, zB, zH, zI, zC, zJ, zK, zL, zD, zE, zF, zM, zN, zO, zP, zQ, reduceCtorEq, not_true_eq_false, not_false_eq_true]) | (first | refine vIfE_of ?_ ?_ | refine vIfD_of ?_ ?_ | refine vIfQ_of ?_ ?_ | refine vIfV_of ?_ ?_) <;> intro _ | refine And.intro (by omega) ?_ | refine drawn_q ?_ | fail)
    rw [e]
end Go.Proofs.Ythihbgpaoldbjaa
end
section
set_option linter.unusedSimpArgs false
namespace Go.Vc
open Go.RowKit
variable {P : Program}
/-- 'clear' of a slice. -/
theorem vX_clear {t e ty : TypeId} {x : Operand} {σ : Env} {w : World} {K : Value → World → Prop} {z : Value} {s b : Nat} {a : Addr} {m c : Nat} (ht : P.underlying t = some (.slice e)) (hi : (P.info? e).map (fun i => (i.zero, i.size, i.bytes)) = some (some z, s, b))
    (hx : ev σ x = .slice (some a) m c) (hm : 0 < m) (h1 : ∀ u ∈ (Builtin.zeroCells z.cells m).toList, u.oneCell' = true) (hc : canAll w a (Builtin.zeroCells z.cells m).toList) (hk : K (.tuple #[]) (storeAll w a (Builtin.zeroCells z.cells m).toList)) :
    vX P (.call ⟨.builtin .clear, #[x], #[t]⟩) ty σ w K := by
  obtain ⟨i, hi1, hz, hsi, hbi⟩ := info_parts hi
  have hst := run_storeAll (P := P) (Builtin.zeroCells z.cells m).toList a 0 w h1 (by rw [addr_add_zero]; exact hc)
  rw [addr_add_zero] at hst
  have hzv : (zeroValue e).run P w = .ok z w := by simp [zeroValue, typeInfo, hi1, hz]
  obtain ⟨k, rfl⟩ : ∃ k, m = k + 1 := ⟨m - 1, by omega⟩
  have hrun : (Builtin.clear_ #[t] ty #[.slice (some a) (k + 1) c]).run P w = .ok (.tuple #[]) (storeAll w a (Builtin.zeroCells z.cells (k + 1)).toList) := by
    simp [Builtin.clear_, run_underlying ht, hzv, hst]
  have he : exe P (.call ⟨.builtin .clear, #[x], #[t]⟩) ty σ w = (val (Builtin.clear_ #[t] ty #[ev σ x])).run P w := by
    have : execOp (ev σ) { dst := none, op := .call ⟨.builtin .clear, #[x], #[t]⟩, type := ty, pos := "", after := #[], guard := none } = val (Builtin.clear_ #[t] ty #[ev σ x]) := by
      rw [run_maxmin .clear ⟨.builtin .clear, #[x], #[t]⟩ rfl]
      have e : Array.map (ev σ) #[x] = #[ev σ x] := by simp
      show builtin .clear #[t] ty _ (Array.map (ev σ) #[x]) = _
      rw [e]
      rfl
    unfold exe; rw [this]
  unfold vX
  rw [he, hx, run_val_pure hrun]
  exact hk
end Go.Vc
namespace Go.Proofs.Ythihbgpaoldbjaa
open Go.Vc Go.Key Go.Cub Go.Stab
set_option maxRecDepth 100000
/-- A function of a time, that looks at the world only, in every later world. -/
def StayP (w0 : World) (g : FuncId) (cap : Array Value) (p : Int → Bool) : Prop := ∀ t w', Later w0 w' → FnC Try.prog g (#[] ++ #[.int .i64 t] ++ cap) w' fun r w'' => r = .bool (p t) ∧ Later w' w''
theorem within1_c (t a b : Int) (ka kb : Nat) (w : World) (ha : w.cell? ⟨ka, 0, none⟩ = some (.int .i64 a)) (hb : w.cell? ⟨kb, 0, none⟩ = some (.int .i64 b)) : FnC Try.prog 53 #[.int .i64 t, ptr ka, ptr kb] w fun r w' => r = .bool (decide (a ≤ t) && decide (t < b)) ∧ w' = w := by
  unfold ptr
  refine enter53 _ _ _ ?_
  unfold B53
  by_cases h1 : a ≤ t
  · rw [decide_eq_true h1, Bool.true_and]
    repeat' (first | (simp (disch := omega) only [push_cast, ↓reduceIte, zA, zG, zB, zH, zI, zC, zJ, zK, zL, zD, zE, zF, zM, zN, zO, zP, zQ, reduceCtorEq, not_true_eq_false, not_false_eq_true, ha, hb]) | (first | refine vIfE_of ?_ ?_ | refine vIfD_of ?_ ?_ | refine vIfQ_of ?_ ?_ | refine vIfV_of ?_ ?_) <;> intro _ | refine And.intro (by omega) ?_ | refine drawn_q ?_ | fail)
    all_goals first | trivial | rfl | (exact ⟨rfl, rfl⟩)
  · rw [decide_eq_false h1, Bool.false_and]
    repeat' (first | (simp (disch := omega) only [push_cast, ↓reduceIte, zA, zG, zB, zH, zI, zC, zJ, zK, zL, zD, zE, zF, zM, zN, zO, zP, zQ, reduceCtorEq, not_true_eq_false, not_false_eq_true, ha, hb]) | (first | refine vIfE_of ?_ ?_ | refine vIfD_of ?_ ?_ | refine vIfQ_of ?_ ?_ | refine vIfV_of ?_ ?_) <;> intro _ | refine And.intro (by omega) ?_ | refine drawn_q ?_ | fail)
    all_goals first | trivial | rfl | (exact ⟨rfl, rfl⟩)
theorem split1_c (t a : Int) (ka : Nat) (w : World) (ha : w.cell? ⟨ka, 0, none⟩ = some (.int .i64 a)) : FnC Try.prog 47 #[.int .i64 t, ptr ka] w fun r w' => r = .bool (decide (t < a)) ∧ w' = w := by
  unfold ptr
  refine enter47 _ _ ?_
  unfold B47
  repeat' (first | (simp (disch := omega) only [push_cast, ↓reduceIte, zA, zG, zB, zH, zI, zC, zJ, zK, zL, zD, zE, zF, zM, zN, zO, zP, zQ, reduceCtorEq, not_true_eq_false, not_false_eq_true, ha]) | (first | refine vIfE_of ?_ ?_ | refine vIfD_of ?_ ?_ | refine vIfQ_of ?_ ?_ | refine vIfV_of ?_ ?_) <;> intro _ | refine And.intro (by omega) ?_ | refine drawn_q ?_ | fail)
  all_goals first | trivial | rfl | (exact ⟨rfl, rfl⟩)
theorem split2_c (t a : Int) (ka : Nat) (w : World) (ha : w.cell? ⟨ka, 0, none⟩ = some (.int .i64 a)) : FnC Try.prog 48 #[.int .i64 t, ptr ka] w fun r w' => r = .bool (!decide (t < a)) ∧ w' = w := by
  unfold ptr
  refine enter48 _ _ ?_
  unfold B48
  repeat' (first | (simp (disch := omega) only [push_cast, ↓reduceIte, zA, zG, zB, zH, zI, zC, zJ, zK, zL, zD, zE, zF, zM, zN, zO, zP, zQ, reduceCtorEq, not_true_eq_false, not_false_eq_true, ha]) | (first | refine vIfE_of ?_ ?_ | refine vIfD_of ?_ ?_ | refine vIfQ_of ?_ ?_ | refine vIfV_of ?_ ?_) <;> intro _ | refine And.intro (by omega) ?_ | refine drawn_q ?_ | fail)
  all_goals first | trivial | rfl | (exact congrArg Value.bool (by rw [← decide_not]; exact decide_eq_decide.2 (by omega))) | (exact ⟨congrArg Value.bool (by rw [← decide_not]; exact decide_eq_decide.2 (by omega)), rfl⟩)
abbrev stayV (g : FuncId) (cap : Array Value) : Value := .func (.func g) #[] cap
theorem only1_c (e : El) (k : Nat) (g : FuncId) (cap : Array Value) (p : Int → Bool) (w0 w : World) (hl : Later w0 w) (hk : w0.cell? ⟨k, 0, none⟩ = some (stayV g cap)) (hp : StayP w0 g cap p) : FnC Try.prog 85 #[elV e, ptr k] w fun r w' => r = .bool (!p e.t) ∧ Later w w' := by
  unfold elV ptr
  refine enter85 _ _ ?_
  unfold B85
  have eca : (Value.agg #[.int .i64 e.t, e.dv, .int .i64 e.n, e.av]).cells = #[.int .i64 e.t, e.dv, .int .i64 e.n, e.av] := rfl
  have l1 := later_alloc w (.cells #[.int .i64 e.t, e.dv, .int .i64 e.n, e.av] 35)
  obtain ⟨b0, b1, b2, b3, b4⟩ := box4 w (.int .i64 e.t) e.dv (.int .i64 e.n) e.av 35
  repeat' (first | (simp (disch := omega) only [push_cast, ↓reduceIte, zA, zG, zB, zH, zI, zC, zJ, zK, zL, zD, zE, zF, zM, zN, zO, zP, zQ, reduceCtorEq, not_true_eq_false, not_false_eq_true, eca]) | (first | refine vIfE_of ?_ ?_ | refine vIfD_of ?_ ?_ | refine vIfQ_of ?_ ?_ | refine vIfV_of ?_ ?_) <;> intro _ | refine And.intro (by omega) ?_ | fail)
  generalize w.alloc (.cells #[.int .i64 e.t, e.dv, .int .i64 e.n, e.av] 35) = w1 at *
  have hk1 := (hl.trans l1).cell hk
  repeat' (first | (simp (disch := omega) only [push_cast, ↓reduceIte, zA, zG, zB, zH, zI, zC, zJ, zK, zL, zD, zE, zF, zM, zN, zO, zP, zQ, reduceCtorEq, not_true_eq_false, not_false_eq_true, hk1, b0, addr_add_eq, Nat.zero_add]) | (first | refine vIfE_of ?_ ?_ | refine vIfD_of ?_ ?_ | refine vIfQ_of ?_ ?_ | refine vIfV_of ?_ ?_) <;> intro _ | refine And.intro (by omega) ?_ | refine drawn_q ?_ | fail)
  refine (hp e.t w1 (hl.trans l1)).mono ?_
  rintro _ w2 ⟨rfl, l2⟩
  repeat' (first | (simp (disch := omega) only [push_cast, ↓reduceIte, zA, zG, zB, zH, zI, zC, zJ, zK, zL, zD, zE, zF, zM, zN, zO, zP, zQ, reduceCtorEq, not_true_eq_false, not_false_eq_true]) | (first | refine vIfE_of ?_ ?_ | refine vIfD_of ?_ ?_ | refine vIfQ_of ?_ ?_ | refine vIfV_of ?_ ?_) <;> intro _ | refine And.intro (by omega) ?_ | refine drawn_q ?_ | fail)
  first | exact ⟨rfl, (l1.trans l2)⟩ | exact (l1.trans l2)
theorem indexRows_c (v : Value) (l : List El) (k : Nat) (g : FuncId) (cap : Array Value) (p : Int → Bool) (w0 w : World) (hl : Later w0 w) (hk : w0.cell? ⟨k, 0, none⟩ = some (stayV g cap)) (hp : StayP w0 g cap p) (h : RecS elC 4 w v l) :
    FnC Try.prog 104 #[v, stayV 85 #[ptr k]] w fun r w' => (∃ i : Int, r = .int .i64 i ∧ ((i = -1 ∧ ∀ e ∈ l, p e.t = true) ∨ ∃ n : Nat, ∃ hn : n < l.length, i = (n : Int) ∧ p l[n].t = false ∧ ∀ j (hj : j < l.length), j < n → p l[j].t = true)) ∧ Later w w' := by
  obtain ⟨o, c, rfl, g1, g2⟩ := h.slice
  refine enter104 _ _ ?_
  unfold B104
  repeat' (first | (simp (disch := omega) only [push_cast, ↓reduceIte, zA, zG, zB, zH, zI, zC, zJ, zK, zL, zD, zE, zF, zM, zN, zO, zP, zQ, reduceCtorEq, not_true_eq_false, not_false_eq_true]) | (first | refine vIfE_of ?_ ?_ | refine vIfD_of ?_ ?_ | refine vIfQ_of ?_ ?_ | refine vIfV_of ?_ ?_) <;> intro _ | refine And.intro (by omega) ?_ | refine drawn_q ?_ | fail)
  refine vc_loop W104_0 (fun i : Nat => [(8, .int .i64 (i : Int))]) (fun i w' => i ≤ l.length ∧ Later w w' ∧ ∀ j (hj : j < l.length), j < i → p l[j].t = true) (fun i => l.length - i) 0 (by decide) ?_ ?_ ?_
  · simp (disch := omega) only [push_cast, ↓reduceIte, zA, zG, zB, zH, zI, zC, zJ, zK, zL, zD, zE, zF, zM, zN, zO, zP, zQ, reduceCtorEq, not_true_eq_false, not_false_eq_true]
  · exact ⟨by omega, Later.refl _, fun j _ hj => absurd hj (Nat.not_lt_zero _)⟩
  rintro i uu w1 ⟨hi, l1, hA⟩
  by_cases hlt : i < l.length
  · obtain ⟨a, rfl, c0⟩ := RecS.at elC_len (h.later l1) hlt
    unfold elC at c0
    repeat' (first | (simp (disch := omega) only [push_cast, ↓reduceIte, zA, zG, zB, zH, zI, zC, zJ, zK, zL, zD, zE, zF, zM, zN, zO, zP, zQ, reduceCtorEq, not_true_eq_false, not_false_eq_true, c0]) | (first | refine vIfE_of ?_ ?_ | refine vIfD_of ?_ ?_ | refine vIfQ_of ?_ ?_ | refine vIfV_of ?_ ?_) <;> intro _ | refine And.intro (by omega) ?_ | refine drawn_q ?_ | fail)
    refine (only1_c l[i] k g cap p w0 w1 (hl.trans l1) hk hp).mono ?_
    rintro _ w2 ⟨rfl, l2⟩
    cases hpi : p l[i].t with
    | false =>
      repeat' (first | (simp (disch := omega) only [push_cast, ↓reduceIte, zA, zG, zB, zH, zI, zC, zJ, zK, zL, zD, zE, zF, zM, zN, zO, zP, zQ, reduceCtorEq, not_true_eq_false, not_false_eq_true]) | (first | refine vIfE_of ?_ ?_ | refine vIfD_of ?_ ?_ | refine vIfQ_of ?_ ?_ | refine vIfV_of ?_ ?_) <;> intro _ | refine And.intro (by omega) ?_ | refine drawn_q ?_ | fail)
      exact ⟨⟨_, rfl, .inr ⟨i, hlt, rfl, hpi, hA⟩⟩, l1.trans l2⟩
    | true =>
      repeat' (first | (simp (disch := omega) only [push_cast, ↓reduceIte, zA, zG, zB, zH, zI, zC, zJ, zK, zL, zD, zE, zF, zM, zN, zO, zP, zQ, reduceCtorEq, not_true_eq_false, not_false_eq_true]) | (first | refine vIfE_of ?_ ?_ | refine vIfD_of ?_ ?_ | refine vIfQ_of ?_ ?_ | refine vIfV_of ?_ ?_) <;> intro _ | refine And.intro (by omega) ?_ | refine drawn_q ?_ | fail)
      refine ⟨rfl, i + 1, by simp (disch := omega) only [push_cast, ↓reduceIte, zA, zG, zB, zH, zI, zC, zJ, zK, zL, zD, zE, zF, zM, zN, zO, zP, zQ, reduceCtorEq, not_true_eq_false, not_false_eq_true], ⟨by omega, l1.trans l2, fun j hj hji => ?_⟩, by dsimp only; omega⟩
      by_cases h : j < i
      · exact hA j hj h
      · have : j = i := by omega
        subst this
        exact hpi
  · repeat' (first | (simp (disch := omega) only [push_cast, ↓reduceIte, zA, zG, zB, zH, zI, zC, zJ, zK, zL, zD, zE, zF, zM, zN, zO, zP, zQ, reduceCtorEq, not_true_eq_false, not_false_eq_true]) | (first | refine vIfE_of ?_ ?_ | refine vIfD_of ?_ ?_ | refine vIfQ_of ?_ ?_ | refine vIfV_of ?_ ?_) <;> intro _ | refine And.intro (by omega) ?_ | refine drawn_q ?_ | fail)
    exact ⟨⟨_, rfl, .inl ⟨rfl, fun e he => by
      obtain ⟨j, hj, rfl⟩ := List.getElem_of_mem he
      exact hA j hj (by omega)⟩⟩, l1⟩
def zeroRow : Value := .agg #[.int .i64 0, .slice none 0 0, .int .i64 0, .slice none 0 0]
theorem zero_one (m : Nat) : (∀ u ∈ (Builtin.zeroCells zeroRow.cells m).toList, u.oneCell' = true) ∧ (Builtin.zeroCells zeroRow.cells m).toList.length = m * 4 := by
  constructor
  · intro u hu
    simp only [Builtin.zeroCells, Array.toList_map, List.mem_map] at hu
    obtain ⟨i, _, rfl⟩ := hu
    have hs : zeroRow.cells.size = 4 := rfl
    rw [hs]
    have : i % 4 = 0 ∨ i % 4 = 1 ∨ i % 4 = 2 ∨ i % 4 = 3 := by omega
    rcases this with h | h | h | h <;> rw [h] <;> rfl
  · simp only [Builtin.zeroCells, Array.toList_map, List.length_map, Array.length_toList, Array.size_range]
    rfl
theorem take_filter_step {l : List El} {p : El → Bool} {j : Nat} (hj : j < l.length) : (l.take (j + 1)).filter p = (l.take j).filter p ++ (if p l[j] = true then [l[j]] else []) := by
  rw [take_snoc l j hj, List.filter_append]
  congr 1
  by_cases h : p l[j] = true
  · rw [if_pos h, List.filter_cons_of_pos h]; rfl
  · rw [if_neg h, List.filter_cons_of_neg h]; rfl
theorem wrs_take : ∀ (new : List Value) (xs : List Value) (p : Nat), (wrs xs p new).take p = xs.take p
  | [], xs, p => rfl
  | v :: vs, xs, p => by
    rw [wrs]
    have h2 := congrArg (List.take p) (wrs_take vs (xs.set p v) (p + 1))
    rw [List.take_take, List.take_take, Nat.min_eq_left (by omega)] at h2
    rw [h2, List.take_set_of_le (Nat.le_refl _)]
def keep (p : Int → Bool) (e : El) : Bool := p e.t
/-- Rows of one's own; those that stay. -/
def KeptR (w : World) (B : Nat) (r : Value) (es : List El) (p : Int → Bool) : Prop := ∃ ls, RecS elC 4 w r ls ∧ ls.map El.abs = (es.map El.abs).filter (fun q => p q.1) ∧ ∀ e ∈ ls, EO w B e
theorem keep_abs (es : List El) (p : Int → Bool) : (es.filter (keep p)).map El.abs = (es.map El.abs).filter (fun q => p q.1) := by
  rw [List.filter_map]; rfl
set_option maxHeartbeats 1000000 in
theorem deleteFunc_c (B : Nat) (v : Value) (es : List El) (k : Nat) (g : FuncId) (cap : Array Value) (p : Int → Bool) (w0 w : World) (hl : Later w0 w) (hB : w0.heap.size ≤ B) (hk : w0.cell? ⟨k, 0, none⟩ = some (stayV g cap)) (hp : StayP w0 g cap p) (ho : OwnE w B v es) (hE : ∀ e ∈ es, EO w B e) (h63 : es.length ≤ 1000000) :
    FnC Try.prog 84 #[v, stayV 85 #[ptr k]] w fun r w' => KeptR w' B r es p ∧ Later w0 w' := by
  obtain ⟨o, c, rfl, g1, g2⟩ := RecS.slice (OwnR.s ho)
  refine enter84 _ _ ?_
  unfold B84
  repeat' (first | (simp (disch := omega) only [push_cast, ↓reduceIte, zA, zG, zB, zH, zI, zC, zJ, zK, zL, zD, zE, zF, zM, zN, zO, zP, zQ, reduceCtorEq, not_true_eq_false, not_false_eq_true]) | (first | refine vIfE_of ?_ ?_ | refine vIfD_of ?_ ?_ | refine vIfQ_of ?_ ?_ | refine vIfV_of ?_ ?_) <;> intro _ | refine And.intro (by omega) ?_ | refine drawn_q ?_ | fail)
  refine (indexRows_c _ es k g cap p w0 w hl hk hp (OwnR.s ho)).mono ?_
  rintro _ w1 ⟨⟨i0, rfl, hi0⟩, l1⟩
  have l01 := hl.trans l1
  rcases hi0 with ⟨rfl, hall⟩ | ⟨n, hn, rfl, hpn, hbef⟩
  · have e : es.filter (keep p) = es := List.filter_eq_self.2 fun e he => hall e he
    repeat' (first | (simp (disch := omega) only [push_cast, ↓reduceIte, zA, zG, zB, zH, zI, zC, zJ, zK, zL, zD, zE, zF, zM, zN, zO, zP, zQ, reduceCtorEq, not_true_eq_false, not_false_eq_true]) | (first | refine vIfE_of ?_ ?_ | refine vIfD_of ?_ ?_ | refine vIfQ_of ?_ ?_ | refine vIfV_of ?_ ?_) <;> intro _ | refine And.intro (by omega) ?_ | refine drawn_q ?_ | fail)
    have hr : KeptR w1 B (.slice o es.length c) es p := ⟨es, RecS.later (OwnR.s ho) l1, by rw [← keep_abs, e], fun e he => (hE e he).later l1⟩
    first | exact ⟨hr, l01⟩ | exact l01
  · cases o with
    | none => have h1 := SlN.len (OwnR.s ho); have := h1.2.2.2.2 rfl; have := h1.1; omega
    | some a =>
    obtain ⟨gr, rfl, hgr, _⟩ := own_writes ho
    have hpre : (es.take (n + 1)).filter (keep p) = es.take n := by
      rw [take_filter_step hn, if_neg (by rw [keep, hpn]; simp), List.append_nil]
      exact List.filter_eq_self.2 fun e he => by
        obtain ⟨j, hj, rfl⟩ := List.getElem_of_mem he
        rw [List.length_take] at hj
        rw [List.getElem_take]
        exact hbef j (by omega) (by omega)
    repeat' (first | (simp (disch := omega) only [push_cast, ↓reduceIte, zA, zG, zB, zH, zI, zC, zJ, zK, zL, zD, zE, zF, zM, zN, zO, zP, zQ, reduceCtorEq, not_true_eq_false, not_false_eq_true]) | (first | refine vIfE_of ?_ ?_ | refine vIfD_of ?_ ?_ | refine vIfQ_of ?_ ?_ | refine vIfV_of ?_ ?_) <;> intro _ | refine And.intro (by omega) ?_ | refine drawn_q ?_ | fail)
    refine vc_loop W84_0 (fun q : Nat × Nat => [(5, .int .i64 (q.1 : Int)), (6, .int .i64 (q.2 : Int))])
      (fun q w' => q.1 < q.2 ∧ q.2 ≤ es.length ∧ Later w0 w' ∧ (∀ e ∈ es, EO w' B e) ∧ ∃ cur, cur.length = es.length ∧ OwnE w' B (.slice (some ⟨gr, 0, none⟩) es.length c) cur ∧ cur.take q.1 = (es.take q.2).filter (keep p) ∧ cur.drop q.2 = es.drop q.2 ∧ ∀ e ∈ cur, e ∈ es) (fun q => es.length - q.2) (n, n + 1) (by decide) ?_ ?_ ?_
    · simp (disch := omega) only [push_cast, ↓reduceIte, zA, zG, zB, zH, zI, zC, zJ, zK, zL, zD, zE, zF, zM, zN, zO, zP, zQ, reduceCtorEq, not_true_eq_false, not_false_eq_true]
    · exact ⟨by dsimp only; omega, by dsimp only; omega, l01, fun e he => (hE e he).later l1, es, rfl, ho.later l1, by dsimp only; exact hpre.symm, rfl, fun e he => he⟩
    rintro ⟨i, j⟩ uu w2 ⟨hij, hj, l2, hE2, cur, hcl, hO, hT, hD, hS⟩
    dsimp only at hij hj hT hD
    by_cases hlt : j < es.length
    · have hlt' : j < cur.length := by omega
      have hcur : cur[j] = es[j] := by
        have := congrArg (fun l => l[0]?) hD
        simp only [List.getElem?_drop, Nat.add_zero] at this
        rw [List.getElem?_eq_getElem hlt', List.getElem?_eq_getElem hlt] at this
        exact Option.some.inj this
      have f1 := RecS.get elC_len (OwnR.s hO) hlt'
      rw [hcur] at f1
      have hstep := take_filter_step (p := keep p) hlt
      have hEj := hE2 es[j] (List.getElem_mem _)
      have hmem : es[j] ∈ es := List.getElem_mem _
      have hD' : cur.drop (j + 1) = es.drop (j + 1) := by
        have := congrArg (List.drop 1) hD
        simpa [List.drop_drop] using this
      generalize es[j] = x at *
      rw [addr_add_eq, Nat.zero_add] at f1
      unfold elC at f1
      repeat' (first | (simp (disch := omega) only [push_cast, ↓reduceIte, zA, zG, zB, zH, zI, zC, zJ, zK, zL, zD, zE, zF, zM, zN, zO, zP, zQ, reduceCtorEq, not_true_eq_false, not_false_eq_true, f1]) | (first | refine vIfE_of ?_ ?_ | refine vIfD_of ?_ ?_ | refine vIfQ_of ?_ ?_ | refine vIfV_of ?_ ?_) <;> intro _ | refine And.intro (by omega) ?_ | refine drawn_q ?_ | fail)
      refine vStore_new rfl rfl (by intro u hu; exact elC_one hEj.is u (by simpa [elC] using hu)) ?_
      have l3 := later_alloc w2 (.cells #[.int .i64 x.t, x.dv, .int .i64 x.n, x.av] 35)
      have f3 : cellsAt (w2.alloc (.cells #[.int .i64 x.t, x.dv, .int .i64 x.n, x.av] 35)) ⟨w2.heap.size, 0, none⟩ 4 = some [.int .i64 x.t, x.dv, .int .i64 x.n, x.av] := Blk.cellsAt (l := elC x) (Blk.new w2 _ _)
      generalize w2.alloc (.cells #[.int .i64 x.t, x.dv, .int .i64 x.n, x.av] 35) = w3 at *
      generalize w2.heap.size = k3 at *
      repeat' (first | (simp (disch := omega) only [push_cast, ↓reduceIte, zA, zG, zB, zH, zI, zC, zJ, zK, zL, zD, zE, zF, zM, zN, zO, zP, zQ, reduceCtorEq, not_true_eq_false, not_false_eq_true, f3]) | (first | refine vIfE_of ?_ ?_ | refine vIfD_of ?_ ?_ | refine vIfQ_of ?_ ?_ | refine vIfV_of ?_ ?_) <;> intro _ | refine And.intro (by omega) ?_ | refine drawn_q ?_ | fail)
      refine (only1_c x k g cap p w0 w3 (l2.trans l3) hk hp).mono ?_
      rintro _ w4 ⟨rfl, l4⟩
      have l24 := l3.trans l4
      cases hpx : p x.t with
      | false =>
        repeat' (first | (simp (disch := omega) only [push_cast, ↓reduceIte, zA, zG, zB, zH, zI, zC, zJ, zK, zL, zD, zE, zF, zM, zN, zO, zP, zQ, reduceCtorEq, not_true_eq_false, not_false_eq_true]) | (first | refine vIfE_of ?_ ?_ | refine vIfD_of ?_ ?_ | refine vIfQ_of ?_ ?_ | refine vIfV_of ?_ ?_) <;> intro _ | refine And.intro (by omega) ?_ | refine drawn_q ?_ | fail)
        refine ⟨rfl, (i, j + 1), by simp (disch := omega) only [push_cast, ↓reduceIte, zA, zG, zB, zH, zI, zC, zJ, zK, zL, zD, zE, zF, zM, zN, zO, zP, zQ, reduceCtorEq, not_true_eq_false, not_false_eq_true], ⟨by dsimp only; omega, by dsimp only; omega, l2.trans l24, fun e he => (hE2 e he).later l24, cur, hcl, hO.later l24, ?_, hD', hS⟩, by dsimp only; omega⟩
        dsimp only
        rw [hstep, if_neg (by rw [keep, hpx]; simp), List.append_nil, hT]
      | true =>
        have f4 := cellsAt_later l4 4 f3
        have hO4 := hO.later l24
        rw [← hcl] at hO4
        obtain ⟨g', hg', hBg, ⟨cs, hb⟩, hcan, ho8, hc8⟩ := OwnR.set elC_len hO4 (i := i) (by omega) x
        obtain rfl : gr = g' := congrArg Addr.block hg'
        rw [addr_add_eq, Nat.zero_add] at hcan ho8 hc8
        repeat' (first | (simp (disch := omega) only [push_cast, ↓reduceIte, zA, zG, zB, zH, zI, zC, zJ, zK, zL, zD, zE, zF, zM, zN, zO, zP, zQ, reduceCtorEq, not_true_eq_false, not_false_eq_true, f4, addr_add_eq, Nat.zero_add]) | (first | refine vIfE_of ?_ ?_ | refine vIfD_of ?_ ?_ | refine vIfQ_of ?_ ?_ | refine vIfV_of ?_ ?_) <;> intro _ | refine And.intro (by omega) ?_ | refine drawn_q ?_ | fail)
        refine ⟨rfl, by intro u hu; exact elC_one (hEj.later l24).is u (by simpa [elC, Value.cells] using hu), hcan, ?_⟩
        have ex : (Value.agg #[.int .i64 x.t, x.dv, .int .i64 x.n, x.av]).cells.toList = elC x := rfl
        rw [ex]
        rw [hcl] at ho8
        generalize storeAll w4 ⟨gr, i * 4, none⟩ (elC x) = w8 at *
        repeat' (first | (simp (disch := omega) only [push_cast, ↓reduceIte, zA, zG, zB, zH, zI, zC, zJ, zK, zL, zD, zE, zF, zM, zN, zO, zP, zQ, reduceCtorEq, not_true_eq_false, not_false_eq_true]) | (first | refine vIfE_of ?_ ?_ | refine vIfD_of ?_ ?_ | refine vIfQ_of ?_ ?_ | refine vIfV_of ?_ ?_) <;> intro _ | refine And.intro (by omega) ?_ | refine drawn_q ?_ | fail)
        refine ⟨rfl, (i + 1, j + 1), by simp (disch := omega) only [push_cast, ↓reduceIte, zA, zG, zB, zH, zI, zC, zJ, zK, zL, zD, zE, zF, zM, zN, zO, zP, zQ, reduceCtorEq, not_true_eq_false, not_false_eq_true], ⟨by dsimp only; omega, by dsimp only; omega, Chg.later (l2.trans l24) hc8 (by intro q hq; rw [List.mem_singleton.1 hq]; omega), fun e he => ((hE2 e he).later l24).chg hb hc8, cur.set i x, by simp [hcl], ho8, ?_, ?_, fun e he => ?_⟩, by dsimp only; omega⟩
        · dsimp only
          rw [hstep, if_pos (by rw [keep, hpx]), ← hT]
          rw [List.take_set, List.take_add_one, List.getElem?_eq_getElem (show i < cur.length by omega)]
          simp only [Option.toList_some]
          rw [List.set_append_right _ _ (by simp; omega)]
          have : (i - (cur.take i).length) = 0 := by simp; omega
          rw [this]
          simp
        · dsimp only
          rw [List.drop_set_of_lt (by omega)]
          exact hD'
        · rcases List.mem_or_eq_of_mem_set he with h | h
          · exact hS e h
          · rw [h]; exact hmem
    · have hje : j = es.length := by omega
      subst hje
      rw [List.take_length] at hT
      obtain ⟨g', hg', hBg, _, ⟨cs, hb⟩, hcan⟩ := own_writes hO
      obtain rfl : gr = g' := congrArg Addr.block hg'
      obtain ⟨hz1, hz2⟩ := zero_one (es.length - i)
      have em : ((es.length : Int) - (i : Int)).toNat = es.length - i := by omega
      have ea : slAddr (some ⟨gr, 0, none⟩) (i : Int) (c : Int) 4 = some ⟨gr, i * 4, none⟩ := by
        unfold slAddr
        rw [if_neg (by omega), Option.map_some, addr_add_eq, Nat.zero_add, Int.toNat_natCast]
      repeat' (first | (simp (disch := omega) only [push_cast, ↓reduceIte, zA, zG, zB, zH, zI, zC, zJ, zK, zL, zD, zE, zF, zM, zN, zO, zP, zQ, reduceCtorEq, not_true_eq_false, not_false_eq_true]) | (first | refine vIfE_of ?_ ?_ | refine vIfD_of ?_ ?_ | refine vIfQ_of ?_ ?_ | refine vIfV_of ?_ ?_) <;> intro _ | refine And.intro (by omega) ?_ | refine drawn_q ?_ | fail)
      refine vX_clear (m := es.length - i) (a := ⟨gr, i * 4, none⟩) (c := ((c : Int) - (i : Int)).toNat) Try.underlying25 (z := zeroRow) ti35 (by simp (disch := omega) only [push_cast, ↓reduceIte, zA, zG, zB, zH, zI, zC, zJ, zK, zL, zD, zE, zF, zM, zN, zO, zP, zQ, reduceCtorEq, not_true_eq_false, not_false_eq_true, em, ea]) (by omega) hz1 (hcan _ _ (by rw [hz2, hcl, ← Nat.add_mul]; exact Nat.mul_le_mul_right _ (by omega))) ?_
      obtain ⟨q1, q2⟩ := own_storeAll (Builtin.zeroCells zeroRow.cells (es.length - i)).toList w2 (i * 4) (cur.map elC).flatten hO (by rw [hz2, hcl, ← Nat.add_mul]; exact Nat.mul_le_mul_right _ (by omega))
      generalize storeAll w2 ⟨gr, i * 4, none⟩ (Builtin.zeroCells zeroRow.cells (es.length - i)).toList = w3 at *
      have l3 : Later w0 w3 := Chg.later l2 q2 (by intro q hq; rw [List.mem_singleton.1 hq]; omega)
      rw [hcl] at q1
      have hs := SlN.preN (SlN.of_own q1) (k := i) (by omega)
      rw [wrs_take, rec_take elC_len, hT] at hs
      have hlen : (es.filter (keep p)).length = i := by rw [← hT, List.length_take]; omega
      have hRec : RecS elC 4 w3 (.slice (some ⟨gr, 0, none⟩) i c) (es.filter (keep p)) := by
        unfold RecS
        rw [hlen]
        exact hs
      have hKept : KeptR w3 B (.slice (some ⟨gr, 0, none⟩) i c) es p := ⟨_, hRec, keep_abs es p, fun e he => (hE2 e (List.mem_filter.1 he).1).chg hb q2⟩
      repeat' (first | (simp (disch := omega) only [push_cast, ↓reduceIte, zA, zG, zB, zH, zI, zC, zJ, zK, zL, zD, zE, zF, zM, zN, zO, zP, zQ, reduceCtorEq, not_true_eq_false, not_false_eq_true]) | (first | refine vIfE_of ?_ ?_ | refine vIfD_of ?_ ?_ | refine vIfQ_of ?_ ?_ | refine vIfV_of ?_ ?_) <;> intro _ | refine And.intro (by omega) ?_ | refine drawn_q ?_ | fail)
      first | exact ⟨hKept, l3⟩ | exact l3
theorem only_c (o : Option Addr) (n c : Nat) (l : List El) (g : FuncId) (cap : Array Value) (p : Int → Bool) (w : World) (h : RecS elC 4 w (.slice o n c) l) (hp : StayP w g cap p) (hes : ∀ e ∈ l, EIs w e ∧ e.d.length ≤ 1000000 ∧ e.a.length ≤ 1000000) (hl : l.length ≤ 100000) :
    FnC Try.prog 46 #[.slice o n c, stayV g cap] w fun r w' => KeptR w' w.heap.size r l p ∧ Later w w' := by
  refine enter46 _ _ ?_
  unfold B46
  have eca : (stayV g cap).cells = #[stayV g cap] := rfl
  have l1 := later_alloc w (.cells #[stayV g cap] 68)
  have B1 := Blk.new w #[stayV g cap] 68
  repeat' (first | (simp (disch := omega) only [push_cast, ↓reduceIte, zA, zG, zB, zH, zI, zC, zJ, zK, zL, zD, zE, zF, zM, zN, zO, zP, zQ, reduceCtorEq, not_true_eq_false, not_false_eq_true, eca]) | (first | refine vIfE_of ?_ ?_ | refine vIfD_of ?_ ?_ | refine vIfQ_of ?_ ?_ | refine vIfV_of ?_ ?_) <;> intro _ | refine And.intro (by omega) ?_ | fail)
  generalize w.alloc (.cells #[stayV g cap] 68) = w1 at *
  have hk := B1.cell 0
  refine (copy_c _ l w1 (h.later l1) (fun e he => ⟨(hes e he).1.later l1, (hes e he).2⟩) hl).mono ?_
  rintro cv w2 ⟨⟨es, ho, hab, hE⟩, l2⟩
  have hel : es.length = l.length := by have := congrArg List.length hab; simpa using this
  repeat' (first | (simp (disch := omega) only [push_cast, ↓reduceIte, zA, zG, zB, zH, zI, zC, zJ, zK, zL, zD, zE, zF, zM, zN, zO, zP, zQ, reduceCtorEq, not_true_eq_false, not_false_eq_true]) | (first | refine vIfE_of ?_ ?_ | refine vIfD_of ?_ ?_ | refine vIfQ_of ?_ ?_ | refine vIfV_of ?_ ?_) <;> intro _ | refine And.intro (by omega) ?_ | refine drawn_q ?_ | fail)
  refine (deleteFunc_c w1.heap.size cv es w.heap.size g cap p w1 w2 l2 (Nat.le_refl _) hk (fun t w' hl => hp t w' (l1.trans hl)) ho hE (by omega)).mono ?_
  rintro r w3 ⟨⟨ls, k1, k2, k3⟩, l3⟩
  have hr : KeptR w3 w.heap.size r l p := ⟨ls, k1, by rw [k2, hab], fun e he => (k3 e he).base l1.size⟩
  repeat' (first | (simp (disch := omega) only [push_cast, ↓reduceIte, zA, zG, zB, zH, zI, zC, zJ, zK, zL, zD, zE, zF, zM, zN, zO, zP, zQ, reduceCtorEq, not_true_eq_false, not_false_eq_true]) | (first | refine vIfE_of ?_ ?_ | refine vIfD_of ?_ ?_ | refine vIfQ_of ?_ ?_ | refine vIfV_of ?_ ?_) <;> intro _ | refine And.intro (by omega) ?_ | refine drawn_q ?_ | fail)
  first | exact ⟨hr, (l1.trans l3)⟩ | exact (l1.trans l3)
theorem within_c (o : Option Addr) (n c : Nat) (l : List El) (a b : Int) (w : World) (h : RecS elC 4 w (.slice o n c) l) (hes : ∀ e ∈ l, EIs w e ∧ e.d.length ≤ 1000000 ∧ e.a.length ≤ 1000000) (hl : l.length ≤ 100000) :
    FnC Try.prog 22 #[.slice o n c, .int .i64 a, .int .i64 b] w fun r w' => KeptR w' w.heap.size r l (fun t => decide (a ≤ t) && decide (t < b)) ∧ Later w w' := by
  refine enter22 _ _ _ ?_
  unfold B22
  have l1 := later_alloc w (.cells #[.int .i64 a] 3)
  have B1 := Blk.new w #[.int .i64 a] 3
  have s1 : (w.alloc (.cells #[.int .i64 a] 3)).heap.size = w.heap.size + 1 := World.size_alloc w _
  have eca : (Value.int .i64 a).cells = #[.int .i64 a] := rfl
  have ecb : (Value.int .i64 b).cells = #[.int .i64 b] := rfl
  repeat' (first | (simp (disch := omega) only [push_cast, ↓reduceIte, zA, zG, zB, zH, zI, zC, zJ, zK, zL, zD, zE, zF, zM, zN, zO, zP, zQ, reduceCtorEq, not_true_eq_false, not_false_eq_true, eca, ecb, s1]) | (first | refine vIfE_of ?_ ?_ | refine vIfD_of ?_ ?_ | refine vIfQ_of ?_ ?_ | refine vIfV_of ?_ ?_) <;> intro _ | refine And.intro (by omega) ?_ | fail)
  generalize w.alloc (.cells #[.int .i64 a] 3) = w1 at *
  have l2 := later_alloc w1 (.cells #[.int .i64 b] 3)
  have B2 := Blk.new w1 #[.int .i64 b] 3
  rw [s1] at B2
  generalize w1.alloc (.cells #[.int .i64 b] 3) = w2 at *
  have ha : w2.cell? ⟨w.heap.size, 0, none⟩ = some (.int .i64 a) := (B1.chg (Chg.of_later (ks := []) l2) (by simp)).cell 0
  have hb : w2.cell? ⟨w.heap.size + 1, 0, none⟩ = some (.int .i64 b) := B2.cell 0
  have l02 := l1.trans l2
  refine (only_c o n c l 53 #[ptr w.heap.size, ptr (w.heap.size + 1)] _ w2 (h.later l02) (fun t w' hl => (within1_c t a b w.heap.size (w.heap.size + 1) w' (hl.cell ha) (hl.cell hb)).mono fun r w'' h => ⟨h.1, h.2 ▸ Later.refl _⟩) (fun e he => ⟨(hes e he).1.later l02, (hes e he).2⟩) hl).mono ?_
  rintro r w3 ⟨⟨ls, k1, k2, k3⟩, l3⟩
  have hr : KeptR w3 w.heap.size r l (fun t => decide (a ≤ t) && decide (t < b)) := ⟨ls, k1, k2, fun e he => (k3 e he).base l02.size⟩
  repeat' (first | (simp (disch := omega) only [push_cast, ↓reduceIte, zA, zG, zB, zH, zI, zC, zJ, zK, zL, zD, zE, zF, zM, zN, zO, zP, zQ, reduceCtorEq, not_true_eq_false, not_false_eq_true]) | (first | refine vIfE_of ?_ ?_ | refine vIfD_of ?_ ?_ | refine vIfQ_of ?_ ?_ | refine vIfV_of ?_ ?_) <;> intro _ | refine And.intro (by omega) ?_ | refine drawn_q ?_ | fail)
  first | exact ⟨hr, (l02.trans l3)⟩ | exact (l02.trans l3)
theorem split_c (o : Option Addr) (n c : Nat) (l : List El) (a : Int) (w : World) (h : RecS elC 4 w (.slice o n c) l) (hes : ∀ e ∈ l, EIs w e ∧ e.d.length ≤ 1000000 ∧ e.a.length ≤ 1000000) (hl : l.length ≤ 100000) :
    FnC Try.prog 17 #[.slice o n c, .int .i64 a] w fun r w' => (∃ u v, r = .tuple #[u, v] ∧ KeptR w' w.heap.size u l (fun t => decide (t < a)) ∧ KeptR w' w.heap.size v l (fun t => !decide (t < a))) ∧ Later w w' := by
  refine enter17 _ _ ?_
  unfold B17
  have l1 := later_alloc w (.cells #[.int .i64 a] 3)
  have B1 := Blk.new w #[.int .i64 a] 3
  have eca : (Value.int .i64 a).cells = #[.int .i64 a] := rfl
  repeat' (first | (simp (disch := omega) only [push_cast, ↓reduceIte, zA, zG, zB, zH, zI, zC, zJ, zK, zL, zD, zE, zF, zM, zN, zO, zP, zQ, reduceCtorEq, not_true_eq_false, not_false_eq_true, eca]) | (first | refine vIfE_of ?_ ?_ | refine vIfD_of ?_ ?_ | refine vIfQ_of ?_ ?_ | refine vIfV_of ?_ ?_) <;> intro _ | refine And.intro (by omega) ?_ | fail)
  generalize w.alloc (.cells #[.int .i64 a] 3) = w1 at *
  have ha : w1.cell? ⟨w.heap.size, 0, none⟩ = some (.int .i64 a) := B1.cell 0
  refine (only_c o n c l 47 #[ptr w.heap.size] _ w1 (h.later l1) (fun t w' hl => (split1_c t a w.heap.size w' (hl.cell ha)).mono fun r w'' h => ⟨h.1, h.2 ▸ Later.refl _⟩) (fun e he => ⟨(hes e he).1.later l1, (hes e he).2⟩) hl).mono ?_
  rintro u w2 ⟨⟨ls, k1, k2, k3⟩, l2⟩
  have l02 := l1.trans l2
  have ha2 := l2.cell ha
  repeat' (first | (simp (disch := omega) only [push_cast, ↓reduceIte, zA, zG, zB, zH, zI, zC, zJ, zK, zL, zD, zE, zF, zM, zN, zO, zP, zQ, reduceCtorEq, not_true_eq_false, not_false_eq_true]) | (first | refine vIfE_of ?_ ?_ | refine vIfD_of ?_ ?_ | refine vIfQ_of ?_ ?_ | refine vIfV_of ?_ ?_) <;> intro _ | refine And.intro (by omega) ?_ | refine drawn_q ?_ | fail)
  refine (only_c o n c l 48 #[ptr w.heap.size] _ w2 (h.later l02) (fun t w' hl => (split2_c t a w.heap.size w' (hl.cell ha2)).mono fun r w'' h => ⟨h.1, h.2 ▸ Later.refl _⟩) (fun e he => ⟨(hes e he).1.later l02, (hes e he).2⟩) hl).mono ?_
  rintro v w3 ⟨⟨ms, j1, j2, j3⟩, l3⟩
  have hu : KeptR w3 w.heap.size u l (fun t => decide (t < a)) := ⟨ls, RecS.later k1 l3, k2, fun e he => ((k3 e he).base l1.size).later l3⟩
  have hv : KeptR w3 w.heap.size v l (fun t => !decide (t < a)) := ⟨ms, j1, j2, fun e he => (j3 e he).base l02.size⟩
  repeat' (first | (simp (disch := omega) only [push_cast, ↓reduceIte, zA, zG, zB, zH, zI, zC, zJ, zK, zL, zD, zE, zF, zM, zN, zO, zP, zQ, reduceCtorEq, not_true_eq_false, not_false_eq_true]) | (first | refine vIfE_of ?_ ?_ | refine vIfD_of ?_ ?_ | refine vIfQ_of ?_ ?_ | refine vIfV_of ?_ ?_) <;> intro _ | refine And.intro (by omega) ?_ | refine drawn_q ?_ | fail)
  first | exact ⟨⟨u, v, rfl, hu, hv⟩, (l02.trans l3)⟩ | exact (l02.trans l3)
theorem dwithin_c (v : Value) (l : List El) (a b : Int) (w : World) (h : RecS elC 4 w v l) (hes : ∀ e ∈ l, EIs w e) (hl : l.length ≤ 100000) :
    FnC Try.prog 23 #[v, .int .i64 a, .int .i64 b] w fun r w' => (∃ ls, RecS elC 4 w' r ls ∧ ls.map El.abs = (l.map El.abs).filter (fun q => decide (a ≤ q.1) && decide (q.1 < b)) ∧ ∀ e ∈ ls, EIs w' e) ∧ Later w w' := by
  obtain ⟨o, c, rfl, g1, g2⟩ := h.slice
  refine enter23 _ _ _ ?_
  unfold B23
  repeat' (first | (simp (disch := omega) only [push_cast, ↓reduceIte, zA, zG, zB, zH, zI, zC, zJ, zK, zL, zD, zE, zF, zM, zN, zO, zP, zQ, reduceCtorEq, not_true_eq_false, not_false_eq_true]) | (first | refine vIfE_of ?_ ?_ | refine vIfD_of ?_ ?_ | refine vIfQ_of ?_ ?_ | refine vIfV_of ?_ ?_) <;> intro _ | refine And.intro (by omega) ?_ | refine drawn_q ?_ | fail)
  refine vc_loop W23_0 (fun p : Nat × Value => [(7, p.2), (8, .int .i64 (p.1 : Int))])
    (fun p w' => p.1 ≤ l.length ∧ Later w w' ∧ ∃ os, OwnE w' w.heap.size p.2 os ∧ os = (l.take p.1).filter (keep fun t => decide (a ≤ t) && decide (t < b))) (fun p => l.length - p.1) (0, .slice none 0 0) (by decide) ?_ ?_ ?_
  · simp (disch := omega) only [push_cast, ↓reduceIte, zA, zG, zB, zH, zI, zC, zJ, zK, zL, zD, zE, zF, zM, zN, zO, zP, zQ, reduceCtorEq, not_true_eq_false, not_false_eq_true]
  · exact ⟨by omega, Later.refl _, [], OwnR.nil _ _ _, by simp⟩
  rintro ⟨i, ov⟩ uu w1 ⟨hi, l1, os, hO, hos⟩
  dsimp only at hi hO hos
  by_cases hlt : i < l.length
  · obtain ⟨ad, rfl, f1⟩ := RecS.at elC_len (h.later l1) hlt
    have f0 := RecS.cell elC_len (h.later l1) hlt (j := 0) (x := .int .i64 l[i].t) rfl
    rw [addr_add_zero] at f0
    have hEx := (hes l[i] (List.getElem_mem _)).later l1
    have hstep := take_filter_step (p := keep fun t => decide (a ≤ t) && decide (t < b)) hlt
    have hol : os.length ≤ i := by rw [hos]; exact Nat.le_trans (List.length_filter_le _ _) (by rw [List.length_take]; omega)
    generalize l[i] = x at *
    unfold elC at f1
    obtain ⟨oo, oc, rfl, _⟩ := RecS.slice (OwnR.s hO)
    by_cases hin : a ≤ x.t ∧ x.t < b
    · obtain ⟨h1, h2⟩ := hin
      have hkp : keep (fun t => decide (a ≤ t) && decide (t < b)) x = true := by simp [keep, h1, h2]
      repeat' (first | (simp (disch := omega) only [push_cast, ↓reduceIte, zA, zG, zB, zH, zI, zC, zJ, zK, zL, zD, zE, zF, zM, zN, zO, zP, zQ, reduceCtorEq, not_true_eq_false, not_false_eq_true, f0, f1, addr_add_zero]) | (first | refine vIfE_of ?_ ?_ | refine vIfD_of ?_ ?_ | refine vIfQ_of ?_ ?_ | refine vIfV_of ?_ ?_) <;> intro _ | refine And.intro (by omega) ?_ | refine drawn_q ?_ | fail)
      have la := later_alloc w1 (.cells #[.int .i64 x.t, x.dv, .int .i64 x.n, x.av] 35)
      have Bl := Blk.new w1 #[.int .i64 x.t, x.dv, .int .i64 x.n, x.av] 35
      refine vAppend_e (r := [x]) (hO.later la) (RecS.lit1 (elC_len x) Bl) (by intro q hq; rw [List.mem_singleton.1 hq]; exact hEx.later la) (by simp only [List.length_cons, List.length_nil]; omega) (Nat.le_trans l1.size la.size) ?_
      intro v' w6 ho6 hg _
      have l6 := (l1.trans la).appended (hO.later la) (Nat.le_refl _) hg
      repeat' (first | (simp (disch := omega) only [push_cast, ↓reduceIte, zA, zG, zB, zH, zI, zC, zJ, zK, zL, zD, zE, zF, zM, zN, zO, zP, zQ, reduceCtorEq, not_true_eq_false, not_false_eq_true]) | (first | refine vIfE_of ?_ ?_ | refine vIfD_of ?_ ?_ | refine vIfQ_of ?_ ?_ | refine vIfV_of ?_ ?_) <;> intro _ | refine And.intro (by omega) ?_ | refine drawn_q ?_ | fail)
      exact ⟨rfl, (i + 1, v'), by simp (disch := omega) only [push_cast, ↓reduceIte, zA, zG, zB, zH, zI, zC, zJ, zK, zL, zD, zE, zF, zM, zN, zO, zP, zQ, reduceCtorEq, not_true_eq_false, not_false_eq_true], ⟨by dsimp only; omega, l6, _, ho6, by rw [hstep, if_pos hkp, ← hos]⟩, by dsimp only; omega⟩
    · have hkp : ¬ keep (fun t => decide (a ≤ t) && decide (t < b)) x = true := by
        simp only [keep, Bool.and_eq_true, decide_eq_true_eq]
        exact hin
      repeat' (first | (simp (disch := omega) only [push_cast, ↓reduceIte, zA, zG, zB, zH, zI, zC, zJ, zK, zL, zD, zE, zF, zM, zN, zO, zP, zQ, reduceCtorEq, not_true_eq_false, not_false_eq_true, f0, f1, addr_add_zero]) | (first | refine vIfE_of ?_ ?_ | refine vIfD_of ?_ ?_ | refine vIfQ_of ?_ ?_ | refine vIfV_of ?_ ?_) <;> intro _ | refine And.intro (by omega) ?_ | refine drawn_q ?_ | fail)
      all_goals first | (exfalso; omega) | skip
      all_goals exact ⟨rfl, (i + 1, .slice oo os.length oc), by simp (disch := omega) only [push_cast, ↓reduceIte, zA, zG, zB, zH, zI, zC, zJ, zK, zL, zD, zE, zF, zM, zN, zO, zP, zQ, reduceCtorEq, not_true_eq_false, not_false_eq_true], ⟨by dsimp only; omega, l1, os, hO, by dsimp only; rw [hstep, if_neg hkp, List.append_nil, ← hos]⟩, by dsimp only; omega⟩
  · have e : i = l.length := by omega
    subst e
    rw [List.take_length] at hos
    have hr : ∃ ls, RecS elC 4 w1 ov ls ∧ ls.map El.abs = (l.map El.abs).filter (fun q => decide (a ≤ q.1) && decide (q.1 < b)) ∧ ∀ e ∈ ls, EIs w1 e := ⟨os, OwnR.s hO, by rw [hos, keep_abs], fun e he => (hes e (by rw [hos] at he; exact (List.mem_filter.1 he).1)).later l1⟩
    repeat' (first | (simp (disch := omega) only [push_cast, ↓reduceIte, zA, zG, zB, zH, zI, zC, zJ, zK, zL, zD, zE, zF, zM, zN, zO, zP, zQ, reduceCtorEq, not_true_eq_false, not_false_eq_true]) | (first | refine vIfE_of ?_ ?_ | refine vIfD_of ?_ ?_ | refine vIfQ_of ?_ ?_ | refine vIfV_of ?_ ?_) <;> intro _ | refine And.intro (by omega) ?_ | refine drawn_q ?_ | fail)
    first | exact ⟨hr, l1⟩ | exact l1
end Go.Proofs.Ythihbgpaoldbjaa
end
