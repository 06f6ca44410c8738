/- The functions' code in the generator's form. Written by a program (codes.py) out of Lean's own print of the loaded translation. -/
import Derived.Test.YthihbgpaoldbjaaPartF
set_option linter.all false
open Nat renaming reduceEqDiff → zA, reducePow → zB, reduceMul → zC, reduceAdd → zD, reduceSub → zE, reduceLeDiff → zF
open Int renaming reduceToNat → zG, reducePow → zH, reduceNeg → zI, reduceMul → zJ, reduceAdd → zK, reduceSub → zL, reduceLT → zM, reduceLE → zN, reduceEq → zO, reduceMod → zP, reduceDiv → zQ
section
namespace Go.Proofs.Ythihbgpaoldbjaa
open Go.Vc
set_option maxRecDepth 100000
variable (Q : Post) (ds : List Deferred) (σ : Env) (w : World)
/-! 21 columbary/columbaryref03.Texts (params #[22, 22], results #[(.tmp 4)], 26 slots) -/
def W21_0 : List Nat := [4, 5, 11, 12, 13, 14, 15, 16, 17, 18, 19, 20, 21, 22, 23, 24, 25]
@[push_cast] theorem W21_0_def : W21_0 = [4, 5, 11, 12, 13, 14, 15, 16, 17, 18, 19, 20, 21, 22, 23, 24, 25] := mk_eq rfl
def r21_0 : List VOp :=
  [⟨some 4, .assign (.const (.bool false)), 4, none⟩]
def r21_1 : List VOp :=
  [mv 6 0 22,
   ⟨some 7, .call ⟨.builtin .len, #[.tmp 6], #[22]⟩, 3, none⟩,
   mv 8 1 22,
   ⟨some 9, .call ⟨.builtin .len, #[.tmp 8], #[22]⟩, 3, none⟩,
   ⟨some 10, .binOp .neq 3 (.tmp 7) (.tmp 9) 3, 4, none⟩]
def r21_2 : List VOp :=
  [⟨some 4, .assign (.const (.bool false)), 4, none⟩]
def r21_3 : List VOp :=
  [⟨some 5, .assign (.const (.int .i64 0)), 3, none⟩]
def r21_4 : List VOp :=
  [mv 11 5 3,
   mv 12 0 22,
   ⟨some 13, .call ⟨.builtin .len, #[.tmp 12], #[22]⟩, 3, none⟩,
   ⟨some 14, .binOp .lss 3 (.tmp 11) (.tmp 13) 3, 4, none⟩]
def r21_6 : List VOp :=
  [mv 17 0 22,
   mv 18 5 3,
   iad 19 22 17 18,
   lda 20 9 19,
   mv 21 1 22,
   mv 22 5 3,
   iad 23 22 21 22,
   lda 24 9 23,
   ⟨some 25, .binOp .neq 9 (.tmp 20) (.tmp 24) 9, 4, none⟩]
def r21_7 : List VOp :=
  [⟨some 4, .assign (.const (.bool false)), 4, none⟩]
def r21_5 : List VOp :=
  [mv 15 5 3,
   ⟨some 16, .binOp .add 3 (.tmp 15) (.const (.int .i64 1)) 3, 3, none⟩,
   asg 5 16 3]
def r21_8 : List VOp :=
  [⟨some 4, .assign (.const (.bool true)), 4, none⟩]
def B21 : VC :=
  (.seq (.region r21_0) (.seq (.seq (.region r21_1) (.cond (.tmp 10) (.seq (.region r21_2) .ret) .skip)) (.seq (.seq (.region r21_3) (.block 0 (.loop (.seq (.seq (.region r21_4) (.cond (.tmp 14) .skip (.exit 0))) (.seq (.block 1 (.seq (.draw r21_6 2) (.cond (.tmp 25) (.seq (.region r21_7) .ret) .skip))) (.region r21_5)))))) (.seq (.region r21_8) .ret))))
theorem code21 : ∃ c, Try.f21.body = some c ∧ abs Try.f21.ntmps c = B21 := ⟨_, rfl, by kernel_rfl⟩
theorem hb21 : HasBody Try.prog 21 := hasBody_of Try.func21 (by kernel_rfl)
theorem res21 : Try.f21.results = #[(.tmp 4)] := rfl
theorem enter21 {w : World} {R : Value → World → Prop} (x0 x1 : Value) (h : vc Try.prog B21 (retK Try.prog #[(.tmp 4)] R) [] (initEnv [x0, x1] 0) w) : FnC Try.prog 21 #[x0, x1] w R := by
  obtain ⟨c, h1, h2⟩ := code21
  exact hb21.fn (ret_of_vc mixed Try.func21 h1 (Nat.le_of_ble_eq_true rfl) B21 h2 h)
@[push_cast] theorem vr21_0 : VR r21_0 [⟨some 4, .assign (.const (.bool false)), 4, none⟩] := vR rfl
@[push_cast] theorem vr21_1 : VR r21_1 [⟨some 6, .move (.tmp 0), 22, none⟩, ⟨some 7, .call ⟨.builtin .len, #[.tmp 6], #[22]⟩, 3, none⟩, ⟨some 8, .move (.tmp 1), 22, none⟩, ⟨some 9, .call ⟨.builtin .len, #[.tmp 8], #[22]⟩, 3, none⟩, ⟨some 10, .binOp .neq 3 (.tmp 7) (.tmp 9) 3, 4, none⟩] := vR rfl
@[push_cast] theorem vr21_2 : VR r21_2 [⟨some 4, .assign (.const (.bool false)), 4, none⟩] := vR rfl
@[push_cast] theorem vr21_3 : VR r21_3 [⟨some 5, .assign (.const (.int .i64 0)), 3, none⟩] := vR rfl
@[push_cast] theorem vr21_4 : VR r21_4 [⟨some 11, .move (.tmp 5), 3, none⟩, ⟨some 12, .move (.tmp 0), 22, none⟩, ⟨some 13, .call ⟨.builtin .len, #[.tmp 12], #[22]⟩, 3, none⟩, ⟨some 14, .binOp .lss 3 (.tmp 11) (.tmp 13) 3, 4, none⟩] := vR rfl
@[push_cast] theorem vr21_6 : vc Try.prog (.draw r21_6 2) Q ds σ w = drawn Try.prog [(⟨some 17, .move (.tmp 0), 22, none⟩, [0]), (⟨some 18, .move (.tmp 5), 3, none⟩, [5]), (⟨some 19, .indexAddr 22 (.tmp 17) (.tmp 18), 0, none⟩, [17, 18]), (⟨some 20, .load 9 (.tmp 19), 9, none⟩, [19]), (⟨some 21, .move (.tmp 1), 22, none⟩, [1]), (⟨some 22, .move (.tmp 5), 3, none⟩, [5]), (⟨some 23, .indexAddr 22 (.tmp 21) (.tmp 22), 0, none⟩, [21, 22]), (⟨some 24, .load 9 (.tmp 23), 9, none⟩, [23]), (⟨some 25, .binOp .neq 9 (.tmp 20) (.tmp 24) 9, 4, none⟩, [20, 24])] 2 (Q .normal ds) σ w := mk_eq rfl
@[push_cast] theorem vr21_7 : VR r21_7 [⟨some 4, .assign (.const (.bool false)), 4, none⟩] := vR rfl
@[push_cast] theorem vr21_5 : VR r21_5 [⟨some 15, .move (.tmp 5), 3, none⟩, ⟨some 16, .binOp .add 3 (.tmp 15) (.const (.int .i64 1)) 3, 3, none⟩, ⟨some 5, .assign (.tmp 16), 3, none⟩] := vR rfl
@[push_cast] theorem vr21_8 : VR r21_8 [⟨some 4, .assign (.const (.bool true)), 4, none⟩] := vR rfl
/-! 25 columbary/rows.Of (params #[24, 49], results #[(.cell 4 35), (.tmp 5)], 45 slots) -/
def W25_0 : List Nat := [9, 10, 11, 28, 29, 30, 31, 32, 33, 34, 35, 36, 37, 38, 39, 40, 41, 42, 43]
@[push_cast] theorem W25_0_def : W25_0 = [9, 10, 11, 28, 29, 30, 31, 32, 33, 34, 35, 36, 37, 38, 39, 40, 41, 42, 43] := mk_eq rfl
def r25_0 : List VOp :=
  [⟨some 2, .box 24 (.tmp 0), 0, none⟩,
   ⟨some 3, .box 49 (.tmp 1), 0, none⟩,
   ⟨some 4, .alloc 35, 0, none⟩,
   ⟨some 5, .assign (.const (.int .i64 0)), 28, none⟩]
def r25_1 : List VOp :=
  [lda 12 24 2,
   lda 13 49 3,
   ⟨some 14, .call ⟨.value (.func 55), #[.tmp 12, .tmp 13], #[24, 49]⟩, 28, none⟩,
   asg 6 14 28]
def r25_2 : List VOp :=
  [mv 15 6 28,
   ⟨some 16, .binOp .neq 28 (.tmp 15) (.const (.int .i64 0)) 28, 4, none⟩]
def r25_3 : List VOp :=
  [⟨some 17, .build 35 #[], 35, none⟩,
   mv 18 6 28,
   ⟨none, .store 35 (.tmp 4) (.tmp 17), 0, none⟩,
   asg 5 18 28]
def r25_4 : List VOp :=
  [fad 19 49 3 0,
   lda 20 3 19,
   fad 21 49 3 1,
   lda 22 22 21,
   ⟨some 23, .call ⟨.value (.func 52), #[.tmp 22], #[22]⟩, 22, none⟩,
   ⟨some 24, .build 35 #[(0, (.tmp 20)), (1, (.tmp 23)), (2, (.const (.int .i64 1)))], 35, none⟩,
   ⟨some 7, .alloc 35, 0, none⟩,
   ⟨none, .store 35 (.tmp 7) (.tmp 24), 0, none⟩]
def r25_5 : List VOp :=
  [fad 25 49 3 2,
   lda 26 47 25,
   ⟨some 27, .call ⟨.builtin .len, #[.tmp 26], #[47]⟩, 3, none⟩,
   ⟨some 28, .move (.const (.int .i64 0)), 3, none⟩]
def r25_6 : List VOp :=
  [⟨some 29, .binOp .lss 3 (.tmp 28) (.tmp 27) 3, 0, none⟩]
def r25_7 : List VOp :=
  [iad 30 47 26 28,
   lda 31 3 30,
   asg 9 31 3]
def r25_8 : List VOp :=
  [mv 33 9 3,
   ⟨some 34, .call ⟨.value (.func 56), #[.tmp 33], #[3]⟩, 78, none⟩,
   mv 32 34 78,
   ext 35 32 0 64,
   ext 36 32 1 28,
   ⟨some 10, .alloc 64, 0, none⟩,
   ⟨none, .store 64 (.tmp 10) (.tmp 35), 0, none⟩,
   asg 11 36 28]
def r25_9 : List VOp :=
  [fad 37 35 7 3,
   lda 38 33 37,
   lda 39 64 10,
   ⟨some 40, .buildSlice 33 1 #[(0, (.tmp 39))], 33, none⟩,
   ⟨some 41, .call ⟨.builtin .append, #[.tmp 38, .tmp 40], #[33, 33]⟩, 33, none⟩,
   fad 42 35 7 3,
   ⟨none, .store 33 (.tmp 42) (.tmp 41), 0, none⟩]
def r25_10 : List VOp :=
  [⟨some 43, .binOp .add 3 (.tmp 28) (.const (.int .i64 1)) 3, 3, none⟩,
   mv 28 43 3]
def r25_11 : List VOp :=
  [lda 44 35 7,
   ⟨none, .store 35 (.tmp 4) (.tmp 44), 0, none⟩,
   ⟨some 5, .assign (.const (.int .i64 0)), 28, none⟩]
def B25 : VC :=
  (.seq (.region r25_0) (.seq (.seq (.region r25_1) (.seq (.region r25_2) (.cond (.tmp 16) (.seq (.region r25_3) .ret) .skip))) (.seq (.draw r25_4 2) (.seq (.seq (.region r25_5) (.block 0 (.loop (.seq (.region r25_6) (.seq (.cond (.tmp 29) .skip (.exit 0)) (.seq (.block 1 (.seq (.region r25_7) (.seq (.region r25_8) (.region r25_9)))) (.region r25_10))))))) (.seq (.region r25_11) .ret)))))
theorem code25 : ∃ c, Try.f25.body = some c ∧ abs Try.f25.ntmps c = B25 := ⟨_, rfl, by kernel_rfl⟩
theorem hb25 : HasBody Try.prog 25 := hasBody_of Try.func25 (by kernel_rfl)
theorem res25 : Try.f25.results = #[(.cell 4 35), (.tmp 5)] := rfl
theorem enter25 {w : World} {R : Value → World → Prop} (x0 x1 : Value) (h : vc Try.prog B25 (retK Try.prog #[(.cell 4 35), (.tmp 5)] R) [] (initEnv [x0, x1] 0) w) : FnC Try.prog 25 #[x0, x1] w R := by
  obtain ⟨c, h1, h2⟩ := code25
  exact hb25.fn (ret_of_vc mixed Try.func25 h1 (Nat.le_of_ble_eq_true rfl) B25 h2 h)
@[push_cast] theorem vr25_0 : VR r25_0 [⟨some 2, .box 24 (.tmp 0), 0, none⟩, ⟨some 3, .box 49 (.tmp 1), 0, none⟩, ⟨some 4, .alloc 35, 0, none⟩, ⟨some 5, .assign (.const (.int .i64 0)), 28, none⟩] := vR rfl
@[push_cast] theorem vr25_1 : VR r25_1 [⟨some 12, .load 24 (.tmp 2), 24, none⟩, ⟨some 13, .load 49 (.tmp 3), 49, none⟩, ⟨some 14, .call ⟨.value (.func 55), #[.tmp 12, .tmp 13], #[24, 49]⟩, 28, none⟩, ⟨some 6, .assign (.tmp 14), 28, none⟩] := vR rfl
@[push_cast] theorem vr25_2 : VR r25_2 [⟨some 15, .move (.tmp 6), 28, none⟩, ⟨some 16, .binOp .neq 28 (.tmp 15) (.const (.int .i64 0)) 28, 4, none⟩] := vR rfl
@[push_cast] theorem vr25_3 : VR r25_3 [⟨some 17, .build 35 #[], 35, none⟩, ⟨some 18, .move (.tmp 6), 28, none⟩, ⟨none, .store 35 (.tmp 4) (.tmp 17), 0, none⟩, ⟨some 5, .assign (.tmp 18), 28, none⟩] := vR rfl
@[push_cast] theorem vr25_4 : vc Try.prog (.draw r25_4 2) Q ds σ w = drawn Try.prog [(⟨some 19, .fieldAddr 49 (.tmp 3) 0, 0, none⟩, [3]), (⟨some 20, .load 3 (.tmp 19), 3, none⟩, [19]), (⟨some 21, .fieldAddr 49 (.tmp 3) 1, 0, none⟩, [3]), (⟨some 22, .load 22 (.tmp 21), 22, none⟩, [21]), (⟨some 23, .call ⟨.value (.func 52), #[.tmp 22], #[22]⟩, 22, none⟩, [22]), (⟨some 24, .build 35 #[(0, (.tmp 20)), (1, (.tmp 23)), (2, (.const (.int .i64 1)))], 35, none⟩, [20, 23]), (⟨some 7, .alloc 35, 0, none⟩, []), (⟨none, .store 35 (.tmp 7) (.tmp 24), 0, none⟩, [7, 24])] 2 (Q .normal ds) σ w := mk_eq rfl
@[push_cast] theorem vr25_5 : VR r25_5 [⟨some 25, .fieldAddr 49 (.tmp 3) 2, 0, none⟩, ⟨some 26, .load 47 (.tmp 25), 47, none⟩, ⟨some 27, .call ⟨.builtin .len, #[.tmp 26], #[47]⟩, 3, none⟩, ⟨some 28, .move (.const (.int .i64 0)), 3, none⟩] := vR rfl
@[push_cast] theorem vr25_6 : VR r25_6 [⟨some 29, .binOp .lss 3 (.tmp 28) (.tmp 27) 3, 0, none⟩] := vR rfl
@[push_cast] theorem vr25_7 : VR r25_7 [⟨some 30, .indexAddr 47 (.tmp 26) (.tmp 28), 0, none⟩, ⟨some 31, .load 3 (.tmp 30), 3, none⟩, ⟨some 9, .assign (.tmp 31), 3, none⟩] := vR rfl
@[push_cast] theorem vr25_8 : VR r25_8 [⟨some 33, .move (.tmp 9), 3, none⟩, ⟨some 34, .call ⟨.value (.func 56), #[.tmp 33], #[3]⟩, 78, none⟩, ⟨some 32, .move (.tmp 34), 78, none⟩, ⟨some 35, .extract (.tmp 32) 0, 64, none⟩, ⟨some 36, .extract (.tmp 32) 1, 28, none⟩, ⟨some 10, .alloc 64, 0, none⟩, ⟨none, .store 64 (.tmp 10) (.tmp 35), 0, none⟩, ⟨some 11, .assign (.tmp 36), 28, none⟩] := vR rfl
@[push_cast] theorem vr25_9 : VR r25_9 [⟨some 37, .fieldAddr 35 (.tmp 7) 3, 0, none⟩, ⟨some 38, .load 33 (.tmp 37), 33, none⟩, ⟨some 39, .load 64 (.tmp 10), 64, none⟩, ⟨some 40, .buildSlice 33 1 #[(0, (.tmp 39))], 33, none⟩, ⟨some 41, .call ⟨.builtin .append, #[.tmp 38, .tmp 40], #[33, 33]⟩, 33, none⟩, ⟨some 42, .fieldAddr 35 (.tmp 7) 3, 0, none⟩, ⟨none, .store 33 (.tmp 42) (.tmp 41), 0, none⟩] := vR rfl
@[push_cast] theorem vr25_10 : VR r25_10 [⟨some 43, .binOp .add 3 (.tmp 28) (.const (.int .i64 1)) 3, 3, none⟩, ⟨some 28, .move (.tmp 43), 3, none⟩] := vR rfl
@[push_cast] theorem vr25_11 : VR r25_11 [⟨some 44, .load 35 (.tmp 7), 35, none⟩, ⟨none, .store 35 (.tmp 4) (.tmp 44), 0, none⟩, ⟨some 5, .assign (.const (.int .i64 0)), 28, none⟩] := vR rfl
/-! 26 columbary/columbaryref13.Of (params #[24, 49], results #[(.cell 4 35), (.tmp 5)], 48 slots) -/
def W26_0 : List Nat := [8, 9, 10, 25, 26, 27, 28, 29, 30, 31, 32, 33, 34, 35, 36, 37, 38, 39, 40, 41, 42, 43, 44, 45, 46]
@[push_cast] theorem W26_0_def : W26_0 = [8, 9, 10, 25, 26, 27, 28, 29, 30, 31, 32, 33, 34, 35, 36, 37, 38, 39, 40, 41, 42, 43, 44, 45, 46] := mk_eq rfl
def r26_0 : List VOp :=
  [⟨some 2, .box 24 (.tmp 0), 0, none⟩,
   ⟨some 3, .box 49 (.tmp 1), 0, none⟩,
   ⟨some 4, .alloc 35, 0, none⟩,
   ⟨some 5, .assign (.const (.int .i64 0)), 28, none⟩]
def r26_1 : List VOp :=
  [lda 11 24 2,
   lda 12 49 3,
   ⟨some 13, .call ⟨.value (.func 57), #[.tmp 11, .tmp 12], #[24, 49]⟩, 28, none⟩,
   asg 6 13 28]
def r26_2 : List VOp :=
  [mv 14 6 28,
   ⟨some 15, .binOp .neq 28 (.tmp 14) (.const (.int .i64 0)) 28, 4, none⟩]
def r26_3 : List VOp :=
  [⟨some 16, .build 35 #[], 35, none⟩,
   mv 17 6 28,
   ⟨none, .store 35 (.tmp 4) (.tmp 16), 0, none⟩,
   asg 5 17 28]
def r26_4 : List VOp :=
  [fad 18 49 3 0,
   lda 19 3 18,
   ⟨some 20, .buildSlice 22 0 #[], 22, none⟩,
   fad 21 49 3 1,
   lda 22 22 21,
   ⟨some 23, .call ⟨.builtin .append, #[.tmp 20, .tmp 22], #[22, 22]⟩, 22, none⟩,
   ⟨some 24, .build 35 #[(0, (.tmp 19)), (1, (.tmp 23)), (2, (.const (.int .i64 1)))], 35, none⟩,
   ⟨some 7, .alloc 35, 0, none⟩,
   ⟨none, .store 35 (.tmp 7) (.tmp 24), 0, none⟩]
def r26_5 : List VOp :=
  [⟨some 8, .assign (.const (.int .i64 0)), 3, none⟩]
def r26_6 : List VOp :=
  [mv 25 8 3,
   fad 26 49 3 2,
   lda 27 47 26,
   ⟨some 28, .call ⟨.builtin .len, #[.tmp 27], #[47]⟩, 3, none⟩,
   ⟨some 29, .binOp .lss 3 (.tmp 25) (.tmp 28) 3, 4, none⟩]
def r26_8 : List VOp :=
  [fad 33 49 3 2,
   lda 34 47 33,
   mv 35 8 3,
   iad 36 47 34 35,
   lda 37 3 36,
   ⟨some 38, .call ⟨.value (.func 58), #[.tmp 37], #[3]⟩, 78, none⟩,
   mv 32 38 78,
   ext 39 32 0 64,
   ext 40 32 1 28,
   ⟨some 9, .alloc 64, 0, none⟩,
   ⟨none, .store 64 (.tmp 9) (.tmp 39), 0, none⟩,
   asg 10 40 28]
def r26_9 : List VOp :=
  [fad 41 35 7 3,
   lda 42 33 41,
   lda 43 64 9,
   ⟨some 44, .buildSlice 33 1 #[(0, (.tmp 43))], 33, none⟩,
   ⟨some 45, .call ⟨.builtin .append, #[.tmp 42, .tmp 44], #[33, 33]⟩, 33, none⟩,
   fad 46 35 7 3,
   ⟨none, .store 33 (.tmp 46) (.tmp 45), 0, none⟩]
def r26_7 : List VOp :=
  [mv 30 8 3,
   ⟨some 31, .binOp .add 3 (.tmp 30) (.const (.int .i64 1)) 3, 3, none⟩,
   asg 8 31 3]
def r26_10 : List VOp :=
  [lda 47 35 7,
   ⟨none, .store 35 (.tmp 4) (.tmp 47), 0, none⟩,
   ⟨some 5, .assign (.const (.int .i64 0)), 28, none⟩]
def B26 : VC :=
  (.seq (.region r26_0) (.seq (.region r26_1) (.seq (.seq (.region r26_2) (.cond (.tmp 15) (.seq (.region r26_3) .ret) .skip)) (.seq (.draw r26_4 2) (.seq (.seq (.region r26_5) (.block 0 (.loop (.seq (.seq (.region r26_6) (.cond (.tmp 29) .skip (.exit 0))) (.seq (.block 1 (.seq (.region r26_8) (.region r26_9))) (.region r26_7)))))) (.seq (.region r26_10) .ret))))))
theorem code26 : ∃ c, Try.f26.body = some c ∧ abs Try.f26.ntmps c = B26 := ⟨_, rfl, by kernel_rfl⟩
theorem hb26 : HasBody Try.prog 26 := hasBody_of Try.func26 (by kernel_rfl)
theorem res26 : Try.f26.results = #[(.cell 4 35), (.tmp 5)] := rfl
theorem enter26 {w : World} {R : Value → World → Prop} (x0 x1 : Value) (h : vc Try.prog B26 (retK Try.prog #[(.cell 4 35), (.tmp 5)] R) [] (initEnv [x0, x1] 0) w) : FnC Try.prog 26 #[x0, x1] w R := by
  obtain ⟨c, h1, h2⟩ := code26
  exact hb26.fn (ret_of_vc mixed Try.func26 h1 (Nat.le_of_ble_eq_true rfl) B26 h2 h)
@[push_cast] theorem vr26_0 : VR r26_0 [⟨some 2, .box 24 (.tmp 0), 0, none⟩, ⟨some 3, .box 49 (.tmp 1), 0, none⟩, ⟨some 4, .alloc 35, 0, none⟩, ⟨some 5, .assign (.const (.int .i64 0)), 28, none⟩] := vR rfl
@[push_cast] theorem vr26_1 : VR r26_1 [⟨some 11, .load 24 (.tmp 2), 24, none⟩, ⟨some 12, .load 49 (.tmp 3), 49, none⟩, ⟨some 13, .call ⟨.value (.func 57), #[.tmp 11, .tmp 12], #[24, 49]⟩, 28, none⟩, ⟨some 6, .assign (.tmp 13), 28, none⟩] := vR rfl
@[push_cast] theorem vr26_2 : VR r26_2 [⟨some 14, .move (.tmp 6), 28, none⟩, ⟨some 15, .binOp .neq 28 (.tmp 14) (.const (.int .i64 0)) 28, 4, none⟩] := vR rfl
@[push_cast] theorem vr26_3 : VR r26_3 [⟨some 16, .build 35 #[], 35, none⟩, ⟨some 17, .move (.tmp 6), 28, none⟩, ⟨none, .store 35 (.tmp 4) (.tmp 16), 0, none⟩, ⟨some 5, .assign (.tmp 17), 28, none⟩] := vR rfl
@[push_cast] theorem vr26_4 : vc Try.prog (.draw r26_4 2) Q ds σ w = drawn Try.prog [(⟨some 18, .fieldAddr 49 (.tmp 3) 0, 0, none⟩, [3]), (⟨some 19, .load 3 (.tmp 18), 3, none⟩, [18]), (⟨some 20, .buildSlice 22 0 #[], 22, none⟩, []), (⟨some 21, .fieldAddr 49 (.tmp 3) 1, 0, none⟩, [3]), (⟨some 22, .load 22 (.tmp 21), 22, none⟩, [21]), (⟨some 23, .call ⟨.builtin .append, #[.tmp 20, .tmp 22], #[22, 22]⟩, 22, none⟩, [20, 22]), (⟨some 24, .build 35 #[(0, (.tmp 19)), (1, (.tmp 23)), (2, (.const (.int .i64 1)))], 35, none⟩, [19, 23]), (⟨some 7, .alloc 35, 0, none⟩, []), (⟨none, .store 35 (.tmp 7) (.tmp 24), 0, none⟩, [7, 24])] 2 (Q .normal ds) σ w := mk_eq rfl
@[push_cast] theorem vr26_5 : VR r26_5 [⟨some 8, .assign (.const (.int .i64 0)), 3, none⟩] := vR rfl
@[push_cast] theorem vr26_6 : VR r26_6 [⟨some 25, .move (.tmp 8), 3, none⟩, ⟨some 26, .fieldAddr 49 (.tmp 3) 2, 0, none⟩, ⟨some 27, .load 47 (.tmp 26), 47, none⟩, ⟨some 28, .call ⟨.builtin .len, #[.tmp 27], #[47]⟩, 3, none⟩, ⟨some 29, .binOp .lss 3 (.tmp 25) (.tmp 28) 3, 4, none⟩] := vR rfl
@[push_cast] theorem vr26_8 : VR r26_8 [⟨some 33, .fieldAddr 49 (.tmp 3) 2, 0, none⟩, ⟨some 34, .load 47 (.tmp 33), 47, none⟩, ⟨some 35, .move (.tmp 8), 3, none⟩, ⟨some 36, .indexAddr 47 (.tmp 34) (.tmp 35), 0, none⟩, ⟨some 37, .load 3 (.tmp 36), 3, none⟩, ⟨some 38, .call ⟨.value (.func 58), #[.tmp 37], #[3]⟩, 78, none⟩, ⟨some 32, .move (.tmp 38), 78, none⟩, ⟨some 39, .extract (.tmp 32) 0, 64, none⟩, ⟨some 40, .extract (.tmp 32) 1, 28, none⟩, ⟨some 9, .alloc 64, 0, none⟩, ⟨none, .store 64 (.tmp 9) (.tmp 39), 0, none⟩, ⟨some 10, .assign (.tmp 40), 28, none⟩] := vR rfl
@[push_cast] theorem vr26_9 : VR r26_9 [⟨some 41, .fieldAddr 35 (.tmp 7) 3, 0, none⟩, ⟨some 42, .load 33 (.tmp 41), 33, none⟩, ⟨some 43, .load 64 (.tmp 9), 64, none⟩, ⟨some 44, .buildSlice 33 1 #[(0, (.tmp 43))], 33, none⟩, ⟨some 45, .call ⟨.builtin .append, #[.tmp 42, .tmp 44], #[33, 33]⟩, 33, none⟩, ⟨some 46, .fieldAddr 35 (.tmp 7) 3, 0, none⟩, ⟨none, .store 33 (.tmp 46) (.tmp 45), 0, none⟩] := vR rfl
@[push_cast] theorem vr26_7 : VR r26_7 [⟨some 30, .move (.tmp 8), 3, none⟩, ⟨some 31, .binOp .add 3 (.tmp 30) (.const (.int .i64 1)) 3, 3, none⟩, ⟨some 8, .assign (.tmp 31), 3, none⟩] := vR rfl
@[push_cast] theorem vr26_10 : VR r26_10 [⟨some 47, .load 35 (.tmp 7), 35, none⟩, ⟨none, .store 35 (.tmp 4) (.tmp 47), 0, none⟩, ⟨some 5, .assign (.const (.int .i64 0)), 28, none⟩] := vR rfl
/-! 27 columbary/rows.Right (params #[24, 35], results #[(.tmp 4)], 57 slots) -/
def r27_0 : List VOp :=
  [⟨some 2, .box 24 (.tmp 0), 0, none⟩,
   ⟨some 3, .box 35 (.tmp 1), 0, none⟩,
   ⟨some 4, .assign (.const (.bool false)), 4, none⟩]
def r27_1 : List VOp :=
  [fad 7 35 3 1,
   lda 8 22 7,
   ⟨some 9, .call ⟨.builtin .len, #[.tmp 8], #[22]⟩, 3, none⟩,
   fad 10 24 2 0,
   lda 11 22 10,
   ⟨some 12, .call ⟨.builtin .len, #[.tmp 11], #[22]⟩, 3, none⟩,
   ⟨some 13, .binOp .eql 3 (.tmp 9) (.tmp 12) 3, 4, none⟩,
   mv 14 13 4,
   ⟨some 15, .fieldAddr 35 (.tmp 3) 3, 0, some (14, true)⟩,
   ⟨some 16, .load 33 (.tmp 15), 33, some (14, true)⟩,
   ⟨some 17, .call ⟨.builtin .len, #[.tmp 16], #[33]⟩, 3, some (14, true)⟩,
   ⟨some 18, .fieldAddr 24 (.tmp 2) 1, 0, some (14, true)⟩,
   ⟨some 19, .load 22 (.tmp 18), 22, some (14, true)⟩,
   ⟨some 20, .call ⟨.builtin .len, #[.tmp 19], #[22]⟩, 3, some (14, true)⟩,
   ⟨some 21, .binOp .eql 3 (.tmp 17) (.tmp 20) 3, 4, some (14, true)⟩,
   ⟨some 22, .pick (.tmp 14) (.tmp 21) (.const (.bool false)), 4, none⟩,
   asg 5 22 4]
def r27_2 : List VOp :=
  [fad 23 35 3 0,
   lda 24 3 23,
   ⟨some 25, .binOp .geq 3 (.tmp 24) (.const (.int .i64 0)) 3, 4, none⟩,
   mv 26 25 4,
   ⟨some 27, .fieldAddr 35 (.tmp 3) 0, 0, some (26, true)⟩,
   ⟨some 28, .load 3 (.tmp 27), 3, some (26, true)⟩,
   ⟨some 29, .binOp .leq 3 (.tmp 28) (.const (.int .i64 1099511627776)) 3, 4, some (26, true)⟩,
   ⟨some 30, .pick (.tmp 26) (.tmp 29) (.const (.bool false)), 4, none⟩,
   mv 31 30 4,
   ⟨some 32, .fieldAddr 35 (.tmp 3) 2, 0, some (31, true)⟩,
   ⟨some 33, .load 3 (.tmp 32), 3, some (31, true)⟩,
   ⟨some 34, .binOp .geq 3 (.tmp 33) (.const (.int .i64 1)) 3, 4, some (31, true)⟩,
   ⟨some 35, .pick (.tmp 31) (.tmp 34) (.const (.bool false)), 4, none⟩,
   mv 36 35 4,
   ⟨some 37, .fieldAddr 35 (.tmp 3) 2, 0, some (36, true)⟩,
   ⟨some 38, .load 3 (.tmp 37), 3, some (36, true)⟩,
   ⟨some 39, .binOp .leq 3 (.tmp 38) (.const (.int .i64 1048576)) 3, 4, some (36, true)⟩,
   ⟨some 40, .pick (.tmp 36) (.tmp 39) (.const (.bool false)), 4, none⟩,
   asg 6 40 4]
def r27_3 : List VOp :=
  [mv 41 5 4,
   mv 42 41 4,
   ⟨some 43, .move (.tmp 6), 4, some (42, true)⟩,
   ⟨some 44, .pick (.tmp 42) (.tmp 43) (.const (.bool false)), 4, none⟩,
   mv 45 44 4,
   ⟨some 46, .fieldAddr 35 (.tmp 3) 1, 0, some (45, true)⟩,
   ⟨some 47, .load 22 (.tmp 46), 22, some (45, true)⟩,
   ⟨some 48, .call ⟨.value (.func 59), #[(.tmp 47), (.func 60)], #[22, 81]⟩, 4, some (45, true)⟩,
   ⟨some 49, .unOp .not 4 (.tmp 48), 4, some (45, true)⟩,
   ⟨some 50, .pick (.tmp 45) (.tmp 49) (.const (.bool false)), 4, none⟩,
   mv 51 50 4,
   ⟨some 52, .fieldAddr 35 (.tmp 3) 3, 0, some (51, true)⟩,
   ⟨some 53, .load 33 (.tmp 52), 33, some (51, true)⟩,
   ⟨some 54, .call ⟨.value (.func 62), #[(.tmp 53), (.func 63)], #[33, 83]⟩, 4, some (51, true)⟩,
   ⟨some 55, .unOp .not 4 (.tmp 54), 4, some (51, true)⟩,
   ⟨some 56, .pick (.tmp 51) (.tmp 55) (.const (.bool false)), 4, none⟩,
   asg 4 56 4]
def B27 : VC :=
  (.seq (.region r27_0) (.seq (.region r27_1) (.seq (.region r27_2) (.seq (.region r27_3) .ret))))
theorem code27 : ∃ c, Try.f27.body = some c ∧ abs Try.f27.ntmps c = B27 := ⟨_, rfl, by kernel_rfl⟩
theorem hb27 : HasBody Try.prog 27 := hasBody_of Try.func27 (by kernel_rfl)
theorem res27 : Try.f27.results = #[(.tmp 4)] := rfl
theorem enter27 {w : World} {R : Value → World → Prop} (x0 x1 : Value) (h : vc Try.prog B27 (retK Try.prog #[(.tmp 4)] R) [] (initEnv [x0, x1] 0) w) : FnC Try.prog 27 #[x0, x1] w R := by
  obtain ⟨c, h1, h2⟩ := code27
  exact hb27.fn (ret_of_vc mixed Try.func27 h1 (Nat.le_of_ble_eq_true rfl) B27 h2 h)
@[push_cast] theorem vr27_0 : VR r27_0 [⟨some 2, .box 24 (.tmp 0), 0, none⟩, ⟨some 3, .box 35 (.tmp 1), 0, none⟩, ⟨some 4, .assign (.const (.bool false)), 4, none⟩] := vR rfl
@[push_cast] theorem vr27_1 : VR r27_1 [⟨some 7, .fieldAddr 35 (.tmp 3) 1, 0, none⟩, ⟨some 8, .load 22 (.tmp 7), 22, none⟩, ⟨some 9, .call ⟨.builtin .len, #[.tmp 8], #[22]⟩, 3, none⟩, ⟨some 10, .fieldAddr 24 (.tmp 2) 0, 0, none⟩, ⟨some 11, .load 22 (.tmp 10), 22, none⟩, ⟨some 12, .call ⟨.builtin .len, #[.tmp 11], #[22]⟩, 3, none⟩, ⟨some 13, .binOp .eql 3 (.tmp 9) (.tmp 12) 3, 4, none⟩, ⟨some 14, .move (.tmp 13), 4, none⟩, ⟨some 15, .fieldAddr 35 (.tmp 3) 3, 0, some (14, true)⟩, ⟨some 16, .load 33 (.tmp 15), 33, some (14, true)⟩, ⟨some 17, .call ⟨.builtin .len, #[.tmp 16], #[33]⟩, 3, some (14, true)⟩, ⟨some 18, .fieldAddr 24 (.tmp 2) 1, 0, some (14, true)⟩, ⟨some 19, .load 22 (.tmp 18), 22, some (14, true)⟩, ⟨some 20, .call ⟨.builtin .len, #[.tmp 19], #[22]⟩, 3, some (14, true)⟩, ⟨some 21, .binOp .eql 3 (.tmp 17) (.tmp 20) 3, 4, some (14, true)⟩, ⟨some 22, .pick (.tmp 14) (.tmp 21) (.const (.bool false)), 4, none⟩, ⟨some 5, .assign (.tmp 22), 4, none⟩] := vR rfl
@[push_cast] theorem vr27_2 : VR r27_2 [⟨some 23, .fieldAddr 35 (.tmp 3) 0, 0, none⟩, ⟨some 24, .load 3 (.tmp 23), 3, none⟩, ⟨some 25, .binOp .geq 3 (.tmp 24) (.const (.int .i64 0)) 3, 4, none⟩, ⟨some 26, .move (.tmp 25), 4, none⟩, ⟨some 27, .fieldAddr 35 (.tmp 3) 0, 0, some (26, true)⟩, ⟨some 28, .load 3 (.tmp 27), 3, some (26, true)⟩, ⟨some 29, .binOp .leq 3 (.tmp 28) (.const (.int .i64 1099511627776)) 3, 4, some (26, true)⟩, ⟨some 30, .pick (.tmp 26) (.tmp 29) (.const (.bool false)), 4, none⟩, ⟨some 31, .move (.tmp 30), 4, none⟩, ⟨some 32, .fieldAddr 35 (.tmp 3) 2, 0, some (31, true)⟩, ⟨some 33, .load 3 (.tmp 32), 3, some (31, true)⟩, ⟨some 34, .binOp .geq 3 (.tmp 33) (.const (.int .i64 1)) 3, 4, some (31, true)⟩, ⟨some 35, .pick (.tmp 31) (.tmp 34) (.const (.bool false)), 4, none⟩, ⟨some 36, .move (.tmp 35), 4, none⟩, ⟨some 37, .fieldAddr 35 (.tmp 3) 2, 0, some (36, true)⟩, ⟨some 38, .load 3 (.tmp 37), 3, some (36, true)⟩, ⟨some 39, .binOp .leq 3 (.tmp 38) (.const (.int .i64 1048576)) 3, 4, some (36, true)⟩, ⟨some 40, .pick (.tmp 36) (.tmp 39) (.const (.bool false)), 4, none⟩, ⟨some 6, .assign (.tmp 40), 4, none⟩] := vR rfl
@[push_cast] theorem vr27_3 : VR r27_3 [⟨some 41, .move (.tmp 5), 4, none⟩, ⟨some 42, .move (.tmp 41), 4, none⟩, ⟨some 43, .move (.tmp 6), 4, some (42, true)⟩, ⟨some 44, .pick (.tmp 42) (.tmp 43) (.const (.bool false)), 4, none⟩, ⟨some 45, .move (.tmp 44), 4, none⟩, ⟨some 46, .fieldAddr 35 (.tmp 3) 1, 0, some (45, true)⟩, ⟨some 47, .load 22 (.tmp 46), 22, some (45, true)⟩, ⟨some 48, .call ⟨.value (.func 59), #[(.tmp 47), (.func 60)], #[22, 81]⟩, 4, some (45, true)⟩, ⟨some 49, .unOp .not 4 (.tmp 48), 4, some (45, true)⟩, ⟨some 50, .pick (.tmp 45) (.tmp 49) (.const (.bool false)), 4, none⟩, ⟨some 51, .move (.tmp 50), 4, none⟩, ⟨some 52, .fieldAddr 35 (.tmp 3) 3, 0, some (51, true)⟩, ⟨some 53, .load 33 (.tmp 52), 33, some (51, true)⟩, ⟨some 54, .call ⟨.value (.func 62), #[(.tmp 53), (.func 63)], #[33, 83]⟩, 4, some (51, true)⟩, ⟨some 55, .unOp .not 4 (.tmp 54), 4, some (51, true)⟩, ⟨some 56, .pick (.tmp 51) (.tmp 55) (.const (.bool false)), 4, none⟩, ⟨some 4, .assign (.tmp 56), 4, none⟩] := vR rfl
/-! 28 columbary/columbaryref13.Right (params #[24, 35], results #[(.tmp 4)], 73 slots) -/
def W28_0 : List Nat := [4, 5, 6, 25, 26, 27, 28, 29, 30, 31, 32, 33, 34, 35, 36, 37, 38, 39]
@[push_cast] theorem W28_0_def : W28_0 = [4, 5, 6, 25, 26, 27, 28, 29, 30, 31, 32, 33, 34, 35, 36, 37, 38, 39] := mk_eq rfl
def W28_1 : List Nat := [4, 7, 8, 40, 41, 42, 43, 44, 45, 46, 47, 48, 49, 50, 51, 52, 53, 54]
@[push_cast] theorem W28_1_def : W28_1 = [4, 7, 8, 40, 41, 42, 43, 44, 45, 46, 47, 48, 49, 50, 51, 52, 53, 54] := mk_eq rfl
def r28_0 : List VOp :=
  [⟨some 2, .box 24 (.tmp 0), 0, none⟩,
   ⟨some 3, .box 35 (.tmp 1), 0, none⟩,
   ⟨some 4, .assign (.const (.bool false)), 4, none⟩]
def r28_1 : List VOp :=
  [fad 9 35 3 1,
   lda 10 22 9,
   ⟨some 11, .call ⟨.builtin .len, #[.tmp 10], #[22]⟩, 3, none⟩,
   fad 12 24 2 0,
   lda 13 22 12,
   ⟨some 14, .call ⟨.builtin .len, #[.tmp 13], #[22]⟩, 3, none⟩,
   ⟨some 15, .binOp .neq 3 (.tmp 11) (.tmp 14) 3, 4, none⟩,
   mv 16 15 4,
   ⟨some 17, .fieldAddr 35 (.tmp 3) 3, 0, some (16, false)⟩,
   ⟨some 18, .load 33 (.tmp 17), 33, some (16, false)⟩,
   ⟨some 19, .call ⟨.builtin .len, #[.tmp 18], #[33]⟩, 3, some (16, false)⟩,
   ⟨some 20, .fieldAddr 24 (.tmp 2) 1, 0, some (16, false)⟩,
   ⟨some 21, .load 22 (.tmp 20), 22, some (16, false)⟩,
   ⟨some 22, .call ⟨.builtin .len, #[.tmp 21], #[22]⟩, 3, some (16, false)⟩,
   ⟨some 23, .binOp .neq 3 (.tmp 19) (.tmp 22) 3, 4, some (16, false)⟩,
   ⟨some 24, .pick (.tmp 16) (.const (.bool true)) (.tmp 23), 4, none⟩]
def r28_2 : List VOp :=
  [⟨some 4, .assign (.const (.bool false)), 4, none⟩]
def r28_3 : List VOp :=
  [⟨some 5, .assign (.const (.int .i64 0)), 3, none⟩]
def r28_4 : List VOp :=
  [mv 25 5 3,
   fad 26 35 3 1,
   lda 27 22 26,
   ⟨some 28, .call ⟨.builtin .len, #[.tmp 27], #[22]⟩, 3, none⟩,
   ⟨some 29, .binOp .lss 3 (.tmp 25) (.tmp 28) 3, 4, none⟩]
def r28_6 : List VOp :=
  [fad 32 35 3 1,
   lda 33 22 32,
   mv 34 5 3,
   iad 35 22 33 34,
   lda 36 9 35,
   ⟨some 37, .call ⟨.value (.func 65), #[.tmp 36], #[9]⟩, 4, none⟩,
   asg 6 37 4]
def r28_7 : List VOp :=
  [mv 38 6 4,
   ⟨some 39, .unOp .not 4 (.tmp 38), 4, none⟩]
def r28_8 : List VOp :=
  [⟨some 4, .assign (.const (.bool false)), 4, none⟩]
def r28_5 : List VOp :=
  [mv 30 5 3,
   ⟨some 31, .binOp .add 3 (.tmp 30) (.const (.int .i64 1)) 3, 3, none⟩,
   asg 5 31 3]
def r28_9 : List VOp :=
  [⟨some 7, .assign (.const (.int .i64 0)), 3, none⟩]
def r28_10 : List VOp :=
  [mv 40 7 3,
   fad 41 35 3 3,
   lda 42 33 41,
   ⟨some 43, .call ⟨.builtin .len, #[.tmp 42], #[33]⟩, 3, none⟩,
   ⟨some 44, .binOp .lss 3 (.tmp 40) (.tmp 43) 3, 4, none⟩]
def r28_12 : List VOp :=
  [fad 47 35 3 3,
   lda 48 33 47,
   mv 49 7 3,
   iad 50 33 48 49,
   lda 51 64 50,
   ⟨some 52, .call ⟨.value (.func 66), #[.tmp 51], #[64]⟩, 4, none⟩,
   asg 8 52 4]
def r28_13 : List VOp :=
  [mv 53 8 4,
   ⟨some 54, .unOp .not 4 (.tmp 53), 4, none⟩]
def r28_14 : List VOp :=
  [⟨some 4, .assign (.const (.bool false)), 4, none⟩]
def r28_11 : List VOp :=
  [mv 45 7 3,
   ⟨some 46, .binOp .add 3 (.tmp 45) (.const (.int .i64 1)) 3, 3, none⟩,
   asg 7 46 3]
def r28_15 : List VOp :=
  [fad 55 35 3 0,
   lda 56 3 55,
   ⟨some 57, .binOp .geq 3 (.tmp 56) (.const (.int .i64 0)) 3, 4, none⟩,
   mv 58 57 4,
   ⟨some 59, .fieldAddr 35 (.tmp 3) 0, 0, some (58, true)⟩,
   ⟨some 60, .load 3 (.tmp 59), 3, some (58, true)⟩,
   ⟨some 61, .binOp .leq 3 (.tmp 60) (.const (.int .i64 1099511627776)) 3, 4, some (58, true)⟩,
   ⟨some 62, .pick (.tmp 58) (.tmp 61) (.const (.bool false)), 4, none⟩,
   mv 63 62 4,
   ⟨some 64, .fieldAddr 35 (.tmp 3) 2, 0, some (63, true)⟩,
   ⟨some 65, .load 3 (.tmp 64), 3, some (63, true)⟩,
   ⟨some 66, .binOp .geq 3 (.tmp 65) (.const (.int .i64 1)) 3, 4, some (63, true)⟩,
   ⟨some 67, .pick (.tmp 63) (.tmp 66) (.const (.bool false)), 4, none⟩,
   mv 68 67 4,
   ⟨some 69, .fieldAddr 35 (.tmp 3) 2, 0, some (68, true)⟩,
   ⟨some 70, .load 3 (.tmp 69), 3, some (68, true)⟩,
   ⟨some 71, .binOp .leq 3 (.tmp 70) (.const (.int .i64 1048576)) 3, 4, some (68, true)⟩,
   ⟨some 72, .pick (.tmp 68) (.tmp 71) (.const (.bool false)), 4, none⟩,
   asg 4 72 4]
def B28 : VC :=
  (.seq (.region r28_0) (.seq (.seq (.region r28_1) (.cond (.tmp 24) (.seq (.region r28_2) .ret) .skip)) (.seq (.seq (.region r28_3) (.block 0 (.loop (.seq (.seq (.region r28_4) (.cond (.tmp 29) .skip (.exit 0))) (.seq (.block 1 (.seq (.region r28_6) (.seq (.region r28_7) (.cond (.tmp 39) (.seq (.region r28_8) .ret) .skip)))) (.region r28_5)))))) (.seq (.seq (.region r28_9) (.block 2 (.loop (.seq (.seq (.region r28_10) (.cond (.tmp 44) .skip (.exit 2))) (.seq (.block 3 (.seq (.region r28_12) (.seq (.region r28_13) (.cond (.tmp 54) (.seq (.region r28_14) .ret) .skip)))) (.region r28_11)))))) (.seq (.region r28_15) .ret)))))
theorem code28 : ∃ c, Try.f28.body = some c ∧ abs Try.f28.ntmps c = B28 := ⟨_, rfl, by kernel_rfl⟩
theorem hb28 : HasBody Try.prog 28 := hasBody_of Try.func28 (by kernel_rfl)
theorem res28 : Try.f28.results = #[(.tmp 4)] := rfl
theorem enter28 {w : World} {R : Value → World → Prop} (x0 x1 : Value) (h : vc Try.prog B28 (retK Try.prog #[(.tmp 4)] R) [] (initEnv [x0, x1] 0) w) : FnC Try.prog 28 #[x0, x1] w R := by
  obtain ⟨c, h1, h2⟩ := code28
  exact hb28.fn (ret_of_vc mixed Try.func28 h1 (Nat.le_of_ble_eq_true rfl) B28 h2 h)
@[push_cast] theorem vr28_0 : VR r28_0 [⟨some 2, .box 24 (.tmp 0), 0, none⟩, ⟨some 3, .box 35 (.tmp 1), 0, none⟩, ⟨some 4, .assign (.const (.bool false)), 4, none⟩] := vR rfl
@[push_cast] theorem vr28_1 : VR r28_1 [⟨some 9, .fieldAddr 35 (.tmp 3) 1, 0, none⟩, ⟨some 10, .load 22 (.tmp 9), 22, none⟩, ⟨some 11, .call ⟨.builtin .len, #[.tmp 10], #[22]⟩, 3, none⟩, ⟨some 12, .fieldAddr 24 (.tmp 2) 0, 0, none⟩, ⟨some 13, .load 22 (.tmp 12), 22, none⟩, ⟨some 14, .call ⟨.builtin .len, #[.tmp 13], #[22]⟩, 3, none⟩, ⟨some 15, .binOp .neq 3 (.tmp 11) (.tmp 14) 3, 4, none⟩, ⟨some 16, .move (.tmp 15), 4, none⟩, ⟨some 17, .fieldAddr 35 (.tmp 3) 3, 0, some (16, false)⟩, ⟨some 18, .load 33 (.tmp 17), 33, some (16, false)⟩, ⟨some 19, .call ⟨.builtin .len, #[.tmp 18], #[33]⟩, 3, some (16, false)⟩, ⟨some 20, .fieldAddr 24 (.tmp 2) 1, 0, some (16, false)⟩, ⟨some 21, .load 22 (.tmp 20), 22, some (16, false)⟩, ⟨some 22, .call ⟨.builtin .len, #[.tmp 21], #[22]⟩, 3, some (16, false)⟩, ⟨some 23, .binOp .neq 3 (.tmp 19) (.tmp 22) 3, 4, some (16, false)⟩, ⟨some 24, .pick (.tmp 16) (.const (.bool true)) (.tmp 23), 4, none⟩] := vR rfl
@[push_cast] theorem vr28_2 : VR r28_2 [⟨some 4, .assign (.const (.bool false)), 4, none⟩] := vR rfl
@[push_cast] theorem vr28_3 : VR r28_3 [⟨some 5, .assign (.const (.int .i64 0)), 3, none⟩] := vR rfl
@[push_cast] theorem vr28_4 : VR r28_4 [⟨some 25, .move (.tmp 5), 3, none⟩, ⟨some 26, .fieldAddr 35 (.tmp 3) 1, 0, none⟩, ⟨some 27, .load 22 (.tmp 26), 22, none⟩, ⟨some 28, .call ⟨.builtin .len, #[.tmp 27], #[22]⟩, 3, none⟩, ⟨some 29, .binOp .lss 3 (.tmp 25) (.tmp 28) 3, 4, none⟩] := vR rfl
@[push_cast] theorem vr28_6 : VR r28_6 [⟨some 32, .fieldAddr 35 (.tmp 3) 1, 0, none⟩, ⟨some 33, .load 22 (.tmp 32), 22, none⟩, ⟨some 34, .move (.tmp 5), 3, none⟩, ⟨some 35, .indexAddr 22 (.tmp 33) (.tmp 34), 0, none⟩, ⟨some 36, .load 9 (.tmp 35), 9, none⟩, ⟨some 37, .call ⟨.value (.func 65), #[.tmp 36], #[9]⟩, 4, none⟩, ⟨some 6, .assign (.tmp 37), 4, none⟩] := vR rfl
@[push_cast] theorem vr28_7 : VR r28_7 [⟨some 38, .move (.tmp 6), 4, none⟩, ⟨some 39, .unOp .not 4 (.tmp 38), 4, none⟩] := vR rfl
@[push_cast] theorem vr28_8 : VR r28_8 [⟨some 4, .assign (.const (.bool false)), 4, none⟩] := vR rfl
@[push_cast] theorem vr28_5 : VR r28_5 [⟨some 30, .move (.tmp 5), 3, none⟩, ⟨some 31, .binOp .add 3 (.tmp 30) (.const (.int .i64 1)) 3, 3, none⟩, ⟨some 5, .assign (.tmp 31), 3, none⟩] := vR rfl
@[push_cast] theorem vr28_9 : VR r28_9 [⟨some 7, .assign (.const (.int .i64 0)), 3, none⟩] := vR rfl
@[push_cast] theorem vr28_10 : VR r28_10 [⟨some 40, .move (.tmp 7), 3, none⟩, ⟨some 41, .fieldAddr 35 (.tmp 3) 3, 0, none⟩, ⟨some 42, .load 33 (.tmp 41), 33, none⟩, ⟨some 43, .call ⟨.builtin .len, #[.tmp 42], #[33]⟩, 3, none⟩, ⟨some 44, .binOp .lss 3 (.tmp 40) (.tmp 43) 3, 4, none⟩] := vR rfl
@[push_cast] theorem vr28_12 : VR r28_12 [⟨some 47, .fieldAddr 35 (.tmp 3) 3, 0, none⟩, ⟨some 48, .load 33 (.tmp 47), 33, none⟩, ⟨some 49, .move (.tmp 7), 3, none⟩, ⟨some 50, .indexAddr 33 (.tmp 48) (.tmp 49), 0, none⟩, ⟨some 51, .load 64 (.tmp 50), 64, none⟩, ⟨some 52, .call ⟨.value (.func 66), #[.tmp 51], #[64]⟩, 4, none⟩, ⟨some 8, .assign (.tmp 52), 4, none⟩] := vR rfl
@[push_cast] theorem vr28_13 : VR r28_13 [⟨some 53, .move (.tmp 8), 4, none⟩, ⟨some 54, .unOp .not 4 (.tmp 53), 4, none⟩] := vR rfl
@[push_cast] theorem vr28_14 : VR r28_14 [⟨some 4, .assign (.const (.bool false)), 4, none⟩] := vR rfl
@[push_cast] theorem vr28_11 : VR r28_11 [⟨some 45, .move (.tmp 7), 3, none⟩, ⟨some 46, .binOp .add 3 (.tmp 45) (.const (.int .i64 1)) 3, 3, none⟩, ⟨some 7, .assign (.tmp 46), 3, none⟩] := vR rfl
@[push_cast] theorem vr28_15 : VR r28_15 [⟨some 55, .fieldAddr 35 (.tmp 3) 0, 0, none⟩, ⟨some 56, .load 3 (.tmp 55), 3, none⟩, ⟨some 57, .binOp .geq 3 (.tmp 56) (.const (.int .i64 0)) 3, 4, none⟩, ⟨some 58, .move (.tmp 57), 4, none⟩, ⟨some 59, .fieldAddr 35 (.tmp 3) 0, 0, some (58, true)⟩, ⟨some 60, .load 3 (.tmp 59), 3, some (58, true)⟩, ⟨some 61, .binOp .leq 3 (.tmp 60) (.const (.int .i64 1099511627776)) 3, 4, some (58, true)⟩, ⟨some 62, .pick (.tmp 58) (.tmp 61) (.const (.bool false)), 4, none⟩, ⟨some 63, .move (.tmp 62), 4, none⟩, ⟨some 64, .fieldAddr 35 (.tmp 3) 2, 0, some (63, true)⟩, ⟨some 65, .load 3 (.tmp 64), 3, some (63, true)⟩, ⟨some 66, .binOp .geq 3 (.tmp 65) (.const (.int .i64 1)) 3, 4, some (63, true)⟩, ⟨some 67, .pick (.tmp 63) (.tmp 66) (.const (.bool false)), 4, none⟩, ⟨some 68, .move (.tmp 67), 4, none⟩, ⟨some 69, .fieldAddr 35 (.tmp 3) 2, 0, some (68, true)⟩, ⟨some 70, .load 3 (.tmp 69), 3, some (68, true)⟩, ⟨some 71, .binOp .leq 3 (.tmp 70) (.const (.int .i64 1048576)) 3, 4, some (68, true)⟩, ⟨some 72, .pick (.tmp 68) (.tmp 71) (.const (.bool false)), 4, none⟩, ⟨some 4, .assign (.tmp 72), 4, none⟩] := vR rfl
/-! 29 columbary/columbaryref13.One (params #[35, 35], results #[(.tmp 4)], 26 slots) -/
def r29_0 : List VOp :=
  [⟨some 2, .box 35 (.tmp 0), 0, none⟩,
   ⟨some 3, .box 35 (.tmp 1), 0, none⟩,
   ⟨some 4, .assign (.const (.bool false)), 4, none⟩]
def r29_1 : List VOp :=
  [lda 7 35 2,
   lda 8 35 3,
   ⟨some 9, .call ⟨.value (.func 45), #[.tmp 7, .tmp 8], #[35, 35]⟩, 4, none⟩,
   asg 5 9 4]
def r29_2 : List VOp :=
  [fad 10 35 2 3,
   lda 11 33 10,
   fad 12 35 3 3,
   lda 13 33 12,
   ⟨some 14, .call ⟨.value (.func 67), #[.tmp 11, .tmp 13], #[33, 33]⟩, 4, none⟩,
   asg 6 14 4]
def r29_3 : List VOp :=
  [mv 15 5 4,
   mv 16 15 4,
   ⟨some 17, .move (.tmp 6), 4, some (16, true)⟩,
   ⟨some 18, .pick (.tmp 16) (.tmp 17) (.const (.bool false)), 4, none⟩,
   mv 19 18 4,
   ⟨some 20, .fieldAddr 35 (.tmp 2) 2, 0, some (19, true)⟩,
   ⟨some 21, .load 3 (.tmp 20), 3, some (19, true)⟩,
   ⟨some 22, .fieldAddr 35 (.tmp 3) 2, 0, some (19, true)⟩,
   ⟨some 23, .load 3 (.tmp 22), 3, some (19, true)⟩,
   ⟨some 24, .binOp .eql 3 (.tmp 21) (.tmp 23) 3, 4, some (19, true)⟩,
   ⟨some 25, .pick (.tmp 19) (.tmp 24) (.const (.bool false)), 4, none⟩,
   asg 4 25 4]
def B29 : VC :=
  (.seq (.region r29_0) (.seq (.region r29_1) (.seq (.region r29_2) (.seq (.region r29_3) .ret))))
theorem code29 : ∃ c, Try.f29.body = some c ∧ abs Try.f29.ntmps c = B29 := ⟨_, rfl, by kernel_rfl⟩
theorem hb29 : HasBody Try.prog 29 := hasBody_of Try.func29 (by kernel_rfl)
theorem res29 : Try.f29.results = #[(.tmp 4)] := rfl
theorem enter29 {w : World} {R : Value → World → Prop} (x0 x1 : Value) (h : vc Try.prog B29 (retK Try.prog #[(.tmp 4)] R) [] (initEnv [x0, x1] 0) w) : FnC Try.prog 29 #[x0, x1] w R := by
  obtain ⟨c, h1, h2⟩ := code29
  exact hb29.fn (ret_of_vc mixed Try.func29 h1 (Nat.le_of_ble_eq_true rfl) B29 h2 h)
@[push_cast] theorem vr29_0 : VR r29_0 [⟨some 2, .box 35 (.tmp 0), 0, none⟩, ⟨some 3, .box 35 (.tmp 1), 0, none⟩, ⟨some 4, .assign (.const (.bool false)), 4, none⟩] := vR rfl
@[push_cast] theorem vr29_1 : VR r29_1 [⟨some 7, .load 35 (.tmp 2), 35, none⟩, ⟨some 8, .load 35 (.tmp 3), 35, none⟩, ⟨some 9, .call ⟨.value (.func 45), #[.tmp 7, .tmp 8], #[35, 35]⟩, 4, none⟩, ⟨some 5, .assign (.tmp 9), 4, none⟩] := vR rfl
@[push_cast] theorem vr29_2 : VR r29_2 [⟨some 10, .fieldAddr 35 (.tmp 2) 3, 0, none⟩, ⟨some 11, .load 33 (.tmp 10), 33, none⟩, ⟨some 12, .fieldAddr 35 (.tmp 3) 3, 0, none⟩, ⟨some 13, .load 33 (.tmp 12), 33, none⟩, ⟨some 14, .call ⟨.value (.func 67), #[.tmp 11, .tmp 13], #[33, 33]⟩, 4, none⟩, ⟨some 6, .assign (.tmp 14), 4, none⟩] := vR rfl
@[push_cast] theorem vr29_3 : VR r29_3 [⟨some 15, .move (.tmp 5), 4, none⟩, ⟨some 16, .move (.tmp 15), 4, none⟩, ⟨some 17, .move (.tmp 6), 4, some (16, true)⟩, ⟨some 18, .pick (.tmp 16) (.tmp 17) (.const (.bool false)), 4, none⟩, ⟨some 19, .move (.tmp 18), 4, none⟩, ⟨some 20, .fieldAddr 35 (.tmp 2) 2, 0, some (19, true)⟩, ⟨some 21, .load 3 (.tmp 20), 3, some (19, true)⟩, ⟨some 22, .fieldAddr 35 (.tmp 3) 2, 0, some (19, true)⟩, ⟨some 23, .load 3 (.tmp 22), 3, some (19, true)⟩, ⟨some 24, .binOp .eql 3 (.tmp 21) (.tmp 23) 3, 4, some (19, true)⟩, ⟨some 25, .pick (.tmp 19) (.tmp 24) (.const (.bool false)), 4, none⟩, ⟨some 4, .assign (.tmp 25), 4, none⟩] := vR rfl
/-! 30 columbary/rows.Copy (params #[25], results #[(.tmp 2)], 14 slots) -/
def r30_0 : List VOp :=
  [⟨some 2, .assign (.const (.slice none 0 0)), 25, none⟩]
def r30_1 : List VOp :=
  [⟨some 3, .alloc 25, 0, none⟩]
def r30_2 : List VOp :=
  [mv 5 0 25,
   ⟨some 6, .call ⟨.value (.func 68), #[.tmp 5], #[25]⟩, 86, none⟩]
def r30_3 : List VOp :=
  [⟨some 4, .alloc 35, 0, none⟩,
   ⟨none, .store 35 (.tmp 4) (.tmp 7), 0, none⟩]
def r30_4 : List VOp :=
  [lda 8 25 3,
   lda 9 35 4,
   ⟨some 10, .call ⟨.value (.func 69), #[.tmp 9], #[35]⟩, 35, none⟩,
   ⟨some 11, .buildSlice 25 1 #[(0, (.tmp 10))], 25, none⟩,
   ⟨some 12, .call ⟨.builtin .append, #[.tmp 8, .tmp 11], #[25, 25]⟩, 25, none⟩,
   ⟨none, .store 25 (.tmp 3) (.tmp 12), 0, none⟩]
def r30_5 : List VOp :=
  [lda 13 25 3,
   asg 2 13 25]
def B30 : VC :=
  (.seq (.region r30_0) (.seq (.region r30_1) (.seq (.seq (.region r30_2) (.block 0 (.rangeFunc (.tmp 6) [7] (.region r30_3) (.block 1 (.drawR r30_4 3))))) (.seq (.region r30_5) .ret))))
theorem code30 : ∃ c, Try.f30.body = some c ∧ abs Try.f30.ntmps c = B30 := ⟨_, rfl, by kernel_rfl⟩
theorem hb30 : HasBody Try.prog 30 := hasBody_of Try.func30 (by kernel_rfl)
theorem res30 : Try.f30.results = #[(.tmp 2)] := rfl
theorem enter30 {w : World} {R : Value → World → Prop} (x0 : Value) (h : vc Try.prog B30 (retK Try.prog #[(.tmp 2)] R) [] (initEnv [x0] 0) w) : FnC Try.prog 30 #[x0] w R := by
  obtain ⟨c, h1, h2⟩ := code30
  exact hb30.fn (ret_of_vc mixed Try.func30 h1 (Nat.le_of_ble_eq_true rfl) B30 h2 h)
@[push_cast] theorem vr30_0 : VR r30_0 [⟨some 2, .assign (.const (.slice none 0 0)), 25, none⟩] := vR rfl
@[push_cast] theorem vr30_1 : VR r30_1 [⟨some 3, .alloc 25, 0, none⟩] := vR rfl
@[push_cast] theorem vr30_2 : VR r30_2 [⟨some 5, .move (.tmp 0), 25, none⟩, ⟨some 6, .call ⟨.value (.func 68), #[.tmp 5], #[25]⟩, 86, none⟩] := vR rfl
@[push_cast] theorem vr30_3 : VR r30_3 [⟨some 4, .alloc 35, 0, none⟩, ⟨none, .store 35 (.tmp 4) (.tmp 7), 0, none⟩] := vR rfl
@[push_cast] theorem vr30_4 : vc Try.prog (.drawR r30_4 3) Q ds σ w = drawnR Try.prog [(⟨some 8, .load 25 (.tmp 3), 25, none⟩, [3]), (⟨some 9, .load 35 (.tmp 4), 35, none⟩, [4]), (⟨some 10, .call ⟨.value (.func 69), #[.tmp 9], #[35]⟩, 35, none⟩, [9]), (⟨some 11, .buildSlice 25 1 #[(0, (.tmp 10))], 25, none⟩, [10]), (⟨some 12, .call ⟨.builtin .append, #[.tmp 8, .tmp 11], #[25, 25]⟩, 25, none⟩, [8, 11]), (⟨none, .store 25 (.tmp 3) (.tmp 12), 0, none⟩, [3, 12])] 3 (Q .normal ds) σ w := mk_eq rfl
@[push_cast] theorem vr30_5 : VR r30_5 [⟨some 13, .load 25 (.tmp 3), 25, none⟩, ⟨some 2, .assign (.tmp 13), 25, none⟩] := vR rfl
/-! 31 columbary/rows.Fold (params #[25], results #[(.tmp 2), (.tmp 3)], 58 slots) -/
def W31_0 : List Nat := [2, 3, 4, 6, 7, 8, 9, 16, 17, 18, 19, 20, 21, 22, 23, 24, 25, 26, 27, 28, 29, 30, 31, 32, 33, 34, 35, 36, 37, 38, 39, 40, 41, 42, 43, 44, 45, 46, 47, 48, 49, 50, 51, 52, 53, 54, 55, 56]
@[push_cast] theorem W31_0_def : W31_0 = [2, 3, 4, 6, 7, 8, 9, 16, 17, 18, 19, 20, 21, 22, 23, 24, 25, 26, 27, 28, 29, 30, 31, 32, 33, 34, 35, 36, 37, 38, 39, 40, 41, 42, 43, 44, 45, 46, 47, 48, 49, 50, 51, 52, 53, 54, 55, 56] := mk_eq rfl
def r31_0 : List VOp :=
  [⟨some 2, .assign (.const (.slice none 0 0)), 25, none⟩,
   ⟨some 3, .assign (.const (.int .i64 0)), 28, none⟩]
def r31_1 : List VOp :=
  [mv 10 0 25,
   ⟨some 11, .call ⟨.value (.func 30), #[.tmp 10], #[25]⟩, 25, none⟩,
   asg 0 11 25]
def r31_2 : List VOp :=
  [mv 12 0 25,
   ⟨some 13, .call ⟨.value (.func 70), #[(.tmp 12), (.func 34)], #[25, 58]⟩, 0, none⟩]
def r31_3 : List VOp :=
  [⟨some 4, .assign (.const (.slice none 0 0)), 25, none⟩]
def r31_4 : List VOp :=
  [mv 14 0 25,
   ⟨some 15, .call ⟨.builtin .len, #[.tmp 14], #[25]⟩, 3, none⟩,
   ⟨some 16, .move (.const (.int .i64 0)), 3, none⟩]
def r31_5 : List VOp :=
  [⟨some 17, .binOp .lss 3 (.tmp 16) (.tmp 15) 3, 0, none⟩]
def r31_6 : List VOp :=
  [iad 18 25 14 16,
   lda 19 35 18,
   ⟨some 6, .alloc 35, 0, none⟩,
   ⟨none, .store 35 (.tmp 6) (.tmp 19), 0, none⟩]
def r31_7 : List VOp :=
  [mv 20 4 25,
   ⟨some 21, .call ⟨.builtin .len, #[.tmp 20], #[25]⟩, 3, none⟩,
   asg 7 21 3]
def r31_8 : List VOp :=
  [mv 22 7 3,
   ⟨some 23, .binOp .eql 3 (.tmp 22) (.const (.int .i64 0)) 3, 4, none⟩,
   mv 24 23 4,
   ⟨some 25, .move (.tmp 4), 25, some (24, false)⟩,
   ⟨some 26, .move (.tmp 7), 3, some (24, false)⟩,
   ⟨some 27, .binOp .sub 3 (.tmp 26) (.const (.int .i64 1)) 3, 3, some (24, false)⟩,
   ⟨some 28, .indexAddr 25 (.tmp 25) (.tmp 27), 0, some (24, false)⟩,
   ⟨some 29, .load 35 (.tmp 28), 35, some (24, false)⟩,
   ⟨some 30, .load 35 (.tmp 6), 35, some (24, false)⟩,
   ⟨some 31, .call ⟨.value (.func 34), #[.tmp 29, .tmp 30], #[35, 35]⟩, 3, some (24, false)⟩,
   ⟨some 32, .binOp .neq 3 (.tmp 31) (.const (.int .i64 0)) 3, 4, some (24, false)⟩,
   ⟨some 33, .pick (.tmp 24) (.const (.bool true)) (.tmp 32), 4, none⟩]
def r31_9 : List VOp :=
  [mv 34 4 25,
   lda 35 35 6,
   ⟨some 36, .buildSlice 25 1 #[(0, (.tmp 35))], 25, none⟩,
   ⟨some 37, .call ⟨.builtin .append, #[.tmp 34, .tmp 36], #[25, 25]⟩, 25, none⟩,
   asg 4 37 25]
def r31_10 : List VOp :=
  [mv 39 4 25,
   mv 40 7 3,
   ⟨some 41, .binOp .sub 3 (.tmp 40) (.const (.int .i64 1)) 3, 3, none⟩,
   iad 42 25 39 41,
   lda 43 35 42,
   lda 44 35 6,
   ⟨some 45, .call ⟨.value (.func 35), #[.tmp 43, .tmp 44], #[35, 35]⟩, 50, none⟩,
   mv 38 45 50,
   ext 46 38 0 35,
   ext 47 38 1 28,
   ⟨some 8, .alloc 35, 0, none⟩,
   ⟨none, .store 35 (.tmp 8) (.tmp 46), 0, none⟩,
   asg 9 47 28]
def r31_11 : List VOp :=
  [mv 48 9 28,
   ⟨some 49, .binOp .neq 28 (.tmp 48) (.const (.int .i64 0)) 28, 4, none⟩]
def r31_12 : List VOp :=
  [mv 50 9 28,
   ⟨some 2, .assign (.const (.slice none 0 0)), 25, none⟩,
   asg 3 50 28]
def r31_13 : List VOp :=
  [mv 51 4 25,
   mv 52 7 3,
   ⟨some 53, .binOp .sub 3 (.tmp 52) (.const (.int .i64 1)) 3, 3, none⟩,
   lda 54 35 8,
   iad 55 25 51 53,
   ⟨none, .store 35 (.tmp 55) (.tmp 54), 0, none⟩]
def r31_14 : List VOp :=
  [⟨some 56, .binOp .add 3 (.tmp 16) (.const (.int .i64 1)) 3, 3, none⟩,
   mv 16 56 3]
def r31_15 : List VOp :=
  [mv 57 4 25,
   asg 2 57 25,
   ⟨some 3, .assign (.const (.int .i64 0)), 28, none⟩]
def B31 : VC :=
  (.seq (.region r31_0) (.seq (.region r31_1) (.seq (.region r31_2) (.seq (.region r31_3) (.seq (.seq (.region r31_4) (.block 0 (.loop (.seq (.region r31_5) (.seq (.cond (.tmp 17) .skip (.exit 0)) (.seq (.block 1 (.seq (.region r31_6) (.seq (.region r31_7) (.seq (.seq (.draw r31_8 4) (.cond (.tmp 33) (.seq (.region r31_9) (.exit 1)) .skip)) (.seq (.drawS r31_10 2 [47]) (.seq (.seq (.region r31_11) (.cond (.tmp 49) (.seq (.region r31_12) .ret) .skip)) (.region r31_13))))))) (.region r31_14))))))) (.seq (.region r31_15) .ret))))))
theorem code31 : ∃ c, Try.f31.body = some c ∧ abs Try.f31.ntmps c = B31 := ⟨_, rfl, by kernel_rfl⟩
theorem hb31 : HasBody Try.prog 31 := hasBody_of Try.func31 (by kernel_rfl)
theorem res31 : Try.f31.results = #[(.tmp 2), (.tmp 3)] := rfl
theorem enter31 {w : World} {R : Value → World → Prop} (x0 : Value) (h : vc Try.prog B31 (retK Try.prog #[(.tmp 2), (.tmp 3)] R) [] (initEnv [x0] 0) w) : FnC Try.prog 31 #[x0] w R := by
  obtain ⟨c, h1, h2⟩ := code31
  exact hb31.fn (ret_of_vc mixed Try.func31 h1 (Nat.le_of_ble_eq_true rfl) B31 h2 h)
@[push_cast] theorem vr31_0 : VR r31_0 [⟨some 2, .assign (.const (.slice none 0 0)), 25, none⟩, ⟨some 3, .assign (.const (.int .i64 0)), 28, none⟩] := vR rfl
@[push_cast] theorem vr31_1 : VR r31_1 [⟨some 10, .move (.tmp 0), 25, none⟩, ⟨some 11, .call ⟨.value (.func 30), #[.tmp 10], #[25]⟩, 25, none⟩, ⟨some 0, .assign (.tmp 11), 25, none⟩] := vR rfl
@[push_cast] theorem vr31_2 : VR r31_2 [⟨some 12, .move (.tmp 0), 25, none⟩, ⟨some 13, .call ⟨.value (.func 70), #[(.tmp 12), (.func 34)], #[25, 58]⟩, 0, none⟩] := vR rfl
@[push_cast] theorem vr31_3 : VR r31_3 [⟨some 4, .assign (.const (.slice none 0 0)), 25, none⟩] := vR rfl
@[push_cast] theorem vr31_4 : VR r31_4 [⟨some 14, .move (.tmp 0), 25, none⟩, ⟨some 15, .call ⟨.builtin .len, #[.tmp 14], #[25]⟩, 3, none⟩, ⟨some 16, .move (.const (.int .i64 0)), 3, none⟩] := vR rfl
@[push_cast] theorem vr31_5 : VR r31_5 [⟨some 17, .binOp .lss 3 (.tmp 16) (.tmp 15) 3, 0, none⟩] := vR rfl
@[push_cast] theorem vr31_6 : VR r31_6 [⟨some 18, .indexAddr 25 (.tmp 14) (.tmp 16), 0, none⟩, ⟨some 19, .load 35 (.tmp 18), 35, none⟩, ⟨some 6, .alloc 35, 0, none⟩, ⟨none, .store 35 (.tmp 6) (.tmp 19), 0, none⟩] := vR rfl
@[push_cast] theorem vr31_7 : VR r31_7 [⟨some 20, .move (.tmp 4), 25, none⟩, ⟨some 21, .call ⟨.builtin .len, #[.tmp 20], #[25]⟩, 3, none⟩, ⟨some 7, .assign (.tmp 21), 3, none⟩] := vR rfl
@[push_cast] theorem vr31_8 : vc Try.prog (.draw r31_8 4) Q ds σ w = drawn Try.prog [(⟨some 22, .move (.tmp 7), 3, none⟩, [7]), (⟨some 23, .binOp .eql 3 (.tmp 22) (.const (.int .i64 0)) 3, 4, none⟩, [22]), (⟨some 24, .move (.tmp 23), 4, none⟩, [23]), (⟨some 25, .move (.tmp 4), 25, some (24, false)⟩, [4, 24]), (⟨some 26, .move (.tmp 7), 3, some (24, false)⟩, [7, 24]), (⟨some 27, .binOp .sub 3 (.tmp 26) (.const (.int .i64 1)) 3, 3, some (24, false)⟩, [26, 24]), (⟨some 28, .indexAddr 25 (.tmp 25) (.tmp 27), 0, some (24, false)⟩, [25, 27, 24]), (⟨some 29, .load 35 (.tmp 28), 35, some (24, false)⟩, [28, 24]), (⟨some 30, .load 35 (.tmp 6), 35, some (24, false)⟩, [6, 24]), (⟨some 31, .call ⟨.value (.func 34), #[.tmp 29, .tmp 30], #[35, 35]⟩, 3, some (24, false)⟩, [29, 30, 24]), (⟨some 32, .binOp .neq 3 (.tmp 31) (.const (.int .i64 0)) 3, 4, some (24, false)⟩, [31, 24]), (⟨some 33, .pick (.tmp 24) (.const (.bool true)) (.tmp 32), 4, none⟩, [24, 32])] 4 (Q .normal ds) σ w := mk_eq rfl
@[push_cast] theorem vr31_9 : VR r31_9 [⟨some 34, .move (.tmp 4), 25, none⟩, ⟨some 35, .load 35 (.tmp 6), 35, none⟩, ⟨some 36, .buildSlice 25 1 #[(0, (.tmp 35))], 25, none⟩, ⟨some 37, .call ⟨.builtin .append, #[.tmp 34, .tmp 36], #[25, 25]⟩, 25, none⟩, ⟨some 4, .assign (.tmp 37), 25, none⟩] := vR rfl
@[push_cast] theorem vr31_10 : vc Try.prog (.drawS r31_10 2 [47]) Q ds σ w = drawnS Try.prog [(⟨some 39, .move (.tmp 4), 25, none⟩, [4]), (⟨some 40, .move (.tmp 7), 3, none⟩, [7]), (⟨some 41, .binOp .sub 3 (.tmp 40) (.const (.int .i64 1)) 3, 3, none⟩, [40]), (⟨some 42, .indexAddr 25 (.tmp 39) (.tmp 41), 0, none⟩, [39, 41]), (⟨some 43, .load 35 (.tmp 42), 35, none⟩, [42]), (⟨some 44, .load 35 (.tmp 6), 35, none⟩, [6]), (⟨some 45, .call ⟨.value (.func 35), #[.tmp 43, .tmp 44], #[35, 35]⟩, 50, none⟩, [43, 44]), (⟨some 38, .move (.tmp 45), 50, none⟩, [45]), (⟨some 46, .extract (.tmp 38) 0, 35, none⟩, [38]), (⟨some 47, .extract (.tmp 38) 1, 28, none⟩, [38]), (⟨some 8, .alloc 35, 0, none⟩, []), (⟨none, .store 35 (.tmp 8) (.tmp 46), 0, none⟩, [8, 46]), (⟨some 9, .assign (.tmp 47), 28, none⟩, [47])] 2 [47] (Q .normal ds) σ w := mk_eq rfl
@[push_cast] theorem vr31_11 : VR r31_11 [⟨some 48, .move (.tmp 9), 28, none⟩, ⟨some 49, .binOp .neq 28 (.tmp 48) (.const (.int .i64 0)) 28, 4, none⟩] := vR rfl
@[push_cast] theorem vr31_12 : VR r31_12 [⟨some 50, .move (.tmp 9), 28, none⟩, ⟨some 2, .assign (.const (.slice none 0 0)), 25, none⟩, ⟨some 3, .assign (.tmp 50), 28, none⟩] := vR rfl
@[push_cast] theorem vr31_13 : VR r31_13 [⟨some 51, .move (.tmp 4), 25, none⟩, ⟨some 52, .move (.tmp 7), 3, none⟩, ⟨some 53, .binOp .sub 3 (.tmp 52) (.const (.int .i64 1)) 3, 3, none⟩, ⟨some 54, .load 35 (.tmp 8), 35, none⟩, ⟨some 55, .indexAddr 25 (.tmp 51) (.tmp 53), 0, none⟩, ⟨none, .store 35 (.tmp 55) (.tmp 54), 0, none⟩] := vR rfl
@[push_cast] theorem vr31_14 : VR r31_14 [⟨some 56, .binOp .add 3 (.tmp 16) (.const (.int .i64 1)) 3, 3, none⟩, ⟨some 16, .move (.tmp 56), 3, none⟩] := vR rfl
@[push_cast] theorem vr31_15 : VR r31_15 [⟨some 57, .move (.tmp 4), 25, none⟩, ⟨some 2, .assign (.tmp 57), 25, none⟩, ⟨some 3, .assign (.const (.int .i64 0)), 28, none⟩] := vR rfl
/-! 34 columbary/rows.Compare (params #[35, 35], results #[(.tmp 4)], 17 slots) -/
def r34_0 : List VOp :=
  [⟨some 2, .box 35 (.tmp 0), 0, none⟩,
   ⟨some 3, .box 35 (.tmp 1), 0, none⟩,
   ⟨some 4, .assign (.const (.int .i64 0)), 3, none⟩]
def r34_1 : List VOp :=
  [fad 5 35 2 0,
   lda 6 3 5,
   fad 7 35 3 0,
   lda 8 3 7,
   ⟨some 9, .call ⟨.value (.func 72), #[.tmp 6, .tmp 8], #[3, 3]⟩, 3, none⟩,
   fad 10 35 2 1,
   lda 11 22 10,
   fad 12 35 3 1,
   lda 13 22 12,
   ⟨some 14, .call ⟨.value (.func 73), #[.tmp 11, .tmp 13], #[22, 22]⟩, 3, none⟩,
   ⟨some 15, .buildSlice 47 2 #[(0, (.tmp 9)), (1, (.tmp 14))], 47, none⟩,
   ⟨some 16, .call ⟨.value (.func 71), #[.tmp 15], #[47]⟩, 3, none⟩,
   asg 4 16 3]
def B34 : VC :=
  (.seq (.region r34_0) (.seq (.draw r34_1 5) .ret))
theorem code34 : ∃ c, Try.f34.body = some c ∧ abs Try.f34.ntmps c = B34 := ⟨_, rfl, by kernel_rfl⟩
theorem hb34 : HasBody Try.prog 34 := hasBody_of Try.func34 (by kernel_rfl)
theorem res34 : Try.f34.results = #[(.tmp 4)] := rfl
theorem enter34 {w : World} {R : Value → World → Prop} (x0 x1 : Value) (h : vc Try.prog B34 (retK Try.prog #[(.tmp 4)] R) [] (initEnv [x0, x1] 0) w) : FnC Try.prog 34 #[x0, x1] w R := by
  obtain ⟨c, h1, h2⟩ := code34
  exact hb34.fn (ret_of_vc mixed Try.func34 h1 (Nat.le_of_ble_eq_true rfl) B34 h2 h)
@[push_cast] theorem vr34_0 : VR r34_0 [⟨some 2, .box 35 (.tmp 0), 0, none⟩, ⟨some 3, .box 35 (.tmp 1), 0, none⟩, ⟨some 4, .assign (.const (.int .i64 0)), 3, none⟩] := vR rfl
@[push_cast] theorem vr34_1 : vc Try.prog (.draw r34_1 5) Q ds σ w = drawn Try.prog [(⟨some 5, .fieldAddr 35 (.tmp 2) 0, 0, none⟩, [2]), (⟨some 6, .load 3 (.tmp 5), 3, none⟩, [5]), (⟨some 7, .fieldAddr 35 (.tmp 3) 0, 0, none⟩, [3]), (⟨some 8, .load 3 (.tmp 7), 3, none⟩, [7]), (⟨some 9, .call ⟨.value (.func 72), #[.tmp 6, .tmp 8], #[3, 3]⟩, 3, none⟩, [6, 8]), (⟨some 10, .fieldAddr 35 (.tmp 2) 1, 0, none⟩, [2]), (⟨some 11, .load 22 (.tmp 10), 22, none⟩, [10]), (⟨some 12, .fieldAddr 35 (.tmp 3) 1, 0, none⟩, [3]), (⟨some 13, .load 22 (.tmp 12), 22, none⟩, [12]), (⟨some 14, .call ⟨.value (.func 73), #[.tmp 11, .tmp 13], #[22, 22]⟩, 3, none⟩, [11, 13]), (⟨some 15, .buildSlice 47 2 #[(0, (.tmp 9)), (1, (.tmp 14))], 47, none⟩, [9, 14]), (⟨some 16, .call ⟨.value (.func 71), #[.tmp 15], #[47]⟩, 3, none⟩, [15]), (⟨some 4, .assign (.tmp 16), 3, none⟩, [16])] 5 (Q .normal ds) σ w := mk_eq rfl
/-! 35 columbary/rows.Join (params #[35, 35], results #[(.cell 4 35), (.tmp 5)], 74 slots) -/
def W35_0 : List Nat := [5, 7, 8, 9, 10, 48, 49, 50, 51, 52, 53, 54, 55, 56, 57, 58, 59, 60, 61, 62, 63, 64, 65, 66, 67, 68, 69, 70, 71, 72]
@[push_cast] theorem W35_0_def : W35_0 = [5, 7, 8, 9, 10, 48, 49, 50, 51, 52, 53, 54, 55, 56, 57, 58, 59, 60, 61, 62, 63, 64, 65, 66, 67, 68, 69, 70, 71, 72] := mk_eq rfl
def r35_0 : List VOp :=
  [⟨some 2, .box 35 (.tmp 0), 0, none⟩,
   ⟨some 3, .box 35 (.tmp 1), 0, none⟩,
   ⟨some 4, .alloc 35, 0, none⟩,
   ⟨some 5, .assign (.const (.int .i64 0)), 28, none⟩]
def r35_1 : List VOp :=
  [lda 12 35 2,
   lda 13 35 3,
   ⟨some 14, .call ⟨.value (.func 34), #[.tmp 12, .tmp 13], #[35, 35]⟩, 3, none⟩,
   ⟨some 15, .binOp .neq 3 (.tmp 14) (.const (.int .i64 0)) 3, 4, none⟩,
   mv 16 15 4,
   ⟨some 17, .fieldAddr 35 (.tmp 2) 3, 0, some (16, false)⟩,
   ⟨some 18, .load 33 (.tmp 17), 33, some (16, false)⟩,
   ⟨some 19, .call ⟨.builtin .len, #[.tmp 18], #[33]⟩, 3, some (16, false)⟩,
   ⟨some 20, .fieldAddr 35 (.tmp 3) 3, 0, some (16, false)⟩,
   ⟨some 21, .load 33 (.tmp 20), 33, some (16, false)⟩,
   ⟨some 22, .call ⟨.builtin .len, #[.tmp 21], #[33]⟩, 3, some (16, false)⟩,
   ⟨some 23, .binOp .neq 3 (.tmp 19) (.tmp 22) 3, 4, some (16, false)⟩,
   ⟨some 24, .pick (.tmp 16) (.const (.bool true)) (.tmp 23), 4, none⟩,
   asg 11 24 4]
def r35_2 : List VOp :=
  [⟨some 25, .build 35 #[], 35, none⟩,
   ⟨none, .store 35 (.tmp 4) (.tmp 25), 0, none⟩,
   ⟨some 5, .assign (.const (.int .i64 131)), 28, none⟩]
def r35_3 : List VOp :=
  [fad 27 35 2 2,
   lda 28 3 27,
   fad 29 35 3 2,
   lda 30 3 29,
   ⟨some 31, .binOp .add 3 (.tmp 28) (.tmp 30) 3, 3, none⟩,
   ⟨some 32, .binOp .gtr 3 (.tmp 31) (.const (.int .i64 1048576)) 3, 4, none⟩,
   asg 26 32 4]
def r35_4 : List VOp :=
  [⟨some 33, .build 35 #[], 35, none⟩,
   ⟨none, .store 35 (.tmp 4) (.tmp 33), 0, none⟩,
   ⟨some 5, .assign (.const (.int .i64 121)), 28, none⟩]
def r35_5 : List VOp :=
  [fad 34 35 2 0,
   lda 35 3 34,
   fad 36 35 2 1,
   lda 37 22 36,
   ⟨some 38, .call ⟨.value (.func 52), #[.tmp 37], #[22]⟩, 22, none⟩,
   fad 39 35 2 2,
   lda 40 3 39,
   fad 41 35 3 2,
   lda 42 3 41,
   ⟨some 43, .binOp .add 3 (.tmp 40) (.tmp 42) 3, 3, none⟩,
   ⟨some 44, .build 35 #[(0, (.tmp 35)), (1, (.tmp 38)), (2, (.tmp 43))], 35, none⟩,
   ⟨some 6, .alloc 35, 0, none⟩,
   ⟨none, .store 35 (.tmp 6) (.tmp 44), 0, none⟩]
def r35_6 : List VOp :=
  [fad 45 35 2 3,
   lda 46 33 45,
   ⟨some 47, .call ⟨.builtin .len, #[.tmp 46], #[33]⟩, 3, none⟩,
   ⟨some 48, .move (.const (.int .i64 0)), 3, none⟩]
def r35_7 : List VOp :=
  [⟨some 49, .binOp .lss 3 (.tmp 48) (.tmp 47) 3, 0, none⟩]
def r35_8 : List VOp :=
  [mv 50 48 3,
   iad 51 33 46 48,
   lda 52 64 51,
   ⟨some 8, .alloc 64, 0, none⟩,
   asg 7 50 3,
   ⟨none, .store 64 (.tmp 8) (.tmp 52), 0, none⟩]
def r35_9 : List VOp :=
  [lda 54 64 8,
   fad 55 35 3 3,
   lda 56 33 55,
   mv 57 7 3,
   iad 58 33 56 57,
   lda 59 64 58,
   ⟨some 60, .call ⟨.value (.func 74), #[.tmp 54, .tmp 59], #[64, 64]⟩, 78, none⟩,
   mv 53 60 78,
   ext 61 53 0 64,
   ext 62 53 1 28,
   ⟨some 9, .alloc 64, 0, none⟩,
   ⟨none, .store 64 (.tmp 9) (.tmp 61), 0, none⟩,
   asg 10 62 28]
def r35_10 : List VOp :=
  [mv 63 10 28,
   ⟨some 64, .binOp .neq 28 (.tmp 63) (.const (.int .i64 0)) 28, 4, none⟩]
def r35_11 : List VOp :=
  [⟨some 65, .build 35 #[], 35, none⟩,
   ⟨none, .store 35 (.tmp 4) (.tmp 65), 0, none⟩,
   ⟨some 5, .assign (.const (.int .i64 121)), 28, none⟩]
def r35_12 : List VOp :=
  [fad 66 35 6 3,
   lda 67 33 66,
   lda 68 64 9,
   ⟨some 69, .buildSlice 33 1 #[(0, (.tmp 68))], 33, none⟩,
   ⟨some 70, .call ⟨.builtin .append, #[.tmp 67, .tmp 69], #[33, 33]⟩, 33, none⟩,
   fad 71 35 6 3,
   ⟨none, .store 33 (.tmp 71) (.tmp 70), 0, none⟩]
def r35_13 : List VOp :=
  [⟨some 72, .binOp .add 3 (.tmp 48) (.const (.int .i64 1)) 3, 3, none⟩,
   mv 48 72 3]
def r35_14 : List VOp :=
  [lda 73 35 6,
   ⟨none, .store 35 (.tmp 4) (.tmp 73), 0, none⟩,
   ⟨some 5, .assign (.const (.int .i64 0)), 28, none⟩]
def B35 : VC :=
  (.seq (.region r35_0) (.seq (.block 0 (.seq (.region r35_1) (.cond (.tmp 11) (.seq (.region r35_2) .ret) (.seq (.region r35_3) (.cond (.tmp 26) (.seq (.region r35_4) .ret) .skip))))) (.seq (.draw r35_5 2) (.seq (.seq (.region r35_6) (.block 1 (.loop (.seq (.region r35_7) (.seq (.cond (.tmp 49) .skip (.exit 1)) (.seq (.block 2 (.seq (.region r35_8) (.seq (.drawS r35_9 2 [62]) (.seq (.seq (.region r35_10) (.cond (.tmp 64) (.seq (.region r35_11) .ret) .skip)) (.region r35_12))))) (.region r35_13))))))) (.seq (.region r35_14) .ret)))))
theorem code35 : ∃ c, Try.f35.body = some c ∧ abs Try.f35.ntmps c = B35 := ⟨_, rfl, by kernel_rfl⟩
theorem hb35 : HasBody Try.prog 35 := hasBody_of Try.func35 (by kernel_rfl)
theorem res35 : Try.f35.results = #[(.cell 4 35), (.tmp 5)] := rfl
theorem enter35 {w : World} {R : Value → World → Prop} (x0 x1 : Value) (h : vc Try.prog B35 (retK Try.prog #[(.cell 4 35), (.tmp 5)] R) [] (initEnv [x0, x1] 0) w) : FnC Try.prog 35 #[x0, x1] w R := by
  obtain ⟨c, h1, h2⟩ := code35
  exact hb35.fn (ret_of_vc mixed Try.func35 h1 (Nat.le_of_ble_eq_true rfl) B35 h2 h)
@[push_cast] theorem vr35_0 : VR r35_0 [⟨some 2, .box 35 (.tmp 0), 0, none⟩, ⟨some 3, .box 35 (.tmp 1), 0, none⟩, ⟨some 4, .alloc 35, 0, none⟩, ⟨some 5, .assign (.const (.int .i64 0)), 28, none⟩] := vR rfl
@[push_cast] theorem vr35_1 : VR r35_1 [⟨some 12, .load 35 (.tmp 2), 35, none⟩, ⟨some 13, .load 35 (.tmp 3), 35, none⟩, ⟨some 14, .call ⟨.value (.func 34), #[.tmp 12, .tmp 13], #[35, 35]⟩, 3, none⟩, ⟨some 15, .binOp .neq 3 (.tmp 14) (.const (.int .i64 0)) 3, 4, none⟩, ⟨some 16, .move (.tmp 15), 4, none⟩, ⟨some 17, .fieldAddr 35 (.tmp 2) 3, 0, some (16, false)⟩, ⟨some 18, .load 33 (.tmp 17), 33, some (16, false)⟩, ⟨some 19, .call ⟨.builtin .len, #[.tmp 18], #[33]⟩, 3, some (16, false)⟩, ⟨some 20, .fieldAddr 35 (.tmp 3) 3, 0, some (16, false)⟩, ⟨some 21, .load 33 (.tmp 20), 33, some (16, false)⟩, ⟨some 22, .call ⟨.builtin .len, #[.tmp 21], #[33]⟩, 3, some (16, false)⟩, ⟨some 23, .binOp .neq 3 (.tmp 19) (.tmp 22) 3, 4, some (16, false)⟩, ⟨some 24, .pick (.tmp 16) (.const (.bool true)) (.tmp 23), 4, none⟩, ⟨some 11, .assign (.tmp 24), 4, none⟩] := vR rfl
@[push_cast] theorem vr35_2 : VR r35_2 [⟨some 25, .build 35 #[], 35, none⟩, ⟨none, .store 35 (.tmp 4) (.tmp 25), 0, none⟩, ⟨some 5, .assign (.const (.int .i64 131)), 28, none⟩] := vR rfl
@[push_cast] theorem vr35_3 : VR r35_3 [⟨some 27, .fieldAddr 35 (.tmp 2) 2, 0, none⟩, ⟨some 28, .load 3 (.tmp 27), 3, none⟩, ⟨some 29, .fieldAddr 35 (.tmp 3) 2, 0, none⟩, ⟨some 30, .load 3 (.tmp 29), 3, none⟩, ⟨some 31, .binOp .add 3 (.tmp 28) (.tmp 30) 3, 3, none⟩, ⟨some 32, .binOp .gtr 3 (.tmp 31) (.const (.int .i64 1048576)) 3, 4, none⟩, ⟨some 26, .assign (.tmp 32), 4, none⟩] := vR rfl
@[push_cast] theorem vr35_4 : VR r35_4 [⟨some 33, .build 35 #[], 35, none⟩, ⟨none, .store 35 (.tmp 4) (.tmp 33), 0, none⟩, ⟨some 5, .assign (.const (.int .i64 121)), 28, none⟩] := vR rfl
@[push_cast] theorem vr35_5 : vc Try.prog (.draw r35_5 2) Q ds σ w = drawn Try.prog [(⟨some 34, .fieldAddr 35 (.tmp 2) 0, 0, none⟩, [2]), (⟨some 35, .load 3 (.tmp 34), 3, none⟩, [34]), (⟨some 36, .fieldAddr 35 (.tmp 2) 1, 0, none⟩, [2]), (⟨some 37, .load 22 (.tmp 36), 22, none⟩, [36]), (⟨some 38, .call ⟨.value (.func 52), #[.tmp 37], #[22]⟩, 22, none⟩, [37]), (⟨some 39, .fieldAddr 35 (.tmp 2) 2, 0, none⟩, [2]), (⟨some 40, .load 3 (.tmp 39), 3, none⟩, [39]), (⟨some 41, .fieldAddr 35 (.tmp 3) 2, 0, none⟩, [3]), (⟨some 42, .load 3 (.tmp 41), 3, none⟩, [41]), (⟨some 43, .binOp .add 3 (.tmp 40) (.tmp 42) 3, 3, none⟩, [40, 42]), (⟨some 44, .build 35 #[(0, (.tmp 35)), (1, (.tmp 38)), (2, (.tmp 43))], 35, none⟩, [35, 38, 43]), (⟨some 6, .alloc 35, 0, none⟩, []), (⟨none, .store 35 (.tmp 6) (.tmp 44), 0, none⟩, [6, 44])] 2 (Q .normal ds) σ w := mk_eq rfl
@[push_cast] theorem vr35_6 : VR r35_6 [⟨some 45, .fieldAddr 35 (.tmp 2) 3, 0, none⟩, ⟨some 46, .load 33 (.tmp 45), 33, none⟩, ⟨some 47, .call ⟨.builtin .len, #[.tmp 46], #[33]⟩, 3, none⟩, ⟨some 48, .move (.const (.int .i64 0)), 3, none⟩] := vR rfl
@[push_cast] theorem vr35_7 : VR r35_7 [⟨some 49, .binOp .lss 3 (.tmp 48) (.tmp 47) 3, 0, none⟩] := vR rfl
@[push_cast] theorem vr35_8 : VR r35_8 [⟨some 50, .move (.tmp 48), 3, none⟩, ⟨some 51, .indexAddr 33 (.tmp 46) (.tmp 48), 0, none⟩, ⟨some 52, .load 64 (.tmp 51), 64, none⟩, ⟨some 8, .alloc 64, 0, none⟩, ⟨some 7, .assign (.tmp 50), 3, none⟩, ⟨none, .store 64 (.tmp 8) (.tmp 52), 0, none⟩] := vR rfl
@[push_cast] theorem vr35_9 : vc Try.prog (.drawS r35_9 2 [62]) Q ds σ w = drawnS Try.prog [(⟨some 54, .load 64 (.tmp 8), 64, none⟩, [8]), (⟨some 55, .fieldAddr 35 (.tmp 3) 3, 0, none⟩, [3]), (⟨some 56, .load 33 (.tmp 55), 33, none⟩, [55]), (⟨some 57, .move (.tmp 7), 3, none⟩, [7]), (⟨some 58, .indexAddr 33 (.tmp 56) (.tmp 57), 0, none⟩, [56, 57]), (⟨some 59, .load 64 (.tmp 58), 64, none⟩, [58]), (⟨some 60, .call ⟨.value (.func 74), #[.tmp 54, .tmp 59], #[64, 64]⟩, 78, none⟩, [54, 59]), (⟨some 53, .move (.tmp 60), 78, none⟩, [60]), (⟨some 61, .extract (.tmp 53) 0, 64, none⟩, [53]), (⟨some 62, .extract (.tmp 53) 1, 28, none⟩, [53]), (⟨some 9, .alloc 64, 0, none⟩, []), (⟨none, .store 64 (.tmp 9) (.tmp 61), 0, none⟩, [9, 61]), (⟨some 10, .assign (.tmp 62), 28, none⟩, [62])] 2 [62] (Q .normal ds) σ w := mk_eq rfl
@[push_cast] theorem vr35_10 : VR r35_10 [⟨some 63, .move (.tmp 10), 28, none⟩, ⟨some 64, .binOp .neq 28 (.tmp 63) (.const (.int .i64 0)) 28, 4, none⟩] := vR rfl
@[push_cast] theorem vr35_11 : VR r35_11 [⟨some 65, .build 35 #[], 35, none⟩, ⟨none, .store 35 (.tmp 4) (.tmp 65), 0, none⟩, ⟨some 5, .assign (.const (.int .i64 121)), 28, none⟩] := vR rfl
@[push_cast] theorem vr35_12 : VR r35_12 [⟨some 66, .fieldAddr 35 (.tmp 6) 3, 0, none⟩, ⟨some 67, .load 33 (.tmp 66), 33, none⟩, ⟨some 68, .load 64 (.tmp 9), 64, none⟩, ⟨some 69, .buildSlice 33 1 #[(0, (.tmp 68))], 33, none⟩, ⟨some 70, .call ⟨.builtin .append, #[.tmp 67, .tmp 69], #[33, 33]⟩, 33, none⟩, ⟨some 71, .fieldAddr 35 (.tmp 6) 3, 0, none⟩, ⟨none, .store 33 (.tmp 71) (.tmp 70), 0, none⟩] := vR rfl
@[push_cast] theorem vr35_13 : VR r35_13 [⟨some 72, .binOp .add 3 (.tmp 48) (.const (.int .i64 1)) 3, 3, none⟩, ⟨some 48, .move (.tmp 72), 3, none⟩] := vR rfl
@[push_cast] theorem vr35_14 : VR r35_14 [⟨some 73, .load 35 (.tmp 6), 35, none⟩, ⟨none, .store 35 (.tmp 4) (.tmp 73), 0, none⟩, ⟨some 5, .assign (.const (.int .i64 0)), 28, none⟩] := vR rfl
/-! 39 columbary/columbaryref10.Right (params #[24], results #[(.tmp 2)], 57 slots) -/
def W39_0 : List Nat := [2, 4, 5, 6, 14, 15, 16, 17, 18, 19, 20, 21, 22, 23, 24, 25, 26, 27, 28, 29, 30, 31, 32, 33, 34, 35, 36, 37, 38, 39, 40]
@[push_cast] theorem W39_0_def : W39_0 = [2, 4, 5, 6, 14, 15, 16, 17, 18, 19, 20, 21, 22, 23, 24, 25, 26, 27, 28, 29, 30, 31, 32, 33, 34, 35, 36, 37, 38, 39, 40] := mk_eq rfl
def W39_1 : List Nat := [2, 6, 27, 28, 29, 30, 31, 32, 33, 34, 35, 36, 37, 38, 39, 40]
@[push_cast] theorem W39_1_def : W39_1 = [2, 6, 27, 28, 29, 30, 31, 32, 33, 34, 35, 36, 37, 38, 39, 40] := mk_eq rfl
def r39_0 : List VOp :=
  [⟨some 1, .box 24 (.tmp 0), 0, none⟩,
   ⟨some 2, .assign (.const (.bool false)), 4, none⟩]
def r39_1 : List VOp :=
  [⟨some 7, .buildSlice 22 0 #[], 22, none⟩,
   fad 8 24 1 0,
   lda 9 22 8,
   ⟨some 10, .call ⟨.builtin .append, #[.tmp 7, .tmp 9], #[22, 22]⟩, 22, none⟩,
   fad 11 24 1 1,
   lda 12 22 11,
   ⟨some 13, .call ⟨.builtin .append, #[.tmp 10, .tmp 12], #[22, 22]⟩, 22, none⟩,
   asg 3 13 22]
def r39_2 : List VOp :=
  [⟨some 4, .assign (.const (.int .i64 0)), 3, none⟩]
def r39_3 : List VOp :=
  [mv 14 4 3,
   mv 15 3 22,
   ⟨some 16, .call ⟨.builtin .len, #[.tmp 15], #[22]⟩, 3, none⟩,
   ⟨some 17, .binOp .lss 3 (.tmp 14) (.tmp 16) 3, 4, none⟩]
def r39_5 : List VOp :=
  [mv 20 3 22,
   mv 21 4 3,
   iad 22 22 20 21,
   lda 23 9 22,
   ⟨some 24, .call ⟨.value (.func 79), #[.tmp 23], #[9]⟩, 4, none⟩,
   asg 5 24 4]
def r39_6 : List VOp :=
  [mv 25 5 4,
   ⟨some 26, .unOp .not 4 (.tmp 25), 4, none⟩]
def r39_7 : List VOp :=
  [⟨some 2, .assign (.const (.bool false)), 4, none⟩]
def r39_8 : List VOp :=
  [⟨some 6, .assign (.const (.int .i64 0)), 3, none⟩]
def r39_9 : List VOp :=
  [mv 27 6 3,
   mv 28 4 3,
   ⟨some 29, .binOp .lss 3 (.tmp 27) (.tmp 28) 3, 4, none⟩]
def r39_11 : List VOp :=
  [mv 32 3 22,
   mv 33 6 3,
   iad 34 22 32 33,
   lda 35 9 34,
   mv 36 3 22,
   mv 37 4 3,
   iad 38 22 36 37,
   lda 39 9 38,
   ⟨some 40, .binOp .eql 9 (.tmp 35) (.tmp 39) 9, 4, none⟩]
def r39_12 : List VOp :=
  [⟨some 2, .assign (.const (.bool false)), 4, none⟩]
def r39_10 : List VOp :=
  [mv 30 6 3,
   ⟨some 31, .binOp .add 3 (.tmp 30) (.const (.int .i64 1)) 3, 3, none⟩,
   asg 6 31 3]
def r39_4 : List VOp :=
  [mv 18 4 3,
   ⟨some 19, .binOp .add 3 (.tmp 18) (.const (.int .i64 1)) 3, 3, none⟩,
   asg 4 19 3]
def r39_13 : List VOp :=
  [fad 41 24 1 0,
   lda 42 22 41,
   ⟨some 43, .call ⟨.builtin .len, #[.tmp 42], #[22]⟩, 3, none⟩,
   ⟨some 44, .binOp .geq 3 (.tmp 43) (.const (.int .i64 1)) 3, 4, none⟩,
   mv 45 44 4,
   ⟨some 46, .fieldAddr 24 (.tmp 1) 0, 0, some (45, true)⟩,
   ⟨some 47, .load 22 (.tmp 46), 22, some (45, true)⟩,
   ⟨some 48, .call ⟨.builtin .len, #[.tmp 47], #[22]⟩, 3, some (45, true)⟩,
   ⟨some 49, .binOp .leq 3 (.tmp 48) (.const (.int .i64 6)) 3, 4, some (45, true)⟩,
   ⟨some 50, .pick (.tmp 45) (.tmp 49) (.const (.bool false)), 4, none⟩,
   mv 51 50 4,
   ⟨some 52, .fieldAddr 24 (.tmp 1) 1, 0, some (51, true)⟩,
   ⟨some 53, .load 22 (.tmp 52), 22, some (51, true)⟩,
   ⟨some 54, .call ⟨.builtin .len, #[.tmp 53], #[22]⟩, 3, some (51, true)⟩,
   ⟨some 55, .binOp .leq 3 (.tmp 54) (.const (.int .i64 4)) 3, 4, some (51, true)⟩,
   ⟨some 56, .pick (.tmp 51) (.tmp 55) (.const (.bool false)), 4, none⟩,
   asg 2 56 4]
def B39 : VC :=
  (.seq (.region r39_0) (.seq (.draw r39_1 3) (.seq (.seq (.region r39_2) (.block 0 (.loop (.seq (.seq (.region r39_3) (.cond (.tmp 17) .skip (.exit 0))) (.seq (.block 1 (.seq (.region r39_5) (.seq (.seq (.region r39_6) (.cond (.tmp 26) (.seq (.region r39_7) .ret) .skip)) (.seq (.region r39_8) (.block 2 (.loop (.seq (.seq (.region r39_9) (.cond (.tmp 29) .skip (.exit 2))) (.seq (.block 3 (.seq (.draw r39_11 2) (.cond (.tmp 40) (.seq (.region r39_12) .ret) .skip))) (.region r39_10))))))))) (.region r39_4)))))) (.seq (.region r39_13) .ret))))
theorem code39 : ∃ c, Try.f39.body = some c ∧ abs Try.f39.ntmps c = B39 := ⟨_, rfl, by kernel_rfl⟩
theorem hb39 : HasBody Try.prog 39 := hasBody_of Try.func39 (by kernel_rfl)
theorem res39 : Try.f39.results = #[(.tmp 2)] := rfl
theorem enter39 {w : World} {R : Value → World → Prop} (x0 : Value) (h : vc Try.prog B39 (retK Try.prog #[(.tmp 2)] R) [] (initEnv [x0] 0) w) : FnC Try.prog 39 #[x0] w R := by
  obtain ⟨c, h1, h2⟩ := code39
  exact hb39.fn (ret_of_vc mixed Try.func39 h1 (Nat.le_of_ble_eq_true rfl) B39 h2 h)
@[push_cast] theorem vr39_0 : VR r39_0 [⟨some 1, .box 24 (.tmp 0), 0, none⟩, ⟨some 2, .assign (.const (.bool false)), 4, none⟩] := vR rfl
@[push_cast] theorem vr39_1 : vc Try.prog (.draw r39_1 3) Q ds σ w = drawn Try.prog [(⟨some 7, .buildSlice 22 0 #[], 22, none⟩, []), (⟨some 8, .fieldAddr 24 (.tmp 1) 0, 0, none⟩, [1]), (⟨some 9, .load 22 (.tmp 8), 22, none⟩, [8]), (⟨some 10, .call ⟨.builtin .append, #[.tmp 7, .tmp 9], #[22, 22]⟩, 22, none⟩, [7, 9]), (⟨some 11, .fieldAddr 24 (.tmp 1) 1, 0, none⟩, [1]), (⟨some 12, .load 22 (.tmp 11), 22, none⟩, [11]), (⟨some 13, .call ⟨.builtin .append, #[.tmp 10, .tmp 12], #[22, 22]⟩, 22, none⟩, [10, 12]), (⟨some 3, .assign (.tmp 13), 22, none⟩, [13])] 3 (Q .normal ds) σ w := mk_eq rfl
@[push_cast] theorem vr39_2 : VR r39_2 [⟨some 4, .assign (.const (.int .i64 0)), 3, none⟩] := vR rfl
@[push_cast] theorem vr39_3 : VR r39_3 [⟨some 14, .move (.tmp 4), 3, none⟩, ⟨some 15, .move (.tmp 3), 22, none⟩, ⟨some 16, .call ⟨.builtin .len, #[.tmp 15], #[22]⟩, 3, none⟩, ⟨some 17, .binOp .lss 3 (.tmp 14) (.tmp 16) 3, 4, none⟩] := vR rfl
@[push_cast] theorem vr39_5 : VR r39_5 [⟨some 20, .move (.tmp 3), 22, none⟩, ⟨some 21, .move (.tmp 4), 3, none⟩, ⟨some 22, .indexAddr 22 (.tmp 20) (.tmp 21), 0, none⟩, ⟨some 23, .load 9 (.tmp 22), 9, none⟩, ⟨some 24, .call ⟨.value (.func 79), #[.tmp 23], #[9]⟩, 4, none⟩, ⟨some 5, .assign (.tmp 24), 4, none⟩] := vR rfl
@[push_cast] theorem vr39_6 : VR r39_6 [⟨some 25, .move (.tmp 5), 4, none⟩, ⟨some 26, .unOp .not 4 (.tmp 25), 4, none⟩] := vR rfl
@[push_cast] theorem vr39_7 : VR r39_7 [⟨some 2, .assign (.const (.bool false)), 4, none⟩] := vR rfl
@[push_cast] theorem vr39_8 : VR r39_8 [⟨some 6, .assign (.const (.int .i64 0)), 3, none⟩] := vR rfl
@[push_cast] theorem vr39_9 : VR r39_9 [⟨some 27, .move (.tmp 6), 3, none⟩, ⟨some 28, .move (.tmp 4), 3, none⟩, ⟨some 29, .binOp .lss 3 (.tmp 27) (.tmp 28) 3, 4, none⟩] := vR rfl
@[push_cast] theorem vr39_11 : vc Try.prog (.draw r39_11 2) Q ds σ w = drawn Try.prog [(⟨some 32, .move (.tmp 3), 22, none⟩, [3]), (⟨some 33, .move (.tmp 6), 3, none⟩, [6]), (⟨some 34, .indexAddr 22 (.tmp 32) (.tmp 33), 0, none⟩, [32, 33]), (⟨some 35, .load 9 (.tmp 34), 9, none⟩, [34]), (⟨some 36, .move (.tmp 3), 22, none⟩, [3]), (⟨some 37, .move (.tmp 4), 3, none⟩, [4]), (⟨some 38, .indexAddr 22 (.tmp 36) (.tmp 37), 0, none⟩, [36, 37]), (⟨some 39, .load 9 (.tmp 38), 9, none⟩, [38]), (⟨some 40, .binOp .eql 9 (.tmp 35) (.tmp 39) 9, 4, none⟩, [35, 39])] 2 (Q .normal ds) σ w := mk_eq rfl
@[push_cast] theorem vr39_12 : VR r39_12 [⟨some 2, .assign (.const (.bool false)), 4, none⟩] := vR rfl
@[push_cast] theorem vr39_10 : VR r39_10 [⟨some 30, .move (.tmp 6), 3, none⟩, ⟨some 31, .binOp .add 3 (.tmp 30) (.const (.int .i64 1)) 3, 3, none⟩, ⟨some 6, .assign (.tmp 31), 3, none⟩] := vR rfl
@[push_cast] theorem vr39_4 : VR r39_4 [⟨some 18, .move (.tmp 4), 3, none⟩, ⟨some 19, .binOp .add 3 (.tmp 18) (.const (.int .i64 1)) 3, 3, none⟩, ⟨some 4, .assign (.tmp 19), 3, none⟩] := vR rfl
@[push_cast] theorem vr39_13 : VR r39_13 [⟨some 41, .fieldAddr 24 (.tmp 1) 0, 0, none⟩, ⟨some 42, .load 22 (.tmp 41), 22, none⟩, ⟨some 43, .call ⟨.builtin .len, #[.tmp 42], #[22]⟩, 3, none⟩, ⟨some 44, .binOp .geq 3 (.tmp 43) (.const (.int .i64 1)) 3, 4, none⟩, ⟨some 45, .move (.tmp 44), 4, none⟩, ⟨some 46, .fieldAddr 24 (.tmp 1) 0, 0, some (45, true)⟩, ⟨some 47, .load 22 (.tmp 46), 22, some (45, true)⟩, ⟨some 48, .call ⟨.builtin .len, #[.tmp 47], #[22]⟩, 3, some (45, true)⟩, ⟨some 49, .binOp .leq 3 (.tmp 48) (.const (.int .i64 6)) 3, 4, some (45, true)⟩, ⟨some 50, .pick (.tmp 45) (.tmp 49) (.const (.bool false)), 4, none⟩, ⟨some 51, .move (.tmp 50), 4, none⟩, ⟨some 52, .fieldAddr 24 (.tmp 1) 1, 0, some (51, true)⟩, ⟨some 53, .load 22 (.tmp 52), 22, some (51, true)⟩, ⟨some 54, .call ⟨.builtin .len, #[.tmp 53], #[22]⟩, 3, some (51, true)⟩, ⟨some 55, .binOp .leq 3 (.tmp 54) (.const (.int .i64 4)) 3, 4, some (51, true)⟩, ⟨some 56, .pick (.tmp 51) (.tmp 55) (.const (.bool false)), 4, none⟩, ⟨some 2, .assign (.tmp 56), 4, none⟩] := vR rfl
/-! 45 columbary/columbaryref13.OneKey (params #[35, 35], results #[(.tmp 4)], 19 slots) -/
def r45_0 : List VOp :=
  [⟨some 2, .box 35 (.tmp 0), 0, none⟩,
   ⟨some 3, .box 35 (.tmp 1), 0, none⟩,
   ⟨some 4, .assign (.const (.bool false)), 4, none⟩]
def r45_1 : List VOp :=
  [fad 6 35 2 1,
   lda 7 22 6,
   fad 8 35 3 1,
   lda 9 22 8,
   ⟨some 10, .call ⟨.value (.func 21), #[.tmp 7, .tmp 9], #[22, 22]⟩, 4, none⟩,
   asg 5 10 4]
def r45_2 : List VOp :=
  [mv 11 5 4,
   mv 12 11 4,
   ⟨some 13, .fieldAddr 35 (.tmp 2) 0, 0, some (12, true)⟩,
   ⟨some 14, .load 3 (.tmp 13), 3, some (12, true)⟩,
   ⟨some 15, .fieldAddr 35 (.tmp 3) 0, 0, some (12, true)⟩,
   ⟨some 16, .load 3 (.tmp 15), 3, some (12, true)⟩,
   ⟨some 17, .binOp .eql 3 (.tmp 14) (.tmp 16) 3, 4, some (12, true)⟩,
   ⟨some 18, .pick (.tmp 12) (.tmp 17) (.const (.bool false)), 4, none⟩,
   asg 4 18 4]
def B45 : VC :=
  (.seq (.region r45_0) (.seq (.region r45_1) (.seq (.region r45_2) .ret)))
theorem code45 : ∃ c, Try.f45.body = some c ∧ abs Try.f45.ntmps c = B45 := ⟨_, rfl, by kernel_rfl⟩
theorem hb45 : HasBody Try.prog 45 := hasBody_of Try.func45 (by kernel_rfl)
theorem res45 : Try.f45.results = #[(.tmp 4)] := rfl
theorem enter45 {w : World} {R : Value → World → Prop} (x0 x1 : Value) (h : vc Try.prog B45 (retK Try.prog #[(.tmp 4)] R) [] (initEnv [x0, x1] 0) w) : FnC Try.prog 45 #[x0, x1] w R := by
  obtain ⟨c, h1, h2⟩ := code45
  exact hb45.fn (ret_of_vc mixed Try.func45 h1 (Nat.le_of_ble_eq_true rfl) B45 h2 h)
@[push_cast] theorem vr45_0 : VR r45_0 [⟨some 2, .box 35 (.tmp 0), 0, none⟩, ⟨some 3, .box 35 (.tmp 1), 0, none⟩, ⟨some 4, .assign (.const (.bool false)), 4, none⟩] := vR rfl
@[push_cast] theorem vr45_1 : VR r45_1 [⟨some 6, .fieldAddr 35 (.tmp 2) 1, 0, none⟩, ⟨some 7, .load 22 (.tmp 6), 22, none⟩, ⟨some 8, .fieldAddr 35 (.tmp 3) 1, 0, none⟩, ⟨some 9, .load 22 (.tmp 8), 22, none⟩, ⟨some 10, .call ⟨.value (.func 21), #[.tmp 7, .tmp 9], #[22, 22]⟩, 4, none⟩, ⟨some 5, .assign (.tmp 10), 4, none⟩] := vR rfl
@[push_cast] theorem vr45_2 : VR r45_2 [⟨some 11, .move (.tmp 5), 4, none⟩, ⟨some 12, .move (.tmp 11), 4, none⟩, ⟨some 13, .fieldAddr 35 (.tmp 2) 0, 0, some (12, true)⟩, ⟨some 14, .load 3 (.tmp 13), 3, some (12, true)⟩, ⟨some 15, .fieldAddr 35 (.tmp 3) 0, 0, some (12, true)⟩, ⟨some 16, .load 3 (.tmp 15), 3, some (12, true)⟩, ⟨some 17, .binOp .eql 3 (.tmp 14) (.tmp 16) 3, 4, some (12, true)⟩, ⟨some 18, .pick (.tmp 12) (.tmp 17) (.const (.bool false)), 4, none⟩, ⟨some 4, .assign (.tmp 18), 4, none⟩] := vR rfl
@[push_cast] theorem bsl22_0_CodesW {K : Value → World → Prop} {w : World}  : vBuildSlice Try.prog 22 0 #[] K w = K (.slice (some ⟨w.heap.size, 0, none⟩) 0 0) (w.alloc (.cells #[] 9)) :=
  vBuildSlice_ok Try.underlying22 ti9 (by kernel_rfl) (by decide)
@[push_cast] theorem bsl25_0_CodesW {K : Value → World → Prop} {w : World}  : vBuildSlice Try.prog 25 0 #[] K w = K (.slice (some ⟨w.heap.size, 0, none⟩) 0 0) (w.alloc (.cells #[] 35)) :=
  vBuildSlice_ok Try.underlying25 ti35 (by kernel_rfl) (by decide)
@[push_cast] theorem bsl25_1_CodesW {K : Value → World → Prop} {w : World} (x00 x01 x02 x03 : Value) : vBuildSlice Try.prog 25 1 #[(0, (.agg #[x00, x01, x02, x03]))] K w = K (.slice (some ⟨w.heap.size, 0, none⟩) 1 1) (w.alloc (.cells #[x00, x01, x02, x03] 35)) :=
  vBuildSlice_ok Try.underlying25 ti35 (by kernel_rfl) (by decide)
@[push_cast] theorem bsl33_1_CodesW {K : Value → World → Prop} {w : World} (x00 x01 x02 : Value) : vBuildSlice Try.prog 33 1 #[(0, (.agg #[x00, x01, x02]))] K w = K (.slice (some ⟨w.heap.size, 0, none⟩) 1 1) (w.alloc (.cells #[x00, x01, x02] 64)) :=
  vBuildSlice_ok Try.underlying33 ti64 (by kernel_rfl) (by decide)
@[push_cast] theorem bsl47_2_CodesW {K : Value → World → Prop} {w : World} (x0 : Int) (x1 : Int) : vBuildSlice Try.prog 47 2 #[(0, (.int .i64 x0)), (1, (.int .i64 x1))] K w = K (.slice (some ⟨w.heap.size, 0, none⟩) 2 2) (w.alloc (.cells #[(.int .i64 x0), (.int .i64 x1)] 3)) :=
  vBuildSlice_ok Try.underlying47 ti3 (by kernel_rfl) (by decide)
@[push_cast] theorem bld35__CodesW {K : Value → World → Prop} {w : World}  : vBuild Try.prog 35 #[] K w = K (.agg #[(.int .i64 0), (.slice none 0 0), (.int .i64 0), (.slice none 0 0)]) w :=
  vBuild_ok (by kernel_rfl)
@[push_cast] theorem bld35_0_1_2_CodesW {K : Value → World → Prop} {w : World} (x0 : Int) (x1o : Option Addr) (x1n x1c : Nat) (x2 : Int) : vBuild Try.prog 35 #[(0, (.int .i64 x0)), (1, (.slice x1o x1n x1c)), (2, (.int .i64 x2))] K w = K (.agg #[(.int .i64 x0), (.slice x1o x1n x1c), (.int .i64 x2), (.slice none 0 0)]) w :=
  vBuild_ok (by kernel_rfl)
end Go.Proofs.Ythihbgpaoldbjaa
end
section
set_option linter.unusedSimpArgs false
namespace Go.Proofs.Ythihbgpaoldbjaa
open Go.Vc Go.Key
set_option maxRecDepth 100000
abbrev StS (w : World) (v : Value) (l : List ByteArray) : Prop := Sl w v (l.map Value.string)
theorem StS.atS {w : World} {a : Addr} {l : List ByteArray} {n c : Nat} (h : StS w (.slice (some a) n c) l) {i : Nat} (hi : i < l.length) : w.cell? (a.add i) = some (.string l[i]) := Sl.at h (by simp [hi])
@[push_cast] theorem vBinS_gtr {P : Program} {t : TypeId} {x y : Operand} {m n : ByteArray} {K : Value → World → Prop} {w : World} : vBin P .gtr t x y (.string m) (.string n) K w = K (.bool (!(Op.bytesLess m.data.toList n.data.toList || decide (m = n)))) w := mk_eq rfl
theorem nanS_c (s : ByteArray) (w : World) : FnC Try.prog 111 #[.string s] w fun r w' => r = .bool false ∧ w' = w := by
  refine enter111 _ ?_
  unfold B111
  repeat' (first | (simp (disch := omega) only [push_cast, ↓reduceIte, zA, zG, zB, zH, zI, zC, zJ, zK, zL, zD, zE, zF, zM, zN, zO, zP, zQ, reduceCtorEq, not_true_eq_false, not_false_eq_true, decide_true, Bool.not_true]) | (first | refine vIfE_of ?_ ?_ | refine vIfD_of ?_ ?_ | refine vIfQ_of ?_ ?_ | refine vIfV_of ?_ ?_) <;> intro _ | refine And.intro (by omega) ?_ | refine drawn_q ?_ | fail)
  all_goals simp
theorem nanI_c (n : Int) (w : World) : FnC Try.prog 101 #[.int .i64 n] w fun r w' => r = .bool false ∧ w' = w := by
  refine enter101 _ ?_
  unfold B101
  repeat' (first | (simp (disch := omega) only [push_cast, ↓reduceIte, zA, zG, zB, zH, zI, zC, zJ, zK, zL, zD, zE, zF, zM, zN, zO, zP, zQ, reduceCtorEq, not_true_eq_false, not_false_eq_true, decide_true, Bool.not_true]) | (first | refine vIfE_of ?_ ?_ | refine vIfD_of ?_ ?_ | refine vIfQ_of ?_ ?_ | refine vIfV_of ?_ ?_) <;> intro _ | refine And.intro (by omega) ?_ | refine drawn_q ?_ | fail)
  all_goals simp
theorem cmpS_c (a b : ByteArray) (w : World) : FnC Try.prog 102 #[.string a, .string b] w fun r w' => r = .int .i64 (cstr a b) ∧ w' = w := by
  refine enter102 _ _ ?_
  unfold B102
  repeat' (first | (simp (disch := omega) only [push_cast, ↓reduceIte, zA, zG, zB, zH, zI, zC, zJ, zK, zL, zD, zE, zF, zM, zN, zO, zP, zQ, reduceCtorEq, not_true_eq_false, not_false_eq_true]) | (first | refine vIfE_of ?_ ?_ | refine vIfD_of ?_ ?_ | refine vIfQ_of ?_ ?_ | refine vIfV_of ?_ ?_) <;> intro _ | refine And.intro (by omega) ?_ | refine drawn_q ?_ | fail)
  refine (nanS_c a w).mono ?_
  rintro _ w0 ⟨rfl, h0⟩; obtain rfl := h0.symm
  repeat' (first | (simp (disch := omega) only [push_cast, ↓reduceIte, zA, zG, zB, zH, zI, zC, zJ, zK, zL, zD, zE, zF, zM, zN, zO, zP, zQ, reduceCtorEq, not_true_eq_false, not_false_eq_true]) | (first | refine vIfE_of ?_ ?_ | refine vIfD_of ?_ ?_ | refine vIfQ_of ?_ ?_ | refine vIfV_of ?_ ?_) <;> intro _ | refine And.intro (by omega) ?_ | refine drawn_q ?_ | fail)
  refine (nanS_c b w).mono ?_
  rintro _ w0 ⟨rfl, h0⟩; obtain rfl := h0.symm
  rcases blt_tri a b with ⟨h1, h2, h3⟩ | ⟨h1, h2⟩ | ⟨h1, h2, h3⟩
  · have h1' : Op.bytesLess a.data.toList b.data.toList = true := h1
    have e : cstr a b = -1 := by simp [cstr, h1]
    repeat' (first | (simp (disch := omega) only [push_cast, ↓reduceIte, zA, zG, zB, zH, zI, zC, zJ, zK, zL, zD, zE, zF, zM, zN, zO, zP, zQ, reduceCtorEq, not_true_eq_false, not_false_eq_true, h1']) | (first | refine vIfE_of ?_ ?_ | refine vIfD_of ?_ ?_ | refine vIfQ_of ?_ ?_ | refine vIfV_of ?_ ?_) <;> intro _ | refine And.intro (by omega) ?_ | refine drawn_q ?_ | fail)
    simp [e]
  · subst h1
    have h2' : Op.bytesLess a.data.toList a.data.toList = false := h2
    have e : cstr a a = 0 := by simp [cstr, h2]
    repeat' (first | (simp (disch := omega) only [push_cast, ↓reduceIte, zA, zG, zB, zH, zI, zC, zJ, zK, zL, zD, zE, zF, zM, zN, zO, zP, zQ, reduceCtorEq, not_true_eq_false, not_false_eq_true, h2', decide_true, Bool.or_true, Bool.false_or, Bool.not_true]) | (first | refine vIfE_of ?_ ?_ | refine vIfD_of ?_ ?_ | refine vIfQ_of ?_ ?_ | refine vIfV_of ?_ ?_) <;> intro _ | refine And.intro (by omega) ?_ | refine drawn_q ?_ | fail)
    simp [e]
  · have h1' : Op.bytesLess a.data.toList b.data.toList = false := h1
    have h4 : decide (a = b) = false := decide_eq_false h3
    have e : cstr a b = 1 := by simp [cstr, h1, h3]
    repeat' (first | (simp (disch := omega) only [push_cast, ↓reduceIte, zA, zG, zB, zH, zI, zC, zJ, zK, zL, zD, zE, zF, zM, zN, zO, zP, zQ, reduceCtorEq, not_true_eq_false, not_false_eq_true, h1', h4, Bool.or_false, Bool.false_or, Bool.not_false]) | (first | refine vIfE_of ?_ ?_ | refine vIfD_of ?_ ?_ | refine vIfQ_of ?_ ?_ | refine vIfV_of ?_ ?_) <;> intro _ | refine And.intro (by omega) ?_ | refine drawn_q ?_ | fail)
    simp [e]
theorem cmpI_c (a b : Int) (w : World) : FnC Try.prog 72 #[.int .i64 a, .int .i64 b] w fun r w' => r = .int .i64 (if a < b then -1 else if b < a then 1 else 0) ∧ w' = w := by
  refine enter72 _ _ ?_
  unfold B72
  repeat' (first | (simp (disch := omega) only [push_cast, ↓reduceIte, zA, zG, zB, zH, zI, zC, zJ, zK, zL, zD, zE, zF, zM, zN, zO, zP, zQ, reduceCtorEq, not_true_eq_false, not_false_eq_true]) | (first | refine vIfE_of ?_ ?_ | refine vIfD_of ?_ ?_ | refine vIfQ_of ?_ ?_ | refine vIfV_of ?_ ?_) <;> intro _ | refine And.intro (by omega) ?_ | refine drawn_q ?_ | fail)
  refine (nanI_c a w).mono ?_
  rintro _ w0 ⟨rfl, h0⟩; obtain rfl := h0.symm
  repeat' (first | (simp (disch := omega) only [push_cast, ↓reduceIte, zA, zG, zB, zH, zI, zC, zJ, zK, zL, zD, zE, zF, zM, zN, zO, zP, zQ, reduceCtorEq, not_true_eq_false, not_false_eq_true]) | (first | refine vIfE_of ?_ ?_ | refine vIfD_of ?_ ?_ | refine vIfQ_of ?_ ?_ | refine vIfV_of ?_ ?_) <;> intro _ | refine And.intro (by omega) ?_ | refine drawn_q ?_ | fail)
  refine (nanI_c b w).mono ?_
  rintro _ w0 ⟨rfl, h0⟩; obtain rfl := h0.symm
  by_cases h1 : a < b
  · repeat' (first | (simp (disch := omega) only [push_cast, ↓reduceIte, zA, zG, zB, zH, zI, zC, zJ, zK, zL, zD, zE, zF, zM, zN, zO, zP, zQ, reduceCtorEq, not_true_eq_false, not_false_eq_true]) | (first | refine vIfE_of ?_ ?_ | refine vIfD_of ?_ ?_ | refine vIfQ_of ?_ ?_ | refine vIfV_of ?_ ?_) <;> intro _ | refine And.intro (by omega) ?_ | refine drawn_q ?_ | fail)
    simp [h1]
  · by_cases h2 : b < a
    · repeat' (first | (simp (disch := omega) only [push_cast, ↓reduceIte, zA, zG, zB, zH, zI, zC, zJ, zK, zL, zD, zE, zF, zM, zN, zO, zP, zQ, reduceCtorEq, not_true_eq_false, not_false_eq_true]) | (first | refine vIfE_of ?_ ?_ | refine vIfD_of ?_ ?_ | refine vIfQ_of ?_ ?_ | refine vIfV_of ?_ ?_) <;> intro _ | refine And.intro (by omega) ?_ | refine drawn_q ?_ | fail)
      simp [h1, h2]
    · repeat' (first | (simp (disch := omega) only [push_cast, ↓reduceIte, zA, zG, zB, zH, zI, zC, zJ, zK, zL, zD, zE, zF, zM, zN, zO, zP, zQ, reduceCtorEq, not_true_eq_false, not_false_eq_true]) | (first | refine vIfE_of ?_ ?_ | refine vIfD_of ?_ ?_ | refine vIfQ_of ?_ ?_ | refine vIfV_of ?_ ?_) <;> intro _ | refine And.intro (by omega) ?_ | refine drawn_q ?_ | fail)
      simp [h1, h2]
theorem cmpOr_c (x y : Int) (v : Value) (w : World) (h : Sl w v (([x, y] : List Int).map i64v)) : FnC Try.prog 71 #[v] w fun r w' => r = .int .i64 (if x = 0 then y else x) ∧ w' = w := by
  obtain ⟨o, c, rfl, g1, g2, h, g3⟩ := h.openM
  have hL : ([x, y] : List Int).length = 2 := rfl
  rw [hL] at h g1
  obtain ⟨a, rfl⟩ := h.some (i := 0) (by simp)
  have c0 : w.cell? a = some (.int .i64 x) := by simpa [addr_add_zero] using h.atI (i := 0) (by simp)
  have c1 : w.cell? (a.add 1) = some (.int .i64 y) := h.atI (i := 1) (by simp)
  rw [hL]
  clear hL
  refine enter71 _ ?_
  unfold B71
  repeat' (first | (simp (disch := omega) only [push_cast, ↓reduceIte, zA, zG, zB, zH, zI, zC, zJ, zK, zL, zD, zE, zF, zM, zN, zO, zP, zQ, reduceCtorEq, not_true_eq_false, not_false_eq_true]) | (first | refine vIfE_of ?_ ?_ | refine vIfD_of ?_ ?_ | refine vIfQ_of ?_ ?_ | refine vIfV_of ?_ ?_) <;> intro _ | refine And.intro (by omega) ?_ | refine drawn_q ?_ | fail)
  refine vc_loop W71_0 (fun i : Nat => [(2, .int .i64 0), (8, .int .i64 (i : Int))]) (fun i w' => i ≤ 2 ∧ w' = w ∧ (1 ≤ i → x = 0) ∧ (2 ≤ i → y = 0)) (fun i => 2 - i) 0 (by decide) ?_ ?_ ?_
  · simp (disch := omega) only [push_cast, ↓reduceIte, zA, zG, zB, zH, zI, zC, zJ, zK, zL, zD, zE, zF, zM, zN, zO, zP, zQ, reduceCtorEq, not_true_eq_false, not_false_eq_true]
  · exact ⟨by omega, rfl, by omega, by omega⟩
  rintro i uu w1 ⟨hi, hw, hx, hy⟩
  obtain rfl := hw.symm
  match i, hi with
  | 0, _ =>
    by_cases h0 : x = 0
    · subst h0
      repeat' (first | (simp (disch := omega) only [push_cast, ↓reduceIte, zA, zG, zB, zH, zI, zC, zJ, zK, zL, zD, zE, zF, zM, zN, zO, zP, zQ, reduceCtorEq, not_true_eq_false, not_false_eq_true, c0]) | (first | refine vIfE_of ?_ ?_ | refine vIfD_of ?_ ?_ | refine vIfQ_of ?_ ?_ | refine vIfV_of ?_ ?_) <;> intro _ | refine And.intro (by omega) ?_ | refine drawn_q ?_ | fail)
      exact ⟨rfl, 1, by simp (disch := omega) only [push_cast, ↓reduceIte, zA, zG, zB, zH, zI, zC, zJ, zK, zL, zD, zE, zF, zM, zN, zO, zP, zQ, reduceCtorEq, not_true_eq_false, not_false_eq_true], ⟨by omega, rfl, by simp, by simp⟩, by dsimp only; omega⟩
    · repeat' (first | (simp (disch := omega) only [push_cast, ↓reduceIte, zA, zG, zB, zH, zI, zC, zJ, zK, zL, zD, zE, zF, zM, zN, zO, zP, zQ, reduceCtorEq, not_true_eq_false, not_false_eq_true, c0]) | (first | refine vIfE_of ?_ ?_ | refine vIfD_of ?_ ?_ | refine vIfQ_of ?_ ?_ | refine vIfV_of ?_ ?_) <;> intro _ | refine And.intro (by omega) ?_ | refine drawn_q ?_ | fail)
      simp [h0]
  | 1, _ =>
    have hx := hx (by omega)
    subst hx
    by_cases h0 : y = 0
    · subst h0
      repeat' (first | (simp (disch := omega) only [push_cast, ↓reduceIte, zA, zG, zB, zH, zI, zC, zJ, zK, zL, zD, zE, zF, zM, zN, zO, zP, zQ, reduceCtorEq, not_true_eq_false, not_false_eq_true, c1]) | (first | refine vIfE_of ?_ ?_ | refine vIfD_of ?_ ?_ | refine vIfQ_of ?_ ?_ | refine vIfV_of ?_ ?_) <;> intro _ | refine And.intro (by omega) ?_ | refine drawn_q ?_ | fail)
      exact ⟨rfl, 2, by simp (disch := omega) only [push_cast, ↓reduceIte, zA, zG, zB, zH, zI, zC, zJ, zK, zL, zD, zE, zF, zM, zN, zO, zP, zQ, reduceCtorEq, not_true_eq_false, not_false_eq_true], ⟨by omega, rfl, by simp, by simp⟩, by dsimp only; omega⟩
    · repeat' (first | (simp (disch := omega) only [push_cast, ↓reduceIte, zA, zG, zB, zH, zI, zC, zJ, zK, zL, zD, zE, zF, zM, zN, zO, zP, zQ, reduceCtorEq, not_true_eq_false, not_false_eq_true, c1]) | (first | refine vIfE_of ?_ ?_ | refine vIfD_of ?_ ?_ | refine vIfQ_of ?_ ?_ | refine vIfV_of ?_ ?_) <;> intro _ | refine And.intro (by omega) ?_ | refine drawn_q ?_ | fail)
      all_goals simp
  | 2, _ =>
    have hx := hx (by omega)
    have hy := hy (by omega)
    subst hx
    subst hy
    repeat' (first | (simp (disch := omega) only [push_cast, ↓reduceIte, zA, zG, zB, zH, zI, zC, zJ, zK, zL, zD, zE, zF, zM, zN, zO, zP, zQ, reduceCtorEq, not_true_eq_false, not_false_eq_true]) | (first | refine vIfE_of ?_ ?_ | refine vIfD_of ?_ ?_ | refine vIfQ_of ?_ ?_ | refine vIfV_of ?_ ?_) <;> intro _ | refine And.intro (by omega) ?_ | refine drawn_q ?_ | fail)
    all_goals simp
theorem clist_step {a b : List ByteArray} {i : Nat} (ha : i < a.length) (hb : i < b.length) : clist (a.drop i) (b.drop i) = if cstr a[i] b[i] = 0 then clist (a.drop (i + 1)) (b.drop (i + 1)) else cstr a[i] b[i] := by
  rw [List.drop_eq_getElem_cons ha, List.drop_eq_getElem_cons hb, clist]
theorem clist_l {a b : List ByteArray} {i : Nat} (ha : i < a.length) (hb : b.length ≤ i) : clist (a.drop i) (b.drop i) = 1 := by
  rw [List.drop_eq_getElem_cons ha, List.drop_eq_nil_of_le hb, clist]
theorem clist_r {a b : List ByteArray} {i : Nat} (ha : a.length ≤ i) (hb : i < b.length) : clist (a.drop i) (b.drop i) = -1 := by
  rw [List.drop_eq_getElem_cons hb, List.drop_eq_nil_of_le ha, clist]
theorem clist_n {a b : List ByteArray} {i : Nat} (ha : a.length ≤ i) (hb : b.length ≤ i) : clist (a.drop i) (b.drop i) = 0 := by
  rw [List.drop_eq_nil_of_le hb, List.drop_eq_nil_of_le ha, clist]
theorem scmp_c (u v : Value) (a b : List ByteArray) (w : World) (hu : StS w u a) (hv : StS w v b) : FnC Try.prog 73 #[u, v] w fun r w' => r = .int .i64 (clist a b) ∧ w' = w := by
  obtain ⟨oa, ca, rfl, g1, g2, hu, g3⟩ := hu.openM
  obtain ⟨ob, cb, rfl, k1, k2, hv, k3⟩ := hv.openM
  refine enter73 _ _ ?_
  unfold B73
  repeat' (first | (simp (disch := omega) only [push_cast, ↓reduceIte, zA, zG, zB, zH, zI, zC, zJ, zK, zL, zD, zE, zF, zM, zN, zO, zP, zQ, reduceCtorEq, not_true_eq_false, not_false_eq_true]) | (first | refine vIfE_of ?_ ?_ | refine vIfD_of ?_ ?_ | refine vIfQ_of ?_ ?_ | refine vIfV_of ?_ ?_) <;> intro _ | refine And.intro (by omega) ?_ | refine drawn_q ?_ | fail)
  refine vc_loop W73_0 (fun i : Nat => [(4, .int .i64 0), (11, .int .i64 (i : Int))])
    (fun i w' => i ≤ a.length ∧ i ≤ b.length ∧ w' = w ∧ clist (a.drop i) (b.drop i) = clist a b) (fun i => a.length - i) 0 (by decide) ?_ ?_ ?_
  · simp (disch := omega) only [push_cast, ↓reduceIte, zA, zG, zB, zH, zI, zC, zJ, zK, zL, zD, zE, zF, zM, zN, zO, zP, zQ, reduceCtorEq, not_true_eq_false, not_false_eq_true]
  · exact ⟨by omega, by omega, rfl, by simp⟩
  rintro i uu w0 ⟨hi, hib, hw, he⟩
  obtain rfl := hw.symm
  by_cases ha : i < a.length
  · obtain ⟨aa, rfl⟩ := hu.some ha
    have c1 := StS.atS hu ha
    by_cases hb : i < b.length
    · obtain ⟨bb, rfl⟩ := hv.some hb
      have c2 := StS.atS hv hb
      rw [clist_step ha hb] at he
      repeat' (first | (simp (disch := omega) only [push_cast, ↓reduceIte, zA, zG, zB, zH, zI, zC, zJ, zK, zL, zD, zE, zF, zM, zN, zO, zP, zQ, reduceCtorEq, not_true_eq_false, not_false_eq_true, c1, c2]) | (first | refine vIfE_of ?_ ?_ | refine vIfD_of ?_ ?_ | refine vIfQ_of ?_ ?_ | refine vIfV_of ?_ ?_) <;> intro _ | refine And.intro (by omega) ?_ | refine drawn_q ?_ | fail)
      refine (cmpS_c _ _ w).mono ?_
      rintro _ w0 ⟨rfl, h0⟩; obtain rfl := h0.symm
      by_cases h0 : cstr a[i] b[i] = 0
      · rw [if_pos h0] at he
        repeat' (first | (simp (disch := omega) only [push_cast, ↓reduceIte, zA, zG, zB, zH, zI, zC, zJ, zK, zL, zD, zE, zF, zM, zN, zO, zP, zQ, reduceCtorEq, not_true_eq_false, not_false_eq_true, h0]) | (first | refine vIfE_of ?_ ?_ | refine vIfD_of ?_ ?_ | refine vIfQ_of ?_ ?_ | refine vIfV_of ?_ ?_) <;> intro _ | refine And.intro (by omega) ?_ | refine drawn_q ?_ | fail)
        exact ⟨rfl, i + 1, by simp (disch := omega) only [push_cast, ↓reduceIte, zA, zG, zB, zH, zI, zC, zJ, zK, zL, zD, zE, zF, zM, zN, zO, zP, zQ, reduceCtorEq, not_true_eq_false, not_false_eq_true], ⟨by omega, by omega, rfl, he⟩, by dsimp only; omega⟩
      · rw [if_neg h0] at he
        repeat' (first | (simp (disch := omega) only [push_cast, ↓reduceIte, zA, zG, zB, zH, zI, zC, zJ, zK, zL, zD, zE, zF, zM, zN, zO, zP, zQ, reduceCtorEq, not_true_eq_false, not_false_eq_true]) | (first | refine vIfE_of ?_ ?_ | refine vIfD_of ?_ ?_ | refine vIfQ_of ?_ ?_ | refine vIfV_of ?_ ?_) <;> intro _ | refine And.intro (by omega) ?_ | refine drawn_q ?_ | fail)
        simp [he]
    · have hb' : b.length ≤ i := by omega
      rw [clist_l ha hb'] at he
      repeat' (first | (simp (disch := omega) only [push_cast, ↓reduceIte, zA, zG, zB, zH, zI, zC, zJ, zK, zL, zD, zE, zF, zM, zN, zO, zP, zQ, reduceCtorEq, not_true_eq_false, not_false_eq_true, c1]) | (first | refine vIfE_of ?_ ?_ | refine vIfD_of ?_ ?_ | refine vIfQ_of ?_ ?_ | refine vIfV_of ?_ ?_) <;> intro _ | refine And.intro (by omega) ?_ | refine drawn_q ?_ | fail)
      simp [← he]
  · by_cases hb : i < b.length
    · rw [clist_r (by omega) hb] at he
      repeat' (first | (simp (disch := omega) only [push_cast, ↓reduceIte, zA, zG, zB, zH, zI, zC, zJ, zK, zL, zD, zE, zF, zM, zN, zO, zP, zQ, reduceCtorEq, not_true_eq_false, not_false_eq_true]) | (first | refine vIfE_of ?_ ?_ | refine vIfD_of ?_ ?_ | refine vIfQ_of ?_ ?_ | refine vIfV_of ?_ ?_) <;> intro _ | refine And.intro (by omega) ?_ | refine drawn_q ?_ | fail)
      simp [← he]
    · rw [clist_n (by omega) (by omega)] at he
      repeat' (first | (simp (disch := omega) only [push_cast, ↓reduceIte, zA, zG, zB, zH, zI, zC, zJ, zK, zL, zD, zE, zF, zM, zN, zO, zP, zQ, reduceCtorEq, not_true_eq_false, not_false_eq_true]) | (first | refine vIfE_of ?_ ?_ | refine vIfD_of ?_ ?_ | refine vIfQ_of ?_ ?_ | refine vIfV_of ?_ ?_) <;> intro _ | refine And.intro (by omega) ?_ | refine drawn_q ?_ | fail)
      simp [← he]
theorem texts_c (u v : Value) (a b : List ByteArray) (w : World) (hu : StS w u a) (hv : StS w v b) : FnC Try.prog 21 #[u, v] w fun r w' => r = .bool (decide (a = b)) ∧ Later w w' := by
  obtain ⟨oa, ca, rfl, g1, g2, hu, g3⟩ := hu.openM
  obtain ⟨ob, cb, rfl, k1, k2, hv, k3⟩ := hv.openM
  refine enter21 _ _ ?_
  unfold B21
  by_cases hlen : a.length = b.length
  · repeat' (first | (simp (disch := omega) only [push_cast, ↓reduceIte, zA, zG, zB, zH, zI, zC, zJ, zK, zL, zD, zE, zF, zM, zN, zO, zP, zQ, reduceCtorEq, not_true_eq_false, not_false_eq_true]) | (first | refine vIfE_of ?_ ?_ | refine vIfD_of ?_ ?_ | refine vIfQ_of ?_ ?_ | refine vIfV_of ?_ ?_) <;> intro _ | refine And.intro (by omega) ?_ | refine drawn_q ?_ | fail)
    refine vc_loop W21_0 (fun i : Nat => [(4, .bool false), (5, .int .i64 (i : Int))])
      (fun i w' => i ≤ a.length ∧ Later w w' ∧ a.take i = b.take i) (fun i => a.length - i) 0 (by decide) ?_ ?_ ?_
    · simp (disch := omega) only [push_cast, ↓reduceIte, zA, zG, zB, zH, zI, zC, zJ, zK, zL, zD, zE, zF, zM, zN, zO, zP, zQ, reduceCtorEq, not_true_eq_false, not_false_eq_true]
    · exact ⟨by omega, Later.refl _, by simp⟩
    rintro i uu w0 ⟨hi, hl, he⟩
    by_cases ha : i < a.length
    · have hb : i < b.length := by omega
      obtain ⟨aa, rfl⟩ := hu.some ha
      obtain ⟨bb, rfl⟩ := hv.some hb
      have c1 := StS.atS (hu.later hl) ha
      have c2 := StS.atS (hv.later hl) hb
      by_cases hab : a[i] = b[i]
      · repeat' (first | (simp (disch := omega) only [push_cast, ↓reduceIte, zA, zG, zB, zH, zI, zC, zJ, zK, zL, zD, zE, zF, zM, zN, zO, zP, zQ, reduceCtorEq, not_true_eq_false, not_false_eq_true, c1, c2, hab, decide_true, Bool.not_true]) | (first | refine vIfE_of ?_ ?_ | refine vIfD_of ?_ ?_ | refine vIfQ_of ?_ ?_ | refine vIfV_of ?_ ?_) <;> intro _ | refine And.intro (by omega) ?_ | refine drawn_q ?_ | fail)
        intro w1 hl1
        repeat' (first | (simp (disch := omega) only [push_cast, ↓reduceIte, zA, zG, zB, zH, zI, zC, zJ, zK, zL, zD, zE, zF, zM, zN, zO, zP, zQ, reduceCtorEq, not_true_eq_false, not_false_eq_true]) | (first | refine vIfE_of ?_ ?_ | refine vIfD_of ?_ ?_ | refine vIfQ_of ?_ ?_ | refine vIfV_of ?_ ?_) <;> intro _ | refine And.intro (by omega) ?_ | refine drawn_q ?_ | fail)
        refine ⟨rfl, i + 1, by simp (disch := omega) only [push_cast, ↓reduceIte, zA, zG, zB, zH, zI, zC, zJ, zK, zL, zD, zE, zF, zM, zN, zO, zP, zQ, reduceCtorEq, not_true_eq_false, not_false_eq_true], ⟨by omega, hl.trans hl1, ?_⟩, by simp; omega⟩
        rw [take_snoc a i ha, take_snoc b i hb, he, hab]
      · have hne : a ≠ b := fun e => by subst e; exact hab rfl
        repeat' (first | (simp (disch := omega) only [push_cast, ↓reduceIte, zA, zG, zB, zH, zI, zC, zJ, zK, zL, zD, zE, zF, zM, zN, zO, zP, zQ, reduceCtorEq, not_true_eq_false, not_false_eq_true, c1, c2, hab, decide_false, Bool.not_false]) | (first | refine vIfE_of ?_ ?_ | refine vIfD_of ?_ ?_ | refine vIfQ_of ?_ ?_ | refine vIfV_of ?_ ?_) <;> intro _ | refine And.intro (by omega) ?_ | refine drawn_q ?_ | fail)
        intro w1 hl1
        repeat' (first | (simp (disch := omega) only [push_cast, ↓reduceIte, zA, zG, zB, zH, zI, zC, zJ, zK, zL, zD, zE, zF, zM, zN, zO, zP, zQ, reduceCtorEq, not_true_eq_false, not_false_eq_true]) | (first | refine vIfE_of ?_ ?_ | refine vIfD_of ?_ ?_ | refine vIfQ_of ?_ ?_ | refine vIfV_of ?_ ?_) <;> intro _ | refine And.intro (by omega) ?_ | refine drawn_q ?_ | fail)
        simp [hne, hl.trans hl1]
    · have e : i = a.length := by omega
      subst e
      rw [List.take_length, hlen, List.take_length] at he
      repeat' (first | (simp (disch := omega) only [push_cast, ↓reduceIte, zA, zG, zB, zH, zI, zC, zJ, zK, zL, zD, zE, zF, zM, zN, zO, zP, zQ, reduceCtorEq, not_true_eq_false, not_false_eq_true]) | (first | refine vIfE_of ?_ ?_ | refine vIfD_of ?_ ?_ | refine vIfQ_of ?_ ?_ | refine vIfV_of ?_ ?_) <;> intro _ | refine And.intro (by omega) ?_ | refine drawn_q ?_ | fail)
      simp [he, hl]
  · have hne : a ≠ b := fun e => by subst e; exact hlen rfl
    repeat' (first | (simp (disch := omega) only [push_cast, ↓reduceIte, zA, zG, zB, zH, zI, zC, zJ, zK, zL, zD, zE, zF, zM, zN, zO, zP, zQ, reduceCtorEq, not_true_eq_false, not_false_eq_true]) | (first | refine vIfE_of ?_ ?_ | refine vIfD_of ?_ ?_ | refine vIfQ_of ?_ ?_ | refine vIfV_of ?_ ?_) <;> intro _ | refine And.intro (by omega) ?_ | refine drawn_q ?_ | fail)
    simp [hne, Later.refl]
end Go.Proofs.Ythihbgpaoldbjaa
end
section
set_option linter.unusedSimpArgs false
namespace Go.Proofs.Ythihbgpaoldbjaa
open Go.Vc Go.Key
set_option maxRecDepth 100000
/-- A row, and where its lists lie. -/
structure El where
  t : Int
  d : List ByteArray
  n : Int
  a : List Ag
  dv : Value
  av : Value
instance : Inhabited El := ⟨⟨0, [], 0, [], .slice none 0 0, .slice none 0 0⟩⟩
def elC (e : El) : List Value := [.int .i64 e.t, e.dv, .int .i64 e.n, e.av]
def elV (e : El) : Value := .agg #[.int .i64 e.t, e.dv, .int .i64 e.n, e.av]
theorem elC_len (e : El) : (elC e).length = 4 := rfl
def EIs (w : World) (e : El) : Prop := StS w e.dv e.d ∧ AgS w e.av e.a
theorem EIs.later {w w' : World} {e : El} (h : EIs w e) (hl : Later w w') : EIs w' e := ⟨Sl.later h.1 hl, RecS.later h.2 hl⟩
def ecmp (x y : El) : Int := ckey x.t x.d y.t y.d
def elt (x y : El) : Bool := decide (ecmp x y < 0)
theorem elt_swo : Stab.Swo elt := swo_key El.t El.d
theorem box4_later {w w' : World} {k : Nat} {a b c d : Value} {e : TypeId} (h : Blk w k #[a, b, c, d] e) (hl : Later w w') : w'.cell? ⟨k, 0, none⟩ = some a ∧ w'.cell? ⟨k, 1, none⟩ = some b ∧ w'.cell? ⟨k, 2, none⟩ = some c ∧ w'.cell? ⟨k, 3, none⟩ = some d ∧ cellsAt w' ⟨k, 0, none⟩ 4 = some [a, b, c, d] := by
  have := h.chg (Chg.of_later (ks := []) hl) (by simp)
  exact ⟨this.cell 0, this.cell 1, this.cell 2, this.cell 3, Blk.cellsAt (l := [a, b, c, d]) this⟩
/-- Two rows that came as values: their boxes. -/
theorem boxes (w : World) (x y : El) (hx : EIs w x) (hy : EIs w y) : Later w ((w.alloc (.cells #[.int .i64 x.t, x.dv, .int .i64 x.n, x.av] 35)).alloc (.cells #[.int .i64 y.t, y.dv, .int .i64 y.n, y.av] 35)) ∧ (∀ w', Later ((w.alloc (.cells #[.int .i64 x.t, x.dv, .int .i64 x.n, x.av] 35)).alloc (.cells #[.int .i64 y.t, y.dv, .int .i64 y.n, y.av] 35)) w' → EIs w' x ∧ EIs w' y ∧ Blk w' w.heap.size (elC x).toArray 35 ∧ Blk w' (w.heap.size + 1) (elC y).toArray 35 ∧
      w'.cell? ⟨w.heap.size, 0, none⟩ = some (.int .i64 x.t) ∧ w'.cell? ⟨w.heap.size, 1, none⟩ = some x.dv ∧ w'.cell? ⟨w.heap.size, 2, none⟩ = some (.int .i64 x.n) ∧ w'.cell? ⟨w.heap.size, 3, none⟩ = some x.av ∧ cellsAt w' ⟨w.heap.size, 0, none⟩ 4 = some (elC x) ∧
      w'.cell? ⟨w.heap.size + 1, 0, none⟩ = some (.int .i64 y.t) ∧ w'.cell? ⟨w.heap.size + 1, 1, none⟩ = some y.dv ∧ w'.cell? ⟨w.heap.size + 1, 2, none⟩ = some (.int .i64 y.n) ∧ w'.cell? ⟨w.heap.size + 1, 3, none⟩ = some y.av ∧ cellsAt w' ⟨w.heap.size + 1, 0, none⟩ 4 = some (elC y)) ∧ ((w.alloc (.cells #[.int .i64 x.t, x.dv, .int .i64 x.n, x.av] 35)).alloc (.cells #[.int .i64 y.t, y.dv, .int .i64 y.n, y.av] 35)).heap.size = w.heap.size + 2 := by
  have l1 := later_alloc w (.cells #[.int .i64 x.t, x.dv, .int .i64 x.n, x.av] 35)
  have B1 := Blk.new w #[.int .i64 x.t, x.dv, .int .i64 x.n, x.av] 35
  have s1 : (w.alloc (.cells #[.int .i64 x.t, x.dv, .int .i64 x.n, x.av] 35)).heap.size = w.heap.size + 1 := World.size_alloc w _
  generalize w.alloc (.cells #[.int .i64 x.t, x.dv, .int .i64 x.n, x.av] 35) = w1 at *
  have l2 := later_alloc w1 (.cells #[.int .i64 y.t, y.dv, .int .i64 y.n, y.av] 35)
  have B2 := Blk.new w1 #[.int .i64 y.t, y.dv, .int .i64 y.n, y.av] 35
  have s2 : (w1.alloc (.cells #[.int .i64 y.t, y.dv, .int .i64 y.n, y.av] 35)).heap.size = w1.heap.size + 1 := World.size_alloc w1 _
  generalize w1.alloc (.cells #[.int .i64 y.t, y.dv, .int .i64 y.n, y.av] 35) = w2 at *
  rw [s1] at B2
  refine ⟨l1.trans l2, fun w' hl => ?_, by omega⟩
  obtain ⟨a0, a1, a2, a3, a4⟩ := box4_later B1 (l2.trans hl)
  obtain ⟨b0, b1, b2, b3, b4⟩ := box4_later B2 hl
  exact ⟨hx.later ((l1.trans l2).trans hl), hy.later ((l1.trans l2).trans hl), B1.chg (Chg.of_later (ks := []) (l2.trans hl)) (by simp), B2.chg (Chg.of_later (ks := []) hl) (by simp), a0, a1, a2, a3, a4, b0, b1, b2, b3, b4⟩
theorem rcompare_c (x y : El) (w : World) (hx : EIs w x) (hy : EIs w y) : FnC Try.prog 34 #[elV x, elV y] w fun r w' => r = .int .i64 (ecmp x y) ∧ Later w w' := by
  unfold elV
  refine enter34 _ _ ?_
  unfold B34
  have eca : (Value.agg #[.int .i64 x.t, x.dv, .int .i64 x.n, x.av]).cells = #[.int .i64 x.t, x.dv, .int .i64 x.n, x.av] := rfl
  have ecb : (Value.agg #[.int .i64 y.t, y.dv, .int .i64 y.n, y.av]).cells = #[.int .i64 y.t, y.dv, .int .i64 y.n, y.av] := rfl
  have s1 : (w.alloc (.cells #[.int .i64 x.t, x.dv, .int .i64 x.n, x.av] 35)).heap.size = w.heap.size + 1 := World.size_alloc w _
  repeat' (first | (simp (disch := omega) only [push_cast, ↓reduceIte, zA, zG, zB, zH, zI, zC, zJ, zK, zL, zD, zE, zF, zM, zN, zO, zP, zQ, reduceCtorEq, not_true_eq_false, not_false_eq_true, eca, ecb, s1]) | (first | refine vIfE_of ?_ ?_ | refine vIfD_of ?_ ?_ | refine vIfQ_of ?_ ?_ | refine vIfV_of ?_ ?_) <;> intro _ | refine And.intro (by omega) ?_ | fail)
  obtain ⟨l2, F, hs⟩ := boxes w x y hx hy
  generalize ((w.alloc (.cells #[.int .i64 x.t, x.dv, .int .i64 x.n, x.av] 35)).alloc (.cells #[.int .i64 y.t, y.dv, .int .i64 y.n, y.av] 35)) = w2 at *
  obtain ⟨hx2, hy2, _, _, a0, a1, _, _, _, b0, b1, _, _, _⟩ := F w2 (Later.refl _)
  refine drawn_k 9 ?_
  repeat' (first | (simp (disch := omega) only [push_cast, ↓reduceIte, zA, zG, zB, zH, zI, zC, zJ, zK, zL, zD, zE, zF, zM, zN, zO, zP, zQ, reduceCtorEq, not_true_eq_false, not_false_eq_true, a0, a1, b0, b1, addr_add_eq, Nat.zero_add]) | (first | refine vIfE_of ?_ ?_ | refine vIfD_of ?_ ?_ | refine vIfQ_of ?_ ?_ | refine vIfV_of ?_ ?_) <;> intro _ | refine And.intro (by omega) ?_ | fail)
  refine NFn.fix hb72 (v := .int .i64 (if x.t < y.t then -1 else if y.t < x.t then 1 else 0)) (fun w' _ => (cmpI_c _ _ w').mono fun _ _ h => ⟨h.1, h.2 ▸ Later.refl _⟩) ?_
  repeat' (first | (simp (disch := omega) only [push_cast, ↓reduceIte, zA, zG, zB, zH, zI, zC, zJ, zK, zL, zD, zE, zF, zM, zN, zO, zP, zQ, reduceCtorEq, not_true_eq_false, not_false_eq_true, a1, b1, addr_add_eq, Nat.zero_add]) | (first | refine vIfE_of ?_ ?_ | refine vIfD_of ?_ ?_ | refine vIfQ_of ?_ ?_ | refine vIfV_of ?_ ?_) <;> intro _ | refine And.intro (by omega) ?_ | fail)
  intro w3 l3
  repeat' (first | (simp (disch := omega) only [push_cast, ↓reduceIte, zA, zG, zB, zH, zI, zC, zJ, zK, zL, zD, zE, zF, zM, zN, zO, zP, zQ, reduceCtorEq, not_true_eq_false, not_false_eq_true]) | (first | refine vIfE_of ?_ ?_ | refine vIfD_of ?_ ?_ | refine vIfQ_of ?_ ?_ | refine vIfV_of ?_ ?_) <;> intro _ | refine And.intro (by omega) ?_ | fail)
  refine (scmp_c _ _ _ _ w3 (hx2.later l3).1 (hy2.later l3).1).mono ?_
  rintro _ w4 ⟨rfl, h4⟩
  obtain rfl := h4.symm
  repeat' (first | (simp (disch := omega) only [push_cast, ↓reduceIte, zA, zG, zB, zH, zI, zC, zJ, zK, zL, zD, zE, zF, zM, zN, zO, zP, zQ, reduceCtorEq, not_true_eq_false, not_false_eq_true]) | (first | refine vIfE_of ?_ ?_ | refine vIfD_of ?_ ?_ | refine vIfQ_of ?_ ?_ | refine vIfV_of ?_ ?_) <;> intro _ | refine And.intro (by omega) ?_ | refine drawn_q ?_ | fail)
  have e : (if (if x.t < y.t then (-1 : Int) else if y.t < x.t then 1 else 0) = 0 then clist x.d y.d else (if x.t < y.t then -1 else if y.t < x.t then 1 else 0)) = ecmp x y := by
    unfold ecmp ckey
    by_cases h1 : x.t < y.t
    · simp [h1]
    · by_cases h2 : y.t < x.t <;> simp [h1, h2]
  generalize (if x.t < y.t then (-1 : Int) else if y.t < x.t then 1 else 0) = c at *
  have lb := later_alloc w3 (.cells #[.int .i64 c, .int .i64 (clist x.d y.d)] 3)
  have hsl : Sl (w3.alloc (.cells #[.int .i64 c, .int .i64 (clist x.d y.d)] 3)) (.slice (some ⟨w3.heap.size, 0, none⟩) 2 2) (([c, clist x.d y.d] : List Int).map i64v) :=
    Sl.of_blk (xs := [.int .i64 c, .int .i64 (clist x.d y.d)]) (Blk.new w3 _ _) rfl (by unfold maxLen; omega)
  refine (cmpOr_c _ _ _ _ hsl).mono ?_
  rintro _ w5 ⟨rfl, h5⟩
  obtain rfl := h5.symm
  rw [e]
  repeat' (first | (simp (disch := omega) only [push_cast, ↓reduceIte, zA, zG, zB, zH, zI, zC, zJ, zK, zL, zD, zE, zF, zM, zN, zO, zP, zQ, reduceCtorEq, not_true_eq_false, not_false_eq_true]) | (first | refine vIfE_of ?_ ?_ | refine vIfD_of ?_ ?_ | refine vIfQ_of ?_ ?_ | refine vIfV_of ?_ ?_) <;> intro _ | refine And.intro (by omega) ?_ | refine drawn_q ?_ | fail)
  first | exact ⟨rfl, ((l2.trans l3).trans lb)⟩ | exact ((l2.trans l3).trans lb)
theorem onekey_c (x y : El) (w : World) (hx : EIs w x) (hy : EIs w y) : FnC Try.prog 45 #[elV x, elV y] w fun r w' => r = .bool (decide (ecmp x y = 0)) ∧ Later w w' := by
  unfold elV
  refine enter45 _ _ ?_
  unfold B45
  have eca : (Value.agg #[.int .i64 x.t, x.dv, .int .i64 x.n, x.av]).cells = #[.int .i64 x.t, x.dv, .int .i64 x.n, x.av] := rfl
  have ecb : (Value.agg #[.int .i64 y.t, y.dv, .int .i64 y.n, y.av]).cells = #[.int .i64 y.t, y.dv, .int .i64 y.n, y.av] := rfl
  have s1 : (w.alloc (.cells #[.int .i64 x.t, x.dv, .int .i64 x.n, x.av] 35)).heap.size = w.heap.size + 1 := World.size_alloc w _
  repeat' (first | (simp (disch := omega) only [push_cast, ↓reduceIte, zA, zG, zB, zH, zI, zC, zJ, zK, zL, zD, zE, zF, zM, zN, zO, zP, zQ, reduceCtorEq, not_true_eq_false, not_false_eq_true, eca, ecb, s1, addr_add_eq, Nat.zero_add]) | (first | refine vIfE_of ?_ ?_ | refine vIfD_of ?_ ?_ | refine vIfQ_of ?_ ?_ | refine vIfV_of ?_ ?_) <;> intro _ | refine And.intro (by omega) ?_ | fail)
  obtain ⟨l2, F, hs⟩ := boxes w x y hx hy
  generalize ((w.alloc (.cells #[.int .i64 x.t, x.dv, .int .i64 x.n, x.av] 35)).alloc (.cells #[.int .i64 y.t, y.dv, .int .i64 y.n, y.av] 35)) = w2 at *
  obtain ⟨hx2, hy2, _, _, a0, a1, _, _, _, b0, b1, _, _, _⟩ := F w2 (Later.refl _)
  repeat' (first | (simp (disch := omega) only [push_cast, ↓reduceIte, zA, zG, zB, zH, zI, zC, zJ, zK, zL, zD, zE, zF, zM, zN, zO, zP, zQ, reduceCtorEq, not_true_eq_false, not_false_eq_true, a0, a1, b0, b1, addr_add_eq, Nat.zero_add]) | (first | refine vIfE_of ?_ ?_ | refine vIfD_of ?_ ?_ | refine vIfQ_of ?_ ?_ | refine vIfV_of ?_ ?_) <;> intro _ | refine And.intro (by omega) ?_ | refine drawn_q ?_ | fail)
  refine (texts_c _ _ _ _ w2 hx2.1 hy2.1).mono ?_
  rintro _ w3 ⟨rfl, l3⟩
  obtain ⟨_, _, _, _, a0, a1, _, _, _, b0, b1, _, _, _⟩ := F w3 l3
  have l03 := l2.trans l3
  have hk := ckey_is x.t x.d y.t y.d
  by_cases hd : x.d = y.d
  · by_cases ht : x.t = y.t
    · have e : ecmp x y = 0 := by rcases hk with h | h | h; exact absurd ⟨ht, hd⟩ h.2.2; exact h.1; exact absurd ⟨ht, hd⟩ h.2.2
      rw [decide_eq_true hd, decide_eq_true e]
      repeat' (first | (simp (disch := omega) only [push_cast, ↓reduceIte, zA, zG, zB, zH, zI, zC, zJ, zK, zL, zD, zE, zF, zM, zN, zO, zP, zQ, reduceCtorEq, not_true_eq_false, not_false_eq_true, a0, b0, ht, decide_true, addr_add_eq, Nat.zero_add]) | (first | refine vIfE_of ?_ ?_ | refine vIfD_of ?_ ?_ | refine vIfQ_of ?_ ?_ | refine vIfV_of ?_ ?_) <;> intro _ | refine And.intro (by omega) ?_ | refine drawn_q ?_ | fail)
      first | exact ⟨rfl, l03⟩ | exact l03
    · have e : ¬ ecmp x y = 0 := by intro h0; have h0 : ckey x.t x.d y.t y.d = 0 := h0; rcases hk with h | h | h; omega; exact absurd h.2.2.1 ht; omega
      rw [decide_eq_true hd, decide_eq_false e]
      repeat' (first | (simp (disch := omega) only [push_cast, ↓reduceIte, zA, zG, zB, zH, zI, zC, zJ, zK, zL, zD, zE, zF, zM, zN, zO, zP, zQ, reduceCtorEq, not_true_eq_false, not_false_eq_true, a0, b0, addr_add_eq, Nat.zero_add]) | (first | refine vIfE_of ?_ ?_ | refine vIfD_of ?_ ?_ | refine vIfQ_of ?_ ?_ | refine vIfV_of ?_ ?_) <;> intro _ | refine And.intro (by omega) ?_ | refine drawn_q ?_ | fail)
      first | exact ⟨(by simp [ht]), l03⟩ | exact l03
  · have e : ¬ ecmp x y = 0 := by intro h0; have h0 : ckey x.t x.d y.t y.d = 0 := h0; rcases hk with h | h | h; omega; exact absurd h.2.2.2 hd; omega
    rw [decide_eq_false hd, decide_eq_false e]
    repeat' (first | (simp (disch := omega) only [push_cast, ↓reduceIte, zA, zG, zB, zH, zI, zC, zJ, zK, zL, zD, zE, zF, zM, zN, zO, zP, zQ, reduceCtorEq, not_true_eq_false, not_false_eq_true, a0, b0, addr_add_eq, Nat.zero_add]) | (first | refine vIfE_of ?_ ?_ | refine vIfD_of ?_ ?_ | refine vIfQ_of ?_ ?_ | refine vIfV_of ?_ ?_) <;> intro _ | refine And.intro (by omega) ?_ | refine drawn_q ?_ | fail)
    first | exact ⟨rfl, l03⟩ | exact l03
end Go.Proofs.Ythihbgpaoldbjaa
end
section
set_option linter.unusedSimpArgs false
namespace Go.Proofs.Ythihbgpaoldbjaa
open Go.Vc Go.Key Go.Stab
set_option maxRecDepth 100000
/-- A row whose lists are of someone's own. -/
def EO (w : World) (B : Nat) (e : El) : Prop := w.ownsRow B 9 1 e.dv e.d.length (e.d.map Value.string) ∧ OwnA w B e.av e.a
theorem EO.is {w : World} {B : Nat} {e : El} (h : EO w B e) : EIs w e := ⟨Sl.of_own h.1, OwnR.s h.2⟩
theorem EO.later {w w' : World} {B : Nat} {e : El} (h : EO w B e) (hl : Later w w') : EO w' B e := ⟨own_later h.1 hl, OwnR.later h.2 hl⟩
theorem EO.base {w : World} {B B' : Nat} {e : El} (h : EO w B e) (hb : B' ≤ B) : EO w B' e := ⟨own_base h.1 hb, OwnR.base h.2 hb⟩
theorem EO.chg {w w' : World} {B g : Nat} {e : El} {cs : Array Value} (h : EO w B e) (hb : Blk w g cs 35) (c : Chg w w' [g]) : EO w' B e :=
  ⟨own_chg_ty h.1 hb (by decide) c, own_chg_ty h.2 hb (by decide) c⟩
theorem EIs.slices {w : World} {e : El} (h : EIs w e) : (∃ o n c, e.dv = .slice o n c) ∧ (∃ o n c, e.av = .slice o n c) := by
  obtain ⟨o, c, h1, _⟩ := Sl.openM h.1
  obtain ⟨o', c', h2, _⟩ := RecS.slice h.2
  exact ⟨⟨o, _, c, h1⟩, ⟨o', _, c', h2⟩⟩
theorem elC_one {w : World} {e : El} (h : EIs w e) : ∀ u ∈ elC e, u.oneCell' = true := by
  obtain ⟨⟨o, n, c, h1⟩, ⟨o', n', c', h2⟩⟩ := h.slices
  intro u hu
  unfold elC at hu
  rw [h1, h2] at hu
  simp only [List.mem_cons, List.not_mem_nil, or_false] at hu
  rcases hu with rfl | rfl | rfl | rfl <;> rfl
abbrev OwnE (w : World) (B : Nat) (v : Value) (l : List El) : Prop := OwnR elC 4 w B 35 v l
/-- Rows being sorted. -/
structure Sw (w : World) (B B' g c : Nat) (L l : List El) : Prop where
  own : OwnE w B (.slice (some ⟨g, 0, none⟩) l.length c) l
  els : ∀ e ∈ L, EO w B' e
  sub : ∀ e ∈ l, e ∈ L
  big : l.length ≤ 1000000
theorem Sw.later {w w' : World} {B B' g c : Nat} {L l : List El} (h : Sw w B B' g c L l) (hl : Later w w') : Sw w' B B' g c L l := ⟨h.own.later hl, fun e he => (h.els e he).later hl, h.sub, h.big⟩
theorem Sw.at {w : World} {B B' g c : Nat} {L l : List El} (h : Sw w B B' g c L l) {i : Nat} (hi : i < l.length) : cellsAt w ⟨g, i * 4, none⟩ 4 = some (elC l[i]!) := by
  rw [getElem!_pos l i hi]
  have := RecS.get elC_len h.own.s hi
  rwa [addr_add_eq, Nat.zero_add] at this
theorem Sw.elAt {w : World} {B B' g c : Nat} {L l : List El} (h : Sw w B B' g c L l) {i : Nat} (hi : i < l.length) : EO w B' l[i]! := by
  rw [getElem!_pos l i hi]
  exact h.els _ (h.sub _ (List.getElem_mem _))
theorem Sw.store {w : World} {B B' g c : Nat} {L l : List El} (h : Sw w B B' g c L l) {i : Nat} (hi : i < l.length) {e : El} (he : e ∈ L) {K : Value → World → Prop} (hK : ∀ w', Sw w' B B' g c L (l.set i e) → Chg w w' [g] → K undef w') :
    vStoreD Try.prog 35 (some 4) (.pointer (some ⟨g, i * 4, none⟩)) (.agg (elC e).toArray) K w := by
  obtain ⟨g', eg, hB, ⟨cs, hb⟩, hcan, ho, hc⟩ := OwnR.set elC_len h.own hi e
  have eg' : g = g' := by have := congrArg Addr.block eg; simpa using this
  subst eg'
  rw [addr_add_eq, Nat.zero_add] at hcan ho hc
  refine ⟨rfl, ?_, ?_, ?_⟩
  · simpa [Value.cells] using elC_one (h.els e he).is
  · simpa [Value.cells] using hcan
  · have e1 : (Value.agg (elC e).toArray).cells.toList = elC e := by simp [Value.cells]
    rw [e1]
    refine hK _ ⟨by simpa using ho, fun x hx => (h.els x hx).chg hb hc, fun x hx => ?_, by simpa using h.big⟩ hc
    rcases List.mem_or_eq_of_mem_set hx with hx | rfl
    · exact h.sub x hx
    · exact he
theorem Sw.mem {w : World} {B B' g c : Nat} {L l : List El} (h : Sw w B B' g c L l) {i : Nat} (hi : i < l.length) : l[i]! ∈ L := by rw [getElem!_pos l i hi]; exact h.sub _ (List.getElem_mem _)
abbrev cmpV : Value := .func (.func 34) #[] #[]
theorem swapRange_c (B B' g c : Nat) (L l : List El) (a b k : Nat) (w : World) (h : Sw w B B' g c L l) (ha : a + k ≤ l.length) (hb : b + k ≤ l.length) :
    FnC Try.prog 122 #[.slice (some ⟨g, 0, none⟩) l.length c, .int .i64 a, .int .i64 b, .int .i64 k, cmpV] w fun r w' => Sw w' B B' g c L (swps l a b k) ∧ Chg w w' [g] := by
  have hbig := h.big
  refine enter122 _ _ _ _ _ ?_
  unfold B122
  repeat' (first | (simp (disch := omega) only [push_cast, ↓reduceIte, zA, zG, zB, zH, zI, zC, zJ, zK, zL, zD, zE, zF, zM, zN, zO, zP, zQ, reduceCtorEq, not_true_eq_false, not_false_eq_true]) | (first | refine vIfE_of ?_ ?_ | refine vIfD_of ?_ ?_ | refine vIfQ_of ?_ ?_ | refine vIfV_of ?_ ?_) <;> intro _ | refine And.intro (by omega) ?_ | refine drawn_q ?_ | fail)
  refine vc_loop W122_0 (fun i : Nat => [(10, .int .i64 (i : Int))]) (fun i w' => i ≤ k ∧ Sw w' B B' g c L (swps l a b i) ∧ Chg w w' [g]) (fun i => k - i) 0 (by decide) ?_ ?_ ?_
  · simp (disch := omega) only [push_cast, ↓reduceIte, zA, zG, zB, zH, zI, zC, zJ, zK, zL, zD, zE, zF, zM, zN, zO, zP, zQ, reduceCtorEq, not_true_eq_false, not_false_eq_true]
  · exact ⟨by omega, h, Chg.refl _ _⟩
  rintro i uu w1 ⟨hi, h1, c1⟩
  have hlen := swps_len l a b i
  by_cases hlt : i < k
  · have ea : ((a : Int) + (i : Int)).toNat = a + i := by omega
    have eb : ((b : Int) + (i : Int)).toNat = b + i := by omega
    have fa := h1.at (i := a + i) (by omega)
    have fb := h1.at (i := b + i) (by omega)
    repeat' (first | (simp (disch := omega) only [push_cast, ↓reduceIte, zA, zG, zB, zH, zI, zC, zJ, zK, zL, zD, zE, zF, zM, zN, zO, zP, zQ, reduceCtorEq, not_true_eq_false, not_false_eq_true]) | (first | refine vIfE_of ?_ ?_ | refine vIfD_of ?_ ?_ | refine vIfQ_of ?_ ?_ | refine vIfV_of ?_ ?_) <;> intro _ | refine And.intro (by omega) ?_ | fail)
    refine drawnS_k 21 ?_
    repeat' (first | (simp (disch := omega) only [push_cast, ↓reduceIte, zA, zG, zB, zH, zI, zC, zJ, zK, zL, zD, zE, zF, zM, zN, zO, zP, zQ, reduceCtorEq, not_true_eq_false, not_false_eq_true, ea, eb, fa, fb]) | (first | refine vIfE_of ?_ ?_ | refine vIfD_of ?_ ?_ | refine vIfQ_of ?_ ?_ | refine vIfV_of ?_ ?_) <;> intro _ | refine And.intro (by omega) ?_ | fail)
    refine ⟨rfl, fun w2 l2 => ⟨by simp (disch := omega) only [push_cast, ↓reduceIte, zA, zG, zB, zH, zI, zC, zJ, zK, zL, zD, zE, zF, zM, zN, zO, zP, zQ, reduceCtorEq, not_true_eq_false, not_false_eq_true, implies_true, and_self], ?_⟩⟩
    have h2 := h1.later l2
    have c2 := c1.trans (Chg.of_later l2)
    repeat' (first | (simp (disch := omega) only [push_cast, ↓reduceIte, zA, zG, zB, zH, zI, zC, zJ, zK, zL, zD, zE, zF, zM, zN, zO, zP, zQ, reduceCtorEq, not_true_eq_false, not_false_eq_true, ea, eb]) | (first | refine vIfE_of ?_ ?_ | refine vIfD_of ?_ ?_ | refine vIfQ_of ?_ ?_ | refine vIfV_of ?_ ?_) <;> intro _ | refine And.intro (by omega) ?_ | fail)
    refine h2.store (i := a + i) (by omega) (h2.mem (i := b + i) (by omega)) fun w3 h3 c3 => ?_
    repeat' (first | (simp (disch := omega) only [push_cast, ↓reduceIte, zA, zG, zB, zH, zI, zC, zJ, zK, zL, zD, zE, zF, zM, zN, zO, zP, zQ, reduceCtorEq, not_true_eq_false, not_false_eq_true, eb]) | (first | refine vIfE_of ?_ ?_ | refine vIfD_of ?_ ?_ | refine vIfQ_of ?_ ?_ | refine vIfV_of ?_ ?_) <;> intro _ | refine And.intro (by omega) ?_ | fail)
    refine h3.store (i := b + i) (by simp; omega) (h2.mem (i := a + i) (by omega)) fun w4 h4 c4 => ?_
    repeat' (first | (simp (disch := omega) only [push_cast, ↓reduceIte, zA, zG, zB, zH, zI, zC, zJ, zK, zL, zD, zE, zF, zM, zN, zO, zP, zQ, reduceCtorEq, not_true_eq_false, not_false_eq_true]) | (first | refine vIfE_of ?_ ?_ | refine vIfD_of ?_ ?_ | refine vIfQ_of ?_ ?_ | refine vIfV_of ?_ ?_) <;> intro _ | refine And.intro (by omega) ?_ | refine drawn_q ?_ | fail)
    exact ⟨rfl, i + 1, by simp (disch := omega) only [push_cast, ↓reduceIte, zA, zG, zB, zH, zI, zC, zJ, zK, zL, zD, zE, zF, zM, zN, zO, zP, zQ, reduceCtorEq, not_true_eq_false, not_false_eq_true], ⟨by omega, h4, (c2.trans c3).trans c4⟩, by dsimp only; omega⟩
  · have e : i = k := by omega
    subst e
    repeat' (first | (simp (disch := omega) only [push_cast, ↓reduceIte, zA, zG, zB, zH, zI, zC, zJ, zK, zL, zD, zE, zF, zM, zN, zO, zP, zQ, reduceCtorEq, not_true_eq_false, not_false_eq_true]) | (first | refine vIfE_of ?_ ?_ | refine vIfD_of ?_ ?_ | refine vIfQ_of ?_ ?_ | refine vIfV_of ?_ ?_) <;> intro _ | refine And.intro (by omega) ?_ | refine drawn_q ?_ | fail)
    first | exact ⟨h1, c1⟩ | exact c1
theorem rotate_c (B B' g c : Nat) (L X u v Y : List El) (w : World) (h : Sw w B B' g c L (X ++ u ++ v ++ Y)) (hu : 0 < u.length) (hv : 0 < v.length) :
    FnC Try.prog 117 #[.slice (some ⟨g, 0, none⟩) (X ++ u ++ v ++ Y).length c, .int .i64 X.length, .int .i64 ((X.length + u.length : Nat) : Int), .int .i64 ((X.length + u.length + v.length : Nat) : Int), cmpV] w fun r w' => Sw w' B B' g c L (X ++ v ++ u ++ Y) ∧ Chg w w' [g] := by
  have hbig := h.big
  have hlen : (X ++ u ++ v ++ Y).length = X.length + u.length + v.length + Y.length := by simp; omega
  rw [hlen] at hbig
  generalize hN : (X ++ u ++ v ++ Y).length = N at *
  refine enter117 _ _ _ _ _ ?_
  unfold B117
  have ei : ((X.length + u.length : Nat) : Int) - (X.length : Int) = (u.length : Int) := by omega
  have ej : ((X.length + u.length + v.length : Nat) : Int) - ((X.length + u.length : Nat) : Int) = (v.length : Int) := by omega
  generalize hm : X.length + u.length = m at *
  have ej' : (m : Int) + (v.length : Int) - (m : Int) = (v.length : Int) := by omega
  repeat' (first | (simp (disch := omega) only [push_cast, ↓reduceIte, zA, zG, zB, zH, zI, zC, zJ, zK, zL, zD, zE, zF, zM, zN, zO, zP, zQ, reduceCtorEq, not_true_eq_false, not_false_eq_true, ei, ej]) | (first | refine vIfE_of ?_ ?_ | refine vIfD_of ?_ ?_ | refine vIfQ_of ?_ ?_ | refine vIfV_of ?_ ?_) <;> intro _ | refine And.intro (by omega) ?_ | refine drawn_q ?_ | fail)
  refine vc_loop W117_0 (fun p : Nat × Nat => [(10, .int .i64 (p.1 : Int)), (11, .int .i64 (p.2 : Int))])
    (fun p w' => ∃ dl P Q dr, P.length = p.1 ∧ Q.length = p.2 ∧ 0 < p.1 ∧ 0 < p.2 ∧ X.length + dl.length + P.length = m ∧ v ++ u = dl ++ Q ++ P ++ dr ∧ Sw w' B B' g c L (X ++ dl ++ P ++ Q ++ (dr ++ Y)) ∧ Chg w w' [g]) (fun p => p.1 + p.2) (u.length, v.length) (by decide) ?_ ?_ ?_
  · simp (disch := omega) only [push_cast, ↓reduceIte, zA, zG, zB, zH, zI, zC, zJ, zK, zL, zD, zE, zF, zM, zN, zO, zP, zQ, reduceCtorEq, not_true_eq_false, not_false_eq_true, ei, ej, ej']
  · exact ⟨[], u, v, [], rfl, rfl, hu, hv, by simp; omega, by simp, by simpa using h, Chg.refl _ _⟩
  rintro ⟨i, j⟩ uu w1 ⟨dl, P, Q, dr, hP, hQ, hi0, hj0, hmP, hvu, h1, c1⟩
  dsimp only at hP hQ hi0 hj0
  have htot := congrArg List.length hvu
  simp only [List.length_append] at htot
  have hLn : (X ++ dl ++ P ++ Q ++ (dr ++ Y)).length = N := by simp only [List.length_append]; omega
  rcases Nat.lt_trichotomy i j with hij | hij | hij
  · obtain ⟨Q1, Q2, rfl, q2, q1, hs⟩ := rot_lt (X := X ++ dl) (P := P) (Q := Q) (Y := dr ++ Y) (by omega)
    have h1' := swapRange_c B B' g c L (X ++ dl ++ P ++ (Q1 ++ Q2) ++ (dr ++ Y)) (X ++ dl).length ((X ++ dl).length + (Q1 ++ Q2).length) P.length w1 h1 (by simp only [List.length_append]; omega) (by simp only [List.length_append] at *; omega)
    rw [hs, hLn] at h1'
    have a1 : ((X ++ dl).length : Int) = (m : Int) - (i : Int) := by rw [List.length_append]; omega
    have a2 : (((X ++ dl).length + (Q1 ++ Q2).length : Nat) : Int) = (m : Int) + (j : Int) - (i : Int) := by rw [List.length_append, hQ]; omega
    rw [a1, a2, hP] at h1'
    have hjo := hQ
    rw [List.length_append] at hjo
    repeat' (first | (simp (disch := omega) only [push_cast, ↓reduceIte, zA, zG, zB, zH, zI, zC, zJ, zK, zL, zD, zE, zF, zM, zN, zO, zP, zQ, reduceCtorEq, not_true_eq_false, not_false_eq_true]) | (first | refine vIfE_of ?_ ?_ | refine vIfD_of ?_ ?_ | refine vIfQ_of ?_ ?_ | refine vIfV_of ?_ ?_) <;> intro _ | refine And.intro (by omega) ?_ | refine drawn_q ?_ | fail)
    refine h1'.mono ?_
    rintro _ w2 ⟨h2, c2⟩
    repeat' (first | (simp (disch := omega) only [push_cast, ↓reduceIte, zA, zG, zB, zH, zI, zC, zJ, zK, zL, zD, zE, zF, zM, zN, zO, zP, zQ, reduceCtorEq, not_true_eq_false, not_false_eq_true]) | (first | refine vIfE_of ?_ ?_ | refine vIfD_of ?_ ?_ | refine vIfQ_of ?_ ?_ | refine vIfV_of ?_ ?_) <;> intro _ | refine And.intro (by omega) ?_ | refine drawn_q ?_ | fail)
    refine ⟨rfl, (i, j - i), by simp (disch := omega) only [push_cast, ↓reduceIte, zA, zG, zB, zH, zI, zC, zJ, zK, zL, zD, zE, zF, zM, zN, zO, zP, zQ, reduceCtorEq, not_true_eq_false, not_false_eq_true], ⟨dl, Q2, Q1, P ++ dr, by dsimp only; omega, by dsimp only; omega, by dsimp only; omega, by dsimp only; omega, by omega, ?_, by simpa using h2, c1.trans c2⟩, by dsimp only; omega⟩
    rw [hvu]; simp
  · subst hij
    have hs := rot_eq (X := X ++ dl) (P := P) (Q := Q) (Y := dr ++ Y) (by omega)
    have h1' := swapRange_c B B' g c L (X ++ dl ++ P ++ Q ++ (dr ++ Y)) (X ++ dl).length ((X ++ dl).length + P.length) P.length w1 h1 (by simp only [List.length_append]; omega) (by simp only [List.length_append]; omega)
    rw [hs, hLn] at h1'
    have a1 : ((X ++ dl).length : Int) = (m : Int) - (i : Int) := by rw [List.length_append]; omega
    have a2 : (((X ++ dl).length + P.length : Nat) : Int) = (m : Int) := by rw [List.length_append]; omega
    rw [a1, a2, hP] at h1'
    repeat' (first | (simp (disch := omega) only [push_cast, ↓reduceIte, zA, zG, zB, zH, zI, zC, zJ, zK, zL, zD, zE, zF, zM, zN, zO, zP, zQ, reduceCtorEq, not_true_eq_false, not_false_eq_true]) | (first | refine vIfE_of ?_ ?_ | refine vIfD_of ?_ ?_ | refine vIfQ_of ?_ ?_ | refine vIfV_of ?_ ?_) <;> intro _ | refine And.intro (by omega) ?_ | refine drawn_q ?_ | fail)
    refine h1'.mono ?_
    rintro _ w2 ⟨h2, c2⟩
    have hf : Sw w2 B B' g c L (X ++ v ++ u ++ Y) := by
      have e : X ++ v ++ u ++ Y = X ++ dl ++ Q ++ P ++ (dr ++ Y) := by
        rw [List.append_assoc X v u, hvu]; simp
      rw [e]; exact h2
    repeat' (first | (simp (disch := omega) only [push_cast, ↓reduceIte, zA, zG, zB, zH, zI, zC, zJ, zK, zL, zD, zE, zF, zM, zN, zO, zP, zQ, reduceCtorEq, not_true_eq_false, not_false_eq_true]) | (first | refine vIfE_of ?_ ?_ | refine vIfD_of ?_ ?_ | refine vIfQ_of ?_ ?_ | refine vIfV_of ?_ ?_) <;> intro _ | refine And.intro (by omega) ?_ | refine drawn_q ?_ | fail)
    first | exact ⟨hf, (c1.trans c2)⟩ | exact (c1.trans c2)
  · obtain ⟨P1, P2, rfl, q1, q2, hs⟩ := rot_gt (X := X ++ dl) (P := P) (Q := Q) (Y := dr ++ Y) (by omega)
    have h1' := swapRange_c B B' g c L (X ++ dl ++ (P1 ++ P2) ++ Q ++ (dr ++ Y)) (X ++ dl).length ((X ++ dl).length + (P1 ++ P2).length) Q.length w1 h1 (by simp only [List.length_append] at *; omega) (by simp only [List.length_append] at *; omega)
    rw [hs, hLn] at h1'
    have a1 : ((X ++ dl).length : Int) = (m : Int) - (i : Int) := by rw [List.length_append]; omega
    have a2 : (((X ++ dl).length + (P1 ++ P2).length : Nat) : Int) = (m : Int) := by rw [List.length_append]; omega
    rw [a1, a2, hQ] at h1'
    have hio := hP
    rw [List.length_append] at hio
    repeat' (first | (simp (disch := omega) only [push_cast, ↓reduceIte, zA, zG, zB, zH, zI, zC, zJ, zK, zL, zD, zE, zF, zM, zN, zO, zP, zQ, reduceCtorEq, not_true_eq_false, not_false_eq_true]) | (first | refine vIfE_of ?_ ?_ | refine vIfD_of ?_ ?_ | refine vIfQ_of ?_ ?_ | refine vIfV_of ?_ ?_) <;> intro _ | refine And.intro (by omega) ?_ | refine drawn_q ?_ | fail)
    refine h1'.mono ?_
    rintro _ w2 ⟨h2, c2⟩
    repeat' (first | (simp (disch := omega) only [push_cast, ↓reduceIte, zA, zG, zB, zH, zI, zC, zJ, zK, zL, zD, zE, zF, zM, zN, zO, zP, zQ, reduceCtorEq, not_true_eq_false, not_false_eq_true]) | (first | refine vIfE_of ?_ ?_ | refine vIfD_of ?_ ?_ | refine vIfQ_of ?_ ?_ | refine vIfV_of ?_ ?_) <;> intro _ | refine And.intro (by omega) ?_ | refine drawn_q ?_ | fail)
    refine ⟨rfl, (i - j, j), by simp (disch := omega) only [push_cast, ↓reduceIte, zA, zG, zB, zH, zI, zC, zJ, zK, zL, zD, zE, zF, zM, zN, zO, zP, zQ, reduceCtorEq, not_true_eq_false, not_false_eq_true], ⟨dl ++ Q, P2, P1, dr, by dsimp only; omega, by dsimp only; omega, by dsimp only; omega, by dsimp only; omega, by simp only [List.length_append]; omega, ?_, by simpa using h2, c1.trans c2⟩, by dsimp only; omega⟩
    rw [hvu]; simp
end Go.Proofs.Ythihbgpaoldbjaa
end
section
set_option linter.unusedSimpArgs false
namespace Go.Proofs.Ythihbgpaoldbjaa
open Go.Vc Go.Key Go.Stab
set_option maxRecDepth 100000
abbrev OwnS (w : World) (B : Nat) (v : Value) (l : List ByteArray) : Prop := w.ownsRow B 9 1 v l.length (l.map Value.string)
theorem cloneS_c (v : Value) (l : List ByteArray) (w : World) (h : StS w v l) (hl : l.length ≤ 1000000) : FnC Try.prog 52 #[v] w fun r w' => OwnS w' w.heap.size r l ∧ Later w w' := by
  have h0 := h
  obtain ⟨o, c, rfl, g1, g2, h, g3⟩ := h.openM
  refine enter52 _ ?_
  unfold B52
  cases o with
  | none =>
    obtain ⟨rfl, _⟩ := g3 rfl
    repeat' (first | (simp (disch := omega) only [push_cast, ↓reduceIte, zA, zG, zB, zH, zI, zC, zJ, zK, zL, zD, zE, zF, zM, zN, zO, zP, zQ, reduceCtorEq, not_true_eq_false, not_false_eq_true]) | (first | refine vIfE_of ?_ ?_ | refine vIfD_of ?_ ?_ | refine vIfQ_of ?_ ?_ | refine vIfV_of ?_ ?_) <;> intro _ | refine And.intro (by omega) ?_ | refine drawn_q ?_ | fail)
    have : OwnS w w.heap.size (.slice none 0 0) [] := own_nil w _ _ 1
    first | exact ⟨this, Later.refl _⟩ | exact Later.refl _
  | some a =>
    repeat' (first | (simp (disch := omega) only [push_cast, ↓reduceIte, zA, zG, zB, zH, zI, zC, zJ, zK, zL, zD, zE, zF, zM, zN, zO, zP, zQ, reduceCtorEq, not_true_eq_false, not_false_eq_true]) | (first | refine vIfE_of ?_ ?_ | refine vIfD_of ?_ ?_ | refine vIfQ_of ?_ ?_ | refine vIfV_of ?_ ?_) <;> intro _ | refine And.intro (by omega) ?_ | refine drawn_q ?_ | fail)
    have la := later_alloc w (.cells #[] 9)
    have hown : (w.alloc (.cells #[] 9)).ownsRow w.heap.size 9 1 (.slice (some ⟨w.heap.size, 0, none⟩) 0 0) 0 [] := own_lit w [] _ 1 0 rfl (by unfold maxLen; omega) (Nat.le_refl _)
    have hx : SlN (w.alloc (.cells #[] 9)) 1 (.slice (some a) l.length c) l.length (l.map Value.string) := by
      have := h.later la
      unfold Sl at this
      rwa [List.length_map] at this
    refine vAppend_own Try.underlying22 ti9 rfl (by decide) hown hx (by intro u hu; obtain ⟨x, _, rfl⟩ := List.mem_map.1 hu; rfl) (by unfold maxLen; omega) (by omega) (by simp) ?_
    intro v' w' ho hg _
    have hl' := la.appended hown (Nat.le_refl _) hg
    have ho' : OwnS w' w.heap.size v' l := by
      unfold OwnS
      simpa using ho
    repeat' (first | (simp (disch := omega) only [push_cast, ↓reduceIte, zA, zG, zB, zH, zI, zC, zJ, zK, zL, zD, zE, zF, zM, zN, zO, zP, zQ, reduceCtorEq, not_true_eq_false, not_false_eq_true]) | (first | refine vIfE_of ?_ ?_ | refine vIfD_of ?_ ?_ | refine vIfQ_of ?_ ?_ | refine vIfV_of ?_ ?_) <;> intro _ | refine And.intro (by omega) ?_ | refine drawn_q ?_ | fail)
    first | exact ⟨ho', hl'⟩ | exact hl'
theorem cloneA_c (v : Value) (l : List Ag) (w : World) (h : AgS w v l) (hl : l.length ≤ 1000000) : FnC Try.prog 99 #[v] w fun r w' => OwnA w' w.heap.size r l ∧ Later w w' := by
  have h0 := h
  obtain ⟨o, c, rfl, g1, g2⟩ := h.slice
  refine enter99 _ ?_
  unfold B99
  cases o with
  | none =>
    have hn : l = [] := List.length_eq_zero_iff.1 (((SlN.len h0).2.2.2.2 rfl).1)
    subst hn
    repeat' (first | (simp (disch := omega) only [push_cast, ↓reduceIte, zA, zG, zB, zH, zI, zC, zJ, zK, zL, zD, zE, zF, zM, zN, zO, zP, zQ, reduceCtorEq, not_true_eq_false, not_false_eq_true]) | (first | refine vIfE_of ?_ ?_ | refine vIfD_of ?_ ?_ | refine vIfQ_of ?_ ?_ | refine vIfV_of ?_ ?_) <;> intro _ | refine And.intro (by omega) ?_ | refine drawn_q ?_ | fail)
    have : OwnA w w.heap.size (.slice none 0 0) [] := OwnR.nil w _ _
    first | exact ⟨this, Later.refl _⟩ | exact Later.refl _
  | some a =>
    repeat' (first | (simp (disch := omega) only [push_cast, ↓reduceIte, zA, zG, zB, zH, zI, zC, zJ, zK, zL, zD, zE, zF, zM, zN, zO, zP, zQ, reduceCtorEq, not_true_eq_false, not_false_eq_true]) | (first | refine vIfE_of ?_ ?_ | refine vIfD_of ?_ ?_ | refine vIfQ_of ?_ ?_ | refine vIfV_of ?_ ?_) <;> intro _ | refine And.intro (by omega) ?_ | refine drawn_q ?_ | fail)
    have la := later_alloc w (.cells #[] 64)
    refine vAppend_rs agC_len agC_one Try.underlying33 ti64 rfl (by decide) (OwnR.lit0 w 64 (Nat.le_refl _)) (RecS.later h0 la) (by simp; omega) (by omega) (by simp) ?_
    intro v' w' ho hg _
    have hl' := la.appended (OwnR.lit0 (enc := agC) (k := 3) w 64 (Nat.le_refl _)) (Nat.le_refl _) hg
    rw [List.nil_append] at ho
    repeat' (first | (simp (disch := omega) only [push_cast, ↓reduceIte, zA, zG, zB, zH, zI, zC, zJ, zK, zL, zD, zE, zF, zM, zN, zO, zP, zQ, reduceCtorEq, not_true_eq_false, not_false_eq_true]) | (first | refine vIfE_of ?_ ?_ | refine vIfD_of ?_ ?_ | refine vIfQ_of ?_ ?_ | refine vIfV_of ?_ ?_) <;> intro _ | refine And.intro (by omega) ?_ | refine drawn_q ?_ | fail)
    first | exact ⟨ho, hl'⟩ | exact hl'
theorem stb_ownS (w0 : World) (B : Nat) (l : List ByteArray) : Stb w0 (fun v w => OwnS w B v l) := fun _ _ _ _ hl h => own_later h hl
theorem stb_ownA (w0 : World) (B : Nat) (l : List Ag) : Stb w0 (fun v w => OwnA w B v l) := fun _ _ _ _ hl h => OwnR.later h hl
theorem own_c (e : El) (w : World) (h : EIs w e) (hd : e.d.length ≤ 1000000) (ha : e.a.length ≤ 1000000) : FnC Try.prog 69 #[elV e] w fun r w' => ∃ x y, r = elV { e with dv := x, av := y } ∧ EO w' w.heap.size { e with dv := x, av := y } ∧ Later w w' := by
  unfold elV
  refine enter69 _ ?_
  unfold B69
  have eca : (Value.agg #[.int .i64 e.t, e.dv, .int .i64 e.n, e.av]).cells = #[.int .i64 e.t, e.dv, .int .i64 e.n, e.av] := rfl
  have l1 := later_alloc w (.cells #[.int .i64 e.t, e.dv, .int .i64 e.n, e.av] 35)
  have B1 := Blk.new w #[.int .i64 e.t, e.dv, .int .i64 e.n, e.av] 35
  have s1 : (w.alloc (.cells #[.int .i64 e.t, e.dv, .int .i64 e.n, e.av] 35)).heap.size = w.heap.size + 1 := World.size_alloc w _
  repeat' (first | (simp (disch := omega) only [push_cast, ↓reduceIte, zA, zG, zB, zH, zI, zC, zJ, zK, zL, zD, zE, zF, zM, zN, zO, zP, zQ, reduceCtorEq, not_true_eq_false, not_false_eq_true, eca, s1]) | (first | refine vIfE_of ?_ ?_ | refine vIfD_of ?_ ?_ | refine vIfQ_of ?_ ?_ | refine vIfV_of ?_ ?_) <;> intro _ | refine And.intro (by omega) ?_ | fail)
  generalize w.alloc (.cells #[.int .i64 e.t, e.dv, .int .i64 e.n, e.av] 35) = w1 at *
  have l2 := later_alloc w1 (.cells #[.int .i64 0, .slice none 0 0, .int .i64 0, .slice none 0 0] 35)
  have B2 := Blk.new w1 #[.int .i64 0, .slice none 0 0, .int .i64 0, .slice none 0 0] 35
  rw [s1] at B2
  generalize w1.alloc (.cells #[.int .i64 0, .slice none 0 0, .int .i64 0, .slice none 0 0] 35) = w2 at *
  have h2 := h.later (l1.trans l2)
  have B12 := B1.chg (Chg.of_later (ks := []) l2) (by simp)
  obtain ⟨a0, a1, a2, a3, _⟩ := box4_later B12 (Later.refl _)
  have hsz := (l1.trans l2).size
  refine drawn_k 7 ?_
  repeat' (first | (simp (disch := omega) only [push_cast, ↓reduceIte, zA, zG, zB, zH, zI, zC, zJ, zK, zL, zD, zE, zF, zM, zN, zO, zP, zQ, reduceCtorEq, not_true_eq_false, not_false_eq_true, a1, a3, addr_add_eq, Nat.zero_add]) | (first | refine vIfE_of ?_ ?_ | refine vIfD_of ?_ ?_ | refine vIfQ_of ?_ ?_ | refine vIfV_of ?_ ?_) <;> intro _ | refine And.intro (by omega) ?_ | fail)
  refine NFn.of hb52 (fun v w' => OwnS w' w.heap.size v e.d) (stb_ownS _ _ _) (fun w' hl => (cloneS_c _ _ w' (h2.later hl).1 hd).mono fun v w'' hv => ⟨own_base hv.1 (Nat.le_trans hsz hl.size), hv.2⟩) ?_
  repeat' (first | (simp (disch := omega) only [push_cast, ↓reduceIte, zA, zG, zB, zH, zI, zC, zJ, zK, zL, zD, zE, zF, zM, zN, zO, zP, zQ, reduceCtorEq, not_true_eq_false, not_false_eq_true, a1, a3, addr_add_eq, Nat.zero_add]) | (first | refine vIfE_of ?_ ?_ | refine vIfD_of ?_ ?_ | refine vIfQ_of ?_ ?_ | refine vIfV_of ?_ ?_) <;> intro _ | refine And.intro (by omega) ?_ | fail)
  refine NFn.of hb99 (fun v w' => OwnA w' w.heap.size v e.a) (stb_ownA _ _ _) (fun w' hl => (cloneA_c _ _ w' (h2.later hl).2 ha).mono fun v w'' hv => ⟨OwnR.base hv.1 (Nat.le_trans hsz hl.size), hv.2⟩) ?_
  repeat' (first | (simp (disch := omega) only [push_cast, ↓reduceIte, zA, zG, zB, zH, zI, zC, zJ, zK, zL, zD, zE, zF, zM, zN, zO, zP, zQ, reduceCtorEq, not_true_eq_false, not_false_eq_true, a1, a3, addr_add_eq, Nat.zero_add]) | (first | refine vIfE_of ?_ ?_ | refine vIfD_of ?_ ?_ | refine vIfQ_of ?_ ?_ | refine vIfV_of ?_ ?_) <;> intro _ | refine And.intro (by omega) ?_ | fail)
  intro w3 l3 y hy x hx
  obtain ⟨ox, cx, rfl, _⟩ := Sl.openM (Sl.of_own hx : Sl w3 x (e.d.map Value.string))
  obtain ⟨oy, cy, rfl, _⟩ := RecS.slice (OwnR.s hy)
  have hE : EO w3 w.heap.size { e with dv := .slice ox e.d.length cx, av := .slice oy e.a.length cy } := ⟨hx, hy⟩
  have B13 := B12.chg (Chg.of_later (ks := []) l3) (by simp)
  have B23 := B2.chg (Chg.of_later (ks := []) l3) (by simp)
  have g1 : w3.cell? ⟨w.heap.size, 1, none⟩ = some e.dv := B13.cell 1
  have g2 := B13.frozen 1
  have l03 := (l1.trans l2).trans l3
  generalize hk : w.heap.size = k at *
  repeat' (first | (simp (disch := omega) only [push_cast, ↓reduceIte, zA, zG, zB, zH, zI, zC, zJ, zK, zL, zD, zE, zF, zM, zN, zO, zP, zQ, reduceCtorEq, not_true_eq_false, not_false_eq_true, g1, g2, addr_add_eq, Nat.zero_add]) | (first | refine vIfE_of ?_ ?_ | refine vIfD_of ?_ ?_ | refine vIfQ_of ?_ ?_ | refine vIfV_of ?_ ?_) <;> intro _ | refine And.intro (by omega) ?_ | fail)
  have c4 := chg_setCell w3 (k := k) (i := 1) (ks := [k]) (by simp) (.slice ox e.d.length cx)
  have B14 := B13.set 1 (.slice ox e.d.length cx)
  have hE4 := hE.chg B13 c4
  have B24 := B23.chg c4 (by simp)
  generalize w3.setCell ⟨k, 1, none⟩ (.slice ox e.d.length cx) = w4 at *
  have g3 : w4.cell? ⟨k, 3, none⟩ = some e.av := B14.cell 3
  have g4 := B14.frozen 3
  repeat' (first | (simp (disch := omega) only [push_cast, ↓reduceIte, zA, zG, zB, zH, zI, zC, zJ, zK, zL, zD, zE, zF, zM, zN, zO, zP, zQ, reduceCtorEq, not_true_eq_false, not_false_eq_true, g3, g4, addr_add_eq, Nat.zero_add]) | (first | refine vIfE_of ?_ ?_ | refine vIfD_of ?_ ?_ | refine vIfQ_of ?_ ?_ | refine vIfV_of ?_ ?_) <;> intro _ | refine And.intro (by omega) ?_ | fail)
  have c5 := chg_setCell w4 (k := k) (i := 3) (ks := [k]) (by simp) (.slice oy e.a.length cy)
  have B15 := B14.set 3 (.slice oy e.a.length cy)
  have hE5 := hE4.chg B14 c5
  have B25 := B24.chg c5 (by simp)
  generalize w4.setCell ⟨k, 3, none⟩ (.slice oy e.a.length cy) = w5 at *
  have g5 : cellsAt w5 ⟨k, 0, none⟩ 4 = some [.int .i64 e.t, .slice ox e.d.length cx, .int .i64 e.n, .slice oy e.a.length cy] := Blk.cellsAt (l := [.int .i64 e.t, .slice ox e.d.length cx, .int .i64 e.n, .slice oy e.a.length cy]) B15
  repeat' (first | (simp (disch := omega) only [push_cast, ↓reduceIte, zA, zG, zB, zH, zI, zC, zJ, zK, zL, zD, zE, zF, zM, zN, zO, zP, zQ, reduceCtorEq, not_true_eq_false, not_false_eq_true, g5]) | (first | refine vIfE_of ?_ ?_ | refine vIfD_of ?_ ?_ | refine vIfQ_of ?_ ?_ | refine vIfV_of ?_ ?_) <;> intro _ | refine And.intro (by omega) ?_ | fail)
  refine vStore_blk (l := [.int .i64 0, .slice none 0 0, .int .i64 0, .slice none 0 0]) (xs := elC { e with dv := .slice ox e.d.length cx, av := .slice oy e.a.length cy }) B25 rfl rfl (elC_one hE5.is) ?_
  intro w6 B26 c6
  have hE6 := hE5.chg B25 c6
  repeat' (first | (simp (disch := omega) only [push_cast, ↓reduceIte, zA, zG, zB, zH, zI, zC, zJ, zK, zL, zD, zE, zF, zM, zN, zO, zP, zQ, reduceCtorEq, not_true_eq_false, not_false_eq_true]) | (first | refine vIfE_of ?_ ?_ | refine vIfD_of ?_ ?_ | refine vIfQ_of ?_ ?_ | refine vIfV_of ?_ ?_) <;> intro _ | refine And.intro (by omega) ?_ | refine drawn_q ?_ | fail)
  refine resK_cells (s := 4) (by simp (disch := omega) only [push_cast, ↓reduceIte, zA, zG, zB, zH, zI, zC, zJ, zK, zL, zD, zE, zF, zM, zN, zO, zP, zQ, reduceCtorEq, not_true_eq_false, not_false_eq_true]) (by rw [Try.underlying35]; exact sz35) (Blk.cellsAt (l := elC { e with dv := .slice ox e.d.length cx, av := .slice oy e.a.length cy }) B26) ?_
  repeat' (first | (simp (disch := omega) only [push_cast, ↓reduceIte, zA, zG, zB, zH, zI, zC, zJ, zK, zL, zD, zE, zF, zM, zN, zO, zP, zQ, reduceCtorEq, not_true_eq_false, not_false_eq_true]) | (first | refine vIfE_of ?_ ?_ | refine vIfD_of ?_ ?_ | refine vIfQ_of ?_ ?_ | refine vIfV_of ?_ ?_) <;> intro _ | refine And.intro (by omega) ?_ | refine drawn_q ?_ | fail)
  refine ⟨.slice ox e.d.length cx, .slice oy e.a.length cy, rfl, hE6, ?_⟩
  have hall : Chg w3 w6 [k, k + 1] := ((c4.mono (by simp)).trans (c5.mono (by simp))).trans (c6.mono (by simp))
  exact Chg.later l03 hall (by intro j hj; simp at hj; omega)
end Go.Proofs.Ythihbgpaoldbjaa
end
