/- The functions' code in the generator's form. Written by a program (codes.py) out of Lean's own print of the loaded translation. -/
import Derived.Test.YtnofalhkapmcnaaPartE
set_option linter.all false
open Nat renaming reduceEqDiff → zA, reducePow → zB, reduceMul → zC, reduceAdd → zD, reduceSub → zE, reduceLeDiff → zF
open Int renaming reduceToNat → zG, reducePow → zH, reduceNeg → zI, reduceMul → zJ, reduceAdd → zK, reduceSub → zL, reduceLT → zM, reduceLE → zN, reduceEq → zO, reduceMod → zP, reduceDiv → zQ
section
namespace Go.Proofs.Ytnofalhkapmcnaa
open Go.Vc
set_option maxRecDepth 100000
variable (Q : Post) (ds : List Deferred) (σ : Env) (w : World)
/-! 11 columbary/columbarylaw26.alive (params #[], results #[(.tmp 0)], 78 slots) -/
def r11_0 : List VOp :=
  [⟨some 0, .assign (.const (.bool false)), 4, none⟩]
def r11_1 : List VOp :=
  [⟨some 10, .call ⟨.value (.func 34), #[], #[]⟩, 34, none⟩,
   ⟨some 1, .alloc 34, 0, none⟩,
   ⟨none, .store 34 (.tmp 1) (.tmp 10), 0, none⟩]
def r11_2 : List VOp :=
  [⟨some 11, .build 63 #[], 63, none⟩,
   ⟨some 12, .buildSlice 35 1 #[(0, (.tmp 11))], 35, none⟩,
   ⟨some 13, .build 42 #[(0, (.tmp 12)), (1, (.const (.int .i64 20))), (2, (.const (.int .i64 60))), (3, (.const (.int .i64 10)))], 42, none⟩,
   ⟨some 2, .alloc 42, 0, none⟩,
   ⟨none, .store 42 (.tmp 2) (.tmp 13), 0, none⟩]
def r11_3 : List VOp :=
  [fad 15 34 1 0,
   lda 16 24 15,
   fad 17 34 1 1,
   lda 18 28 17,
   fad 19 34 1 3,
   lda 20 29 19,
   lda 21 42 2,
   fad 22 34 1 5,
   lda 23 32 22,
   ⟨some 24, .call ⟨.value (.func 17), #[.tmp 16, .tmp 18, .tmp 20, .tmp 21, .tmp 23], #[24, 28, 29, 42, 32]⟩, 54, none⟩,
   mv 14 24 54,
   ext 25 14 0 45,
   ext 26 14 1 3,
   ext 27 14 2 53,
   asg 3 25 45,
   asg 4 26 3,
   asg 5 27 53]
def r11_4 : List VOp :=
  [lda 28 42 2,
   ⟨some 6, .alloc 42, 0, none⟩,
   ⟨none, .store 42 (.tmp 6) (.tmp 28), 0, none⟩]
def r11_5 : List VOp :=
  [⟨some 29, .buildSlice 22 1 #[(0, (.const (.string { data := #[98] })))], 22, none⟩,
   fad 30 42 6 4,
   ⟨none, .store 22 (.tmp 30) (.tmp 29), 0, none⟩]
def r11_6 : List VOp :=
  [fad 32 34 1 0,
   lda 33 24 32,
   fad 34 34 1 1,
   lda 35 28 34,
   fad 36 34 1 3,
   lda 37 29 36,
   lda 38 42 6,
   fad 39 34 1 5,
   lda 40 32 39,
   ⟨some 41, .call ⟨.value (.func 17), #[.tmp 33, .tmp 35, .tmp 37, .tmp 38, .tmp 40], #[24, 28, 29, 42, 32]⟩, 54, none⟩,
   mv 31 41 54,
   ext 42 31 0 45,
   ext 43 31 1 3,
   ext 44 31 2 53,
   asg 7 42 45,
   asg 8 43 3,
   asg 9 44 53]
def r11_7 : List VOp :=
  [mv 45 5 53,
   ⟨some 46, .binOp .eql 53 (.tmp 45) (.const (.int .i64 0)) 53, 4, none⟩,
   mv 47 46 4,
   ⟨some 48, .move (.tmp 4), 3, some (47, true)⟩,
   ⟨some 49, .binOp .eql 3 (.tmp 48) (.const (.int .i64 (-1))) 3, 4, some (47, true)⟩,
   ⟨some 50, .pick (.tmp 47) (.tmp 49) (.const (.bool false)), 4, none⟩,
   mv 51 50 4,
   ⟨some 52, .move (.tmp 3), 45, some (51, true)⟩,
   ⟨some 53, .call ⟨.builtin .len, #[.tmp 52], #[45]⟩, 3, some (51, true)⟩,
   ⟨some 54, .binOp .eql 3 (.tmp 53) (.const (.int .i64 2)) 3, 4, some (51, true)⟩,
   ⟨some 55, .pick (.tmp 51) (.tmp 54) (.const (.bool false)), 4, none⟩,
   mv 56 55 4,
   ⟨some 57, .move (.tmp 3), 45, some (56, true)⟩,
   ⟨some 58, .indexAddr 45 (.tmp 57) (.const (.int .i64 0)), 0, some (56, true)⟩,
   ⟨some 59, .load 49 (.tmp 58), 49, some (56, true)⟩,
   ⟨some 60, .build 49 #[(0, (.const (.int .i64 40))), (1, (.const (.int .i64 60))), (2, (.const (.int .i64 0))), (3, (.const (.int .i64 0))), (4, (.const (.int .i64 4)))], 49, some (56, true)⟩,
   ⟨some 61, .binOp .eql 49 (.tmp 59) (.tmp 60) 49, 4, some (56, true)⟩,
   ⟨some 62, .pick (.tmp 56) (.tmp 61) (.const (.bool false)), 4, none⟩,
   mv 63 62 4,
   ⟨some 64, .move (.tmp 3), 45, some (63, true)⟩,
   ⟨some 65, .indexAddr 45 (.tmp 64) (.const (.int .i64 1)), 0, some (63, true)⟩,
   ⟨some 66, .load 49 (.tmp 65), 49, some (63, true)⟩,
   ⟨some 67, .build 49 #[(0, (.const (.int .i64 20))), (1, (.const (.int .i64 40))), (2, (.const (.int .i64 1))), (3, (.const (.int .i64 (-1))))], 49, some (63, true)⟩,
   ⟨some 68, .binOp .eql 49 (.tmp 66) (.tmp 67) 49, 4, some (63, true)⟩,
   ⟨some 69, .pick (.tmp 63) (.tmp 68) (.const (.bool false)), 4, none⟩,
   mv 70 69 4,
   ⟨some 71, .move (.tmp 9), 53, some (70, true)⟩,
   ⟨some 72, .binOp .eql 53 (.tmp 71) (.const (.int .i64 261)) 53, 4, some (70, true)⟩,
   ⟨some 73, .pick (.tmp 70) (.tmp 72) (.const (.bool false)), 4, none⟩,
   mv 74 73 4,
   ⟨some 75, .move (.tmp 8), 3, some (74, true)⟩,
   ⟨some 76, .binOp .eql 3 (.tmp 75) (.const (.int .i64 1)) 3, 4, some (74, true)⟩,
   ⟨some 77, .pick (.tmp 74) (.tmp 76) (.const (.bool false)), 4, none⟩,
   asg 0 77 4]
def B11 : VC :=
  (.seq (.region r11_0) (.seq (.region r11_1) (.seq (.region r11_2) (.seq (.region r11_3) (.seq (.region r11_4) (.seq (.region r11_5) (.seq (.region r11_6) (.seq (.region r11_7) .ret))))))))
theorem code11 : ∃ c, Try.f11.body = some c ∧ abs Try.f11.ntmps c = B11 := ⟨_, rfl, by kernel_rfl⟩
theorem hb11 : HasBody Try.prog 11 := hasBody_of Try.func11 (by kernel_rfl)
theorem res11 : Try.f11.results = #[(.tmp 0)] := rfl
theorem enter11 {w : World} {R : Value → World → Prop} (h : vc Try.prog B11 (retK Try.prog #[(.tmp 0)] R) [] (initEnv [] 0) w) : FnC Try.prog 11 #[] w R := by
  obtain ⟨c, h1, h2⟩ := code11
  exact hb11.fn (ret_of_vc mixed Try.func11 h1 (Nat.le_of_ble_eq_true rfl) B11 h2 h)
@[push_cast] theorem vr11_0 : VR r11_0 [⟨some 0, .assign (.const (.bool false)), 4, none⟩] := vR rfl
@[push_cast] theorem vr11_1 : VR r11_1 [⟨some 10, .call ⟨.value (.func 34), #[], #[]⟩, 34, none⟩, ⟨some 1, .alloc 34, 0, none⟩, ⟨none, .store 34 (.tmp 1) (.tmp 10), 0, none⟩] := vR rfl
@[push_cast] theorem vr11_2 : VR r11_2 [⟨some 11, .build 63 #[], 63, none⟩, ⟨some 12, .buildSlice 35 1 #[(0, (.tmp 11))], 35, none⟩, ⟨some 13, .build 42 #[(0, (.tmp 12)), (1, (.const (.int .i64 20))), (2, (.const (.int .i64 60))), (3, (.const (.int .i64 10)))], 42, none⟩, ⟨some 2, .alloc 42, 0, none⟩, ⟨none, .store 42 (.tmp 2) (.tmp 13), 0, none⟩] := vR rfl
@[push_cast] theorem vr11_3 : VR r11_3 [⟨some 15, .fieldAddr 34 (.tmp 1) 0, 0, none⟩, ⟨some 16, .load 24 (.tmp 15), 24, none⟩, ⟨some 17, .fieldAddr 34 (.tmp 1) 1, 0, none⟩, ⟨some 18, .load 28 (.tmp 17), 28, none⟩, ⟨some 19, .fieldAddr 34 (.tmp 1) 3, 0, none⟩, ⟨some 20, .load 29 (.tmp 19), 29, none⟩, ⟨some 21, .load 42 (.tmp 2), 42, none⟩, ⟨some 22, .fieldAddr 34 (.tmp 1) 5, 0, none⟩, ⟨some 23, .load 32 (.tmp 22), 32, none⟩, ⟨some 24, .call ⟨.value (.func 17), #[.tmp 16, .tmp 18, .tmp 20, .tmp 21, .tmp 23], #[24, 28, 29, 42, 32]⟩, 54, none⟩, ⟨some 14, .move (.tmp 24), 54, none⟩, ⟨some 25, .extract (.tmp 14) 0, 45, none⟩, ⟨some 26, .extract (.tmp 14) 1, 3, none⟩, ⟨some 27, .extract (.tmp 14) 2, 53, none⟩, ⟨some 3, .assign (.tmp 25), 45, none⟩, ⟨some 4, .assign (.tmp 26), 3, none⟩, ⟨some 5, .assign (.tmp 27), 53, none⟩] := vR rfl
@[push_cast] theorem vr11_4 : VR r11_4 [⟨some 28, .load 42 (.tmp 2), 42, none⟩, ⟨some 6, .alloc 42, 0, none⟩, ⟨none, .store 42 (.tmp 6) (.tmp 28), 0, none⟩] := vR rfl
@[push_cast] theorem vr11_5 : VR r11_5 [⟨some 29, .buildSlice 22 1 #[(0, (.const (.string { data := #[98] })))], 22, none⟩, ⟨some 30, .fieldAddr 42 (.tmp 6) 4, 0, none⟩, ⟨none, .store 22 (.tmp 30) (.tmp 29), 0, none⟩] := vR rfl
@[push_cast] theorem vr11_6 : VR r11_6 [⟨some 32, .fieldAddr 34 (.tmp 1) 0, 0, none⟩, ⟨some 33, .load 24 (.tmp 32), 24, none⟩, ⟨some 34, .fieldAddr 34 (.tmp 1) 1, 0, none⟩, ⟨some 35, .load 28 (.tmp 34), 28, none⟩, ⟨some 36, .fieldAddr 34 (.tmp 1) 3, 0, none⟩, ⟨some 37, .load 29 (.tmp 36), 29, none⟩, ⟨some 38, .load 42 (.tmp 6), 42, none⟩, ⟨some 39, .fieldAddr 34 (.tmp 1) 5, 0, none⟩, ⟨some 40, .load 32 (.tmp 39), 32, none⟩, ⟨some 41, .call ⟨.value (.func 17), #[.tmp 33, .tmp 35, .tmp 37, .tmp 38, .tmp 40], #[24, 28, 29, 42, 32]⟩, 54, none⟩, ⟨some 31, .move (.tmp 41), 54, none⟩, ⟨some 42, .extract (.tmp 31) 0, 45, none⟩, ⟨some 43, .extract (.tmp 31) 1, 3, none⟩, ⟨some 44, .extract (.tmp 31) 2, 53, none⟩, ⟨some 7, .assign (.tmp 42), 45, none⟩, ⟨some 8, .assign (.tmp 43), 3, none⟩, ⟨some 9, .assign (.tmp 44), 53, none⟩] := vR rfl
@[push_cast] theorem vr11_7 : VR r11_7 [⟨some 45, .move (.tmp 5), 53, none⟩, ⟨some 46, .binOp .eql 53 (.tmp 45) (.const (.int .i64 0)) 53, 4, none⟩, ⟨some 47, .move (.tmp 46), 4, none⟩, ⟨some 48, .move (.tmp 4), 3, some (47, true)⟩, ⟨some 49, .binOp .eql 3 (.tmp 48) (.const (.int .i64 (-1))) 3, 4, some (47, true)⟩, ⟨some 50, .pick (.tmp 47) (.tmp 49) (.const (.bool false)), 4, none⟩, ⟨some 51, .move (.tmp 50), 4, none⟩, ⟨some 52, .move (.tmp 3), 45, some (51, true)⟩, ⟨some 53, .call ⟨.builtin .len, #[.tmp 52], #[45]⟩, 3, some (51, true)⟩, ⟨some 54, .binOp .eql 3 (.tmp 53) (.const (.int .i64 2)) 3, 4, some (51, true)⟩, ⟨some 55, .pick (.tmp 51) (.tmp 54) (.const (.bool false)), 4, none⟩, ⟨some 56, .move (.tmp 55), 4, none⟩, ⟨some 57, .move (.tmp 3), 45, some (56, true)⟩, ⟨some 58, .indexAddr 45 (.tmp 57) (.const (.int .i64 0)), 0, some (56, true)⟩, ⟨some 59, .load 49 (.tmp 58), 49, some (56, true)⟩, ⟨some 60, .build 49 #[(0, (.const (.int .i64 40))), (1, (.const (.int .i64 60))), (2, (.const (.int .i64 0))), (3, (.const (.int .i64 0))), (4, (.const (.int .i64 4)))], 49, some (56, true)⟩, ⟨some 61, .binOp .eql 49 (.tmp 59) (.tmp 60) 49, 4, some (56, true)⟩, ⟨some 62, .pick (.tmp 56) (.tmp 61) (.const (.bool false)), 4, none⟩, ⟨some 63, .move (.tmp 62), 4, none⟩, ⟨some 64, .move (.tmp 3), 45, some (63, true)⟩, ⟨some 65, .indexAddr 45 (.tmp 64) (.const (.int .i64 1)), 0, some (63, true)⟩, ⟨some 66, .load 49 (.tmp 65), 49, some (63, true)⟩, ⟨some 67, .build 49 #[(0, (.const (.int .i64 20))), (1, (.const (.int .i64 40))), (2, (.const (.int .i64 1))), (3, (.const (.int .i64 (-1))))], 49, some (63, true)⟩, ⟨some 68, .binOp .eql 49 (.tmp 66) (.tmp 67) 49, 4, some (63, true)⟩, ⟨some 69, .pick (.tmp 63) (.tmp 68) (.const (.bool false)), 4, none⟩, ⟨some 70, .move (.tmp 69), 4, none⟩, ⟨some 71, .move (.tmp 9), 53, some (70, true)⟩, ⟨some 72, .binOp .eql 53 (.tmp 71) (.const (.int .i64 261)) 53, 4, some (70, true)⟩, ⟨some 73, .pick (.tmp 70) (.tmp 72) (.const (.bool false)), 4, none⟩, ⟨some 74, .move (.tmp 73), 4, none⟩, ⟨some 75, .move (.tmp 8), 3, some (74, true)⟩, ⟨some 76, .binOp .eql 3 (.tmp 75) (.const (.int .i64 1)) 3, 4, some (74, true)⟩, ⟨some 77, .pick (.tmp 74) (.tmp 76) (.const (.bool false)), 4, none⟩, ⟨some 0, .assign (.tmp 77), 4, none⟩] := vR rfl
/-! 14 columbary/selector.Stretches (params #[28, 29, 42], results #[(.tmp 6)], 46 slots) -/
def W14_0 : List Nat := [7, 8, 9, 10, 16, 17, 18, 19, 20, 21, 22, 23, 24, 25, 26, 27, 28, 29, 30, 31, 32, 33, 34, 35, 36, 37, 38, 39, 40, 41, 42, 43, 44]
@[push_cast] theorem W14_0_def : W14_0 = [7, 8, 9, 10, 16, 17, 18, 19, 20, 21, 22, 23, 24, 25, 26, 27, 28, 29, 30, 31, 32, 33, 34, 35, 36, 37, 38, 39, 40, 41, 42, 43, 44] := mk_eq rfl
def r14_0 : List VOp :=
  [⟨some 3, .box 28 (.tmp 0), 0, none⟩,
   ⟨some 5, .box 42 (.tmp 2), 0, none⟩,
   ⟨some 6, .assign (.const (.slice none 0 0)), 45, none⟩]
def r14_1 : List VOp :=
  [⟨some 7, .assign (.const (.slice none 0 0)), 45, none⟩]
def r14_2 : List VOp :=
  [fad 11 42 5 2,
   lda 12 3 11,
   asg 8 12 3]
def r14_3 : List VOp :=
  [fad 13 28 3 0,
   lda 14 25 13,
   ⟨some 15, .call ⟨.builtin .len, #[.tmp 14], #[25]⟩, 3, none⟩,
   ⟨some 16, .move (.const (.int .i64 0)), 3, none⟩]
def r14_4 : List VOp :=
  [⟨some 17, .binOp .lss 3 (.tmp 16) (.tmp 15) 3, 0, none⟩]
def r14_5 : List VOp :=
  [mv 18 16 3,
   asg 9 18 3]
def r14_6 : List VOp :=
  [fad 19 42 5 1,
   lda 20 3 19,
   mv 21 1 29,
   mv 22 9 3,
   iad 23 29 21 22,
   lda 24 3 23,
   ⟨some 25, .call ⟨.builtin .max, #[.tmp 20, .tmp 24], #[3, 3]⟩, 3, none⟩,
   mv 26 8 3,
   mv 27 9 3,
   ⟨some 28, .build 49 #[(0, (.tmp 25)), (1, (.tmp 26)), (2, (.tmp 27)), (3, (.const (.int .i64 (-1))))], 49, none⟩,
   ⟨some 10, .alloc 49, 0, none⟩,
   ⟨none, .store 49 (.tmp 10) (.tmp 28), 0, none⟩]
def r14_7 : List VOp :=
  [fad 29 49 10 0,
   lda 30 3 29,
   fad 31 49 10 1,
   lda 32 3 31,
   ⟨some 33, .binOp .lss 3 (.tmp 30) (.tmp 32) 3, 4, none⟩]
def r14_8 : List VOp :=
  [mv 34 7 45,
   lda 35 49 10,
   ⟨some 36, .buildSlice 45 1 #[(0, (.tmp 35))], 45, none⟩,
   ⟨some 37, .call ⟨.builtin .append, #[.tmp 34, .tmp 36], #[45, 45]⟩, 45, none⟩,
   asg 7 37 45]
def r14_9 : List VOp :=
  [mv 38 8 3,
   mv 39 1 29,
   mv 40 9 3,
   iad 41 29 39 40,
   lda 42 3 41,
   ⟨some 43, .call ⟨.builtin .min, #[.tmp 38, .tmp 42], #[3, 3]⟩, 3, none⟩,
   asg 8 43 3]
def r14_10 : List VOp :=
  [⟨some 44, .binOp .add 3 (.tmp 16) (.const (.int .i64 1)) 3, 3, none⟩,
   mv 16 44 3]
def r14_11 : List VOp :=
  [mv 45 7 45,
   asg 6 45 45]
def B14 : VC :=
  (.seq (.region r14_0) (.seq (.region r14_1) (.seq (.region r14_2) (.seq (.seq (.region r14_3) (.block 0 (.loop (.seq (.region r14_4) (.seq (.cond (.tmp 17) .skip (.exit 0)) (.seq (.block 1 (.seq (.region r14_5) (.seq (.draw r14_6 2) (.seq (.seq (.region r14_7) (.cond (.tmp 33) (.region r14_8) .skip)) (.region r14_9))))) (.region r14_10))))))) (.seq (.region r14_11) .ret)))))
theorem code14 : ∃ c, Try.f14.body = some c ∧ abs Try.f14.ntmps c = B14 := ⟨_, rfl, by kernel_rfl⟩
theorem hb14 : HasBody Try.prog 14 := hasBody_of Try.func14 (by kernel_rfl)
theorem res14 : Try.f14.results = #[(.tmp 6)] := rfl
theorem enter14 {w : World} {R : Value → World → Prop} (x0 x1 x2 : Value) (h : vc Try.prog B14 (retK Try.prog #[(.tmp 6)] R) [] (initEnv [x0, x1, x2] 0) w) : FnC Try.prog 14 #[x0, x1, x2] w R := by
  obtain ⟨c, h1, h2⟩ := code14
  exact hb14.fn (ret_of_vc mixed Try.func14 h1 (Nat.le_of_ble_eq_true rfl) B14 h2 h)
@[push_cast] theorem vr14_0 : VR r14_0 [⟨some 3, .box 28 (.tmp 0), 0, none⟩, ⟨some 5, .box 42 (.tmp 2), 0, none⟩, ⟨some 6, .assign (.const (.slice none 0 0)), 45, none⟩] := vR rfl
@[push_cast] theorem vr14_1 : VR r14_1 [⟨some 7, .assign (.const (.slice none 0 0)), 45, none⟩] := vR rfl
@[push_cast] theorem vr14_2 : VR r14_2 [⟨some 11, .fieldAddr 42 (.tmp 5) 2, 0, none⟩, ⟨some 12, .load 3 (.tmp 11), 3, none⟩, ⟨some 8, .assign (.tmp 12), 3, none⟩] := vR rfl
@[push_cast] theorem vr14_3 : VR r14_3 [⟨some 13, .fieldAddr 28 (.tmp 3) 0, 0, none⟩, ⟨some 14, .load 25 (.tmp 13), 25, none⟩, ⟨some 15, .call ⟨.builtin .len, #[.tmp 14], #[25]⟩, 3, none⟩, ⟨some 16, .move (.const (.int .i64 0)), 3, none⟩] := vR rfl
@[push_cast] theorem vr14_4 : VR r14_4 [⟨some 17, .binOp .lss 3 (.tmp 16) (.tmp 15) 3, 0, none⟩] := vR rfl
@[push_cast] theorem vr14_5 : VR r14_5 [⟨some 18, .move (.tmp 16), 3, none⟩, ⟨some 9, .assign (.tmp 18), 3, none⟩] := vR rfl
@[push_cast] theorem vr14_6 : vc Try.prog (.draw r14_6 2) Q ds σ w = drawn Try.prog [(⟨some 19, .fieldAddr 42 (.tmp 5) 1, 0, none⟩, [5]), (⟨some 20, .load 3 (.tmp 19), 3, none⟩, [19]), (⟨some 21, .move (.tmp 1), 29, none⟩, [1]), (⟨some 22, .move (.tmp 9), 3, none⟩, [9]), (⟨some 23, .indexAddr 29 (.tmp 21) (.tmp 22), 0, none⟩, [21, 22]), (⟨some 24, .load 3 (.tmp 23), 3, none⟩, [23]), (⟨some 25, .call ⟨.builtin .max, #[.tmp 20, .tmp 24], #[3, 3]⟩, 3, none⟩, [20, 24]), (⟨some 26, .move (.tmp 8), 3, none⟩, [8]), (⟨some 27, .move (.tmp 9), 3, none⟩, [9]), (⟨some 28, .build 49 #[(0, (.tmp 25)), (1, (.tmp 26)), (2, (.tmp 27)), (3, (.const (.int .i64 (-1))))], 49, none⟩, [25, 26, 27]), (⟨some 10, .alloc 49, 0, none⟩, []), (⟨none, .store 49 (.tmp 10) (.tmp 28), 0, none⟩, [10, 28])] 2 (Q .normal ds) σ w := mk_eq rfl
@[push_cast] theorem vr14_7 : VR r14_7 [⟨some 29, .fieldAddr 49 (.tmp 10) 0, 0, none⟩, ⟨some 30, .load 3 (.tmp 29), 3, none⟩, ⟨some 31, .fieldAddr 49 (.tmp 10) 1, 0, none⟩, ⟨some 32, .load 3 (.tmp 31), 3, none⟩, ⟨some 33, .binOp .lss 3 (.tmp 30) (.tmp 32) 3, 4, none⟩] := vR rfl
@[push_cast] theorem vr14_8 : VR r14_8 [⟨some 34, .move (.tmp 7), 45, none⟩, ⟨some 35, .load 49 (.tmp 10), 49, none⟩, ⟨some 36, .buildSlice 45 1 #[(0, (.tmp 35))], 45, none⟩, ⟨some 37, .call ⟨.builtin .append, #[.tmp 34, .tmp 36], #[45, 45]⟩, 45, none⟩, ⟨some 7, .assign (.tmp 37), 45, none⟩] := vR rfl
@[push_cast] theorem vr14_9 : VR r14_9 [⟨some 38, .move (.tmp 8), 3, none⟩, ⟨some 39, .move (.tmp 1), 29, none⟩, ⟨some 40, .move (.tmp 9), 3, none⟩, ⟨some 41, .indexAddr 29 (.tmp 39) (.tmp 40), 0, none⟩, ⟨some 42, .load 3 (.tmp 41), 3, none⟩, ⟨some 43, .call ⟨.builtin .min, #[.tmp 38, .tmp 42], #[3, 3]⟩, 3, none⟩, ⟨some 8, .assign (.tmp 43), 3, none⟩] := vR rfl
@[push_cast] theorem vr14_10 : VR r14_10 [⟨some 44, .binOp .add 3 (.tmp 16) (.const (.int .i64 1)) 3, 3, none⟩, ⟨some 16, .move (.tmp 44), 3, none⟩] := vR rfl
@[push_cast] theorem vr14_11 : VR r14_11 [⟨some 45, .move (.tmp 7), 45, none⟩, ⟨some 6, .assign (.tmp 45), 45, none⟩] := vR rfl
/-! 15 columbary/selector.Eligible (params #[24, 28, 42, 49], results #[(.tmp 8)], 42 slots) -/
def r15_0 : List VOp :=
  [⟨some 4, .box 24 (.tmp 0), 0, none⟩,
   ⟨some 5, .box 28 (.tmp 1), 0, none⟩,
   ⟨some 6, .box 42 (.tmp 2), 0, none⟩,
   ⟨some 7, .box 49 (.tmp 3), 0, none⟩,
   ⟨some 8, .assign (.const (.bool false)), 4, none⟩]
def r15_1 : List VOp :=
  [lda 10 28 5,
   lda 11 49 7,
   ⟨some 12, .call ⟨.value (.func 35), #[.tmp 10, .tmp 11], #[28, 49]⟩, 51, none⟩,
   ⟨some 9, .alloc 51, 0, none⟩,
   ⟨none, .store 51 (.tmp 9) (.tmp 12), 0, none⟩]
def r15_2 : List VOp :=
  [lda 13 24 4,
   lda 14 42 6,
   ⟨some 15, .call ⟨.value (.func 30), #[.tmp 13, .tmp 14], #[24, 42]⟩, 22, none⟩,
   ⟨some 16, .makeFunc (Fn.func 37) #[] #[(.tmp 9)], 90, none⟩,
   ⟨some 17, .call ⟨.value (.func 36), #[.tmp 15, .tmp 16], #[22, 90]⟩, 4, none⟩]
def r15_3 : List VOp :=
  [⟨some 8, .assign (.const (.bool false)), 4, none⟩]
def r15_4 : List VOp :=
  [fad 18 49 7 0,
   lda 19 3 18,
   fad 20 51 9 1,
   lda 21 3 20,
   ⟨some 22, .call ⟨.value (.func 39), #[.tmp 19, .tmp 21], #[3, 3]⟩, 4, none⟩,
   mv 23 22 4,
   ⟨some 24, .fieldAddr 49 (.tmp 7) 1, 0, some (23, true)⟩,
   ⟨some 25, .load 3 (.tmp 24), 3, some (23, true)⟩,
   ⟨some 26, .fieldAddr 51 (.tmp 9) 1, 0, some (23, true)⟩,
   ⟨some 27, .load 3 (.tmp 26), 3, some (23, true)⟩,
   ⟨some 28, .call ⟨.value (.func 39), #[.tmp 25, .tmp 27], #[3, 3]⟩, 4, some (23, true)⟩,
   ⟨some 29, .pick (.tmp 23) (.tmp 28) (.const (.bool false)), 4, none⟩,
   mv 30 29 4,
   ⟨some 31, .fieldAddr 42 (.tmp 6) 3, 0, some (30, true)⟩,
   ⟨some 32, .load 3 (.tmp 31), 3, some (30, true)⟩,
   ⟨some 33, .binOp .eql 3 (.tmp 32) (.const (.int .i64 0)) 3, 4, some (30, true)⟩,
   ⟨some 34, .move (.tmp 33), 4, some (30, true)⟩,
   ⟨some 35, .fieldAddr 42 (.tmp 6) 3, 0, some (34, false)⟩,
   ⟨some 36, .load 3 (.tmp 35), 3, some (34, false)⟩,
   ⟨some 37, .fieldAddr 51 (.tmp 9) 1, 0, some (34, false)⟩,
   ⟨some 38, .load 3 (.tmp 37), 3, some (34, false)⟩,
   ⟨some 39, .call ⟨.value (.func 40), #[.tmp 36, .tmp 38], #[3, 3]⟩, 4, some (34, false)⟩,
   ⟨some 40, .pick (.tmp 34) (.const (.bool true)) (.tmp 39), 4, some (30, true)⟩,
   ⟨some 41, .pick (.tmp 30) (.tmp 40) (.const (.bool false)), 4, none⟩,
   asg 8 41 4]
def B15 : VC :=
  (.seq (.region r15_0) (.seq (.region r15_1) (.seq (.seq (.region r15_2) (.cond (.tmp 17) (.seq (.region r15_3) .ret) .skip)) (.seq (.region r15_4) .ret))))
theorem code15 : ∃ c, Try.f15.body = some c ∧ abs Try.f15.ntmps c = B15 := ⟨_, rfl, by kernel_rfl⟩
theorem hb15 : HasBody Try.prog 15 := hasBody_of Try.func15 (by kernel_rfl)
theorem res15 : Try.f15.results = #[(.tmp 8)] := rfl
theorem enter15 {w : World} {R : Value → World → Prop} (x0 x1 x2 x3 : Value) (h : vc Try.prog B15 (retK Try.prog #[(.tmp 8)] R) [] (initEnv [x0, x1, x2, x3] 0) w) : FnC Try.prog 15 #[x0, x1, x2, x3] w R := by
  obtain ⟨c, h1, h2⟩ := code15
  exact hb15.fn (ret_of_vc mixed Try.func15 h1 (Nat.le_of_ble_eq_true rfl) B15 h2 h)
@[push_cast] theorem vr15_0 : VR r15_0 [⟨some 4, .box 24 (.tmp 0), 0, none⟩, ⟨some 5, .box 28 (.tmp 1), 0, none⟩, ⟨some 6, .box 42 (.tmp 2), 0, none⟩, ⟨some 7, .box 49 (.tmp 3), 0, none⟩, ⟨some 8, .assign (.const (.bool false)), 4, none⟩] := vR rfl
@[push_cast] theorem vr15_1 : VR r15_1 [⟨some 10, .load 28 (.tmp 5), 28, none⟩, ⟨some 11, .load 49 (.tmp 7), 49, none⟩, ⟨some 12, .call ⟨.value (.func 35), #[.tmp 10, .tmp 11], #[28, 49]⟩, 51, none⟩, ⟨some 9, .alloc 51, 0, none⟩, ⟨none, .store 51 (.tmp 9) (.tmp 12), 0, none⟩] := vR rfl
@[push_cast] theorem vr15_2 : VR r15_2 [⟨some 13, .load 24 (.tmp 4), 24, none⟩, ⟨some 14, .load 42 (.tmp 6), 42, none⟩, ⟨some 15, .call ⟨.value (.func 30), #[.tmp 13, .tmp 14], #[24, 42]⟩, 22, none⟩, ⟨some 16, .makeFunc (Fn.func 37) #[] #[(.tmp 9)], 90, none⟩, ⟨some 17, .call ⟨.value (.func 36), #[.tmp 15, .tmp 16], #[22, 90]⟩, 4, none⟩] := vR rfl
@[push_cast] theorem vr15_3 : VR r15_3 [⟨some 8, .assign (.const (.bool false)), 4, none⟩] := vR rfl
@[push_cast] theorem vr15_4 : VR r15_4 [⟨some 18, .fieldAddr 49 (.tmp 7) 0, 0, none⟩, ⟨some 19, .load 3 (.tmp 18), 3, none⟩, ⟨some 20, .fieldAddr 51 (.tmp 9) 1, 0, none⟩, ⟨some 21, .load 3 (.tmp 20), 3, none⟩, ⟨some 22, .call ⟨.value (.func 39), #[.tmp 19, .tmp 21], #[3, 3]⟩, 4, none⟩, ⟨some 23, .move (.tmp 22), 4, none⟩, ⟨some 24, .fieldAddr 49 (.tmp 7) 1, 0, some (23, true)⟩, ⟨some 25, .load 3 (.tmp 24), 3, some (23, true)⟩, ⟨some 26, .fieldAddr 51 (.tmp 9) 1, 0, some (23, true)⟩, ⟨some 27, .load 3 (.tmp 26), 3, some (23, true)⟩, ⟨some 28, .call ⟨.value (.func 39), #[.tmp 25, .tmp 27], #[3, 3]⟩, 4, some (23, true)⟩, ⟨some 29, .pick (.tmp 23) (.tmp 28) (.const (.bool false)), 4, none⟩, ⟨some 30, .move (.tmp 29), 4, none⟩, ⟨some 31, .fieldAddr 42 (.tmp 6) 3, 0, some (30, true)⟩, ⟨some 32, .load 3 (.tmp 31), 3, some (30, true)⟩, ⟨some 33, .binOp .eql 3 (.tmp 32) (.const (.int .i64 0)) 3, 4, some (30, true)⟩, ⟨some 34, .move (.tmp 33), 4, some (30, true)⟩, ⟨some 35, .fieldAddr 42 (.tmp 6) 3, 0, some (34, false)⟩, ⟨some 36, .load 3 (.tmp 35), 3, some (34, false)⟩, ⟨some 37, .fieldAddr 51 (.tmp 9) 1, 0, some (34, false)⟩, ⟨some 38, .load 3 (.tmp 37), 3, some (34, false)⟩, ⟨some 39, .call ⟨.value (.func 40), #[.tmp 36, .tmp 38], #[3, 3]⟩, 4, some (34, false)⟩, ⟨some 40, .pick (.tmp 34) (.const (.bool true)) (.tmp 39), 4, some (30, true)⟩, ⟨some 41, .pick (.tmp 30) (.tmp 40) (.const (.bool false)), 4, none⟩, ⟨some 8, .assign (.tmp 41), 4, none⟩] := vR rfl
/-! 17 columbary/selector.Choose (params #[24, 28, 29, 42, 32], results #[(.tmp 10), (.tmp 11), (.tmp 12)], 46 slots) -/
def W17_0 : List Nat := [10, 11, 12, 13, 15, 16, 22, 23, 24, 25, 26, 27, 28, 29, 30, 31, 32, 33, 34, 35, 36, 37, 38, 39, 40, 41, 42, 43, 44]
@[push_cast] theorem W17_0_def : W17_0 = [10, 11, 12, 13, 15, 16, 22, 23, 24, 25, 26, 27, 28, 29, 30, 31, 32, 33, 34, 35, 36, 37, 38, 39, 40, 41, 42, 43, 44] := mk_eq rfl
def r17_0 : List VOp :=
  [⟨some 5, .box 24 (.tmp 0), 0, none⟩,
   ⟨some 6, .box 28 (.tmp 1), 0, none⟩,
   ⟨some 8, .box 42 (.tmp 3), 0, none⟩,
   ⟨some 10, .assign (.const (.slice none 0 0)), 45, none⟩,
   ⟨some 11, .assign (.const (.int .i64 0)), 3, none⟩,
   ⟨some 12, .assign (.const (.int .i64 0)), 53, none⟩]
def r17_1 : List VOp :=
  [⟨some 13, .assign (.const (.slice none 0 0)), 45, none⟩]
def r17_2 : List VOp :=
  [lda 17 28 6,
   mv 18 2 29,
   lda 19 42 8,
   ⟨some 20, .call ⟨.value (.func 14), #[.tmp 17, .tmp 18, .tmp 19], #[28, 29, 42]⟩, 45, none⟩,
   ⟨some 21, .call ⟨.builtin .len, #[.tmp 20], #[45]⟩, 3, none⟩,
   ⟨some 22, .move (.const (.int .i64 0)), 3, none⟩]
def r17_3 : List VOp :=
  [⟨some 23, .binOp .lss 3 (.tmp 22) (.tmp 21) 3, 0, none⟩]
def r17_4 : List VOp :=
  [iad 24 45 20 22,
   lda 25 49 24,
   ⟨some 15, .alloc 49, 0, none⟩,
   ⟨none, .store 49 (.tmp 15) (.tmp 25), 0, none⟩]
def r17_5 : List VOp :=
  [lda 26 24 5,
   lda 27 28 6,
   lda 28 42 8,
   lda 29 49 15,
   ⟨some 30, .call ⟨.value (.func 15), #[.tmp 26, .tmp 27, .tmp 28, .tmp 29], #[24, 28, 42, 49]⟩, 4, none⟩,
   ⟨some 31, .unOp .not 4 (.tmp 30), 4, none⟩]
def r17_6 : List VOp :=
  [fad 32 49 15 2,
   lda 33 3 32,
   ⟨some 10, .assign (.const (.slice none 0 0)), 45, none⟩,
   asg 11 33 3,
   ⟨some 12, .assign (.const (.int .i64 261)), 53, none⟩]
def r17_7 : List VOp :=
  [lda 34 49 15,
   mv 35 4 32,
   ⟨some 36, .call ⟨.value (.func 46), #[.tmp 34, .tmp 35], #[49, 32]⟩, 45, none⟩,
   ⟨some 37, .makeFunc (Fn.func 47) #[] #[(.tmp 5), (.tmp 6), (.tmp 8)], 98, none⟩,
   ⟨some 38, .call ⟨.value (.func 45), #[.tmp 36, .tmp 37], #[45, 98]⟩, 45, none⟩,
   asg 16 38 45]
def r17_8 : List VOp :=
  [mv 39 13 45,
   mv 40 16 45,
   ⟨some 41, .call ⟨.value (.func 48), #[(.tmp 40), (.func 49)], #[45, 102]⟩, 49, none⟩,
   ⟨some 42, .buildSlice 45 1 #[(0, (.tmp 41))], 45, none⟩,
   ⟨some 43, .call ⟨.builtin .append, #[.tmp 39, .tmp 42], #[45, 45]⟩, 45, none⟩,
   asg 13 43 45]
def r17_9 : List VOp :=
  [⟨some 44, .binOp .add 3 (.tmp 22) (.const (.int .i64 1)) 3, 3, none⟩,
   mv 22 44 3]
def r17_10 : List VOp :=
  [mv 45 13 45,
   asg 10 45 45,
   ⟨some 11, .assign (.const (.int .i64 (-1))), 3, none⟩,
   ⟨some 12, .assign (.const (.int .i64 0)), 53, none⟩]
def B17 : VC :=
  (.seq (.region r17_0) (.seq (.region r17_1) (.seq (.seq (.region r17_2) (.block 0 (.loop (.seq (.region r17_3) (.seq (.cond (.tmp 23) .skip (.exit 0)) (.seq (.block 1 (.seq (.region r17_4) (.seq (.seq (.region r17_5) (.cond (.tmp 31) (.seq (.draw r17_6 3) .ret) .skip)) (.seq (.region r17_7) (.region r17_8))))) (.region r17_9))))))) (.seq (.region r17_10) .ret))))
theorem code17 : ∃ c, Try.f17.body = some c ∧ abs Try.f17.ntmps c = B17 := ⟨_, rfl, by kernel_rfl⟩
theorem hb17 : HasBody Try.prog 17 := hasBody_of Try.func17 (by kernel_rfl)
theorem res17 : Try.f17.results = #[(.tmp 10), (.tmp 11), (.tmp 12)] := rfl
theorem enter17 {w : World} {R : Value → World → Prop} (x0 x1 x2 x3 x4 : Value) (h : vc Try.prog B17 (retK Try.prog #[(.tmp 10), (.tmp 11), (.tmp 12)] R) [] (initEnv [x0, x1, x2, x3, x4] 0) w) : FnC Try.prog 17 #[x0, x1, x2, x3, x4] w R := by
  obtain ⟨c, h1, h2⟩ := code17
  exact hb17.fn (ret_of_vc mixed Try.func17 h1 (Nat.le_of_ble_eq_true rfl) B17 h2 h)
@[push_cast] theorem vr17_0 : VR r17_0 [⟨some 5, .box 24 (.tmp 0), 0, none⟩, ⟨some 6, .box 28 (.tmp 1), 0, none⟩, ⟨some 8, .box 42 (.tmp 3), 0, none⟩, ⟨some 10, .assign (.const (.slice none 0 0)), 45, none⟩, ⟨some 11, .assign (.const (.int .i64 0)), 3, none⟩, ⟨some 12, .assign (.const (.int .i64 0)), 53, none⟩] := vR rfl
@[push_cast] theorem vr17_1 : VR r17_1 [⟨some 13, .assign (.const (.slice none 0 0)), 45, none⟩] := vR rfl
@[push_cast] theorem vr17_2 : VR r17_2 [⟨some 17, .load 28 (.tmp 6), 28, none⟩, ⟨some 18, .move (.tmp 2), 29, none⟩, ⟨some 19, .load 42 (.tmp 8), 42, none⟩, ⟨some 20, .call ⟨.value (.func 14), #[.tmp 17, .tmp 18, .tmp 19], #[28, 29, 42]⟩, 45, none⟩, ⟨some 21, .call ⟨.builtin .len, #[.tmp 20], #[45]⟩, 3, none⟩, ⟨some 22, .move (.const (.int .i64 0)), 3, none⟩] := vR rfl
@[push_cast] theorem vr17_3 : VR r17_3 [⟨some 23, .binOp .lss 3 (.tmp 22) (.tmp 21) 3, 0, none⟩] := vR rfl
@[push_cast] theorem vr17_4 : VR r17_4 [⟨some 24, .indexAddr 45 (.tmp 20) (.tmp 22), 0, none⟩, ⟨some 25, .load 49 (.tmp 24), 49, none⟩, ⟨some 15, .alloc 49, 0, none⟩, ⟨none, .store 49 (.tmp 15) (.tmp 25), 0, none⟩] := vR rfl
@[push_cast] theorem vr17_5 : VR r17_5 [⟨some 26, .load 24 (.tmp 5), 24, none⟩, ⟨some 27, .load 28 (.tmp 6), 28, none⟩, ⟨some 28, .load 42 (.tmp 8), 42, none⟩, ⟨some 29, .load 49 (.tmp 15), 49, none⟩, ⟨some 30, .call ⟨.value (.func 15), #[.tmp 26, .tmp 27, .tmp 28, .tmp 29], #[24, 28, 42, 49]⟩, 4, none⟩, ⟨some 31, .unOp .not 4 (.tmp 30), 4, none⟩] := vR rfl
@[push_cast] theorem vr17_6 : vc Try.prog (.draw r17_6 3) Q ds σ w = drawn Try.prog [(⟨some 32, .fieldAddr 49 (.tmp 15) 2, 0, none⟩, [15]), (⟨some 33, .load 3 (.tmp 32), 3, none⟩, [32]), (⟨some 10, .assign (.const (.slice none 0 0)), 45, none⟩, []), (⟨some 11, .assign (.tmp 33), 3, none⟩, [33]), (⟨some 12, .assign (.const (.int .i64 261)), 53, none⟩, [])] 3 (Q .normal ds) σ w := mk_eq rfl
@[push_cast] theorem vr17_7 : VR r17_7 [⟨some 34, .load 49 (.tmp 15), 49, none⟩, ⟨some 35, .move (.tmp 4), 32, none⟩, ⟨some 36, .call ⟨.value (.func 46), #[.tmp 34, .tmp 35], #[49, 32]⟩, 45, none⟩, ⟨some 37, .makeFunc (Fn.func 47) #[] #[(.tmp 5), (.tmp 6), (.tmp 8)], 98, none⟩, ⟨some 38, .call ⟨.value (.func 45), #[.tmp 36, .tmp 37], #[45, 98]⟩, 45, none⟩, ⟨some 16, .assign (.tmp 38), 45, none⟩] := vR rfl
@[push_cast] theorem vr17_8 : VR r17_8 [⟨some 39, .move (.tmp 13), 45, none⟩, ⟨some 40, .move (.tmp 16), 45, none⟩, ⟨some 41, .call ⟨.value (.func 48), #[(.tmp 40), (.func 49)], #[45, 102]⟩, 49, none⟩, ⟨some 42, .buildSlice 45 1 #[(0, (.tmp 41))], 45, none⟩, ⟨some 43, .call ⟨.builtin .append, #[.tmp 39, .tmp 42], #[45, 45]⟩, 45, none⟩, ⟨some 13, .assign (.tmp 43), 45, none⟩] := vR rfl
@[push_cast] theorem vr17_9 : VR r17_9 [⟨some 44, .binOp .add 3 (.tmp 22) (.const (.int .i64 1)) 3, 3, none⟩, ⟨some 22, .move (.tmp 44), 3, none⟩] := vR rfl
@[push_cast] theorem vr17_10 : VR r17_10 [⟨some 45, .move (.tmp 13), 45, none⟩, ⟨some 10, .assign (.tmp 45), 45, none⟩, ⟨some 11, .assign (.const (.int .i64 (-1))), 3, none⟩, ⟨some 12, .assign (.const (.int .i64 0)), 53, none⟩] := vR rfl
/-! 30 columbary/typer.Used (params #[24, 42], results #[(.tmp 4)], 13 slots) -/
def r30_0 : List VOp :=
  [⟨some 2, .box 24 (.tmp 0), 0, none⟩,
   ⟨some 3, .box 42 (.tmp 1), 0, none⟩,
   ⟨some 4, .assign (.const (.slice none 0 0)), 22, none⟩]
def r30_1 : List VOp :=
  [lda 6 42 3,
   ⟨some 7, .call ⟨.value (.func 73), #[.tmp 6], #[42]⟩, 22, none⟩,
   ⟨some 5, .alloc 22, 0, none⟩,
   ⟨none, .store 22 (.tmp 5) (.tmp 7), 0, none⟩]
def r30_2 : List VOp :=
  [fad 8 24 2 0,
   lda 9 22 8,
   ⟨some 10, .call ⟨.value (.func 75), #[.tmp 9], #[22]⟩, 22, none⟩,
   ⟨some 11, .makeFunc (Fn.func 76) #[] #[(.tmp 5)], 90, none⟩,
   ⟨some 12, .call ⟨.value (.func 74), #[.tmp 10, .tmp 11], #[22, 90]⟩, 22, none⟩,
   asg 4 12 22]
def B30 : VC :=
  (.seq (.region r30_0) (.seq (.region r30_1) (.seq (.region r30_2) .ret)))
theorem code30 : ∃ c, Try.f30.body = some c ∧ abs Try.f30.ntmps c = B30 := ⟨_, rfl, by kernel_rfl⟩
theorem hb30 : HasBody Try.prog 30 := hasBody_of Try.func30 (by kernel_rfl)
theorem res30 : Try.f30.results = #[(.tmp 4)] := rfl
theorem enter30 {w : World} {R : Value → World → Prop} (x0 x1 : Value) (h : vc Try.prog B30 (retK Try.prog #[(.tmp 4)] R) [] (initEnv [x0, x1] 0) w) : FnC Try.prog 30 #[x0, x1] w R := by
  obtain ⟨c, h1, h2⟩ := code30
  exact hb30.fn (ret_of_vc mixed Try.func30 h1 (Nat.le_of_ble_eq_true rfl) B30 h2 h)
@[push_cast] theorem vr30_0 : VR r30_0 [⟨some 2, .box 24 (.tmp 0), 0, none⟩, ⟨some 3, .box 42 (.tmp 1), 0, none⟩, ⟨some 4, .assign (.const (.slice none 0 0)), 22, none⟩] := vR rfl
@[push_cast] theorem vr30_1 : VR r30_1 [⟨some 6, .load 42 (.tmp 3), 42, none⟩, ⟨some 7, .call ⟨.value (.func 73), #[.tmp 6], #[42]⟩, 22, none⟩, ⟨some 5, .alloc 22, 0, none⟩, ⟨none, .store 22 (.tmp 5) (.tmp 7), 0, none⟩] := vR rfl
@[push_cast] theorem vr30_2 : VR r30_2 [⟨some 8, .fieldAddr 24 (.tmp 2) 0, 0, none⟩, ⟨some 9, .load 22 (.tmp 8), 22, none⟩, ⟨some 10, .call ⟨.value (.func 75), #[.tmp 9], #[22]⟩, 22, none⟩, ⟨some 11, .makeFunc (Fn.func 76) #[] #[(.tmp 5)], 90, none⟩, ⟨some 12, .call ⟨.value (.func 74), #[.tmp 10, .tmp 11], #[22, 90]⟩, 22, none⟩, ⟨some 4, .assign (.tmp 12), 22, none⟩] := vR rfl
/-! 34 columbary/columbarylaw26.store (params #[], results #[(.cell 0 34)], 20 slots) -/
def r34_0 : List VOp :=
  [⟨some 0, .alloc 34, 0, none⟩]
def r34_1 : List VOp :=
  [⟨some 3, .buildSlice 22 2 #[(0, (.const (.string { data := #[97] }))), (1, (.const (.string { data := #[98] })))], 22, none⟩,
   ⟨some 4, .build 24 #[(0, (.tmp 3))], 24, none⟩,
   ⟨some 1, .alloc 24, 0, none⟩,
   ⟨none, .store 24 (.tmp 1) (.tmp 4), 0, none⟩]
def r34_2 : List VOp :=
  [⟨some 5, .buildSlice 22 2 #[(0, (.const (.string { data := #[97] }))), (1, (.const (.string { data := #[98] })))], 22, none⟩,
   ⟨some 6, .build 60 #[(1, (.const (.int .i64 1))), (2, (.tmp 5))], 60, none⟩,
   ⟨some 7, .buildSlice 22 1 #[(0, (.const (.string { data := #[97] })))], 22, none⟩,
   ⟨some 8, .build 60 #[(0, (.const (.int .i64 20))), (1, (.const (.int .i64 10))), (2, (.tmp 7))], 60, none⟩,
   ⟨some 9, .buildSlice 25 2 #[(0, (.tmp 6)), (1, (.tmp 8))], 25, none⟩,
   ⟨some 10, .build 51 #[(0, (.const (.int .i64 0))), (1, (.const (.int .i64 5)))], 51, none⟩,
   ⟨some 11, .buildSlice 26 1 #[(0, (.tmp 10))], 26, none⟩,
   ⟨some 12, .build 28 #[(0, (.tmp 9)), (1, (.tmp 11)), (2, (.const (.int .i64 100)))], 28, none⟩,
   ⟨some 2, .alloc 28, 0, none⟩,
   ⟨none, .store 28 (.tmp 2) (.tmp 12), 0, none⟩]
def r34_3 : List VOp :=
  [lda 13 24 1,
   lda 14 28 2,
   ⟨some 15, .buildSlice 29 2 #[(0, (.const (.int .i64 40))), (1, (.const (.int .i64 0)))], 29, none⟩,
   ⟨some 16, .build 57 #[(0, (.const (.string { data := #[115] }))), (2, (.const (.int .i64 (-1)))), (3, (.const (.int .i64 9)))], 57, none⟩,
   ⟨some 17, .build 57 #[(0, (.const (.string { data := #[116] }))), (3, (.const (.int .i64 4)))], 57, none⟩,
   ⟨some 18, .buildSlice 32 2 #[(0, (.tmp 16)), (1, (.tmp 17))], 32, none⟩,
   ⟨some 19, .build 34 #[(0, (.tmp 13)), (1, (.tmp 14)), (2, (.const (.int .i64 60))), (3, (.tmp 15)), (5, (.tmp 18)), (6, (.const (.string { data := #[106] })))], 34, none⟩,
   ⟨none, .store 34 (.tmp 0) (.tmp 19), 0, none⟩]
def B34 : VC :=
  (.seq (.region r34_0) (.seq (.region r34_1) (.seq (.region r34_2) (.seq (.region r34_3) .ret))))
theorem code34 : ∃ c, Try.f34.body = some c ∧ abs Try.f34.ntmps c = B34 := ⟨_, rfl, by kernel_rfl⟩
theorem hb34 : HasBody Try.prog 34 := hasBody_of Try.func34 (by kernel_rfl)
theorem res34 : Try.f34.results = #[(.cell 0 34)] := rfl
theorem enter34 {w : World} {R : Value → World → Prop} (h : vc Try.prog B34 (retK Try.prog #[(.cell 0 34)] R) [] (initEnv [] 0) w) : FnC Try.prog 34 #[] w R := by
  obtain ⟨c, h1, h2⟩ := code34
  exact hb34.fn (ret_of_vc mixed Try.func34 h1 (Nat.le_of_ble_eq_true rfl) B34 h2 h)
@[push_cast] theorem vr34_0 : VR r34_0 [⟨some 0, .alloc 34, 0, none⟩] := vR rfl
@[push_cast] theorem vr34_1 : VR r34_1 [⟨some 3, .buildSlice 22 2 #[(0, (.const (.string { data := #[97] }))), (1, (.const (.string { data := #[98] })))], 22, none⟩, ⟨some 4, .build 24 #[(0, (.tmp 3))], 24, none⟩, ⟨some 1, .alloc 24, 0, none⟩, ⟨none, .store 24 (.tmp 1) (.tmp 4), 0, none⟩] := vR rfl
@[push_cast] theorem vr34_2 : VR r34_2 [⟨some 5, .buildSlice 22 2 #[(0, (.const (.string { data := #[97] }))), (1, (.const (.string { data := #[98] })))], 22, none⟩, ⟨some 6, .build 60 #[(1, (.const (.int .i64 1))), (2, (.tmp 5))], 60, none⟩, ⟨some 7, .buildSlice 22 1 #[(0, (.const (.string { data := #[97] })))], 22, none⟩, ⟨some 8, .build 60 #[(0, (.const (.int .i64 20))), (1, (.const (.int .i64 10))), (2, (.tmp 7))], 60, none⟩, ⟨some 9, .buildSlice 25 2 #[(0, (.tmp 6)), (1, (.tmp 8))], 25, none⟩, ⟨some 10, .build 51 #[(0, (.const (.int .i64 0))), (1, (.const (.int .i64 5)))], 51, none⟩, ⟨some 11, .buildSlice 26 1 #[(0, (.tmp 10))], 26, none⟩, ⟨some 12, .build 28 #[(0, (.tmp 9)), (1, (.tmp 11)), (2, (.const (.int .i64 100)))], 28, none⟩, ⟨some 2, .alloc 28, 0, none⟩, ⟨none, .store 28 (.tmp 2) (.tmp 12), 0, none⟩] := vR rfl
@[push_cast] theorem vr34_3 : VR r34_3 [⟨some 13, .load 24 (.tmp 1), 24, none⟩, ⟨some 14, .load 28 (.tmp 2), 28, none⟩, ⟨some 15, .buildSlice 29 2 #[(0, (.const (.int .i64 40))), (1, (.const (.int .i64 0)))], 29, none⟩, ⟨some 16, .build 57 #[(0, (.const (.string { data := #[115] }))), (2, (.const (.int .i64 (-1)))), (3, (.const (.int .i64 9)))], 57, none⟩, ⟨some 17, .build 57 #[(0, (.const (.string { data := #[116] }))), (3, (.const (.int .i64 4)))], 57, none⟩, ⟨some 18, .buildSlice 32 2 #[(0, (.tmp 16)), (1, (.tmp 17))], 32, none⟩, ⟨some 19, .build 34 #[(0, (.tmp 13)), (1, (.tmp 14)), (2, (.const (.int .i64 60))), (3, (.tmp 15)), (5, (.tmp 18)), (6, (.const (.string { data := #[106] })))], 34, none⟩, ⟨none, .store 34 (.tmp 0) (.tmp 19), 0, none⟩] := vR rfl
/-! 35 columbary/selector.cuboid (params #[28, 49], results #[(.cell 4 51)], 28 slots) -/
def r35_0 : List VOp :=
  [⟨some 2, .box 28 (.tmp 0), 0, none⟩,
   ⟨some 3, .box 49 (.tmp 1), 0, none⟩,
   ⟨some 4, .alloc 51, 0, none⟩]
def r35_1 : List VOp :=
  [fad 6 49 3 3,
   lda 7 3 6,
   ⟨some 8, .binOp .eql 3 (.tmp 7) (.const (.int .i64 (-1))) 3, 4, none⟩]
def r35_2 : List VOp :=
  [fad 9 28 2 0,
   lda 10 25 9,
   fad 11 49 3 2,
   lda 12 3 11,
   iad 13 25 10 12,
   lda 14 60 13,
   ⟨some 5, .alloc 60, 0, none⟩,
   ⟨none, .store 60 (.tmp 5) (.tmp 14), 0, none⟩]
def r35_3 : List VOp :=
  [fad 15 49 3 2,
   lda 16 3 15,
   fad 17 60 5 1,
   lda 18 3 17,
   fad 19 60 5 2,
   lda 20 22 19,
   ⟨some 21, .build 51 #[(0, (.tmp 16)), (1, (.tmp 18)), (2, (.tmp 20))], 51, none⟩,
   ⟨none, .store 51 (.tmp 4) (.tmp 21), 0, none⟩]
def r35_4 : List VOp :=
  [fad 22 28 2 1,
   lda 23 26 22,
   fad 24 49 3 3,
   lda 25 3 24,
   iad 26 26 23 25,
   lda 27 51 26,
   ⟨none, .store 51 (.tmp 4) (.tmp 27), 0, none⟩]
def B35 : VC :=
  (.seq (.region r35_0) (.seq (.seq (.region r35_1) (.cond (.tmp 8) (.seq (.region r35_2) (.seq (.region r35_3) .ret)) .skip)) (.seq (.region r35_4) .ret)))
theorem code35 : ∃ c, Try.f35.body = some c ∧ abs Try.f35.ntmps c = B35 := ⟨_, rfl, by kernel_rfl⟩
theorem hb35 : HasBody Try.prog 35 := hasBody_of Try.func35 (by kernel_rfl)
theorem res35 : Try.f35.results = #[(.cell 4 51)] := rfl
theorem enter35 {w : World} {R : Value → World → Prop} (x0 x1 : Value) (h : vc Try.prog B35 (retK Try.prog #[(.cell 4 51)] R) [] (initEnv [x0, x1] 0) w) : FnC Try.prog 35 #[x0, x1] w R := by
  obtain ⟨c, h1, h2⟩ := code35
  exact hb35.fn (ret_of_vc mixed Try.func35 h1 (Nat.le_of_ble_eq_true rfl) B35 h2 h)
@[push_cast] theorem vr35_0 : VR r35_0 [⟨some 2, .box 28 (.tmp 0), 0, none⟩, ⟨some 3, .box 49 (.tmp 1), 0, none⟩, ⟨some 4, .alloc 51, 0, none⟩] := vR rfl
@[push_cast] theorem vr35_1 : VR r35_1 [⟨some 6, .fieldAddr 49 (.tmp 3) 3, 0, none⟩, ⟨some 7, .load 3 (.tmp 6), 3, none⟩, ⟨some 8, .binOp .eql 3 (.tmp 7) (.const (.int .i64 (-1))) 3, 4, none⟩] := vR rfl
@[push_cast] theorem vr35_2 : VR r35_2 [⟨some 9, .fieldAddr 28 (.tmp 2) 0, 0, none⟩, ⟨some 10, .load 25 (.tmp 9), 25, none⟩, ⟨some 11, .fieldAddr 49 (.tmp 3) 2, 0, none⟩, ⟨some 12, .load 3 (.tmp 11), 3, none⟩, ⟨some 13, .indexAddr 25 (.tmp 10) (.tmp 12), 0, none⟩, ⟨some 14, .load 60 (.tmp 13), 60, none⟩, ⟨some 5, .alloc 60, 0, none⟩, ⟨none, .store 60 (.tmp 5) (.tmp 14), 0, none⟩] := vR rfl
@[push_cast] theorem vr35_3 : VR r35_3 [⟨some 15, .fieldAddr 49 (.tmp 3) 2, 0, none⟩, ⟨some 16, .load 3 (.tmp 15), 3, none⟩, ⟨some 17, .fieldAddr 60 (.tmp 5) 1, 0, none⟩, ⟨some 18, .load 3 (.tmp 17), 3, none⟩, ⟨some 19, .fieldAddr 60 (.tmp 5) 2, 0, none⟩, ⟨some 20, .load 22 (.tmp 19), 22, none⟩, ⟨some 21, .build 51 #[(0, (.tmp 16)), (1, (.tmp 18)), (2, (.tmp 20))], 51, none⟩, ⟨none, .store 51 (.tmp 4) (.tmp 21), 0, none⟩] := vR rfl
@[push_cast] theorem vr35_4 : VR r35_4 [⟨some 22, .fieldAddr 28 (.tmp 2) 1, 0, none⟩, ⟨some 23, .load 26 (.tmp 22), 26, none⟩, ⟨some 24, .fieldAddr 49 (.tmp 3) 3, 0, none⟩, ⟨some 25, .load 3 (.tmp 24), 3, none⟩, ⟨some 26, .indexAddr 26 (.tmp 23) (.tmp 25), 0, none⟩, ⟨some 27, .load 51 (.tmp 26), 51, none⟩, ⟨none, .store 51 (.tmp 4) (.tmp 27), 0, none⟩] := vR rfl
/-! 36 slices.ContainsFunc[[]string,string] (params #[22, 90], results #[(.tmp 4)], 9 slots) -/
def r36_0 : List VOp :=
  [⟨some 4, .assign (.const (.bool false)), 4, none⟩]
def r36_1 : List VOp :=
  [mv 5 0 22,
   mv 6 1 90,
   ⟨some 7, .call ⟨.value (.func 80), #[.tmp 5, .tmp 6], #[22, 90]⟩, 3, none⟩,
   ⟨some 8, .binOp .geq 3 (.tmp 7) (.const (.int .i64 0)) 3, 4, none⟩,
   asg 4 8 4]
def B36 : VC :=
  (.seq (.region r36_0) (.seq (.region r36_1) .ret))
theorem code36 : ∃ c, Try.f36.body = some c ∧ abs Try.f36.ntmps c = B36 := ⟨_, rfl, by kernel_rfl⟩
theorem hb36 : HasBody Try.prog 36 := hasBody_of Try.func36 (by kernel_rfl)
theorem res36 : Try.f36.results = #[(.tmp 4)] := rfl
theorem enter36 {w : World} {R : Value → World → Prop} (x0 x1 : Value) (h : vc Try.prog B36 (retK Try.prog #[(.tmp 4)] R) [] (initEnv [x0, x1] 0) w) : FnC Try.prog 36 #[x0, x1] w R := by
  obtain ⟨c, h1, h2⟩ := code36
  exact hb36.fn (ret_of_vc mixed Try.func36 h1 (Nat.le_of_ble_eq_true rfl) B36 h2 h)
@[push_cast] theorem vr36_0 : VR r36_0 [⟨some 4, .assign (.const (.bool false)), 4, none⟩] := vR rfl
@[push_cast] theorem vr36_1 : VR r36_1 [⟨some 5, .move (.tmp 0), 22, none⟩, ⟨some 6, .move (.tmp 1), 90, none⟩, ⟨some 7, .call ⟨.value (.func 80), #[.tmp 5, .tmp 6], #[22, 90]⟩, 3, none⟩, ⟨some 8, .binOp .geq 3 (.tmp 7) (.const (.int .i64 0)) 3, 4, none⟩, ⟨some 4, .assign (.tmp 8), 4, none⟩] := vR rfl
/-! 37 columbary/selector.Eligible$1 (params #[9], results #[(.tmp 3)], 9 slots) -/
def r37_0 : List VOp :=
  [⟨some 3, .assign (.const (.bool false)), 4, none⟩]
def r37_1 : List VOp :=
  [fad 4 51 1 2,
   lda 5 22 4,
   mv 6 0 9,
   ⟨some 7, .call ⟨.value (.func 38), #[.tmp 5, .tmp 6], #[22, 9]⟩, 4, none⟩,
   ⟨some 8, .unOp .not 4 (.tmp 7), 4, none⟩,
   asg 3 8 4]
def B37 : VC :=
  (.seq (.region r37_0) (.seq (.region r37_1) .ret))
theorem code37 : ∃ c, Try.f37.body = some c ∧ abs Try.f37.ntmps c = B37 := ⟨_, rfl, by kernel_rfl⟩
theorem hb37 : HasBody Try.prog 37 := hasBody_of Try.func37 (by kernel_rfl)
theorem res37 : Try.f37.results = #[(.tmp 3)] := rfl
theorem enter37 {w : World} {R : Value → World → Prop} (x0 x1 : Value) (h : vc Try.prog B37 (retK Try.prog #[(.tmp 3)] R) [] (initEnv [x0, x1] 0) w) : FnC Try.prog 37 #[x0, x1] w R := by
  obtain ⟨c, h1, h2⟩ := code37
  exact hb37.fn (ret_of_vc mixed Try.func37 h1 (Nat.le_of_ble_eq_true rfl) B37 h2 h)
@[push_cast] theorem vr37_0 : VR r37_0 [⟨some 3, .assign (.const (.bool false)), 4, none⟩] := vR rfl
@[push_cast] theorem vr37_1 : VR r37_1 [⟨some 4, .fieldAddr 51 (.tmp 1) 2, 0, none⟩, ⟨some 5, .load 22 (.tmp 4), 22, none⟩, ⟨some 6, .move (.tmp 0), 9, none⟩, ⟨some 7, .call ⟨.value (.func 38), #[.tmp 5, .tmp 6], #[22, 9]⟩, 4, none⟩, ⟨some 8, .unOp .not 4 (.tmp 7), 4, none⟩, ⟨some 3, .assign (.tmp 8), 4, none⟩] := vR rfl
/-! 38 slices.Contains[[]string,string] (params #[22, 9], results #[(.tmp 4)], 9 slots) -/
def r38_0 : List VOp :=
  [⟨some 4, .assign (.const (.bool false)), 4, none⟩]
def r38_1 : List VOp :=
  [mv 5 0 22,
   mv 6 1 9,
   ⟨some 7, .call ⟨.value (.func 81), #[.tmp 5, .tmp 6], #[22, 9]⟩, 3, none⟩,
   ⟨some 8, .binOp .geq 3 (.tmp 7) (.const (.int .i64 0)) 3, 4, none⟩,
   asg 4 8 4]
def B38 : VC :=
  (.seq (.region r38_0) (.seq (.region r38_1) .ret))
theorem code38 : ∃ c, Try.f38.body = some c ∧ abs Try.f38.ntmps c = B38 := ⟨_, rfl, by kernel_rfl⟩
theorem hb38 : HasBody Try.prog 38 := hasBody_of Try.func38 (by kernel_rfl)
theorem res38 : Try.f38.results = #[(.tmp 4)] := rfl
theorem enter38 {w : World} {R : Value → World → Prop} (x0 x1 : Value) (h : vc Try.prog B38 (retK Try.prog #[(.tmp 4)] R) [] (initEnv [x0, x1] 0) w) : FnC Try.prog 38 #[x0, x1] w R := by
  obtain ⟨c, h1, h2⟩ := code38
  exact hb38.fn (ret_of_vc mixed Try.func38 h1 (Nat.le_of_ble_eq_true rfl) B38 h2 h)
@[push_cast] theorem vr38_0 : VR r38_0 [⟨some 4, .assign (.const (.bool false)), 4, none⟩] := vR rfl
@[push_cast] theorem vr38_1 : VR r38_1 [⟨some 5, .move (.tmp 0), 22, none⟩, ⟨some 6, .move (.tmp 1), 9, none⟩, ⟨some 7, .call ⟨.value (.func 81), #[.tmp 5, .tmp 6], #[22, 9]⟩, 3, none⟩, ⟨some 8, .binOp .geq 3 (.tmp 7) (.const (.int .i64 0)) 3, 4, none⟩, ⟨some 4, .assign (.tmp 8), 4, none⟩] := vR rfl
/-! 39 columbary/bucket.Aligned (params #[3, 3], results #[(.tmp 4)], 13 slots) -/
def r39_0 : List VOp :=
  [⟨some 4, .assign (.const (.bool false)), 4, none⟩]
def r39_1 : List VOp :=
  [mv 5 1 3,
   ⟨some 6, .call ⟨.value (.func 82), #[.tmp 5], #[3]⟩, 4, none⟩,
   mv 7 6 4,
   ⟨some 8, .move (.tmp 0), 3, some (7, true)⟩,
   ⟨some 9, .move (.tmp 1), 3, some (7, true)⟩,
   ⟨some 10, .binOp .rem 3 (.tmp 8) (.tmp 9) 3, 3, some (7, true)⟩,
   ⟨some 11, .binOp .eql 3 (.tmp 10) (.const (.int .i64 0)) 3, 4, some (7, true)⟩,
   ⟨some 12, .pick (.tmp 7) (.tmp 11) (.const (.bool false)), 4, none⟩,
   asg 4 12 4]
def B39 : VC :=
  (.seq (.region r39_0) (.seq (.region r39_1) .ret))
theorem code39 : ∃ c, Try.f39.body = some c ∧ abs Try.f39.ntmps c = B39 := ⟨_, rfl, by kernel_rfl⟩
theorem hb39 : HasBody Try.prog 39 := hasBody_of Try.func39 (by kernel_rfl)
theorem res39 : Try.f39.results = #[(.tmp 4)] := rfl
theorem enter39 {w : World} {R : Value → World → Prop} (x0 x1 : Value) (h : vc Try.prog B39 (retK Try.prog #[(.tmp 4)] R) [] (initEnv [x0, x1] 0) w) : FnC Try.prog 39 #[x0, x1] w R := by
  obtain ⟨c, h1, h2⟩ := code39
  exact hb39.fn (ret_of_vc mixed Try.func39 h1 (Nat.le_of_ble_eq_true rfl) B39 h2 h)
@[push_cast] theorem vr39_0 : VR r39_0 [⟨some 4, .assign (.const (.bool false)), 4, none⟩] := vR rfl
@[push_cast] theorem vr39_1 : VR r39_1 [⟨some 5, .move (.tmp 1), 3, none⟩, ⟨some 6, .call ⟨.value (.func 82), #[.tmp 5], #[3]⟩, 4, none⟩, ⟨some 7, .move (.tmp 6), 4, none⟩, ⟨some 8, .move (.tmp 0), 3, some (7, true)⟩, ⟨some 9, .move (.tmp 1), 3, some (7, true)⟩, ⟨some 10, .binOp .rem 3 (.tmp 8) (.tmp 9) 3, 3, some (7, true)⟩, ⟨some 11, .binOp .eql 3 (.tmp 10) (.const (.int .i64 0)) 3, 4, some (7, true)⟩, ⟨some 12, .pick (.tmp 7) (.tmp 11) (.const (.bool false)), 4, none⟩, ⟨some 4, .assign (.tmp 12), 4, none⟩] := vR rfl
/-! 40 columbary/bucket.Coarser (params #[3, 3], results #[(.tmp 4)], 17 slots) -/
def r40_0 : List VOp :=
  [⟨some 4, .assign (.const (.bool false)), 4, none⟩]
def r40_1 : List VOp :=
  [mv 5 0 3,
   ⟨some 6, .call ⟨.value (.func 82), #[.tmp 5], #[3]⟩, 4, none⟩,
   mv 7 6 4,
   ⟨some 8, .move (.tmp 1), 3, some (7, true)⟩,
   ⟨some 9, .call ⟨.value (.func 82), #[.tmp 8], #[3]⟩, 4, some (7, true)⟩,
   ⟨some 10, .pick (.tmp 7) (.tmp 9) (.const (.bool false)), 4, none⟩,
   mv 11 10 4,
   ⟨some 12, .move (.tmp 0), 3, some (11, true)⟩,
   ⟨some 13, .move (.tmp 1), 3, some (11, true)⟩,
   ⟨some 14, .binOp .rem 3 (.tmp 12) (.tmp 13) 3, 3, some (11, true)⟩,
   ⟨some 15, .binOp .eql 3 (.tmp 14) (.const (.int .i64 0)) 3, 4, some (11, true)⟩,
   ⟨some 16, .pick (.tmp 11) (.tmp 15) (.const (.bool false)), 4, none⟩,
   asg 4 16 4]
def B40 : VC :=
  (.seq (.region r40_0) (.seq (.region r40_1) .ret))
theorem code40 : ∃ c, Try.f40.body = some c ∧ abs Try.f40.ntmps c = B40 := ⟨_, rfl, by kernel_rfl⟩
theorem hb40 : HasBody Try.prog 40 := hasBody_of Try.func40 (by kernel_rfl)
theorem res40 : Try.f40.results = #[(.tmp 4)] := rfl
theorem enter40 {w : World} {R : Value → World → Prop} (x0 x1 : Value) (h : vc Try.prog B40 (retK Try.prog #[(.tmp 4)] R) [] (initEnv [x0, x1] 0) w) : FnC Try.prog 40 #[x0, x1] w R := by
  obtain ⟨c, h1, h2⟩ := code40
  exact hb40.fn (ret_of_vc mixed Try.func40 h1 (Nat.le_of_ble_eq_true rfl) B40 h2 h)
@[push_cast] theorem vr40_0 : VR r40_0 [⟨some 4, .assign (.const (.bool false)), 4, none⟩] := vR rfl
@[push_cast] theorem vr40_1 : VR r40_1 [⟨some 5, .move (.tmp 0), 3, none⟩, ⟨some 6, .call ⟨.value (.func 82), #[.tmp 5], #[3]⟩, 4, none⟩, ⟨some 7, .move (.tmp 6), 4, none⟩, ⟨some 8, .move (.tmp 1), 3, some (7, true)⟩, ⟨some 9, .call ⟨.value (.func 82), #[.tmp 8], #[3]⟩, 4, some (7, true)⟩, ⟨some 10, .pick (.tmp 7) (.tmp 9) (.const (.bool false)), 4, none⟩, ⟨some 11, .move (.tmp 10), 4, none⟩, ⟨some 12, .move (.tmp 0), 3, some (11, true)⟩, ⟨some 13, .move (.tmp 1), 3, some (11, true)⟩, ⟨some 14, .binOp .rem 3 (.tmp 12) (.tmp 13) 3, 3, some (11, true)⟩, ⟨some 15, .binOp .eql 3 (.tmp 14) (.const (.int .i64 0)) 3, 4, some (11, true)⟩, ⟨some 16, .pick (.tmp 11) (.tmp 15) (.const (.bool false)), 4, none⟩, ⟨some 4, .assign (.tmp 16), 4, none⟩] := vR rfl
/-! 45 slices.DeleteFunc[[]columbary/api.Plan,columbary/api.Plan] (params #[45, 98], results #[(.tmp 4)], 42 slots) -/
def W45_0 : List Nat := [5, 6, 7, 16, 17, 18, 19, 20, 21, 22, 23, 24, 25, 26, 27, 28, 29, 30, 31, 32, 33, 34, 35]
@[push_cast] theorem W45_0_def : W45_0 = [5, 6, 7, 16, 17, 18, 19, 20, 21, 22, 23, 24, 25, 26, 27, 28, 29, 30, 31, 32, 33, 34, 35] := mk_eq rfl
def r45_0 : List VOp :=
  [⟨some 4, .assign (.const (.slice none 0 0)), 45, none⟩]
def r45_1 : List VOp :=
  [mv 8 0 45,
   mv 9 1 98,
   ⟨some 10, .call ⟨.value (.func 85), #[.tmp 8, .tmp 9], #[45, 98]⟩, 3, none⟩,
   asg 5 10 3]
def r45_2 : List VOp :=
  [mv 11 5 3,
   ⟨some 12, .binOp .eql 3 (.tmp 11) (.const (.int .i64 (-1))) 3, 4, none⟩]
def r45_3 : List VOp :=
  [mv 13 0 45,
   asg 4 13 45]
def r45_4 : List VOp :=
  [mv 14 5 3,
   ⟨some 15, .binOp .add 3 (.tmp 14) (.const (.int .i64 1)) 3, 3, none⟩,
   asg 6 15 3]
def r45_5 : List VOp :=
  [mv 16 6 3,
   mv 17 0 45,
   ⟨some 18, .call ⟨.builtin .len, #[.tmp 17], #[45]⟩, 3, none⟩,
   ⟨some 19, .binOp .lss 3 (.tmp 16) (.tmp 18) 3, 4, none⟩]
def r45_7 : List VOp :=
  [mv 22 0 45,
   mv 23 6 3,
   iad 24 45 22 23,
   lda 25 49 24,
   ⟨some 7, .alloc 49, 0, none⟩,
   ⟨none, .store 49 (.tmp 7) (.tmp 25), 0, none⟩]
def r45_8 : List VOp :=
  [mv 26 1 98,
   lda 27 49 7,
   ⟨some 28, .call ⟨.value (.tmp 26), #[.tmp 27], #[49]⟩, 4, none⟩,
   ⟨some 29, .unOp .not 4 (.tmp 28), 4, none⟩]
def r45_9 : List VOp :=
  [mv 30 0 45,
   mv 31 5 3,
   lda 32 49 7,
   iad 33 45 30 31,
   ⟨none, .store 49 (.tmp 33) (.tmp 32), 0, none⟩]
def r45_10 : List VOp :=
  [mv 34 5 3,
   ⟨some 35, .binOp .add 3 (.tmp 34) (.const (.int .i64 1)) 3, 3, none⟩,
   asg 5 35 3]
def r45_6 : List VOp :=
  [mv 20 6 3,
   ⟨some 21, .binOp .add 3 (.tmp 20) (.const (.int .i64 1)) 3, 3, none⟩,
   asg 6 21 3]
def r45_11 : List VOp :=
  [mv 36 0 45,
   mv 37 5 3,
   ⟨some 38, .slice 45 (.tmp 36) (some (.tmp 37)) none none, 45, none⟩,
   ⟨none, .call ⟨.builtin .clear, #[.tmp 38], #[45]⟩, 0, none⟩]
def r45_12 : List VOp :=
  [mv 39 0 45,
   mv 40 5 3,
   ⟨some 41, .slice 45 (.tmp 39) none (some (.tmp 40)) none, 45, none⟩,
   asg 4 41 45]
def B45 : VC :=
  (.seq (.region r45_0) (.seq (.region r45_1) (.seq (.seq (.region r45_2) (.cond (.tmp 12) (.seq (.region r45_3) .ret) .skip)) (.seq (.seq (.region r45_4) (.block 0 (.loop (.seq (.seq (.region r45_5) (.cond (.tmp 19) .skip (.exit 0))) (.seq (.block 1 (.seq (.region r45_7) (.seq (.region r45_8) (.cond (.tmp 29) (.seq (.region r45_9) (.region r45_10)) .skip)))) (.region r45_6)))))) (.seq (.region r45_11) (.seq (.region r45_12) .ret))))))
theorem code45 : ∃ c, Try.f45.body = some c ∧ abs Try.f45.ntmps c = B45 := ⟨_, rfl, by kernel_rfl⟩
theorem hb45 : HasBody Try.prog 45 := hasBody_of Try.func45 (by kernel_rfl)
theorem res45 : Try.f45.results = #[(.tmp 4)] := rfl
theorem enter45 {w : World} {R : Value → World → Prop} (x0 x1 : Value) (h : vc Try.prog B45 (retK Try.prog #[(.tmp 4)] R) [] (initEnv [x0, x1] 0) w) : FnC Try.prog 45 #[x0, x1] w R := by
  obtain ⟨c, h1, h2⟩ := code45
  exact hb45.fn (ret_of_vc mixed Try.func45 h1 (Nat.le_of_ble_eq_true rfl) B45 h2 h)
@[push_cast] theorem vr45_0 : VR r45_0 [⟨some 4, .assign (.const (.slice none 0 0)), 45, none⟩] := vR rfl
@[push_cast] theorem vr45_1 : VR r45_1 [⟨some 8, .move (.tmp 0), 45, none⟩, ⟨some 9, .move (.tmp 1), 98, none⟩, ⟨some 10, .call ⟨.value (.func 85), #[.tmp 8, .tmp 9], #[45, 98]⟩, 3, none⟩, ⟨some 5, .assign (.tmp 10), 3, none⟩] := vR rfl
@[push_cast] theorem vr45_2 : VR r45_2 [⟨some 11, .move (.tmp 5), 3, none⟩, ⟨some 12, .binOp .eql 3 (.tmp 11) (.const (.int .i64 (-1))) 3, 4, none⟩] := vR rfl
@[push_cast] theorem vr45_3 : VR r45_3 [⟨some 13, .move (.tmp 0), 45, none⟩, ⟨some 4, .assign (.tmp 13), 45, none⟩] := vR rfl
@[push_cast] theorem vr45_4 : VR r45_4 [⟨some 14, .move (.tmp 5), 3, none⟩, ⟨some 15, .binOp .add 3 (.tmp 14) (.const (.int .i64 1)) 3, 3, none⟩, ⟨some 6, .assign (.tmp 15), 3, none⟩] := vR rfl
@[push_cast] theorem vr45_5 : VR r45_5 [⟨some 16, .move (.tmp 6), 3, none⟩, ⟨some 17, .move (.tmp 0), 45, none⟩, ⟨some 18, .call ⟨.builtin .len, #[.tmp 17], #[45]⟩, 3, none⟩, ⟨some 19, .binOp .lss 3 (.tmp 16) (.tmp 18) 3, 4, none⟩] := vR rfl
@[push_cast] theorem vr45_7 : VR r45_7 [⟨some 22, .move (.tmp 0), 45, none⟩, ⟨some 23, .move (.tmp 6), 3, none⟩, ⟨some 24, .indexAddr 45 (.tmp 22) (.tmp 23), 0, none⟩, ⟨some 25, .load 49 (.tmp 24), 49, none⟩, ⟨some 7, .alloc 49, 0, none⟩, ⟨none, .store 49 (.tmp 7) (.tmp 25), 0, none⟩] := vR rfl
@[push_cast] theorem vr45_8 : VR r45_8 [⟨some 26, .move (.tmp 1), 98, none⟩, ⟨some 27, .load 49 (.tmp 7), 49, none⟩, ⟨some 28, .call ⟨.value (.tmp 26), #[.tmp 27], #[49]⟩, 4, none⟩, ⟨some 29, .unOp .not 4 (.tmp 28), 4, none⟩] := vR rfl
@[push_cast] theorem vr45_9 : VR r45_9 [⟨some 30, .move (.tmp 0), 45, none⟩, ⟨some 31, .move (.tmp 5), 3, none⟩, ⟨some 32, .load 49 (.tmp 7), 49, none⟩, ⟨some 33, .indexAddr 45 (.tmp 30) (.tmp 31), 0, none⟩, ⟨none, .store 49 (.tmp 33) (.tmp 32), 0, none⟩] := vR rfl
@[push_cast] theorem vr45_10 : VR r45_10 [⟨some 34, .move (.tmp 5), 3, none⟩, ⟨some 35, .binOp .add 3 (.tmp 34) (.const (.int .i64 1)) 3, 3, none⟩, ⟨some 5, .assign (.tmp 35), 3, none⟩] := vR rfl
@[push_cast] theorem vr45_6 : VR r45_6 [⟨some 20, .move (.tmp 6), 3, none⟩, ⟨some 21, .binOp .add 3 (.tmp 20) (.const (.int .i64 1)) 3, 3, none⟩, ⟨some 6, .assign (.tmp 21), 3, none⟩] := vR rfl
@[push_cast] theorem vr45_11 : VR r45_11 [⟨some 36, .move (.tmp 0), 45, none⟩, ⟨some 37, .move (.tmp 5), 3, none⟩, ⟨some 38, .slice 45 (.tmp 36) (some (.tmp 37)) none none, 45, none⟩, ⟨none, .call ⟨.builtin .clear, #[.tmp 38], #[45]⟩, 0, none⟩] := vR rfl
@[push_cast] theorem vr45_12 : VR r45_12 [⟨some 39, .move (.tmp 0), 45, none⟩, ⟨some 40, .move (.tmp 5), 3, none⟩, ⟨some 41, .slice 45 (.tmp 39) none (some (.tmp 40)) none, 45, none⟩, ⟨some 4, .assign (.tmp 41), 45, none⟩] := vR rfl
/-! 46 columbary/selector.candidates (params #[49, 32], results #[(.tmp 4)], 45 slots) -/
def W46_0 : List Nat := [5, 7, 8, 13, 14, 15, 16, 17, 18, 19, 20, 21, 22, 23, 24, 25, 26, 27, 28, 29, 30, 31, 32, 33, 34, 35, 36, 37, 38, 39, 40, 41, 42, 43]
@[push_cast] theorem W46_0_def : W46_0 = [5, 7, 8, 13, 14, 15, 16, 17, 18, 19, 20, 21, 22, 23, 24, 25, 26, 27, 28, 29, 30, 31, 32, 33, 34, 35, 36, 37, 38, 39, 40, 41, 42, 43] := mk_eq rfl
def r46_0 : List VOp :=
  [⟨some 2, .box 49 (.tmp 0), 0, none⟩,
   ⟨some 4, .assign (.const (.slice none 0 0)), 45, none⟩]
def r46_1 : List VOp :=
  [lda 9 49 2,
   ⟨some 10, .buildSlice 45 1 #[(0, (.tmp 9))], 45, none⟩,
   asg 5 10 45]
def r46_2 : List VOp :=
  [mv 11 1 32,
   ⟨some 12, .call ⟨.builtin .len, #[.tmp 11], #[32]⟩, 3, none⟩,
   ⟨some 13, .move (.const (.int .i64 0)), 3, none⟩]
def r46_3 : List VOp :=
  [⟨some 14, .binOp .lss 3 (.tmp 13) (.tmp 12) 3, 0, none⟩]
def r46_4 : List VOp :=
  [iad 15 32 11 13,
   lda 16 57 15,
   ⟨some 7, .alloc 57, 0, none⟩,
   ⟨none, .store 57 (.tmp 7) (.tmp 16), 0, none⟩]
def r46_8 : List VOp :=
  [fad 29 57 7 1,
   lda 30 3 29,
   fad 31 49 2 2,
   lda 32 3 31,
   ⟨some 33, .binOp .neq 3 (.tmp 30) (.tmp 32) 3, 4, none⟩,
   asg 28 33 4]
def r46_9 : List VOp :=
  [fad 35 57 7 2,
   lda 36 3 35,
   ⟨some 37, .binOp .eql 3 (.tmp 36) (.const (.int .i64 (-1))) 3, 4, none⟩,
   asg 34 37 4]
def r46_10 : List VOp :=
  [mv 38 5 45,
   fad 39 57 7 3,
   lda 40 3 39,
   ⟨some 41, .indexAddr 45 (.tmp 38) (.const (.int .i64 0)), 0, none⟩,
   fad 42 49 41 4,
   ⟨none, .store 3 (.tmp 42) (.tmp 40), 0, none⟩]
def r46_5 : List VOp :=
  [lda 17 49 2,
   ⟨some 8, .alloc 49, 0, none⟩,
   ⟨none, .store 49 (.tmp 8) (.tmp 17), 0, none⟩]
def r46_6 : List VOp :=
  [fad 18 57 7 2,
   lda 19 3 18,
   fad 20 57 7 3,
   lda 21 3 20,
   fad 22 49 8 3,
   ⟨none, .store 3 (.tmp 22) (.tmp 19), 0, none⟩,
   fad 23 49 8 4,
   ⟨none, .store 3 (.tmp 23) (.tmp 21), 0, none⟩]
def r46_7 : List VOp :=
  [mv 24 5 45,
   lda 25 49 8,
   ⟨some 26, .buildSlice 45 1 #[(0, (.tmp 25))], 45, none⟩,
   ⟨some 27, .call ⟨.builtin .append, #[.tmp 24, .tmp 26], #[45, 45]⟩, 45, none⟩,
   asg 5 27 45]
def r46_11 : List VOp :=
  [⟨some 43, .binOp .add 3 (.tmp 13) (.const (.int .i64 1)) 3, 3, none⟩,
   mv 13 43 3]
def r46_12 : List VOp :=
  [mv 44 5 45,
   asg 4 44 45]
def B46 : VC :=
  (.seq (.region r46_0) (.seq (.region r46_1) (.seq (.seq (.region r46_2) (.block 0 (.loop (.seq (.region r46_3) (.seq (.cond (.tmp 14) .skip (.exit 0)) (.seq (.block 1 (.seq (.region r46_4) (.block 2 (.seq (.region r46_8) (.cond (.tmp 28) .skip (.seq (.region r46_9) (.cond (.tmp 34) (.region r46_10) (.seq (.region r46_5) (.seq (.drawA r46_6 3 [[], [0], [], [2], [0, 1], [4, 1, 0, 1], [0, 1, 2, 3, 4, 5], [6, 3, 5, 0, 1, 2, 3, 4, 5]]) (.region r46_7)))))))))) (.region r46_11))))))) (.seq (.region r46_12) .ret))))
theorem code46 : ∃ c, Try.f46.body = some c ∧ absT Try.f46.ntmps c = B46 := ⟨_, rfl, by kernel_rfl⟩
theorem hb46 : HasBody Try.prog 46 := hasBody_of Try.func46 (by kernel_rfl)
theorem res46 : Try.f46.results = #[(.tmp 4)] := rfl
theorem enter46 {w : World} {R : Value → World → Prop} (x0 x1 : Value) (h : vc Try.prog B46 (retK Try.prog #[(.tmp 4)] R) [] (initEnv [x0, x1] 0) w) : FnC Try.prog 46 #[x0, x1] w R := by
  obtain ⟨c, h1, h2⟩ := code46
  exact hb46.fn (ret_of_vc mixed Try.func46 h1 (Nat.le_of_ble_eq_true rfl) B46 h2 h)
@[push_cast] theorem vr46_0 : VR r46_0 [⟨some 2, .box 49 (.tmp 0), 0, none⟩, ⟨some 4, .assign (.const (.slice none 0 0)), 45, none⟩] := vR rfl
@[push_cast] theorem vr46_1 : VR r46_1 [⟨some 9, .load 49 (.tmp 2), 49, none⟩, ⟨some 10, .buildSlice 45 1 #[(0, (.tmp 9))], 45, none⟩, ⟨some 5, .assign (.tmp 10), 45, none⟩] := vR rfl
@[push_cast] theorem vr46_2 : VR r46_2 [⟨some 11, .move (.tmp 1), 32, none⟩, ⟨some 12, .call ⟨.builtin .len, #[.tmp 11], #[32]⟩, 3, none⟩, ⟨some 13, .move (.const (.int .i64 0)), 3, none⟩] := vR rfl
@[push_cast] theorem vr46_3 : VR r46_3 [⟨some 14, .binOp .lss 3 (.tmp 13) (.tmp 12) 3, 0, none⟩] := vR rfl
@[push_cast] theorem vr46_4 : VR r46_4 [⟨some 15, .indexAddr 32 (.tmp 11) (.tmp 13), 0, none⟩, ⟨some 16, .load 57 (.tmp 15), 57, none⟩, ⟨some 7, .alloc 57, 0, none⟩, ⟨none, .store 57 (.tmp 7) (.tmp 16), 0, none⟩] := vR rfl
@[push_cast] theorem vr46_8 : VR r46_8 [⟨some 29, .fieldAddr 57 (.tmp 7) 1, 0, none⟩, ⟨some 30, .load 3 (.tmp 29), 3, none⟩, ⟨some 31, .fieldAddr 49 (.tmp 2) 2, 0, none⟩, ⟨some 32, .load 3 (.tmp 31), 3, none⟩, ⟨some 33, .binOp .neq 3 (.tmp 30) (.tmp 32) 3, 4, none⟩, ⟨some 28, .assign (.tmp 33), 4, none⟩] := vR rfl
@[push_cast] theorem vr46_9 : VR r46_9 [⟨some 35, .fieldAddr 57 (.tmp 7) 2, 0, none⟩, ⟨some 36, .load 3 (.tmp 35), 3, none⟩, ⟨some 37, .binOp .eql 3 (.tmp 36) (.const (.int .i64 (-1))) 3, 4, none⟩, ⟨some 34, .assign (.tmp 37), 4, none⟩] := vR rfl
@[push_cast] theorem vr46_10 : VR r46_10 [⟨some 38, .move (.tmp 5), 45, none⟩, ⟨some 39, .fieldAddr 57 (.tmp 7) 3, 0, none⟩, ⟨some 40, .load 3 (.tmp 39), 3, none⟩, ⟨some 41, .indexAddr 45 (.tmp 38) (.const (.int .i64 0)), 0, none⟩, ⟨some 42, .fieldAddr 49 (.tmp 41) 4, 0, none⟩, ⟨none, .store 3 (.tmp 42) (.tmp 40), 0, none⟩] := vR rfl
@[push_cast] theorem vr46_5 : VR r46_5 [⟨some 17, .load 49 (.tmp 2), 49, none⟩, ⟨some 8, .alloc 49, 0, none⟩, ⟨none, .store 49 (.tmp 8) (.tmp 17), 0, none⟩] := vR rfl
@[push_cast] theorem vr46_6 : vc Try.prog (.drawA r46_6 3 [[], [0], [], [2], [0, 1], [4, 1, 0, 1], [0, 1, 2, 3, 4, 5], [6, 3, 5, 0, 1, 2, 3, 4, 5]]) Q ds σ w = drawnA Try.prog [⟨some 18, .fieldAddr 57 (.tmp 7) 2, 0, none⟩, ⟨some 19, .load 3 (.tmp 18), 3, none⟩, ⟨some 20, .fieldAddr 57 (.tmp 7) 3, 0, none⟩, ⟨some 21, .load 3 (.tmp 20), 3, none⟩, ⟨some 22, .fieldAddr 49 (.tmp 8) 3, 0, none⟩, ⟨none, .store 3 (.tmp 22) (.tmp 19), 0, none⟩, ⟨some 23, .fieldAddr 49 (.tmp 8) 4, 0, none⟩, ⟨none, .store 3 (.tmp 23) (.tmp 21), 0, none⟩] 3 [[], [0], [], [2], [0, 1], [4, 1, 0, 1], [0, 1, 2, 3, 4, 5], [6, 3, 5, 0, 1, 2, 3, 4, 5]] (Q .normal ds) σ w := mk_eq rfl
@[push_cast] theorem vr46_7 : VR r46_7 [⟨some 24, .move (.tmp 5), 45, none⟩, ⟨some 25, .load 49 (.tmp 8), 49, none⟩, ⟨some 26, .buildSlice 45 1 #[(0, (.tmp 25))], 45, none⟩, ⟨some 27, .call ⟨.builtin .append, #[.tmp 24, .tmp 26], #[45, 45]⟩, 45, none⟩, ⟨some 5, .assign (.tmp 27), 45, none⟩] := vR rfl
@[push_cast] theorem vr46_11 : VR r46_11 [⟨some 43, .binOp .add 3 (.tmp 13) (.const (.int .i64 1)) 3, 3, none⟩, ⟨some 13, .move (.tmp 43), 3, none⟩] := vR rfl
@[push_cast] theorem vr46_12 : VR r46_12 [⟨some 44, .move (.tmp 5), 45, none⟩, ⟨some 4, .assign (.tmp 44), 45, none⟩] := vR rfl
/-! 47 columbary/selector.Choose$1 (params #[49], results #[(.tmp 5)], 12 slots) -/
def r47_0 : List VOp :=
  [⟨some 4, .box 49 (.tmp 0), 0, none⟩,
   ⟨some 5, .assign (.const (.bool false)), 4, none⟩]
def r47_1 : List VOp :=
  [lda 6 24 1,
   lda 7 28 2,
   lda 8 42 3,
   lda 9 49 4,
   ⟨some 10, .call ⟨.value (.func 15), #[.tmp 6, .tmp 7, .tmp 8, .tmp 9], #[24, 28, 42, 49]⟩, 4, none⟩,
   ⟨some 11, .unOp .not 4 (.tmp 10), 4, none⟩,
   asg 5 11 4]
def B47 : VC :=
  (.seq (.region r47_0) (.seq (.region r47_1) .ret))
theorem code47 : ∃ c, Try.f47.body = some c ∧ abs Try.f47.ntmps c = B47 := ⟨_, rfl, by kernel_rfl⟩
theorem hb47 : HasBody Try.prog 47 := hasBody_of Try.func47 (by kernel_rfl)
theorem res47 : Try.f47.results = #[(.tmp 5)] := rfl
theorem enter47 {w : World} {R : Value → World → Prop} (x0 x1 x2 x3 : Value) (h : vc Try.prog B47 (retK Try.prog #[(.tmp 5)] R) [] (initEnv [x0, x1, x2, x3] 0) w) : FnC Try.prog 47 #[x0, x1, x2, x3] w R := by
  obtain ⟨c, h1, h2⟩ := code47
  exact hb47.fn (ret_of_vc mixed Try.func47 h1 (Nat.le_of_ble_eq_true rfl) B47 h2 h)
@[push_cast] theorem vr47_0 : VR r47_0 [⟨some 4, .box 49 (.tmp 0), 0, none⟩, ⟨some 5, .assign (.const (.bool false)), 4, none⟩] := vR rfl
@[push_cast] theorem vr47_1 : VR r47_1 [⟨some 6, .load 24 (.tmp 1), 24, none⟩, ⟨some 7, .load 28 (.tmp 2), 28, none⟩, ⟨some 8, .load 42 (.tmp 3), 42, none⟩, ⟨some 9, .load 49 (.tmp 4), 49, none⟩, ⟨some 10, .call ⟨.value (.func 15), #[.tmp 6, .tmp 7, .tmp 8, .tmp 9], #[24, 28, 42, 49]⟩, 4, none⟩, ⟨some 11, .unOp .not 4 (.tmp 10), 4, none⟩, ⟨some 5, .assign (.tmp 11), 4, none⟩] := vR rfl
/-! 48 slices.MinFunc[[]columbary/api.Plan,columbary/api.Plan] (params #[45, 102], results #[(.cell 4 49)], 33 slots) -/
def W48_0 : List Nat := [6, 14, 15, 16, 17, 18, 19, 20, 21, 22, 23, 24, 25, 26, 27, 28, 29, 30, 31]
@[push_cast] theorem W48_0_def : W48_0 = [6, 14, 15, 16, 17, 18, 19, 20, 21, 22, 23, 24, 25, 26, 27, 28, 29, 30, 31] := mk_eq rfl
def r48_0 : List VOp :=
  [⟨some 4, .alloc 49, 0, none⟩]
def r48_1 : List VOp :=
  [mv 7 0 45,
   ⟨some 8, .call ⟨.builtin .len, #[.tmp 7], #[45]⟩, 3, none⟩,
   ⟨some 9, .binOp .lss 3 (.tmp 8) (.const (.int .i64 1)) 3, 4, none⟩]
def r48_2 : List VOp :=
  [⟨some 10, .makeInterface 9 (.const (.string { data := #[115, 108, 105, 99, 101, 115, 46, 77, 105, 110, 70, 117, 110, 99, 58, 32, 101, 109, 112, 116, 121, 32, 108, 105, 115, 116] })), 20, none⟩,
   ⟨none, .panic (.tmp 10), 0, none⟩]
def r48_3 : List VOp :=
  [mv 11 0 45,
   ⟨some 12, .indexAddr 45 (.tmp 11) (.const (.int .i64 0)), 0, none⟩,
   lda 13 49 12,
   ⟨some 5, .alloc 49, 0, none⟩,
   ⟨none, .store 49 (.tmp 5) (.tmp 13), 0, none⟩]
def r48_4 : List VOp :=
  [⟨some 6, .assign (.const (.int .i64 1)), 3, none⟩]
def r48_5 : List VOp :=
  [mv 14 6 3,
   mv 15 0 45,
   ⟨some 16, .call ⟨.builtin .len, #[.tmp 15], #[45]⟩, 3, none⟩,
   ⟨some 17, .binOp .lss 3 (.tmp 14) (.tmp 16) 3, 4, none⟩]
def r48_7 : List VOp :=
  [mv 20 1 102,
   mv 21 0 45,
   mv 22 6 3,
   iad 23 45 21 22,
   lda 24 49 23,
   lda 25 49 5,
   ⟨some 26, .call ⟨.value (.tmp 20), #[.tmp 24, .tmp 25], #[49, 49]⟩, 3, none⟩,
   ⟨some 27, .binOp .lss 3 (.tmp 26) (.const (.int .i64 0)) 3, 4, none⟩]
def r48_8 : List VOp :=
  [mv 28 0 45,
   mv 29 6 3,
   iad 30 45 28 29,
   lda 31 49 30,
   ⟨none, .store 49 (.tmp 5) (.tmp 31), 0, none⟩]
def r48_6 : List VOp :=
  [mv 18 6 3,
   ⟨some 19, .binOp .add 3 (.tmp 18) (.const (.int .i64 1)) 3, 3, none⟩,
   asg 6 19 3]
def r48_9 : List VOp :=
  [lda 32 49 5,
   ⟨none, .store 49 (.tmp 4) (.tmp 32), 0, none⟩]
def B48 : VC :=
  (.seq (.region r48_0) (.seq (.seq (.region r48_1) (.cond (.tmp 9) (.region r48_2) .skip)) (.seq (.region r48_3) (.seq (.seq (.region r48_4) (.block 0 (.loop (.seq (.seq (.region r48_5) (.cond (.tmp 17) .skip (.exit 0))) (.seq (.block 1 (.seq (.draw r48_7 3) (.cond (.tmp 27) (.region r48_8) .skip))) (.region r48_6)))))) (.seq (.region r48_9) .ret)))))
theorem code48 : ∃ c, Try.f48.body = some c ∧ abs Try.f48.ntmps c = B48 := ⟨_, rfl, by kernel_rfl⟩
theorem hb48 : HasBody Try.prog 48 := hasBody_of Try.func48 (by kernel_rfl)
theorem res48 : Try.f48.results = #[(.cell 4 49)] := rfl
theorem enter48 {w : World} {R : Value → World → Prop} (x0 x1 : Value) (h : vc Try.prog B48 (retK Try.prog #[(.cell 4 49)] R) [] (initEnv [x0, x1] 0) w) : FnC Try.prog 48 #[x0, x1] w R := by
  obtain ⟨c, h1, h2⟩ := code48
  exact hb48.fn (ret_of_vc mixed Try.func48 h1 (Nat.le_of_ble_eq_true rfl) B48 h2 h)
@[push_cast] theorem vr48_0 : VR r48_0 [⟨some 4, .alloc 49, 0, none⟩] := vR rfl
@[push_cast] theorem vr48_1 : VR r48_1 [⟨some 7, .move (.tmp 0), 45, none⟩, ⟨some 8, .call ⟨.builtin .len, #[.tmp 7], #[45]⟩, 3, none⟩, ⟨some 9, .binOp .lss 3 (.tmp 8) (.const (.int .i64 1)) 3, 4, none⟩] := vR rfl
@[push_cast] theorem vr48_2 : VR r48_2 [⟨some 10, .makeInterface 9 (.const (.string { data := #[115, 108, 105, 99, 101, 115, 46, 77, 105, 110, 70, 117, 110, 99, 58, 32, 101, 109, 112, 116, 121, 32, 108, 105, 115, 116] })), 20, none⟩, ⟨none, .panic (.tmp 10), 0, none⟩] := vR rfl
@[push_cast] theorem vr48_3 : VR r48_3 [⟨some 11, .move (.tmp 0), 45, none⟩, ⟨some 12, .indexAddr 45 (.tmp 11) (.const (.int .i64 0)), 0, none⟩, ⟨some 13, .load 49 (.tmp 12), 49, none⟩, ⟨some 5, .alloc 49, 0, none⟩, ⟨none, .store 49 (.tmp 5) (.tmp 13), 0, none⟩] := vR rfl
@[push_cast] theorem vr48_4 : VR r48_4 [⟨some 6, .assign (.const (.int .i64 1)), 3, none⟩] := vR rfl
@[push_cast] theorem vr48_5 : VR r48_5 [⟨some 14, .move (.tmp 6), 3, none⟩, ⟨some 15, .move (.tmp 0), 45, none⟩, ⟨some 16, .call ⟨.builtin .len, #[.tmp 15], #[45]⟩, 3, none⟩, ⟨some 17, .binOp .lss 3 (.tmp 14) (.tmp 16) 3, 4, none⟩] := vR rfl
@[push_cast] theorem vr48_7 : vc Try.prog (.draw r48_7 3) Q ds σ w = drawn Try.prog [(⟨some 20, .move (.tmp 1), 102, none⟩, [1]), (⟨some 21, .move (.tmp 0), 45, none⟩, [0]), (⟨some 22, .move (.tmp 6), 3, none⟩, [6]), (⟨some 23, .indexAddr 45 (.tmp 21) (.tmp 22), 0, none⟩, [21, 22]), (⟨some 24, .load 49 (.tmp 23), 49, none⟩, [23]), (⟨some 25, .load 49 (.tmp 5), 49, none⟩, [5]), (⟨some 26, .call ⟨.value (.tmp 20), #[.tmp 24, .tmp 25], #[49, 49]⟩, 3, none⟩, [20, 24, 25]), (⟨some 27, .binOp .lss 3 (.tmp 26) (.const (.int .i64 0)) 3, 4, none⟩, [26])] 3 (Q .normal ds) σ w := mk_eq rfl
@[push_cast] theorem vr48_8 : VR r48_8 [⟨some 28, .move (.tmp 0), 45, none⟩, ⟨some 29, .move (.tmp 6), 3, none⟩, ⟨some 30, .indexAddr 45 (.tmp 28) (.tmp 29), 0, none⟩, ⟨some 31, .load 49 (.tmp 30), 49, none⟩, ⟨none, .store 49 (.tmp 5) (.tmp 31), 0, none⟩] := vR rfl
@[push_cast] theorem vr48_6 : VR r48_6 [⟨some 18, .move (.tmp 6), 3, none⟩, ⟨some 19, .binOp .add 3 (.tmp 18) (.const (.int .i64 1)) 3, 3, none⟩, ⟨some 6, .assign (.tmp 19), 3, none⟩] := vR rfl
@[push_cast] theorem vr48_9 : VR r48_9 [⟨some 32, .load 49 (.tmp 5), 49, none⟩, ⟨none, .store 49 (.tmp 4) (.tmp 32), 0, none⟩] := vR rfl
/-! 49 columbary/selector.Choose$2 (params #[49, 49], results #[(.tmp 4)], 17 slots) -/
def r49_0 : List VOp :=
  [⟨some 2, .box 49 (.tmp 0), 0, none⟩,
   ⟨some 3, .box 49 (.tmp 1), 0, none⟩,
   ⟨some 4, .assign (.const (.int .i64 0)), 3, none⟩]
def r49_1 : List VOp :=
  [fad 5 49 2 4,
   lda 6 3 5,
   fad 7 49 3 4,
   lda 8 3 7,
   ⟨some 9, .call ⟨.value (.func 51), #[.tmp 6, .tmp 8], #[3, 3]⟩, 3, none⟩,
   fad 10 49 2 3,
   lda 11 3 10,
   fad 12 49 3 3,
   lda 13 3 12,
   ⟨some 14, .call ⟨.value (.func 51), #[.tmp 11, .tmp 13], #[3, 3]⟩, 3, none⟩,
   ⟨some 15, .buildSlice 29 2 #[(0, (.tmp 9)), (1, (.tmp 14))], 29, none⟩,
   ⟨some 16, .call ⟨.value (.func 50), #[.tmp 15], #[29]⟩, 3, none⟩,
   asg 4 16 3]
def B49 : VC :=
  (.seq (.region r49_0) (.seq (.draw r49_1 5) .ret))
theorem code49 : ∃ c, Try.f49.body = some c ∧ abs Try.f49.ntmps c = B49 := ⟨_, rfl, by kernel_rfl⟩
theorem hb49 : HasBody Try.prog 49 := hasBody_of Try.func49 (by kernel_rfl)
theorem res49 : Try.f49.results = #[(.tmp 4)] := rfl
theorem enter49 {w : World} {R : Value → World → Prop} (x0 x1 : Value) (h : vc Try.prog B49 (retK Try.prog #[(.tmp 4)] R) [] (initEnv [x0, x1] 0) w) : FnC Try.prog 49 #[x0, x1] w R := by
  obtain ⟨c, h1, h2⟩ := code49
  exact hb49.fn (ret_of_vc mixed Try.func49 h1 (Nat.le_of_ble_eq_true rfl) B49 h2 h)
@[push_cast] theorem vr49_0 : VR r49_0 [⟨some 2, .box 49 (.tmp 0), 0, none⟩, ⟨some 3, .box 49 (.tmp 1), 0, none⟩, ⟨some 4, .assign (.const (.int .i64 0)), 3, none⟩] := vR rfl
@[push_cast] theorem vr49_1 : vc Try.prog (.draw r49_1 5) Q ds σ w = drawn Try.prog [(⟨some 5, .fieldAddr 49 (.tmp 2) 4, 0, none⟩, [2]), (⟨some 6, .load 3 (.tmp 5), 3, none⟩, [5]), (⟨some 7, .fieldAddr 49 (.tmp 3) 4, 0, none⟩, [3]), (⟨some 8, .load 3 (.tmp 7), 3, none⟩, [7]), (⟨some 9, .call ⟨.value (.func 51), #[.tmp 6, .tmp 8], #[3, 3]⟩, 3, none⟩, [6, 8]), (⟨some 10, .fieldAddr 49 (.tmp 2) 3, 0, none⟩, [2]), (⟨some 11, .load 3 (.tmp 10), 3, none⟩, [10]), (⟨some 12, .fieldAddr 49 (.tmp 3) 3, 0, none⟩, [3]), (⟨some 13, .load 3 (.tmp 12), 3, none⟩, [12]), (⟨some 14, .call ⟨.value (.func 51), #[.tmp 11, .tmp 13], #[3, 3]⟩, 3, none⟩, [11, 13]), (⟨some 15, .buildSlice 29 2 #[(0, (.tmp 9)), (1, (.tmp 14))], 29, none⟩, [9, 14]), (⟨some 16, .call ⟨.value (.func 50), #[.tmp 15], #[29]⟩, 3, none⟩, [15]), (⟨some 4, .assign (.tmp 16), 3, none⟩, [16])] 5 (Q .normal ds) σ w := mk_eq rfl
/-! 73 columbary/typer.dims (params #[42], results #[(.tmp 2)], 24 slots) -/
def W73_0 : List Nat := [3, 5, 13, 14, 15, 16, 17, 18, 19, 20, 21, 22]
@[push_cast] theorem W73_0_def : W73_0 = [3, 5, 13, 14, 15, 16, 17, 18, 19, 20, 21, 22] := mk_eq rfl
def r73_0 : List VOp :=
  [⟨some 1, .box 42 (.tmp 0), 0, none⟩,
   ⟨some 2, .assign (.const (.slice none 0 0)), 22, none⟩]
def r73_1 : List VOp :=
  [fad 6 42 1 4,
   lda 7 22 6,
   ⟨some 8, .call ⟨.value (.func 75), #[.tmp 7], #[22]⟩, 22, none⟩,
   asg 3 8 22]
def r73_2 : List VOp :=
  [fad 9 42 1 5,
   lda 10 39 9,
   ⟨some 11, .call ⟨.value (.func 119), #[.tmp 10], #[39]⟩, 37, none⟩,
   ⟨some 12, .call ⟨.builtin .len, #[.tmp 11], #[37]⟩, 3, none⟩,
   ⟨some 13, .move (.const (.int .i64 0)), 3, none⟩]
def r73_3 : List VOp :=
  [⟨some 14, .binOp .lss 3 (.tmp 13) (.tmp 12) 3, 0, none⟩]
def r73_4 : List VOp :=
  [iad 15 37 11 13,
   lda 16 39 15,
   ⟨some 5, .alloc 39, 0, none⟩,
   ⟨none, .store 39 (.tmp 5) (.tmp 16), 0, none⟩]
def r73_5 : List VOp :=
  [mv 17 3 22,
   fad 18 39 5 1,
   lda 19 9 18,
   ⟨some 20, .buildSlice 22 1 #[(0, (.tmp 19))], 22, none⟩,
   ⟨some 21, .call ⟨.builtin .append, #[.tmp 17, .tmp 20], #[22, 22]⟩, 22, none⟩,
   asg 3 21 22]
def r73_6 : List VOp :=
  [⟨some 22, .binOp .add 3 (.tmp 13) (.const (.int .i64 1)) 3, 3, none⟩,
   mv 13 22 3]
def r73_7 : List VOp :=
  [mv 23 3 22,
   asg 2 23 22]
def B73 : VC :=
  (.seq (.region r73_0) (.seq (.region r73_1) (.seq (.seq (.region r73_2) (.block 0 (.loop (.seq (.region r73_3) (.seq (.cond (.tmp 14) .skip (.exit 0)) (.seq (.block 1 (.seq (.region r73_4) (.region r73_5))) (.region r73_6))))))) (.seq (.region r73_7) .ret))))
theorem code73 : ∃ c, Try.f73.body = some c ∧ abs Try.f73.ntmps c = B73 := ⟨_, rfl, by kernel_rfl⟩
theorem hb73 : HasBody Try.prog 73 := hasBody_of Try.func73 (by kernel_rfl)
theorem res73 : Try.f73.results = #[(.tmp 2)] := rfl
theorem enter73 {w : World} {R : Value → World → Prop} (x0 : Value) (h : vc Try.prog B73 (retK Try.prog #[(.tmp 2)] R) [] (initEnv [x0] 0) w) : FnC Try.prog 73 #[x0] w R := by
  obtain ⟨c, h1, h2⟩ := code73
  exact hb73.fn (ret_of_vc mixed Try.func73 h1 (Nat.le_of_ble_eq_true rfl) B73 h2 h)
@[push_cast] theorem vr73_0 : VR r73_0 [⟨some 1, .box 42 (.tmp 0), 0, none⟩, ⟨some 2, .assign (.const (.slice none 0 0)), 22, none⟩] := vR rfl
@[push_cast] theorem vr73_1 : VR r73_1 [⟨some 6, .fieldAddr 42 (.tmp 1) 4, 0, none⟩, ⟨some 7, .load 22 (.tmp 6), 22, none⟩, ⟨some 8, .call ⟨.value (.func 75), #[.tmp 7], #[22]⟩, 22, none⟩, ⟨some 3, .assign (.tmp 8), 22, none⟩] := vR rfl
@[push_cast] theorem vr73_2 : VR r73_2 [⟨some 9, .fieldAddr 42 (.tmp 1) 5, 0, none⟩, ⟨some 10, .load 39 (.tmp 9), 39, none⟩, ⟨some 11, .call ⟨.value (.func 119), #[.tmp 10], #[39]⟩, 37, none⟩, ⟨some 12, .call ⟨.builtin .len, #[.tmp 11], #[37]⟩, 3, none⟩, ⟨some 13, .move (.const (.int .i64 0)), 3, none⟩] := vR rfl
@[push_cast] theorem vr73_3 : VR r73_3 [⟨some 14, .binOp .lss 3 (.tmp 13) (.tmp 12) 3, 0, none⟩] := vR rfl
@[push_cast] theorem vr73_4 : VR r73_4 [⟨some 15, .indexAddr 37 (.tmp 11) (.tmp 13), 0, none⟩, ⟨some 16, .load 39 (.tmp 15), 39, none⟩, ⟨some 5, .alloc 39, 0, none⟩, ⟨none, .store 39 (.tmp 5) (.tmp 16), 0, none⟩] := vR rfl
@[push_cast] theorem vr73_5 : VR r73_5 [⟨some 17, .move (.tmp 3), 22, none⟩, ⟨some 18, .fieldAddr 39 (.tmp 5) 1, 0, none⟩, ⟨some 19, .load 9 (.tmp 18), 9, none⟩, ⟨some 20, .buildSlice 22 1 #[(0, (.tmp 19))], 22, none⟩, ⟨some 21, .call ⟨.builtin .append, #[.tmp 17, .tmp 20], #[22, 22]⟩, 22, none⟩, ⟨some 3, .assign (.tmp 21), 22, none⟩] := vR rfl
@[push_cast] theorem vr73_6 : VR r73_6 [⟨some 22, .binOp .add 3 (.tmp 13) (.const (.int .i64 1)) 3, 3, none⟩, ⟨some 13, .move (.tmp 22), 3, none⟩] := vR rfl
@[push_cast] theorem vr73_7 : VR r73_7 [⟨some 23, .move (.tmp 3), 22, none⟩, ⟨some 2, .assign (.tmp 23), 22, none⟩] := vR rfl
/-! 74 slices.DeleteFunc[[]string,string] (params #[22, 90], results #[(.tmp 4)], 42 slots) -/
def W74_0 : List Nat := [5, 6, 7, 16, 17, 18, 19, 20, 21, 22, 23, 24, 25, 26, 27, 28, 29, 30, 31, 32, 33, 34, 35]
@[push_cast] theorem W74_0_def : W74_0 = [5, 6, 7, 16, 17, 18, 19, 20, 21, 22, 23, 24, 25, 26, 27, 28, 29, 30, 31, 32, 33, 34, 35] := mk_eq rfl
def r74_0 : List VOp :=
  [⟨some 4, .assign (.const (.slice none 0 0)), 22, none⟩]
def r74_1 : List VOp :=
  [mv 8 0 22,
   mv 9 1 90,
   ⟨some 10, .call ⟨.value (.func 80), #[.tmp 8, .tmp 9], #[22, 90]⟩, 3, none⟩,
   asg 5 10 3]
def r74_2 : List VOp :=
  [mv 11 5 3,
   ⟨some 12, .binOp .eql 3 (.tmp 11) (.const (.int .i64 (-1))) 3, 4, none⟩]
def r74_3 : List VOp :=
  [mv 13 0 22,
   asg 4 13 22]
def r74_4 : List VOp :=
  [mv 14 5 3,
   ⟨some 15, .binOp .add 3 (.tmp 14) (.const (.int .i64 1)) 3, 3, none⟩,
   asg 6 15 3]
def r74_5 : List VOp :=
  [mv 16 6 3,
   mv 17 0 22,
   ⟨some 18, .call ⟨.builtin .len, #[.tmp 17], #[22]⟩, 3, none⟩,
   ⟨some 19, .binOp .lss 3 (.tmp 16) (.tmp 18) 3, 4, none⟩]
def r74_7 : List VOp :=
  [mv 22 0 22,
   mv 23 6 3,
   iad 24 22 22 23,
   lda 25 9 24,
   asg 7 25 9]
def r74_8 : List VOp :=
  [mv 26 1 90,
   mv 27 7 9,
   ⟨some 28, .call ⟨.value (.tmp 26), #[.tmp 27], #[9]⟩, 4, none⟩,
   ⟨some 29, .unOp .not 4 (.tmp 28), 4, none⟩]
def r74_9 : List VOp :=
  [mv 30 0 22,
   mv 31 5 3,
   mv 32 7 9,
   iad 33 22 30 31,
   ⟨none, .store 9 (.tmp 33) (.tmp 32), 0, none⟩]
def r74_10 : List VOp :=
  [mv 34 5 3,
   ⟨some 35, .binOp .add 3 (.tmp 34) (.const (.int .i64 1)) 3, 3, none⟩,
   asg 5 35 3]
def r74_6 : List VOp :=
  [mv 20 6 3,
   ⟨some 21, .binOp .add 3 (.tmp 20) (.const (.int .i64 1)) 3, 3, none⟩,
   asg 6 21 3]
def r74_11 : List VOp :=
  [mv 36 0 22,
   mv 37 5 3,
   ⟨some 38, .slice 22 (.tmp 36) (some (.tmp 37)) none none, 22, none⟩,
   ⟨none, .call ⟨.builtin .clear, #[.tmp 38], #[22]⟩, 0, none⟩]
def r74_12 : List VOp :=
  [mv 39 0 22,
   mv 40 5 3,
   ⟨some 41, .slice 22 (.tmp 39) none (some (.tmp 40)) none, 22, none⟩,
   asg 4 41 22]
def B74 : VC :=
  (.seq (.region r74_0) (.seq (.region r74_1) (.seq (.seq (.region r74_2) (.cond (.tmp 12) (.seq (.region r74_3) .ret) .skip)) (.seq (.seq (.region r74_4) (.block 0 (.loop (.seq (.seq (.region r74_5) (.cond (.tmp 19) .skip (.exit 0))) (.seq (.block 1 (.seq (.region r74_7) (.seq (.region r74_8) (.cond (.tmp 29) (.seq (.region r74_9) (.region r74_10)) .skip)))) (.region r74_6)))))) (.seq (.region r74_11) (.seq (.region r74_12) .ret))))))
theorem code74 : ∃ c, Try.f74.body = some c ∧ abs Try.f74.ntmps c = B74 := ⟨_, rfl, by kernel_rfl⟩
theorem hb74 : HasBody Try.prog 74 := hasBody_of Try.func74 (by kernel_rfl)
theorem res74 : Try.f74.results = #[(.tmp 4)] := rfl
theorem enter74 {w : World} {R : Value → World → Prop} (x0 x1 : Value) (h : vc Try.prog B74 (retK Try.prog #[(.tmp 4)] R) [] (initEnv [x0, x1] 0) w) : FnC Try.prog 74 #[x0, x1] w R := by
  obtain ⟨c, h1, h2⟩ := code74
  exact hb74.fn (ret_of_vc mixed Try.func74 h1 (Nat.le_of_ble_eq_true rfl) B74 h2 h)
@[push_cast] theorem vr74_0 : VR r74_0 [⟨some 4, .assign (.const (.slice none 0 0)), 22, none⟩] := vR rfl
@[push_cast] theorem vr74_1 : VR r74_1 [⟨some 8, .move (.tmp 0), 22, none⟩, ⟨some 9, .move (.tmp 1), 90, none⟩, ⟨some 10, .call ⟨.value (.func 80), #[.tmp 8, .tmp 9], #[22, 90]⟩, 3, none⟩, ⟨some 5, .assign (.tmp 10), 3, none⟩] := vR rfl
@[push_cast] theorem vr74_2 : VR r74_2 [⟨some 11, .move (.tmp 5), 3, none⟩, ⟨some 12, .binOp .eql 3 (.tmp 11) (.const (.int .i64 (-1))) 3, 4, none⟩] := vR rfl
@[push_cast] theorem vr74_3 : VR r74_3 [⟨some 13, .move (.tmp 0), 22, none⟩, ⟨some 4, .assign (.tmp 13), 22, none⟩] := vR rfl
@[push_cast] theorem vr74_4 : VR r74_4 [⟨some 14, .move (.tmp 5), 3, none⟩, ⟨some 15, .binOp .add 3 (.tmp 14) (.const (.int .i64 1)) 3, 3, none⟩, ⟨some 6, .assign (.tmp 15), 3, none⟩] := vR rfl
@[push_cast] theorem vr74_5 : VR r74_5 [⟨some 16, .move (.tmp 6), 3, none⟩, ⟨some 17, .move (.tmp 0), 22, none⟩, ⟨some 18, .call ⟨.builtin .len, #[.tmp 17], #[22]⟩, 3, none⟩, ⟨some 19, .binOp .lss 3 (.tmp 16) (.tmp 18) 3, 4, none⟩] := vR rfl
@[push_cast] theorem vr74_7 : VR r74_7 [⟨some 22, .move (.tmp 0), 22, none⟩, ⟨some 23, .move (.tmp 6), 3, none⟩, ⟨some 24, .indexAddr 22 (.tmp 22) (.tmp 23), 0, none⟩, ⟨some 25, .load 9 (.tmp 24), 9, none⟩, ⟨some 7, .assign (.tmp 25), 9, none⟩] := vR rfl
@[push_cast] theorem vr74_8 : VR r74_8 [⟨some 26, .move (.tmp 1), 90, none⟩, ⟨some 27, .move (.tmp 7), 9, none⟩, ⟨some 28, .call ⟨.value (.tmp 26), #[.tmp 27], #[9]⟩, 4, none⟩, ⟨some 29, .unOp .not 4 (.tmp 28), 4, none⟩] := vR rfl
@[push_cast] theorem vr74_9 : VR r74_9 [⟨some 30, .move (.tmp 0), 22, none⟩, ⟨some 31, .move (.tmp 5), 3, none⟩, ⟨some 32, .move (.tmp 7), 9, none⟩, ⟨some 33, .indexAddr 22 (.tmp 30) (.tmp 31), 0, none⟩, ⟨none, .store 9 (.tmp 33) (.tmp 32), 0, none⟩] := vR rfl
@[push_cast] theorem vr74_10 : VR r74_10 [⟨some 34, .move (.tmp 5), 3, none⟩, ⟨some 35, .binOp .add 3 (.tmp 34) (.const (.int .i64 1)) 3, 3, none⟩, ⟨some 5, .assign (.tmp 35), 3, none⟩] := vR rfl
@[push_cast] theorem vr74_6 : VR r74_6 [⟨some 20, .move (.tmp 6), 3, none⟩, ⟨some 21, .binOp .add 3 (.tmp 20) (.const (.int .i64 1)) 3, 3, none⟩, ⟨some 6, .assign (.tmp 21), 3, none⟩] := vR rfl
@[push_cast] theorem vr74_11 : VR r74_11 [⟨some 36, .move (.tmp 0), 22, none⟩, ⟨some 37, .move (.tmp 5), 3, none⟩, ⟨some 38, .slice 22 (.tmp 36) (some (.tmp 37)) none none, 22, none⟩, ⟨none, .call ⟨.builtin .clear, #[.tmp 38], #[22]⟩, 0, none⟩] := vR rfl
@[push_cast] theorem vr74_12 : VR r74_12 [⟨some 39, .move (.tmp 0), 22, none⟩, ⟨some 40, .move (.tmp 5), 3, none⟩, ⟨some 41, .slice 22 (.tmp 39) none (some (.tmp 40)) none, 22, none⟩, ⟨some 4, .assign (.tmp 41), 22, none⟩] := vR rfl
/-! 75 slices.Clone[[]string,string] (params #[22], results #[(.tmp 2)], 8 slots) -/
def r75_0 : List VOp :=
  [⟨some 2, .assign (.const (.slice none 0 0)), 22, none⟩]
def r75_1 : List VOp :=
  [mv 3 0 22,
   ⟨some 4, .binOp .eql 22 (.tmp 3) (.const (.slice none 0 0)) 22, 4, none⟩]
def r75_2 : List VOp :=
  [⟨some 2, .assign (.const (.slice none 0 0)), 22, none⟩]
def r75_3 : List VOp :=
  [⟨some 5, .buildSlice 22 0 #[], 22, none⟩,
   mv 6 0 22,
   ⟨some 7, .call ⟨.builtin .append, #[.tmp 5, .tmp 6], #[22, 22]⟩, 22, none⟩,
   asg 2 7 22]
def B75 : VC :=
  (.seq (.region r75_0) (.seq (.seq (.region r75_1) (.cond (.tmp 4) (.seq (.region r75_2) .ret) .skip)) (.seq (.region r75_3) .ret)))
theorem code75 : ∃ c, Try.f75.body = some c ∧ abs Try.f75.ntmps c = B75 := ⟨_, rfl, by kernel_rfl⟩
theorem hb75 : HasBody Try.prog 75 := hasBody_of Try.func75 (by kernel_rfl)
theorem res75 : Try.f75.results = #[(.tmp 2)] := rfl
theorem enter75 {w : World} {R : Value → World → Prop} (x0 : Value) (h : vc Try.prog B75 (retK Try.prog #[(.tmp 2)] R) [] (initEnv [x0] 0) w) : FnC Try.prog 75 #[x0] w R := by
  obtain ⟨c, h1, h2⟩ := code75
  exact hb75.fn (ret_of_vc mixed Try.func75 h1 (Nat.le_of_ble_eq_true rfl) B75 h2 h)
@[push_cast] theorem vr75_0 : VR r75_0 [⟨some 2, .assign (.const (.slice none 0 0)), 22, none⟩] := vR rfl
@[push_cast] theorem vr75_1 : VR r75_1 [⟨some 3, .move (.tmp 0), 22, none⟩, ⟨some 4, .binOp .eql 22 (.tmp 3) (.const (.slice none 0 0)) 22, 4, none⟩] := vR rfl
@[push_cast] theorem vr75_2 : VR r75_2 [⟨some 2, .assign (.const (.slice none 0 0)), 22, none⟩] := vR rfl
@[push_cast] theorem vr75_3 : VR r75_3 [⟨some 5, .buildSlice 22 0 #[], 22, none⟩, ⟨some 6, .move (.tmp 0), 22, none⟩, ⟨some 7, .call ⟨.builtin .append, #[.tmp 5, .tmp 6], #[22, 22]⟩, 22, none⟩, ⟨some 2, .assign (.tmp 7), 22, none⟩] := vR rfl
/-! 76 columbary/typer.Used$1 (params #[9], results #[(.tmp 3)], 8 slots) -/
def r76_0 : List VOp :=
  [⟨some 3, .assign (.const (.bool false)), 4, none⟩]
def r76_1 : List VOp :=
  [lda 4 22 1,
   mv 5 0 9,
   ⟨some 6, .call ⟨.value (.func 38), #[.tmp 4, .tmp 5], #[22, 9]⟩, 4, none⟩,
   ⟨some 7, .unOp .not 4 (.tmp 6), 4, none⟩,
   asg 3 7 4]
def B76 : VC :=
  (.seq (.region r76_0) (.seq (.region r76_1) .ret))
theorem code76 : ∃ c, Try.f76.body = some c ∧ abs Try.f76.ntmps c = B76 := ⟨_, rfl, by kernel_rfl⟩
theorem hb76 : HasBody Try.prog 76 := hasBody_of Try.func76 (by kernel_rfl)
theorem res76 : Try.f76.results = #[(.tmp 3)] := rfl
theorem enter76 {w : World} {R : Value → World → Prop} (x0 x1 : Value) (h : vc Try.prog B76 (retK Try.prog #[(.tmp 3)] R) [] (initEnv [x0, x1] 0) w) : FnC Try.prog 76 #[x0, x1] w R := by
  obtain ⟨c, h1, h2⟩ := code76
  exact hb76.fn (ret_of_vc mixed Try.func76 h1 (Nat.le_of_ble_eq_true rfl) B76 h2 h)
@[push_cast] theorem vr76_0 : VR r76_0 [⟨some 3, .assign (.const (.bool false)), 4, none⟩] := vR rfl
@[push_cast] theorem vr76_1 : VR r76_1 [⟨some 4, .load 22 (.tmp 1), 22, none⟩, ⟨some 5, .move (.tmp 0), 9, none⟩, ⟨some 6, .call ⟨.value (.func 38), #[.tmp 4, .tmp 5], #[22, 9]⟩, 4, none⟩, ⟨some 7, .unOp .not 4 (.tmp 6), 4, none⟩, ⟨some 3, .assign (.tmp 7), 4, none⟩] := vR rfl
/-! 80 slices.IndexFunc[[]string,string] (params #[22, 90], results #[(.tmp 4)], 19 slots) -/
def W80_0 : List Nat := [4, 5, 8, 9, 10, 11, 12, 13, 14, 15, 16, 17, 18]
@[push_cast] theorem W80_0_def : W80_0 = [4, 5, 8, 9, 10, 11, 12, 13, 14, 15, 16, 17, 18] := mk_eq rfl
def r80_0 : List VOp :=
  [⟨some 4, .assign (.const (.int .i64 0)), 3, none⟩]
def r80_1 : List VOp :=
  [mv 6 0 22,
   ⟨some 7, .call ⟨.builtin .len, #[.tmp 6], #[22]⟩, 3, none⟩,
   ⟨some 8, .move (.const (.int .i64 0)), 3, none⟩]
def r80_2 : List VOp :=
  [⟨some 9, .binOp .lss 3 (.tmp 8) (.tmp 7) 3, 0, none⟩]
def r80_3 : List VOp :=
  [mv 10 8 3,
   asg 5 10 3]
def r80_4 : List VOp :=
  [mv 11 1 90,
   mv 12 0 22,
   mv 13 5 3,
   iad 14 22 12 13,
   lda 15 9 14,
   ⟨some 16, .call ⟨.value (.tmp 11), #[.tmp 15], #[9]⟩, 4, none⟩]
def r80_5 : List VOp :=
  [mv 17 5 3,
   asg 4 17 3]
def r80_6 : List VOp :=
  [⟨some 18, .binOp .add 3 (.tmp 8) (.const (.int .i64 1)) 3, 3, none⟩,
   mv 8 18 3]
def r80_7 : List VOp :=
  [⟨some 4, .assign (.const (.int .i64 (-1))), 3, none⟩]
def B80 : VC :=
  (.seq (.region r80_0) (.seq (.seq (.region r80_1) (.block 0 (.loop (.seq (.region r80_2) (.seq (.cond (.tmp 9) .skip (.exit 0)) (.seq (.block 1 (.seq (.region r80_3) (.seq (.region r80_4) (.cond (.tmp 16) (.seq (.region r80_5) .ret) .skip)))) (.region r80_6))))))) (.seq (.region r80_7) .ret)))
theorem code80 : ∃ c, Try.f80.body = some c ∧ abs Try.f80.ntmps c = B80 := ⟨_, rfl, by kernel_rfl⟩
theorem hb80 : HasBody Try.prog 80 := hasBody_of Try.func80 (by kernel_rfl)
theorem res80 : Try.f80.results = #[(.tmp 4)] := rfl
theorem enter80 {w : World} {R : Value → World → Prop} (x0 x1 : Value) (h : vc Try.prog B80 (retK Try.prog #[(.tmp 4)] R) [] (initEnv [x0, x1] 0) w) : FnC Try.prog 80 #[x0, x1] w R := by
  obtain ⟨c, h1, h2⟩ := code80
  exact hb80.fn (ret_of_vc mixed Try.func80 h1 (Nat.le_of_ble_eq_true rfl) B80 h2 h)
@[push_cast] theorem vr80_0 : VR r80_0 [⟨some 4, .assign (.const (.int .i64 0)), 3, none⟩] := vR rfl
@[push_cast] theorem vr80_1 : VR r80_1 [⟨some 6, .move (.tmp 0), 22, none⟩, ⟨some 7, .call ⟨.builtin .len, #[.tmp 6], #[22]⟩, 3, none⟩, ⟨some 8, .move (.const (.int .i64 0)), 3, none⟩] := vR rfl
@[push_cast] theorem vr80_2 : VR r80_2 [⟨some 9, .binOp .lss 3 (.tmp 8) (.tmp 7) 3, 0, none⟩] := vR rfl
@[push_cast] theorem vr80_3 : VR r80_3 [⟨some 10, .move (.tmp 8), 3, none⟩, ⟨some 5, .assign (.tmp 10), 3, none⟩] := vR rfl
@[push_cast] theorem vr80_4 : VR r80_4 [⟨some 11, .move (.tmp 1), 90, none⟩, ⟨some 12, .move (.tmp 0), 22, none⟩, ⟨some 13, .move (.tmp 5), 3, none⟩, ⟨some 14, .indexAddr 22 (.tmp 12) (.tmp 13), 0, none⟩, ⟨some 15, .load 9 (.tmp 14), 9, none⟩, ⟨some 16, .call ⟨.value (.tmp 11), #[.tmp 15], #[9]⟩, 4, none⟩] := vR rfl
@[push_cast] theorem vr80_5 : VR r80_5 [⟨some 17, .move (.tmp 5), 3, none⟩, ⟨some 4, .assign (.tmp 17), 3, none⟩] := vR rfl
@[push_cast] theorem vr80_6 : VR r80_6 [⟨some 18, .binOp .add 3 (.tmp 8) (.const (.int .i64 1)) 3, 3, none⟩, ⟨some 8, .move (.tmp 18), 3, none⟩] := vR rfl
@[push_cast] theorem vr80_7 : VR r80_7 [⟨some 4, .assign (.const (.int .i64 (-1))), 3, none⟩] := vR rfl
/-! 81 slices.Index[[]string,string] (params #[22, 9], results #[(.tmp 4)], 19 slots) -/
def W81_0 : List Nat := [4, 5, 8, 9, 10, 11, 12, 13, 14, 15, 16, 17, 18]
@[push_cast] theorem W81_0_def : W81_0 = [4, 5, 8, 9, 10, 11, 12, 13, 14, 15, 16, 17, 18] := mk_eq rfl
def r81_0 : List VOp :=
  [⟨some 4, .assign (.const (.int .i64 0)), 3, none⟩]
def r81_1 : List VOp :=
  [mv 6 0 22,
   ⟨some 7, .call ⟨.builtin .len, #[.tmp 6], #[22]⟩, 3, none⟩,
   ⟨some 8, .move (.const (.int .i64 0)), 3, none⟩]
def r81_2 : List VOp :=
  [⟨some 9, .binOp .lss 3 (.tmp 8) (.tmp 7) 3, 0, none⟩]
def r81_3 : List VOp :=
  [mv 10 8 3,
   asg 5 10 3]
def r81_4 : List VOp :=
  [mv 11 1 9,
   mv 12 0 22,
   mv 13 5 3,
   iad 14 22 12 13,
   lda 15 9 14,
   ⟨some 16, .binOp .eql 9 (.tmp 11) (.tmp 15) 9, 4, none⟩]
def r81_5 : List VOp :=
  [mv 17 5 3,
   asg 4 17 3]
def r81_6 : List VOp :=
  [⟨some 18, .binOp .add 3 (.tmp 8) (.const (.int .i64 1)) 3, 3, none⟩,
   mv 8 18 3]
def r81_7 : List VOp :=
  [⟨some 4, .assign (.const (.int .i64 (-1))), 3, none⟩]
def B81 : VC :=
  (.seq (.region r81_0) (.seq (.seq (.region r81_1) (.block 0 (.loop (.seq (.region r81_2) (.seq (.cond (.tmp 9) .skip (.exit 0)) (.seq (.block 1 (.seq (.region r81_3) (.seq (.region r81_4) (.cond (.tmp 16) (.seq (.region r81_5) .ret) .skip)))) (.region r81_6))))))) (.seq (.region r81_7) .ret)))
theorem code81 : ∃ c, Try.f81.body = some c ∧ abs Try.f81.ntmps c = B81 := ⟨_, rfl, by kernel_rfl⟩
theorem hb81 : HasBody Try.prog 81 := hasBody_of Try.func81 (by kernel_rfl)
theorem res81 : Try.f81.results = #[(.tmp 4)] := rfl
theorem enter81 {w : World} {R : Value → World → Prop} (x0 x1 : Value) (h : vc Try.prog B81 (retK Try.prog #[(.tmp 4)] R) [] (initEnv [x0, x1] 0) w) : FnC Try.prog 81 #[x0, x1] w R := by
  obtain ⟨c, h1, h2⟩ := code81
  exact hb81.fn (ret_of_vc mixed Try.func81 h1 (Nat.le_of_ble_eq_true rfl) B81 h2 h)
@[push_cast] theorem vr81_0 : VR r81_0 [⟨some 4, .assign (.const (.int .i64 0)), 3, none⟩] := vR rfl
@[push_cast] theorem vr81_1 : VR r81_1 [⟨some 6, .move (.tmp 0), 22, none⟩, ⟨some 7, .call ⟨.builtin .len, #[.tmp 6], #[22]⟩, 3, none⟩, ⟨some 8, .move (.const (.int .i64 0)), 3, none⟩] := vR rfl
@[push_cast] theorem vr81_2 : VR r81_2 [⟨some 9, .binOp .lss 3 (.tmp 8) (.tmp 7) 3, 0, none⟩] := vR rfl
@[push_cast] theorem vr81_3 : VR r81_3 [⟨some 10, .move (.tmp 8), 3, none⟩, ⟨some 5, .assign (.tmp 10), 3, none⟩] := vR rfl
@[push_cast] theorem vr81_4 : VR r81_4 [⟨some 11, .move (.tmp 1), 9, none⟩, ⟨some 12, .move (.tmp 0), 22, none⟩, ⟨some 13, .move (.tmp 5), 3, none⟩, ⟨some 14, .indexAddr 22 (.tmp 12) (.tmp 13), 0, none⟩, ⟨some 15, .load 9 (.tmp 14), 9, none⟩, ⟨some 16, .binOp .eql 9 (.tmp 11) (.tmp 15) 9, 4, none⟩] := vR rfl
@[push_cast] theorem vr81_5 : VR r81_5 [⟨some 17, .move (.tmp 5), 3, none⟩, ⟨some 4, .assign (.tmp 17), 3, none⟩] := vR rfl
@[push_cast] theorem vr81_6 : VR r81_6 [⟨some 18, .binOp .add 3 (.tmp 8) (.const (.int .i64 1)) 3, 3, none⟩, ⟨some 8, .move (.tmp 18), 3, none⟩] := vR rfl
@[push_cast] theorem vr81_7 : VR r81_7 [⟨some 4, .assign (.const (.int .i64 (-1))), 3, none⟩] := vR rfl
/-! 82 columbary/bucket.Right (params #[3], results #[(.tmp 2)], 9 slots) -/
def r82_0 : List VOp :=
  [⟨some 2, .assign (.const (.bool false)), 4, none⟩]
def r82_1 : List VOp :=
  [mv 3 0 3,
   ⟨some 4, .binOp .geq 3 (.tmp 3) (.const (.int .i64 1)) 3, 4, none⟩,
   mv 5 4 4,
   ⟨some 6, .move (.tmp 0), 3, some (5, true)⟩,
   ⟨some 7, .binOp .leq 3 (.tmp 6) (.const (.int .i64 1048576)) 3, 4, some (5, true)⟩,
   ⟨some 8, .pick (.tmp 5) (.tmp 7) (.const (.bool false)), 4, none⟩,
   asg 2 8 4]
def B82 : VC :=
  (.seq (.region r82_0) (.seq (.region r82_1) .ret))
theorem code82 : ∃ c, Try.f82.body = some c ∧ abs Try.f82.ntmps c = B82 := ⟨_, rfl, by kernel_rfl⟩
theorem hb82 : HasBody Try.prog 82 := hasBody_of Try.func82 (by kernel_rfl)
theorem res82 : Try.f82.results = #[(.tmp 2)] := rfl
theorem enter82 {w : World} {R : Value → World → Prop} (x0 : Value) (h : vc Try.prog B82 (retK Try.prog #[(.tmp 2)] R) [] (initEnv [x0] 0) w) : FnC Try.prog 82 #[x0] w R := by
  obtain ⟨c, h1, h2⟩ := code82
  exact hb82.fn (ret_of_vc mixed Try.func82 h1 (Nat.le_of_ble_eq_true rfl) B82 h2 h)
@[push_cast] theorem vr82_0 : VR r82_0 [⟨some 2, .assign (.const (.bool false)), 4, none⟩] := vR rfl
@[push_cast] theorem vr82_1 : VR r82_1 [⟨some 3, .move (.tmp 0), 3, none⟩, ⟨some 4, .binOp .geq 3 (.tmp 3) (.const (.int .i64 1)) 3, 4, none⟩, ⟨some 5, .move (.tmp 4), 4, none⟩, ⟨some 6, .move (.tmp 0), 3, some (5, true)⟩, ⟨some 7, .binOp .leq 3 (.tmp 6) (.const (.int .i64 1048576)) 3, 4, some (5, true)⟩, ⟨some 8, .pick (.tmp 5) (.tmp 7) (.const (.bool false)), 4, none⟩, ⟨some 2, .assign (.tmp 8), 4, none⟩] := vR rfl
/-! 85 slices.IndexFunc[[]columbary/api.Plan,columbary/api.Plan] (params #[45, 98], results #[(.tmp 4)], 19 slots) -/
def W85_0 : List Nat := [4, 5, 8, 9, 10, 11, 12, 13, 14, 15, 16, 17, 18]
@[push_cast] theorem W85_0_def : W85_0 = [4, 5, 8, 9, 10, 11, 12, 13, 14, 15, 16, 17, 18] := mk_eq rfl
def r85_0 : List VOp :=
  [⟨some 4, .assign (.const (.int .i64 0)), 3, none⟩]
def r85_1 : List VOp :=
  [mv 6 0 45,
   ⟨some 7, .call ⟨.builtin .len, #[.tmp 6], #[45]⟩, 3, none⟩,
   ⟨some 8, .move (.const (.int .i64 0)), 3, none⟩]
def r85_2 : List VOp :=
  [⟨some 9, .binOp .lss 3 (.tmp 8) (.tmp 7) 3, 0, none⟩]
def r85_3 : List VOp :=
  [mv 10 8 3,
   asg 5 10 3]
def r85_4 : List VOp :=
  [mv 11 1 98,
   mv 12 0 45,
   mv 13 5 3,
   iad 14 45 12 13,
   lda 15 49 14,
   ⟨some 16, .call ⟨.value (.tmp 11), #[.tmp 15], #[49]⟩, 4, none⟩]
def r85_5 : List VOp :=
  [mv 17 5 3,
   asg 4 17 3]
def r85_6 : List VOp :=
  [⟨some 18, .binOp .add 3 (.tmp 8) (.const (.int .i64 1)) 3, 3, none⟩,
   mv 8 18 3]
def r85_7 : List VOp :=
  [⟨some 4, .assign (.const (.int .i64 (-1))), 3, none⟩]
def B85 : VC :=
  (.seq (.region r85_0) (.seq (.seq (.region r85_1) (.block 0 (.loop (.seq (.region r85_2) (.seq (.cond (.tmp 9) .skip (.exit 0)) (.seq (.block 1 (.seq (.region r85_3) (.seq (.region r85_4) (.cond (.tmp 16) (.seq (.region r85_5) .ret) .skip)))) (.region r85_6))))))) (.seq (.region r85_7) .ret)))
theorem code85 : ∃ c, Try.f85.body = some c ∧ abs Try.f85.ntmps c = B85 := ⟨_, rfl, by kernel_rfl⟩
theorem hb85 : HasBody Try.prog 85 := hasBody_of Try.func85 (by kernel_rfl)
theorem res85 : Try.f85.results = #[(.tmp 4)] := rfl
theorem enter85 {w : World} {R : Value → World → Prop} (x0 x1 : Value) (h : vc Try.prog B85 (retK Try.prog #[(.tmp 4)] R) [] (initEnv [x0, x1] 0) w) : FnC Try.prog 85 #[x0, x1] w R := by
  obtain ⟨c, h1, h2⟩ := code85
  exact hb85.fn (ret_of_vc mixed Try.func85 h1 (Nat.le_of_ble_eq_true rfl) B85 h2 h)
@[push_cast] theorem vr85_0 : VR r85_0 [⟨some 4, .assign (.const (.int .i64 0)), 3, none⟩] := vR rfl
@[push_cast] theorem vr85_1 : VR r85_1 [⟨some 6, .move (.tmp 0), 45, none⟩, ⟨some 7, .call ⟨.builtin .len, #[.tmp 6], #[45]⟩, 3, none⟩, ⟨some 8, .move (.const (.int .i64 0)), 3, none⟩] := vR rfl
@[push_cast] theorem vr85_2 : VR r85_2 [⟨some 9, .binOp .lss 3 (.tmp 8) (.tmp 7) 3, 0, none⟩] := vR rfl
@[push_cast] theorem vr85_3 : VR r85_3 [⟨some 10, .move (.tmp 8), 3, none⟩, ⟨some 5, .assign (.tmp 10), 3, none⟩] := vR rfl
@[push_cast] theorem vr85_4 : VR r85_4 [⟨some 11, .move (.tmp 1), 98, none⟩, ⟨some 12, .move (.tmp 0), 45, none⟩, ⟨some 13, .move (.tmp 5), 3, none⟩, ⟨some 14, .indexAddr 45 (.tmp 12) (.tmp 13), 0, none⟩, ⟨some 15, .load 49 (.tmp 14), 49, none⟩, ⟨some 16, .call ⟨.value (.tmp 11), #[.tmp 15], #[49]⟩, 4, none⟩] := vR rfl
@[push_cast] theorem vr85_5 : VR r85_5 [⟨some 17, .move (.tmp 5), 3, none⟩, ⟨some 4, .assign (.tmp 17), 3, none⟩] := vR rfl
@[push_cast] theorem vr85_6 : VR r85_6 [⟨some 18, .binOp .add 3 (.tmp 8) (.const (.int .i64 1)) 3, 3, none⟩, ⟨some 8, .move (.tmp 18), 3, none⟩] := vR rfl
@[push_cast] theorem vr85_7 : VR r85_7 [⟨some 4, .assign (.const (.int .i64 (-1))), 3, none⟩] := vR rfl
/-! 119 columbary/typer.conditions (params #[39], results #[(.tmp 2)], 10 slots) -/
def r119_0 : List VOp :=
  [⟨some 1, .box 39 (.tmp 0), 0, none⟩,
   ⟨some 2, .assign (.const (.slice none 0 0)), 37, none⟩]
def r119_1 : List VOp :=
  [⟨some 3, .alloc 37, 0, none⟩]
def r119_2 : List VOp :=
  [⟨some 4, .alloc 178, 0, none⟩]
def r119_3 : List VOp :=
  [⟨some 5, .makeFunc (Fn.func 149) #[] #[(.tmp 3), (.tmp 4)], 178, none⟩,
   ⟨none, .store 178 (.tmp 4) (.tmp 5), 0, none⟩]
def r119_4 : List VOp :=
  [lda 6 178 4,
   lda 7 39 1,
   ⟨some 8, .call ⟨.value (.tmp 6), #[.tmp 7], #[39]⟩, 0, none⟩]
def r119_5 : List VOp :=
  [lda 9 37 3,
   asg 2 9 37]
def B119 : VC :=
  (.seq (.region r119_0) (.seq (.region r119_1) (.seq (.region r119_2) (.seq (.region r119_3) (.seq (.region r119_4) (.seq (.region r119_5) .ret))))))
theorem code119 : ∃ c, Try.f119.body = some c ∧ abs Try.f119.ntmps c = B119 := ⟨_, rfl, by kernel_rfl⟩
theorem hb119 : HasBody Try.prog 119 := hasBody_of Try.func119 (by kernel_rfl)
theorem res119 : Try.f119.results = #[(.tmp 2)] := rfl
theorem enter119 {w : World} {R : Value → World → Prop} (x0 : Value) (h : vc Try.prog B119 (retK Try.prog #[(.tmp 2)] R) [] (initEnv [x0] 0) w) : FnC Try.prog 119 #[x0] w R := by
  obtain ⟨c, h1, h2⟩ := code119
  exact hb119.fn (ret_of_vc mixed Try.func119 h1 (Nat.le_of_ble_eq_true rfl) B119 h2 h)
@[push_cast] theorem vr119_0 : VR r119_0 [⟨some 1, .box 39 (.tmp 0), 0, none⟩, ⟨some 2, .assign (.const (.slice none 0 0)), 37, none⟩] := vR rfl
@[push_cast] theorem vr119_1 : VR r119_1 [⟨some 3, .alloc 37, 0, none⟩] := vR rfl
@[push_cast] theorem vr119_2 : VR r119_2 [⟨some 4, .alloc 178, 0, none⟩] := vR rfl
@[push_cast] theorem vr119_3 : VR r119_3 [⟨some 5, .makeFunc (Fn.func 149) #[] #[(.tmp 3), (.tmp 4)], 178, none⟩, ⟨none, .store 178 (.tmp 4) (.tmp 5), 0, none⟩] := vR rfl
@[push_cast] theorem vr119_4 : VR r119_4 [⟨some 6, .load 178 (.tmp 4), 178, none⟩, ⟨some 7, .load 39 (.tmp 1), 39, none⟩, ⟨some 8, .call ⟨.value (.tmp 6), #[.tmp 7], #[39]⟩, 0, none⟩] := vR rfl
@[push_cast] theorem vr119_5 : VR r119_5 [⟨some 9, .load 37 (.tmp 3), 37, none⟩, ⟨some 2, .assign (.tmp 9), 37, none⟩] := vR rfl
/-! 149 columbary/typer.conditions$1 (params #[39], results #[], 31 slots) -/
def W149_0 : List Nat := [5, 23, 24, 25, 26, 27, 28, 29, 30]
@[push_cast] theorem W149_0_def : W149_0 = [5, 23, 24, 25, 26, 27, 28, 29, 30] := mk_eq rfl
def r149_0 : List VOp :=
  [⟨some 3, .box 39 (.tmp 0), 0, none⟩]
def r149_1 : List VOp :=
  [fad 6 39 3 0,
   lda 7 36 6,
   ⟨some 8, .binOp .eql 36 (.tmp 7) (.const (.int .i64 1)) 36, 4, none⟩,
   mv 9 8 4,
   ⟨some 10, .fieldAddr 39 (.tmp 3) 0, 0, some (9, false)⟩,
   ⟨some 11, .load 36 (.tmp 10), 36, some (9, false)⟩,
   ⟨some 12, .binOp .eql 36 (.tmp 11) (.const (.int .i64 2)) 36, 4, some (9, false)⟩,
   ⟨some 13, .pick (.tmp 9) (.const (.bool true)) (.tmp 12), 4, none⟩]
def r149_2 : List VOp :=
  [lda 14 37 1,
   lda 15 39 3,
   ⟨some 16, .call ⟨.builtin .len, #[.tmp 14], #[37]⟩, 3, none⟩,
   ⟨some 17, .buildSlice 37 1 #[(0, (.const (.agg #[(.int .i64 0), (.string { data := #[] }), (.string { data := #[] }), (.slice none 0 0)])))], 37, none⟩,
   ⟨some 18, .call ⟨.builtin .append, #[.tmp 14, .tmp 17], #[37, 37]⟩, 37, none⟩,
   iad 19 37 18 16,
   ⟨none, .store 39 (.tmp 19) (.tmp 15), 0, none⟩,
   ⟨none, .store 37 (.tmp 1) (.tmp 18), 0, none⟩]
def r149_3 : List VOp :=
  [fad 20 39 3 3,
   lda 21 37 20,
   ⟨some 22, .call ⟨.builtin .len, #[.tmp 21], #[37]⟩, 3, none⟩,
   ⟨some 23, .move (.const (.int .i64 0)), 3, none⟩]
def r149_4 : List VOp :=
  [⟨some 24, .binOp .lss 3 (.tmp 23) (.tmp 22) 3, 0, none⟩]
def r149_5 : List VOp :=
  [iad 25 37 21 23,
   lda 26 39 25,
   ⟨some 5, .alloc 39, 0, none⟩,
   ⟨none, .store 39 (.tmp 5) (.tmp 26), 0, none⟩]
def r149_6 : List VOp :=
  [lda 27 178 2,
   lda 28 39 5,
   ⟨some 29, .call ⟨.value (.tmp 27), #[.tmp 28], #[39]⟩, 0, none⟩]
def r149_7 : List VOp :=
  [⟨some 30, .binOp .add 3 (.tmp 23) (.const (.int .i64 1)) 3, 3, none⟩,
   mv 23 30 3]
def B149 : VC :=
  (.seq (.region r149_0) (.seq (.seq (.region r149_1) (.cond (.tmp 13) (.drawA r149_2 1 [[], [], [0], [], [0, 3, 0, 1, 2, 3], [4, 2, 0, 1, 2, 3, 4], [5, 1, 4, 0, 1, 2, 3, 4], [4, 4, 0, 1, 2, 3, 4]]) .skip)) (.seq (.region r149_3) (.block 0 (.loop (.seq (.region r149_4) (.seq (.cond (.tmp 24) .skip (.exit 0)) (.seq (.block 1 (.seq (.region r149_5) (.region r149_6))) (.region r149_7)))))))))
theorem code149 : ∃ c, Try.f149.body = some c ∧ absT Try.f149.ntmps c = B149 := ⟨_, rfl, by kernel_rfl⟩
theorem hb149 : HasBody Try.prog 149 := hasBody_of Try.func149 (by kernel_rfl)
theorem res149 : Try.f149.results = #[] := rfl
theorem enter149 {w : World} {R : Value → World → Prop} (x0 x1 x2 : Value) (h : vc Try.prog B149 (retK Try.prog #[] R) [] (initEnv [x0, x1, x2] 0) w) : FnC Try.prog 149 #[x0, x1, x2] w R := by
  obtain ⟨c, h1, h2⟩ := code149
  exact hb149.fn (ret_of_vc mixed Try.func149 h1 (Nat.le_of_ble_eq_true rfl) B149 h2 h)
@[push_cast] theorem vr149_0 : VR r149_0 [⟨some 3, .box 39 (.tmp 0), 0, none⟩] := vR rfl
@[push_cast] theorem vr149_1 : VR r149_1 [⟨some 6, .fieldAddr 39 (.tmp 3) 0, 0, none⟩, ⟨some 7, .load 36 (.tmp 6), 36, none⟩, ⟨some 8, .binOp .eql 36 (.tmp 7) (.const (.int .i64 1)) 36, 4, none⟩, ⟨some 9, .move (.tmp 8), 4, none⟩, ⟨some 10, .fieldAddr 39 (.tmp 3) 0, 0, some (9, false)⟩, ⟨some 11, .load 36 (.tmp 10), 36, some (9, false)⟩, ⟨some 12, .binOp .eql 36 (.tmp 11) (.const (.int .i64 2)) 36, 4, some (9, false)⟩, ⟨some 13, .pick (.tmp 9) (.const (.bool true)) (.tmp 12), 4, none⟩] := vR rfl
@[push_cast] theorem vr149_2 : vc Try.prog (.drawA r149_2 1 [[], [], [0], [], [0, 3, 0, 1, 2, 3], [4, 2, 0, 1, 2, 3, 4], [5, 1, 4, 0, 1, 2, 3, 4], [4, 4, 0, 1, 2, 3, 4]]) Q ds σ w = drawnA Try.prog [⟨some 14, .load 37 (.tmp 1), 37, none⟩, ⟨some 15, .load 39 (.tmp 3), 39, none⟩, ⟨some 16, .call ⟨.builtin .len, #[.tmp 14], #[37]⟩, 3, none⟩, ⟨some 17, .buildSlice 37 1 #[(0, (.const (.agg #[(.int .i64 0), (.string { data := #[] }), (.string { data := #[] }), (.slice none 0 0)])))], 37, none⟩, ⟨some 18, .call ⟨.builtin .append, #[.tmp 14, .tmp 17], #[37, 37]⟩, 37, none⟩, ⟨some 19, .indexAddr 37 (.tmp 18) (.tmp 16), 0, none⟩, ⟨none, .store 39 (.tmp 19) (.tmp 15), 0, none⟩, ⟨none, .store 37 (.tmp 1) (.tmp 18), 0, none⟩] 1 [[], [], [0], [], [0, 3, 0, 1, 2, 3], [4, 2, 0, 1, 2, 3, 4], [5, 1, 4, 0, 1, 2, 3, 4], [4, 4, 0, 1, 2, 3, 4]] (Q .normal ds) σ w := mk_eq rfl
@[push_cast] theorem vr149_3 : VR r149_3 [⟨some 20, .fieldAddr 39 (.tmp 3) 3, 0, none⟩, ⟨some 21, .load 37 (.tmp 20), 37, none⟩, ⟨some 22, .call ⟨.builtin .len, #[.tmp 21], #[37]⟩, 3, none⟩, ⟨some 23, .move (.const (.int .i64 0)), 3, none⟩] := vR rfl
@[push_cast] theorem vr149_4 : VR r149_4 [⟨some 24, .binOp .lss 3 (.tmp 23) (.tmp 22) 3, 0, none⟩] := vR rfl
@[push_cast] theorem vr149_5 : VR r149_5 [⟨some 25, .indexAddr 37 (.tmp 21) (.tmp 23), 0, none⟩, ⟨some 26, .load 39 (.tmp 25), 39, none⟩, ⟨some 5, .alloc 39, 0, none⟩, ⟨none, .store 39 (.tmp 5) (.tmp 26), 0, none⟩] := vR rfl
@[push_cast] theorem vr149_6 : VR r149_6 [⟨some 27, .load 178 (.tmp 2), 178, none⟩, ⟨some 28, .load 39 (.tmp 5), 39, none⟩, ⟨some 29, .call ⟨.value (.tmp 27), #[.tmp 28], #[39]⟩, 0, none⟩] := vR rfl
@[push_cast] theorem vr149_7 : VR r149_7 [⟨some 30, .binOp .add 3 (.tmp 23) (.const (.int .i64 1)) 3, 3, none⟩, ⟨some 23, .move (.tmp 30), 3, none⟩] := vR rfl
@[push_cast] theorem bsl22_0_Codes7A {K : Value → World → Prop} {w : World}  : vBuildSlice Try.prog 22 0 #[] K w = K (.slice (some ⟨w.heap.size, 0, none⟩) 0 0) (w.alloc (.cells #[] 9)) :=
  vBuildSlice_ok Try.underlying22 ti9 (by kernel_rfl) (by decide)
@[push_cast] theorem bsl22_1_Codes7A {K : Value → World → Prop} {w : World} (x0 : ByteArray) : vBuildSlice Try.prog 22 1 #[(0, (.string x0))] K w = K (.slice (some ⟨w.heap.size, 0, none⟩) 1 1) (w.alloc (.cells #[(.string x0)] 9)) :=
  vBuildSlice_ok Try.underlying22 ti9 (by kernel_rfl) (by decide)
@[push_cast] theorem bsl22_2_Codes7A {K : Value → World → Prop} {w : World} (x0 : ByteArray) (x1 : ByteArray) : vBuildSlice Try.prog 22 2 #[(0, (.string x0)), (1, (.string x1))] K w = K (.slice (some ⟨w.heap.size, 0, none⟩) 2 2) (w.alloc (.cells #[(.string x0), (.string x1)] 9)) :=
  vBuildSlice_ok Try.underlying22 ti9 (by kernel_rfl) (by decide)
@[push_cast] theorem bsl25_2_Codes7A {K : Value → World → Prop} {w : World} (x00 x01 x02 : Value) (x10 x11 x12 : Value) : vBuildSlice Try.prog 25 2 #[(0, (.agg #[x00, x01, x02])), (1, (.agg #[x10, x11, x12]))] K w = K (.slice (some ⟨w.heap.size, 0, none⟩) 2 2) (w.alloc (.cells #[x00, x01, x02, x10, x11, x12] 60)) :=
  vBuildSlice_ok Try.underlying25 ti60 (by kernel_rfl) (by decide)
@[push_cast] theorem bsl26_1_Codes7A {K : Value → World → Prop} {w : World} (x00 x01 x02 : Value) : vBuildSlice Try.prog 26 1 #[(0, (.agg #[x00, x01, x02]))] K w = K (.slice (some ⟨w.heap.size, 0, none⟩) 1 1) (w.alloc (.cells #[x00, x01, x02] 51)) :=
  vBuildSlice_ok Try.underlying26 ti51 (by kernel_rfl) (by decide)
@[push_cast] theorem bsl29_2_Codes7A {K : Value → World → Prop} {w : World} (x0 : Int) (x1 : Int) : vBuildSlice Try.prog 29 2 #[(0, (.int .i64 x0)), (1, (.int .i64 x1))] K w = K (.slice (some ⟨w.heap.size, 0, none⟩) 2 2) (w.alloc (.cells #[(.int .i64 x0), (.int .i64 x1)] 3)) :=
  vBuildSlice_ok Try.underlying29 ti3 (by kernel_rfl) (by decide)
@[push_cast] theorem bsl32_2_Codes7A {K : Value → World → Prop} {w : World} (x00 x01 x02 x03 : Value) (x10 x11 x12 x13 : Value) : vBuildSlice Try.prog 32 2 #[(0, (.agg #[x00, x01, x02, x03])), (1, (.agg #[x10, x11, x12, x13]))] K w = K (.slice (some ⟨w.heap.size, 0, none⟩) 2 2) (w.alloc (.cells #[x00, x01, x02, x03, x10, x11, x12, x13] 57)) :=
  vBuildSlice_ok Try.underlying32 ti57 (by kernel_rfl) (by decide)
@[push_cast] theorem bsl35_1_Codes7A {K : Value → World → Prop} {w : World} (x00 x01 : Value) : vBuildSlice Try.prog 35 1 #[(0, (.agg #[x00, x01]))] K w = K (.slice (some ⟨w.heap.size, 0, none⟩) 1 1) (w.alloc (.cells #[x00, x01] 63)) :=
  vBuildSlice_ok Try.underlying35 ti63 (by kernel_rfl) (by decide)
@[push_cast] theorem bsl37_1_Codes7A {K : Value → World → Prop} {w : World} (x00 x01 x02 x03 : Value) : vBuildSlice Try.prog 37 1 #[(0, (.agg #[x00, x01, x02, x03]))] K w = K (.slice (some ⟨w.heap.size, 0, none⟩) 1 1) (w.alloc (.cells #[x00, x01, x02, x03] 39)) :=
  vBuildSlice_ok Try.underlying37 ti39 (by kernel_rfl) (by decide)
@[push_cast] theorem bsl45_1_Codes7A {K : Value → World → Prop} {w : World} (x00 x01 x02 x03 x04 : Value) : vBuildSlice Try.prog 45 1 #[(0, (.agg #[x00, x01, x02, x03, x04]))] K w = K (.slice (some ⟨w.heap.size, 0, none⟩) 1 1) (w.alloc (.cells #[x00, x01, x02, x03, x04] 49)) :=
  vBuildSlice_ok Try.underlying45 ti49 (by kernel_rfl) (by decide)
@[push_cast] theorem bld24_0_Codes7A {K : Value → World → Prop} {w : World} (x0o : Option Addr) (x0n x0c : Nat) : vBuild Try.prog 24 #[(0, (.slice x0o x0n x0c))] K w = K (.agg #[(.slice x0o x0n x0c), (.slice none 0 0)]) w :=
  vBuild_ok (by kernel_rfl)
@[push_cast] theorem bld28_0_1_2_Codes7A {K : Value → World → Prop} {w : World} (x0o : Option Addr) (x0n x0c : Nat) (x1o : Option Addr) (x1n x1c : Nat) (x2 : Int) : vBuild Try.prog 28 #[(0, (.slice x0o x0n x0c)), (1, (.slice x1o x1n x1c)), (2, (.int .i64 x2))] K w = K (.agg #[(.slice x0o x0n x0c), (.slice x1o x1n x1c), (.int .i64 x2)]) w :=
  vBuild_ok (by kernel_rfl)
@[push_cast] theorem bld34_0_1_2_3_5_6_Codes7A {K : Value → World → Prop} {w : World} (x00 x01 : Value) (x10 x11 x12 : Value) (x2 : Int) (x3o : Option Addr) (x3n x3c : Nat) (x5o : Option Addr) (x5n x5c : Nat) (x6 : ByteArray) : vBuild Try.prog 34 #[(0, (.agg #[x00, x01])), (1, (.agg #[x10, x11, x12])), (2, (.int .i64 x2)), (3, (.slice x3o x3n x3c)), (5, (.slice x5o x5n x5c)), (6, (.string x6))] K w = K (.agg #[x00, x01, x10, x11, x12, (.int .i64 x2), (.slice x3o x3n x3c), (.int .i64 0), (.slice none 0 0), (.slice x5o x5n x5c), (.string x6), (.int .i64 0)]) w :=
  vBuild_ok (by kernel_rfl)
@[push_cast] theorem bld42_0_1_2_3_Codes7A {K : Value → World → Prop} {w : World} (x0o : Option Addr) (x0n x0c : Nat) (x1 : Int) (x2 : Int) (x3 : Int) : vBuild Try.prog 42 #[(0, (.slice x0o x0n x0c)), (1, (.int .i64 x1)), (2, (.int .i64 x2)), (3, (.int .i64 x3))] K w = K (.agg #[(.slice x0o x0n x0c), (.int .i64 x1), (.int .i64 x2), (.int .i64 x3), (.slice none 0 0), (.int .i64 0), (.string ⟨#[]⟩), (.string ⟨#[]⟩), (.slice none 0 0), (.slice none 0 0), (.int .i64 0), (.int .i64 0)]) w :=
  vBuild_ok (by kernel_rfl)
@[push_cast] theorem bld49_0_1_2_3_Codes7A {K : Value → World → Prop} {w : World} (x0 : Int) (x1 : Int) (x2 : Int) (x3 : Int) : vBuild Try.prog 49 #[(0, (.int .i64 x0)), (1, (.int .i64 x1)), (2, (.int .i64 x2)), (3, (.int .i64 x3))] K w = K (.agg #[(.int .i64 x0), (.int .i64 x1), (.int .i64 x2), (.int .i64 x3), (.int .i64 0)]) w :=
  vBuild_ok (by kernel_rfl)
@[push_cast] theorem bld49_0_1_2_3_4_Codes7A {K : Value → World → Prop} {w : World} (x0 : Int) (x1 : Int) (x2 : Int) (x3 : Int) (x4 : Int) : vBuild Try.prog 49 #[(0, (.int .i64 x0)), (1, (.int .i64 x1)), (2, (.int .i64 x2)), (3, (.int .i64 x3)), (4, (.int .i64 x4))] K w = K (.agg #[(.int .i64 x0), (.int .i64 x1), (.int .i64 x2), (.int .i64 x3), (.int .i64 x4)]) w :=
  vBuild_ok (by kernel_rfl)
@[push_cast] theorem bld51_0_1_Codes7A {K : Value → World → Prop} {w : World} (x0 : Int) (x1 : Int) : vBuild Try.prog 51 #[(0, (.int .i64 x0)), (1, (.int .i64 x1))] K w = K (.agg #[(.int .i64 x0), (.int .i64 x1), (.slice none 0 0)]) w :=
  vBuild_ok (by kernel_rfl)
@[push_cast] theorem bld51_0_1_2_Codes7A {K : Value → World → Prop} {w : World} (x0 : Int) (x1 : Int) (x2o : Option Addr) (x2n x2c : Nat) : vBuild Try.prog 51 #[(0, (.int .i64 x0)), (1, (.int .i64 x1)), (2, (.slice x2o x2n x2c))] K w = K (.agg #[(.int .i64 x0), (.int .i64 x1), (.slice x2o x2n x2c)]) w :=
  vBuild_ok (by kernel_rfl)
@[push_cast] theorem bld57_0_2_3_Codes7A {K : Value → World → Prop} {w : World} (x0 : ByteArray) (x2 : Int) (x3 : Int) : vBuild Try.prog 57 #[(0, (.string x0)), (2, (.int .i64 x2)), (3, (.int .i64 x3))] K w = K (.agg #[(.string x0), (.int .i64 0), (.int .i64 x2), (.int .i64 x3)]) w :=
  vBuild_ok (by kernel_rfl)
@[push_cast] theorem bld57_0_3_Codes7A {K : Value → World → Prop} {w : World} (x0 : ByteArray) (x3 : Int) : vBuild Try.prog 57 #[(0, (.string x0)), (3, (.int .i64 x3))] K w = K (.agg #[(.string x0), (.int .i64 0), (.int .i64 0), (.int .i64 x3)]) w :=
  vBuild_ok (by kernel_rfl)
@[push_cast] theorem bld60_0_1_2_Codes7A {K : Value → World → Prop} {w : World} (x0 : Int) (x1 : Int) (x2o : Option Addr) (x2n x2c : Nat) : vBuild Try.prog 60 #[(0, (.int .i64 x0)), (1, (.int .i64 x1)), (2, (.slice x2o x2n x2c))] K w = K (.agg #[(.int .i64 x0), (.int .i64 x1), (.slice x2o x2n x2c)]) w :=
  vBuild_ok (by kernel_rfl)
@[push_cast] theorem bld60_1_2_Codes7A {K : Value → World → Prop} {w : World} (x1 : Int) (x2o : Option Addr) (x2n x2c : Nat) : vBuild Try.prog 60 #[(1, (.int .i64 x1)), (2, (.slice x2o x2n x2c))] K w = K (.agg #[(.int .i64 0), (.int .i64 x1), (.slice x2o x2n x2c)]) w :=
  vBuild_ok (by kernel_rfl)
@[push_cast] theorem bld63__Codes7A {K : Value → World → Prop} {w : World}  : vBuild Try.prog 63 #[] K w = K (.agg #[(.int .i64 0), (.string ⟨#[]⟩)]) w :=
  vBuild_ok (by kernel_rfl)
end Go.Proofs.Ytnofalhkapmcnaa
end
section
set_option linter.unusedSimpArgs false
namespace Go.Vc
open Go
/-- Where the first one is; -1: there is none. -/
def idxI {α : Type} (p : α → Bool) (l : List α) : Int := if l.any p then ((l.findIdx p : Nat) : Int) else -1
theorem idxI_hit {α : Type} {p : α → Bool} {l : List α} {i : Nat} (hi : i < l.length) (hp : p l[i] = true) (hno : (l.take i).any p = false) : idxI p l = (i : Int) := by
  have ha : l.any p = true := List.any_eq_true.2 ⟨l[i], List.getElem_mem hi, hp⟩
  have hf : l.findIdx p = i := by
    rw [List.findIdx_eq hi]
    refine ⟨hp, fun j hj => ?_⟩
    cases h : p (l[j]'(by omega)) with
    | false => rfl
    | true =>
      have : (l.take i).any p = true := List.any_eq_true.2 ⟨l[j]'(by omega), List.mem_take_iff_getElem.2 ⟨j, by omega, rfl⟩, h⟩
      rw [hno] at this; cases this
  unfold idxI
  rw [ha, hf]; rfl
theorem idxI_miss {α : Type} {p : α → Bool} {l : List α} (h : l.any p = false) : idxI p l = -1 := by
  unfold idxI; rw [h]; rfl
theorem idxI_ge {α : Type} (p : α → Bool) (l : List α) : decide (0 ≤ idxI p l) = l.any p := by
  cases h : l.any p with
  | true => unfold idxI; rw [h]; exact decide_eq_true (by simp)
  | false => rw [idxI_miss h]; rfl
theorem any_step {α : Type} {p : α → Bool} {l : List α} {i : Nat} (hi : i < l.length) (hp : p l[i] = false) (hno : (l.take i).any p = false) : (l.take (i + 1)).any p = false := by
  rw [List.take_succ_eq_append_getElem hi, List.any_append, hno]
  simp [hp]
theorem idxI_or {α : Type} (p : α → Bool) (l : List α) : (idxI p l = -1 ∧ ∀ x ∈ l, p x = false) ∨ ∃ n : Nat, ∃ hn : n < l.length, idxI p l = (n : Int) ∧ p l[n] = true ∧ ∀ j (hj : j < l.length), j < n → p l[j] = false := by
  cases h : l.any p with
  | false =>
    refine .inl ⟨idxI_miss h, fun x hx => ?_⟩
    cases hp : p x with
    | false => rfl
    | true => rw [List.any_eq_true.2 ⟨x, hx, hp⟩] at h; cases h
  | true =>
    have hlt : l.findIdx p < l.length := List.findIdx_lt_length_of_exists (List.any_eq_true.1 h)
    refine .inr ⟨l.findIdx p, hlt, by unfold idxI; rw [h]; rfl, List.findIdx_getElem (w := hlt), fun j hj hjn => ?_⟩
    have := List.not_of_lt_findIdx hjn
    simpa using this
/-- A function value that tells of one value whether, in every later world. -/
def Prd (P : Program) (w : World) (g : FuncId) (lb : Array Value) (x : Value) (b : Bool) : Prop := ∀ w', Later w w' → FnC P g (#[x] ++ lb) w' fun v w'' => v = .bool b ∧ Later w' w''
theorem Prd.later {P : Program} {w w' : World} {g : FuncId} {lb : Array Value} {x : Value} {b : Bool} (h : Prd P w g lb x b) (hl : Later w w') : Prd P w' g lb x b := fun w2 l2 => h w2 (hl.trans l2)
@[push_cast] theorem app_nil_l (x : Array Value) : (#[] : Array Value) ++ x = x := by simp
end Go.Vc
namespace Go.Proofs.Ytnofalhkapmcnaa
open Go.Vc Go.Key
set_option maxRecDepth 100000
theorem sindex_c (v : Value) (l : List ByteArray) (x : ByteArray) (w : World) (h : StS w v l) : FnC Try.prog 81 #[v, .string x] w fun r w' => r = .int .i64 (idxI (fun y => decide (x = y)) l) ∧ w' = w := by
  obtain ⟨o, c, rfl, g1, g2, hm, g3⟩ := h.openM
  refine enter81 _ _ ?_
  unfold B81
  repeat' (first | (simp (disch := omega) only [push_cast, ↓reduceIte, zA, zG, zB, zH, zI, zC, zJ, zK, zL, zD, zE, zF, zM, zN, zO, zP, zQ, reduceCtorEq, not_true_eq_false, not_false_eq_true]) | (first | refine iE ?_ ?_ | refine iD ?_ ?_ | refine iQ ?_ ?_ | refine iV ?_ ?_) <;> intro _ | refine And.intro (by omega) ?_ | refine drawn_q ?_ | fail)
  refine vc_loop W81_0 (fun i : Nat => [(8, .int .i64 (i : Int))]) (fun i w' => i ≤ l.length ∧ w' = w ∧ (l.take i).any (fun y => decide (x = y)) = false) (fun i => l.length - i) 0 (by decide) ?_ ?_ ?_
  · simp (disch := omega) only [push_cast, ↓reduceIte, zA, zG, zB, zH, zI, zC, zJ, zK, zL, zD, zE, zF, zM, zN, zO, zP, zQ, reduceCtorEq, not_true_eq_false, not_false_eq_true]
    try rfl
  · exact ⟨Nat.zero_le _, rfl, by simp⟩
  rintro i uu _ ⟨hi, rfl, hno⟩
  by_cases hil : i < l.length
  · have hd : decide ((i : Int) < (l.length : Int)) = true := decide_eq_true (by omega)
    cases o with
    | none => have := (g3 rfl).1; rw [this] at hil; simp at hil
    | some la =>
    have hc := StS.atS hm hil
    by_cases hx : x = l[i]
    · have hd2 : decide (x = l[i]) = true := decide_eq_true hx
      rw [idxI_hit hil hd2 hno]
      repeat' (first | (simp (disch := omega) only [push_cast, ↓reduceIte, zA, zG, zB, zH, zI, zC, zJ, zK, zL, zD, zE, zF, zM, zN, zO, zP, zQ, reduceCtorEq, not_true_eq_false, not_false_eq_true, hd, hc, hd2]) | (first | refine iE ?_ ?_ | refine iD ?_ ?_ | refine iQ ?_ ?_ | refine iV ?_ ?_) <;> intro _ | refine And.intro (by omega) ?_ | refine drawn_q ?_ | fail)
      first | done | exact ⟨rfl, rfl⟩ | rfl | omega
    · have hd2 : decide (x = l[i]) = false := decide_eq_false hx
      repeat' (first | (simp (disch := omega) only [push_cast, ↓reduceIte, zA, zG, zB, zH, zI, zC, zJ, zK, zL, zD, zE, zF, zM, zN, zO, zP, zQ, reduceCtorEq, not_true_eq_false, not_false_eq_true, hd, hc, hd2]) | (first | refine iE ?_ ?_ | refine iD ?_ ?_ | refine iQ ?_ ?_ | refine iV ?_ ?_) <;> intro _ | refine And.intro (by omega) ?_ | refine drawn_q ?_ | fail)
      exact ⟨rfl, i + 1, by simp (disch := omega) only [push_cast, ↓reduceIte, zA, zG, zB, zH, zI, zC, zJ, zK, zL, zD, zE, zF, zM, zN, zO, zP, zQ, reduceCtorEq, not_true_eq_false, not_false_eq_true], ⟨by omega, rfl, any_step hil hd2 hno⟩, by dsimp only; omega⟩
  · have hd : decide ((i : Int) < (l.length : Int)) = false := decide_eq_false (by omega)
    rw [List.take_of_length_le (by omega)] at hno
    rw [idxI_miss hno]
    repeat' (first | (simp (disch := omega) only [push_cast, ↓reduceIte, zA, zG, zB, zH, zI, zC, zJ, zK, zL, zD, zE, zF, zM, zN, zO, zP, zQ, reduceCtorEq, not_true_eq_false, not_false_eq_true, hd]) | (first | refine iE ?_ ?_ | refine iD ?_ ?_ | refine iQ ?_ ?_ | refine iV ?_ ?_) <;> intro _ | refine And.intro (by omega) ?_ | refine drawn_q ?_ | fail)
    first | done | exact ⟨rfl, rfl⟩ | rfl | omega
theorem any_eq (x : ByteArray) (l : List ByteArray) : l.any (fun y => decide (x = y)) = inL x l := by
  unfold inL
  congr 1
  funext y
  exact decide_eq_decide.2 eq_comm
theorem scontains_c (v : Value) (l : List ByteArray) (x : ByteArray) (w : World) (h : StS w v l) : FnC Try.prog 38 #[v, .string x] w fun r w' => r = .bool (inL x l) ∧ w' = w := by
  obtain ⟨o, c, rfl, g1, g2, hm, g3⟩ := h.openM
  refine enter38 _ _ ?_
  unfold B38
  repeat' (first | (simp (disch := omega) only [push_cast, ↓reduceIte, zA, zG, zB, zH, zI, zC, zJ, zK, zL, zD, zE, zF, zM, zN, zO, zP, zQ, reduceCtorEq, not_true_eq_false, not_false_eq_true]) | (first | refine iE ?_ ?_ | refine iD ?_ ?_ | refine iQ ?_ ?_ | refine iV ?_ ?_) <;> intro _ | refine And.intro (by omega) ?_ | refine drawn_q ?_ | fail)
  refine (sindex_c _ l x w hm).mono ?_
  rintro _ w0 ⟨rfl, h0⟩; obtain rfl := h0.symm
  have e := idxI_ge (fun y => decide (x = y)) l
  rw [any_eq] at e
  repeat' (first | (simp (disch := omega) only [push_cast, ↓reduceIte, zA, zG, zB, zH, zI, zC, zJ, zK, zL, zD, zE, zF, zM, zN, zO, zP, zQ, reduceCtorEq, not_true_eq_false, not_false_eq_true, e]) | (first | refine iE ?_ ?_ | refine iD ?_ ?_ | refine iQ ?_ ?_ | refine iV ?_ ?_) <;> intro _ | refine And.intro (by omega) ?_ | refine drawn_q ?_ | fail)
theorem sindexF_c (v : Value) (l : List ByteArray) (g : FuncId) (lb : Array Value) (p : ByteArray → Bool) (w : World) (h : StS w v l) (hp : ∀ x ∈ l, Prd Try.prog w g lb (.string x) (p x)) : FnC Try.prog 80 #[v, .func (.func g) #[] lb] w fun r w' => r = .int .i64 (idxI p l) ∧ Later w w' := by
  obtain ⟨o, c, rfl, g1, g2, hm, g3⟩ := h.openM
  refine enter80 _ _ ?_
  unfold B80
  repeat' (first | (simp (disch := omega) only [push_cast, ↓reduceIte, zA, zG, zB, zH, zI, zC, zJ, zK, zL, zD, zE, zF, zM, zN, zO, zP, zQ, reduceCtorEq, not_true_eq_false, not_false_eq_true]) | (first | refine iE ?_ ?_ | refine iD ?_ ?_ | refine iQ ?_ ?_ | refine iV ?_ ?_) <;> intro _ | refine And.intro (by omega) ?_ | refine drawn_q ?_ | fail)
  refine vc_loop W80_0 (fun i : Nat => [(8, .int .i64 (i : Int))]) (fun i w' => i ≤ l.length ∧ Later w w' ∧ (l.take i).any p = false) (fun i => l.length - i) 0 (by decide) ?_ ?_ ?_
  · simp (disch := omega) only [push_cast, ↓reduceIte, zA, zG, zB, zH, zI, zC, zJ, zK, zL, zD, zE, zF, zM, zN, zO, zP, zQ, reduceCtorEq, not_true_eq_false, not_false_eq_true]
    try rfl
  · exact ⟨Nat.zero_le _, Later.refl _, by simp⟩
  rintro i uu w1 ⟨hi, l1, hno⟩
  by_cases hil : i < l.length
  · have hd : decide ((i : Int) < (l.length : Int)) = true := decide_eq_true (by omega)
    cases o with
    | none => have := (g3 rfl).1; rw [this] at hil; simp at hil
    | some la =>
    have hc := StS.atS (Sl.later hm l1) hil
    repeat' (first | (simp (disch := omega) only [push_cast, ↓reduceIte, zA, zG, zB, zH, zI, zC, zJ, zK, zL, zD, zE, zF, zM, zN, zO, zP, zQ, reduceCtorEq, not_true_eq_false, not_false_eq_true, hd, hc]) | (first | refine iE ?_ ?_ | refine iD ?_ ?_ | refine iQ ?_ ?_ | refine iV ?_ ?_) <;> intro _ | refine And.intro (by omega) ?_ | refine drawn_q ?_ | fail)
    refine (hp l[i] (List.getElem_mem hil) w1 l1).mono ?_
    rintro _ w2 ⟨rfl, l2⟩
    cases hx : p l[i] with
    | true =>
      rw [idxI_hit hil hx hno]
      repeat' (first | (simp (disch := omega) only [push_cast, ↓reduceIte, zA, zG, zB, zH, zI, zC, zJ, zK, zL, zD, zE, zF, zM, zN, zO, zP, zQ, reduceCtorEq, not_true_eq_false, not_false_eq_true]) | (first | refine iE ?_ ?_ | refine iD ?_ ?_ | refine iQ ?_ ?_ | refine iV ?_ ?_) <;> intro _ | refine And.intro (by omega) ?_ | refine drawn_q ?_ | fail)
      first | exact ⟨rfl, (l1.trans l2)⟩ | exact (l1.trans l2)
    | false =>
      repeat' (first | (simp (disch := omega) only [push_cast, ↓reduceIte, zA, zG, zB, zH, zI, zC, zJ, zK, zL, zD, zE, zF, zM, zN, zO, zP, zQ, reduceCtorEq, not_true_eq_false, not_false_eq_true]) | (first | refine iE ?_ ?_ | refine iD ?_ ?_ | refine iQ ?_ ?_ | refine iV ?_ ?_) <;> intro _ | refine And.intro (by omega) ?_ | refine drawn_q ?_ | fail)
      exact ⟨rfl, i + 1, by simp (disch := omega) only [push_cast, ↓reduceIte, zA, zG, zB, zH, zI, zC, zJ, zK, zL, zD, zE, zF, zM, zN, zO, zP, zQ, reduceCtorEq, not_true_eq_false, not_false_eq_true], ⟨by omega, l1.trans l2, any_step hil hx hno⟩, by dsimp only; omega⟩
  · have hd : decide ((i : Int) < (l.length : Int)) = false := decide_eq_false (by omega)
    rw [List.take_of_length_le (by omega)] at hno
    rw [idxI_miss hno]
    repeat' (first | (simp (disch := omega) only [push_cast, ↓reduceIte, zA, zG, zB, zH, zI, zC, zJ, zK, zL, zD, zE, zF, zM, zN, zO, zP, zQ, reduceCtorEq, not_true_eq_false, not_false_eq_true, hd]) | (first | refine iE ?_ ?_ | refine iD ?_ ?_ | refine iQ ?_ ?_ | refine iV ?_ ?_) <;> intro _ | refine And.intro (by omega) ?_ | refine drawn_q ?_ | fail)
    first | exact ⟨rfl, l1⟩ | exact l1
theorem scontainsF_c (v : Value) (l : List ByteArray) (g : FuncId) (lb : Array Value) (p : ByteArray → Bool) (w : World) (h : StS w v l) (hp : ∀ x ∈ l, Prd Try.prog w g lb (.string x) (p x)) : FnC Try.prog 36 #[v, .func (.func g) #[] lb] w fun r w' => r = .bool (l.any p) ∧ Later w w' := by
  obtain ⟨o, c, rfl, g1, g2, hm, g3⟩ := h.openM
  refine enter36 _ _ ?_
  unfold B36
  repeat' (first | (simp (disch := omega) only [push_cast, ↓reduceIte, zA, zG, zB, zH, zI, zC, zJ, zK, zL, zD, zE, zF, zM, zN, zO, zP, zQ, reduceCtorEq, not_true_eq_false, not_false_eq_true]) | (first | refine iE ?_ ?_ | refine iD ?_ ?_ | refine iQ ?_ ?_ | refine iV ?_ ?_) <;> intro _ | refine And.intro (by omega) ?_ | refine drawn_q ?_ | fail)
  refine (sindexF_c _ l g lb p w hm hp).mono ?_
  rintro _ w1 ⟨rfl, l1⟩
  have e := idxI_ge p l
  repeat' (first | (simp (disch := omega) only [push_cast, ↓reduceIte, zA, zG, zB, zH, zI, zC, zJ, zK, zL, zD, zE, zF, zM, zN, zO, zP, zQ, reduceCtorEq, not_true_eq_false, not_false_eq_true, e]) | (first | refine iE ?_ ?_ | refine iD ?_ ?_ | refine iQ ?_ ?_ | refine iV ?_ ?_) <;> intro _ | refine And.intro (by omega) ?_ | refine drawn_q ?_ | fail)
  first | exact ⟨rfl, l1⟩ | exact l1
theorem sclone_c (v : Value) (l : List ByteArray) (w : World) (h : StS w v l) (hb : l.length ≤ 100000000) : FnC Try.prog 75 #[v] w fun r w' => OwnS w' w.heap.size r l ∧ Later w w' := by
  obtain ⟨o, c, rfl, g1, g2, hm, g3⟩ := h.openM
  refine enter75 _ ?_
  unfold B75
  cases o with
  | none =>
    have := (g3 rfl).1
    subst this
    repeat' (first | (simp (disch := omega) only [push_cast, ↓reduceIte, zA, zG, zB, zH, zI, zC, zJ, zK, zL, zD, zE, zF, zM, zN, zO, zP, zQ, reduceCtorEq, not_true_eq_false, not_false_eq_true]) | (first | refine iE ?_ ?_ | refine iD ?_ ?_ | refine iQ ?_ ?_ | refine iV ?_ ?_) <;> intro _ | refine And.intro (by omega) ?_ | refine drawn_q ?_ | fail)
    first | exact ⟨(own_nil w w.heap.size 9 1), (Later.refl _)⟩ | exact (Later.refl _)
  | some a =>
    repeat' (first | (simp (disch := omega) only [push_cast, ↓reduceIte, zA, zG, zB, zH, zI, zC, zJ, zK, zL, zD, zE, zF, zM, zN, zO, zP, zQ, reduceCtorEq, not_true_eq_false, not_false_eq_true]) | (first | refine iE ?_ ?_ | refine iD ?_ ?_ | refine iQ ?_ ?_ | refine iV ?_ ?_) <;> intro _ | refine And.intro (by omega) ?_ | refine drawn_q ?_ | fail)
    have l1 := later_alloc w (.cells #[] 9)
    have hsn := StS.n (Sl.later hm l1)
    refine vAppend_fresh Try.underlying22 ti9 rfl (by decide) hsn (by unfold maxLen; omega) (by omega) ?_
    intro v' w'' h0 h1
    rcases Nat.eq_zero_or_pos l.length with hz | hz
    · obtain ⟨rfl, rfl⟩ := h0 hz
      have : l = [] := List.length_eq_zero_iff.1 hz
      subst this
      have h26o : OwnS (w.alloc (.cells #[] 9)) w.heap.size (.slice (some ⟨w.heap.size, 0, none⟩) 0 0) [] := own_lit w [] _ 1 0 rfl (by unfold maxLen; omega) (Nat.le_refl _)
      repeat' (first | (simp (disch := omega) only [push_cast, ↓reduceIte, zA, zG, zB, zH, zI, zC, zJ, zK, zL, zD, zE, zF, zM, zN, zO, zP, zQ, reduceCtorEq, not_true_eq_false, not_false_eq_true]) | (first | refine iE ?_ ?_ | refine iD ?_ ?_ | refine iQ ?_ ?_ | refine iV ?_ ?_) <;> intro _ | refine And.intro (by omega) ?_ | refine drawn_q ?_ | fail)
      first | exact ⟨h26o, l1⟩ | exact l1
    · obtain ⟨ho, hll⟩ := h1 hz
      repeat' (first | (simp (disch := omega) only [push_cast, ↓reduceIte, zA, zG, zB, zH, zI, zC, zJ, zK, zL, zD, zE, zF, zM, zN, zO, zP, zQ, reduceCtorEq, not_true_eq_false, not_false_eq_true]) | (first | refine iE ?_ ?_ | refine iD ?_ ?_ | refine iQ ?_ ?_ | refine iV ?_ ?_) <;> intro _ | refine And.intro (by omega) ?_ | refine drawn_q ?_ | fail)
      first | exact ⟨(own_base ho l1.size), (l1.trans hll)⟩ | exact (l1.trans hll)
end Go.Proofs.Ytnofalhkapmcnaa
end
section
namespace Go.Vc
open Go Go.RowKit
section
variable {P : Program}
/-- 'clear' of a slice. -/
theorem vX_clear {t e ty : TypeId} {x : Operand} {σ : Env} {w : World} {K : Value → World → Prop} {z : Value} {s b : Nat} {a : Addr} {m c : Nat} (ht : P.underlying t = some (.slice e)) (hi : (P.info? e).map (fun i => (i.zero, i.size, i.bytes)) = some (some z, s, b))
    (hx : ev σ x = .slice (some a) m c) (hm : 0 < m) (h1 : ∀ u ∈ (Builtin.zeroCells z.cells m).toList, u.oneCell' = true) (hc : canAll w a (Builtin.zeroCells z.cells m).toList) (hk : K (.tuple #[]) (storeAll w a (Builtin.zeroCells z.cells m).toList)) :
    vX P (.call ⟨.builtin .clear, #[x], #[t]⟩) ty σ w K := by
  obtain ⟨i, hi1, hz, hsi, hbi⟩ := info_parts hi
  have hst := run_storeAll (P := P) (Builtin.zeroCells z.cells m).toList a 0 w h1 (by rw [addr_add_zero]; exact hc)
  rw [addr_add_zero] at hst
  have hzv : (zeroValue e).run P w = .ok z w := by simp [zeroValue, typeInfo, hi1, hz]
  obtain ⟨k, rfl⟩ : ∃ k, m = k + 1 := ⟨m - 1, by omega⟩
  have hrun : (Builtin.clear_ #[t] ty #[.slice (some a) (k + 1) c]).run P w = .ok (.tuple #[]) (storeAll w a (Builtin.zeroCells z.cells (k + 1)).toList) := by
    simp [Builtin.clear_, run_underlying ht, hzv, hst]
  have he : exe P (.call ⟨.builtin .clear, #[x], #[t]⟩) ty σ w = (val (Builtin.clear_ #[t] ty #[ev σ x])).run P w := by
    have : execOp (ev σ) { dst := none, op := .call ⟨.builtin .clear, #[x], #[t]⟩, type := ty, pos := "", after := #[], guard := none } = val (Builtin.clear_ #[t] ty #[ev σ x]) := by
      rw [run_maxmin .clear ⟨.builtin .clear, #[x], #[t]⟩ rfl]
      have e : Array.map (ev σ) #[x] = #[ev σ x] := by simp
      show builtin .clear #[t] ty _ (Array.map (ev σ) #[x]) = _
      rw [e]
      rfl
    unfold exe; rw [this]
  unfold vX
  rw [he, hx, run_val_pure hrun]
  exact hk
end
theorem wrs_take : ∀ (new : List Value) (xs : List Value) (p : Nat), (wrs xs p new).take p = xs.take p
  | [], xs, p => rfl
  | v :: vs, xs, p => by
    rw [wrs]
    have h2 := congrArg (List.take p) (wrs_take vs (xs.set p v) (p + 1))
    rw [List.take_take, List.take_take, Nat.min_eq_left (by omega)] at h2
    rw [h2, List.take_set_of_le (Nat.le_refl _)]
section
variable {α : Type} {enc : α → List Value} {k : Nat}
theorem rec_take (hk : ∀ x, (enc x).length = k) (l : List α) : ∀ j : Nat, (l.map enc).flatten.take (j * k) = ((l.take j).map enc).flatten := by
  induction l with
  | nil => intro j; simp
  | cons p l ih =>
    intro j
    cases j with
    | zero => simp
    | succ j =>
      simp only [List.map_cons, List.flatten_cons, List.take_succ_cons]
      rw [List.take_append, hk, List.take_of_length_le (by rw [hk, Nat.add_mul]; omega), show (j + 1) * k - k = j * k by rw [Nat.add_mul]; omega, ih]
end
theorem filter_step {α : Type} {l : List α} {p : α → Bool} {j : Nat} (hj : j < l.length) : (l.take (j + 1)).filter p = (l.take j).filter p ++ (if p l[j] = true then [l[j]] else []) := by
  rw [take_snoc l j hj, List.filter_append]
  congr 1
  by_cases h : p l[j] = true
  · rw [if_pos h, List.filter_cons_of_pos h]; rfl
  · rw [if_neg h, List.filter_cons_of_neg h]; rfl
end Go.Vc
end
section
set_option linter.unusedSimpArgs false
namespace Go.Proofs.Ytnofalhkapmcnaa
open Go.Vc Go.Key
set_option maxRecDepth 100000
theorem zeroS_one (m : Nat) : (∀ u ∈ (Builtin.zeroCells (Value.string ⟨#[]⟩).cells m).toList, u.oneCell' = true) ∧ (Builtin.zeroCells (Value.string ⟨#[]⟩).cells m).toList.length = m := by
  constructor
  · intro u hu
    simp only [Builtin.zeroCells, Array.toList_map, List.mem_map] at hu
    obtain ⟨i, _, rfl⟩ := hu
    have hs : (Value.string ⟨#[]⟩).cells.size = 1 := rfl
    rw [hs, Nat.mod_one]
    rfl
  · simp only [Builtin.zeroCells, Array.toList_map, List.length_map, Array.length_toList, Array.size_range]
    show m * 1 = m
    omega
set_option maxHeartbeats 1000000 in
theorem sdelete_c (B : Nat) (v : Value) (es : List ByteArray) (g : FuncId) (lb : Array Value) (p : ByteArray → Bool) (w0 w : World) (hl : Later w0 w) (hB : w0.heap.size ≤ B) (ho : OwnS w B v es) (hp : ∀ x ∈ es, Prd Try.prog w0 g lb (.string x) (p x)) (h63 : es.length ≤ 1000000) :
    FnC Try.prog 74 #[v, .func (.func g) #[] lb] w fun r w' => StS w' r (es.filter fun x => !p x) ∧ Later w0 w' := by
  have hst := OwnS.st ho
  obtain ⟨o, c, rfl, g1, g2, hm, g3⟩ := hst.openM
  refine enter74 _ _ ?_
  unfold B74
  repeat' (first | (simp (disch := omega) only [push_cast, ↓reduceIte, zA, zG, zB, zH, zI, zC, zJ, zK, zL, zD, zE, zF, zM, zN, zO, zP, zQ, reduceCtorEq, not_true_eq_false, not_false_eq_true]) | (first | refine iE ?_ ?_ | refine iD ?_ ?_ | refine iQ ?_ ?_ | refine iV ?_ ?_) <;> intro _ | refine And.intro (by omega) ?_ | refine drawn_q ?_ | fail)
  refine (sindexF_c _ es g lb p w hm (fun x hx => (hp x hx).later hl)).mono ?_
  rintro _ w1 ⟨rfl, l1⟩
  have l01 := hl.trans l1
  rcases idxI_or p es with ⟨he, hall⟩ | ⟨n, hn, he, hpn, hbef⟩
  · rw [he]
    have e : (es.filter fun x => !p x) = es := List.filter_eq_self.2 fun x hx => by simp [hall x hx]
    rw [e]
    repeat' (first | (simp (disch := omega) only [push_cast, ↓reduceIte, zA, zG, zB, zH, zI, zC, zJ, zK, zL, zD, zE, zF, zM, zN, zO, zP, zQ, reduceCtorEq, not_true_eq_false, not_false_eq_true]) | (first | refine iE ?_ ?_ | refine iD ?_ ?_ | refine iQ ?_ ?_ | refine iV ?_ ?_) <;> intro _ | refine And.intro (by omega) ?_ | refine drawn_q ?_ | fail)
    first | exact ⟨(Sl.later hm l1), l01⟩ | exact l01
  · rw [he]
    cases o with
    | none => have := (g3 rfl).1; rw [this] at hn; simp at hn
    | some a =>
    obtain ⟨gr, rfl, hgr, _⟩ := own_writes ho
    have hpre : (es.take (n + 1)).filter (fun x => !p x) = es.take n := by
      rw [filter_step hn, if_neg (by rw [hpn]; simp), List.append_nil]
      exact List.filter_eq_self.2 fun x hx => by
        obtain ⟨j, hj, rfl⟩ := List.getElem_of_mem hx
        rw [List.length_take] at hj
        rw [List.getElem_take]
        simp [hbef j (by omega) (by omega)]
    repeat' (first | (simp (disch := omega) only [push_cast, ↓reduceIte, zA, zG, zB, zH, zI, zC, zJ, zK, zL, zD, zE, zF, zM, zN, zO, zP, zQ, reduceCtorEq, not_true_eq_false, not_false_eq_true]) | (first | refine iE ?_ ?_ | refine iD ?_ ?_ | refine iQ ?_ ?_ | refine iV ?_ ?_) <;> intro _ | refine And.intro (by omega) ?_ | refine drawn_q ?_ | fail)
    refine vc_loop W74_0 (fun q : Nat × Nat => [(5, .int .i64 (q.1 : Int)), (6, .int .i64 (q.2 : Int))])
      (fun q w' => q.1 < q.2 ∧ q.2 ≤ es.length ∧ Later w0 w' ∧ ∃ cur : List ByteArray, cur.length = es.length ∧ OwnS w' B (.slice (some ⟨gr, 0, none⟩) es.length c) cur ∧ cur.take q.1 = (es.take q.2).filter (fun x => !p x) ∧ cur.drop q.2 = es.drop q.2) (fun q => es.length - q.2) (n, n + 1) (by decide) ?_ ?_ ?_
    · simp (disch := omega) only [push_cast, ↓reduceIte, zA, zG, zB, zH, zI, zC, zJ, zK, zL, zD, zE, zF, zM, zN, zO, zP, zQ, reduceCtorEq, not_true_eq_false, not_false_eq_true]
    · exact ⟨by dsimp only; omega, by dsimp only; omega, l01, es, rfl, own_later ho l1, by dsimp only; exact hpre.symm, rfl⟩
    rintro ⟨i, j⟩ uu w2 ⟨hij, hj, l2, cur, hcl, hO, hT, hD⟩
    dsimp only at hij hj hT hD
    by_cases hlt : j < es.length
    · have hlt' : j < cur.length := by omega
      have hcur : cur[j] = es[j] := by
        have := congrArg (fun l => l[0]?) hD
        simp only [List.getElem?_drop, Nat.add_zero] at this
        rw [List.getElem?_eq_getElem hlt', List.getElem?_eq_getElem hlt] at this
        exact Option.some.inj this
      have f1 := StS.atS (OwnS.st hO) hlt'
      rw [hcur] at f1
      have hstep := filter_step (p := fun x => !p x) hlt
      have hpx := hp es[j] (List.getElem_mem _)
      have hD' : cur.drop (j + 1) = es.drop (j + 1) := by
        have := congrArg (List.drop 1) hD
        simpa [List.drop_drop] using this
      generalize es[j] = x at *
      rw [addr_add_eq, Nat.zero_add] at f1
      have t1 : (i : Int).toNat = i := Int.toNat_natCast _
      repeat' (first | (simp (disch := omega) only [push_cast, ↓reduceIte, zA, zG, zB, zH, zI, zC, zJ, zK, zL, zD, zE, zF, zM, zN, zO, zP, zQ, reduceCtorEq, not_true_eq_false, not_false_eq_true, f1, addr_add_eq, Nat.zero_add]) | (first | refine iE ?_ ?_ | refine iD ?_ ?_ | refine iQ ?_ ?_ | refine iV ?_ ?_) <;> intro _ | refine And.intro (by omega) ?_ | refine drawn_q ?_ | fail)
      refine (hpx w2 l2).mono ?_
      rintro _ w4 ⟨rfl, l4⟩
      have l24 := l2.trans l4
      cases hx : p x with
      | true =>
        repeat' (first | (simp (disch := omega) only [push_cast, ↓reduceIte, zA, zG, zB, zH, zI, zC, zJ, zK, zL, zD, zE, zF, zM, zN, zO, zP, zQ, reduceCtorEq, not_true_eq_false, not_false_eq_true]) | (first | refine iE ?_ ?_ | refine iD ?_ ?_ | refine iQ ?_ ?_ | refine iV ?_ ?_) <;> intro _ | refine And.intro (by omega) ?_ | refine drawn_q ?_ | fail)
        refine ⟨rfl, (i, j + 1), by simp (disch := omega) only [push_cast, ↓reduceIte, zA, zG, zB, zH, zI, zC, zJ, zK, zL, zD, zE, zF, zM, zN, zO, zP, zQ, reduceCtorEq, not_true_eq_false, not_false_eq_true], ⟨by dsimp only; omega, by dsimp only; omega, l24, cur, hcl, own_later hO l4, ?_, hD'⟩, by dsimp only; omega⟩
        dsimp only
        rw [hstep, if_neg (by simp [hx]), List.append_nil, hT]
      | false =>
        have hO4 := own_later hO l4
        obtain ⟨o5, ⟨y, hy⟩, hfz⟩ := own_set (i := i) hO4 (by omega) (.string x)
        have l5 : Later w0 (w4.setCell ⟨gr, i, none⟩ (.string x)) := l24.setCell (by dsimp only; omega) _
        repeat' (first | (simp (disch := omega) only [push_cast, ↓reduceIte, zA, zG, zB, zH, zI, zC, zJ, zK, zL, zD, zE, zF, zM, zN, zO, zP, zQ, reduceCtorEq, not_true_eq_false, not_false_eq_true, hy, hfz, addr_add_eq, Nat.zero_add]) | (first | refine iE ?_ ?_ | refine iD ?_ ?_ | refine iQ ?_ ?_ | refine iV ?_ ?_) <;> intro _ | refine And.intro (by omega) ?_ | refine drawn_q ?_ | fail)
        generalize w4.setCell ⟨gr, i, none⟩ (.string x) = w5 at *
        refine ⟨rfl, (i + 1, j + 1), by simp (disch := omega) only [push_cast, ↓reduceIte, zA, zG, zB, zH, zI, zC, zJ, zK, zL, zD, zE, zF, zM, zN, zO, zP, zQ, reduceCtorEq, not_true_eq_false, not_false_eq_true], ⟨by dsimp only; omega, by dsimp only; omega, l5, cur.set i x, by simp [hcl], ?_, ?_, ?_⟩, by dsimp only; omega⟩
        · unfold OwnS
          rw [List.length_set, List.map_set]
          exact o5
        · dsimp only
          rw [hstep, if_pos (by simp [hx]), ← hT]
          rw [List.take_set, List.take_add_one, List.getElem?_eq_getElem (show i < cur.length by omega)]
          simp only [Option.toList_some]
          rw [List.set_append_right _ _ (by simp; omega)]
          have : (i - (cur.take i).length) = 0 := by simp; omega
          rw [this]
          simp
        · dsimp only
          rw [List.drop_set_of_lt (by omega)]
          exact hD'
    · have hje : j = es.length := by omega
      subst hje
      rw [List.take_length] at hT
      obtain ⟨g', hg', hBg, _, ⟨cs, hb⟩, hcan⟩ := own_writes hO
      obtain rfl : gr = g' := congrArg Addr.block hg'
      obtain ⟨hz1, hz2⟩ := zeroS_one (es.length - i)
      have em : ((es.length : Int) - (i : Int)).toNat = es.length - i := by omega
      have ea : slAddr (some ⟨gr, 0, none⟩) (i : Int) (c : Int) 1 = some ⟨gr, i, none⟩ := by
        unfold slAddr
        rw [if_neg (by omega), Option.map_some, addr_add_eq, Nat.zero_add, Int.toNat_natCast, Nat.mul_one]
      repeat' (first | (simp (disch := omega) only [push_cast, ↓reduceIte, zA, zG, zB, zH, zI, zC, zJ, zK, zL, zD, zE, zF, zM, zN, zO, zP, zQ, reduceCtorEq, not_true_eq_false, not_false_eq_true]) | (first | refine iE ?_ ?_ | refine iD ?_ ?_ | refine iQ ?_ ?_ | refine iV ?_ ?_) <;> intro _ | refine And.intro (by omega) ?_ | refine drawn_q ?_ | fail)
      refine vX_clear (m := es.length - i) (a := ⟨gr, i, none⟩) (c := ((c : Int) - (i : Int)).toNat) Try.underlying22 (z := .string ⟨#[]⟩) ti9 (by simp (disch := omega) only [push_cast, ↓reduceIte, zA, zG, zB, zH, zI, zC, zJ, zK, zL, zD, zE, zF, zM, zN, zO, zP, zQ, reduceCtorEq, not_true_eq_false, not_false_eq_true, em, ea]) (by omega) hz1 (hcan _ _ (by rw [hz2]; omega)) ?_
      obtain ⟨q1, q2⟩ := own_storeAll (Builtin.zeroCells (Value.string ⟨#[]⟩).cells (es.length - i)).toList w2 i (cur.map Value.string) hO (by rw [hz2]; omega)
      generalize storeAll w2 ⟨gr, i, none⟩ (Builtin.zeroCells (Value.string ⟨#[]⟩).cells (es.length - i)).toList = w3 at *
      have l3 : Later w0 w3 := Chg.later l2 q2 (by intro q hq; rw [List.mem_singleton.1 hq]; omega)
      rw [hcl] at q1
      have hs := SlN.preN (SlN.of_own q1) (k := i) (by omega)
      rw [Nat.mul_one, wrs_take, ← List.map_take, hT] at hs
      have hlen : (es.filter (fun x => !p x)).length = i := by rw [← hT, List.length_take]; omega
      have hRec : StS w3 (.slice (some ⟨gr, 0, none⟩) i c) (es.filter (fun x => !p x)) := by
        unfold StS Sl
        rw [List.length_map, hlen]
        exact hs
      repeat' (first | (simp (disch := omega) only [push_cast, ↓reduceIte, zA, zG, zB, zH, zI, zC, zJ, zK, zL, zD, zE, zF, zM, zN, zO, zP, zQ, reduceCtorEq, not_true_eq_false, not_false_eq_true]) | (first | refine iE ?_ ?_ | refine iD ?_ ?_ | refine iQ ?_ ?_ | refine iV ?_ ?_) <;> intro _ | refine And.intro (by omega) ?_ | refine drawn_q ?_ | fail)
      first | exact ⟨hRec, l3⟩ | exact l3
end Go.Proofs.Ytnofalhkapmcnaa
end
