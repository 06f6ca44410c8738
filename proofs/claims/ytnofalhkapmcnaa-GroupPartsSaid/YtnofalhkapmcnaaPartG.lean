/- The functions' code in the generator's form. Written by a program (codes.py) out of Lean's own print of the loaded translation. -/
import Derived.Test.YtnofalhkapmcnaaPartF
set_option linter.all false
open Nat renaming reduceEqDiff → zA, reducePow → zB, reduceMul → zC, reduceAdd → zD, reduceSub → zE, reduceLeDiff → zF
open Int renaming reduceToNat → zG, reducePow → zH, reduceNeg → zI, reduceMul → zJ, reduceAdd → zK, reduceSub → zL, reduceLT → zM, reduceLE → zN, reduceEq → zO, reduceMod → zP, reduceDiv → zQ
section
namespace Go.Proofs.Ytnofalhkapmcnaa
open Go.Vc
set_option maxRecDepth 100000
variable (Q : Post) (ds : List Deferred) (σ : Env) (w : World)
/-! 21 columbary/columbarylaw25.Fits (params #[24, 42, 65], results #[(.tmp 6)], 25 slots) -/
def r21_0 : List VOp :=
  [⟨some 3, .box 24 (.tmp 0), 0, none⟩,
   ⟨some 4, .box 42 (.tmp 1), 0, none⟩,
   ⟨some 6, .assign (.const (.bool false)), 4, none⟩]
def r21_1 : List VOp :=
  [lda 9 24 3,
   mv 10 2 65,
   ⟨some 11, .call ⟨.value (.func 59), #[.tmp 9, .tmp 10], #[24, 65]⟩, 4, none⟩,
   asg 7 11 4]
def r21_2 : List VOp :=
  [lda 12 24 3,
   lda 13 42 4,
   ⟨some 14, .call ⟨.value (.func 27), #[.tmp 12, .tmp 13], #[24, 42]⟩, 4, none⟩,
   asg 8 14 4]
def r21_3 : List VOp :=
  [mv 15 7 4,
   mv 16 15 4,
   ⟨some 17, .move (.tmp 8), 4, some (16, true)⟩,
   ⟨some 18, .pick (.tmp 16) (.tmp 17) (.const (.bool false)), 4, none⟩,
   mv 19 18 4,
   ⟨some 20, .load 24 (.tmp 3), 24, some (19, true)⟩,
   ⟨some 21, .load 42 (.tmp 4), 42, some (19, true)⟩,
   ⟨some 22, .call ⟨.value (.func 33), #[.tmp 20, .tmp 21], #[24, 42]⟩, 53, some (19, true)⟩,
   ⟨some 23, .binOp .eql 53 (.tmp 22) (.const (.int .i64 0)) 53, 4, some (19, true)⟩,
   ⟨some 24, .pick (.tmp 19) (.tmp 23) (.const (.bool false)), 4, none⟩,
   asg 6 24 4]
def B21 : VC :=
  (.seq (.region r21_0) (.seq (.region r21_1) (.seq (.region r21_2) (.seq (.region r21_3) .ret))))
theorem code21 : ∃ c, Try.f21.body = some c ∧ abs Try.f21.ntmps c = B21 := ⟨_, rfl, by kernel_rfl⟩
theorem hb21 : HasBody Try.prog 21 := hasBody_of Try.func21 (by kernel_rfl)
theorem enter21 (x0 x1 x2 : Value) : Ent 21 B21 #[(.tmp 6)] [x0, x1, x2] := ent code21 hb21 Try.func21 rfl rfl
@[push_cast] def vr21_0 := vR r21_0.eq_1
@[push_cast] def vr21_1 := vR r21_1.eq_1
@[push_cast] def vr21_2 := vR r21_2.eq_1
@[push_cast] def vr21_3 := vR r21_3.eq_1
/-! 22 columbary/columbarylaw25.alive (params #[], results #[(.tmp 0)], 68 slots) -/
def r22_0 : List VOp :=
  [⟨some 0, .assign (.const (.bool false)), 4, none⟩]
def r22_1 : List VOp :=
  [⟨some 6, .buildSlice 22 1 #[(0, (.const (.string { data := #[97] })))], 22, none⟩,
   ⟨some 7, .buildSlice 22 1 #[(0, (.const (.string { data := #[109] })))], 22, none⟩,
   ⟨some 8, .build 24 #[(0, (.tmp 6)), (1, (.tmp 7))], 24, none⟩,
   ⟨some 1, .alloc 24, 0, none⟩,
   ⟨none, .store 24 (.tmp 1) (.tmp 8), 0, none⟩]
def r22_2 : List VOp :=
  [⟨some 9, .buildSlice 22 1 #[(0, (.const (.string { data := #[120] })))], 22, none⟩,
   ⟨some 10, .build 111 #[(0, (.const (.int .i64 5))), (1, (.const (.int .i64 1))), (2, (.const (.int .i64 4)))], 111, none⟩,
   ⟨some 11, .buildSlice 70 1 #[(0, (.tmp 10))], 70, none⟩,
   ⟨some 12, .build 72 #[(0, (.const (.int .i64 3))), (1, (.tmp 9)), (2, (.const (.int .i64 2))), (3, (.tmp 11))], 72, none⟩,
   ⟨some 13, .buildSlice 22 1 #[(0, (.const (.string { data := #[121] })))], 22, none⟩,
   ⟨some 14, .build 111 #[(0, (.const (.int .i64 9))), (1, (.const (.int .i64 9))), (2, (.const (.int .i64 9)))], 111, none⟩,
   ⟨some 15, .buildSlice 70 1 #[(0, (.tmp 14))], 70, none⟩,
   ⟨some 16, .build 72 #[(0, (.const (.int .i64 12))), (1, (.tmp 13)), (2, (.const (.int .i64 1))), (3, (.tmp 15))], 72, none⟩,
   ⟨some 17, .buildSlice 22 1 #[(0, (.const (.string { data := #[120] })))], 22, none⟩,
   ⟨some 18, .build 111 #[(0, (.const (.int .i64 1))), (1, (.const (.int .i64 1))), (2, (.const (.int .i64 1)))], 111, none⟩,
   ⟨some 19, .buildSlice 70 1 #[(0, (.tmp 18))], 70, none⟩,
   ⟨some 20, .build 72 #[(0, (.const (.int .i64 15))), (1, (.tmp 17)), (2, (.const (.int .i64 1))), (3, (.tmp 19))], 72, none⟩,
   ⟨some 21, .buildSlice 65 3 #[(0, (.tmp 12)), (1, (.tmp 16)), (2, (.tmp 20))], 65, none⟩,
   asg 2 21 65]
def r22_3 : List VOp :=
  [⟨some 22, .build 63 #[], 63, none⟩,
   ⟨some 23, .build 63 #[(0, (.const (.int .i64 3))), (1, (.const (.string { data := #[109] })))], 63, none⟩,
   ⟨some 24, .buildSlice 35 2 #[(0, (.tmp 22)), (1, (.tmp 23))], 35, none⟩,
   ⟨some 25, .buildSlice 22 1 #[(0, (.const (.string { data := #[97] })))], 22, none⟩,
   ⟨some 26, .build 42 #[(0, (.tmp 24)), (2, (.const (.int .i64 20))), (4, (.tmp 25)), (7, (.const (.int .i64 (-2))))], 42, none⟩,
   ⟨some 3, .alloc 42, 0, none⟩,
   ⟨none, .store 42 (.tmp 3) (.tmp 26), 0, none⟩]
def r22_4 : List VOp :=
  [lda 28 24 1,
   lda 29 42 3,
   mv 30 2 65,
   ⟨some 31, .call ⟨.value (.func 23), #[.tmp 28, .tmp 29, .tmp 30], #[24, 42, 65]⟩, 74, none⟩,
   mv 27 31 74,
   ext 32 27 0 73,
   ext 33 27 1 53,
   asg 4 32 73,
   asg 5 33 53]
def r22_5 : List VOp :=
  [mv 34 5 53,
   ⟨some 35, .binOp .eql 53 (.tmp 34) (.const (.int .i64 0)) 53, 4, none⟩,
   mv 36 35 4,
   ⟨some 37, .move (.tmp 4), 73, some (36, true)⟩,
   ⟨some 38, .call ⟨.builtin .len, #[.tmp 37], #[73]⟩, 3, some (36, true)⟩,
   ⟨some 39, .binOp .eql 3 (.tmp 38) (.const (.int .i64 2)) 3, 4, some (36, true)⟩,
   ⟨some 40, .pick (.tmp 36) (.tmp 39) (.const (.bool false)), 4, none⟩,
   mv 41 40 4,
   ⟨some 42, .move (.tmp 4), 73, some (41, true)⟩,
   ⟨some 43, .indexAddr 73 (.tmp 42) (.const (.int .i64 0)), 0, some (41, true)⟩,
   ⟨some 44, .fieldAddr 113 (.tmp 43) 1, 0, some (41, true)⟩,
   ⟨some 45, .load 22 (.tmp 44), 22, some (41, true)⟩,
   ⟨some 46, .indexAddr 22 (.tmp 45) (.const (.int .i64 0)), 0, some (41, true)⟩,
   ⟨some 47, .load 9 (.tmp 46), 9, some (41, true)⟩,
   ⟨some 48, .binOp .eql 9 (.tmp 47) (.const (.string { data := #[121] })) 9, 4, some (41, true)⟩,
   ⟨some 49, .pick (.tmp 41) (.tmp 48) (.const (.bool false)), 4, none⟩,
   mv 50 49 4,
   ⟨some 51, .move (.tmp 4), 73, some (50, true)⟩,
   ⟨some 52, .indexAddr 73 (.tmp 51) (.const (.int .i64 1)), 0, some (50, true)⟩,
   ⟨some 53, .fieldAddr 113 (.tmp 52) 2, 0, some (50, true)⟩,
   ⟨some 54, .load 29 (.tmp 53), 29, some (50, true)⟩,
   ⟨some 55, .indexAddr 29 (.tmp 54) (.const (.int .i64 0)), 0, some (50, true)⟩,
   ⟨some 56, .load 3 (.tmp 55), 3, some (50, true)⟩,
   ⟨some 57, .binOp .eql 3 (.tmp 56) (.const (.int .i64 3)) 3, 4, some (50, true)⟩,
   ⟨some 58, .pick (.tmp 50) (.tmp 57) (.const (.bool false)), 4, none⟩,
   mv 59 58 4,
   ⟨some 60, .move (.tmp 4), 73, some (59, true)⟩,
   ⟨some 61, .indexAddr 73 (.tmp 60) (.const (.int .i64 1)), 0, some (59, true)⟩,
   ⟨some 62, .fieldAddr 113 (.tmp 61) 2, 0, some (59, true)⟩,
   ⟨some 63, .load 29 (.tmp 62), 29, some (59, true)⟩,
   ⟨some 64, .indexAddr 29 (.tmp 63) (.const (.int .i64 1)), 0, some (59, true)⟩,
   ⟨some 65, .load 3 (.tmp 64), 3, some (59, true)⟩,
   ⟨some 66, .binOp .eql 3 (.tmp 65) (.const (.int .i64 4)) 3, 4, some (59, true)⟩,
   ⟨some 67, .pick (.tmp 59) (.tmp 66) (.const (.bool false)), 4, none⟩,
   asg 0 67 4]
def B22 : VC :=
  (.seq (.region r22_0) (.seq (.region r22_1) (.seq (.region r22_2) (.seq (.region r22_3) (.seq (.region r22_4) (.seq (.region r22_5) .ret))))))
theorem code22 : ∃ c, Try.f22.body = some c ∧ abs Try.f22.ntmps c = B22 := ⟨_, rfl, by kernel_rfl⟩
theorem hb22 : HasBody Try.prog 22 := hasBody_of Try.func22 (by kernel_rfl)
theorem enter22 : Ent 22 B22 #[(.tmp 0)] [] := ent code22 hb22 Try.func22 rfl rfl
@[push_cast] def vr22_0 := vR r22_0.eq_1
@[push_cast] def vr22_1 := vR r22_1.eq_1
@[push_cast] def vr22_2 := vR r22_2.eq_1
@[push_cast] def vr22_3 := vR r22_3.eq_1
@[push_cast] def vr22_4 := vR r22_4.eq_1
@[push_cast] def vr22_5 := vR r22_5.eq_1
/-! 23 columbary/group.Run (params #[24, 42, 65], results #[(.tmp 6), (.tmp 7)], 26 slots) -/
def r23_0 : List VOp :=
  [⟨some 3, .box 24 (.tmp 0), 0, none⟩,
   ⟨some 4, .box 42 (.tmp 1), 0, none⟩,
   ⟨some 6, .assign (.const (.slice none 0 0)), 73, none⟩,
   ⟨some 7, .assign (.const (.int .i64 0)), 53, none⟩]
def r23_1 : List VOp :=
  [lda 11 24 3,
   lda 12 42 4,
   mv 13 2 65,
   ⟨some 14, .call ⟨.value (.func 24), #[.tmp 11, .tmp 12, .tmp 13], #[24, 42, 65]⟩, 76, none⟩,
   mv 10 14 76,
   ext 15 10 0 65,
   ext 16 10 1 53,
   asg 8 15 65,
   asg 9 16 53]
def r23_2 : List VOp :=
  [mv 17 9 53,
   ⟨some 18, .binOp .neq 53 (.tmp 17) (.const (.int .i64 0)) 53, 4, none⟩]
def r23_3 : List VOp :=
  [mv 19 9 53,
   ⟨some 6, .assign (.const (.slice none 0 0)), 73, none⟩,
   asg 7 19 53]
def r23_4 : List VOp :=
  [lda 20 24 3,
   lda 21 42 4,
   mv 22 8 65,
   ⟨some 23, .call ⟨.value (.func 25), #[.tmp 20, .tmp 21, .tmp 22], #[24, 42, 65]⟩, 74, none⟩,
   ext 24 23 0 73,
   ext 25 23 1 53,
   asg 6 24 73,
   asg 7 25 53]
def B23 : VC :=
  (.seq (.region r23_0) (.seq (.region r23_1) (.seq (.seq (.region r23_2) (.cond (.tmp 18) (.seq (.region r23_3) .ret) .skip)) (.seq (.region r23_4) .ret))))
theorem code23 : ∃ c, Try.f23.body = some c ∧ abs Try.f23.ntmps c = B23 := ⟨_, rfl, by kernel_rfl⟩
theorem hb23 : HasBody Try.prog 23 := hasBody_of Try.func23 (by kernel_rfl)
theorem enter23 (x0 x1 x2 : Value) : Ent 23 B23 #[(.tmp 6), (.tmp 7)] [x0, x1, x2] := ent code23 hb23 Try.func23 rfl rfl
@[push_cast] def vr23_0 := vR r23_0.eq_1
@[push_cast] def vr23_1 := vR r23_1.eq_1
@[push_cast] def vr23_2 := vR r23_2.eq_1
@[push_cast] def vr23_3 := vR r23_3.eq_1
@[push_cast] def vr23_4 := vR r23_4.eq_1
/-! 24 columbary/group.Fold (params #[24, 42, 65], results #[(.tmp 6), (.tmp 7)], 99 slots) -/
def W24_0 : List Nat := [8, 10, 11, 12, 22, 23, 24, 25, 26, 27, 28, 29, 30, 31, 32, 33, 34, 35, 36]
@[push_cast] theorem W24_0_def : W24_0 = [8, 10, 11, 12, 22, 23, 24, 25, 26, 27, 28, 29, 30, 31, 32, 33, 34, 35, 36] := mk_eq rfl
def W24_1 : List Nat := [13, 15, 16, 18, 39, 40, 41, 42, 43, 44, 45, 46, 47, 48, 49, 50, 51, 52, 53, 54, 55, 56, 57, 58, 59, 60, 61, 62, 63, 64, 65, 66, 67, 68, 69, 70, 71, 72, 73, 74, 75, 76, 77, 78, 79, 80, 81, 82, 83, 84, 85, 86, 87, 88, 89, 90, 91, 92, 93, 94]
@[push_cast] theorem W24_1_def : W24_1 = [13, 15, 16, 18, 39, 40, 41, 42, 43, 44, 45, 46, 47, 48, 49, 50, 51, 52, 53, 54, 55, 56, 57, 58, 59, 60, 61, 62, 63, 64, 65, 66, 67, 68, 69, 70, 71, 72, 73, 74, 75, 76, 77, 78, 79, 80, 81, 82, 83, 84, 85, 86, 87, 88, 89, 90, 91, 92, 93, 94] := mk_eq rfl
def W24_2 : List Nat := [18, 75, 76, 77, 78, 79, 80, 81, 82, 83, 84, 85, 86, 87, 88, 89]
@[push_cast] theorem W24_2_def : W24_2 = [18, 75, 76, 77, 78, 79, 80, 81, 82, 83, 84, 85, 86, 87, 88, 89] := mk_eq rfl
def r24_0 : List VOp :=
  [⟨some 3, .box 24 (.tmp 0), 0, none⟩,
   ⟨some 4, .box 42 (.tmp 1), 0, none⟩,
   ⟨some 6, .assign (.const (.slice none 0 0)), 65, none⟩,
   ⟨some 7, .assign (.const (.int .i64 0)), 53, none⟩]
def r24_1 : List VOp :=
  [⟨some 8, .assign (.const (.slice none 0 0)), 29, none⟩]
def r24_2 : List VOp :=
  [fad 19 42 4 4,
   lda 20 22 19,
   ⟨some 21, .call ⟨.builtin .len, #[.tmp 20], #[22]⟩, 3, none⟩,
   ⟨some 22, .move (.const (.int .i64 0)), 3, none⟩]
def r24_3 : List VOp :=
  [⟨some 23, .binOp .lss 3 (.tmp 22) (.tmp 21) 3, 0, none⟩]
def r24_4 : List VOp :=
  [iad 24 22 20 22,
   lda 25 9 24,
   asg 10 25 9]
def r24_5 : List VOp :=
  [lda 27 24 3,
   mv 28 10 9,
   ⟨some 29, .call ⟨.value (.func 60), #[.tmp 27, .tmp 28], #[24, 9]⟩, 94, none⟩,
   mv 26 29 94,
   ext 30 26 0 3,
   ext 31 26 1 4,
   asg 11 30 3,
   asg 12 31 4]
def r24_6 : List VOp :=
  [mv 32 8 29,
   mv 33 11 3,
   ⟨some 34, .buildSlice 29 1 #[(0, (.tmp 33))], 29, none⟩,
   ⟨some 35, .call ⟨.builtin .append, #[.tmp 32, .tmp 34], #[29, 29]⟩, 29, none⟩,
   asg 8 35 29]
def r24_7 : List VOp :=
  [⟨some 36, .binOp .add 3 (.tmp 22) (.const (.int .i64 1)) 3, 3, none⟩,
   mv 22 36 3]
def r24_8 : List VOp :=
  [⟨some 13, .assign (.const (.slice none 0 0)), 65, none⟩]
def r24_9 : List VOp :=
  [mv 37 2 65,
   ⟨some 38, .call ⟨.builtin .len, #[.tmp 37], #[65]⟩, 3, none⟩,
   ⟨some 39, .move (.const (.int .i64 0)), 3, none⟩]
def r24_10 : List VOp :=
  [⟨some 40, .binOp .lss 3 (.tmp 39) (.tmp 38) 3, 0, none⟩]
def r24_11 : List VOp :=
  [iad 41 65 37 39,
   lda 42 72 41,
   ⟨some 15, .alloc 72, 0, none⟩,
   ⟨none, .store 72 (.tmp 15) (.tmp 42), 0, none⟩]
def r24_12 : List VOp :=
  [fad 43 72 15 0,
   lda 44 3 43,
   fad 45 42 4 1,
   lda 46 3 45,
   ⟨some 47, .binOp .lss 3 (.tmp 44) (.tmp 46) 3, 4, none⟩,
   mv 48 47 4,
   ⟨some 49, .fieldAddr 72 (.tmp 15) 0, 0, some (48, false)⟩,
   ⟨some 50, .load 3 (.tmp 49), 3, some (48, false)⟩,
   ⟨some 51, .fieldAddr 42 (.tmp 4) 2, 0, some (48, false)⟩,
   ⟨some 52, .load 3 (.tmp 51), 3, some (48, false)⟩,
   ⟨some 53, .binOp .geq 3 (.tmp 50) (.tmp 52) 3, 4, some (48, false)⟩,
   ⟨some 54, .pick (.tmp 48) (.const (.bool true)) (.tmp 53), 4, none⟩,
   mv 55 54 4,
   ⟨some 56, .fieldAddr 42 (.tmp 4) 5, 0, some (55, false)⟩,
   ⟨some 57, .load 39 (.tmp 56), 39, some (55, false)⟩,
   ⟨some 58, .load 24 (.tmp 3), 24, some (55, false)⟩,
   ⟨some 59, .fieldAddr 72 (.tmp 15) 1, 0, some (55, false)⟩,
   ⟨some 60, .load 22 (.tmp 59), 22, some (55, false)⟩,
   ⟨some 61, .call ⟨.value (.func 61), #[.tmp 57, .tmp 58, .tmp 60], #[39, 24, 22]⟩, 4, some (55, false)⟩,
   ⟨some 62, .unOp .not 4 (.tmp 61), 4, some (55, false)⟩,
   ⟨some 63, .pick (.tmp 55) (.const (.bool true)) (.tmp 62), 4, none⟩]
def r24_13 : List VOp :=
  [lda 64 42 4,
   fad 65 72 15 0,
   lda 66 3 65,
   ⟨some 67, .call ⟨.value (.func 62), #[.tmp 64, .tmp 66], #[42, 3]⟩, 3, none⟩,
   fad 68 72 15 2,
   lda 69 3 68,
   fad 70 72 15 3,
   lda 71 70 70,
   ⟨some 72, .build 72 #[(0, (.tmp 67)), (2, (.tmp 69)), (3, (.tmp 71))], 72, none⟩,
   ⟨some 16, .alloc 72, 0, none⟩,
   ⟨none, .store 72 (.tmp 16) (.tmp 72), 0, none⟩]
def r24_14 : List VOp :=
  [mv 73 8 29,
   ⟨some 74, .call ⟨.builtin .len, #[.tmp 73], #[29]⟩, 3, none⟩,
   ⟨some 75, .move (.const (.int .i64 0)), 3, none⟩]
def r24_15 : List VOp :=
  [⟨some 76, .binOp .lss 3 (.tmp 75) (.tmp 74) 3, 0, none⟩]
def r24_16 : List VOp :=
  [iad 77 29 73 75,
   lda 78 3 77,
   asg 18 78 3]
def r24_17 : List VOp :=
  [fad 79 72 16 1,
   lda 80 22 79,
   fad 81 72 15 1,
   lda 82 22 81,
   mv 83 18 3,
   iad 84 22 82 83,
   lda 85 9 84,
   ⟨some 86, .buildSlice 22 1 #[(0, (.tmp 85))], 22, none⟩,
   ⟨some 87, .call ⟨.builtin .append, #[.tmp 80, .tmp 86], #[22, 22]⟩, 22, none⟩,
   fad 88 72 16 1,
   ⟨none, .store 22 (.tmp 88) (.tmp 87), 0, none⟩]
def r24_18 : List VOp :=
  [⟨some 89, .binOp .add 3 (.tmp 75) (.const (.int .i64 1)) 3, 3, none⟩,
   mv 75 89 3]
def r24_19 : List VOp :=
  [mv 90 13 65,
   lda 91 72 16,
   ⟨some 92, .buildSlice 65 1 #[(0, (.tmp 91))], 65, none⟩,
   ⟨some 93, .call ⟨.builtin .append, #[.tmp 90, .tmp 92], #[65, 65]⟩, 65, none⟩,
   asg 13 93 65]
def r24_20 : List VOp :=
  [⟨some 94, .binOp .add 3 (.tmp 39) (.const (.int .i64 1)) 3, 3, none⟩,
   mv 39 94 3]
def r24_21 : List VOp :=
  [mv 95 13 65,
   ⟨some 96, .call ⟨.value (.func 63), #[.tmp 95], #[65]⟩, 76, none⟩,
   ext 97 96 0 65,
   ext 98 96 1 53,
   asg 6 97 65,
   asg 7 98 53]
def B24 : VC :=
  (.seq (.region r24_0) (.seq (.region r24_1) (.seq (.seq (.region r24_2) (.block 0 (.loop (.seq (.region r24_3) (.seq (.cond (.tmp 23) .skip (.exit 0)) (.seq (.block 1 (.seq (.region r24_4) (.seq (.region r24_5) (.region r24_6)))) (.region r24_7))))))) (.seq (.region r24_8) (.seq (.seq (.region r24_9) (.block 2 (.loop (.seq (.region r24_10) (.seq (.cond (.tmp 40) .skip (.exit 2)) (.seq (.block 3 (.seq (.region r24_11) (.seq (.seq (.region r24_12) (.cond (.tmp 63) (.exit 3) .skip)) (.seq (.draw r24_13 2) (.seq (.seq (.region r24_14) (.block 4 (.loop (.seq (.region r24_15) (.seq (.cond (.tmp 76) .skip (.exit 4)) (.seq (.block 5 (.seq (.region r24_16) (.draw r24_17 4))) (.region r24_18))))))) (.region r24_19)))))) (.region r24_20))))))) (.seq (.region r24_21) .ret))))))
theorem code24 : ∃ c, Try.f24.body = some c ∧ abs Try.f24.ntmps c = B24 := ⟨_, rfl, by kernel_rfl⟩
theorem hb24 : HasBody Try.prog 24 := hasBody_of Try.func24 (by kernel_rfl)
theorem enter24 (x0 x1 x2 : Value) : Ent 24 B24 #[(.tmp 6), (.tmp 7)] [x0, x1, x2] := ent code24 hb24 Try.func24 rfl rfl
@[push_cast] def vr24_0 := vR r24_0.eq_1
@[push_cast] def vr24_1 := vR r24_1.eq_1
@[push_cast] def vr24_2 := vR r24_2.eq_1
@[push_cast] def vr24_3 := vR r24_3.eq_1
@[push_cast] def vr24_4 := vR r24_4.eq_1
@[push_cast] def vr24_5 := vR r24_5.eq_1
@[push_cast] def vr24_6 := vR r24_6.eq_1
@[push_cast] def vr24_7 := vR r24_7.eq_1
@[push_cast] def vr24_8 := vR r24_8.eq_1
@[push_cast] def vr24_9 := vR r24_9.eq_1
@[push_cast] def vr24_10 := vR r24_10.eq_1
@[push_cast] def vr24_11 := vR r24_11.eq_1
@[push_cast] def vr24_12 := vR r24_12.eq_1
@[push_cast] theorem vr24_13 : vc Try.prog (.draw r24_13 2) Q ds σ w = drawn Try.prog [(⟨some 64, .load 42 (.tmp 4), 42, none⟩, [4]), (⟨some 65, .fieldAddr 72 (.tmp 15) 0, 0, none⟩, [15]), (⟨some 66, .load 3 (.tmp 65), 3, none⟩, [65]), (⟨some 67, .call ⟨.value (.func 62), #[.tmp 64, .tmp 66], #[42, 3]⟩, 3, none⟩, [64, 66]), (⟨some 68, .fieldAddr 72 (.tmp 15) 2, 0, none⟩, [15]), (⟨some 69, .load 3 (.tmp 68), 3, none⟩, [68]), (⟨some 70, .fieldAddr 72 (.tmp 15) 3, 0, none⟩, [15]), (⟨some 71, .load 70 (.tmp 70), 70, none⟩, [70]), (⟨some 72, .build 72 #[(0, (.tmp 67)), (2, (.tmp 69)), (3, (.tmp 71))], 72, none⟩, [67, 69, 71]), (⟨some 16, .alloc 72, 0, none⟩, []), (⟨none, .store 72 (.tmp 16) (.tmp 72), 0, none⟩, [16, 72])] 2 (Q .normal ds) σ w := mk_eq rfl
@[push_cast] def vr24_14 := vR r24_14.eq_1
@[push_cast] def vr24_15 := vR r24_15.eq_1
@[push_cast] def vr24_16 := vR r24_16.eq_1
@[push_cast] theorem vr24_17 : vc Try.prog (.draw r24_17 4) Q ds σ w = drawn Try.prog [(⟨some 79, .fieldAddr 72 (.tmp 16) 1, 0, none⟩, [16]), (⟨some 80, .load 22 (.tmp 79), 22, none⟩, [79]), (⟨some 81, .fieldAddr 72 (.tmp 15) 1, 0, none⟩, [15]), (⟨some 82, .load 22 (.tmp 81), 22, none⟩, [81]), (⟨some 83, .move (.tmp 18), 3, none⟩, [18]), (⟨some 84, .indexAddr 22 (.tmp 82) (.tmp 83), 0, none⟩, [82, 83]), (⟨some 85, .load 9 (.tmp 84), 9, none⟩, [84]), (⟨some 86, .buildSlice 22 1 #[(0, (.tmp 85))], 22, none⟩, [85]), (⟨some 87, .call ⟨.builtin .append, #[.tmp 80, .tmp 86], #[22, 22]⟩, 22, none⟩, [80, 86]), (⟨some 88, .fieldAddr 72 (.tmp 16) 1, 0, none⟩, [16]), (⟨none, .store 22 (.tmp 88) (.tmp 87), 0, none⟩, [88, 87])] 4 (Q .normal ds) σ w := mk_eq rfl
@[push_cast] def vr24_18 := vR r24_18.eq_1
@[push_cast] def vr24_19 := vR r24_19.eq_1
@[push_cast] def vr24_20 := vR r24_20.eq_1
@[push_cast] def vr24_21 := vR r24_21.eq_1
/-! 25 columbary/group.Finish (params #[24, 42, 65], results #[(.tmp 6), (.tmp 7)], 80 slots) -/
def W25_0 : List Nat := [9, 11, 12, 14, 26, 27, 28, 29, 30, 31, 32, 33, 34, 35, 36, 37, 38, 39, 40, 41, 42, 43, 44, 45, 46, 47, 48, 49, 50, 51, 52, 53, 54, 55, 56, 57, 58, 59, 60, 61]
@[push_cast] theorem W25_0_def : W25_0 = [9, 11, 12, 14, 26, 27, 28, 29, 30, 31, 32, 33, 34, 35, 36, 37, 38, 39, 40, 41, 42, 43, 44, 45, 46, 47, 48, 49, 50, 51, 52, 53, 54, 55, 56, 57, 58, 59, 60, 61] := mk_eq rfl
def W25_1 : List Nat := [14, 43, 44, 45, 46, 47, 48, 49, 50, 51, 52, 53, 54, 55, 56]
@[push_cast] theorem W25_1_def : W25_1 = [14, 43, 44, 45, 46, 47, 48, 49, 50, 51, 52, 53, 54, 55, 56] := mk_eq rfl
def r25_0 : List VOp :=
  [⟨some 3, .box 24 (.tmp 0), 0, none⟩,
   ⟨some 4, .box 42 (.tmp 1), 0, none⟩,
   ⟨some 6, .assign (.const (.slice none 0 0)), 73, none⟩,
   ⟨some 7, .assign (.const (.int .i64 0)), 53, none⟩]
def r25_1 : List VOp :=
  [mv 17 2 65,
   ⟨some 18, .call ⟨.value (.func 63), #[.tmp 17], #[65]⟩, 76, none⟩,
   mv 16 18 76,
   ext 19 16 0 65,
   ext 20 16 1 53,
   asg 2 19 65,
   asg 8 20 53]
def r25_2 : List VOp :=
  [mv 21 8 53,
   ⟨some 22, .binOp .neq 53 (.tmp 21) (.const (.int .i64 0)) 53, 4, none⟩]
def r25_3 : List VOp :=
  [mv 23 8 53,
   ⟨some 6, .assign (.const (.slice none 0 0)), 73, none⟩,
   asg 7 23 53]
def r25_4 : List VOp :=
  [⟨some 9, .assign (.const (.slice none 0 0)), 73, none⟩]
def r25_5 : List VOp :=
  [mv 24 2 65,
   ⟨some 25, .call ⟨.builtin .len, #[.tmp 24], #[65]⟩, 3, none⟩,
   ⟨some 26, .move (.const (.int .i64 0)), 3, none⟩]
def r25_6 : List VOp :=
  [⟨some 27, .binOp .lss 3 (.tmp 26) (.tmp 25) 3, 0, none⟩]
def r25_7 : List VOp :=
  [iad 28 65 24 26,
   lda 29 72 28,
   ⟨some 11, .alloc 72, 0, none⟩,
   ⟨none, .store 72 (.tmp 11) (.tmp 29), 0, none⟩]
def r25_8 : List VOp :=
  [lda 30 24 3,
   lda 31 42 4,
   lda 32 72 11,
   ⟨some 33, .call ⟨.value (.func 64), #[.tmp 30, .tmp 31, .tmp 32], #[24, 42, 72]⟩, 4, none⟩,
   ⟨some 34, .unOp .not 4 (.tmp 33), 4, none⟩]
def r25_9 : List VOp :=
  [fad 35 72 11 0,
   lda 36 3 35,
   fad 37 72 11 1,
   lda 38 22 37,
   ⟨some 39, .build 113 #[(0, (.tmp 36)), (1, (.tmp 38))], 113, none⟩,
   ⟨some 12, .alloc 113, 0, none⟩,
   ⟨none, .store 113 (.tmp 12) (.tmp 39), 0, none⟩]
def r25_10 : List VOp :=
  [fad 40 42 4 0,
   lda 41 35 40,
   ⟨some 42, .call ⟨.builtin .len, #[.tmp 41], #[35]⟩, 3, none⟩,
   ⟨some 43, .move (.const (.int .i64 0)), 3, none⟩]
def r25_11 : List VOp :=
  [⟨some 44, .binOp .lss 3 (.tmp 43) (.tmp 42) 3, 0, none⟩]
def r25_12 : List VOp :=
  [iad 45 35 41 43,
   lda 46 63 45,
   ⟨some 14, .alloc 63, 0, none⟩,
   ⟨none, .store 63 (.tmp 14) (.tmp 46), 0, none⟩]
def r25_13 : List VOp :=
  [fad 47 113 12 2,
   lda 48 29 47,
   lda 49 24 3,
   lda 50 63 14,
   lda 51 72 11,
   ⟨some 52, .call ⟨.value (.func 65), #[.tmp 49, .tmp 50, .tmp 51], #[24, 63, 72]⟩, 3, none⟩,
   ⟨some 53, .buildSlice 29 1 #[(0, (.tmp 52))], 29, none⟩,
   ⟨some 54, .call ⟨.builtin .append, #[.tmp 48, .tmp 53], #[29, 29]⟩, 29, none⟩,
   fad 55 113 12 2,
   ⟨none, .store 29 (.tmp 55) (.tmp 54), 0, none⟩]
def r25_14 : List VOp :=
  [⟨some 56, .binOp .add 3 (.tmp 43) (.const (.int .i64 1)) 3, 3, none⟩,
   mv 43 56 3]
def r25_15 : List VOp :=
  [mv 57 9 73,
   lda 58 113 12,
   ⟨some 59, .buildSlice 73 1 #[(0, (.tmp 58))], 73, none⟩,
   ⟨some 60, .call ⟨.builtin .append, #[.tmp 57, .tmp 59], #[73, 73]⟩, 73, none⟩,
   asg 9 60 73]
def r25_16 : List VOp :=
  [⟨some 61, .binOp .add 3 (.tmp 26) (.const (.int .i64 1)) 3, 3, none⟩,
   mv 26 61 3]
def r25_17 : List VOp :=
  [fad 62 42 4 7,
   lda 63 3 62,
   ⟨some 15, .alloc 3, 0, none⟩,
   ⟨none, .store 3 (.tmp 15) (.tmp 63), 0, none⟩]
def r25_18 : List VOp :=
  [lda 64 3 15,
   ⟨some 65, .binOp .neq 3 (.tmp 64) (.const (.int .i64 0)) 3, 4, none⟩]
def r25_19 : List VOp :=
  [mv 66 9 73,
   ⟨some 67, .makeFunc (Fn.func 67) #[] #[(.tmp 15)], 121, none⟩,
   ⟨some 68, .call ⟨.value (.func 66), #[.tmp 66, .tmp 67], #[73, 121]⟩, 0, none⟩]
def r25_20 : List VOp :=
  [fad 69 42 4 8,
   lda 70 3 69,
   ⟨some 71, .binOp .gtr 3 (.tmp 70) (.const (.int .i64 0)) 3, 4, none⟩]
def r25_21 : List VOp :=
  [mv 72 9 73,
   mv 73 9 73,
   ⟨some 74, .call ⟨.builtin .len, #[.tmp 73], #[73]⟩, 3, none⟩,
   fad 75 42 4 8,
   lda 76 3 75,
   ⟨some 77, .call ⟨.builtin .min, #[.tmp 74, .tmp 76], #[3, 3]⟩, 3, none⟩,
   ⟨some 78, .slice 73 (.tmp 72) none (some (.tmp 77)) none, 73, none⟩,
   asg 9 78 73]
def r25_22 : List VOp :=
  [mv 79 9 73,
   asg 6 79 73,
   ⟨some 7, .assign (.const (.int .i64 0)), 53, none⟩]
def B25 : VC :=
  (.seq (.region r25_0) (.seq (.region r25_1) (.seq (.seq (.region r25_2) (.cond (.tmp 22) (.seq (.region r25_3) .ret) .skip)) (.seq (.region r25_4) (.seq (.seq (.region r25_5) (.block 0 (.loop (.seq (.region r25_6) (.seq (.cond (.tmp 27) .skip (.exit 0)) (.seq (.block 1 (.seq (.region r25_7) (.seq (.seq (.region r25_8) (.cond (.tmp 34) (.exit 1) .skip)) (.seq (.region r25_9) (.seq (.seq (.region r25_10) (.block 2 (.loop (.seq (.region r25_11) (.seq (.cond (.tmp 44) .skip (.exit 2)) (.seq (.block 3 (.seq (.region r25_12) (.draw r25_13 4))) (.region r25_14))))))) (.region r25_15)))))) (.region r25_16))))))) (.seq (.seq (.region r25_17) (.seq (.region r25_18) (.cond (.tmp 65) (.region r25_19) .skip))) (.seq (.seq (.region r25_20) (.cond (.tmp 71) (.region r25_21) .skip)) (.seq (.region r25_22) .ret))))))))
theorem code25 : ∃ c, Try.f25.body = some c ∧ abs Try.f25.ntmps c = B25 := ⟨_, rfl, by kernel_rfl⟩
theorem hb25 : HasBody Try.prog 25 := hasBody_of Try.func25 (by kernel_rfl)
theorem enter25 (x0 x1 x2 : Value) : Ent 25 B25 #[(.tmp 6), (.tmp 7)] [x0, x1, x2] := ent code25 hb25 Try.func25 rfl rfl
@[push_cast] def vr25_0 := vR r25_0.eq_1
@[push_cast] def vr25_1 := vR r25_1.eq_1
@[push_cast] def vr25_2 := vR r25_2.eq_1
@[push_cast] def vr25_3 := vR r25_3.eq_1
@[push_cast] def vr25_4 := vR r25_4.eq_1
@[push_cast] def vr25_5 := vR r25_5.eq_1
@[push_cast] def vr25_6 := vR r25_6.eq_1
@[push_cast] def vr25_7 := vR r25_7.eq_1
@[push_cast] def vr25_8 := vR r25_8.eq_1
@[push_cast] def vr25_9 := vR r25_9.eq_1
@[push_cast] def vr25_10 := vR r25_10.eq_1
@[push_cast] def vr25_11 := vR r25_11.eq_1
@[push_cast] def vr25_12 := vR r25_12.eq_1
@[push_cast] theorem vr25_13 : vc Try.prog (.draw r25_13 4) Q ds σ w = drawn Try.prog [(⟨some 47, .fieldAddr 113 (.tmp 12) 2, 0, none⟩, [12]), (⟨some 48, .load 29 (.tmp 47), 29, none⟩, [47]), (⟨some 49, .load 24 (.tmp 3), 24, none⟩, [3]), (⟨some 50, .load 63 (.tmp 14), 63, none⟩, [14]), (⟨some 51, .load 72 (.tmp 11), 72, none⟩, [11]), (⟨some 52, .call ⟨.value (.func 65), #[.tmp 49, .tmp 50, .tmp 51], #[24, 63, 72]⟩, 3, none⟩, [49, 50, 51]), (⟨some 53, .buildSlice 29 1 #[(0, (.tmp 52))], 29, none⟩, [52]), (⟨some 54, .call ⟨.builtin .append, #[.tmp 48, .tmp 53], #[29, 29]⟩, 29, none⟩, [48, 53]), (⟨some 55, .fieldAddr 113 (.tmp 12) 2, 0, none⟩, [12]), (⟨none, .store 29 (.tmp 55) (.tmp 54), 0, none⟩, [55, 54])] 4 (Q .normal ds) σ w := mk_eq rfl
@[push_cast] def vr25_14 := vR r25_14.eq_1
@[push_cast] def vr25_15 := vR r25_15.eq_1
@[push_cast] def vr25_16 := vR r25_16.eq_1
@[push_cast] def vr25_17 := vR r25_17.eq_1
@[push_cast] def vr25_18 := vR r25_18.eq_1
@[push_cast] def vr25_19 := vR r25_19.eq_1
@[push_cast] def vr25_20 := vR r25_20.eq_1
@[push_cast] def vr25_21 := vR r25_21.eq_1
@[push_cast] def vr25_22 := vR r25_22.eq_1
/-! 26 columbary/columbaryref25.Same (params #[73, 73], results #[(.tmp 4)], 60 slots) -/
def W26_0 : List Nat := [4, 5, 6, 7, 13, 14, 15, 16, 17, 18, 19, 20, 21, 22, 23, 24, 25, 26, 27, 28, 29, 30, 31, 32, 33, 34, 35, 36, 37, 38, 39, 40, 41, 42, 43, 44, 45, 46, 47, 48, 49, 50, 51, 52, 53, 54, 55, 56, 57, 58, 59]
@[push_cast] theorem W26_0_def : W26_0 = [4, 5, 6, 7, 13, 14, 15, 16, 17, 18, 19, 20, 21, 22, 23, 24, 25, 26, 27, 28, 29, 30, 31, 32, 33, 34, 35, 36, 37, 38, 39, 40, 41, 42, 43, 44, 45, 46, 47, 48, 49, 50, 51, 52, 53, 54, 55, 56, 57, 58, 59] := mk_eq rfl
def r26_0 : List VOp :=
  [⟨some 4, .assign (.const (.bool false)), 4, none⟩]
def r26_1 : List VOp :=
  [mv 8 0 73,
   ⟨some 9, .call ⟨.builtin .len, #[.tmp 8], #[73]⟩, 3, none⟩,
   mv 10 1 73,
   ⟨some 11, .call ⟨.builtin .len, #[.tmp 10], #[73]⟩, 3, none⟩,
   ⟨some 12, .binOp .neq 3 (.tmp 9) (.tmp 11) 3, 4, none⟩]
def r26_2 : List VOp :=
  [⟨some 4, .assign (.const (.bool false)), 4, none⟩]
def r26_3 : List VOp :=
  [⟨some 5, .assign (.const (.int .i64 0)), 3, none⟩]
def r26_4 : List VOp :=
  [mv 13 5 3,
   mv 14 0 73,
   ⟨some 15, .call ⟨.builtin .len, #[.tmp 14], #[73]⟩, 3, none⟩,
   ⟨some 16, .binOp .lss 3 (.tmp 13) (.tmp 15) 3, 4, none⟩]
def r26_6 : List VOp :=
  [mv 19 0 73,
   mv 20 5 3,
   iad 21 73 19 20,
   fad 22 113 21 1,
   lda 23 22 22,
   mv 24 1 73,
   mv 25 5 3,
   iad 26 73 24 25,
   fad 27 113 26 1,
   lda 28 22 27,
   ⟨some 29, .call ⟨.value (.func 32), #[.tmp 23, .tmp 28], #[22, 22]⟩, 4, none⟩,
   asg 6 29 4]
def r26_7 : List VOp :=
  [mv 30 0 73,
   mv 31 5 3,
   iad 32 73 30 31,
   fad 33 113 32 2,
   lda 34 29 33,
   mv 35 1 73,
   mv 36 5 3,
   iad 37 73 35 36,
   fad 38 113 37 2,
   lda 39 29 38,
   ⟨some 40, .call ⟨.value (.func 68), #[.tmp 34, .tmp 39], #[29, 29]⟩, 4, none⟩,
   asg 7 40 4]
def r26_8 : List VOp :=
  [mv 41 6 4,
   ⟨some 42, .unOp .not 4 (.tmp 41), 4, none⟩,
   mv 43 42 4,
   ⟨some 44, .move (.tmp 7), 4, some (43, false)⟩,
   ⟨some 45, .unOp .not 4 (.tmp 44), 4, some (43, false)⟩,
   ⟨some 46, .pick (.tmp 43) (.const (.bool true)) (.tmp 45), 4, none⟩,
   mv 47 46 4,
   ⟨some 48, .move (.tmp 0), 73, some (47, false)⟩,
   ⟨some 49, .move (.tmp 5), 3, some (47, false)⟩,
   ⟨some 50, .indexAddr 73 (.tmp 48) (.tmp 49), 0, some (47, false)⟩,
   ⟨some 51, .fieldAddr 113 (.tmp 50) 0, 0, some (47, false)⟩,
   ⟨some 52, .load 3 (.tmp 51), 3, some (47, false)⟩,
   ⟨some 53, .move (.tmp 1), 73, some (47, false)⟩,
   ⟨some 54, .move (.tmp 5), 3, some (47, false)⟩,
   ⟨some 55, .indexAddr 73 (.tmp 53) (.tmp 54), 0, some (47, false)⟩,
   ⟨some 56, .fieldAddr 113 (.tmp 55) 0, 0, some (47, false)⟩,
   ⟨some 57, .load 3 (.tmp 56), 3, some (47, false)⟩,
   ⟨some 58, .binOp .neq 3 (.tmp 52) (.tmp 57) 3, 4, some (47, false)⟩,
   ⟨some 59, .pick (.tmp 47) (.const (.bool true)) (.tmp 58), 4, none⟩]
def r26_9 : List VOp :=
  [⟨some 4, .assign (.const (.bool false)), 4, none⟩]
def r26_5 : List VOp :=
  [mv 17 5 3,
   ⟨some 18, .binOp .add 3 (.tmp 17) (.const (.int .i64 1)) 3, 3, none⟩,
   asg 5 18 3]
def r26_10 : List VOp :=
  [⟨some 4, .assign (.const (.bool true)), 4, none⟩]
def B26 : VC :=
  (.seq (.region r26_0) (.seq (.seq (.region r26_1) (.cond (.tmp 12) (.seq (.region r26_2) .ret) .skip)) (.seq (.seq (.region r26_3) (.block 0 (.loop (.seq (.seq (.region r26_4) (.cond (.tmp 16) .skip (.exit 0))) (.seq (.block 1 (.seq (.draw r26_6 3) (.seq (.draw r26_7 3) (.seq (.draw r26_8 3) (.cond (.tmp 59) (.seq (.region r26_9) .ret) .skip))))) (.region r26_5)))))) (.seq (.region r26_10) .ret))))
theorem code26 : ∃ c, Try.f26.body = some c ∧ abs Try.f26.ntmps c = B26 := ⟨_, rfl, by kernel_rfl⟩
theorem hb26 : HasBody Try.prog 26 := hasBody_of Try.func26 (by kernel_rfl)
theorem enter26 (x0 x1 : Value) : Ent 26 B26 #[(.tmp 4)] [x0, x1] := ent code26 hb26 Try.func26 rfl rfl
@[push_cast] def vr26_0 := vR r26_0.eq_1
@[push_cast] def vr26_1 := vR r26_1.eq_1
@[push_cast] def vr26_2 := vR r26_2.eq_1
@[push_cast] def vr26_3 := vR r26_3.eq_1
@[push_cast] def vr26_4 := vR r26_4.eq_1
@[push_cast] theorem vr26_6 : vc Try.prog (.draw r26_6 3) Q ds σ w = drawn Try.prog [(⟨some 19, .move (.tmp 0), 73, none⟩, [0]), (⟨some 20, .move (.tmp 5), 3, none⟩, [5]), (⟨some 21, .indexAddr 73 (.tmp 19) (.tmp 20), 0, none⟩, [19, 20]), (⟨some 22, .fieldAddr 113 (.tmp 21) 1, 0, none⟩, [21]), (⟨some 23, .load 22 (.tmp 22), 22, none⟩, [22]), (⟨some 24, .move (.tmp 1), 73, none⟩, [1]), (⟨some 25, .move (.tmp 5), 3, none⟩, [5]), (⟨some 26, .indexAddr 73 (.tmp 24) (.tmp 25), 0, none⟩, [24, 25]), (⟨some 27, .fieldAddr 113 (.tmp 26) 1, 0, none⟩, [26]), (⟨some 28, .load 22 (.tmp 27), 22, none⟩, [27]), (⟨some 29, .call ⟨.value (.func 32), #[.tmp 23, .tmp 28], #[22, 22]⟩, 4, none⟩, [23, 28]), (⟨some 6, .assign (.tmp 29), 4, none⟩, [29])] 3 (Q .normal ds) σ w := mk_eq rfl
@[push_cast] theorem vr26_7 : vc Try.prog (.draw r26_7 3) Q ds σ w = drawn Try.prog [(⟨some 30, .move (.tmp 0), 73, none⟩, [0]), (⟨some 31, .move (.tmp 5), 3, none⟩, [5]), (⟨some 32, .indexAddr 73 (.tmp 30) (.tmp 31), 0, none⟩, [30, 31]), (⟨some 33, .fieldAddr 113 (.tmp 32) 2, 0, none⟩, [32]), (⟨some 34, .load 29 (.tmp 33), 29, none⟩, [33]), (⟨some 35, .move (.tmp 1), 73, none⟩, [1]), (⟨some 36, .move (.tmp 5), 3, none⟩, [5]), (⟨some 37, .indexAddr 73 (.tmp 35) (.tmp 36), 0, none⟩, [35, 36]), (⟨some 38, .fieldAddr 113 (.tmp 37) 2, 0, none⟩, [37]), (⟨some 39, .load 29 (.tmp 38), 29, none⟩, [38]), (⟨some 40, .call ⟨.value (.func 68), #[.tmp 34, .tmp 39], #[29, 29]⟩, 4, none⟩, [34, 39]), (⟨some 7, .assign (.tmp 40), 4, none⟩, [40])] 3 (Q .normal ds) σ w := mk_eq rfl
@[push_cast] theorem vr26_8 : vc Try.prog (.draw r26_8 3) Q ds σ w = drawn Try.prog [(⟨some 41, .move (.tmp 6), 4, none⟩, [6]), (⟨some 42, .unOp .not 4 (.tmp 41), 4, none⟩, [41]), (⟨some 43, .move (.tmp 42), 4, none⟩, [42]), (⟨some 44, .move (.tmp 7), 4, some (43, false)⟩, [7, 43]), (⟨some 45, .unOp .not 4 (.tmp 44), 4, some (43, false)⟩, [44, 43]), (⟨some 46, .pick (.tmp 43) (.const (.bool true)) (.tmp 45), 4, none⟩, [43, 45]), (⟨some 47, .move (.tmp 46), 4, none⟩, [46]), (⟨some 48, .move (.tmp 0), 73, some (47, false)⟩, [0, 47]), (⟨some 49, .move (.tmp 5), 3, some (47, false)⟩, [5, 47]), (⟨some 50, .indexAddr 73 (.tmp 48) (.tmp 49), 0, some (47, false)⟩, [48, 49, 47]), (⟨some 51, .fieldAddr 113 (.tmp 50) 0, 0, some (47, false)⟩, [50, 47]), (⟨some 52, .load 3 (.tmp 51), 3, some (47, false)⟩, [51, 47]), (⟨some 53, .move (.tmp 1), 73, some (47, false)⟩, [1, 47]), (⟨some 54, .move (.tmp 5), 3, some (47, false)⟩, [5, 47]), (⟨some 55, .indexAddr 73 (.tmp 53) (.tmp 54), 0, some (47, false)⟩, [53, 54, 47]), (⟨some 56, .fieldAddr 113 (.tmp 55) 0, 0, some (47, false)⟩, [55, 47]), (⟨some 57, .load 3 (.tmp 56), 3, some (47, false)⟩, [56, 47]), (⟨some 58, .binOp .neq 3 (.tmp 52) (.tmp 57) 3, 4, some (47, false)⟩, [52, 57, 47]), (⟨some 59, .pick (.tmp 47) (.const (.bool true)) (.tmp 58), 4, none⟩, [47, 58])] 3 (Q .normal ds) σ w := mk_eq rfl
@[push_cast] def vr26_9 := vR r26_9.eq_1
@[push_cast] def vr26_5 := vR r26_5.eq_1
@[push_cast] def vr26_10 := vR r26_10.eq_1
/-! 60 columbary/schema.Dim (params #[24, 9], results #[(.tmp 4), (.tmp 5)], 12 slots) -/
def r60_0 : List VOp :=
  [⟨some 2, .box 24 (.tmp 0), 0, none⟩,
   ⟨some 4, .assign (.const (.int .i64 0)), 3, none⟩,
   ⟨some 5, .assign (.const (.bool false)), 4, none⟩]
def r60_1 : List VOp :=
  [fad 6 24 2 0,
   lda 7 22 6,
   mv 8 1 9,
   ⟨some 9, .call ⟨.value (.func 94), #[.tmp 7, .tmp 8], #[22, 9]⟩, 94, none⟩,
   ext 10 9 0 3,
   ext 11 9 1 4,
   asg 4 10 3,
   asg 5 11 4]
def B60 : VC :=
  (.seq (.region r60_0) (.seq (.region r60_1) .ret))
theorem code60 : ∃ c, Try.f60.body = some c ∧ abs Try.f60.ntmps c = B60 := ⟨_, rfl, by kernel_rfl⟩
theorem hb60 : HasBody Try.prog 60 := hasBody_of Try.func60 (by kernel_rfl)
theorem enter60 (x0 x1 : Value) : Ent 60 B60 #[(.tmp 4), (.tmp 5)] [x0, x1] := ent code60 hb60 Try.func60 rfl rfl
@[push_cast] def vr60_0 := vR r60_0.eq_1
@[push_cast] def vr60_1 := vR r60_1.eq_1
/-! 61 columbary/filter.Takes (params #[39, 24, 22], results #[(.tmp 6)], 59 slots) -/
def r61_0 : List VOp :=
  [⟨some 3, .box 39 (.tmp 0), 0, none⟩,
   ⟨some 4, .box 24 (.tmp 1), 0, none⟩,
   ⟨some 5, .box 22 (.tmp 2), 0, none⟩,
   ⟨some 6, .assign (.const (.bool false)), 4, none⟩]
def r61_1 : List VOp :=
  [⟨some 10, .makeFunc (Fn.func 95) #[] #[(.tmp 4), (.tmp 5)], 135, none⟩,
   ⟨some 7, .alloc 135, 0, none⟩,
   ⟨none, .store 135 (.tmp 7) (.tmp 10), 0, none⟩]
def r61_2 : List VOp :=
  [fad 11 39 3 0,
   lda 12 36 11]
def r61_3 : List VOp :=
  [⟨some 14, .binOp .eql 36 (.tmp 12) (.const (.int .i64 1)) 36, 4, none⟩,
   asg 13 14 4]
def r61_4 : List VOp :=
  [⟨some 15, .binOp .eql 36 (.tmp 12) (.const (.int .i64 2)) 36, 4, none⟩,
   asg 13 15 4]
def r61_5 : List VOp :=
  [lda 17 24 4,
   fad 18 39 3 1,
   lda 19 9 18,
   ⟨some 20, .call ⟨.value (.func 60), #[.tmp 17, .tmp 19], #[24, 9]⟩, 94, none⟩,
   mv 16 20 94,
   ext 21 16 0 3,
   ext 22 16 1 4,
   asg 8 21 3,
   asg 9 22 4]
def r61_6 : List VOp :=
  [mv 23 9 4,
   mv 24 23 4,
   ⟨some 25, .move (.tmp 8), 3, some (24, true)⟩,
   ⟨some 26, .load 22 (.tmp 5), 22, some (24, true)⟩,
   ⟨some 27, .call ⟨.builtin .len, #[.tmp 26], #[22]⟩, 3, some (24, true)⟩,
   ⟨some 28, .binOp .lss 3 (.tmp 25) (.tmp 27) 3, 4, some (24, true)⟩,
   ⟨some 29, .pick (.tmp 24) (.tmp 28) (.const (.bool false)), 4, none⟩,
   mv 30 29 4,
   ⟨some 31, .load 22 (.tmp 5), 22, some (30, true)⟩,
   ⟨some 32, .move (.tmp 8), 3, some (30, true)⟩,
   ⟨some 33, .indexAddr 22 (.tmp 31) (.tmp 32), 0, some (30, true)⟩,
   ⟨some 34, .load 9 (.tmp 33), 9, some (30, true)⟩,
   ⟨some 35, .fieldAddr 39 (.tmp 3) 2, 0, some (30, true)⟩,
   ⟨some 36, .load 9 (.tmp 35), 9, some (30, true)⟩,
   ⟨some 37, .binOp .eql 9 (.tmp 34) (.tmp 36) 9, 4, some (30, true)⟩,
   ⟨some 38, .pick (.tmp 30) (.tmp 37) (.const (.bool false)), 4, none⟩,
   asg 6 38 4]
def r61_7 : List VOp :=
  [⟨some 40, .binOp .eql 36 (.tmp 12) (.const (.int .i64 3)) 36, 4, none⟩,
   asg 39 40 4]
def r61_8 : List VOp :=
  [fad 41 39 3 3,
   lda 42 37 41,
   lda 43 135 7,
   ⟨some 44, .call ⟨.value (.func 96), #[.tmp 42, .tmp 43], #[37, 135]⟩, 4, none⟩,
   ⟨some 45, .unOp .not 4 (.tmp 44), 4, none⟩,
   asg 6 45 4]
def r61_9 : List VOp :=
  [⟨some 47, .binOp .eql 36 (.tmp 12) (.const (.int .i64 4)) 36, 4, none⟩,
   asg 46 47 4]
def r61_10 : List VOp :=
  [fad 48 39 3 3,
   lda 49 37 48,
   ⟨some 50, .makeFunc (Fn.func 97) #[] #[(.tmp 7)], 135, none⟩,
   ⟨some 51, .call ⟨.value (.func 96), #[.tmp 49, .tmp 50], #[37, 135]⟩, 4, none⟩,
   ⟨some 52, .unOp .not 4 (.tmp 51), 4, none⟩,
   asg 6 52 4]
def r61_11 : List VOp :=
  [⟨some 54, .binOp .eql 36 (.tmp 12) (.const (.int .i64 5)) 36, 4, none⟩,
   asg 53 54 4]
def r61_12 : List VOp :=
  [fad 55 39 3 3,
   lda 56 37 55,
   lda 57 135 7,
   ⟨some 58, .call ⟨.value (.func 96), #[.tmp 56, .tmp 57], #[37, 135]⟩, 4, none⟩,
   asg 6 58 4]
def r61_13 : List VOp :=
  [⟨some 6, .assign (.const (.bool true)), 4, none⟩]
def B61 : VC :=
  (.seq (.region r61_0) (.seq (.region r61_1) (.seq (.seq (.region r61_2) (.block 0 (.seq (.seq (.region r61_3) (.cond (.tmp 13) .skip (.region r61_4))) (.cond (.tmp 13) (.seq (.region r61_5) (.seq (.draw r61_6 4) .ret)) (.seq (.region r61_7) (.cond (.tmp 39) (.seq (.region r61_8) .ret) (.seq (.region r61_9) (.cond (.tmp 46) (.seq (.region r61_10) .ret) (.seq (.region r61_11) (.cond (.tmp 53) (.seq (.region r61_12) .ret) .skip)))))))))) (.seq (.region r61_13) .ret))))
theorem code61 : ∃ c, Try.f61.body = some c ∧ abs Try.f61.ntmps c = B61 := ⟨_, rfl, by kernel_rfl⟩
theorem hb61 : HasBody Try.prog 61 := hasBody_of Try.func61 (by kernel_rfl)
theorem enter61 (x0 x1 x2 : Value) : Ent 61 B61 #[(.tmp 6)] [x0, x1, x2] := ent code61 hb61 Try.func61 rfl rfl
@[push_cast] def vr61_0 := vR r61_0.eq_1
@[push_cast] def vr61_1 := vR r61_1.eq_1
@[push_cast] def vr61_2 := vR r61_2.eq_1
@[push_cast] def vr61_3 := vR r61_3.eq_1
@[push_cast] def vr61_4 := vR r61_4.eq_1
@[push_cast] def vr61_5 := vR r61_5.eq_1
@[push_cast] theorem vr61_6 : vc Try.prog (.draw r61_6 4) Q ds σ w = drawn Try.prog [(⟨some 23, .move (.tmp 9), 4, none⟩, [9]), (⟨some 24, .move (.tmp 23), 4, none⟩, [23]), (⟨some 25, .move (.tmp 8), 3, some (24, true)⟩, [8, 24]), (⟨some 26, .load 22 (.tmp 5), 22, some (24, true)⟩, [5, 24]), (⟨some 27, .call ⟨.builtin .len, #[.tmp 26], #[22]⟩, 3, some (24, true)⟩, [26, 24]), (⟨some 28, .binOp .lss 3 (.tmp 25) (.tmp 27) 3, 4, some (24, true)⟩, [25, 27, 24]), (⟨some 29, .pick (.tmp 24) (.tmp 28) (.const (.bool false)), 4, none⟩, [24, 28]), (⟨some 30, .move (.tmp 29), 4, none⟩, [29]), (⟨some 31, .load 22 (.tmp 5), 22, some (30, true)⟩, [5, 30]), (⟨some 32, .move (.tmp 8), 3, some (30, true)⟩, [8, 30]), (⟨some 33, .indexAddr 22 (.tmp 31) (.tmp 32), 0, some (30, true)⟩, [31, 32, 30]), (⟨some 34, .load 9 (.tmp 33), 9, some (30, true)⟩, [33, 30]), (⟨some 35, .fieldAddr 39 (.tmp 3) 2, 0, some (30, true)⟩, [3, 30]), (⟨some 36, .load 9 (.tmp 35), 9, some (30, true)⟩, [35, 30]), (⟨some 37, .binOp .eql 9 (.tmp 34) (.tmp 36) 9, 4, some (30, true)⟩, [34, 36, 30]), (⟨some 38, .pick (.tmp 30) (.tmp 37) (.const (.bool false)), 4, none⟩, [30, 37]), (⟨some 6, .assign (.tmp 38), 4, none⟩, [38])] 4 (Q .normal ds) σ w := mk_eq rfl
@[push_cast] def vr61_7 := vR r61_7.eq_1
@[push_cast] def vr61_8 := vR r61_8.eq_1
@[push_cast] def vr61_9 := vR r61_9.eq_1
@[push_cast] def vr61_10 := vR r61_10.eq_1
@[push_cast] def vr61_11 := vR r61_11.eq_1
@[push_cast] def vr61_12 := vR r61_12.eq_1
@[push_cast] def vr61_13 := vR r61_13.eq_1
/-! 62 columbary/typer.Bucket (params #[42, 3], results #[(.tmp 4)], 20 slots) -/
def r62_0 : List VOp :=
  [⟨some 2, .box 42 (.tmp 0), 0, none⟩,
   ⟨some 4, .assign (.const (.int .i64 0)), 3, none⟩]
def r62_1 : List VOp :=
  [fad 7 42 2 3,
   lda 8 3 7,
   ⟨some 9, .binOp .eql 3 (.tmp 8) (.const (.int .i64 0)) 3, 4, none⟩]
def r62_2 : List VOp :=
  [fad 10 42 2 1,
   lda 11 3 10,
   asg 4 11 3]
def r62_3 : List VOp :=
  [mv 13 1 3,
   fad 14 42 2 3,
   lda 15 3 14,
   ⟨some 16, .call ⟨.value (.func 98), #[.tmp 13, .tmp 15], #[3, 3]⟩, 137, none⟩,
   mv 12 16 137,
   ext 17 12 0 3,
   ext 18 12 1 53,
   asg 5 17 3,
   asg 6 18 53]
def r62_4 : List VOp :=
  [mv 19 5 3,
   asg 4 19 3]
def B62 : VC :=
  (.seq (.region r62_0) (.seq (.seq (.region r62_1) (.cond (.tmp 9) (.seq (.region r62_2) .ret) .skip)) (.seq (.region r62_3) (.seq (.region r62_4) .ret))))
theorem code62 : ∃ c, Try.f62.body = some c ∧ abs Try.f62.ntmps c = B62 := ⟨_, rfl, by kernel_rfl⟩
theorem hb62 : HasBody Try.prog 62 := hasBody_of Try.func62 (by kernel_rfl)
theorem enter62 (x0 x1 : Value) : Ent 62 B62 #[(.tmp 4)] [x0, x1] := ent code62 hb62 Try.func62 rfl rfl
@[push_cast] def vr62_0 := vR r62_0.eq_1
@[push_cast] def vr62_1 := vR r62_1.eq_1
@[push_cast] def vr62_2 := vR r62_2.eq_1
@[push_cast] def vr62_3 := vR r62_3.eq_1
@[push_cast] def vr62_4 := vR r62_4.eq_1
/-! 64 columbary/group.stays (params #[24, 42, 72], results #[(.tmp 6)], 12 slots) -/
def r64_0 : List VOp :=
  [⟨some 3, .box 24 (.tmp 0), 0, none⟩,
   ⟨some 4, .box 42 (.tmp 1), 0, none⟩,
   ⟨some 5, .box 72 (.tmp 2), 0, none⟩,
   ⟨some 6, .assign (.const (.bool false)), 4, none⟩]
def r64_1 : List VOp :=
  [fad 7 42 4 6,
   lda 8 40 7,
   ⟨some 9, .makeFunc (Fn.func 104) #[] #[(.tmp 3), (.tmp 5)], 147, none⟩,
   ⟨some 10, .call ⟨.value (.func 103), #[.tmp 8, .tmp 9], #[40, 147]⟩, 4, none⟩,
   ⟨some 11, .unOp .not 4 (.tmp 10), 4, none⟩,
   asg 6 11 4]
def B64 : VC :=
  (.seq (.region r64_0) (.seq (.region r64_1) .ret))
theorem code64 : ∃ c, Try.f64.body = some c ∧ abs Try.f64.ntmps c = B64 := ⟨_, rfl, by kernel_rfl⟩
theorem hb64 : HasBody Try.prog 64 := hasBody_of Try.func64 (by kernel_rfl)
theorem enter64 (x0 x1 x2 : Value) : Ent 64 B64 #[(.tmp 6)] [x0, x1, x2] := ent code64 hb64 Try.func64 rfl rfl
@[push_cast] def vr64_0 := vR r64_0.eq_1
@[push_cast] def vr64_1 := vR r64_1.eq_1
/-! 65 columbary/group.term (params #[24, 63, 72], results #[(.tmp 6)], 23 slots) -/
def r65_0 : List VOp :=
  [⟨some 3, .box 24 (.tmp 0), 0, none⟩,
   ⟨some 4, .box 63 (.tmp 1), 0, none⟩,
   ⟨some 5, .box 72 (.tmp 2), 0, none⟩,
   ⟨some 6, .assign (.const (.int .i64 0)), 3, none⟩]
def r65_1 : List VOp :=
  [lda 10 24 3,
   fad 11 63 4 1,
   lda 12 9 11,
   ⟨some 13, .call ⟨.value (.func 105), #[.tmp 10, .tmp 12], #[24, 9]⟩, 94, none⟩,
   mv 9 13 94,
   ext 14 9 0 3,
   ext 15 9 1 4,
   asg 7 14 3,
   asg 8 15 4]
def r65_2 : List VOp :=
  [⟨some 16, .call ⟨.value (.func 106), #[], #[]⟩, 149, none⟩,
   fad 17 63 4 0,
   lda 18 61 17,
   ⟨some 19, .index 149 (.tmp 16) (.tmp 18), 148, none⟩,
   lda 20 72 5,
   mv 21 7 3,
   ⟨some 22, .call ⟨.value (.tmp 19), #[.tmp 20, .tmp 21], #[72, 3]⟩, 3, none⟩,
   asg 6 22 3]
def B65 : VC :=
  (.seq (.region r65_0) (.seq (.region r65_1) (.seq (.draw r65_2 3) .ret)))
theorem code65 : ∃ c, Try.f65.body = some c ∧ abs Try.f65.ntmps c = B65 := ⟨_, rfl, by kernel_rfl⟩
theorem hb65 : HasBody Try.prog 65 := hasBody_of Try.func65 (by kernel_rfl)
theorem enter65 (x0 x1 x2 : Value) : Ent 65 B65 #[(.tmp 6)] [x0, x1, x2] := ent code65 hb65 Try.func65 rfl rfl
@[push_cast] def vr65_0 := vR r65_0.eq_1
@[push_cast] def vr65_1 := vR r65_1.eq_1
@[push_cast] theorem vr65_2 : vc Try.prog (.draw r65_2 3) Q ds σ w = drawn Try.prog [(⟨some 16, .call ⟨.value (.func 106), #[], #[]⟩, 149, none⟩, []), (⟨some 17, .fieldAddr 63 (.tmp 4) 0, 0, none⟩, [4]), (⟨some 18, .load 61 (.tmp 17), 61, none⟩, [17]), (⟨some 19, .index 149 (.tmp 16) (.tmp 18), 148, none⟩, [16, 18]), (⟨some 20, .load 72 (.tmp 5), 72, none⟩, [5]), (⟨some 21, .move (.tmp 7), 3, none⟩, [7]), (⟨some 22, .call ⟨.value (.tmp 19), #[.tmp 20, .tmp 21], #[72, 3]⟩, 3, none⟩, [19, 20, 21]), (⟨some 6, .assign (.tmp 22), 3, none⟩, [22])] 3 (Q .normal ds) σ w := mk_eq rfl
/-! 67 columbary/group.Finish$1 (params #[113, 113], results #[(.tmp 5)], 27 slots) -/
def r67_0 : List VOp :=
  [⟨some 3, .box 113 (.tmp 0), 0, none⟩,
   ⟨some 4, .box 113 (.tmp 1), 0, none⟩,
   ⟨some 5, .assign (.const (.int .i64 0)), 3, none⟩]
def r67_1 : List VOp :=
  [lda 7 3 2,
   ⟨some 8, .binOp .lss 3 (.tmp 7) (.const (.int .i64 0)) 3, 4, none⟩]
def r67_2 : List VOp :=
  [lda 9 113 4,
   lda 10 113 3,
   ⟨none, .store 113 (.tmp 3) (.tmp 9), 0, none⟩,
   ⟨none, .store 113 (.tmp 4) (.tmp 10), 0, none⟩]
def r67_3 : List VOp :=
  [lda 11 3 2,
   lda 12 3 2,
   ⟨some 13, .unOp .neg 3 (.tmp 12), 3, none⟩,
   ⟨some 14, .call ⟨.builtin .max, #[.tmp 11, .tmp 13], #[3, 3]⟩, 3, none⟩,
   ⟨some 15, .binOp .sub 3 (.tmp 14) (.const (.int .i64 1)) 3, 3, none⟩,
   asg 6 15 3]
def r67_4 : List VOp :=
  [fad 16 113 3 2,
   lda 17 29 16,
   mv 18 6 3,
   iad 19 29 17 18,
   lda 20 3 19,
   fad 21 113 4 2,
   lda 22 29 21,
   mv 23 6 3,
   iad 24 29 22 23,
   lda 25 3 24,
   ⟨some 26, .call ⟨.value (.func 51), #[.tmp 20, .tmp 25], #[3, 3]⟩, 3, none⟩,
   asg 5 26 3]
def B67 : VC :=
  (.seq (.region r67_0) (.seq (.seq (.region r67_1) (.cond (.tmp 8) (.region r67_2) .skip)) (.seq (.region r67_3) (.seq (.draw r67_4 3) .ret))))
theorem code67 : ∃ c, Try.f67.body = some c ∧ abs Try.f67.ntmps c = B67 := ⟨_, rfl, by kernel_rfl⟩
theorem hb67 : HasBody Try.prog 67 := hasBody_of Try.func67 (by kernel_rfl)
theorem enter67 (x0 x1 x2 : Value) : Ent 67 B67 #[(.tmp 5)] [x0, x1, x2] := ent code67 hb67 Try.func67 rfl rfl
@[push_cast] def vr67_0 := vR r67_0.eq_1
@[push_cast] def vr67_1 := vR r67_1.eq_1
@[push_cast] def vr67_2 := vR r67_2.eq_1
@[push_cast] def vr67_3 := vR r67_3.eq_1
@[push_cast] theorem vr67_4 : vc Try.prog (.draw r67_4 3) Q ds σ w = drawn Try.prog [(⟨some 16, .fieldAddr 113 (.tmp 3) 2, 0, none⟩, [3]), (⟨some 17, .load 29 (.tmp 16), 29, none⟩, [16]), (⟨some 18, .move (.tmp 6), 3, none⟩, [6]), (⟨some 19, .indexAddr 29 (.tmp 17) (.tmp 18), 0, none⟩, [17, 18]), (⟨some 20, .load 3 (.tmp 19), 3, none⟩, [19]), (⟨some 21, .fieldAddr 113 (.tmp 4) 2, 0, none⟩, [4]), (⟨some 22, .load 29 (.tmp 21), 29, none⟩, [21]), (⟨some 23, .move (.tmp 6), 3, none⟩, [6]), (⟨some 24, .indexAddr 29 (.tmp 22) (.tmp 23), 0, none⟩, [22, 23]), (⟨some 25, .load 3 (.tmp 24), 3, none⟩, [24]), (⟨some 26, .call ⟨.value (.func 51), #[.tmp 20, .tmp 25], #[3, 3]⟩, 3, none⟩, [20, 25]), (⟨some 5, .assign (.tmp 26), 3, none⟩, [26])] 3 (Q .normal ds) σ w := mk_eq rfl
/-! 68 columbary/columbaryref04.Ints (params #[29, 29], results #[(.tmp 4)], 26 slots) -/
def W68_0 : List Nat := [4, 5, 11, 12, 13, 14, 15, 16, 17, 18, 19, 20, 21, 22, 23, 24, 25]
@[push_cast] theorem W68_0_def : W68_0 = [4, 5, 11, 12, 13, 14, 15, 16, 17, 18, 19, 20, 21, 22, 23, 24, 25] := mk_eq rfl
def r68_0 : List VOp :=
  [⟨some 4, .assign (.const (.bool false)), 4, none⟩]
def r68_1 : List VOp :=
  [mv 6 0 29,
   ⟨some 7, .call ⟨.builtin .len, #[.tmp 6], #[29]⟩, 3, none⟩,
   mv 8 1 29,
   ⟨some 9, .call ⟨.builtin .len, #[.tmp 8], #[29]⟩, 3, none⟩,
   ⟨some 10, .binOp .neq 3 (.tmp 7) (.tmp 9) 3, 4, none⟩]
def r68_2 : List VOp :=
  [⟨some 4, .assign (.const (.bool false)), 4, none⟩]
def r68_3 : List VOp :=
  [⟨some 5, .assign (.const (.int .i64 0)), 3, none⟩]
def r68_4 : List VOp :=
  [mv 11 5 3,
   mv 12 0 29,
   ⟨some 13, .call ⟨.builtin .len, #[.tmp 12], #[29]⟩, 3, none⟩,
   ⟨some 14, .binOp .lss 3 (.tmp 11) (.tmp 13) 3, 4, none⟩]
def r68_6 : List VOp :=
  [mv 17 0 29,
   mv 18 5 3,
   iad 19 29 17 18,
   lda 20 3 19,
   mv 21 1 29,
   mv 22 5 3,
   iad 23 29 21 22,
   lda 24 3 23,
   ⟨some 25, .binOp .neq 3 (.tmp 20) (.tmp 24) 3, 4, none⟩]
def r68_7 : List VOp :=
  [⟨some 4, .assign (.const (.bool false)), 4, none⟩]
def r68_5 : List VOp :=
  [mv 15 5 3,
   ⟨some 16, .binOp .add 3 (.tmp 15) (.const (.int .i64 1)) 3, 3, none⟩,
   asg 5 16 3]
def r68_8 : List VOp :=
  [⟨some 4, .assign (.const (.bool true)), 4, none⟩]
def B68 : VC :=
  (.seq (.region r68_0) (.seq (.seq (.region r68_1) (.cond (.tmp 10) (.seq (.region r68_2) .ret) .skip)) (.seq (.seq (.region r68_3) (.block 0 (.loop (.seq (.seq (.region r68_4) (.cond (.tmp 14) .skip (.exit 0))) (.seq (.block 1 (.seq (.draw r68_6 2) (.cond (.tmp 25) (.seq (.region r68_7) .ret) .skip))) (.region r68_5)))))) (.seq (.region r68_8) .ret))))
theorem code68 : ∃ c, Try.f68.body = some c ∧ abs Try.f68.ntmps c = B68 := ⟨_, rfl, by kernel_rfl⟩
theorem hb68 : HasBody Try.prog 68 := hasBody_of Try.func68 (by kernel_rfl)
theorem enter68 (x0 x1 : Value) : Ent 68 B68 #[(.tmp 4)] [x0, x1] := ent code68 hb68 Try.func68 rfl rfl
@[push_cast] def vr68_0 := vR r68_0.eq_1
@[push_cast] def vr68_1 := vR r68_1.eq_1
@[push_cast] def vr68_2 := vR r68_2.eq_1
@[push_cast] def vr68_3 := vR r68_3.eq_1
@[push_cast] def vr68_4 := vR r68_4.eq_1
@[push_cast] theorem vr68_6 : vc Try.prog (.draw r68_6 2) Q ds σ w = drawn Try.prog [(⟨some 17, .move (.tmp 0), 29, none⟩, [0]), (⟨some 18, .move (.tmp 5), 3, none⟩, [5]), (⟨some 19, .indexAddr 29 (.tmp 17) (.tmp 18), 0, none⟩, [17, 18]), (⟨some 20, .load 3 (.tmp 19), 3, none⟩, [19]), (⟨some 21, .move (.tmp 1), 29, none⟩, [1]), (⟨some 22, .move (.tmp 5), 3, none⟩, [5]), (⟨some 23, .indexAddr 29 (.tmp 21) (.tmp 22), 0, none⟩, [21, 22]), (⟨some 24, .load 3 (.tmp 23), 3, none⟩, [23]), (⟨some 25, .binOp .neq 3 (.tmp 20) (.tmp 24) 3, 4, none⟩, [20, 24])] 2 (Q .normal ds) σ w := mk_eq rfl
@[push_cast] def vr68_7 := vR r68_7.eq_1
@[push_cast] def vr68_5 := vR r68_5.eq_1
@[push_cast] def vr68_8 := vR r68_8.eq_1
/-! 94 columbary/schema.find (params #[22, 9], results #[(.tmp 4), (.tmp 5)], 14 slots) -/
def r94_0 : List VOp :=
  [⟨some 4, .assign (.const (.int .i64 0)), 3, none⟩,
   ⟨some 5, .assign (.const (.bool false)), 4, none⟩]
def r94_1 : List VOp :=
  [mv 7 0 22,
   mv 8 1 9,
   ⟨some 9, .call ⟨.value (.func 81), #[.tmp 7, .tmp 8], #[22, 9]⟩, 3, none⟩,
   asg 6 9 3]
def r94_2 : List VOp :=
  [mv 10 6 3,
   ⟨some 11, .call ⟨.builtin .max, #[(.tmp 10), (.const (.int .i64 0))], #[3, 3]⟩, 3, none⟩,
   mv 12 6 3,
   ⟨some 13, .binOp .geq 3 (.tmp 12) (.const (.int .i64 0)) 3, 4, none⟩,
   asg 4 11 3,
   asg 5 13 4]
def B94 : VC :=
  (.seq (.region r94_0) (.seq (.region r94_1) (.seq (.region r94_2) .ret)))
theorem code94 : ∃ c, Try.f94.body = some c ∧ abs Try.f94.ntmps c = B94 := ⟨_, rfl, by kernel_rfl⟩
theorem hb94 : HasBody Try.prog 94 := hasBody_of Try.func94 (by kernel_rfl)
theorem enter94 (x0 x1 : Value) : Ent 94 B94 #[(.tmp 4), (.tmp 5)] [x0, x1] := ent code94 hb94 Try.func94 rfl rfl
@[push_cast] def vr94_0 := vR r94_0.eq_1
@[push_cast] def vr94_1 := vR r94_1.eq_1
@[push_cast] def vr94_2 := vR r94_2.eq_1
/-! 95 columbary/filter.Takes$1 (params #[39], results #[(.tmp 4)], 9 slots) -/
def r95_0 : List VOp :=
  [⟨some 3, .box 39 (.tmp 0), 0, none⟩,
   ⟨some 4, .assign (.const (.bool false)), 4, none⟩]
def r95_1 : List VOp :=
  [lda 5 39 3,
   lda 6 24 1,
   lda 7 22 2,
   ⟨some 8, .call ⟨.value (.func 61), #[.tmp 5, .tmp 6, .tmp 7], #[39, 24, 22]⟩, 4, none⟩,
   asg 4 8 4]
def B95 : VC :=
  (.seq (.region r95_0) (.seq (.region r95_1) .ret))
theorem code95 : ∃ c, Try.f95.body = some c ∧ abs Try.f95.ntmps c = B95 := ⟨_, rfl, by kernel_rfl⟩
theorem hb95 : HasBody Try.prog 95 := hasBody_of Try.func95 (by kernel_rfl)
theorem enter95 (x0 x1 x2 : Value) : Ent 95 B95 #[(.tmp 4)] [x0, x1, x2] := ent code95 hb95 Try.func95 rfl rfl
@[push_cast] def vr95_0 := vR r95_0.eq_1
@[push_cast] def vr95_1 := vR r95_1.eq_1
/-! 96 slices.ContainsFunc[[]columbary/api.Filter,columbary/api.Filter] (params #[37, 135], results #[(.tmp 4)], 9 slots) -/
def r96_0 : List VOp :=
  [⟨some 4, .assign (.const (.bool false)), 4, none⟩]
def r96_1 : List VOp :=
  [mv 5 0 37,
   mv 6 1 135,
   ⟨some 7, .call ⟨.value (.func 129), #[.tmp 5, .tmp 6], #[37, 135]⟩, 3, none⟩,
   ⟨some 8, .binOp .geq 3 (.tmp 7) (.const (.int .i64 0)) 3, 4, none⟩,
   asg 4 8 4]
def B96 : VC :=
  (.seq (.region r96_0) (.seq (.region r96_1) .ret))
theorem code96 : ∃ c, Try.f96.body = some c ∧ abs Try.f96.ntmps c = B96 := ⟨_, rfl, by kernel_rfl⟩
theorem hb96 : HasBody Try.prog 96 := hasBody_of Try.func96 (by kernel_rfl)
theorem enter96 (x0 x1 : Value) : Ent 96 B96 #[(.tmp 4)] [x0, x1] := ent code96 hb96 Try.func96 rfl rfl
@[push_cast] def vr96_0 := vR r96_0.eq_1
@[push_cast] def vr96_1 := vR r96_1.eq_1
/-! 97 columbary/filter.Takes$2 (params #[39], results #[(.tmp 3)], 8 slots) -/
def r97_0 : List VOp :=
  [⟨some 2, .box 39 (.tmp 0), 0, none⟩,
   ⟨some 3, .assign (.const (.bool false)), 4, none⟩]
def r97_1 : List VOp :=
  [lda 4 135 1,
   lda 5 39 2,
   ⟨some 6, .call ⟨.value (.tmp 4), #[.tmp 5], #[39]⟩, 4, none⟩,
   ⟨some 7, .unOp .not 4 (.tmp 6), 4, none⟩,
   asg 3 7 4]
def B97 : VC :=
  (.seq (.region r97_0) (.seq (.region r97_1) .ret))
theorem code97 : ∃ c, Try.f97.body = some c ∧ abs Try.f97.ntmps c = B97 := ⟨_, rfl, by kernel_rfl⟩
theorem hb97 : HasBody Try.prog 97 := hasBody_of Try.func97 (by kernel_rfl)
theorem enter97 (x0 x1 : Value) : Ent 97 B97 #[(.tmp 3)] [x0, x1] := ent code97 hb97 Try.func97 rfl rfl
@[push_cast] def vr97_0 := vR r97_0.eq_1
@[push_cast] def vr97_1 := vR r97_1.eq_1
/-! 103 slices.ContainsFunc[[]columbary/api.Having,columbary/api.Having] (params #[40, 147], results #[(.tmp 4)], 9 slots) -/
def r103_0 : List VOp :=
  [⟨some 4, .assign (.const (.bool false)), 4, none⟩]
def r103_1 : List VOp :=
  [mv 5 0 40,
   mv 6 1 147,
   ⟨some 7, .call ⟨.value (.func 137), #[.tmp 5, .tmp 6], #[40, 147]⟩, 3, none⟩,
   ⟨some 8, .binOp .geq 3 (.tmp 7) (.const (.int .i64 0)) 3, 4, none⟩,
   asg 4 8 4]
def B103 : VC :=
  (.seq (.region r103_0) (.seq (.region r103_1) .ret))
theorem code103 : ∃ c, Try.f103.body = some c ∧ abs Try.f103.ntmps c = B103 := ⟨_, rfl, by kernel_rfl⟩
theorem hb103 : HasBody Try.prog 103 := hasBody_of Try.func103 (by kernel_rfl)
theorem enter103 (x0 x1 : Value) : Ent 103 B103 #[(.tmp 4)] [x0, x1] := ent code103 hb103 Try.func103 rfl rfl
@[push_cast] def vr103_0 := vR r103_0.eq_1
@[push_cast] def vr103_1 := vR r103_1.eq_1
/-! 104 columbary/group.stays$1 (params #[146], results #[(.tmp 4)], 16 slots) -/
def r104_0 : List VOp :=
  [⟨some 3, .box 146 (.tmp 0), 0, none⟩,
   ⟨some 4, .assign (.const (.bool false)), 4, none⟩]
def r104_1 : List VOp :=
  [lda 5 24 1,
   fad 6 146 3 0,
   lda 7 63 6,
   lda 8 72 2,
   ⟨some 9, .call ⟨.value (.func 65), #[.tmp 5, .tmp 7, .tmp 8], #[24, 63, 72]⟩, 3, none⟩,
   fad 10 146 3 2,
   lda 11 3 10,
   ⟨some 12, .call ⟨.value (.func 51), #[.tmp 9, .tmp 11], #[3, 3]⟩, 3, none⟩,
   fad 13 146 3 1,
   lda 14 3 13,
   ⟨some 15, .binOp .neq 3 (.tmp 12) (.tmp 14) 3, 4, none⟩,
   asg 4 15 4]
def B104 : VC :=
  (.seq (.region r104_0) (.seq (.draw r104_1 3) .ret))
theorem code104 : ∃ c, Try.f104.body = some c ∧ abs Try.f104.ntmps c = B104 := ⟨_, rfl, by kernel_rfl⟩
theorem hb104 : HasBody Try.prog 104 := hasBody_of Try.func104 (by kernel_rfl)
theorem enter104 (x0 x1 x2 : Value) : Ent 104 B104 #[(.tmp 4)] [x0, x1, x2] := ent code104 hb104 Try.func104 rfl rfl
@[push_cast] def vr104_0 := vR r104_0.eq_1
@[push_cast] theorem vr104_1 : vc Try.prog (.draw r104_1 3) Q ds σ w = drawn Try.prog [(⟨some 5, .load 24 (.tmp 1), 24, none⟩, [1]), (⟨some 6, .fieldAddr 146 (.tmp 3) 0, 0, none⟩, [3]), (⟨some 7, .load 63 (.tmp 6), 63, none⟩, [6]), (⟨some 8, .load 72 (.tmp 2), 72, none⟩, [2]), (⟨some 9, .call ⟨.value (.func 65), #[.tmp 5, .tmp 7, .tmp 8], #[24, 63, 72]⟩, 3, none⟩, [5, 7, 8]), (⟨some 10, .fieldAddr 146 (.tmp 3) 2, 0, none⟩, [3]), (⟨some 11, .load 3 (.tmp 10), 3, none⟩, [10]), (⟨some 12, .call ⟨.value (.func 51), #[.tmp 9, .tmp 11], #[3, 3]⟩, 3, none⟩, [9, 11]), (⟨some 13, .fieldAddr 146 (.tmp 3) 1, 0, none⟩, [3]), (⟨some 14, .load 3 (.tmp 13), 3, none⟩, [13]), (⟨some 15, .binOp .neq 3 (.tmp 12) (.tmp 14) 3, 4, none⟩, [12, 14]), (⟨some 4, .assign (.tmp 15), 4, none⟩, [15])] 3 (Q .normal ds) σ w := mk_eq rfl
/-! 105 columbary/schema.Metric (params #[24, 9], results #[(.tmp 4), (.tmp 5)], 12 slots) -/
def r105_0 : List VOp :=
  [⟨some 2, .box 24 (.tmp 0), 0, none⟩,
   ⟨some 4, .assign (.const (.int .i64 0)), 3, none⟩,
   ⟨some 5, .assign (.const (.bool false)), 4, none⟩]
def r105_1 : List VOp :=
  [fad 6 24 2 1,
   lda 7 22 6,
   mv 8 1 9,
   ⟨some 9, .call ⟨.value (.func 94), #[.tmp 7, .tmp 8], #[22, 9]⟩, 94, none⟩,
   ext 10 9 0 3,
   ext 11 9 1 4,
   asg 4 10 3,
   asg 5 11 4]
def B105 : VC :=
  (.seq (.region r105_0) (.seq (.region r105_1) .ret))
theorem code105 : ∃ c, Try.f105.body = some c ∧ abs Try.f105.ntmps c = B105 := ⟨_, rfl, by kernel_rfl⟩
theorem hb105 : HasBody Try.prog 105 := hasBody_of Try.func105 (by kernel_rfl)
theorem enter105 (x0 x1 : Value) : Ent 105 B105 #[(.tmp 4), (.tmp 5)] [x0, x1] := ent code105 hb105 Try.func105 rfl rfl
@[push_cast] def vr105_0 := vR r105_0.eq_1
@[push_cast] def vr105_1 := vR r105_1.eq_1
/-! 106 columbary/group.tells (params #[], results #[(.cell 0 149)], 2 slots) -/
def r106_0 : List VOp :=
  [⟨some 0, .alloc 149, 0, none⟩]
def r106_1 : List VOp :=
  [⟨some 1, .build 149 #[(0, (.func 138)), (1, (.func 139)), (2, (.func 140)), (3, (.func 141))], 149, none⟩,
   ⟨none, .store 149 (.tmp 0) (.tmp 1), 0, none⟩]
def B106 : VC :=
  (.seq (.region r106_0) (.seq (.region r106_1) .ret))
theorem code106 : ∃ c, Try.f106.body = some c ∧ abs Try.f106.ntmps c = B106 := ⟨_, rfl, by kernel_rfl⟩
theorem hb106 : HasBody Try.prog 106 := hasBody_of Try.func106 (by kernel_rfl)
theorem enter106 : Ent 106 B106 #[(.cell 0 149)] [] := ent code106 hb106 Try.func106 rfl rfl
@[push_cast] def vr106_0 := vR r106_0.eq_1
@[push_cast] def vr106_1 := vR r106_1.eq_1
/-! 129 slices.IndexFunc[[]columbary/api.Filter,columbary/api.Filter] (params #[37, 135], results #[(.tmp 4)], 19 slots) -/
def W129_0 : List Nat := [4, 5, 8, 9, 10, 11, 12, 13, 14, 15, 16, 17, 18]
@[push_cast] theorem W129_0_def : W129_0 = [4, 5, 8, 9, 10, 11, 12, 13, 14, 15, 16, 17, 18] := mk_eq rfl
def r129_0 : List VOp :=
  [⟨some 4, .assign (.const (.int .i64 0)), 3, none⟩]
def r129_1 : List VOp :=
  [mv 6 0 37,
   ⟨some 7, .call ⟨.builtin .len, #[.tmp 6], #[37]⟩, 3, none⟩,
   ⟨some 8, .move (.const (.int .i64 0)), 3, none⟩]
def r129_2 : List VOp :=
  [⟨some 9, .binOp .lss 3 (.tmp 8) (.tmp 7) 3, 0, none⟩]
def r129_3 : List VOp :=
  [mv 10 8 3,
   asg 5 10 3]
def r129_4 : List VOp :=
  [mv 11 1 135,
   mv 12 0 37,
   mv 13 5 3,
   iad 14 37 12 13,
   lda 15 39 14,
   ⟨some 16, .call ⟨.value (.tmp 11), #[.tmp 15], #[39]⟩, 4, none⟩]
def r129_5 : List VOp :=
  [mv 17 5 3,
   asg 4 17 3]
def r129_6 : List VOp :=
  [⟨some 18, .binOp .add 3 (.tmp 8) (.const (.int .i64 1)) 3, 3, none⟩,
   mv 8 18 3]
def r129_7 : List VOp :=
  [⟨some 4, .assign (.const (.int .i64 (-1))), 3, none⟩]
def B129 : VC :=
  (.seq (.region r129_0) (.seq (.seq (.region r129_1) (.block 0 (.loop (.seq (.region r129_2) (.seq (.cond (.tmp 9) .skip (.exit 0)) (.seq (.block 1 (.seq (.region r129_3) (.seq (.region r129_4) (.cond (.tmp 16) (.seq (.region r129_5) .ret) .skip)))) (.region r129_6))))))) (.seq (.region r129_7) .ret)))
theorem code129 : ∃ c, Try.f129.body = some c ∧ abs Try.f129.ntmps c = B129 := ⟨_, rfl, by kernel_rfl⟩
theorem hb129 : HasBody Try.prog 129 := hasBody_of Try.func129 (by kernel_rfl)
theorem enter129 (x0 x1 : Value) : Ent 129 B129 #[(.tmp 4)] [x0, x1] := ent code129 hb129 Try.func129 rfl rfl
@[push_cast] def vr129_0 := vR r129_0.eq_1
@[push_cast] def vr129_1 := vR r129_1.eq_1
@[push_cast] def vr129_2 := vR r129_2.eq_1
@[push_cast] def vr129_3 := vR r129_3.eq_1
@[push_cast] def vr129_4 := vR r129_4.eq_1
@[push_cast] def vr129_5 := vR r129_5.eq_1
@[push_cast] def vr129_6 := vR r129_6.eq_1
@[push_cast] def vr129_7 := vR r129_7.eq_1
/-! 137 slices.IndexFunc[[]columbary/api.Having,columbary/api.Having] (params #[40, 147], results #[(.tmp 4)], 19 slots) -/
def W137_0 : List Nat := [4, 5, 8, 9, 10, 11, 12, 13, 14, 15, 16, 17, 18]
@[push_cast] theorem W137_0_def : W137_0 = [4, 5, 8, 9, 10, 11, 12, 13, 14, 15, 16, 17, 18] := mk_eq rfl
def r137_0 : List VOp :=
  [⟨some 4, .assign (.const (.int .i64 0)), 3, none⟩]
def r137_1 : List VOp :=
  [mv 6 0 40,
   ⟨some 7, .call ⟨.builtin .len, #[.tmp 6], #[40]⟩, 3, none⟩,
   ⟨some 8, .move (.const (.int .i64 0)), 3, none⟩]
def r137_2 : List VOp :=
  [⟨some 9, .binOp .lss 3 (.tmp 8) (.tmp 7) 3, 0, none⟩]
def r137_3 : List VOp :=
  [mv 10 8 3,
   asg 5 10 3]
def r137_4 : List VOp :=
  [mv 11 1 147,
   mv 12 0 40,
   mv 13 5 3,
   iad 14 40 12 13,
   lda 15 146 14,
   ⟨some 16, .call ⟨.value (.tmp 11), #[.tmp 15], #[146]⟩, 4, none⟩]
def r137_5 : List VOp :=
  [mv 17 5 3,
   asg 4 17 3]
def r137_6 : List VOp :=
  [⟨some 18, .binOp .add 3 (.tmp 8) (.const (.int .i64 1)) 3, 3, none⟩,
   mv 8 18 3]
def r137_7 : List VOp :=
  [⟨some 4, .assign (.const (.int .i64 (-1))), 3, none⟩]
def B137 : VC :=
  (.seq (.region r137_0) (.seq (.seq (.region r137_1) (.block 0 (.loop (.seq (.region r137_2) (.seq (.cond (.tmp 9) .skip (.exit 0)) (.seq (.block 1 (.seq (.region r137_3) (.seq (.region r137_4) (.cond (.tmp 16) (.seq (.region r137_5) .ret) .skip)))) (.region r137_6))))))) (.seq (.region r137_7) .ret)))
theorem code137 : ∃ c, Try.f137.body = some c ∧ abs Try.f137.ntmps c = B137 := ⟨_, rfl, by kernel_rfl⟩
theorem hb137 : HasBody Try.prog 137 := hasBody_of Try.func137 (by kernel_rfl)
theorem enter137 (x0 x1 : Value) : Ent 137 B137 #[(.tmp 4)] [x0, x1] := ent code137 hb137 Try.func137 rfl rfl
@[push_cast] def vr137_0 := vR r137_0.eq_1
@[push_cast] def vr137_1 := vR r137_1.eq_1
@[push_cast] def vr137_2 := vR r137_2.eq_1
@[push_cast] def vr137_3 := vR r137_3.eq_1
@[push_cast] def vr137_4 := vR r137_4.eq_1
@[push_cast] def vr137_5 := vR r137_5.eq_1
@[push_cast] def vr137_6 := vR r137_6.eq_1
@[push_cast] def vr137_7 := vR r137_7.eq_1
/-! 138 columbary/group.tells$1 (params #[72, 3], results #[(.tmp 4)], 7 slots) -/
def r138_0 : List VOp :=
  [⟨some 2, .box 72 (.tmp 0), 0, none⟩,
   ⟨some 4, .assign (.const (.int .i64 0)), 3, none⟩]
def r138_1 : List VOp :=
  [fad 5 72 2 2,
   lda 6 3 5,
   asg 4 6 3]
def B138 : VC :=
  (.seq (.region r138_0) (.seq (.region r138_1) .ret))
theorem code138 : ∃ c, Try.f138.body = some c ∧ abs Try.f138.ntmps c = B138 := ⟨_, rfl, by kernel_rfl⟩
theorem hb138 : HasBody Try.prog 138 := hasBody_of Try.func138 (by kernel_rfl)
theorem enter138 (x0 x1 : Value) : Ent 138 B138 #[(.tmp 4)] [x0, x1] := ent code138 hb138 Try.func138 rfl rfl
@[push_cast] def vr138_0 := vR r138_0.eq_1
@[push_cast] def vr138_1 := vR r138_1.eq_1
/-! 139 columbary/group.tells$2 (params #[72, 3], results #[(.tmp 4)], 11 slots) -/
def r139_0 : List VOp :=
  [⟨some 2, .box 72 (.tmp 0), 0, none⟩,
   ⟨some 4, .assign (.const (.int .i64 0)), 3, none⟩]
def r139_1 : List VOp :=
  [fad 5 72 2 3,
   lda 6 70 5,
   mv 7 1 3,
   iad 8 70 6 7,
   fad 9 111 8 0,
   lda 10 3 9,
   asg 4 10 3]
def B139 : VC :=
  (.seq (.region r139_0) (.seq (.region r139_1) .ret))
theorem code139 : ∃ c, Try.f139.body = some c ∧ abs Try.f139.ntmps c = B139 := ⟨_, rfl, by kernel_rfl⟩
theorem hb139 : HasBody Try.prog 139 := hasBody_of Try.func139 (by kernel_rfl)
theorem enter139 (x0 x1 : Value) : Ent 139 B139 #[(.tmp 4)] [x0, x1] := ent code139 hb139 Try.func139 rfl rfl
@[push_cast] def vr139_0 := vR r139_0.eq_1
@[push_cast] def vr139_1 := vR r139_1.eq_1
/-! 140 columbary/group.tells$3 (params #[72, 3], results #[(.tmp 4)], 11 slots) -/
def r140_0 : List VOp :=
  [⟨some 2, .box 72 (.tmp 0), 0, none⟩,
   ⟨some 4, .assign (.const (.int .i64 0)), 3, none⟩]
def r140_1 : List VOp :=
  [fad 5 72 2 3,
   lda 6 70 5,
   mv 7 1 3,
   iad 8 70 6 7,
   fad 9 111 8 1,
   lda 10 3 9,
   asg 4 10 3]
def B140 : VC :=
  (.seq (.region r140_0) (.seq (.region r140_1) .ret))
theorem code140 : ∃ c, Try.f140.body = some c ∧ abs Try.f140.ntmps c = B140 := ⟨_, rfl, by kernel_rfl⟩
theorem hb140 : HasBody Try.prog 140 := hasBody_of Try.func140 (by kernel_rfl)
theorem enter140 (x0 x1 : Value) : Ent 140 B140 #[(.tmp 4)] [x0, x1] := ent code140 hb140 Try.func140 rfl rfl
@[push_cast] def vr140_0 := vR r140_0.eq_1
@[push_cast] def vr140_1 := vR r140_1.eq_1
/-! 141 columbary/group.tells$4 (params #[72, 3], results #[(.tmp 4)], 11 slots) -/
def r141_0 : List VOp :=
  [⟨some 2, .box 72 (.tmp 0), 0, none⟩,
   ⟨some 4, .assign (.const (.int .i64 0)), 3, none⟩]
def r141_1 : List VOp :=
  [fad 5 72 2 3,
   lda 6 70 5,
   mv 7 1 3,
   iad 8 70 6 7,
   fad 9 111 8 2,
   lda 10 3 9,
   asg 4 10 3]
def B141 : VC :=
  (.seq (.region r141_0) (.seq (.region r141_1) .ret))
theorem code141 : ∃ c, Try.f141.body = some c ∧ abs Try.f141.ntmps c = B141 := ⟨_, rfl, by kernel_rfl⟩
theorem hb141 : HasBody Try.prog 141 := hasBody_of Try.func141 (by kernel_rfl)
theorem enter141 (x0 x1 : Value) : Ent 141 B141 #[(.tmp 4)] [x0, x1] := ent code141 hb141 Try.func141 rfl rfl
@[push_cast] def vr141_0 := vR r141_0.eq_1
@[push_cast] def vr141_1 := vR r141_1.eq_1
@[push_cast] theorem bsl22_1_CodesG {K : Value → World → Prop} {w : World} (x0 : ByteArray) : vBuildSlice Try.prog 22 1 #[(0, (.string x0))] K w = K (.slice (some ⟨w.heap.size, 0, none⟩) 1 1) (w.alloc (.cells #[(.string x0)] 9)) :=
  vBuildSlice_ok Try.underlying22 ti9 (by kernel_rfl) (by decide)
@[push_cast] theorem bsl29_1_CodesG {K : Value → World → Prop} {w : World} (x0 : Int) : vBuildSlice Try.prog 29 1 #[(0, (.int .i64 x0))] K w = K (.slice (some ⟨w.heap.size, 0, none⟩) 1 1) (w.alloc (.cells #[(.int .i64 x0)] 3)) :=
  vBuildSlice_ok Try.underlying29 ti3 (by kernel_rfl) (by decide)
@[push_cast] theorem bsl35_2_CodesG {K : Value → World → Prop} {w : World} (x00 x01 : Value) (x10 x11 : Value) : vBuildSlice Try.prog 35 2 #[(0, (.agg #[x00, x01])), (1, (.agg #[x10, x11]))] K w = K (.slice (some ⟨w.heap.size, 0, none⟩) 2 2) (w.alloc (.cells #[x00, x01, x10, x11] 63)) :=
  vBuildSlice_ok Try.underlying35 ti63 (by kernel_rfl) (by decide)
@[push_cast] theorem bsl65_1_CodesG {K : Value → World → Prop} {w : World} (x00 x01 x02 x03 : Value) : vBuildSlice Try.prog 65 1 #[(0, (.agg #[x00, x01, x02, x03]))] K w = K (.slice (some ⟨w.heap.size, 0, none⟩) 1 1) (w.alloc (.cells #[x00, x01, x02, x03] 72)) :=
  vBuildSlice_ok Try.underlying65 ti72 (by kernel_rfl) (by decide)
@[push_cast] theorem bsl65_3_CodesG {K : Value → World → Prop} {w : World} (x00 x01 x02 x03 : Value) (x10 x11 x12 x13 : Value) (x20 x21 x22 x23 : Value) : vBuildSlice Try.prog 65 3 #[(0, (.agg #[x00, x01, x02, x03])), (1, (.agg #[x10, x11, x12, x13])), (2, (.agg #[x20, x21, x22, x23]))] K w = K (.slice (some ⟨w.heap.size, 0, none⟩) 3 3) (w.alloc (.cells #[x00, x01, x02, x03, x10, x11, x12, x13, x20, x21, x22, x23] 72)) :=
  vBuildSlice_ok Try.underlying65 ti72 (by kernel_rfl) (by decide)
@[push_cast] theorem bsl70_1_CodesG {K : Value → World → Prop} {w : World} (x00 x01 x02 : Value) : vBuildSlice Try.prog 70 1 #[(0, (.agg #[x00, x01, x02]))] K w = K (.slice (some ⟨w.heap.size, 0, none⟩) 1 1) (w.alloc (.cells #[x00, x01, x02] 111)) :=
  vBuildSlice_ok Try.underlying70 ti111 (by kernel_rfl) (by decide)
@[push_cast] theorem bsl73_1_CodesG {K : Value → World → Prop} {w : World} (x00 x01 x02 : Value) : vBuildSlice Try.prog 73 1 #[(0, (.agg #[x00, x01, x02]))] K w = K (.slice (some ⟨w.heap.size, 0, none⟩) 1 1) (w.alloc (.cells #[x00, x01, x02] 113)) :=
  vBuildSlice_ok Try.underlying73 ti113 (by kernel_rfl) (by decide)
@[push_cast] theorem bld24_0_1_CodesG {K : Value → World → Prop} {w : World} (x0o : Option Addr) (x0n x0c : Nat) (x1o : Option Addr) (x1n x1c : Nat) : vBuild Try.prog 24 #[(0, (.slice x0o x0n x0c)), (1, (.slice x1o x1n x1c))] K w = K (.agg #[(.slice x0o x0n x0c), (.slice x1o x1n x1c)]) w :=
  vBuild_ok (by kernel_rfl)
@[push_cast] theorem bld42_0_2_4_7_CodesG {K : Value → World → Prop} {w : World} (x0o : Option Addr) (x0n x0c : Nat) (x2 : Int) (x4o : Option Addr) (x4n x4c : Nat) (x7 : Int) : vBuild Try.prog 42 #[(0, (.slice x0o x0n x0c)), (2, (.int .i64 x2)), (4, (.slice x4o x4n x4c)), (7, (.int .i64 x7))] K w = K (.agg #[(.slice x0o x0n x0c), (.int .i64 0), (.int .i64 x2), (.int .i64 0), (.slice x4o x4n x4c), (.int .i64 0), (.string ⟨#[]⟩), (.string ⟨#[]⟩), (.slice none 0 0), (.slice none 0 0), (.int .i64 x7), (.int .i64 0)]) w :=
  vBuild_ok (by kernel_rfl)
@[push_cast] theorem bld63__CodesG {K : Value → World → Prop} {w : World}  : vBuild Try.prog 63 #[] K w = K (.agg #[(.int .i64 0), (.string ⟨#[]⟩)]) w :=
  vBuild_ok (by kernel_rfl)
@[push_cast] theorem bld63_0_1_CodesG {K : Value → World → Prop} {w : World} (x0 : Int) (x1 : ByteArray) : vBuild Try.prog 63 #[(0, (.int .i64 x0)), (1, (.string x1))] K w = K (.agg #[(.int .i64 x0), (.string x1)]) w :=
  vBuild_ok (by kernel_rfl)
@[push_cast] theorem bld72_0_1_2_3_CodesG {K : Value → World → Prop} {w : World} (x0 : Int) (x1o : Option Addr) (x1n x1c : Nat) (x2 : Int) (x3o : Option Addr) (x3n x3c : Nat) : vBuild Try.prog 72 #[(0, (.int .i64 x0)), (1, (.slice x1o x1n x1c)), (2, (.int .i64 x2)), (3, (.slice x3o x3n x3c))] K w = K (.agg #[(.int .i64 x0), (.slice x1o x1n x1c), (.int .i64 x2), (.slice x3o x3n x3c)]) w :=
  vBuild_ok (by kernel_rfl)
@[push_cast] theorem bld72_0_2_3_CodesG {K : Value → World → Prop} {w : World} (x0 : Int) (x2 : Int) (x3o : Option Addr) (x3n x3c : Nat) : vBuild Try.prog 72 #[(0, (.int .i64 x0)), (2, (.int .i64 x2)), (3, (.slice x3o x3n x3c))] K w = K (.agg #[(.int .i64 x0), (.slice none 0 0), (.int .i64 x2), (.slice x3o x3n x3c)]) w :=
  vBuild_ok (by kernel_rfl)
@[push_cast] theorem bld111_0_1_2_CodesG {K : Value → World → Prop} {w : World} (x0 : Int) (x1 : Int) (x2 : Int) : vBuild Try.prog 111 #[(0, (.int .i64 x0)), (1, (.int .i64 x1)), (2, (.int .i64 x2))] K w = K (.agg #[(.int .i64 x0), (.int .i64 x1), (.int .i64 x2)]) w :=
  vBuild_ok (by kernel_rfl)
@[push_cast] theorem bld113_0_1_CodesG {K : Value → World → Prop} {w : World} (x0 : Int) (x1o : Option Addr) (x1n x1c : Nat) : vBuild Try.prog 113 #[(0, (.int .i64 x0)), (1, (.slice x1o x1n x1c))] K w = K (.agg #[(.int .i64 x0), (.slice x1o x1n x1c), (.slice none 0 0)]) w :=
  vBuild_ok (by kernel_rfl)
@[push_cast] theorem bld149_0_1_2_3_CodesG {K : Value → World → Prop} {w : World} (x0f : Go.Fn) (x0a x0b : Array Value) (x1f : Go.Fn) (x1a x1b : Array Value) (x2f : Go.Fn) (x2a x2b : Array Value) (x3f : Go.Fn) (x3a x3b : Array Value) : vBuild Try.prog 149 #[(0, (.func x0f x0a x0b)), (1, (.func x1f x1a x1b)), (2, (.func x2f x2a x2b)), (3, (.func x3f x3a x3b))] K w = K (.agg #[(.func x0f x0a x0b), (.func x1f x1a x1b), (.func x2f x2a x2b), (.func x3f x3a x3b)]) w :=
  vBuild_ok (by kernel_rfl)
end Go.Proofs.Ytnofalhkapmcnaa
end
section
set_option linter.unusedSimpArgs false
namespace Go.Proofs.Ytnofalhkapmcnaa
open Go.Vc Go.Key
set_option maxRecDepth 100000
theorem findexF_c (v : Value) (l : List FT) (g : FuncId) (lb : Array Value) (p : FT → Bool) (w : World) (h : RecS ftC 4 w v l) (hp : ∀ x ∈ l, Prd Try.prog w g lb (.agg (ftC x).toArray) (p x)) : FnC Try.prog 129 #[v, .func (.func g) #[] lb] w fun r w' => r = .int .i64 (idxI p l) ∧ Later w w' := by
  obtain ⟨o, c, rfl, g1, g2⟩ := h.slice
  refine enter129 _ _ ?_
  unfold B129
  repeat' (first | (simp (disch := omega) only [push_cast, ↓reduceIte, zA, zG, zB, zH, zI, zC, zJ, zK, zL, zD, zE, zF, zM, zN, zO, zP, zQ, reduceCtorEq]) | refine iX ?_ ?_ <;> intro _ | refine And.intro (by omega) ?_ | refine dq ?_)
  refine vc_loop W129_0 (fun i : Nat => [(8, .int .i64 (i : Int))]) (fun i w' => i ≤ l.length ∧ Later w w' ∧ (l.take i).any p = false) (fun i => l.length - i) 0 (by decide) ?_ ?_ ?_
  · simp (disch := omega) only [push_cast, ↓reduceIte, zA, zG, zB, zH, zI, zC, zJ, zK, zL, zD, zE, zF, zM, zN, zO, zP, zQ, reduceCtorEq]
    try rfl
  · exact ⟨Nat.zero_le _, Later.refl _, by simp⟩
  rintro i uu w1 ⟨hi, l1, hno⟩
  by_cases hil : i < l.length
  · have hd : decide ((i : Int) < (l.length : Int)) = true := decide_eq_true (by omega)
    obtain ⟨a, rfl, c0⟩ := RecS.at ftC_len (h.later l1) hil
    repeat' (first | (simp (disch := omega) only [push_cast, ↓reduceIte, zA, zG, zB, zH, zI, zC, zJ, zK, zL, zD, zE, zF, zM, zN, zO, zP, zQ, reduceCtorEq, hd, c0]) | refine iX ?_ ?_ <;> intro _ | refine And.intro (by omega) ?_ | refine dq ?_)
    refine (hp l[i] (List.getElem_mem hil) w1 l1).mono ?_
    rintro _ w2 ⟨rfl, l2⟩
    cases hx : p l[i] with
    | true =>
      rw [idxI_hit hil hx hno]
      repeat' (first | (simp (disch := omega) only [push_cast, ↓reduceIte, zA, zG, zB, zH, zI, zC, zJ, zK, zL, zD, zE, zF, zM, zN, zO, zP, zQ, reduceCtorEq]) | refine iX ?_ ?_ <;> intro _ | refine And.intro (by omega) ?_ | refine dq ?_)
      first | exact ⟨rfl, (l1.trans l2)⟩ | exact (l1.trans l2)
    | false =>
      repeat' (first | (simp (disch := omega) only [push_cast, ↓reduceIte, zA, zG, zB, zH, zI, zC, zJ, zK, zL, zD, zE, zF, zM, zN, zO, zP, zQ, reduceCtorEq]) | refine iX ?_ ?_ <;> intro _ | refine And.intro (by omega) ?_ | refine dq ?_)
      exact ⟨rfl, i + 1, by simp (disch := omega) only [push_cast, ↓reduceIte, zA, zG, zB, zH, zI, zC, zJ, zK, zL, zD, zE, zF, zM, zN, zO, zP, zQ, reduceCtorEq], ⟨by omega, l1.trans l2, any_step hil hx hno⟩, by dsimp only; omega⟩
  · have hd : decide ((i : Int) < (l.length : Int)) = false := decide_eq_false (by omega)
    rw [List.take_of_length_le (by omega)] at hno
    rw [idxI_miss hno]
    repeat' (first | (simp (disch := omega) only [push_cast, ↓reduceIte, zA, zG, zB, zH, zI, zC, zJ, zK, zL, zD, zE, zF, zM, zN, zO, zP, zQ, reduceCtorEq, hd]) | refine iX ?_ ?_ <;> intro _ | refine And.intro (by omega) ?_ | refine dq ?_)
    first | exact ⟨rfl, l1⟩ | exact l1
theorem fcontainsF_c (v : Value) (l : List FT) (g : FuncId) (lb : Array Value) (p : FT → Bool) (w : World) (h : RecS ftC 4 w v l) (hp : ∀ x ∈ l, Prd Try.prog w g lb (.agg (ftC x).toArray) (p x)) : FnC Try.prog 96 #[v, .func (.func g) #[] lb] w fun r w' => r = .bool (l.any p) ∧ Later w w' := by
  obtain ⟨o, c, rfl, g1, g2⟩ := h.slice
  refine enter96 _ _ ?_
  unfold B96
  repeat' (first | (simp (disch := omega) only [push_cast, ↓reduceIte, zA, zG, zB, zH, zI, zC, zJ, zK, zL, zD, zE, zF, zM, zN, zO, zP, zQ, reduceCtorEq]) | refine iX ?_ ?_ <;> intro _ | refine And.intro (by omega) ?_ | refine dq ?_)
  refine (findexF_c _ l g lb p w h hp).mono ?_
  rintro _ w1 ⟨rfl, l1⟩
  have e := idxI_ge p l
  repeat' (first | (simp (disch := omega) only [push_cast, ↓reduceIte, zA, zG, zB, zH, zI, zC, zJ, zK, zL, zD, zE, zF, zM, zN, zO, zP, zQ, reduceCtorEq, e]) | refine iX ?_ ?_ <;> intro _ | refine And.intro (by omega) ?_ | refine dq ?_)
  first | exact ⟨rfl, l1⟩ | exact l1
theorem hindexF_c (v : Value) (l : List HD) (g : FuncId) (lb : Array Value) (p : HD → Bool) (w : World) (h : RecS hdC 4 w v l) (hp : ∀ x ∈ l, Prd Try.prog w g lb (.agg (hdC x).toArray) (p x)) : FnC Try.prog 137 #[v, .func (.func g) #[] lb] w fun r w' => r = .int .i64 (idxI p l) ∧ Later w w' := by
  obtain ⟨o, c, rfl, g1, g2⟩ := h.slice
  refine enter137 _ _ ?_
  unfold B137
  repeat' (first | (simp (disch := omega) only [push_cast, ↓reduceIte, zA, zG, zB, zH, zI, zC, zJ, zK, zL, zD, zE, zF, zM, zN, zO, zP, zQ, reduceCtorEq]) | refine iX ?_ ?_ <;> intro _ | refine And.intro (by omega) ?_ | refine dq ?_)
  refine vc_loop W137_0 (fun i : Nat => [(8, .int .i64 (i : Int))]) (fun i w' => i ≤ l.length ∧ Later w w' ∧ (l.take i).any p = false) (fun i => l.length - i) 0 (by decide) ?_ ?_ ?_
  · simp (disch := omega) only [push_cast, ↓reduceIte, zA, zG, zB, zH, zI, zC, zJ, zK, zL, zD, zE, zF, zM, zN, zO, zP, zQ, reduceCtorEq]
    try rfl
  · exact ⟨Nat.zero_le _, Later.refl _, by simp⟩
  rintro i uu w1 ⟨hi, l1, hno⟩
  by_cases hil : i < l.length
  · have hd : decide ((i : Int) < (l.length : Int)) = true := decide_eq_true (by omega)
    obtain ⟨a, rfl, c0⟩ := RecS.at hdC_len (h.later l1) hil
    repeat' (first | (simp (disch := omega) only [push_cast, ↓reduceIte, zA, zG, zB, zH, zI, zC, zJ, zK, zL, zD, zE, zF, zM, zN, zO, zP, zQ, reduceCtorEq, hd, c0]) | refine iX ?_ ?_ <;> intro _ | refine And.intro (by omega) ?_ | refine dq ?_)
    refine (hp l[i] (List.getElem_mem hil) w1 l1).mono ?_
    rintro _ w2 ⟨rfl, l2⟩
    cases hx : p l[i] with
    | true =>
      rw [idxI_hit hil hx hno]
      repeat' (first | (simp (disch := omega) only [push_cast, ↓reduceIte, zA, zG, zB, zH, zI, zC, zJ, zK, zL, zD, zE, zF, zM, zN, zO, zP, zQ, reduceCtorEq]) | refine iX ?_ ?_ <;> intro _ | refine And.intro (by omega) ?_ | refine dq ?_)
      first | exact ⟨rfl, (l1.trans l2)⟩ | exact (l1.trans l2)
    | false =>
      repeat' (first | (simp (disch := omega) only [push_cast, ↓reduceIte, zA, zG, zB, zH, zI, zC, zJ, zK, zL, zD, zE, zF, zM, zN, zO, zP, zQ, reduceCtorEq]) | refine iX ?_ ?_ <;> intro _ | refine And.intro (by omega) ?_ | refine dq ?_)
      exact ⟨rfl, i + 1, by simp (disch := omega) only [push_cast, ↓reduceIte, zA, zG, zB, zH, zI, zC, zJ, zK, zL, zD, zE, zF, zM, zN, zO, zP, zQ, reduceCtorEq], ⟨by omega, l1.trans l2, any_step hil hx hno⟩, by dsimp only; omega⟩
  · have hd : decide ((i : Int) < (l.length : Int)) = false := decide_eq_false (by omega)
    rw [List.take_of_length_le (by omega)] at hno
    rw [idxI_miss hno]
    repeat' (first | (simp (disch := omega) only [push_cast, ↓reduceIte, zA, zG, zB, zH, zI, zC, zJ, zK, zL, zD, zE, zF, zM, zN, zO, zP, zQ, reduceCtorEq, hd]) | refine iX ?_ ?_ <;> intro _ | refine And.intro (by omega) ?_ | refine dq ?_)
    first | exact ⟨rfl, l1⟩ | exact l1
theorem hcontainsF_c (v : Value) (l : List HD) (g : FuncId) (lb : Array Value) (p : HD → Bool) (w : World) (h : RecS hdC 4 w v l) (hp : ∀ x ∈ l, Prd Try.prog w g lb (.agg (hdC x).toArray) (p x)) : FnC Try.prog 103 #[v, .func (.func g) #[] lb] w fun r w' => r = .bool (l.any p) ∧ Later w w' := by
  obtain ⟨o, c, rfl, g1, g2⟩ := h.slice
  refine enter103 _ _ ?_
  unfold B103
  repeat' (first | (simp (disch := omega) only [push_cast, ↓reduceIte, zA, zG, zB, zH, zI, zC, zJ, zK, zL, zD, zE, zF, zM, zN, zO, zP, zQ, reduceCtorEq]) | refine iX ?_ ?_ <;> intro _ | refine And.intro (by omega) ?_ | refine dq ?_)
  refine (hindexF_c _ l g lb p w h hp).mono ?_
  rintro _ w1 ⟨rfl, l1⟩
  have e := idxI_ge p l
  repeat' (first | (simp (disch := omega) only [push_cast, ↓reduceIte, zA, zG, zB, zH, zI, zC, zJ, zK, zL, zD, zE, zF, zM, zN, zO, zP, zQ, reduceCtorEq, e]) | refine iX ?_ ?_ <;> intro _ | refine And.intro (by omega) ?_ | refine dq ?_)
  first | exact ⟨rfl, l1⟩ | exact l1
end Go.Proofs.Ytnofalhkapmcnaa
end
section
namespace Go.Proofs.Ytnofalhkapmcnaa
open Go.Vc
set_option maxRecDepth 100000
variable (Q : Post) (ds : List Deferred) (σ : Env) (w : World)
@[push_cast] theorem bsl45_1_Codes7M {K : Value → World → Prop} {w : World} (x00 x01 x02 x03 x04 : Value) : vBuildSlice Try.prog 45 1 #[(0, (.agg #[x00, x01, x02, x03, x04]))] K w = K (.slice (some ⟨w.heap.size, 0, none⟩) 1 1) (w.alloc (.cells #[x00, x01, x02, x03, x04] 49)) :=
  vBuildSlice_ok Try.underlying45 ti49 (by kernel_rfl) (by decide)
@[push_cast] theorem bld49_0_1_2_3_Codes7M {K : Value → World → Prop} {w : World} (x0 : Int) (x1 : Int) (x2 : Int) (x3 : Int) : vBuild Try.prog 49 #[(0, (.int .i64 x0)), (1, (.int .i64 x1)), (2, (.int .i64 x2)), (3, (.int .i64 x3))] K w = K (.agg #[(.int .i64 x0), (.int .i64 x1), (.int .i64 x2), (.int .i64 x3), (.int .i64 0)]) w :=
  vBuild_ok (by kernel_rfl)
end Go.Proofs.Ytnofalhkapmcnaa
end
section
set_option linter.unusedSimpArgs false
namespace Go.Cub
open Go.Key Go.Proofs.Ytnofalhkapmcnaa
def fi : List ByteArray → ByteArray → Option Nat
  | [], _ => none
  | y :: l, x => if y = x then some 0 else (fi l x).map (· + 1)
theorem fi_some : ∀ {l : List ByteArray} {x : ByteArray} {k : Nat}, fi l x = some k → ∃ h : k < l.length, l[k] = x ∧ ∀ j (hj : j < k), l[j]'(by omega) ≠ x
  | [], _, _, h => by simp [fi] at h
  | y :: l, x, k, h => by
    unfold fi at h
    split at h
    · rename_i he
      cases h
      exact ⟨by simp, he, fun j hj => absurd hj (Nat.not_lt_zero _)⟩
    · rename_i he
      obtain ⟨m, hm, rfl⟩ := Option.map_eq_some_iff.1 h
      obtain ⟨h1, h2, h3⟩ := fi_some hm
      refine ⟨by simp; omega, by simpa using h2, fun j hj => ?_⟩
      cases j with
      | zero => exact he
      | succ j => exact h3 j (by omega)
theorem fi_none : ∀ {l : List ByteArray} {x : ByteArray}, fi l x = none ↔ ∀ y ∈ l, y ≠ x
  | [], _ => by simp [fi]
  | y :: l, x => by
    unfold fi
    split
    · rename_i he
      simp [he]
    · rename_i he
      rw [Option.map_eq_none_iff, fi_none]
      simp [he]
theorem fi_mk {l : List ByteArray} {x : ByteArray} {k : Nat} (h : k < l.length) (hk : l[k] = x) (hj : ∀ j (hj : j < k), l[j]'(by omega) ≠ x) : fi l x = some k := by
  cases hf : fi l x with
  | none => exact absurd hk (fi_none.1 hf _ (List.getElem_mem h))
  | some m =>
    obtain ⟨h1, h2, h3⟩ := fi_some hf
    rcases Nat.lt_trichotomy m k with g | g | g
    · exact absurd h2 (hj m g)
    · rw [g]
    · exact absurd hk (h3 k g)
def sub (b : List ByteArray) : Nat → List ByteArray → Bool
  | _, [] => true
  | s, n :: a => match fi b n with
    | some k => if s ≤ k then sub b (k + 1) a else false
    | none => false
end Go.Cub
namespace Go.Proofs.Ytnofalhkapmcnaa
open Go.Vc Go.Key Go.Cub
set_option maxRecDepth 100000
theorem StS.opn {w : World} {v : Value} {l : List ByteArray} (h : StS w v l) : ∃ o c, v = .slice o l.length c ∧ StS w (.slice o l.length c) l ∧ l.length ≤ c ∧ c ≤ 9223372036854775807 ∧ (o = none → l = []) := by
  obtain ⟨o, c, rfl⟩ := Sl.slice h
  rw [List.length_map] at h ⊢
  have h2 := Sl.len h
  exact ⟨o, c, rfl, h, h2.2.1, h2.2.2.1, fun ho => by simpa using (h2.2.2.2 ho).1⟩
def fiT (o : Option Nat) : Value := .tuple #[.int .i64 ((o.getD 0 : Nat) : Int), .bool o.isSome]
end Go.Proofs.Ytnofalhkapmcnaa
end
section
set_option linter.unusedSimpArgs false
namespace Go.Proofs.Ytnofalhkapmcnaa
open Go.Vc Go.Key Go.Cub
set_option maxRecDepth 100000
def fiZ : Option Nat → Int
  | some k => k
  | none => -1
theorem index_c (v : Value) (l : List ByteArray) (x : ByteArray) (w : World) (h : StS w v l) : FnC Try.prog 81 #[v, .string x] w fun r w' => r = .int .i64 (fiZ (fi l x)) ∧ w' = w := by
  obtain ⟨o, c, rfl, h, g1, g2, g3⟩ := StS.opn h
  refine enter81 _ _ ?_
  unfold B81
  repeat' (first | (simp (disch := omega) only [push_cast, ↓reduceIte, zA, zG, zB, zH, zI, zC, zJ, zK, zL, zD, zE, zF, zM, zN, zO, zP, zQ, reduceCtorEq]) | refine iX ?_ ?_ <;> intro _ | refine And.intro (by omega) ?_ | refine dq ?_)
  refine vc_loop W81_0 (fun i : Nat => [(8, .int .i64 (i : Int))]) (fun i w' => i ≤ l.length ∧ w' = w ∧ ∀ j (hj : j < l.length), j < i → l[j] ≠ x) (fun i => l.length - i) 0 (by decide) ?_ ?_ ?_
  · simp (disch := omega) only [push_cast, ↓reduceIte, zA, zG, zB, zH, zI, zC, zJ, zK, zL, zD, zE, zF, zM, zN, zO, zP, zQ, reduceCtorEq]
  · exact ⟨by omega, rfl, fun j _ hj => absurd hj (Nat.not_lt_zero _)⟩
  rintro i uu w1 ⟨hi, hw, hn⟩
  obtain rfl := hw.symm
  by_cases hlt : i < l.length
  · cases o with
    | none => have := g3 rfl; rw [this] at hlt; simp at hlt
    | some a =>
    have hc := StS.atS h hlt
    by_cases he : l[i] = x
    · have e : fi l x = some i := fi_mk hlt he fun j hj => hn j (by omega) hj
      have he' := he.symm
      repeat' (first | (simp (disch := omega) only [push_cast, ↓reduceIte, zA, zG, zB, zH, zI, zC, zJ, zK, zL, zD, zE, zF, zM, zN, zO, zP, zQ, reduceCtorEq, hc, he, decide_true]) | refine iX ?_ ?_ <;> intro _ | refine And.intro (by omega) ?_ | refine dq ?_)
      rw [e]; rfl
    · have he' : ¬ x = l[i] := fun h => he h.symm
      repeat' (first | (simp (disch := omega) only [push_cast, ↓reduceIte, zA, zG, zB, zH, zI, zC, zJ, zK, zL, zD, zE, zF, zM, zN, zO, zP, zQ, reduceCtorEq, hc, he', decide_false]) | refine iX ?_ ?_ <;> intro _ | refine And.intro (by omega) ?_ | refine dq ?_)
      refine ⟨rfl, i + 1, by simp (disch := omega) only [push_cast, ↓reduceIte, zA, zG, zB, zH, zI, zC, zJ, zK, zL, zD, zE, zF, zM, zN, zO, zP, zQ, reduceCtorEq], ⟨by omega, rfl, fun j hj hji => ?_⟩, by dsimp only; omega⟩
      by_cases h : j < i
      · exact hn j hj h
      · have : j = i := by omega
        subst this
        exact he
  · have e : fi l x = none := fi_none.2 fun y hy => by
      obtain ⟨j, hj, rfl⟩ := List.getElem_of_mem hy
      exact hn j hj (by omega)
    repeat' (first | (simp (disch := omega) only [push_cast, ↓reduceIte, zA, zG, zB, zH, zI, zC, zJ, zK, zL, zD, zE, zF, zM, zN, zO, zP, zQ, reduceCtorEq]) | refine iX ?_ ?_ <;> intro _ | refine And.intro (by omega) ?_ | refine dq ?_)
    rw [e]; rfl
theorem find_c (v : Value) (l : List ByteArray) (x : ByteArray) (w : World) (h : StS w v l) : FnC Try.prog 94 #[v, .string x] w fun r w' => r = fiT (fi l x) ∧ w' = w := by
  obtain ⟨o, c, rfl, h, g1, g2, g3⟩ := StS.opn h
  refine enter94 _ _ ?_
  unfold B94
  repeat' (first | (simp (disch := omega) only [push_cast, ↓reduceIte, zA, zG, zB, zH, zI, zC, zJ, zK, zL, zD, zE, zF, zM, zN, zO, zP, zQ, reduceCtorEq]) | refine iX ?_ ?_ <;> intro _ | refine And.intro (by omega) ?_ | refine dq ?_)
  refine (index_c _ l x w h).mono ?_
  rintro _ w0 ⟨rfl, h0⟩
  obtain rfl := h0.symm
  cases hf : fi l x with
  | none =>
    simp only [fiZ]
    repeat' (first | (simp (disch := omega) only [push_cast, ↓reduceIte, zA, zG, zB, zH, zI, zC, zJ, zK, zL, zD, zE, zF, zM, zN, zO, zP, zQ, reduceCtorEq]) | refine iX ?_ ?_ <;> intro _ | refine And.intro (by omega) ?_ | refine dq ?_)
    all_goals simp [fiT]
  | some k =>
    simp only [fiZ]
    repeat' (first | (simp (disch := omega) only [push_cast, ↓reduceIte, zA, zG, zB, zH, zI, zC, zJ, zK, zL, zD, zE, zF, zM, zN, zO, zP, zQ, reduceCtorEq]) | refine iX ?_ ?_ <;> intro _ | refine And.intro (by omega) ?_ | refine dq ?_)
    all_goals simp [fiT]
    all_goals omega
theorem dim_c (dv mv : Value) (d m : List ByteArray) (x : ByteArray) (w : World) (h : ScIs w dv mv d m) : FnC Try.prog 60 #[scV dv mv, .string x] w fun r w' => r = fiT (fi d x) ∧ Later w w' := by
  unfold scV
  refine enter60 _ _ ?_
  unfold B60
  obtain ⟨l1, s1, F⟩ := box2 w dv mv 24
  have eca : (Value.agg #[dv, mv]).cells = #[dv, mv] := rfl
  repeat' (first | (simp (disch := omega) only [push_cast, ↓reduceIte, zA, zG, zB, zH, zI, zC, zJ, zK, zL, zD, zE, zF, zM, zN, zO, zP, zQ, reduceCtorEq, eca, s1]) | refine iX ?_ ?_ <;> intro _ | refine And.intro (by omega) ?_ | fail)
  generalize w.alloc (.cells #[dv, mv] 24) = w1 at *
  obtain ⟨a0, a1, a2⟩ := F w1 (Later.refl _)
  repeat' (first | (simp (disch := omega) only [push_cast, ↓reduceIte, zA, zG, zB, zH, zI, zC, zJ, zK, zL, zD, zE, zF, zM, zN, zO, zP, zQ, reduceCtorEq, a0, addr_add_eq, Nat.zero_add]) | refine iX ?_ ?_ <;> intro _ | refine And.intro (by omega) ?_ | refine dq ?_)
  refine (find_c _ d x w1 (Sl.later h.dS l1)).mono ?_
  rintro _ w0 ⟨rfl, h0⟩
  obtain rfl := h0.symm
  unfold fiT
  repeat' (first | (simp (disch := omega) only [push_cast, ↓reduceIte, zA, zG, zB, zH, zI, zC, zJ, zK, zL, zD, zE, zF, zM, zN, zO, zP, zQ, reduceCtorEq]) | refine iX ?_ ?_ <;> intro _ | refine And.intro (by omega) ?_ | refine dq ?_)
  first | exact ⟨rfl, l1⟩ | exact l1
theorem met_c (dv mv : Value) (d m : List ByteArray) (x : ByteArray) (w : World) (h : ScIs w dv mv d m) : FnC Try.prog 105 #[scV dv mv, .string x] w fun r w' => r = fiT (fi m x) ∧ Later w w' := by
  unfold scV
  refine enter105 _ _ ?_
  unfold B105
  obtain ⟨l1, s1, F⟩ := box2 w dv mv 24
  have eca : (Value.agg #[dv, mv]).cells = #[dv, mv] := rfl
  repeat' (first | (simp (disch := omega) only [push_cast, ↓reduceIte, zA, zG, zB, zH, zI, zC, zJ, zK, zL, zD, zE, zF, zM, zN, zO, zP, zQ, reduceCtorEq, eca, s1]) | refine iX ?_ ?_ <;> intro _ | refine And.intro (by omega) ?_ | fail)
  generalize w.alloc (.cells #[dv, mv] 24) = w1 at *
  obtain ⟨a0, a1, a2⟩ := F w1 (Later.refl _)
  repeat' (first | (simp (disch := omega) only [push_cast, ↓reduceIte, zA, zG, zB, zH, zI, zC, zJ, zK, zL, zD, zE, zF, zM, zN, zO, zP, zQ, reduceCtorEq, a1, addr_add_eq, Nat.zero_add]) | refine iX ?_ ?_ <;> intro _ | refine And.intro (by omega) ?_ | refine dq ?_)
  refine (find_c _ m x w1 (Sl.later h.mS l1)).mono ?_
  rintro _ w0 ⟨rfl, h0⟩
  obtain rfl := h0.symm
  unfold fiT
  repeat' (first | (simp (disch := omega) only [push_cast, ↓reduceIte, zA, zG, zB, zH, zI, zC, zJ, zK, zL, zD, zE, zF, zM, zN, zO, zP, zQ, reduceCtorEq]) | refine iX ?_ ?_ <;> intro _ | refine And.intro (by omega) ?_ | refine dq ?_)
  first | exact ⟨rfl, l1⟩ | exact l1
end Go.Proofs.Ytnofalhkapmcnaa
end
section
set_option linter.unusedSimpArgs false
namespace Go.Vc
open Go.Cub
/-! Which rows a filter takes. -/
def FT.is1 (row : List ByteArray) (v : ByteArray) : Option Nat → Bool
  | some i => decide (i < row.length) && decide (row[i]! = v)
  | none => false
mutual
def FT.takes (d row : List ByteArray) : FT → Bool
  | .mk op dm v _ l =>
    if op = 1 ∨ op = 2 then FT.is1 row v (fi d dm)
    else if op = 3 then !((FT.tkL d row l).any id) else if op = 4 then (FT.tkL d row l).all id else if op = 5 then (FT.tkL d row l).any id else true
def FT.tkL (d row : List ByteArray) : List FT → List Bool
  | [] => []
  | k :: l => k.takes d row :: FT.tkL d row l
end
theorem FT.tkL_is (d row : List ByteArray) (l : List FT) : FT.tkL d row l = l.map (FT.takes d row) := by
  induction l with
  | nil => rfl
  | cons k l ih => show k.takes d row :: FT.tkL d row l = _; rw [ih]; rfl
theorem FT.takes_is (d row : List ByteArray) (f : FT) : f.takes d row =
    if f.op = 1 ∨ f.op = 2 then FT.is1 row f.value (fi d f.dim)
    else if f.op = 3 then !(f.kids.any (FT.takes d row)) else if f.op = 4 then f.kids.all (FT.takes d row) else if f.op = 5 then f.kids.any (FT.takes d row) else true := by
  obtain ⟨op, dm, v, kv, l⟩ := f
  have e1 : (FT.tkL d row l).any id = l.any (FT.takes d row) := by rw [FT.tkL_is, List.any_map]; rfl
  have e2 : (FT.tkL d row l).all id = l.all (FT.takes d row) := by rw [FT.tkL_is, List.all_map]; rfl
  show (if op = 1 ∨ op = 2 then _ else if op = 3 then !((FT.tkL d row l).any id) else if op = 4 then (FT.tkL d row l).all id else if op = 5 then (FT.tkL d row l).any id else true) = _
  rw [e1, e2]
  rfl
end Go.Vc
namespace Go.Proofs.Ytnofalhkapmcnaa
open Go.Vc Go.Key Go.Cub
set_option maxRecDepth 100000
theorem box1 (w : World) (a : Value) (e : TypeId) : Later w (w.alloc (.cells #[a] e)) ∧ (w.alloc (.cells #[a] e)).heap.size = w.heap.size + 1 ∧ ∀ w', Later (w.alloc (.cells #[a] e)) w' → w'.cell? ⟨w.heap.size, 0, none⟩ = some a :=
  ⟨later_alloc _ _, World.size_alloc w _, fun w' hl => hl.cell ((Blk.new w #[a] e).cell 0)⟩
set_option maxHeartbeats 1000000 in
theorem takes_c (dv mv : Value) (d m : List ByteArray) (rv : Value) (row : List ByteArray) : ∀ (f : FT) (w : World), f.Ok w → ScIs w dv mv d m → StS w rv row → FnC Try.prog 61 #[.agg (ftC f).toArray, scV dv mv, rv] w fun r w' => r = .bool (f.takes d row) ∧ Later w w' := by
  intro f
  induction f using FT.ind with
  | h f ih =>
  intro w hf hS hR
  obtain ⟨h1, h2, h3, h4, h5⟩ := FT.ok_iff.1 hf
  obtain ⟨o, c, hkv, hc1, hc2⟩ := RecS.slice h4
  obtain ⟨orr, cr, rfl, gr1, gr2, hRm, _⟩ := Sl.openM hR
  have esc : scV dv mv = .agg #[dv, mv] := rfl
  rw [esc]
  refine enter61 _ _ _ ?_
  unfold B61
  have eca : (Value.agg (ftC f).toArray).cells = (ftC f).toArray := rfl
  have ecb : (Value.agg #[dv, mv]).cells = #[dv, mv] := rfl
  have ecr : (Value.slice orr row.length cr).cells = #[.slice orr row.length cr] := rfl
  obtain ⟨l1, s1, B1⟩ := ftBox w f
  rw [FT.takes_is]
  repeat' (first | (simp (disch := omega) only [push_cast, ↓reduceIte, zA, zG, zB, zH, zI, zC, zJ, zK, zL, zD, zE, zF, zM, zN, zO, zP, zQ, reduceCtorEq, eca, s1]) | refine iX ?_ ?_ <;> intro _ | refine And.intro (by omega) ?_ | fail)
  generalize w.alloc (.cells (ftC f).toArray 39) = w1 at *
  obtain ⟨l2, s2, F2⟩ := box2 w1 dv mv 24
  rw [s1] at s2 F2
  repeat' (first | (simp (disch := omega) only [push_cast, ↓reduceIte, zA, zG, zB, zH, zI, zC, zJ, zK, zL, zD, zE, zF, zM, zN, zO, zP, zQ, reduceCtorEq, ecb, s1, s2]) | refine iX ?_ ?_ <;> intro _ | refine And.intro (by omega) ?_ | fail)
  generalize w1.alloc (.cells #[dv, mv] 24) = w2 at *
  obtain ⟨l3, s3, F3⟩ := box1 w2 (.slice orr row.length cr) 22
  rw [s2] at s3 F3
  repeat' (first | (simp (disch := omega) only [push_cast, ↓reduceIte, zA, zG, zB, zH, zI, zC, zJ, zK, zL, zD, zE, zF, zM, zN, zO, zP, zQ, reduceCtorEq, ecr, s2, s3]) | refine iX ?_ ?_ <;> intro _ | refine And.intro (by omega) ?_ | fail)
  generalize w2.alloc (.cells #[.slice orr row.length cr] 22) = w3 at *
  have l4 := later_alloc w3 (.cells #[.func (.func 95) #[] #[.pointer (some ⟨w.heap.size + 1, 0, none⟩), .pointer (some ⟨w.heap.size + 1 + 1, 0, none⟩)]] 135)
  have B4 := Blk.new w3 #[.func (.func 95) #[] #[.pointer (some ⟨w.heap.size + 1, 0, none⟩), .pointer (some ⟨w.heap.size + 1 + 1, 0, none⟩)]] 135
  rw [s3] at B4
  generalize w3.alloc (.cells #[.func (.func 95) #[] #[.pointer (some ⟨w.heap.size + 1, 0, none⟩), .pointer (some ⟨w.heap.size + 1 + 1, 0, none⟩)]] 135) = w4 at *
  have l24 := l3.trans l4
  have l14 := l2.trans l24
  have l04 := l1.trans l14
  generalize hkf : w.heap.size = kf at *
  have FF := fun w' (hl : Later w4 w') => ftAt (ftLater B1 (l14.trans hl))
  have FS := fun w' (hl : Later w4 w') => (F2 w' (l24.trans hl)).2.2
  have FR := fun w' (hl : Later w4 w') => F3 w' (l4.trans hl)
  have FT4 := fun w' (hl : Later w4 w') => (B4.chg (Chg.of_later (ks := []) hl) (by simp)).cell 0
  rw [hkv] at FF
  clear F2 F3 B1 B4 eca ecb ecr s1 s2 s3
  have hS4 := hS.later l04
  have hR4 := hRm.later l04
  obtain ⟨a0, a1, a2, a3⟩ := FF w4 (Later.refl _)
  have b0 := FS w4 (Later.refl _)
  have d0 := FR w4 (Later.refl _)
  have t0 : w4.cell? ⟨kf + 1 + 1 + 1, 0, none⟩ = some (.func (.func 95) #[] #[.pointer (some ⟨kf + 1, 0, none⟩), .pointer (some ⟨kf + 1 + 1, 0, none⟩)]) := FT4 w4 (Later.refl _)
  have hp : ∀ k ∈ f.kids, Prd Try.prog w4 95 #[.pointer (some ⟨kf + 1, 0, none⟩), .pointer (some ⟨kf + 1 + 1, 0, none⟩)] (.agg (ftC k).toArray) (k.takes d row) := by
    intro k hk w' hl
    show FnC Try.prog 95 #[.agg (ftC k).toArray, .pointer (some ⟨kf + 1, 0, none⟩), .pointer (some ⟨kf + 1 + 1, 0, none⟩)] w' _
    have eck : (Value.agg (ftC k).toArray).cells = (ftC k).toArray := rfl
    obtain ⟨m1, s3, C1⟩ := ftBox w' k
    refine enter95 _ _ _ ?_
    unfold B95
    repeat' (first | (simp (disch := omega) only [push_cast, ↓reduceIte, zA, zG, zB, zH, zI, zC, zJ, zK, zL, zD, zE, zF, zM, zN, zO, zP, zQ, reduceCtorEq, eck]) | refine iX ?_ ?_ <;> intro _ | refine And.intro (by omega) ?_ | refine dq ?_)
    generalize w'.alloc (.cells (ftC k).toArray 39) = w3 at *
    generalize w'.heap.size = kk at *
    have b0 : cellsAt w3 ⟨kk, 0, none⟩ 4 = some (ftC k) := Blk.cellsAt (l := ftC k) C1
    have b1 := FS w3 (hl.trans m1)
    have b2 := FR w3 (hl.trans m1)
    repeat' (first | (simp (disch := omega) only [push_cast, ↓reduceIte, zA, zG, zB, zH, zI, zC, zJ, zK, zL, zD, zE, zF, zM, zN, zO, zP, zQ, reduceCtorEq, b0, b1, b2]) | refine iX ?_ ?_ <;> intro _ | refine And.intro (by omega) ?_ | refine dq ?_)
    refine (ih k hk w3 ((h5 k hk).later (l04.trans (hl.trans m1))) (hS.later (l04.trans (hl.trans m1))) (hR.later (l04.trans (hl.trans m1)))).mono ?_
    rintro _ w4 ⟨rfl, m4⟩
    repeat' (first | (simp (disch := omega) only [push_cast, ↓reduceIte, zA, zG, zB, zH, zI, zC, zJ, zK, zL, zD, zE, zF, zM, zN, zO, zP, zQ, reduceCtorEq]) | refine iX ?_ ?_ <;> intro _ | refine And.intro (by omega) ?_ | refine dq ?_)
    first | exact ⟨rfl, (m1.trans m4)⟩ | exact (m1.trans m4)
  rw [hkv] at h4
  by_cases k12 : f.op = 1 ∨ f.op = 2
  · rw [if_pos k12]
    rcases k12 with k | k
    rotate_left
    have n1 : ¬ f.op = 1 := by omega
    have e1 : decide (f.op = 1) = false := decide_eq_false n1
    have e2 : decide (f.op = 2) = true := decide_eq_true k
    repeat' (first | (simp (disch := omega) only [push_cast, ↓reduceIte, zA, zG, zB, zH, zI, zC, zJ, zK, zL, zD, zE, zF, zM, zN, zO, zP, zQ, reduceCtorEq, a0, a1, b0, e1, e2, addr_add_eq, Nat.zero_add]) | refine iX ?_ ?_ <;> intro _ | refine And.intro (by omega) ?_ | refine dq ?_)
    rotate_left
    have e1 : decide (f.op = 1) = true := decide_eq_true k
    repeat' (first | (simp (disch := omega) only [push_cast, ↓reduceIte, zA, zG, zB, zH, zI, zC, zJ, zK, zL, zD, zE, zF, zM, zN, zO, zP, zQ, reduceCtorEq, a0, a1, b0, e1, addr_add_eq, Nat.zero_add]) | refine iX ?_ ?_ <;> intro _ | refine And.intro (by omega) ?_ | refine dq ?_)
    all_goals
      refine (dim_c dv mv d m f.dim w4 hS4).mono ?_
      rintro _ w5 ⟨rfl, l5⟩
      obtain ⟨_, _, g2, _⟩ := FF w5 l5
      have g3 := FR w5 l5
      have l05 := l04.trans l5
      unfold fiT
      cases hfi : fi d f.dim with
      | none =>
        have er : FT.is1 row f.value none = false := rfl
        rw [er]
        repeat' (first | (simp (disch := omega) only [push_cast, ↓reduceIte, zA, zG, zB, zH, zI, zC, zJ, zK, zL, zD, zE, zF, zM, zN, zO, zP, zQ, reduceCtorEq]) | refine iX ?_ ?_ <;> intro _ | refine And.intro (by omega) ?_ | refine dq ?_)
        intro w6 l6
        repeat' (first | (simp (disch := omega) only [push_cast, ↓reduceIte, zA, zG, zB, zH, zI, zC, zJ, zK, zL, zD, zE, zF, zM, zN, zO, zP, zQ, reduceCtorEq]) | refine iX ?_ ?_ <;> intro _ | refine And.intro (by omega) ?_ | refine dq ?_)
        first | exact ⟨rfl, (l05.trans l6)⟩ | exact (l05.trans l6)
      | some i =>
        by_cases hil : i < row.length
        · obtain ⟨ar, rfl⟩ := hRm.some hil
          have hc := StS.atS (hRm.later l05) hil
          have dl : decide ((i : Int) < (row.length : Int)) = true := decide_eq_true (by omega)
          have ei : row[i]! = row[i] := getElem!_pos row i hil
          have er : FT.is1 row f.value (some i) = decide (row[i] = f.value) := by show (decide (i < row.length) && decide (row[i]! = f.value)) = _; rw [decide_eq_true hil, ei, Bool.true_and]
          rw [er]
          repeat' (first | (simp (disch := omega) only [push_cast, ↓reduceIte, zA, zG, zB, zH, zI, zC, zJ, zK, zL, zD, zE, zF, zM, zN, zO, zP, zQ, reduceCtorEq, Option.getD_some, g2, g3, hc, dl, addr_add_eq, Nat.zero_add]) | refine iX ?_ ?_ <;> intro _ | refine And.intro (by omega) ?_ | refine dq ?_)
          intro w6 l6
          repeat' (first | (simp (disch := omega) only [push_cast, ↓reduceIte, zA, zG, zB, zH, zI, zC, zJ, zK, zL, zD, zE, zF, zM, zN, zO, zP, zQ, reduceCtorEq]) | refine iX ?_ ?_ <;> intro _ | refine And.intro (by omega) ?_ | refine dq ?_)
          first | exact ⟨rfl, (l05.trans l6)⟩ | exact (l05.trans l6)
        · have dl : decide ((i : Int) < (row.length : Int)) = false := decide_eq_false (by omega)
          have er : FT.is1 row f.value (some i) = false := by show (decide (i < row.length) && decide (row[i]! = f.value)) = _; rw [decide_eq_false hil, Bool.false_and]
          rw [er]
          repeat' (first | (simp (disch := omega) only [push_cast, ↓reduceIte, zA, zG, zB, zH, zI, zC, zJ, zK, zL, zD, zE, zF, zM, zN, zO, zP, zQ, reduceCtorEq, Option.getD_some, g2, g3, dl, addr_add_eq, Nat.zero_add]) | refine iX ?_ ?_ <;> intro _ | refine And.intro (by omega) ?_ | refine dq ?_)
          intro w6 l6
          repeat' (first | (simp (disch := omega) only [push_cast, ↓reduceIte, zA, zG, zB, zH, zI, zC, zJ, zK, zL, zD, zE, zF, zM, zN, zO, zP, zQ, reduceCtorEq]) | refine iX ?_ ?_ <;> intro _ | refine And.intro (by omega) ?_ | refine dq ?_)
          first | exact ⟨rfl, (l05.trans l6)⟩ | exact (l05.trans l6)
  have e1 : decide (f.op = 1) = false := decide_eq_false (by omega)
  have e2 : decide (f.op = 2) = false := decide_eq_false (by omega)
  rw [if_neg k12]
  by_cases k3 : f.op = 3
  · have e3 : decide (f.op = 3) = true := decide_eq_true k3
    rw [if_pos k3]
    repeat' (first | (simp (disch := omega) only [push_cast, ↓reduceIte, zA, zG, zB, zH, zI, zC, zJ, zK, zL, zD, zE, zF, zM, zN, zO, zP, zQ, reduceCtorEq, a0, a3, t0, e1, e2, e3, addr_add_eq, Nat.zero_add]) | refine iX ?_ ?_ <;> intro _ | refine And.intro (by omega) ?_ | refine dq ?_)
    refine (fcontainsF_c _ _ _ _ (FT.takes d row) w4 (h4.later l04) hp).mono ?_
    rintro _ w5 ⟨rfl, l5⟩
    repeat' (first | (simp (disch := omega) only [push_cast, ↓reduceIte, zA, zG, zB, zH, zI, zC, zJ, zK, zL, zD, zE, zF, zM, zN, zO, zP, zQ, reduceCtorEq]) | refine iX ?_ ?_ <;> intro _ | refine And.intro (by omega) ?_ | refine dq ?_)
    first | exact ⟨rfl, (l04.trans l5)⟩ | exact (l04.trans l5)
  have e3 : decide (f.op = 3) = false := decide_eq_false k3
  rw [if_neg k3]
  by_cases k4 : f.op = 4
  · have e4 : decide (f.op = 4) = true := decide_eq_true k4
    rw [if_pos k4]
    have hp2 : ∀ k ∈ f.kids, Prd Try.prog w4 97 #[.pointer (some ⟨kf + 1 + 1 + 1, 0, none⟩)] (.agg (ftC k).toArray) (!k.takes d row) := by
      intro k hk w' hl
      have hc := hp k hk
      show FnC Try.prog 97 #[.agg (ftC k).toArray, .pointer (some ⟨kf + 1 + 1 + 1, 0, none⟩)] w' _
      have eck : (Value.agg (ftC k).toArray).cells = (ftC k).toArray := rfl
      obtain ⟨m1, s3, C1⟩ := ftBox w' k
      refine enter97 _ _ ?_
      unfold B97
      repeat' (first | (simp (disch := omega) only [push_cast, ↓reduceIte, zA, zG, zB, zH, zI, zC, zJ, zK, zL, zD, zE, zF, zM, zN, zO, zP, zQ, reduceCtorEq, eck]) | refine iX ?_ ?_ <;> intro _ | refine And.intro (by omega) ?_ | refine dq ?_)
      generalize w'.alloc (.cells (ftC k).toArray 39) = w3 at *
      generalize w'.heap.size = kk at *
      have b0 : cellsAt w3 ⟨kk, 0, none⟩ 4 = some (ftC k) := Blk.cellsAt (l := ftC k) C1
      have t1 : w3.cell? ⟨kf + 1 + 1 + 1, 0, none⟩ = some (.func (.func 95) #[] #[.pointer (some ⟨kf + 1, 0, none⟩), .pointer (some ⟨kf + 1 + 1, 0, none⟩)]) := FT4 w3 (hl.trans m1)
      repeat' (first | (simp (disch := omega) only [push_cast, ↓reduceIte, zA, zG, zB, zH, zI, zC, zJ, zK, zL, zD, zE, zF, zM, zN, zO, zP, zQ, reduceCtorEq, b0, t1]) | refine iX ?_ ?_ <;> intro _ | refine And.intro (by omega) ?_ | refine dq ?_)
      refine (hc w3 (hl.trans m1)).mono ?_
      rintro _ w4 ⟨rfl, m4⟩
      repeat' (first | (simp (disch := omega) only [push_cast, ↓reduceIte, zA, zG, zB, zH, zI, zC, zJ, zK, zL, zD, zE, zF, zM, zN, zO, zP, zQ, reduceCtorEq]) | refine iX ?_ ?_ <;> intro _ | refine And.intro (by omega) ?_ | refine dq ?_)
      first | exact ⟨rfl, (m1.trans m4)⟩ | exact (m1.trans m4)
    repeat' (first | (simp (disch := omega) only [push_cast, ↓reduceIte, zA, zG, zB, zH, zI, zC, zJ, zK, zL, zD, zE, zF, zM, zN, zO, zP, zQ, reduceCtorEq, a0, a3, e1, e2, e3, e4, addr_add_eq, Nat.zero_add]) | refine iX ?_ ?_ <;> intro _ | refine And.intro (by omega) ?_ | refine dq ?_)
    refine (fcontainsF_c _ _ _ _ (fun k => !FT.takes d row k) w4 (h4.later l04) hp2).mono ?_
    rintro _ w5 ⟨rfl, l5⟩
    have ea : (f.kids.any fun k => !FT.takes d row k) = !f.kids.all (FT.takes d row) := by
      generalize f.kids = l
      induction l with
      | nil => rfl
      | cons a l ih => simp [ih]
    rw [ea]
    repeat' (first | (simp (disch := omega) only [push_cast, ↓reduceIte, zA, zG, zB, zH, zI, zC, zJ, zK, zL, zD, zE, zF, zM, zN, zO, zP, zQ, reduceCtorEq]) | refine iX ?_ ?_ <;> intro _ | refine And.intro (by omega) ?_ | refine dq ?_)
    first | exact ⟨(by simp), (l04.trans l5)⟩ | exact (l04.trans l5)
  have e4 : decide (f.op = 4) = false := decide_eq_false k4
  rw [if_neg k4]
  by_cases k5 : f.op = 5
  · have e5 : decide (f.op = 5) = true := decide_eq_true k5
    rw [if_pos k5]
    repeat' (first | (simp (disch := omega) only [push_cast, ↓reduceIte, zA, zG, zB, zH, zI, zC, zJ, zK, zL, zD, zE, zF, zM, zN, zO, zP, zQ, reduceCtorEq, a0, a3, t0, e1, e2, e3, e4, e5, addr_add_eq, Nat.zero_add]) | refine iX ?_ ?_ <;> intro _ | refine And.intro (by omega) ?_ | refine dq ?_)
    refine (fcontainsF_c _ _ _ _ (FT.takes d row) w4 (h4.later l04) hp).mono ?_
    rintro _ w5 ⟨rfl, l5⟩
    repeat' (first | (simp (disch := omega) only [push_cast, ↓reduceIte, zA, zG, zB, zH, zI, zC, zJ, zK, zL, zD, zE, zF, zM, zN, zO, zP, zQ, reduceCtorEq]) | refine iX ?_ ?_ <;> intro _ | refine And.intro (by omega) ?_ | refine dq ?_)
    first | exact ⟨rfl, (l04.trans l5)⟩ | exact (l04.trans l5)
  have e5 : decide (f.op = 5) = false := decide_eq_false k5
  rw [if_neg k5]
  repeat' (first | (simp (disch := omega) only [push_cast, ↓reduceIte, zA, zG, zB, zH, zI, zC, zJ, zK, zL, zD, zE, zF, zM, zN, zO, zP, zQ, reduceCtorEq, a0, e1, e2, e3, e4, e5, addr_add_eq, Nat.zero_add]) | refine iX ?_ ?_ <;> intro _ | refine And.intro (by omega) ?_ | refine dq ?_)
  first | exact ⟨rfl, l04⟩ | exact l04
end Go.Proofs.Ytnofalhkapmcnaa
end
