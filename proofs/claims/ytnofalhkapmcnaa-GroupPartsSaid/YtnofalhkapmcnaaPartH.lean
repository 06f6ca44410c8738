/- The functions' code in the generator's form. Written by a program (codes.py) out of Lean's own print of the loaded translation. -/
import Derived.Test.YtnofalhkapmcnaaPartG
set_option linter.all false
open Nat renaming reduceEqDiff → zA, reducePow → zB, reduceMul → zC, reduceAdd → zD, reduceSub → zE, reduceLeDiff → zF
open Int renaming reduceToNat → zG, reducePow → zH, reduceNeg → zI, reduceMul → zJ, reduceAdd → zK, reduceSub → zL, reduceLT → zM, reduceLE → zN, reduceEq → zO, reduceMod → zP, reduceDiv → zQ
section
namespace Go.Proofs.Ytnofalhkapmcnaa
open Go.Vc
set_option maxRecDepth 100000
variable (Q : Post) (ds : List Deferred) (σ : Env) (w : World)
/-! 59 columbary/columbarylaw13.Fits (params #[24, 65], results #[(.tmp 4)], 45 slots) -/
def W59_0 : List Nat := [4, 7, 8, 31, 32, 33, 34, 35, 36, 37, 38, 39, 40, 41, 42, 43, 44]
@[push_cast] theorem W59_0_def : W59_0 = [4, 7, 8, 31, 32, 33, 34, 35, 36, 37, 38, 39, 40, 41, 42, 43, 44] := mk_eq rfl
def r59_0 : List VOp :=
  [⟨some 2, .box 24 (.tmp 0), 0, none⟩,
   ⟨some 4, .assign (.const (.bool false)), 4, none⟩]
def r59_1 : List VOp :=
  [fad 9 24 2 0,
   lda 10 22 9,
   ⟨some 11, .call ⟨.value (.func 53), #[.tmp 10], #[22]⟩, 4, none⟩,
   asg 5 11 4]
def r59_2 : List VOp :=
  [fad 12 24 2 1,
   lda 13 22 12,
   ⟨some 14, .call ⟨.value (.func 53), #[.tmp 13], #[22]⟩, 4, none⟩,
   asg 6 14 4]
def r59_3 : List VOp :=
  [mv 15 5 4,
   ⟨some 16, .unOp .not 4 (.tmp 15), 4, none⟩,
   mv 17 16 4,
   ⟨some 18, .move (.tmp 6), 4, some (17, false)⟩,
   ⟨some 19, .unOp .not 4 (.tmp 18), 4, some (17, false)⟩,
   ⟨some 20, .pick (.tmp 17) (.const (.bool true)) (.tmp 19), 4, none⟩,
   mv 21 20 4,
   ⟨some 22, .move (.tmp 1), 65, some (21, false)⟩,
   ⟨some 23, .call ⟨.builtin .len, #[.tmp 22], #[65]⟩, 3, some (21, false)⟩,
   ⟨some 24, .binOp .gtr 3 (.tmp 23) (.const (.int .i64 120)) 3, 4, some (21, false)⟩,
   ⟨some 25, .pick (.tmp 21) (.const (.bool true)) (.tmp 24), 4, none⟩,
   mv 26 25 4,
   ⟨some 27, .load 24 (.tmp 2), 24, some (26, false)⟩,
   ⟨some 28, .call ⟨.value (.func 55), #[.tmp 27], #[24]⟩, 4, some (26, false)⟩,
   ⟨some 29, .unOp .not 4 (.tmp 28), 4, some (26, false)⟩,
   ⟨some 30, .pick (.tmp 26) (.const (.bool true)) (.tmp 29), 4, none⟩]
def r59_4 : List VOp :=
  [⟨some 4, .assign (.const (.bool false)), 4, none⟩]
def r59_5 : List VOp :=
  [⟨some 7, .assign (.const (.int .i64 0)), 3, none⟩]
def r59_6 : List VOp :=
  [mv 31 7 3,
   mv 32 1 65,
   ⟨some 33, .call ⟨.builtin .len, #[.tmp 32], #[65]⟩, 3, none⟩,
   ⟨some 34, .binOp .lss 3 (.tmp 31) (.tmp 33) 3, 4, none⟩]
def r59_8 : List VOp :=
  [lda 37 24 2,
   mv 38 1 65,
   mv 39 7 3,
   iad 40 65 38 39,
   lda 41 72 40,
   ⟨some 42, .call ⟨.value (.func 93), #[.tmp 37, .tmp 41], #[24, 72]⟩, 4, none⟩,
   asg 8 42 4]
def r59_9 : List VOp :=
  [mv 43 8 4,
   ⟨some 44, .unOp .not 4 (.tmp 43), 4, none⟩]
def r59_10 : List VOp :=
  [⟨some 4, .assign (.const (.bool false)), 4, none⟩]
def r59_7 : List VOp :=
  [mv 35 7 3,
   ⟨some 36, .binOp .add 3 (.tmp 35) (.const (.int .i64 1)) 3, 3, none⟩,
   asg 7 36 3]
def r59_11 : List VOp :=
  [⟨some 4, .assign (.const (.bool true)), 4, none⟩]
def B59 : VC :=
  (.seq (.region r59_0) (.seq (.region r59_1) (.seq (.region r59_2) (.seq (.seq (.region r59_3) (.cond (.tmp 30) (.seq (.region r59_4) .ret) .skip)) (.seq (.seq (.region r59_5) (.block 0 (.loop (.seq (.seq (.region r59_6) (.cond (.tmp 34) .skip (.exit 0))) (.seq (.block 1 (.seq (.draw r59_8 3) (.seq (.region r59_9) (.cond (.tmp 44) (.seq (.region r59_10) .ret) .skip)))) (.region r59_7)))))) (.seq (.region r59_11) .ret))))))
theorem code59 : ∃ c, Try.f59.body = some c ∧ abs Try.f59.ntmps c = B59 := ⟨_, rfl, by kernel_rfl⟩
theorem hb59 : HasBody Try.prog 59 := hasBody_of Try.func59 (by kernel_rfl)
theorem enter59 (x0 x1 : Value) : Ent 59 B59 #[(.tmp 4)] [x0, x1] := ent code59 hb59 Try.func59 rfl rfl
@[push_cast] def vr59_0 := vR r59_0.eq_1
@[push_cast] def vr59_1 := vR r59_1.eq_1
@[push_cast] def vr59_2 := vR r59_2.eq_1
@[push_cast] def vr59_3 := vR r59_3.eq_1
@[push_cast] def vr59_4 := vR r59_4.eq_1
@[push_cast] def vr59_5 := vR r59_5.eq_1
@[push_cast] def vr59_6 := vR r59_6.eq_1
@[push_cast] theorem vr59_8 : vc Try.prog (.draw r59_8 3) Q ds σ w = drawn Try.prog [(⟨some 37, .load 24 (.tmp 2), 24, none⟩, [2]), (⟨some 38, .move (.tmp 1), 65, none⟩, [1]), (⟨some 39, .move (.tmp 7), 3, none⟩, [7]), (⟨some 40, .indexAddr 65 (.tmp 38) (.tmp 39), 0, none⟩, [38, 39]), (⟨some 41, .load 72 (.tmp 40), 72, none⟩, [40]), (⟨some 42, .call ⟨.value (.func 93), #[.tmp 37, .tmp 41], #[24, 72]⟩, 4, none⟩, [37, 41]), (⟨some 8, .assign (.tmp 42), 4, none⟩, [42])] 3 (Q .normal ds) σ w := mk_eq rfl
@[push_cast] def vr59_9 := vR r59_9.eq_1
@[push_cast] def vr59_10 := vR r59_10.eq_1
@[push_cast] def vr59_7 := vR r59_7.eq_1
@[push_cast] def vr59_11 := vR r59_11.eq_1
/-! 63 columbary/rows.Fold (params #[65], results #[(.tmp 2), (.tmp 3)], 58 slots) -/
def W63_0 : List Nat := [2, 3, 4, 6, 7, 8, 9, 16, 17, 18, 19, 20, 21, 22, 23, 24, 25, 26, 27, 28, 29, 30, 31, 32, 33, 34, 35, 36, 37, 38, 39, 40, 41, 42, 43, 44, 45, 46, 47, 48, 49, 50, 51, 52, 53, 54, 55, 56]
@[push_cast] theorem W63_0_def : W63_0 = [2, 3, 4, 6, 7, 8, 9, 16, 17, 18, 19, 20, 21, 22, 23, 24, 25, 26, 27, 28, 29, 30, 31, 32, 33, 34, 35, 36, 37, 38, 39, 40, 41, 42, 43, 44, 45, 46, 47, 48, 49, 50, 51, 52, 53, 54, 55, 56] := mk_eq rfl
def r63_0 : List VOp :=
  [⟨some 2, .assign (.const (.slice none 0 0)), 65, none⟩,
   ⟨some 3, .assign (.const (.int .i64 0)), 53, none⟩]
def r63_1 : List VOp :=
  [mv 10 0 65,
   ⟨some 11, .call ⟨.value (.func 99), #[.tmp 10], #[65]⟩, 65, none⟩,
   asg 0 11 65]
def r63_2 : List VOp :=
  [mv 12 0 65,
   ⟨some 13, .call ⟨.value (.func 100), #[(.tmp 12), (.func 101)], #[65, 141]⟩, 0, none⟩]
def r63_3 : List VOp :=
  [⟨some 4, .assign (.const (.slice none 0 0)), 65, none⟩]
def r63_4 : List VOp :=
  [mv 14 0 65,
   ⟨some 15, .call ⟨.builtin .len, #[.tmp 14], #[65]⟩, 3, none⟩,
   ⟨some 16, .move (.const (.int .i64 0)), 3, none⟩]
def r63_5 : List VOp :=
  [⟨some 17, .binOp .lss 3 (.tmp 16) (.tmp 15) 3, 0, none⟩]
def r63_6 : List VOp :=
  [iad 18 65 14 16,
   lda 19 72 18,
   ⟨some 6, .alloc 72, 0, none⟩,
   ⟨none, .store 72 (.tmp 6) (.tmp 19), 0, none⟩]
def r63_7 : List VOp :=
  [mv 20 4 65,
   ⟨some 21, .call ⟨.builtin .len, #[.tmp 20], #[65]⟩, 3, none⟩,
   asg 7 21 3]
def r63_8 : List VOp :=
  [mv 22 7 3,
   ⟨some 23, .binOp .eql 3 (.tmp 22) (.const (.int .i64 0)) 3, 4, none⟩,
   mv 24 23 4,
   ⟨some 25, .move (.tmp 4), 65, some (24, false)⟩,
   ⟨some 26, .move (.tmp 7), 3, some (24, false)⟩,
   ⟨some 27, .binOp .sub 3 (.tmp 26) (.const (.int .i64 1)) 3, 3, some (24, false)⟩,
   ⟨some 28, .indexAddr 65 (.tmp 25) (.tmp 27), 0, some (24, false)⟩,
   ⟨some 29, .load 72 (.tmp 28), 72, some (24, false)⟩,
   ⟨some 30, .load 72 (.tmp 6), 72, some (24, false)⟩,
   ⟨some 31, .call ⟨.value (.func 101), #[.tmp 29, .tmp 30], #[72, 72]⟩, 3, some (24, false)⟩,
   ⟨some 32, .binOp .neq 3 (.tmp 31) (.const (.int .i64 0)) 3, 4, some (24, false)⟩,
   ⟨some 33, .pick (.tmp 24) (.const (.bool true)) (.tmp 32), 4, none⟩]
def r63_9 : List VOp :=
  [mv 34 4 65,
   lda 35 72 6,
   ⟨some 36, .buildSlice 65 1 #[(0, (.tmp 35))], 65, none⟩,
   ⟨some 37, .call ⟨.builtin .append, #[.tmp 34, .tmp 36], #[65, 65]⟩, 65, none⟩,
   asg 4 37 65]
def r63_10 : List VOp :=
  [mv 39 4 65,
   mv 40 7 3,
   ⟨some 41, .binOp .sub 3 (.tmp 40) (.const (.int .i64 1)) 3, 3, none⟩,
   iad 42 65 39 41,
   lda 43 72 42,
   lda 44 72 6,
   ⟨some 45, .call ⟨.value (.func 102), #[.tmp 43, .tmp 44], #[72, 72]⟩, 142, none⟩,
   mv 38 45 142,
   ext 46 38 0 72,
   ext 47 38 1 53,
   ⟨some 8, .alloc 72, 0, none⟩,
   ⟨none, .store 72 (.tmp 8) (.tmp 46), 0, none⟩,
   asg 9 47 53]
def r63_11 : List VOp :=
  [mv 48 9 53,
   ⟨some 49, .binOp .neq 53 (.tmp 48) (.const (.int .i64 0)) 53, 4, none⟩]
def r63_12 : List VOp :=
  [mv 50 9 53,
   ⟨some 2, .assign (.const (.slice none 0 0)), 65, none⟩,
   asg 3 50 53]
def r63_13 : List VOp :=
  [mv 51 4 65,
   mv 52 7 3,
   ⟨some 53, .binOp .sub 3 (.tmp 52) (.const (.int .i64 1)) 3, 3, none⟩,
   lda 54 72 8,
   iad 55 65 51 53,
   ⟨none, .store 72 (.tmp 55) (.tmp 54), 0, none⟩]
def r63_14 : List VOp :=
  [⟨some 56, .binOp .add 3 (.tmp 16) (.const (.int .i64 1)) 3, 3, none⟩,
   mv 16 56 3]
def r63_15 : List VOp :=
  [mv 57 4 65,
   asg 2 57 65,
   ⟨some 3, .assign (.const (.int .i64 0)), 53, none⟩]
def B63 : VC :=
  (.seq (.region r63_0) (.seq (.region r63_1) (.seq (.region r63_2) (.seq (.region r63_3) (.seq (.seq (.region r63_4) (.block 0 (.loop (.seq (.region r63_5) (.seq (.cond (.tmp 17) .skip (.exit 0)) (.seq (.block 1 (.seq (.region r63_6) (.seq (.region r63_7) (.seq (.seq (.draw r63_8 4) (.cond (.tmp 33) (.seq (.region r63_9) (.exit 1)) .skip)) (.seq (.drawS r63_10 2 [47]) (.seq (.seq (.region r63_11) (.cond (.tmp 49) (.seq (.region r63_12) .ret) .skip)) (.region r63_13))))))) (.region r63_14))))))) (.seq (.region r63_15) .ret))))))
theorem code63 : ∃ c, Try.f63.body = some c ∧ abs Try.f63.ntmps c = B63 := ⟨_, rfl, by kernel_rfl⟩
theorem hb63 : HasBody Try.prog 63 := hasBody_of Try.func63 (by kernel_rfl)
theorem enter63 (x0 : Value) : Ent 63 B63 #[(.tmp 2), (.tmp 3)] [x0] := ent code63 hb63 Try.func63 rfl rfl
@[push_cast] def vr63_0 := vR r63_0.eq_1
@[push_cast] def vr63_1 := vR r63_1.eq_1
@[push_cast] def vr63_2 := vR r63_2.eq_1
@[push_cast] def vr63_3 := vR r63_3.eq_1
@[push_cast] def vr63_4 := vR r63_4.eq_1
@[push_cast] def vr63_5 := vR r63_5.eq_1
@[push_cast] def vr63_6 := vR r63_6.eq_1
@[push_cast] def vr63_7 := vR r63_7.eq_1
@[push_cast] theorem vr63_8 : vc Try.prog (.draw r63_8 4) Q ds σ w = drawn Try.prog [(⟨some 22, .move (.tmp 7), 3, none⟩, [7]), (⟨some 23, .binOp .eql 3 (.tmp 22) (.const (.int .i64 0)) 3, 4, none⟩, [22]), (⟨some 24, .move (.tmp 23), 4, none⟩, [23]), (⟨some 25, .move (.tmp 4), 65, some (24, false)⟩, [4, 24]), (⟨some 26, .move (.tmp 7), 3, some (24, false)⟩, [7, 24]), (⟨some 27, .binOp .sub 3 (.tmp 26) (.const (.int .i64 1)) 3, 3, some (24, false)⟩, [26, 24]), (⟨some 28, .indexAddr 65 (.tmp 25) (.tmp 27), 0, some (24, false)⟩, [25, 27, 24]), (⟨some 29, .load 72 (.tmp 28), 72, some (24, false)⟩, [28, 24]), (⟨some 30, .load 72 (.tmp 6), 72, some (24, false)⟩, [6, 24]), (⟨some 31, .call ⟨.value (.func 101), #[.tmp 29, .tmp 30], #[72, 72]⟩, 3, some (24, false)⟩, [29, 30, 24]), (⟨some 32, .binOp .neq 3 (.tmp 31) (.const (.int .i64 0)) 3, 4, some (24, false)⟩, [31, 24]), (⟨some 33, .pick (.tmp 24) (.const (.bool true)) (.tmp 32), 4, none⟩, [24, 32])] 4 (Q .normal ds) σ w := mk_eq rfl
@[push_cast] def vr63_9 := vR r63_9.eq_1
@[push_cast] theorem vr63_10 : vc Try.prog (.drawS r63_10 2 [47]) Q ds σ w = drawnS Try.prog [(⟨some 39, .move (.tmp 4), 65, none⟩, [4]), (⟨some 40, .move (.tmp 7), 3, none⟩, [7]), (⟨some 41, .binOp .sub 3 (.tmp 40) (.const (.int .i64 1)) 3, 3, none⟩, [40]), (⟨some 42, .indexAddr 65 (.tmp 39) (.tmp 41), 0, none⟩, [39, 41]), (⟨some 43, .load 72 (.tmp 42), 72, none⟩, [42]), (⟨some 44, .load 72 (.tmp 6), 72, none⟩, [6]), (⟨some 45, .call ⟨.value (.func 102), #[.tmp 43, .tmp 44], #[72, 72]⟩, 142, none⟩, [43, 44]), (⟨some 38, .move (.tmp 45), 142, none⟩, [45]), (⟨some 46, .extract (.tmp 38) 0, 72, none⟩, [38]), (⟨some 47, .extract (.tmp 38) 1, 53, none⟩, [38]), (⟨some 8, .alloc 72, 0, none⟩, []), (⟨none, .store 72 (.tmp 8) (.tmp 46), 0, none⟩, [8, 46]), (⟨some 9, .assign (.tmp 47), 53, none⟩, [47])] 2 [47] (Q .normal ds) σ w := mk_eq rfl
@[push_cast] def vr63_11 := vR r63_11.eq_1
@[push_cast] def vr63_12 := vR r63_12.eq_1
@[push_cast] def vr63_13 := vR r63_13.eq_1
@[push_cast] def vr63_14 := vR r63_14.eq_1
@[push_cast] def vr63_15 := vR r63_15.eq_1
/-! 93 columbary/columbaryref13.Right (params #[24, 72], results #[(.tmp 4)], 73 slots) -/
def W93_0 : List Nat := [4, 5, 6, 25, 26, 27, 28, 29, 30, 31, 32, 33, 34, 35, 36, 37, 38, 39]
@[push_cast] theorem W93_0_def : W93_0 = [4, 5, 6, 25, 26, 27, 28, 29, 30, 31, 32, 33, 34, 35, 36, 37, 38, 39] := mk_eq rfl
def W93_1 : List Nat := [4, 7, 8, 40, 41, 42, 43, 44, 45, 46, 47, 48, 49, 50, 51, 52, 53, 54]
@[push_cast] theorem W93_1_def : W93_1 = [4, 7, 8, 40, 41, 42, 43, 44, 45, 46, 47, 48, 49, 50, 51, 52, 53, 54] := mk_eq rfl
def r93_0 : List VOp :=
  [⟨some 2, .box 24 (.tmp 0), 0, none⟩,
   ⟨some 3, .box 72 (.tmp 1), 0, none⟩,
   ⟨some 4, .assign (.const (.bool false)), 4, none⟩]
def r93_1 : List VOp :=
  [fad 9 72 3 1,
   lda 10 22 9,
   ⟨some 11, .call ⟨.builtin .len, #[.tmp 10], #[22]⟩, 3, none⟩,
   fad 12 24 2 0,
   lda 13 22 12,
   ⟨some 14, .call ⟨.builtin .len, #[.tmp 13], #[22]⟩, 3, none⟩,
   ⟨some 15, .binOp .neq 3 (.tmp 11) (.tmp 14) 3, 4, none⟩,
   mv 16 15 4,
   ⟨some 17, .fieldAddr 72 (.tmp 3) 3, 0, some (16, false)⟩,
   ⟨some 18, .load 70 (.tmp 17), 70, some (16, false)⟩,
   ⟨some 19, .call ⟨.builtin .len, #[.tmp 18], #[70]⟩, 3, some (16, false)⟩,
   ⟨some 20, .fieldAddr 24 (.tmp 2) 1, 0, some (16, false)⟩,
   ⟨some 21, .load 22 (.tmp 20), 22, some (16, false)⟩,
   ⟨some 22, .call ⟨.builtin .len, #[.tmp 21], #[22]⟩, 3, some (16, false)⟩,
   ⟨some 23, .binOp .neq 3 (.tmp 19) (.tmp 22) 3, 4, some (16, false)⟩,
   ⟨some 24, .pick (.tmp 16) (.const (.bool true)) (.tmp 23), 4, none⟩]
def r93_2 : List VOp :=
  [⟨some 4, .assign (.const (.bool false)), 4, none⟩]
def r93_3 : List VOp :=
  [⟨some 5, .assign (.const (.int .i64 0)), 3, none⟩]
def r93_4 : List VOp :=
  [mv 25 5 3,
   fad 26 72 3 1,
   lda 27 22 26,
   ⟨some 28, .call ⟨.builtin .len, #[.tmp 27], #[22]⟩, 3, none⟩,
   ⟨some 29, .binOp .lss 3 (.tmp 25) (.tmp 28) 3, 4, none⟩]
def r93_6 : List VOp :=
  [fad 32 72 3 1,
   lda 33 22 32,
   mv 34 5 3,
   iad 35 22 33 34,
   lda 36 9 35,
   ⟨some 37, .call ⟨.value (.func 127), #[.tmp 36], #[9]⟩, 4, none⟩,
   asg 6 37 4]
def r93_7 : List VOp :=
  [mv 38 6 4,
   ⟨some 39, .unOp .not 4 (.tmp 38), 4, none⟩]
def r93_8 : List VOp :=
  [⟨some 4, .assign (.const (.bool false)), 4, none⟩]
def r93_5 : List VOp :=
  [mv 30 5 3,
   ⟨some 31, .binOp .add 3 (.tmp 30) (.const (.int .i64 1)) 3, 3, none⟩,
   asg 5 31 3]
def r93_9 : List VOp :=
  [⟨some 7, .assign (.const (.int .i64 0)), 3, none⟩]
def r93_10 : List VOp :=
  [mv 40 7 3,
   fad 41 72 3 3,
   lda 42 70 41,
   ⟨some 43, .call ⟨.builtin .len, #[.tmp 42], #[70]⟩, 3, none⟩,
   ⟨some 44, .binOp .lss 3 (.tmp 40) (.tmp 43) 3, 4, none⟩]
def r93_12 : List VOp :=
  [fad 47 72 3 3,
   lda 48 70 47,
   mv 49 7 3,
   iad 50 70 48 49,
   lda 51 111 50,
   ⟨some 52, .call ⟨.value (.func 128), #[.tmp 51], #[111]⟩, 4, none⟩,
   asg 8 52 4]
def r93_13 : List VOp :=
  [mv 53 8 4,
   ⟨some 54, .unOp .not 4 (.tmp 53), 4, none⟩]
def r93_14 : List VOp :=
  [⟨some 4, .assign (.const (.bool false)), 4, none⟩]
def r93_11 : List VOp :=
  [mv 45 7 3,
   ⟨some 46, .binOp .add 3 (.tmp 45) (.const (.int .i64 1)) 3, 3, none⟩,
   asg 7 46 3]
def r93_15 : List VOp :=
  [fad 55 72 3 0,
   lda 56 3 55,
   ⟨some 57, .binOp .geq 3 (.tmp 56) (.const (.int .i64 0)) 3, 4, none⟩,
   mv 58 57 4,
   ⟨some 59, .fieldAddr 72 (.tmp 3) 0, 0, some (58, true)⟩,
   ⟨some 60, .load 3 (.tmp 59), 3, some (58, true)⟩,
   ⟨some 61, .binOp .leq 3 (.tmp 60) (.const (.int .i64 1099511627776)) 3, 4, some (58, true)⟩,
   ⟨some 62, .pick (.tmp 58) (.tmp 61) (.const (.bool false)), 4, none⟩,
   mv 63 62 4,
   ⟨some 64, .fieldAddr 72 (.tmp 3) 2, 0, some (63, true)⟩,
   ⟨some 65, .load 3 (.tmp 64), 3, some (63, true)⟩,
   ⟨some 66, .binOp .geq 3 (.tmp 65) (.const (.int .i64 1)) 3, 4, some (63, true)⟩,
   ⟨some 67, .pick (.tmp 63) (.tmp 66) (.const (.bool false)), 4, none⟩,
   mv 68 67 4,
   ⟨some 69, .fieldAddr 72 (.tmp 3) 2, 0, some (68, true)⟩,
   ⟨some 70, .load 3 (.tmp 69), 3, some (68, true)⟩,
   ⟨some 71, .binOp .leq 3 (.tmp 70) (.const (.int .i64 1048576)) 3, 4, some (68, true)⟩,
   ⟨some 72, .pick (.tmp 68) (.tmp 71) (.const (.bool false)), 4, none⟩,
   asg 4 72 4]
def B93 : VC :=
  (.seq (.region r93_0) (.seq (.seq (.region r93_1) (.cond (.tmp 24) (.seq (.region r93_2) .ret) .skip)) (.seq (.seq (.region r93_3) (.block 0 (.loop (.seq (.seq (.region r93_4) (.cond (.tmp 29) .skip (.exit 0))) (.seq (.block 1 (.seq (.region r93_6) (.seq (.region r93_7) (.cond (.tmp 39) (.seq (.region r93_8) .ret) .skip)))) (.region r93_5)))))) (.seq (.seq (.region r93_9) (.block 2 (.loop (.seq (.seq (.region r93_10) (.cond (.tmp 44) .skip (.exit 2))) (.seq (.block 3 (.seq (.region r93_12) (.seq (.region r93_13) (.cond (.tmp 54) (.seq (.region r93_14) .ret) .skip)))) (.region r93_11)))))) (.seq (.region r93_15) .ret)))))
theorem code93 : ∃ c, Try.f93.body = some c ∧ abs Try.f93.ntmps c = B93 := ⟨_, rfl, by kernel_rfl⟩
theorem hb93 : HasBody Try.prog 93 := hasBody_of Try.func93 (by kernel_rfl)
theorem enter93 (x0 x1 : Value) : Ent 93 B93 #[(.tmp 4)] [x0, x1] := ent code93 hb93 Try.func93 rfl rfl
@[push_cast] def vr93_0 := vR r93_0.eq_1
@[push_cast] def vr93_1 := vR r93_1.eq_1
@[push_cast] def vr93_2 := vR r93_2.eq_1
@[push_cast] def vr93_3 := vR r93_3.eq_1
@[push_cast] def vr93_4 := vR r93_4.eq_1
@[push_cast] def vr93_6 := vR r93_6.eq_1
@[push_cast] def vr93_7 := vR r93_7.eq_1
@[push_cast] def vr93_8 := vR r93_8.eq_1
@[push_cast] def vr93_5 := vR r93_5.eq_1
@[push_cast] def vr93_9 := vR r93_9.eq_1
@[push_cast] def vr93_10 := vR r93_10.eq_1
@[push_cast] def vr93_12 := vR r93_12.eq_1
@[push_cast] def vr93_13 := vR r93_13.eq_1
@[push_cast] def vr93_14 := vR r93_14.eq_1
@[push_cast] def vr93_11 := vR r93_11.eq_1
@[push_cast] def vr93_15 := vR r93_15.eq_1
/-! 99 columbary/rows.Copy (params #[65], results #[(.tmp 2)], 14 slots) -/
def r99_0 : List VOp :=
  [⟨some 2, .assign (.const (.slice none 0 0)), 65, none⟩]
def r99_1 : List VOp :=
  [⟨some 3, .alloc 65, 0, none⟩]
def r99_2 : List VOp :=
  [mv 5 0 65,
   ⟨some 6, .call ⟨.value (.func 132), #[.tmp 5], #[65]⟩, 166, none⟩]
def r99_3 : List VOp :=
  [⟨some 4, .alloc 72, 0, none⟩,
   ⟨none, .store 72 (.tmp 4) (.tmp 7), 0, none⟩]
def r99_4 : List VOp :=
  [lda 8 65 3,
   lda 9 72 4,
   ⟨some 10, .call ⟨.value (.func 133), #[.tmp 9], #[72]⟩, 72, none⟩,
   ⟨some 11, .buildSlice 65 1 #[(0, (.tmp 10))], 65, none⟩,
   ⟨some 12, .call ⟨.builtin .append, #[.tmp 8, .tmp 11], #[65, 65]⟩, 65, none⟩,
   ⟨none, .store 65 (.tmp 3) (.tmp 12), 0, none⟩]
def r99_5 : List VOp :=
  [lda 13 65 3,
   asg 2 13 65]
def B99 : VC :=
  (.seq (.region r99_0) (.seq (.region r99_1) (.seq (.seq (.region r99_2) (.block 0 (.rangeFunc (.tmp 6) [7] (.region r99_3) (.block 1 (.drawR r99_4 3))))) (.seq (.region r99_5) .ret))))
theorem code99 : ∃ c, Try.f99.body = some c ∧ abs Try.f99.ntmps c = B99 := ⟨_, rfl, by kernel_rfl⟩
theorem hb99 : HasBody Try.prog 99 := hasBody_of Try.func99 (by kernel_rfl)
theorem enter99 (x0 : Value) : Ent 99 B99 #[(.tmp 2)] [x0] := ent code99 hb99 Try.func99 rfl rfl
@[push_cast] def vr99_0 := vR r99_0.eq_1
@[push_cast] def vr99_1 := vR r99_1.eq_1
@[push_cast] def vr99_2 := vR r99_2.eq_1
@[push_cast] def vr99_3 := vR r99_3.eq_1
@[push_cast] theorem vr99_4 : vc Try.prog (.drawR r99_4 3) Q ds σ w = drawnR Try.prog [(⟨some 8, .load 65 (.tmp 3), 65, none⟩, [3]), (⟨some 9, .load 72 (.tmp 4), 72, none⟩, [4]), (⟨some 10, .call ⟨.value (.func 133), #[.tmp 9], #[72]⟩, 72, none⟩, [9]), (⟨some 11, .buildSlice 65 1 #[(0, (.tmp 10))], 65, none⟩, [10]), (⟨some 12, .call ⟨.builtin .append, #[.tmp 8, .tmp 11], #[65, 65]⟩, 65, none⟩, [8, 11]), (⟨none, .store 65 (.tmp 3) (.tmp 12), 0, none⟩, [3, 12])] 3 (Q .normal ds) σ w := mk_eq rfl
@[push_cast] def vr99_5 := vR r99_5.eq_1
/-! 101 columbary/rows.Compare (params #[72, 72], results #[(.tmp 4)], 17 slots) -/
def r101_0 : List VOp :=
  [⟨some 2, .box 72 (.tmp 0), 0, none⟩,
   ⟨some 3, .box 72 (.tmp 1), 0, none⟩,
   ⟨some 4, .assign (.const (.int .i64 0)), 3, none⟩]
def r101_1 : List VOp :=
  [fad 5 72 2 0,
   lda 6 3 5,
   fad 7 72 3 0,
   lda 8 3 7,
   ⟨some 9, .call ⟨.value (.func 51), #[.tmp 6, .tmp 8], #[3, 3]⟩, 3, none⟩,
   fad 10 72 2 1,
   lda 11 22 10,
   fad 12 72 3 1,
   lda 13 22 12,
   ⟨some 14, .call ⟨.value (.func 135), #[.tmp 11, .tmp 13], #[22, 22]⟩, 3, none⟩,
   ⟨some 15, .buildSlice 29 2 #[(0, (.tmp 9)), (1, (.tmp 14))], 29, none⟩,
   ⟨some 16, .call ⟨.value (.func 50), #[.tmp 15], #[29]⟩, 3, none⟩,
   asg 4 16 3]
def B101 : VC :=
  (.seq (.region r101_0) (.seq (.draw r101_1 5) .ret))
theorem code101 : ∃ c, Try.f101.body = some c ∧ abs Try.f101.ntmps c = B101 := ⟨_, rfl, by kernel_rfl⟩
theorem hb101 : HasBody Try.prog 101 := hasBody_of Try.func101 (by kernel_rfl)
theorem enter101 (x0 x1 : Value) : Ent 101 B101 #[(.tmp 4)] [x0, x1] := ent code101 hb101 Try.func101 rfl rfl
@[push_cast] def vr101_0 := vR r101_0.eq_1
@[push_cast] theorem vr101_1 : vc Try.prog (.draw r101_1 5) Q ds σ w = drawn Try.prog [(⟨some 5, .fieldAddr 72 (.tmp 2) 0, 0, none⟩, [2]), (⟨some 6, .load 3 (.tmp 5), 3, none⟩, [5]), (⟨some 7, .fieldAddr 72 (.tmp 3) 0, 0, none⟩, [3]), (⟨some 8, .load 3 (.tmp 7), 3, none⟩, [7]), (⟨some 9, .call ⟨.value (.func 51), #[.tmp 6, .tmp 8], #[3, 3]⟩, 3, none⟩, [6, 8]), (⟨some 10, .fieldAddr 72 (.tmp 2) 1, 0, none⟩, [2]), (⟨some 11, .load 22 (.tmp 10), 22, none⟩, [10]), (⟨some 12, .fieldAddr 72 (.tmp 3) 1, 0, none⟩, [3]), (⟨some 13, .load 22 (.tmp 12), 22, none⟩, [12]), (⟨some 14, .call ⟨.value (.func 135), #[.tmp 11, .tmp 13], #[22, 22]⟩, 3, none⟩, [11, 13]), (⟨some 15, .buildSlice 29 2 #[(0, (.tmp 9)), (1, (.tmp 14))], 29, none⟩, [9, 14]), (⟨some 16, .call ⟨.value (.func 50), #[.tmp 15], #[29]⟩, 3, none⟩, [15]), (⟨some 4, .assign (.tmp 16), 3, none⟩, [16])] 5 (Q .normal ds) σ w := mk_eq rfl
/-! 102 columbary/rows.Join (params #[72, 72], results #[(.cell 4 72), (.tmp 5)], 74 slots) -/
def W102_0 : List Nat := [5, 7, 8, 9, 10, 48, 49, 50, 51, 52, 53, 54, 55, 56, 57, 58, 59, 60, 61, 62, 63, 64, 65, 66, 67, 68, 69, 70, 71, 72]
@[push_cast] theorem W102_0_def : W102_0 = [5, 7, 8, 9, 10, 48, 49, 50, 51, 52, 53, 54, 55, 56, 57, 58, 59, 60, 61, 62, 63, 64, 65, 66, 67, 68, 69, 70, 71, 72] := mk_eq rfl
def r102_0 : List VOp :=
  [⟨some 2, .box 72 (.tmp 0), 0, none⟩,
   ⟨some 3, .box 72 (.tmp 1), 0, none⟩,
   ⟨some 4, .alloc 72, 0, none⟩,
   ⟨some 5, .assign (.const (.int .i64 0)), 53, none⟩]
def r102_1 : List VOp :=
  [lda 12 72 2,
   lda 13 72 3,
   ⟨some 14, .call ⟨.value (.func 101), #[.tmp 12, .tmp 13], #[72, 72]⟩, 3, none⟩,
   ⟨some 15, .binOp .neq 3 (.tmp 14) (.const (.int .i64 0)) 3, 4, none⟩,
   mv 16 15 4,
   ⟨some 17, .fieldAddr 72 (.tmp 2) 3, 0, some (16, false)⟩,
   ⟨some 18, .load 70 (.tmp 17), 70, some (16, false)⟩,
   ⟨some 19, .call ⟨.builtin .len, #[.tmp 18], #[70]⟩, 3, some (16, false)⟩,
   ⟨some 20, .fieldAddr 72 (.tmp 3) 3, 0, some (16, false)⟩,
   ⟨some 21, .load 70 (.tmp 20), 70, some (16, false)⟩,
   ⟨some 22, .call ⟨.builtin .len, #[.tmp 21], #[70]⟩, 3, some (16, false)⟩,
   ⟨some 23, .binOp .neq 3 (.tmp 19) (.tmp 22) 3, 4, some (16, false)⟩,
   ⟨some 24, .pick (.tmp 16) (.const (.bool true)) (.tmp 23), 4, none⟩,
   asg 11 24 4]
def r102_2 : List VOp :=
  [⟨some 25, .build 72 #[], 72, none⟩,
   ⟨none, .store 72 (.tmp 4) (.tmp 25), 0, none⟩,
   ⟨some 5, .assign (.const (.int .i64 131)), 53, none⟩]
def r102_3 : List VOp :=
  [fad 27 72 2 2,
   lda 28 3 27,
   fad 29 72 3 2,
   lda 30 3 29,
   ⟨some 31, .binOp .add 3 (.tmp 28) (.tmp 30) 3, 3, none⟩,
   ⟨some 32, .binOp .gtr 3 (.tmp 31) (.const (.int .i64 1048576)) 3, 4, none⟩,
   asg 26 32 4]
def r102_4 : List VOp :=
  [⟨some 33, .build 72 #[], 72, none⟩,
   ⟨none, .store 72 (.tmp 4) (.tmp 33), 0, none⟩,
   ⟨some 5, .assign (.const (.int .i64 121)), 53, none⟩]
def r102_5 : List VOp :=
  [fad 34 72 2 0,
   lda 35 3 34,
   fad 36 72 2 1,
   lda 37 22 36,
   ⟨some 38, .call ⟨.value (.func 75), #[.tmp 37], #[22]⟩, 22, none⟩,
   fad 39 72 2 2,
   lda 40 3 39,
   fad 41 72 3 2,
   lda 42 3 41,
   ⟨some 43, .binOp .add 3 (.tmp 40) (.tmp 42) 3, 3, none⟩,
   ⟨some 44, .build 72 #[(0, (.tmp 35)), (1, (.tmp 38)), (2, (.tmp 43))], 72, none⟩,
   ⟨some 6, .alloc 72, 0, none⟩,
   ⟨none, .store 72 (.tmp 6) (.tmp 44), 0, none⟩]
def r102_6 : List VOp :=
  [fad 45 72 2 3,
   lda 46 70 45,
   ⟨some 47, .call ⟨.builtin .len, #[.tmp 46], #[70]⟩, 3, none⟩,
   ⟨some 48, .move (.const (.int .i64 0)), 3, none⟩]
def r102_7 : List VOp :=
  [⟨some 49, .binOp .lss 3 (.tmp 48) (.tmp 47) 3, 0, none⟩]
def r102_8 : List VOp :=
  [mv 50 48 3,
   iad 51 70 46 48,
   lda 52 111 51,
   ⟨some 8, .alloc 111, 0, none⟩,
   asg 7 50 3,
   ⟨none, .store 111 (.tmp 8) (.tmp 52), 0, none⟩]
def r102_9 : List VOp :=
  [lda 54 111 8,
   fad 55 72 3 3,
   lda 56 70 55,
   mv 57 7 3,
   iad 58 70 56 57,
   lda 59 111 58,
   ⟨some 60, .call ⟨.value (.func 136), #[.tmp 54, .tmp 59], #[111, 111]⟩, 171, none⟩,
   mv 53 60 171,
   ext 61 53 0 111,
   ext 62 53 1 53,
   ⟨some 9, .alloc 111, 0, none⟩,
   ⟨none, .store 111 (.tmp 9) (.tmp 61), 0, none⟩,
   asg 10 62 53]
def r102_10 : List VOp :=
  [mv 63 10 53,
   ⟨some 64, .binOp .neq 53 (.tmp 63) (.const (.int .i64 0)) 53, 4, none⟩]
def r102_11 : List VOp :=
  [⟨some 65, .build 72 #[], 72, none⟩,
   ⟨none, .store 72 (.tmp 4) (.tmp 65), 0, none⟩,
   ⟨some 5, .assign (.const (.int .i64 121)), 53, none⟩]
def r102_12 : List VOp :=
  [fad 66 72 6 3,
   lda 67 70 66,
   lda 68 111 9,
   ⟨some 69, .buildSlice 70 1 #[(0, (.tmp 68))], 70, none⟩,
   ⟨some 70, .call ⟨.builtin .append, #[.tmp 67, .tmp 69], #[70, 70]⟩, 70, none⟩,
   fad 71 72 6 3,
   ⟨none, .store 70 (.tmp 71) (.tmp 70), 0, none⟩]
def r102_13 : List VOp :=
  [⟨some 72, .binOp .add 3 (.tmp 48) (.const (.int .i64 1)) 3, 3, none⟩,
   mv 48 72 3]
def r102_14 : List VOp :=
  [lda 73 72 6,
   ⟨none, .store 72 (.tmp 4) (.tmp 73), 0, none⟩,
   ⟨some 5, .assign (.const (.int .i64 0)), 53, none⟩]
def B102 : VC :=
  (.seq (.region r102_0) (.seq (.block 0 (.seq (.region r102_1) (.cond (.tmp 11) (.seq (.region r102_2) .ret) (.seq (.region r102_3) (.cond (.tmp 26) (.seq (.region r102_4) .ret) .skip))))) (.seq (.draw r102_5 2) (.seq (.seq (.region r102_6) (.block 1 (.loop (.seq (.region r102_7) (.seq (.cond (.tmp 49) .skip (.exit 1)) (.seq (.block 2 (.seq (.region r102_8) (.seq (.drawS r102_9 2 [62]) (.seq (.seq (.region r102_10) (.cond (.tmp 64) (.seq (.region r102_11) .ret) .skip)) (.region r102_12))))) (.region r102_13))))))) (.seq (.region r102_14) .ret)))))
theorem code102 : ∃ c, Try.f102.body = some c ∧ abs Try.f102.ntmps c = B102 := ⟨_, rfl, by kernel_rfl⟩
theorem hb102 : HasBody Try.prog 102 := hasBody_of Try.func102 (by kernel_rfl)
theorem enter102 (x0 x1 : Value) : Ent 102 B102 #[(.cell 4 72), (.tmp 5)] [x0, x1] := ent code102 hb102 Try.func102 rfl rfl
@[push_cast] def vr102_0 := vR r102_0.eq_1
@[push_cast] def vr102_1 := vR r102_1.eq_1
@[push_cast] def vr102_2 := vR r102_2.eq_1
@[push_cast] def vr102_3 := vR r102_3.eq_1
@[push_cast] def vr102_4 := vR r102_4.eq_1
@[push_cast] theorem vr102_5 : vc Try.prog (.draw r102_5 2) Q ds σ w = drawn Try.prog [(⟨some 34, .fieldAddr 72 (.tmp 2) 0, 0, none⟩, [2]), (⟨some 35, .load 3 (.tmp 34), 3, none⟩, [34]), (⟨some 36, .fieldAddr 72 (.tmp 2) 1, 0, none⟩, [2]), (⟨some 37, .load 22 (.tmp 36), 22, none⟩, [36]), (⟨some 38, .call ⟨.value (.func 75), #[.tmp 37], #[22]⟩, 22, none⟩, [37]), (⟨some 39, .fieldAddr 72 (.tmp 2) 2, 0, none⟩, [2]), (⟨some 40, .load 3 (.tmp 39), 3, none⟩, [39]), (⟨some 41, .fieldAddr 72 (.tmp 3) 2, 0, none⟩, [3]), (⟨some 42, .load 3 (.tmp 41), 3, none⟩, [41]), (⟨some 43, .binOp .add 3 (.tmp 40) (.tmp 42) 3, 3, none⟩, [40, 42]), (⟨some 44, .build 72 #[(0, (.tmp 35)), (1, (.tmp 38)), (2, (.tmp 43))], 72, none⟩, [35, 38, 43]), (⟨some 6, .alloc 72, 0, none⟩, []), (⟨none, .store 72 (.tmp 6) (.tmp 44), 0, none⟩, [6, 44])] 2 (Q .normal ds) σ w := mk_eq rfl
@[push_cast] def vr102_6 := vR r102_6.eq_1
@[push_cast] def vr102_7 := vR r102_7.eq_1
@[push_cast] def vr102_8 := vR r102_8.eq_1
@[push_cast] theorem vr102_9 : vc Try.prog (.drawS r102_9 2 [62]) Q ds σ w = drawnS Try.prog [(⟨some 54, .load 111 (.tmp 8), 111, none⟩, [8]), (⟨some 55, .fieldAddr 72 (.tmp 3) 3, 0, none⟩, [3]), (⟨some 56, .load 70 (.tmp 55), 70, none⟩, [55]), (⟨some 57, .move (.tmp 7), 3, none⟩, [7]), (⟨some 58, .indexAddr 70 (.tmp 56) (.tmp 57), 0, none⟩, [56, 57]), (⟨some 59, .load 111 (.tmp 58), 111, none⟩, [58]), (⟨some 60, .call ⟨.value (.func 136), #[.tmp 54, .tmp 59], #[111, 111]⟩, 171, none⟩, [54, 59]), (⟨some 53, .move (.tmp 60), 171, none⟩, [60]), (⟨some 61, .extract (.tmp 53) 0, 111, none⟩, [53]), (⟨some 62, .extract (.tmp 53) 1, 53, none⟩, [53]), (⟨some 9, .alloc 111, 0, none⟩, []), (⟨none, .store 111 (.tmp 9) (.tmp 61), 0, none⟩, [9, 61]), (⟨some 10, .assign (.tmp 62), 53, none⟩, [62])] 2 [62] (Q .normal ds) σ w := mk_eq rfl
@[push_cast] def vr102_10 := vR r102_10.eq_1
@[push_cast] def vr102_11 := vR r102_11.eq_1
@[push_cast] def vr102_12 := vR r102_12.eq_1
@[push_cast] def vr102_13 := vR r102_13.eq_1
@[push_cast] def vr102_14 := vR r102_14.eq_1
/-! 128 columbary/columbaryref12.Right (params #[111], results #[(.tmp 2)], 29 slots) -/
def r128_0 : List VOp :=
  [⟨some 1, .box 111 (.tmp 0), 0, none⟩,
   ⟨some 2, .assign (.const (.bool false)), 4, none⟩]
def r128_1 : List VOp :=
  [fad 6 111 1 0,
   lda 7 3 6,
   ⟨some 8, .call ⟨.value (.func 153), #[.tmp 7], #[3]⟩, 4, none⟩,
   asg 3 8 4]
def r128_2 : List VOp :=
  [fad 9 111 1 1,
   lda 10 3 9,
   ⟨some 11, .call ⟨.value (.func 153), #[.tmp 10], #[3]⟩, 4, none⟩,
   asg 4 11 4]
def r128_3 : List VOp :=
  [fad 12 111 1 2,
   lda 13 3 12,
   ⟨some 14, .call ⟨.value (.func 153), #[.tmp 13], #[3]⟩, 4, none⟩,
   asg 5 14 4]
def r128_4 : List VOp :=
  [mv 15 3 4,
   mv 16 15 4,
   ⟨some 17, .move (.tmp 4), 4, some (16, true)⟩,
   ⟨some 18, .pick (.tmp 16) (.tmp 17) (.const (.bool false)), 4, none⟩,
   mv 19 18 4,
   ⟨some 20, .move (.tmp 5), 4, some (19, true)⟩,
   ⟨some 21, .pick (.tmp 19) (.tmp 20) (.const (.bool false)), 4, none⟩,
   mv 22 21 4,
   ⟨some 23, .fieldAddr 111 (.tmp 1) 1, 0, some (22, true)⟩,
   ⟨some 24, .load 3 (.tmp 23), 3, some (22, true)⟩,
   ⟨some 25, .fieldAddr 111 (.tmp 1) 2, 0, some (22, true)⟩,
   ⟨some 26, .load 3 (.tmp 25), 3, some (22, true)⟩,
   ⟨some 27, .binOp .leq 3 (.tmp 24) (.tmp 26) 3, 4, some (22, true)⟩,
   ⟨some 28, .pick (.tmp 22) (.tmp 27) (.const (.bool false)), 4, none⟩,
   asg 2 28 4]
def B128 : VC :=
  (.seq (.region r128_0) (.seq (.region r128_1) (.seq (.region r128_2) (.seq (.region r128_3) (.seq (.region r128_4) .ret)))))
theorem code128 : ∃ c, Try.f128.body = some c ∧ abs Try.f128.ntmps c = B128 := ⟨_, rfl, by kernel_rfl⟩
theorem hb128 : HasBody Try.prog 128 := hasBody_of Try.func128 (by kernel_rfl)
theorem enter128 (x0 : Value) : Ent 128 B128 #[(.tmp 2)] [x0] := ent code128 hb128 Try.func128 rfl rfl
@[push_cast] def vr128_0 := vR r128_0.eq_1
@[push_cast] def vr128_1 := vR r128_1.eq_1
@[push_cast] def vr128_2 := vR r128_2.eq_1
@[push_cast] def vr128_3 := vR r128_3.eq_1
@[push_cast] def vr128_4 := vR r128_4.eq_1
/-! 132 slices.Values[[]columbary/api.Row,columbary/api.Row] (params #[65], results #[(.tmp 2)], 4 slots) -/
def r132_0 : List VOp :=
  [⟨some 1, .box 65 (.tmp 0), 0, none⟩,
   ⟨some 2, .assign (.const .nilFunc), 166, none⟩]
def r132_1 : List VOp :=
  [⟨some 3, .makeFunc (Fn.func 154) #[] #[(.tmp 1)], 165, none⟩,
   asg 2 3 166]
def B132 : VC :=
  (.seq (.region r132_0) (.seq (.region r132_1) .ret))
theorem code132 : ∃ c, Try.f132.body = some c ∧ abs Try.f132.ntmps c = B132 := ⟨_, rfl, by kernel_rfl⟩
theorem hb132 : HasBody Try.prog 132 := hasBody_of Try.func132 (by kernel_rfl)
theorem enter132 (x0 : Value) : Ent 132 B132 #[(.tmp 2)] [x0] := ent code132 hb132 Try.func132 rfl rfl
@[push_cast] def vr132_0 := vR r132_0.eq_1
@[push_cast] def vr132_1 := vR r132_1.eq_1
/-! 133 columbary/rows.own (params #[72], results #[(.cell 2 72)], 12 slots) -/
def r133_0 : List VOp :=
  [⟨some 1, .box 72 (.tmp 0), 0, none⟩,
   ⟨some 2, .alloc 72, 0, none⟩]
def r133_1 : List VOp :=
  [fad 3 72 1 1,
   lda 4 22 3,
   ⟨some 5, .call ⟨.value (.func 75), #[.tmp 4], #[22]⟩, 22, none⟩,
   fad 6 72 1 3,
   lda 7 70 6,
   ⟨some 8, .call ⟨.value (.func 155), #[.tmp 7], #[70]⟩, 70, none⟩,
   fad 9 72 1 1,
   ⟨none, .store 22 (.tmp 9) (.tmp 5), 0, none⟩,
   fad 10 72 1 3,
   ⟨none, .store 70 (.tmp 10) (.tmp 8), 0, none⟩]
def r133_2 : List VOp :=
  [lda 11 72 1,
   ⟨none, .store 72 (.tmp 2) (.tmp 11), 0, none⟩]
def B133 : VC :=
  (.seq (.region r133_0) (.seq (.draw r133_1 4) (.seq (.region r133_2) .ret)))
theorem code133 : ∃ c, Try.f133.body = some c ∧ abs Try.f133.ntmps c = B133 := ⟨_, rfl, by kernel_rfl⟩
theorem hb133 : HasBody Try.prog 133 := hasBody_of Try.func133 (by kernel_rfl)
theorem enter133 (x0 : Value) : Ent 133 B133 #[(.cell 2 72)] [x0] := ent code133 hb133 Try.func133 rfl rfl
@[push_cast] def vr133_0 := vR r133_0.eq_1
@[push_cast] theorem vr133_1 : vc Try.prog (.draw r133_1 4) Q ds σ w = drawn Try.prog [(⟨some 3, .fieldAddr 72 (.tmp 1) 1, 0, none⟩, [1]), (⟨some 4, .load 22 (.tmp 3), 22, none⟩, [3]), (⟨some 5, .call ⟨.value (.func 75), #[.tmp 4], #[22]⟩, 22, none⟩, [4]), (⟨some 6, .fieldAddr 72 (.tmp 1) 3, 0, none⟩, [1]), (⟨some 7, .load 70 (.tmp 6), 70, none⟩, [6]), (⟨some 8, .call ⟨.value (.func 155), #[.tmp 7], #[70]⟩, 70, none⟩, [7]), (⟨some 9, .fieldAddr 72 (.tmp 1) 1, 0, none⟩, [1]), (⟨none, .store 22 (.tmp 9) (.tmp 5), 0, none⟩, [9, 5]), (⟨some 10, .fieldAddr 72 (.tmp 1) 3, 0, none⟩, [1]), (⟨none, .store 70 (.tmp 10) (.tmp 8), 0, none⟩, [10, 8])] 4 (Q .normal ds) σ w := mk_eq rfl
@[push_cast] def vr133_2 := vR r133_2.eq_1
/-! 136 columbary/agg.Join (params #[111, 111], results #[(.cell 4 111), (.tmp 5)], 56 slots) -/
def r136_0 : List VOp :=
  [⟨some 2, .box 111 (.tmp 0), 0, none⟩,
   ⟨some 3, .box 111 (.tmp 1), 0, none⟩,
   ⟨some 4, .alloc 111, 0, none⟩,
   ⟨some 5, .assign (.const (.int .i64 0)), 53, none⟩]
def r136_1 : List VOp :=
  [lda 6 111 2,
   ⟨some 7, .call ⟨.value (.func 159), #[.tmp 6], #[111]⟩, 4, none⟩,
   ⟨some 8, .unOp .not 4 (.tmp 7), 4, none⟩,
   mv 9 8 4,
   ⟨some 10, .load 111 (.tmp 3), 111, some (9, false)⟩,
   ⟨some 11, .call ⟨.value (.func 159), #[.tmp 10], #[111]⟩, 4, some (9, false)⟩,
   ⟨some 12, .unOp .not 4 (.tmp 11), 4, some (9, false)⟩,
   ⟨some 13, .pick (.tmp 9) (.const (.bool true)) (.tmp 12), 4, none⟩]
def r136_2 : List VOp :=
  [⟨some 14, .build 111 #[], 111, none⟩,
   ⟨none, .store 111 (.tmp 4) (.tmp 14), 0, none⟩,
   ⟨some 5, .assign (.const (.int .i64 1)), 53, none⟩]
def r136_3 : List VOp :=
  [fad 15 111 2 0,
   lda 16 3 15,
   ⟨some 17, .binOp .gtr 3 (.tmp 16) (.const (.int .i64 0)) 3, 4, none⟩,
   mv 18 17 4,
   ⟨some 19, .fieldAddr 111 (.tmp 3) 0, 0, some (18, true)⟩,
   ⟨some 20, .load 3 (.tmp 19), 3, some (18, true)⟩,
   ⟨some 21, .fieldAddr 111 (.tmp 2) 0, 0, some (18, true)⟩,
   ⟨some 22, .load 3 (.tmp 21), 3, some (18, true)⟩,
   ⟨some 23, .binOp .sub 3 (.const (.int .i64 4611686018427387904)) (.tmp 22) 3, 3, some (18, true)⟩,
   ⟨some 24, .binOp .gtr 3 (.tmp 20) (.tmp 23) 3, 4, some (18, true)⟩,
   ⟨some 25, .pick (.tmp 18) (.tmp 24) (.const (.bool false)), 4, none⟩,
   mv 26 25 4,
   ⟨some 27, .fieldAddr 111 (.tmp 2) 0, 0, some (26, false)⟩,
   ⟨some 28, .load 3 (.tmp 27), 3, some (26, false)⟩,
   ⟨some 29, .binOp .lss 3 (.tmp 28) (.const (.int .i64 0)) 3, 4, some (26, false)⟩,
   ⟨some 30, .move (.tmp 29), 4, some (26, false)⟩,
   ⟨some 31, .fieldAddr 111 (.tmp 3) 0, 0, some (30, true)⟩,
   ⟨some 32, .load 3 (.tmp 31), 3, some (30, true)⟩,
   ⟨some 33, .fieldAddr 111 (.tmp 2) 0, 0, some (30, true)⟩,
   ⟨some 34, .load 3 (.tmp 33), 3, some (30, true)⟩,
   ⟨some 35, .binOp .sub 3 (.const (.int .i64 (-4611686018427387904))) (.tmp 34) 3, 3, some (30, true)⟩,
   ⟨some 36, .binOp .lss 3 (.tmp 32) (.tmp 35) 3, 4, some (30, true)⟩,
   ⟨some 37, .pick (.tmp 30) (.tmp 36) (.const (.bool false)), 4, some (26, false)⟩,
   ⟨some 38, .pick (.tmp 26) (.const (.bool true)) (.tmp 37), 4, none⟩]
def r136_4 : List VOp :=
  [⟨some 39, .build 111 #[], 111, none⟩,
   ⟨none, .store 111 (.tmp 4) (.tmp 39), 0, none⟩,
   ⟨some 5, .assign (.const (.int .i64 121)), 53, none⟩]
def r136_5 : List VOp :=
  [fad 40 111 2 0,
   lda 41 3 40,
   fad 42 111 3 0,
   lda 43 3 42,
   ⟨some 44, .binOp .add 3 (.tmp 41) (.tmp 43) 3, 3, none⟩,
   fad 45 111 2 1,
   lda 46 3 45,
   fad 47 111 3 1,
   lda 48 3 47,
   ⟨some 49, .call ⟨.builtin .min, #[.tmp 46, .tmp 48], #[3, 3]⟩, 3, none⟩,
   fad 50 111 2 2,
   lda 51 3 50,
   fad 52 111 3 2,
   lda 53 3 52,
   ⟨some 54, .call ⟨.builtin .max, #[.tmp 51, .tmp 53], #[3, 3]⟩, 3, none⟩,
   ⟨some 55, .build 111 #[(0, (.tmp 44)), (1, (.tmp 49)), (2, (.tmp 54))], 111, none⟩,
   ⟨none, .store 111 (.tmp 4) (.tmp 55), 0, none⟩,
   ⟨some 5, .assign (.const (.int .i64 0)), 53, none⟩]
def B136 : VC :=
  (.seq (.region r136_0) (.seq (.seq (.region r136_1) (.cond (.tmp 13) (.seq (.region r136_2) .ret) .skip)) (.seq (.seq (.region r136_3) (.cond (.tmp 38) (.seq (.region r136_4) .ret) .skip)) (.seq (.region r136_5) .ret))))
theorem code136 : ∃ c, Try.f136.body = some c ∧ abs Try.f136.ntmps c = B136 := ⟨_, rfl, by kernel_rfl⟩
theorem hb136 : HasBody Try.prog 136 := hasBody_of Try.func136 (by kernel_rfl)
theorem enter136 (x0 x1 : Value) : Ent 136 B136 #[(.cell 4 111), (.tmp 5)] [x0, x1] := ent code136 hb136 Try.func136 rfl rfl
@[push_cast] def vr136_0 := vR r136_0.eq_1
@[push_cast] def vr136_1 := vR r136_1.eq_1
@[push_cast] def vr136_2 := vR r136_2.eq_1
@[push_cast] def vr136_3 := vR r136_3.eq_1
@[push_cast] def vr136_4 := vR r136_4.eq_1
@[push_cast] def vr136_5 := vR r136_5.eq_1
/-! 153 columbary/columbaryref12.fits (params #[3], results #[(.tmp 2)], 9 slots) -/
def r153_0 : List VOp :=
  [⟨some 2, .assign (.const (.bool false)), 4, none⟩]
def r153_1 : List VOp :=
  [mv 3 0 3,
   ⟨some 4, .binOp .geq 3 (.tmp 3) (.const (.int .i64 (-4611686018427387904))) 3, 4, none⟩,
   mv 5 4 4,
   ⟨some 6, .move (.tmp 0), 3, some (5, true)⟩,
   ⟨some 7, .binOp .leq 3 (.tmp 6) (.const (.int .i64 4611686018427387904)) 3, 4, some (5, true)⟩,
   ⟨some 8, .pick (.tmp 5) (.tmp 7) (.const (.bool false)), 4, none⟩,
   asg 2 8 4]
def B153 : VC :=
  (.seq (.region r153_0) (.seq (.region r153_1) .ret))
theorem code153 : ∃ c, Try.f153.body = some c ∧ abs Try.f153.ntmps c = B153 := ⟨_, rfl, by kernel_rfl⟩
theorem hb153 : HasBody Try.prog 153 := hasBody_of Try.func153 (by kernel_rfl)
theorem enter153 (x0 : Value) : Ent 153 B153 #[(.tmp 2)] [x0] := ent code153 hb153 Try.func153 rfl rfl
@[push_cast] def vr153_0 := vR r153_0.eq_1
@[push_cast] def vr153_1 := vR r153_1.eq_1
/-! 154 slices.Values[[]columbary/api.Row,columbary/api.Row]$1 (params #[182], results #[], 16 slots) -/
def W154_0 : List Nat := [4, 7, 8, 9, 10, 11, 12, 13, 14, 15]
@[push_cast] theorem W154_0_def : W154_0 = [4, 7, 8, 9, 10, 11, 12, 13, 14, 15] := mk_eq rfl
def r154_0 : List VOp :=
  [lda 5 65 1,
   ⟨some 6, .call ⟨.builtin .len, #[.tmp 5], #[65]⟩, 3, none⟩,
   ⟨some 7, .move (.const (.int .i64 0)), 3, none⟩]
def r154_1 : List VOp :=
  [⟨some 8, .binOp .lss 3 (.tmp 7) (.tmp 6) 3, 0, none⟩]
def r154_2 : List VOp :=
  [iad 9 65 5 7,
   lda 10 72 9,
   ⟨some 4, .alloc 72, 0, none⟩,
   ⟨none, .store 72 (.tmp 4) (.tmp 10), 0, none⟩]
def r154_3 : List VOp :=
  [mv 11 0 182,
   lda 12 72 4,
   ⟨some 13, .call ⟨.value (.tmp 11), #[.tmp 12], #[72]⟩, 4, none⟩,
   ⟨some 14, .unOp .not 4 (.tmp 13), 4, none⟩]
def r154_4 : List VOp :=
  [⟨some 15, .binOp .add 3 (.tmp 7) (.const (.int .i64 1)) 3, 3, none⟩,
   mv 7 15 3]
def B154 : VC :=
  (.seq (.region r154_0) (.block 0 (.loop (.seq (.region r154_1) (.seq (.cond (.tmp 8) .skip (.exit 0)) (.seq (.block 1 (.seq (.region r154_2) (.seq (.region r154_3) (.cond (.tmp 14) .ret .skip)))) (.region r154_4)))))))
theorem code154 : ∃ c, Try.f154.body = some c ∧ abs Try.f154.ntmps c = B154 := ⟨_, rfl, by kernel_rfl⟩
theorem hb154 : HasBody Try.prog 154 := hasBody_of Try.func154 (by kernel_rfl)
theorem enter154 (x0 x1 : Value) : Ent 154 B154 #[] [x0, x1] := ent code154 hb154 Try.func154 rfl rfl
@[push_cast] def vr154_0 := vR r154_0.eq_1
@[push_cast] def vr154_1 := vR r154_1.eq_1
@[push_cast] def vr154_2 := vR r154_2.eq_1
@[push_cast] def vr154_3 := vR r154_3.eq_1
@[push_cast] def vr154_4 := vR r154_4.eq_1
/-! 155 slices.Clone[[]columbary/api.Agg,columbary/api.Agg] (params #[70], results #[(.tmp 2)], 8 slots) -/
def r155_0 : List VOp :=
  [⟨some 2, .assign (.const (.slice none 0 0)), 70, none⟩]
def r155_1 : List VOp :=
  [mv 3 0 70,
   ⟨some 4, .binOp .eql 70 (.tmp 3) (.const (.slice none 0 0)) 70, 4, none⟩]
def r155_2 : List VOp :=
  [⟨some 2, .assign (.const (.slice none 0 0)), 70, none⟩]
def r155_3 : List VOp :=
  [⟨some 5, .buildSlice 70 0 #[], 70, none⟩,
   mv 6 0 70,
   ⟨some 7, .call ⟨.builtin .append, #[.tmp 5, .tmp 6], #[70, 70]⟩, 70, none⟩,
   asg 2 7 70]
def B155 : VC :=
  (.seq (.region r155_0) (.seq (.seq (.region r155_1) (.cond (.tmp 4) (.seq (.region r155_2) .ret) .skip)) (.seq (.region r155_3) .ret)))
theorem code155 : ∃ c, Try.f155.body = some c ∧ abs Try.f155.ntmps c = B155 := ⟨_, rfl, by kernel_rfl⟩
theorem hb155 : HasBody Try.prog 155 := hasBody_of Try.func155 (by kernel_rfl)
theorem enter155 (x0 : Value) : Ent 155 B155 #[(.tmp 2)] [x0] := ent code155 hb155 Try.func155 rfl rfl
@[push_cast] def vr155_0 := vR r155_0.eq_1
@[push_cast] def vr155_1 := vR r155_1.eq_1
@[push_cast] def vr155_2 := vR r155_2.eq_1
@[push_cast] def vr155_3 := vR r155_3.eq_1
/-! 159 columbary/agg.Right (params #[111], results #[(.tmp 2)], 18 slots) -/
def r159_0 : List VOp :=
  [⟨some 1, .box 111 (.tmp 0), 0, none⟩,
   ⟨some 2, .assign (.const (.bool false)), 4, none⟩]
def r159_1 : List VOp :=
  [fad 3 111 1 0,
   lda 4 3 3,
   fad 5 111 1 1,
   lda 6 3 5,
   fad 7 111 1 2,
   lda 8 3 7,
   ⟨some 9, .buildSlice 29 3 #[(0, (.tmp 4)), (1, (.tmp 6)), (2, (.tmp 8))], 29, none⟩,
   ⟨some 10, .call ⟨.value (.func 168), #[.tmp 9], #[29]⟩, 4, none⟩,
   mv 11 10 4,
   ⟨some 12, .fieldAddr 111 (.tmp 1) 1, 0, some (11, true)⟩,
   ⟨some 13, .load 3 (.tmp 12), 3, some (11, true)⟩,
   ⟨some 14, .fieldAddr 111 (.tmp 1) 2, 0, some (11, true)⟩,
   ⟨some 15, .load 3 (.tmp 14), 3, some (11, true)⟩,
   ⟨some 16, .binOp .leq 3 (.tmp 13) (.tmp 15) 3, 4, some (11, true)⟩,
   ⟨some 17, .pick (.tmp 11) (.tmp 16) (.const (.bool false)), 4, none⟩,
   asg 2 17 4]
def B159 : VC :=
  (.seq (.region r159_0) (.seq (.region r159_1) .ret))
theorem code159 : ∃ c, Try.f159.body = some c ∧ abs Try.f159.ntmps c = B159 := ⟨_, rfl, by kernel_rfl⟩
theorem hb159 : HasBody Try.prog 159 := hasBody_of Try.func159 (by kernel_rfl)
theorem enter159 (x0 : Value) : Ent 159 B159 #[(.tmp 2)] [x0] := ent code159 hb159 Try.func159 rfl rfl
@[push_cast] def vr159_0 := vR r159_0.eq_1
@[push_cast] def vr159_1 := vR r159_1.eq_1
/-! 168 columbary/agg.fits (params #[29], results #[(.tmp 2)], 18 slots) -/
def W168_0 : List Nat := [2, 4, 7, 8, 9, 10, 11, 12, 13, 14, 15, 16, 17]
@[push_cast] theorem W168_0_def : W168_0 = [2, 4, 7, 8, 9, 10, 11, 12, 13, 14, 15, 16, 17] := mk_eq rfl
def r168_0 : List VOp :=
  [⟨some 2, .assign (.const (.bool false)), 4, none⟩]
def r168_1 : List VOp :=
  [mv 5 0 29,
   ⟨some 6, .call ⟨.builtin .len, #[.tmp 5], #[29]⟩, 3, none⟩,
   ⟨some 7, .move (.const (.int .i64 0)), 3, none⟩]
def r168_2 : List VOp :=
  [⟨some 8, .binOp .lss 3 (.tmp 7) (.tmp 6) 3, 0, none⟩]
def r168_3 : List VOp :=
  [iad 9 29 5 7,
   lda 10 3 9,
   asg 4 10 3]
def r168_4 : List VOp :=
  [mv 11 4 3,
   ⟨some 12, .binOp .lss 3 (.tmp 11) (.const (.int .i64 (-4611686018427387904))) 3, 4, none⟩,
   mv 13 12 4,
   ⟨some 14, .move (.tmp 4), 3, some (13, false)⟩,
   ⟨some 15, .binOp .gtr 3 (.tmp 14) (.const (.int .i64 4611686018427387904)) 3, 4, some (13, false)⟩,
   ⟨some 16, .pick (.tmp 13) (.const (.bool true)) (.tmp 15), 4, none⟩]
def r168_5 : List VOp :=
  [⟨some 2, .assign (.const (.bool false)), 4, none⟩]
def r168_6 : List VOp :=
  [⟨some 17, .binOp .add 3 (.tmp 7) (.const (.int .i64 1)) 3, 3, none⟩,
   mv 7 17 3]
def r168_7 : List VOp :=
  [⟨some 2, .assign (.const (.bool true)), 4, none⟩]
def B168 : VC :=
  (.seq (.region r168_0) (.seq (.seq (.region r168_1) (.block 0 (.loop (.seq (.region r168_2) (.seq (.cond (.tmp 8) .skip (.exit 0)) (.seq (.block 1 (.seq (.region r168_3) (.seq (.region r168_4) (.cond (.tmp 16) (.seq (.region r168_5) .ret) .skip)))) (.region r168_6))))))) (.seq (.region r168_7) .ret)))
theorem code168 : ∃ c, Try.f168.body = some c ∧ abs Try.f168.ntmps c = B168 := ⟨_, rfl, by kernel_rfl⟩
theorem hb168 : HasBody Try.prog 168 := hasBody_of Try.func168 (by kernel_rfl)
theorem enter168 (x0 : Value) : Ent 168 B168 #[(.tmp 2)] [x0] := ent code168 hb168 Try.func168 rfl rfl
@[push_cast] def vr168_0 := vR r168_0.eq_1
@[push_cast] def vr168_1 := vR r168_1.eq_1
@[push_cast] def vr168_2 := vR r168_2.eq_1
@[push_cast] def vr168_3 := vR r168_3.eq_1
@[push_cast] def vr168_4 := vR r168_4.eq_1
@[push_cast] def vr168_5 := vR r168_5.eq_1
@[push_cast] def vr168_6 := vR r168_6.eq_1
@[push_cast] def vr168_7 := vR r168_7.eq_1
@[push_cast] theorem bsl29_2_CodesA {K : Value → World → Prop} {w : World} (x0 : Int) (x1 : Int) : vBuildSlice Try.prog 29 2 #[(0, (.int .i64 x0)), (1, (.int .i64 x1))] K w = K (.slice (some ⟨w.heap.size, 0, none⟩) 2 2) (w.alloc (.cells #[(.int .i64 x0), (.int .i64 x1)] 3)) :=
  vBuildSlice_ok Try.underlying29 ti3 (by kernel_rfl) (by decide)
@[push_cast] theorem bsl29_3_CodesA {K : Value → World → Prop} {w : World} (x0 : Int) (x1 : Int) (x2 : Int) : vBuildSlice Try.prog 29 3 #[(0, (.int .i64 x0)), (1, (.int .i64 x1)), (2, (.int .i64 x2))] K w = K (.slice (some ⟨w.heap.size, 0, none⟩) 3 3) (w.alloc (.cells #[(.int .i64 x0), (.int .i64 x1), (.int .i64 x2)] 3)) :=
  vBuildSlice_ok Try.underlying29 ti3 (by kernel_rfl) (by decide)
@[push_cast] theorem bsl65_1_CodesA {K : Value → World → Prop} {w : World} (x00 x01 x02 x03 : Value) : vBuildSlice Try.prog 65 1 #[(0, (.agg #[x00, x01, x02, x03]))] K w = K (.slice (some ⟨w.heap.size, 0, none⟩) 1 1) (w.alloc (.cells #[x00, x01, x02, x03] 72)) :=
  vBuildSlice_ok Try.underlying65 ti72 (by kernel_rfl) (by decide)
@[push_cast] theorem bsl70_0_CodesA {K : Value → World → Prop} {w : World}  : vBuildSlice Try.prog 70 0 #[] K w = K (.slice (some ⟨w.heap.size, 0, none⟩) 0 0) (w.alloc (.cells #[] 111)) :=
  vBuildSlice_ok Try.underlying70 ti111 (by kernel_rfl) (by decide)
@[push_cast] theorem bsl70_1_CodesA {K : Value → World → Prop} {w : World} (x00 x01 x02 : Value) : vBuildSlice Try.prog 70 1 #[(0, (.agg #[x00, x01, x02]))] K w = K (.slice (some ⟨w.heap.size, 0, none⟩) 1 1) (w.alloc (.cells #[x00, x01, x02] 111)) :=
  vBuildSlice_ok Try.underlying70 ti111 (by kernel_rfl) (by decide)
@[push_cast] theorem bld72__CodesA {K : Value → World → Prop} {w : World}  : vBuild Try.prog 72 #[] K w = K (.agg #[(.int .i64 0), (.slice none 0 0), (.int .i64 0), (.slice none 0 0)]) w :=
  vBuild_ok (by kernel_rfl)
@[push_cast] theorem bld72_0_1_2_CodesA {K : Value → World → Prop} {w : World} (x0 : Int) (x1o : Option Addr) (x1n x1c : Nat) (x2 : Int) : vBuild Try.prog 72 #[(0, (.int .i64 x0)), (1, (.slice x1o x1n x1c)), (2, (.int .i64 x2))] K w = K (.agg #[(.int .i64 x0), (.slice x1o x1n x1c), (.int .i64 x2), (.slice none 0 0)]) w :=
  vBuild_ok (by kernel_rfl)
@[push_cast] theorem bld111__CodesA {K : Value → World → Prop} {w : World}  : vBuild Try.prog 111 #[] K w = K (.agg #[(.int .i64 0), (.int .i64 0), (.int .i64 0)]) w :=
  vBuild_ok (by kernel_rfl)
@[push_cast] theorem bld111_0_1_2_CodesA {K : Value → World → Prop} {w : World} (x0 : Int) (x1 : Int) (x2 : Int) : vBuild Try.prog 111 #[(0, (.int .i64 x0)), (1, (.int .i64 x1)), (2, (.int .i64 x2))] K w = K (.agg #[(.int .i64 x0), (.int .i64 x1), (.int .i64 x2)]) w :=
  vBuild_ok (by kernel_rfl)
end Go.Proofs.Ytnofalhkapmcnaa
end
section
namespace Go.Proofs.Ytnofalhkapmcnaa
open Go.Vc
set_option maxRecDepth 100000
variable (Q : Post) (ds : List Deferred) (σ : Env) (w : World)
/-! 100 slices.SortStableFunc[[]columbary/api.Row,columbary/api.Row] (params #[65, 141], results #[], 9 slots) -/
def r100_0 : List VOp :=
  [mv 4 0 65,
   mv 5 0 65,
   ⟨some 6, .call ⟨.builtin .len, #[.tmp 5], #[65]⟩, 3, none⟩,
   mv 7 1 141,
   ⟨some 8, .call ⟨.value (.func 134), #[.tmp 4, .tmp 6, .tmp 7], #[65, 3, 141]⟩, 0, none⟩]
def B100 : VC :=
  (.region r100_0)
theorem code100 : ∃ c, Try.f100.body = some c ∧ abs Try.f100.ntmps c = B100 := ⟨_, rfl, by kernel_rfl⟩
theorem hb100 : HasBody Try.prog 100 := hasBody_of Try.func100 (by kernel_rfl)
theorem enter100 (x0 x1 : Value) : Ent 100 B100 #[] [x0, x1] := ent code100 hb100 Try.func100 rfl rfl
@[push_cast] def vr100_0 := vR r100_0.eq_1
/-! 134 slices.stableCmpFunc[columbary/api.Row] (params #[65, 3, 141], results #[], 63 slots) -/
def W134_0 : List Nat := [7, 8, 11, 12, 13, 14, 15, 16, 17, 18, 19, 20, 21, 22]
@[push_cast] theorem W134_0_def : W134_0 = [7, 8, 11, 12, 13, 14, 15, 16, 17, 18, 19, 20, 21, 22] := mk_eq rfl
def W134_1 : List Nat := [6, 7, 8, 9, 28, 29, 30, 31, 32, 33, 34, 35, 36, 37, 38, 39, 40, 41, 42, 43, 44, 45, 46, 47, 48, 49, 50, 51, 52, 53, 54, 55, 56, 57, 58, 59, 60, 61, 62]
@[push_cast] theorem W134_1_def : W134_1 = [6, 7, 8, 9, 28, 29, 30, 31, 32, 33, 34, 35, 36, 37, 38, 39, 40, 41, 42, 43, 44, 45, 46, 47, 48, 49, 50, 51, 52, 53, 54, 55, 56, 57, 58, 59, 60, 61, 62] := mk_eq rfl
def W134_2 : List Nat := [7, 8, 33, 34, 35, 36, 37, 38, 39, 40, 41, 42, 43, 44, 45, 46, 47, 48]
@[push_cast] theorem W134_2_def : W134_2 = [7, 8, 33, 34, 35, 36, 37, 38, 39, 40, 41, 42, 43, 44, 45, 46, 47, 48] := mk_eq rfl
def r134_0 : List VOp :=
  [⟨some 6, .assign (.const (.int .i64 20)), 3, none⟩]
def r134_1 : List VOp :=
  [mv 10 6 3,
   ⟨some 7, .assign (.const (.int .i64 0)), 3, none⟩,
   asg 8 10 3]
def r134_2 : List VOp :=
  [mv 11 8 3,
   mv 12 1 3,
   ⟨some 13, .binOp .leq 3 (.tmp 11) (.tmp 12) 3, 4, none⟩]
def r134_3 : List VOp :=
  [mv 14 0 65,
   mv 15 7 3,
   mv 16 8 3,
   mv 17 2 141,
   ⟨some 18, .call ⟨.value (.func 156), #[.tmp 14, .tmp 15, .tmp 16, .tmp 17], #[65, 3, 3, 141]⟩, 0, none⟩]
def r134_4 : List VOp :=
  [mv 19 8 3,
   asg 7 19 3]
def r134_5 : List VOp :=
  [mv 20 8 3,
   mv 21 6 3,
   ⟨some 22, .binOp .add 3 (.tmp 20) (.tmp 21) 3, 3, none⟩,
   asg 8 22 3]
def r134_6 : List VOp :=
  [mv 23 0 65,
   mv 24 7 3,
   mv 25 1 3,
   mv 26 2 141,
   ⟨some 27, .call ⟨.value (.func 156), #[.tmp 23, .tmp 24, .tmp 25, .tmp 26], #[65, 3, 3, 141]⟩, 0, none⟩]
def r134_7 : List VOp :=
  [mv 28 6 3,
   mv 29 1 3,
   ⟨some 30, .binOp .lss 3 (.tmp 28) (.tmp 29) 3, 4, none⟩]
def r134_8 : List VOp :=
  [mv 31 6 3,
   ⟨some 32, .binOp .mul 3 (.const (.int .i64 2)) (.tmp 31) 3, 3, none⟩,
   ⟨some 7, .assign (.const (.int .i64 0)), 3, none⟩,
   asg 8 32 3]
def r134_9 : List VOp :=
  [mv 33 8 3,
   mv 34 1 3,
   ⟨some 35, .binOp .leq 3 (.tmp 33) (.tmp 34) 3, 4, none⟩]
def r134_10 : List VOp :=
  [mv 36 0 65,
   mv 37 7 3,
   mv 38 7 3,
   mv 39 6 3,
   ⟨some 40, .binOp .add 3 (.tmp 38) (.tmp 39) 3, 3, none⟩,
   mv 41 8 3,
   mv 42 2 141,
   ⟨some 43, .call ⟨.value (.func 157), #[.tmp 36, .tmp 37, .tmp 40, .tmp 41, .tmp 42], #[65, 3, 3, 3, 141]⟩, 0, none⟩]
def r134_11 : List VOp :=
  [mv 44 8 3,
   asg 7 44 3]
def r134_12 : List VOp :=
  [mv 45 8 3,
   mv 46 6 3,
   ⟨some 47, .binOp .mul 3 (.const (.int .i64 2)) (.tmp 46) 3, 3, none⟩,
   ⟨some 48, .binOp .add 3 (.tmp 45) (.tmp 47) 3, 3, none⟩,
   asg 8 48 3]
def r134_13 : List VOp :=
  [mv 49 7 3,
   mv 50 6 3,
   ⟨some 51, .binOp .add 3 (.tmp 49) (.tmp 50) 3, 3, none⟩,
   asg 9 51 3]
def r134_14 : List VOp :=
  [mv 52 9 3,
   mv 53 1 3,
   ⟨some 54, .binOp .lss 3 (.tmp 52) (.tmp 53) 3, 4, none⟩]
def r134_15 : List VOp :=
  [mv 55 0 65,
   mv 56 7 3,
   mv 57 9 3,
   mv 58 1 3,
   mv 59 2 141,
   ⟨some 60, .call ⟨.value (.func 157), #[.tmp 55, .tmp 56, .tmp 57, .tmp 58, .tmp 59], #[65, 3, 3, 3, 141]⟩, 0, none⟩]
def r134_16 : List VOp :=
  [mv 61 6 3,
   ⟨some 62, .binOp .mul 3 (.tmp 61) (.const (.int .i64 2)) 3, 3, none⟩,
   asg 6 62 3]
def B134 : VC :=
  (.seq (.region r134_0) (.seq (.region r134_1) (.seq (.block 0 (.loop (.seq (.seq (.region r134_2) (.cond (.tmp 13) .skip (.exit 0))) (.block 1 (.seq (.region r134_3) (.seq (.region r134_4) (.region r134_5))))))) (.seq (.region r134_6) (.block 2 (.loop (.seq (.seq (.region r134_7) (.cond (.tmp 30) .skip (.exit 2))) (.block 3 (.seq (.region r134_8) (.seq (.block 4 (.loop (.seq (.seq (.region r134_9) (.cond (.tmp 35) .skip (.exit 4))) (.block 5 (.seq (.region r134_10) (.seq (.region r134_11) (.region r134_12))))))) (.seq (.seq (.region r134_13) (.seq (.region r134_14) (.cond (.tmp 54) (.region r134_15) .skip))) (.region r134_16))))))))))))
theorem code134 : ∃ c, Try.f134.body = some c ∧ abs Try.f134.ntmps c = B134 := ⟨_, rfl, by kernel_rfl⟩
theorem hb134 : HasBody Try.prog 134 := hasBody_of Try.func134 (by kernel_rfl)
theorem enter134 (x0 x1 x2 : Value) : Ent 134 B134 #[] [x0, x1, x2] := ent code134 hb134 Try.func134 rfl rfl
@[push_cast] def vr134_0 := vR r134_0.eq_1
@[push_cast] def vr134_1 := vR r134_1.eq_1
@[push_cast] def vr134_2 := vR r134_2.eq_1
@[push_cast] def vr134_3 := vR r134_3.eq_1
@[push_cast] def vr134_4 := vR r134_4.eq_1
@[push_cast] def vr134_5 := vR r134_5.eq_1
@[push_cast] def vr134_6 := vR r134_6.eq_1
@[push_cast] def vr134_7 := vR r134_7.eq_1
@[push_cast] def vr134_8 := vR r134_8.eq_1
@[push_cast] def vr134_9 := vR r134_9.eq_1
@[push_cast] def vr134_10 := vR r134_10.eq_1
@[push_cast] def vr134_11 := vR r134_11.eq_1
@[push_cast] def vr134_12 := vR r134_12.eq_1
@[push_cast] def vr134_13 := vR r134_13.eq_1
@[push_cast] def vr134_14 := vR r134_14.eq_1
@[push_cast] def vr134_15 := vR r134_15.eq_1
@[push_cast] def vr134_16 := vR r134_16.eq_1
/-! 156 slices.insertionSortCmpFunc[columbary/api.Row] (params #[65, 3, 3, 141], results #[], 53 slots) -/
def W156_0 : List Nat := [8, 9, 12, 13, 14, 15, 16, 17, 18, 19, 20, 21, 22, 23, 24, 25, 26, 27, 28, 29, 30, 31, 32, 33, 34, 35, 36, 37, 38, 39, 40, 41, 42, 43, 44, 45, 46, 47, 48, 49, 50, 51, 52]
@[push_cast] theorem W156_0_def : W156_0 = [8, 9, 12, 13, 14, 15, 16, 17, 18, 19, 20, 21, 22, 23, 24, 25, 26, 27, 28, 29, 30, 31, 32, 33, 34, 35, 36, 37, 38, 39, 40, 41, 42, 43, 44, 45, 46, 47, 48, 49, 50, 51, 52] := mk_eq rfl
def W156_1 : List Nat := [9, 18, 19, 20, 21, 22, 23, 24, 25, 26, 27, 28, 29, 30, 31, 32, 33, 34, 35, 36, 37, 38, 39, 40, 41, 42, 43, 44, 45, 46, 47, 48, 49, 50, 51, 52]
@[push_cast] theorem W156_1_def : W156_1 = [9, 18, 19, 20, 21, 22, 23, 24, 25, 26, 27, 28, 29, 30, 31, 32, 33, 34, 35, 36, 37, 38, 39, 40, 41, 42, 43, 44, 45, 46, 47, 48, 49, 50, 51, 52] := mk_eq rfl
def r156_0 : List VOp :=
  [mv 10 1 3,
   ⟨some 11, .binOp .add 3 (.tmp 10) (.const (.int .i64 1)) 3, 3, none⟩,
   asg 8 11 3]
def r156_1 : List VOp :=
  [mv 12 8 3,
   mv 13 2 3,
   ⟨some 14, .binOp .lss 3 (.tmp 12) (.tmp 13) 3, 4, none⟩]
def r156_3 : List VOp :=
  [mv 17 8 3,
   asg 9 17 3]
def r156_4 : List VOp :=
  [mv 18 9 3,
   mv 19 1 3,
   ⟨some 20, .binOp .gtr 3 (.tmp 18) (.tmp 19) 3, 4, none⟩,
   mv 21 20 4,
   ⟨some 22, .move (.tmp 3), 141, some (21, true)⟩,
   ⟨some 23, .move (.tmp 0), 65, some (21, true)⟩,
   ⟨some 24, .move (.tmp 9), 3, some (21, true)⟩,
   ⟨some 25, .indexAddr 65 (.tmp 23) (.tmp 24), 0, some (21, true)⟩,
   ⟨some 26, .load 72 (.tmp 25), 72, some (21, true)⟩,
   ⟨some 27, .move (.tmp 0), 65, some (21, true)⟩,
   ⟨some 28, .move (.tmp 9), 3, some (21, true)⟩,
   ⟨some 29, .binOp .sub 3 (.tmp 28) (.const (.int .i64 1)) 3, 3, some (21, true)⟩,
   ⟨some 30, .indexAddr 65 (.tmp 27) (.tmp 29), 0, some (21, true)⟩,
   ⟨some 31, .load 72 (.tmp 30), 72, some (21, true)⟩,
   ⟨some 32, .call ⟨.value (.tmp 22), #[.tmp 26, .tmp 31], #[72, 72]⟩, 3, some (21, true)⟩,
   ⟨some 33, .binOp .lss 3 (.tmp 32) (.const (.int .i64 0)) 3, 4, some (21, true)⟩,
   ⟨some 34, .pick (.tmp 21) (.tmp 33) (.const (.bool false)), 4, none⟩]
def r156_6 : List VOp :=
  [mv 37 0 65,
   mv 38 9 3,
   mv 39 0 65,
   mv 40 9 3,
   ⟨some 41, .binOp .sub 3 (.tmp 40) (.const (.int .i64 1)) 3, 3, none⟩,
   mv 42 0 65,
   mv 43 9 3,
   ⟨some 44, .binOp .sub 3 (.tmp 43) (.const (.int .i64 1)) 3, 3, none⟩,
   iad 45 65 42 44,
   lda 46 72 45,
   mv 47 0 65,
   mv 48 9 3,
   iad 49 65 47 48,
   lda 50 72 49,
   iad 51 65 37 38,
   ⟨none, .store 72 (.tmp 51) (.tmp 46), 0, none⟩,
   iad 52 65 39 41,
   ⟨none, .store 72 (.tmp 52) (.tmp 50), 0, none⟩]
def r156_5 : List VOp :=
  [mv 35 9 3,
   ⟨some 36, .binOp .sub 3 (.tmp 35) (.const (.int .i64 1)) 3, 3, none⟩,
   asg 9 36 3]
def r156_2 : List VOp :=
  [mv 15 8 3,
   ⟨some 16, .binOp .add 3 (.tmp 15) (.const (.int .i64 1)) 3, 3, none⟩,
   asg 8 16 3]
def B156 : VC :=
  (.seq (.region r156_0) (.block 0 (.loop (.seq (.seq (.region r156_1) (.cond (.tmp 14) .skip (.exit 0))) (.seq (.block 1 (.seq (.region r156_3) (.block 2 (.loop (.seq (.seq (.draw r156_4 4) (.cond (.tmp 34) .skip (.exit 2))) (.seq (.block 3 (.drawS r156_6 3 [39, 40, 41])) (.region r156_5))))))) (.region r156_2))))))
theorem code156 : ∃ c, Try.f156.body = some c ∧ abs Try.f156.ntmps c = B156 := ⟨_, rfl, by kernel_rfl⟩
theorem hb156 : HasBody Try.prog 156 := hasBody_of Try.func156 (by kernel_rfl)
theorem enter156 (x0 x1 x2 x3 : Value) : Ent 156 B156 #[] [x0, x1, x2, x3] := ent code156 hb156 Try.func156 rfl rfl
@[push_cast] def vr156_0 := vR r156_0.eq_1
@[push_cast] def vr156_1 := vR r156_1.eq_1
@[push_cast] def vr156_3 := vR r156_3.eq_1
@[push_cast] theorem vr156_4 : vc Try.prog (.draw r156_4 4) Q ds σ w = drawn Try.prog [(⟨some 18, .move (.tmp 9), 3, none⟩, [9]), (⟨some 19, .move (.tmp 1), 3, none⟩, [1]), (⟨some 20, .binOp .gtr 3 (.tmp 18) (.tmp 19) 3, 4, none⟩, [18, 19]), (⟨some 21, .move (.tmp 20), 4, none⟩, [20]), (⟨some 22, .move (.tmp 3), 141, some (21, true)⟩, [3, 21]), (⟨some 23, .move (.tmp 0), 65, some (21, true)⟩, [0, 21]), (⟨some 24, .move (.tmp 9), 3, some (21, true)⟩, [9, 21]), (⟨some 25, .indexAddr 65 (.tmp 23) (.tmp 24), 0, some (21, true)⟩, [23, 24, 21]), (⟨some 26, .load 72 (.tmp 25), 72, some (21, true)⟩, [25, 21]), (⟨some 27, .move (.tmp 0), 65, some (21, true)⟩, [0, 21]), (⟨some 28, .move (.tmp 9), 3, some (21, true)⟩, [9, 21]), (⟨some 29, .binOp .sub 3 (.tmp 28) (.const (.int .i64 1)) 3, 3, some (21, true)⟩, [28, 21]), (⟨some 30, .indexAddr 65 (.tmp 27) (.tmp 29), 0, some (21, true)⟩, [27, 29, 21]), (⟨some 31, .load 72 (.tmp 30), 72, some (21, true)⟩, [30, 21]), (⟨some 32, .call ⟨.value (.tmp 22), #[.tmp 26, .tmp 31], #[72, 72]⟩, 3, some (21, true)⟩, [22, 26, 31, 21]), (⟨some 33, .binOp .lss 3 (.tmp 32) (.const (.int .i64 0)) 3, 4, some (21, true)⟩, [32, 21]), (⟨some 34, .pick (.tmp 21) (.tmp 33) (.const (.bool false)), 4, none⟩, [21, 33])] 4 (Q .normal ds) σ w := mk_eq rfl
@[push_cast] theorem vr156_6 : vc Try.prog (.drawS r156_6 3 [39, 40, 41]) Q ds σ w = drawnS Try.prog [(⟨some 37, .move (.tmp 0), 65, none⟩, [0]), (⟨some 38, .move (.tmp 9), 3, none⟩, [9]), (⟨some 39, .move (.tmp 0), 65, none⟩, [0]), (⟨some 40, .move (.tmp 9), 3, none⟩, [9]), (⟨some 41, .binOp .sub 3 (.tmp 40) (.const (.int .i64 1)) 3, 3, none⟩, [40]), (⟨some 42, .move (.tmp 0), 65, none⟩, [0]), (⟨some 43, .move (.tmp 9), 3, none⟩, [9]), (⟨some 44, .binOp .sub 3 (.tmp 43) (.const (.int .i64 1)) 3, 3, none⟩, [43]), (⟨some 45, .indexAddr 65 (.tmp 42) (.tmp 44), 0, none⟩, [42, 44]), (⟨some 46, .load 72 (.tmp 45), 72, none⟩, [45]), (⟨some 47, .move (.tmp 0), 65, none⟩, [0]), (⟨some 48, .move (.tmp 9), 3, none⟩, [9]), (⟨some 49, .indexAddr 65 (.tmp 47) (.tmp 48), 0, none⟩, [47, 48]), (⟨some 50, .load 72 (.tmp 49), 72, none⟩, [49]), (⟨some 51, .indexAddr 65 (.tmp 37) (.tmp 38), 0, none⟩, [37, 38]), (⟨none, .store 72 (.tmp 51) (.tmp 46), 0, none⟩, [51, 46]), (⟨some 52, .indexAddr 65 (.tmp 39) (.tmp 41), 0, none⟩, [39, 41]), (⟨none, .store 72 (.tmp 52) (.tmp 50), 0, none⟩, [52, 50])] 3 [39, 40, 41] (Q .normal ds) σ w := mk_eq rfl
@[push_cast] def vr156_5 := vR r156_5.eq_1
@[push_cast] def vr156_2 := vR r156_2.eq_1
/-! 157 slices.symMergeCmpFunc[columbary/api.Row] (params #[65, 3, 3, 3, 141], results #[], 220 slots) -/
def W157_0 : List Nat := [10, 11, 12, 31, 32, 33, 34, 35, 36, 37, 38, 39, 40, 41, 42, 43, 44, 45, 46, 47, 48, 49, 50, 51, 52, 53]
@[push_cast] theorem W157_0_def : W157_0 = [10, 11, 12, 31, 32, 33, 34, 35, 36, 37, 38, 39, 40, 41, 42, 43, 44, 45, 46, 47, 48, 49, 50, 51, 52, 53] := mk_eq rfl
def W157_1 : List Nat := [13, 55, 56, 57, 58, 59, 60, 61, 62, 63, 64, 65, 66, 67, 68, 69, 70, 71, 72, 73, 74, 75, 76]
@[push_cast] theorem W157_1_def : W157_1 = [13, 55, 56, 57, 58, 59, 60, 61, 62, 63, 64, 65, 66, 67, 68, 69, 70, 71, 72, 73, 74, 75, 76] := mk_eq rfl
def W157_2 : List Nat := [14, 15, 16, 83, 84, 85, 86, 87, 88, 89, 90, 91, 92, 93, 94, 95, 96, 97, 98, 99, 100, 101, 102, 103, 104, 105, 106]
@[push_cast] theorem W157_2_def : W157_2 = [14, 15, 16, 83, 84, 85, 86, 87, 88, 89, 90, 91, 92, 93, 94, 95, 96, 97, 98, 99, 100, 101, 102, 103, 104, 105, 106] := mk_eq rfl
def W157_3 : List Nat := [17, 108, 109, 110, 111, 112, 113, 114, 115, 116, 117, 118, 119, 120, 121, 122, 123, 124, 125, 126, 127, 128]
@[push_cast] theorem W157_3_def : W157_3 = [17, 108, 109, 110, 111, 112, 113, 114, 115, 116, 117, 118, 119, 120, 121, 122, 123, 124, 125, 126, 127, 128] := mk_eq rfl
def W157_4 : List Nat := [20, 21, 23, 149, 150, 151, 152, 153, 154, 155, 156, 157, 158, 159, 160, 161, 162, 163, 164, 165, 166, 167, 168, 169, 170, 171, 172, 173, 174]
@[push_cast] theorem W157_4_def : W157_4 = [20, 21, 23, 149, 150, 151, 152, 153, 154, 155, 156, 157, 158, 159, 160, 161, 162, 163, 164, 165, 166, 167, 168, 169, 170, 171, 172, 173, 174] := mk_eq rfl
def r157_0 : List VOp :=
  [mv 25 2 3,
   mv 26 1 3,
   ⟨some 27, .binOp .sub 3 (.tmp 25) (.tmp 26) 3, 3, none⟩,
   ⟨some 28, .binOp .eql 3 (.tmp 27) (.const (.int .i64 1)) 3, 4, none⟩]
def r157_1 : List VOp :=
  [mv 29 2 3,
   asg 10 29 3]
def r157_2 : List VOp :=
  [mv 30 3 3,
   asg 11 30 3]
def r157_3 : List VOp :=
  [mv 31 10 3,
   mv 32 11 3,
   ⟨some 33, .binOp .lss 3 (.tmp 31) (.tmp 32) 3, 4, none⟩]
def r157_4 : List VOp :=
  [mv 34 10 3,
   mv 35 11 3,
   ⟨some 36, .binOp .add 3 (.tmp 34) (.tmp 35) 3, 3, none⟩,
   ⟨some 37, .convert 3 69 (.tmp 36), 69, none⟩,
   ⟨some 38, .binOp .shr 69 (.tmp 37) (.const (.int .u64 1)) 69, 69, none⟩,
   ⟨some 39, .convert 69 3 (.tmp 38), 3, none⟩,
   asg 12 39 3]
def r157_5 : List VOp :=
  [mv 40 4 141,
   mv 41 0 65,
   mv 42 12 3,
   iad 43 65 41 42,
   lda 44 72 43,
   mv 45 0 65,
   mv 46 1 3,
   iad 47 65 45 46,
   lda 48 72 47,
   ⟨some 49, .call ⟨.value (.tmp 40), #[.tmp 44, .tmp 48], #[72, 72]⟩, 3, none⟩,
   ⟨some 50, .binOp .lss 3 (.tmp 49) (.const (.int .i64 0)) 3, 4, none⟩]
def r157_6 : List VOp :=
  [mv 51 12 3,
   ⟨some 52, .binOp .add 3 (.tmp 51) (.const (.int .i64 1)) 3, 3, none⟩,
   asg 10 52 3]
def r157_7 : List VOp :=
  [mv 53 12 3,
   asg 11 53 3]
def r157_8 : List VOp :=
  [mv 54 1 3,
   asg 13 54 3]
def r157_9 : List VOp :=
  [mv 55 13 3,
   mv 56 10 3,
   ⟨some 57, .binOp .sub 3 (.tmp 56) (.const (.int .i64 1)) 3, 3, none⟩,
   ⟨some 58, .binOp .lss 3 (.tmp 55) (.tmp 57) 3, 4, none⟩]
def r157_11 : List VOp :=
  [mv 61 0 65,
   mv 62 13 3,
   mv 63 0 65,
   mv 64 13 3,
   ⟨some 65, .binOp .add 3 (.tmp 64) (.const (.int .i64 1)) 3, 3, none⟩,
   mv 66 0 65,
   mv 67 13 3,
   ⟨some 68, .binOp .add 3 (.tmp 67) (.const (.int .i64 1)) 3, 3, none⟩,
   iad 69 65 66 68,
   lda 70 72 69,
   mv 71 0 65,
   mv 72 13 3,
   iad 73 65 71 72,
   lda 74 72 73,
   iad 75 65 61 62,
   ⟨none, .store 72 (.tmp 75) (.tmp 70), 0, none⟩,
   iad 76 65 63 65,
   ⟨none, .store 72 (.tmp 76) (.tmp 74), 0, none⟩]
def r157_10 : List VOp :=
  [mv 59 13 3,
   ⟨some 60, .binOp .add 3 (.tmp 59) (.const (.int .i64 1)) 3, 3, none⟩,
   asg 13 60 3]
def r157_12 : List VOp :=
  [mv 77 3 3,
   mv 78 2 3,
   ⟨some 79, .binOp .sub 3 (.tmp 77) (.tmp 78) 3, 3, none⟩,
   ⟨some 80, .binOp .eql 3 (.tmp 79) (.const (.int .i64 1)) 3, 4, none⟩]
def r157_13 : List VOp :=
  [mv 81 1 3,
   asg 14 81 3]
def r157_14 : List VOp :=
  [mv 82 2 3,
   asg 15 82 3]
def r157_15 : List VOp :=
  [mv 83 14 3,
   mv 84 15 3,
   ⟨some 85, .binOp .lss 3 (.tmp 83) (.tmp 84) 3, 4, none⟩]
def r157_16 : List VOp :=
  [mv 86 14 3,
   mv 87 15 3,
   ⟨some 88, .binOp .add 3 (.tmp 86) (.tmp 87) 3, 3, none⟩,
   ⟨some 89, .convert 3 69 (.tmp 88), 69, none⟩,
   ⟨some 90, .binOp .shr 69 (.tmp 89) (.const (.int .u64 1)) 69, 69, none⟩,
   ⟨some 91, .convert 69 3 (.tmp 90), 3, none⟩,
   asg 16 91 3]
def r157_17 : List VOp :=
  [mv 92 4 141,
   mv 93 0 65,
   mv 94 2 3,
   iad 95 65 93 94,
   lda 96 72 95,
   mv 97 0 65,
   mv 98 16 3,
   iad 99 65 97 98,
   lda 100 72 99,
   ⟨some 101, .call ⟨.value (.tmp 92), #[.tmp 96, .tmp 100], #[72, 72]⟩, 3, none⟩,
   ⟨some 102, .binOp .lss 3 (.tmp 101) (.const (.int .i64 0)) 3, 4, none⟩,
   ⟨some 103, .unOp .not 4 (.tmp 102), 4, none⟩]
def r157_18 : List VOp :=
  [mv 104 16 3,
   ⟨some 105, .binOp .add 3 (.tmp 104) (.const (.int .i64 1)) 3, 3, none⟩,
   asg 14 105 3]
def r157_19 : List VOp :=
  [mv 106 16 3,
   asg 15 106 3]
def r157_20 : List VOp :=
  [mv 107 2 3,
   asg 17 107 3]
def r157_21 : List VOp :=
  [mv 108 17 3,
   mv 109 14 3,
   ⟨some 110, .binOp .gtr 3 (.tmp 108) (.tmp 109) 3, 4, none⟩]
def r157_23 : List VOp :=
  [mv 113 0 65,
   mv 114 17 3,
   mv 115 0 65,
   mv 116 17 3,
   ⟨some 117, .binOp .sub 3 (.tmp 116) (.const (.int .i64 1)) 3, 3, none⟩,
   mv 118 0 65,
   mv 119 17 3,
   ⟨some 120, .binOp .sub 3 (.tmp 119) (.const (.int .i64 1)) 3, 3, none⟩,
   iad 121 65 118 120,
   lda 122 72 121,
   mv 123 0 65,
   mv 124 17 3,
   iad 125 65 123 124,
   lda 126 72 125,
   iad 127 65 113 114,
   ⟨none, .store 72 (.tmp 127) (.tmp 122), 0, none⟩,
   iad 128 65 115 117,
   ⟨none, .store 72 (.tmp 128) (.tmp 126), 0, none⟩]
def r157_22 : List VOp :=
  [mv 111 17 3,
   ⟨some 112, .binOp .sub 3 (.tmp 111) (.const (.int .i64 1)) 3, 3, none⟩,
   asg 17 112 3]
def r157_24 : List VOp :=
  [mv 129 1 3,
   mv 130 3 3,
   ⟨some 131, .binOp .add 3 (.tmp 129) (.tmp 130) 3, 3, none⟩,
   ⟨some 132, .convert 3 69 (.tmp 131), 69, none⟩,
   ⟨some 133, .binOp .shr 69 (.tmp 132) (.const (.int .u64 1)) 69, 69, none⟩,
   ⟨some 134, .convert 69 3 (.tmp 133), 3, none⟩,
   asg 18 134 3]
def r157_25 : List VOp :=
  [mv 135 18 3,
   mv 136 2 3,
   ⟨some 137, .binOp .add 3 (.tmp 135) (.tmp 136) 3, 3, none⟩,
   asg 19 137 3]
def r157_26 : List VOp :=
  [⟨some 20, .assign (.const (.int .i64 0)), 3, none⟩,
   ⟨some 21, .assign (.const (.int .i64 0)), 3, none⟩]
def r157_27 : List VOp :=
  [mv 138 2 3,
   mv 139 18 3,
   ⟨some 140, .binOp .gtr 3 (.tmp 138) (.tmp 139) 3, 4, none⟩]
def r157_28 : List VOp :=
  [mv 141 19 3,
   mv 142 3 3,
   ⟨some 143, .binOp .sub 3 (.tmp 141) (.tmp 142) 3, 3, none⟩,
   asg 20 143 3]
def r157_29 : List VOp :=
  [mv 144 18 3,
   asg 21 144 3]
def r157_30 : List VOp :=
  [mv 145 1 3,
   asg 20 145 3]
def r157_31 : List VOp :=
  [mv 146 2 3,
   asg 21 146 3]
def r157_32 : List VOp :=
  [mv 147 19 3,
   ⟨some 148, .binOp .sub 3 (.tmp 147) (.const (.int .i64 1)) 3, 3, none⟩,
   asg 22 148 3]
def r157_33 : List VOp :=
  [mv 149 20 3,
   mv 150 21 3,
   ⟨some 151, .binOp .lss 3 (.tmp 149) (.tmp 150) 3, 4, none⟩]
def r157_34 : List VOp :=
  [mv 152 20 3,
   mv 153 21 3,
   ⟨some 154, .binOp .add 3 (.tmp 152) (.tmp 153) 3, 3, none⟩,
   ⟨some 155, .convert 3 69 (.tmp 154), 69, none⟩,
   ⟨some 156, .binOp .shr 69 (.tmp 155) (.const (.int .u64 1)) 69, 69, none⟩,
   ⟨some 157, .convert 69 3 (.tmp 156), 3, none⟩,
   asg 23 157 3]
def r157_35 : List VOp :=
  [mv 158 4 141,
   mv 159 0 65,
   mv 160 22 3,
   mv 161 23 3,
   ⟨some 162, .binOp .sub 3 (.tmp 160) (.tmp 161) 3, 3, none⟩,
   iad 163 65 159 162,
   lda 164 72 163,
   mv 165 0 65,
   mv 166 23 3,
   iad 167 65 165 166,
   lda 168 72 167,
   ⟨some 169, .call ⟨.value (.tmp 158), #[.tmp 164, .tmp 168], #[72, 72]⟩, 3, none⟩,
   ⟨some 170, .binOp .lss 3 (.tmp 169) (.const (.int .i64 0)) 3, 4, none⟩,
   ⟨some 171, .unOp .not 4 (.tmp 170), 4, none⟩]
def r157_36 : List VOp :=
  [mv 172 23 3,
   ⟨some 173, .binOp .add 3 (.tmp 172) (.const (.int .i64 1)) 3, 3, none⟩,
   asg 20 173 3]
def r157_37 : List VOp :=
  [mv 174 23 3,
   asg 21 174 3]
def r157_38 : List VOp :=
  [mv 175 19 3,
   mv 176 20 3,
   ⟨some 177, .binOp .sub 3 (.tmp 175) (.tmp 176) 3, 3, none⟩,
   asg 24 177 3]
def r157_39 : List VOp :=
  [mv 178 20 3,
   mv 179 2 3,
   ⟨some 180, .binOp .lss 3 (.tmp 178) (.tmp 179) 3, 4, none⟩,
   mv 181 180 4,
   ⟨some 182, .move (.tmp 2), 3, some (181, true)⟩,
   ⟨some 183, .move (.tmp 24), 3, some (181, true)⟩,
   ⟨some 184, .binOp .lss 3 (.tmp 182) (.tmp 183) 3, 4, some (181, true)⟩,
   ⟨some 185, .pick (.tmp 181) (.tmp 184) (.const (.bool false)), 4, none⟩]
def r157_40 : List VOp :=
  [mv 186 0 65,
   mv 187 20 3,
   mv 188 2 3,
   mv 189 24 3,
   mv 190 4 141,
   ⟨some 191, .call ⟨.value (.func 166), #[.tmp 186, .tmp 187, .tmp 188, .tmp 189, .tmp 190], #[65, 3, 3, 3, 141]⟩, 0, none⟩]
def r157_41 : List VOp :=
  [mv 192 1 3,
   mv 193 20 3,
   ⟨some 194, .binOp .lss 3 (.tmp 192) (.tmp 193) 3, 4, none⟩,
   mv 195 194 4,
   ⟨some 196, .move (.tmp 20), 3, some (195, true)⟩,
   ⟨some 197, .move (.tmp 18), 3, some (195, true)⟩,
   ⟨some 198, .binOp .lss 3 (.tmp 196) (.tmp 197) 3, 4, some (195, true)⟩,
   ⟨some 199, .pick (.tmp 195) (.tmp 198) (.const (.bool false)), 4, none⟩]
def r157_42 : List VOp :=
  [mv 200 0 65,
   mv 201 1 3,
   mv 202 20 3,
   mv 203 18 3,
   mv 204 4 141,
   ⟨some 205, .call ⟨.value (.func 157), #[.tmp 200, .tmp 201, .tmp 202, .tmp 203, .tmp 204], #[65, 3, 3, 3, 141]⟩, 0, none⟩]
def r157_43 : List VOp :=
  [mv 206 18 3,
   mv 207 24 3,
   ⟨some 208, .binOp .lss 3 (.tmp 206) (.tmp 207) 3, 4, none⟩,
   mv 209 208 4,
   ⟨some 210, .move (.tmp 24), 3, some (209, true)⟩,
   ⟨some 211, .move (.tmp 3), 3, some (209, true)⟩,
   ⟨some 212, .binOp .lss 3 (.tmp 210) (.tmp 211) 3, 4, some (209, true)⟩,
   ⟨some 213, .pick (.tmp 209) (.tmp 212) (.const (.bool false)), 4, none⟩]
def r157_44 : List VOp :=
  [mv 214 0 65,
   mv 215 18 3,
   mv 216 24 3,
   mv 217 3 3,
   mv 218 4 141,
   ⟨some 219, .call ⟨.value (.func 157), #[.tmp 214, .tmp 215, .tmp 216, .tmp 217, .tmp 218], #[65, 3, 3, 3, 141]⟩, 0, none⟩]
def B157 : VC :=
  (.seq (.seq (.region r157_0) (.cond (.tmp 28) (.seq (.region r157_1) (.seq (.region r157_2) (.seq (.block 0 (.loop (.seq (.seq (.region r157_3) (.cond (.tmp 33) .skip (.exit 0))) (.block 1 (.seq (.region r157_4) (.seq (.draw r157_5 3) (.cond (.tmp 50) (.region r157_6) (.region r157_7)))))))) (.seq (.seq (.region r157_8) (.block 2 (.loop (.seq (.seq (.region r157_9) (.cond (.tmp 58) .skip (.exit 2))) (.seq (.block 3 (.drawS r157_11 3 [63, 64, 65])) (.region r157_10)))))) .ret)))) .skip)) (.seq (.seq (.region r157_12) (.cond (.tmp 80) (.seq (.region r157_13) (.seq (.region r157_14) (.seq (.block 4 (.loop (.seq (.seq (.region r157_15) (.cond (.tmp 85) .skip (.exit 4))) (.block 5 (.seq (.region r157_16) (.seq (.draw r157_17 4) (.cond (.tmp 103) (.region r157_18) (.region r157_19)))))))) (.seq (.seq (.region r157_20) (.block 6 (.loop (.seq (.seq (.region r157_21) (.cond (.tmp 110) .skip (.exit 6))) (.seq (.block 7 (.drawS r157_23 3 [115, 116, 117])) (.region r157_22)))))) .ret)))) .skip)) (.seq (.region r157_24) (.seq (.region r157_25) (.seq (.region r157_26) (.seq (.seq (.region r157_27) (.cond (.tmp 140) (.seq (.region r157_28) (.region r157_29)) (.seq (.region r157_30) (.region r157_31)))) (.seq (.region r157_32) (.seq (.block 8 (.loop (.seq (.seq (.region r157_33) (.cond (.tmp 151) .skip (.exit 8))) (.block 9 (.seq (.region r157_34) (.seq (.draw r157_35 4) (.cond (.tmp 171) (.region r157_36) (.region r157_37)))))))) (.seq (.region r157_38) (.seq (.seq (.region r157_39) (.cond (.tmp 185) (.region r157_40) .skip)) (.seq (.seq (.region r157_41) (.cond (.tmp 199) (.region r157_42) .skip)) (.seq (.region r157_43) (.cond (.tmp 213) (.region r157_44) .skip)))))))))))))
theorem code157 : ∃ c, Try.f157.body = some c ∧ abs Try.f157.ntmps c = B157 := ⟨_, rfl, by kernel_rfl⟩
theorem hb157 : HasBody Try.prog 157 := hasBody_of Try.func157 (by kernel_rfl)
theorem enter157 (x0 x1 x2 x3 x4 : Value) : Ent 157 B157 #[] [x0, x1, x2, x3, x4] := ent code157 hb157 Try.func157 rfl rfl
@[push_cast] def vr157_0 := vR r157_0.eq_1
@[push_cast] def vr157_1 := vR r157_1.eq_1
@[push_cast] def vr157_2 := vR r157_2.eq_1
@[push_cast] def vr157_3 := vR r157_3.eq_1
@[push_cast] def vr157_4 := vR r157_4.eq_1
@[push_cast] theorem vr157_5 : vc Try.prog (.draw r157_5 3) Q ds σ w = drawn Try.prog [(⟨some 40, .move (.tmp 4), 141, none⟩, [4]), (⟨some 41, .move (.tmp 0), 65, none⟩, [0]), (⟨some 42, .move (.tmp 12), 3, none⟩, [12]), (⟨some 43, .indexAddr 65 (.tmp 41) (.tmp 42), 0, none⟩, [41, 42]), (⟨some 44, .load 72 (.tmp 43), 72, none⟩, [43]), (⟨some 45, .move (.tmp 0), 65, none⟩, [0]), (⟨some 46, .move (.tmp 1), 3, none⟩, [1]), (⟨some 47, .indexAddr 65 (.tmp 45) (.tmp 46), 0, none⟩, [45, 46]), (⟨some 48, .load 72 (.tmp 47), 72, none⟩, [47]), (⟨some 49, .call ⟨.value (.tmp 40), #[.tmp 44, .tmp 48], #[72, 72]⟩, 3, none⟩, [40, 44, 48]), (⟨some 50, .binOp .lss 3 (.tmp 49) (.const (.int .i64 0)) 3, 4, none⟩, [49])] 3 (Q .normal ds) σ w := mk_eq rfl
@[push_cast] def vr157_6 := vR r157_6.eq_1
@[push_cast] def vr157_7 := vR r157_7.eq_1
@[push_cast] def vr157_8 := vR r157_8.eq_1
@[push_cast] def vr157_9 := vR r157_9.eq_1
@[push_cast] theorem vr157_11 : vc Try.prog (.drawS r157_11 3 [63, 64, 65]) Q ds σ w = drawnS Try.prog [(⟨some 61, .move (.tmp 0), 65, none⟩, [0]), (⟨some 62, .move (.tmp 13), 3, none⟩, [13]), (⟨some 63, .move (.tmp 0), 65, none⟩, [0]), (⟨some 64, .move (.tmp 13), 3, none⟩, [13]), (⟨some 65, .binOp .add 3 (.tmp 64) (.const (.int .i64 1)) 3, 3, none⟩, [64]), (⟨some 66, .move (.tmp 0), 65, none⟩, [0]), (⟨some 67, .move (.tmp 13), 3, none⟩, [13]), (⟨some 68, .binOp .add 3 (.tmp 67) (.const (.int .i64 1)) 3, 3, none⟩, [67]), (⟨some 69, .indexAddr 65 (.tmp 66) (.tmp 68), 0, none⟩, [66, 68]), (⟨some 70, .load 72 (.tmp 69), 72, none⟩, [69]), (⟨some 71, .move (.tmp 0), 65, none⟩, [0]), (⟨some 72, .move (.tmp 13), 3, none⟩, [13]), (⟨some 73, .indexAddr 65 (.tmp 71) (.tmp 72), 0, none⟩, [71, 72]), (⟨some 74, .load 72 (.tmp 73), 72, none⟩, [73]), (⟨some 75, .indexAddr 65 (.tmp 61) (.tmp 62), 0, none⟩, [61, 62]), (⟨none, .store 72 (.tmp 75) (.tmp 70), 0, none⟩, [75, 70]), (⟨some 76, .indexAddr 65 (.tmp 63) (.tmp 65), 0, none⟩, [63, 65]), (⟨none, .store 72 (.tmp 76) (.tmp 74), 0, none⟩, [76, 74])] 3 [63, 64, 65] (Q .normal ds) σ w := mk_eq rfl
@[push_cast] def vr157_10 := vR r157_10.eq_1
@[push_cast] def vr157_12 := vR r157_12.eq_1
@[push_cast] def vr157_13 := vR r157_13.eq_1
@[push_cast] def vr157_14 := vR r157_14.eq_1
@[push_cast] def vr157_15 := vR r157_15.eq_1
@[push_cast] def vr157_16 := vR r157_16.eq_1
@[push_cast] theorem vr157_17 : vc Try.prog (.draw r157_17 4) Q ds σ w = drawn Try.prog [(⟨some 92, .move (.tmp 4), 141, none⟩, [4]), (⟨some 93, .move (.tmp 0), 65, none⟩, [0]), (⟨some 94, .move (.tmp 2), 3, none⟩, [2]), (⟨some 95, .indexAddr 65 (.tmp 93) (.tmp 94), 0, none⟩, [93, 94]), (⟨some 96, .load 72 (.tmp 95), 72, none⟩, [95]), (⟨some 97, .move (.tmp 0), 65, none⟩, [0]), (⟨some 98, .move (.tmp 16), 3, none⟩, [16]), (⟨some 99, .indexAddr 65 (.tmp 97) (.tmp 98), 0, none⟩, [97, 98]), (⟨some 100, .load 72 (.tmp 99), 72, none⟩, [99]), (⟨some 101, .call ⟨.value (.tmp 92), #[.tmp 96, .tmp 100], #[72, 72]⟩, 3, none⟩, [92, 96, 100]), (⟨some 102, .binOp .lss 3 (.tmp 101) (.const (.int .i64 0)) 3, 4, none⟩, [101]), (⟨some 103, .unOp .not 4 (.tmp 102), 4, none⟩, [102])] 4 (Q .normal ds) σ w := mk_eq rfl
@[push_cast] def vr157_18 := vR r157_18.eq_1
@[push_cast] def vr157_19 := vR r157_19.eq_1
@[push_cast] def vr157_20 := vR r157_20.eq_1
@[push_cast] def vr157_21 := vR r157_21.eq_1
@[push_cast] theorem vr157_23 : vc Try.prog (.drawS r157_23 3 [115, 116, 117]) Q ds σ w = drawnS Try.prog [(⟨some 113, .move (.tmp 0), 65, none⟩, [0]), (⟨some 114, .move (.tmp 17), 3, none⟩, [17]), (⟨some 115, .move (.tmp 0), 65, none⟩, [0]), (⟨some 116, .move (.tmp 17), 3, none⟩, [17]), (⟨some 117, .binOp .sub 3 (.tmp 116) (.const (.int .i64 1)) 3, 3, none⟩, [116]), (⟨some 118, .move (.tmp 0), 65, none⟩, [0]), (⟨some 119, .move (.tmp 17), 3, none⟩, [17]), (⟨some 120, .binOp .sub 3 (.tmp 119) (.const (.int .i64 1)) 3, 3, none⟩, [119]), (⟨some 121, .indexAddr 65 (.tmp 118) (.tmp 120), 0, none⟩, [118, 120]), (⟨some 122, .load 72 (.tmp 121), 72, none⟩, [121]), (⟨some 123, .move (.tmp 0), 65, none⟩, [0]), (⟨some 124, .move (.tmp 17), 3, none⟩, [17]), (⟨some 125, .indexAddr 65 (.tmp 123) (.tmp 124), 0, none⟩, [123, 124]), (⟨some 126, .load 72 (.tmp 125), 72, none⟩, [125]), (⟨some 127, .indexAddr 65 (.tmp 113) (.tmp 114), 0, none⟩, [113, 114]), (⟨none, .store 72 (.tmp 127) (.tmp 122), 0, none⟩, [127, 122]), (⟨some 128, .indexAddr 65 (.tmp 115) (.tmp 117), 0, none⟩, [115, 117]), (⟨none, .store 72 (.tmp 128) (.tmp 126), 0, none⟩, [128, 126])] 3 [115, 116, 117] (Q .normal ds) σ w := mk_eq rfl
@[push_cast] def vr157_22 := vR r157_22.eq_1
@[push_cast] def vr157_24 := vR r157_24.eq_1
@[push_cast] def vr157_25 := vR r157_25.eq_1
@[push_cast] def vr157_26 := vR r157_26.eq_1
@[push_cast] def vr157_27 := vR r157_27.eq_1
@[push_cast] def vr157_28 := vR r157_28.eq_1
@[push_cast] def vr157_29 := vR r157_29.eq_1
@[push_cast] def vr157_30 := vR r157_30.eq_1
@[push_cast] def vr157_31 := vR r157_31.eq_1
@[push_cast] def vr157_32 := vR r157_32.eq_1
@[push_cast] def vr157_33 := vR r157_33.eq_1
@[push_cast] def vr157_34 := vR r157_34.eq_1
@[push_cast] theorem vr157_35 : vc Try.prog (.draw r157_35 4) Q ds σ w = drawn Try.prog [(⟨some 158, .move (.tmp 4), 141, none⟩, [4]), (⟨some 159, .move (.tmp 0), 65, none⟩, [0]), (⟨some 160, .move (.tmp 22), 3, none⟩, [22]), (⟨some 161, .move (.tmp 23), 3, none⟩, [23]), (⟨some 162, .binOp .sub 3 (.tmp 160) (.tmp 161) 3, 3, none⟩, [160, 161]), (⟨some 163, .indexAddr 65 (.tmp 159) (.tmp 162), 0, none⟩, [159, 162]), (⟨some 164, .load 72 (.tmp 163), 72, none⟩, [163]), (⟨some 165, .move (.tmp 0), 65, none⟩, [0]), (⟨some 166, .move (.tmp 23), 3, none⟩, [23]), (⟨some 167, .indexAddr 65 (.tmp 165) (.tmp 166), 0, none⟩, [165, 166]), (⟨some 168, .load 72 (.tmp 167), 72, none⟩, [167]), (⟨some 169, .call ⟨.value (.tmp 158), #[.tmp 164, .tmp 168], #[72, 72]⟩, 3, none⟩, [158, 164, 168]), (⟨some 170, .binOp .lss 3 (.tmp 169) (.const (.int .i64 0)) 3, 4, none⟩, [169]), (⟨some 171, .unOp .not 4 (.tmp 170), 4, none⟩, [170])] 4 (Q .normal ds) σ w := mk_eq rfl
@[push_cast] def vr157_36 := vR r157_36.eq_1
@[push_cast] def vr157_37 := vR r157_37.eq_1
@[push_cast] def vr157_38 := vR r157_38.eq_1
@[push_cast] def vr157_39 := vR r157_39.eq_1
@[push_cast] def vr157_40 := vR r157_40.eq_1
@[push_cast] def vr157_41 := vR r157_41.eq_1
@[push_cast] def vr157_42 := vR r157_42.eq_1
@[push_cast] def vr157_43 := vR r157_43.eq_1
@[push_cast] def vr157_44 := vR r157_44.eq_1
/-! 166 slices.rotateCmpFunc[columbary/api.Row] (params #[65, 3, 3, 3, 141], results #[], 58 slots) -/
def W166_0 : List Nat := [10, 11, 18, 19, 20, 21, 22, 23, 24, 25, 26, 27, 28, 29, 30, 31, 32, 33, 34, 35, 36, 37, 38, 39, 40, 41, 42, 43, 44, 45, 46, 47, 48, 49]
@[push_cast] theorem W166_0_def : W166_0 = [10, 11, 18, 19, 20, 21, 22, 23, 24, 25, 26, 27, 28, 29, 30, 31, 32, 33, 34, 35, 36, 37, 38, 39, 40, 41, 42, 43, 44, 45, 46, 47, 48, 49] := mk_eq rfl
def r166_0 : List VOp :=
  [mv 12 2 3,
   mv 13 1 3,
   ⟨some 14, .binOp .sub 3 (.tmp 12) (.tmp 13) 3, 3, none⟩,
   asg 10 14 3]
def r166_1 : List VOp :=
  [mv 15 3 3,
   mv 16 2 3,
   ⟨some 17, .binOp .sub 3 (.tmp 15) (.tmp 16) 3, 3, none⟩,
   asg 11 17 3]
def r166_2 : List VOp :=
  [mv 18 10 3,
   mv 19 11 3,
   ⟨some 20, .binOp .neq 3 (.tmp 18) (.tmp 19) 3, 4, none⟩]
def r166_3 : List VOp :=
  [mv 21 10 3,
   mv 22 11 3,
   ⟨some 23, .binOp .gtr 3 (.tmp 21) (.tmp 22) 3, 4, none⟩]
def r166_4 : List VOp :=
  [mv 24 0 65,
   mv 25 2 3,
   mv 26 10 3,
   ⟨some 27, .binOp .sub 3 (.tmp 25) (.tmp 26) 3, 3, none⟩,
   mv 28 2 3,
   mv 29 11 3,
   mv 30 4 141,
   ⟨some 31, .call ⟨.value (.func 186), #[.tmp 24, .tmp 27, .tmp 28, .tmp 29, .tmp 30], #[65, 3, 3, 3, 141]⟩, 0, none⟩]
def r166_5 : List VOp :=
  [mv 32 10 3,
   mv 33 11 3,
   ⟨some 34, .binOp .sub 3 (.tmp 32) (.tmp 33) 3, 3, none⟩,
   asg 10 34 3]
def r166_6 : List VOp :=
  [mv 35 0 65,
   mv 36 2 3,
   mv 37 10 3,
   ⟨some 38, .binOp .sub 3 (.tmp 36) (.tmp 37) 3, 3, none⟩,
   mv 39 2 3,
   mv 40 11 3,
   ⟨some 41, .binOp .add 3 (.tmp 39) (.tmp 40) 3, 3, none⟩,
   mv 42 10 3,
   ⟨some 43, .binOp .sub 3 (.tmp 41) (.tmp 42) 3, 3, none⟩,
   mv 44 10 3,
   mv 45 4 141,
   ⟨some 46, .call ⟨.value (.func 186), #[.tmp 35, .tmp 38, .tmp 43, .tmp 44, .tmp 45], #[65, 3, 3, 3, 141]⟩, 0, none⟩]
def r166_7 : List VOp :=
  [mv 47 11 3,
   mv 48 10 3,
   ⟨some 49, .binOp .sub 3 (.tmp 47) (.tmp 48) 3, 3, none⟩,
   asg 11 49 3]
def r166_8 : List VOp :=
  [mv 50 0 65,
   mv 51 2 3,
   mv 52 10 3,
   ⟨some 53, .binOp .sub 3 (.tmp 51) (.tmp 52) 3, 3, none⟩,
   mv 54 2 3,
   mv 55 10 3,
   mv 56 4 141,
   ⟨some 57, .call ⟨.value (.func 186), #[.tmp 50, .tmp 53, .tmp 54, .tmp 55, .tmp 56], #[65, 3, 3, 3, 141]⟩, 0, none⟩]
def B166 : VC :=
  (.seq (.region r166_0) (.seq (.region r166_1) (.seq (.block 0 (.loop (.seq (.seq (.region r166_2) (.cond (.tmp 20) .skip (.exit 0))) (.block 1 (.seq (.region r166_3) (.cond (.tmp 23) (.seq (.region r166_4) (.region r166_5)) (.seq (.region r166_6) (.region r166_7)))))))) (.region r166_8))))
theorem code166 : ∃ c, Try.f166.body = some c ∧ abs Try.f166.ntmps c = B166 := ⟨_, rfl, by kernel_rfl⟩
theorem hb166 : HasBody Try.prog 166 := hasBody_of Try.func166 (by kernel_rfl)
theorem enter166 (x0 x1 x2 x3 x4 : Value) : Ent 166 B166 #[] [x0, x1, x2, x3, x4] := ent code166 hb166 Try.func166 rfl rfl
@[push_cast] def vr166_0 := vR r166_0.eq_1
@[push_cast] def vr166_1 := vR r166_1.eq_1
@[push_cast] def vr166_2 := vR r166_2.eq_1
@[push_cast] def vr166_3 := vR r166_3.eq_1
@[push_cast] def vr166_4 := vR r166_4.eq_1
@[push_cast] def vr166_5 := vR r166_5.eq_1
@[push_cast] def vr166_6 := vR r166_6.eq_1
@[push_cast] def vr166_7 := vR r166_7.eq_1
@[push_cast] def vr166_8 := vR r166_8.eq_1
/-! 186 slices.swapRangeCmpFunc[columbary/api.Row] (params #[65, 3, 3, 3, 141], results #[], 38 slots) -/
def W186_0 : List Nat := [10, 11, 12, 13, 14, 15, 16, 17, 18, 19, 20, 21, 22, 23, 24, 25, 26, 27, 28, 29, 30, 31, 32, 33, 34, 35, 36, 37]
@[push_cast] theorem W186_0_def : W186_0 = [10, 11, 12, 13, 14, 15, 16, 17, 18, 19, 20, 21, 22, 23, 24, 25, 26, 27, 28, 29, 30, 31, 32, 33, 34, 35, 36, 37] := mk_eq rfl
def r186_0 : List VOp :=
  [⟨some 10, .assign (.const (.int .i64 0)), 3, none⟩]
def r186_1 : List VOp :=
  [mv 11 10 3,
   mv 12 3 3,
   ⟨some 13, .binOp .lss 3 (.tmp 11) (.tmp 12) 3, 4, none⟩]
def r186_3 : List VOp :=
  [mv 16 0 65,
   mv 17 1 3,
   mv 18 10 3,
   ⟨some 19, .binOp .add 3 (.tmp 17) (.tmp 18) 3, 3, none⟩,
   mv 20 0 65,
   mv 21 2 3,
   mv 22 10 3,
   ⟨some 23, .binOp .add 3 (.tmp 21) (.tmp 22) 3, 3, none⟩,
   mv 24 0 65,
   mv 25 2 3,
   mv 26 10 3,
   ⟨some 27, .binOp .add 3 (.tmp 25) (.tmp 26) 3, 3, none⟩,
   iad 28 65 24 27,
   lda 29 72 28,
   mv 30 0 65,
   mv 31 1 3,
   mv 32 10 3,
   ⟨some 33, .binOp .add 3 (.tmp 31) (.tmp 32) 3, 3, none⟩,
   iad 34 65 30 33,
   lda 35 72 34,
   iad 36 65 16 19,
   ⟨none, .store 72 (.tmp 36) (.tmp 29), 0, none⟩,
   iad 37 65 20 23,
   ⟨none, .store 72 (.tmp 37) (.tmp 35), 0, none⟩]
def r186_2 : List VOp :=
  [mv 14 10 3,
   ⟨some 15, .binOp .add 3 (.tmp 14) (.const (.int .i64 1)) 3, 3, none⟩,
   asg 10 15 3]
def B186 : VC :=
  (.seq (.region r186_0) (.block 0 (.loop (.seq (.seq (.region r186_1) (.cond (.tmp 13) .skip (.exit 0))) (.seq (.block 1 (.drawS r186_3 3 [20, 21, 22, 23])) (.region r186_2))))))
theorem code186 : ∃ c, Try.f186.body = some c ∧ abs Try.f186.ntmps c = B186 := ⟨_, rfl, by kernel_rfl⟩
theorem hb186 : HasBody Try.prog 186 := hasBody_of Try.func186 (by kernel_rfl)
theorem enter186 (x0 x1 x2 x3 x4 : Value) : Ent 186 B186 #[] [x0, x1, x2, x3, x4] := ent code186 hb186 Try.func186 rfl rfl
@[push_cast] def vr186_0 := vR r186_0.eq_1
@[push_cast] def vr186_1 := vR r186_1.eq_1
@[push_cast] theorem vr186_3 : vc Try.prog (.drawS r186_3 3 [20, 21, 22, 23]) Q ds σ w = drawnS Try.prog [(⟨some 16, .move (.tmp 0), 65, none⟩, [0]), (⟨some 17, .move (.tmp 1), 3, none⟩, [1]), (⟨some 18, .move (.tmp 10), 3, none⟩, [10]), (⟨some 19, .binOp .add 3 (.tmp 17) (.tmp 18) 3, 3, none⟩, [17, 18]), (⟨some 20, .move (.tmp 0), 65, none⟩, [0]), (⟨some 21, .move (.tmp 2), 3, none⟩, [2]), (⟨some 22, .move (.tmp 10), 3, none⟩, [10]), (⟨some 23, .binOp .add 3 (.tmp 21) (.tmp 22) 3, 3, none⟩, [21, 22]), (⟨some 24, .move (.tmp 0), 65, none⟩, [0]), (⟨some 25, .move (.tmp 2), 3, none⟩, [2]), (⟨some 26, .move (.tmp 10), 3, none⟩, [10]), (⟨some 27, .binOp .add 3 (.tmp 25) (.tmp 26) 3, 3, none⟩, [25, 26]), (⟨some 28, .indexAddr 65 (.tmp 24) (.tmp 27), 0, none⟩, [24, 27]), (⟨some 29, .load 72 (.tmp 28), 72, none⟩, [28]), (⟨some 30, .move (.tmp 0), 65, none⟩, [0]), (⟨some 31, .move (.tmp 1), 3, none⟩, [1]), (⟨some 32, .move (.tmp 10), 3, none⟩, [10]), (⟨some 33, .binOp .add 3 (.tmp 31) (.tmp 32) 3, 3, none⟩, [31, 32]), (⟨some 34, .indexAddr 65 (.tmp 30) (.tmp 33), 0, none⟩, [30, 33]), (⟨some 35, .load 72 (.tmp 34), 72, none⟩, [34]), (⟨some 36, .indexAddr 65 (.tmp 16) (.tmp 19), 0, none⟩, [16, 19]), (⟨none, .store 72 (.tmp 36) (.tmp 29), 0, none⟩, [36, 29]), (⟨some 37, .indexAddr 65 (.tmp 20) (.tmp 23), 0, none⟩, [20, 23]), (⟨none, .store 72 (.tmp 37) (.tmp 35), 0, none⟩, [37, 35])] 3 [20, 21, 22, 23] (Q .normal ds) σ w := mk_eq rfl
@[push_cast] def vr186_2 := vR r186_2.eq_1
end Go.Proofs.Ytnofalhkapmcnaa
end
section
set_option linter.unusedSimpArgs false
namespace Go.Vc
open Go.RowKit
theorem resK_cells {P : Program} {R : Value → World → Prop} {σ : Env} {w : World} {a s : Nat} {t : TypeId} {rs : List ResultVar} {acc l : List Value} {ad : Addr} (ha : σ a = .pointer (some ad)) (hA : aggD P t (P.underlying t) = some s) (hl : cellsAt w ad s = some l)
    (hR : resK P rs (acc ++ [.agg l.toArray]) σ R w) : resK P (.cell a t :: rs) acc σ R w := by
  unfold resK
  rw [ha]
  obtain ⟨h1, h2⟩ := run_isAgg_yes hA w
  exact ⟨.agg l.toArray, by simp [loadVar, h1, run_sizeOf h2, run_loadCells' hl], hR⟩
theorem box3 (w : World) (a b c : Value) (e : TypeId) : (w.alloc (.cells #[a, b, c] e)).cell? ⟨w.heap.size, 0, none⟩ = some a ∧ (w.alloc (.cells #[a, b, c] e)).cell? ⟨w.heap.size, 1, none⟩ = some b ∧ (w.alloc (.cells #[a, b, c] e)).cell? ⟨w.heap.size, 2, none⟩ = some c ∧ cellsAt (w.alloc (.cells #[a, b, c] e)) ⟨w.heap.size, 0, none⟩ 3 = some [a, b, c] :=
  ⟨(Blk.new w #[a, b, c] e).cell 0, (Blk.new w #[a, b, c] e).cell 1, (Blk.new w #[a, b, c] e).cell 2, Blk.cellsAt (l := [a, b, c]) (Blk.new w #[a, b, c] e)⟩
end Go.Vc
namespace Go.Proofs.Ytnofalhkapmcnaa
open Go.Vc
set_option maxRecDepth 100000
abbrev Ag := Int × Int × Int
def agC (a : Ag) : List Value := [.int .i64 a.1, .int .i64 a.2.1, .int .i64 a.2.2]
def agV (a : Ag) : Value := .agg #[.int .i64 a.1, .int .i64 a.2.1, .int .i64 a.2.2]
theorem agC_len (a : Ag) : (agC a).length = 3 := rfl
theorem agC_one (a : Ag) : ∀ u ∈ agC a, u.oneCell' = true := by
  intro u hu
  simp only [agC, List.mem_cons, List.not_mem_nil, or_false] at hu
  rcases hu with rfl | rfl | rfl <;> rfl
abbrev AgS (w : World) (v : Value) (l : List Ag) : Prop := RecS agC 3 w v l
abbrev OwnA (w : World) (B : Nat) (v : Value) (l : List Ag) : Prop := OwnR agC 3 w B 111 v l
abbrev Fi (n : Int) : Prop := -4611686018427387904 ≤ n ∧ n ≤ 4611686018427387904
abbrev ARt (a : Ag) : Prop := Fi a.1 ∧ Fi a.2.1 ∧ Fi a.2.2 ∧ a.2.1 ≤ a.2.2
def ajn (a b : Ag) : Ag := (a.1 + b.1, min a.2.1 b.2.1, max a.2.2 b.2.2)
theorem ajn_rt {a b : Ag} (ha : ARt a) (hb : ARt b) (h : Fi (a.1 + b.1)) : ARt (ajn a b) := by
  unfold ARt Fi ajn at *
  dsimp only
  omega
def jnV (a b : Ag) : Value := if Fi (a.1 + b.1) then .tuple #[agV (ajn a b), .int .i64 0] else .tuple #[agV (0, 0, 0), .int .i64 121]
def fitb (n : Int) : Bool := decide (Fi n)
theorem afits_c (v : Value) (l : List Int) (w : World) (h : Sl w v (l.map i64v)) : FnC Try.prog 168 #[v] w fun r w' => r = .bool (l.all fitb) ∧ Later w w' := by
  obtain ⟨o, c, rfl, g1, g2, h, g3⟩ := h.openM
  refine enter168 _ ?_
  unfold B168
  repeat' (first | (simp (disch := omega) only [push_cast, ↓reduceIte, zA, zG, zB, zH, zI, zC, zJ, zK, zL, zD, zE, zF, zM, zN, zO, zP, zQ, reduceCtorEq]) | refine iX ?_ ?_ <;> intro _ | refine And.intro (by omega) ?_ | refine dq ?_)
  refine vc_loop W168_0 (fun i : Nat => [(2, .bool false), (7, .int .i64 (i : Int))]) (fun i w' => i ≤ l.length ∧ Later w w' ∧ (l.take i).all fitb = true) (fun i => l.length - i) 0 (by decide) ?_ ?_ ?_
  · simp (disch := omega) only [push_cast, ↓reduceIte, zA, zG, zB, zH, zI, zC, zJ, zK, zL, zD, zE, zF, zM, zN, zO, zP, zQ, reduceCtorEq]
  · exact ⟨by omega, Later.refl _, by simp⟩
  rintro i uu w1 ⟨hi, hl1, hall⟩
  by_cases hlt : i < l.length
  · obtain ⟨a, rfl⟩ := h.some hlt
    have c0 := (h.later hl1).atI hlt
    have hmem : l[i] ∈ l := List.getElem_mem _
    by_cases hf : Fi l[i]
    · have hsn : (l.take (i + 1)).all fitb = true := by rw [take_snoc l i hlt, List.all_append, hall, Bool.true_and]; simp only [List.all_cons, List.all_nil, Bool.and_true, fitb]; exact decide_eq_true hf
      generalize l[i] = x at *
      repeat' (first | (simp (disch := omega) only [push_cast, ↓reduceIte, zA, zG, zB, zH, zI, zC, zJ, zK, zL, zD, zE, zF, zM, zN, zO, zP, zQ, reduceCtorEq, c0]) | refine iX ?_ ?_ <;> intro _ | refine And.intro (by omega) ?_ | refine dq ?_)
      exact ⟨rfl, i + 1, by simp (disch := omega) only [push_cast, ↓reduceIte, zA, zG, zB, zH, zI, zC, zJ, zK, zL, zD, zE, zF, zM, zN, zO, zP, zQ, reduceCtorEq], ⟨by omega, hl1, hsn⟩, by dsimp only; omega⟩
    · have hno : l.all fitb = false := by
        rw [List.all_eq_false]
        exact ⟨_, hmem, by simp only [fitb, decide_eq_true_eq]; exact hf⟩
      generalize l[i] = x at *
      by_cases h1 : x < -4611686018427387904
      · repeat' (first | (simp (disch := omega) only [push_cast, ↓reduceIte, zA, zG, zB, zH, zI, zC, zJ, zK, zL, zD, zE, zF, zM, zN, zO, zP, zQ, reduceCtorEq, c0]) | refine iX ?_ ?_ <;> intro _ | refine And.intro (by omega) ?_ | refine dq ?_)
        simp [hno, hl1]
      · repeat' (first | (simp (disch := omega) only [push_cast, ↓reduceIte, zA, zG, zB, zH, zI, zC, zJ, zK, zL, zD, zE, zF, zM, zN, zO, zP, zQ, reduceCtorEq, c0]) | refine iX ?_ ?_ <;> intro _ | refine And.intro (by omega) ?_ | refine dq ?_)
        simp [hno, hl1]
  · have e : i = l.length := by omega
    subst e
    rw [List.take_length] at hall
    repeat' (first | (simp (disch := omega) only [push_cast, ↓reduceIte, zA, zG, zB, zH, zI, zC, zJ, zK, zL, zD, zE, zF, zM, zN, zO, zP, zQ, reduceCtorEq]) | refine iX ?_ ?_ <;> intro _ | refine And.intro (by omega) ?_ | refine dq ?_)
    simp [hall, hl1]
theorem cfits_c (n : Int) (w : World) : FnC Try.prog 153 #[.int .i64 n] w fun r w' => r = .bool (decide (Fi n)) ∧ Later w w' := by
  refine enter153 _ ?_
  unfold B153
  have := Later.refl w
  by_cases h1 : -4611686018427387904 ≤ n <;> by_cases h2 : n ≤ 4611686018427387904
  all_goals
    repeat' (first | (simp (disch := omega) only [push_cast, ↓reduceIte, zA, zG, zB, zH, zI, zC, zJ, zK, zL, zD, zE, zF, zM, zN, zO, zP, zQ, reduceCtorEq]) | refine iX ?_ ?_ <;> intro _ | refine And.intro (by omega) ?_ | refine dq ?_)
    all_goals simp [h1, h2, this]
theorem aright_c (a : Ag) (w : World) : FnC Try.prog 159 #[agV a] w fun r w' => r = .bool (decide (ARt a)) ∧ Later w w' := by
  unfold agV
  refine enter159 _ ?_
  unfold B159
  have ec : (Value.agg #[.int .i64 a.1, .int .i64 a.2.1, .int .i64 a.2.2]).cells = #[.int .i64 a.1, .int .i64 a.2.1, .int .i64 a.2.2] := rfl
  obtain ⟨c0, c1, c2, _⟩ := box3 w (.int .i64 a.1) (.int .i64 a.2.1) (.int .i64 a.2.2) 111
  have la := later_alloc w (.cells #[.int .i64 a.1, .int .i64 a.2.1, .int .i64 a.2.2] 111)
  repeat' (first | (simp (disch := omega) only [push_cast, ↓reduceIte, zA, zG, zB, zH, zI, zC, zJ, zK, zL, zD, zE, zF, zM, zN, zO, zP, zQ, reduceCtorEq, ec, c0, c1, c2, addr_add_eq, Nat.zero_add]) | refine iX ?_ ?_ <;> intro _ | refine And.intro (by omega) ?_ | refine dq ?_)
  generalize hw1 : w.alloc (.cells #[.int .i64 a.1, .int .i64 a.2.1, .int .i64 a.2.2] 111) = w1 at *
  generalize w.heap.size = k at *
  have lb := later_alloc w1 (.cells #[.int .i64 a.1, .int .i64 a.2.1, .int .i64 a.2.2] 3)
  have hsl : Sl (w1.alloc (.cells #[.int .i64 a.1, .int .i64 a.2.1, .int .i64 a.2.2] 3)) (.slice (some ⟨w1.heap.size, 0, none⟩) 3 3) (([a.1, a.2.1, a.2.2] : List Int).map i64v) :=
    Sl.of_blk (xs := [.int .i64 a.1, .int .i64 a.2.1, .int .i64 a.2.2]) (Blk.new w1 _ _) rfl (by unfold maxLen; omega)
  refine (afits_c _ _ _ hsl).mono ?_
  rintro _ w2 ⟨rfl, l2⟩
  have d1 := (lb.trans l2).cell c1
  have d2 := (lb.trans l2).cell c2
  have l02 := la.trans (lb.trans l2)
  have hv : (([a.1, a.2.1, a.2.2] : List Int).all fitb) = (decide (Fi a.1) && (decide (Fi a.2.1) && decide (Fi a.2.2))) := by simp [fitb]
  rw [hv]
  by_cases h1 : Fi a.1 ∧ Fi a.2.1 ∧ Fi a.2.2
  · obtain ⟨h1, h2, h3⟩ := h1
    rw [decide_eq_true h1, decide_eq_true h2, decide_eq_true h3, Bool.and_self, Bool.and_self]
    by_cases h4 : a.2.1 ≤ a.2.2
    · repeat' (first | (simp (disch := omega) only [push_cast, ↓reduceIte, zA, zG, zB, zH, zI, zC, zJ, zK, zL, zD, zE, zF, zM, zN, zO, zP, zQ, reduceCtorEq, d1, d2, addr_add_eq, Nat.zero_add]) | refine iX ?_ ?_ <;> intro _ | refine And.intro (by omega) ?_ | refine dq ?_)
      rw [decide_eq_true (show ARt a from ⟨h1, h2, h3, h4⟩), decide_eq_true h4]
      first | exact ⟨rfl, l02⟩ | exact l02
    · repeat' (first | (simp (disch := omega) only [push_cast, ↓reduceIte, zA, zG, zB, zH, zI, zC, zJ, zK, zL, zD, zE, zF, zM, zN, zO, zP, zQ, reduceCtorEq, d1, d2, addr_add_eq, Nat.zero_add]) | refine iX ?_ ?_ <;> intro _ | refine And.intro (by omega) ?_ | refine dq ?_)
      rw [decide_eq_false (show ¬ ARt a from fun h => h4 h.2.2.2), decide_eq_false h4]
      first | exact ⟨rfl, l02⟩ | exact l02
  · have : (decide (Fi a.1) && (decide (Fi a.2.1) && decide (Fi a.2.2))) = false := by
      rw [Bool.eq_false_iff]
      intro hh
      simp only [Bool.and_eq_true, decide_eq_true_eq] at hh
      exact h1 hh
    rw [this]
    have hno : ¬ ARt a := fun hh => h1 ⟨hh.1, hh.2.1, hh.2.2.1⟩
    repeat' (first | (simp (disch := omega) only [push_cast, ↓reduceIte, zA, zG, zB, zH, zI, zC, zJ, zK, zL, zD, zE, zF, zM, zN, zO, zP, zQ, reduceCtorEq, d1, d2, addr_add_eq, Nat.zero_add]) | refine iX ?_ ?_ <;> intro _ | refine And.intro (by omega) ?_ | refine dq ?_)
    simp [hno, l02]
theorem caright_c (a : Ag) (w : World) : FnC Try.prog 128 #[agV a] w fun r w' => r = .bool (decide (ARt a)) ∧ Later w w' := by
  unfold agV
  refine enter128 _ ?_
  unfold B128
  have ec : (Value.agg #[.int .i64 a.1, .int .i64 a.2.1, .int .i64 a.2.2]).cells = #[.int .i64 a.1, .int .i64 a.2.1, .int .i64 a.2.2] := rfl
  obtain ⟨c0, c1, c2, _⟩ := box3 w (.int .i64 a.1) (.int .i64 a.2.1) (.int .i64 a.2.2) 111
  have la := later_alloc w (.cells #[.int .i64 a.1, .int .i64 a.2.1, .int .i64 a.2.2] 111)
  repeat' (first | (simp (disch := omega) only [push_cast, ↓reduceIte, zA, zG, zB, zH, zI, zC, zJ, zK, zL, zD, zE, zF, zM, zN, zO, zP, zQ, reduceCtorEq, ec, c0, c1, c2, addr_add_eq, Nat.zero_add]) | refine iX ?_ ?_ <;> intro _ | refine And.intro (by omega) ?_ | refine dq ?_)
  generalize w.alloc (.cells #[.int .i64 a.1, .int .i64 a.2.1, .int .i64 a.2.2] 111) = w1 at *
  generalize w.heap.size = k at *
  refine (cfits_c _ _).mono ?_
  rintro _ w2 ⟨rfl, l2⟩
  have d1 := l2.cell c1
  have d2 := l2.cell c2
  repeat' (first | (simp (disch := omega) only [push_cast, ↓reduceIte, zA, zG, zB, zH, zI, zC, zJ, zK, zL, zD, zE, zF, zM, zN, zO, zP, zQ, reduceCtorEq, d1, d2, addr_add_eq, Nat.zero_add]) | refine iX ?_ ?_ <;> intro _ | refine And.intro (by omega) ?_ | refine dq ?_)
  refine (cfits_c _ _).mono ?_
  rintro _ w3 ⟨rfl, l3⟩
  have e1 := l3.cell d1
  have e2 := l3.cell d2
  repeat' (first | (simp (disch := omega) only [push_cast, ↓reduceIte, zA, zG, zB, zH, zI, zC, zJ, zK, zL, zD, zE, zF, zM, zN, zO, zP, zQ, reduceCtorEq, e1, e2, addr_add_eq, Nat.zero_add]) | refine iX ?_ ?_ <;> intro _ | refine And.intro (by omega) ?_ | refine dq ?_)
  refine (cfits_c _ _).mono ?_
  rintro _ w4 ⟨rfl, l4⟩
  have f1 := l4.cell e1
  have f2 := l4.cell e2
  have l04 := ((la.trans l2).trans l3).trans l4
  by_cases h1 : Fi a.1
  · by_cases h2 : Fi a.2.1
    · by_cases h3 : Fi a.2.2
      · rw [decide_eq_true h1, decide_eq_true h2, decide_eq_true h3]
        by_cases h4 : a.2.1 ≤ a.2.2
        · repeat' (first | (simp (disch := omega) only [push_cast, ↓reduceIte, zA, zG, zB, zH, zI, zC, zJ, zK, zL, zD, zE, zF, zM, zN, zO, zP, zQ, reduceCtorEq, f1, f2, addr_add_eq, Nat.zero_add]) | refine iX ?_ ?_ <;> intro _ | refine And.intro (by omega) ?_ | refine dq ?_)
          rw [decide_eq_true (show ARt a from ⟨h1, h2, h3, h4⟩), decide_eq_true h4]
          first | exact ⟨rfl, l04⟩ | exact l04
        · repeat' (first | (simp (disch := omega) only [push_cast, ↓reduceIte, zA, zG, zB, zH, zI, zC, zJ, zK, zL, zD, zE, zF, zM, zN, zO, zP, zQ, reduceCtorEq, f1, f2, addr_add_eq, Nat.zero_add]) | refine iX ?_ ?_ <;> intro _ | refine And.intro (by omega) ?_ | refine dq ?_)
          rw [decide_eq_false (show ¬ ARt a from fun h => h4 h.2.2.2), decide_eq_false h4]
          first | exact ⟨rfl, l04⟩ | exact l04
      · have hno : ¬ ARt a := fun hh => h3 hh.2.2.1
        rw [decide_eq_true h1, decide_eq_true h2, decide_eq_false h3]
        repeat' (first | (simp (disch := omega) only [push_cast, ↓reduceIte, zA, zG, zB, zH, zI, zC, zJ, zK, zL, zD, zE, zF, zM, zN, zO, zP, zQ, reduceCtorEq, f1, f2, addr_add_eq, Nat.zero_add]) | refine iX ?_ ?_ <;> intro _ | refine And.intro (by omega) ?_ | refine dq ?_)
        simp [hno, l04]
    · have hno : ¬ ARt a := fun hh => h2 hh.2.1
      rw [decide_eq_true h1, decide_eq_false h2]
      repeat' (first | (simp (disch := omega) only [push_cast, ↓reduceIte, zA, zG, zB, zH, zI, zC, zJ, zK, zL, zD, zE, zF, zM, zN, zO, zP, zQ, reduceCtorEq, f1, f2, addr_add_eq, Nat.zero_add]) | refine iX ?_ ?_ <;> intro _ | refine And.intro (by omega) ?_ | refine dq ?_)
      simp [hno, l04]
  · have hno : ¬ ARt a := fun hh => h1 hh.1
    rw [decide_eq_false h1]
    repeat' (first | (simp (disch := omega) only [push_cast, ↓reduceIte, zA, zG, zB, zH, zI, zC, zJ, zK, zL, zD, zE, zF, zM, zN, zO, zP, zQ, reduceCtorEq, f1, f2, addr_add_eq, Nat.zero_add]) | refine iX ?_ ?_ <;> intro _ | refine And.intro (by omega) ?_ | refine dq ?_)
    simp [hno, l04]
end Go.Proofs.Ytnofalhkapmcnaa
end
section
set_option linter.unusedSimpArgs false
namespace Go.Proofs.Ytnofalhkapmcnaa
open Go.Vc
set_option maxRecDepth 100000
theorem box3_later {w w' : World} {k : Nat} {a b c : Value} {e : TypeId} (h : Blk w k #[a, b, c] e) (hl : Later w w') : w'.cell? ⟨k, 0, none⟩ = some a ∧ w'.cell? ⟨k, 1, none⟩ = some b ∧ w'.cell? ⟨k, 2, none⟩ = some c ∧ cellsAt w' ⟨k, 0, none⟩ 3 = some [a, b, c] := by
  have := h.chg (Chg.of_later (ks := []) hl) (by simp)
  exact ⟨this.cell 0, this.cell 1, this.cell 2, Blk.cellsAt (l := [a, b, c]) this⟩
theorem ajoin_c (a b : Ag) (w : World) (ha : ARt a) (hb : ARt b) : FnC Try.prog 136 #[agV a, agV b] w fun r w' => r = jnV a b ∧ Later w w' := by
  have jt : Fi (a.1 + b.1) → jnV a b = .tuple #[agV (ajn a b), .int .i64 0] := fun h => if_pos h
  have jf : ¬ Fi (a.1 + b.1) → jnV a b = .tuple #[agV (0, 0, 0), .int .i64 121] := fun h => if_neg h
  unfold agV
  refine enter136 _ _ ?_
  unfold B136
  have eca : (Value.agg #[.int .i64 a.1, .int .i64 a.2.1, .int .i64 a.2.2]).cells = #[.int .i64 a.1, .int .i64 a.2.1, .int .i64 a.2.2] := rfl
  have ecb : (Value.agg #[.int .i64 b.1, .int .i64 b.2.1, .int .i64 b.2.2]).cells = #[.int .i64 b.1, .int .i64 b.2.1, .int .i64 b.2.2] := rfl
  have l1 := later_alloc w (.cells #[.int .i64 a.1, .int .i64 a.2.1, .int .i64 a.2.2] 111)
  have B1 := Blk.new w #[.int .i64 a.1, .int .i64 a.2.1, .int .i64 a.2.2] 111
  have s1 : (w.alloc (.cells #[.int .i64 a.1, .int .i64 a.2.1, .int .i64 a.2.2] 111)).heap.size = w.heap.size + 1 := World.size_alloc w _
  repeat' (first | (simp (disch := omega) only [push_cast, ↓reduceIte, zA, zG, zB, zH, zI, zC, zJ, zK, zL, zD, zE, zF, zM, zN, zO, zP, zQ, reduceCtorEq, eca, ecb]) | refine iX ?_ ?_ <;> intro _ | refine And.intro (by omega) ?_ | refine dq ?_)
  generalize w.alloc (.cells #[.int .i64 a.1, .int .i64 a.2.1, .int .i64 a.2.2] 111) = w1 at *
  have l2 := later_alloc w1 (.cells #[.int .i64 b.1, .int .i64 b.2.1, .int .i64 b.2.2] 111)
  have B2 := Blk.new w1 #[.int .i64 b.1, .int .i64 b.2.1, .int .i64 b.2.2] 111
  have s2 : (w1.alloc (.cells #[.int .i64 b.1, .int .i64 b.2.1, .int .i64 b.2.2] 111)).heap.size = w1.heap.size + 1 := World.size_alloc w1 _
  generalize w1.alloc (.cells #[.int .i64 b.1, .int .i64 b.2.1, .int .i64 b.2.2] 111) = w2 at *
  have l3 := later_alloc w2 (.cells #[.int .i64 0, .int .i64 0, .int .i64 0] 111)
  have B3 := Blk.new w2 #[.int .i64 0, .int .i64 0, .int .i64 0] 111
  generalize w2.alloc (.cells #[.int .i64 0, .int .i64 0, .int .i64 0] 111) = w3 at *
  have FA := fun w' (hl : Later w3 w') => box3_later B1 ((l2.trans l3).trans hl)
  have FB := fun w' (hl : Later w3 w') => box3_later B2 (l3.trans hl)
  have l03 := (l1.trans l2).trans l3
  clear l1 l2 l3 B1 B2
  obtain ⟨_, _, _, a3⟩ := FA w3 (Later.refl _)
  repeat' (first | (simp (disch := omega) only [push_cast, ↓reduceIte, zA, zG, zB, zH, zI, zC, zJ, zK, zL, zD, zE, zF, zM, zN, zO, zP, zQ, reduceCtorEq, a3]) | refine iX ?_ ?_ <;> intro _ | refine And.intro (by omega) ?_ | refine dq ?_)
  refine (aright_c a w3).mono ?_
  rintro _ w4 ⟨rfl, l4⟩
  rw [decide_eq_true ha]
  obtain ⟨_, _, _, b3⟩ := FB w4 l4
  repeat' (first | (simp (disch := omega) only [push_cast, ↓reduceIte, zA, zG, zB, zH, zI, zC, zJ, zK, zL, zD, zE, zF, zM, zN, zO, zP, zQ, reduceCtorEq, b3]) | refine iX ?_ ?_ <;> intro _ | refine And.intro (by omega) ?_ | refine dq ?_)
  refine (aright_c b w4).mono ?_
  rintro _ w5 ⟨rfl, l5⟩
  rw [decide_eq_true hb]
  have l35 := l4.trans l5
  obtain ⟨c0, c1, c2, _⟩ := FA w5 l35
  obtain ⟨d0, d1, d2, _⟩ := FB w5 l35
  have hB3 := B3.chg (Chg.of_later (ks := []) l35) (by simp)
  have hlE := l03.trans l35
  have hks : ∀ k ∈ [w2.heap.size], w.heap.size ≤ k := by intro k hk; rw [List.mem_singleton.1 hk]; omega
  clear FA FB B3 a3 b3 l4 l5 l03 l35
  obtain ⟨⟨ha1, ha2⟩, ⟨ha3, ha4⟩, ⟨ha5, ha6⟩, ha7⟩ := ha
  obtain ⟨⟨hb1, hb2⟩, ⟨hb3, hb4⟩, ⟨hb5, hb6⟩, hb7⟩ := hb
  have fin : ∀ (x : Ag) (e : Int) (w6 : World) (σ : Env), Blk w6 w2.heap.size (agC x).toArray 111 → Chg w5 w6 [w2.heap.size] → σ 4 = .pointer (some ⟨w2.heap.size, 0, none⟩) → σ 5 = .int .i64 e → jnV a b = .tuple #[agV x, .int .i64 e] →
      resK Try.prog [.cell 4 111, .tmp 5] [] σ (fun r w' => r = jnV a b ∧ Later w w') w6 := by
    intro x e w6 σ hb6 hc6 h4 h5 hj
    refine resK_cells (s := 3) h4 (by rw [Try.underlying111]; exact sz111) (Blk.cellsAt (l := agC x) hb6) ?_
    repeat' (first | (simp (disch := omega) only [push_cast, ↓reduceIte, zA, zG, zB, zH, zI, zC, zJ, zK, zL, zD, zE, zF, zM, zN, zO, zP, zQ, reduceCtorEq, h5]) | refine iX ?_ ?_ <;> intro _ | refine And.intro (by omega) ?_ | refine dq ?_)
    rw [hj]
    exact ⟨rfl, Chg.later hlE hc6 hks⟩
  by_cases hf : Fi (a.1 + b.1)
  · have := jt hf
    obtain ⟨hf1, hf2⟩ := hf
    repeat' (first | (simp (disch := omega) only [push_cast, ↓reduceIte, zA, zG, zB, zH, zI, zC, zJ, zK, zL, zD, zE, zF, zM, zN, zO, zP, zQ, reduceCtorEq, c0, c1, c2, d0, d1, d2, addr_add_eq, Nat.zero_add]) | refine iX ?_ ?_ <;> intro _ | refine And.intro (by omega) ?_ | refine dq ?_)
    all_goals
      refine vStore_blk (l := [.int .i64 0, .int .i64 0, .int .i64 0]) (xs := agC (ajn a b)) hB3 rfl rfl (agC_one _) ?_
      intro w6 hb6 hc6
      repeat' (first | (simp (disch := omega) only [push_cast, ↓reduceIte, zA, zG, zB, zH, zI, zC, zJ, zK, zL, zD, zE, zF, zM, zN, zO, zP, zQ, reduceCtorEq]) | refine iX ?_ ?_ <;> intro _ | refine And.intro (by omega) ?_ | refine dq ?_)
      exact fin _ _ w6 _ hb6 hc6 (by simp (disch := omega) only [push_cast, ↓reduceIte, zA, zG, zB, zH, zI, zC, zJ, zK, zL, zD, zE, zF, zM, zN, zO, zP, zQ, reduceCtorEq]) (by simp (disch := omega) only [push_cast, ↓reduceIte, zA, zG, zB, zH, zI, zC, zJ, zK, zL, zD, zE, zF, zM, zN, zO, zP, zQ, reduceCtorEq]) this
  · have := jf hf
    have hf' : a.1 + b.1 < -4611686018427387904 ∨ 4611686018427387904 < a.1 + b.1 := by unfold Fi at hf; omega
    clear hf
    repeat' (first | (simp (disch := omega) only [push_cast, ↓reduceIte, zA, zG, zB, zH, zI, zC, zJ, zK, zL, zD, zE, zF, zM, zN, zO, zP, zQ, reduceCtorEq, c0, c1, c2, d0, d1, d2, addr_add_eq, Nat.zero_add]) | refine iX ?_ ?_ <;> intro _ | refine And.intro (by omega) ?_ | refine dq ?_)
    all_goals
      refine vStore_blk (l := [.int .i64 0, .int .i64 0, .int .i64 0]) (xs := agC (0, 0, 0)) hB3 rfl rfl (agC_one _) ?_
      intro w6 hb6 hc6
      repeat' (first | (simp (disch := omega) only [push_cast, ↓reduceIte, zA, zG, zB, zH, zI, zC, zJ, zK, zL, zD, zE, zF, zM, zN, zO, zP, zQ, reduceCtorEq]) | refine iX ?_ ?_ <;> intro _ | refine And.intro (by omega) ?_ | refine dq ?_)
      exact fin _ _ w6 _ hb6 hc6 (by simp (disch := omega) only [push_cast, ↓reduceIte, zA, zG, zB, zH, zI, zC, zJ, zK, zL, zD, zE, zF, zM, zN, zO, zP, zQ, reduceCtorEq]) (by simp (disch := omega) only [push_cast, ↓reduceIte, zA, zG, zB, zH, zI, zC, zJ, zK, zL, zD, zE, zF, zM, zN, zO, zP, zQ, reduceCtorEq]) this
end Go.Proofs.Ytnofalhkapmcnaa
end
section
set_option linter.unusedSimpArgs false
namespace Go.Proofs.Ytnofalhkapmcnaa
open Go.Vc Go.Key
set_option maxRecDepth 100000
structure El where
  t : Int
  d : List ByteArray
  n : Int
  a : List Ag
  dv : Value
  av : Value
instance : Inhabited El := ⟨⟨0, [], 0, [], .slice none 0 0, .slice none 0 0⟩⟩
def elC (e : El) : List Value := [.int .i64 e.t, e.dv, .int .i64 e.n, e.av]
def elV (e : El) : Value := .agg #[.int .i64 e.t, e.dv, .int .i64 e.n, e.av]
theorem elC_len (e : El) : (elC e).length = 4 := rfl
def EIs (w : World) (e : El) : Prop := StS w e.dv e.d ∧ AgS w e.av e.a
theorem EIs.later {w w' : World} {e : El} (h : EIs w e) (hl : Later w w') : EIs w' e := ⟨Sl.later h.1 hl, RecS.later h.2 hl⟩
def ecmp (x y : El) : Int := ckey x.t x.d y.t y.d
def elt (x y : El) : Bool := decide (ecmp x y < 0)
theorem elt_swo : Stab.Swo elt := swo_key El.t El.d
theorem box4 (w : World) (a b c d : Value) (e : TypeId) : (w.alloc (.cells #[a, b, c, d] e)).cell? ⟨w.heap.size, 0, none⟩ = some a ∧ (w.alloc (.cells #[a, b, c, d] e)).cell? ⟨w.heap.size, 1, none⟩ = some b ∧ (w.alloc (.cells #[a, b, c, d] e)).cell? ⟨w.heap.size, 2, none⟩ = some c ∧ (w.alloc (.cells #[a, b, c, d] e)).cell? ⟨w.heap.size, 3, none⟩ = some d ∧ cellsAt (w.alloc (.cells #[a, b, c, d] e)) ⟨w.heap.size, 0, none⟩ 4 = some [a, b, c, d] :=
  ⟨(Blk.new w #[a, b, c, d] e).cell 0, (Blk.new w #[a, b, c, d] e).cell 1, (Blk.new w #[a, b, c, d] e).cell 2, (Blk.new w #[a, b, c, d] e).cell 3, Blk.cellsAt (l := [a, b, c, d]) (Blk.new w #[a, b, c, d] e)⟩
theorem box4_later {w w' : World} {k : Nat} {a b c d : Value} {e : TypeId} (h : Blk w k #[a, b, c, d] e) (hl : Later w w') : w'.cell? ⟨k, 0, none⟩ = some a ∧ w'.cell? ⟨k, 1, none⟩ = some b ∧ w'.cell? ⟨k, 2, none⟩ = some c ∧ w'.cell? ⟨k, 3, none⟩ = some d ∧ cellsAt w' ⟨k, 0, none⟩ 4 = some [a, b, c, d] := by
  have := h.chg (Chg.of_later (ks := []) hl) (by simp)
  exact ⟨this.cell 0, this.cell 1, this.cell 2, this.cell 3, Blk.cellsAt (l := [a, b, c, d]) this⟩
theorem boxes (w : World) (x y : El) (hx : EIs w x) (hy : EIs w y) : Later w ((w.alloc (.cells #[.int .i64 x.t, x.dv, .int .i64 x.n, x.av] 72)).alloc (.cells #[.int .i64 y.t, y.dv, .int .i64 y.n, y.av] 72)) ∧ (∀ w', Later ((w.alloc (.cells #[.int .i64 x.t, x.dv, .int .i64 x.n, x.av] 72)).alloc (.cells #[.int .i64 y.t, y.dv, .int .i64 y.n, y.av] 72)) w' → EIs w' x ∧ EIs w' y ∧ Blk w' w.heap.size (elC x).toArray 72 ∧ Blk w' (w.heap.size + 1) (elC y).toArray 72 ∧
      w'.cell? ⟨w.heap.size, 0, none⟩ = some (.int .i64 x.t) ∧ w'.cell? ⟨w.heap.size, 1, none⟩ = some x.dv ∧ w'.cell? ⟨w.heap.size, 2, none⟩ = some (.int .i64 x.n) ∧ w'.cell? ⟨w.heap.size, 3, none⟩ = some x.av ∧ cellsAt w' ⟨w.heap.size, 0, none⟩ 4 = some (elC x) ∧
      w'.cell? ⟨w.heap.size + 1, 0, none⟩ = some (.int .i64 y.t) ∧ w'.cell? ⟨w.heap.size + 1, 1, none⟩ = some y.dv ∧ w'.cell? ⟨w.heap.size + 1, 2, none⟩ = some (.int .i64 y.n) ∧ w'.cell? ⟨w.heap.size + 1, 3, none⟩ = some y.av ∧ cellsAt w' ⟨w.heap.size + 1, 0, none⟩ 4 = some (elC y)) ∧ ((w.alloc (.cells #[.int .i64 x.t, x.dv, .int .i64 x.n, x.av] 72)).alloc (.cells #[.int .i64 y.t, y.dv, .int .i64 y.n, y.av] 72)).heap.size = w.heap.size + 2 := by
  have l1 := later_alloc w (.cells #[.int .i64 x.t, x.dv, .int .i64 x.n, x.av] 72)
  have B1 := Blk.new w #[.int .i64 x.t, x.dv, .int .i64 x.n, x.av] 72
  have s1 : (w.alloc (.cells #[.int .i64 x.t, x.dv, .int .i64 x.n, x.av] 72)).heap.size = w.heap.size + 1 := World.size_alloc w _
  generalize w.alloc (.cells #[.int .i64 x.t, x.dv, .int .i64 x.n, x.av] 72) = w1 at *
  have l2 := later_alloc w1 (.cells #[.int .i64 y.t, y.dv, .int .i64 y.n, y.av] 72)
  have B2 := Blk.new w1 #[.int .i64 y.t, y.dv, .int .i64 y.n, y.av] 72
  have s2 : (w1.alloc (.cells #[.int .i64 y.t, y.dv, .int .i64 y.n, y.av] 72)).heap.size = w1.heap.size + 1 := World.size_alloc w1 _
  generalize w1.alloc (.cells #[.int .i64 y.t, y.dv, .int .i64 y.n, y.av] 72) = w2 at *
  rw [s1] at B2
  refine ⟨l1.trans l2, fun w' hl => ?_, by omega⟩
  obtain ⟨a0, a1, a2, a3, a4⟩ := box4_later B1 (l2.trans hl)
  obtain ⟨b0, b1, b2, b3, b4⟩ := box4_later B2 hl
  exact ⟨hx.later ((l1.trans l2).trans hl), hy.later ((l1.trans l2).trans hl), B1.chg (Chg.of_later (ks := []) (l2.trans hl)) (by simp), B2.chg (Chg.of_later (ks := []) hl) (by simp), a0, a1, a2, a3, a4, b0, b1, b2, b3, b4⟩
theorem rcompare_c (x y : El) (w : World) (hx : EIs w x) (hy : EIs w y) : FnC Try.prog 101 #[elV x, elV y] w fun r w' => r = .int .i64 (ecmp x y) ∧ Later w w' := by
  unfold elV
  refine enter101 _ _ ?_
  unfold B101
  have eca : (Value.agg #[.int .i64 x.t, x.dv, .int .i64 x.n, x.av]).cells = #[.int .i64 x.t, x.dv, .int .i64 x.n, x.av] := rfl
  have ecb : (Value.agg #[.int .i64 y.t, y.dv, .int .i64 y.n, y.av]).cells = #[.int .i64 y.t, y.dv, .int .i64 y.n, y.av] := rfl
  have s1 : (w.alloc (.cells #[.int .i64 x.t, x.dv, .int .i64 x.n, x.av] 72)).heap.size = w.heap.size + 1 := World.size_alloc w _
  repeat' (first | (simp (disch := omega) only [push_cast, ↓reduceIte, zA, zG, zB, zH, zI, zC, zJ, zK, zL, zD, zE, zF, zM, zN, zO, zP, zQ, reduceCtorEq, eca, ecb, s1]) | refine iX ?_ ?_ <;> intro _ | refine And.intro (by omega) ?_ | fail)
  obtain ⟨l2, F, hs⟩ := boxes w x y hx hy
  generalize ((w.alloc (.cells #[.int .i64 x.t, x.dv, .int .i64 x.n, x.av] 72)).alloc (.cells #[.int .i64 y.t, y.dv, .int .i64 y.n, y.av] 72)) = w2 at *
  obtain ⟨hx2, hy2, _, _, a0, a1, _, _, _, b0, b1, _, _, _⟩ := F w2 (Later.refl _)
  refine drawn_k 9 ?_
  repeat' (first | (simp (disch := omega) only [push_cast, ↓reduceIte, zA, zG, zB, zH, zI, zC, zJ, zK, zL, zD, zE, zF, zM, zN, zO, zP, zQ, reduceCtorEq, a0, a1, b0, b1, addr_add_eq, Nat.zero_add]) | refine iX ?_ ?_ <;> intro _ | refine And.intro (by omega) ?_ | fail)
  refine NFn.fix hb51 (v := .int .i64 (if x.t < y.t then -1 else if y.t < x.t then 1 else 0)) (fun w' _ => (cmpI_c _ _ w').mono fun _ _ h => ⟨h.1, h.2 ▸ Later.refl _⟩) ?_
  repeat' (first | (simp (disch := omega) only [push_cast, ↓reduceIte, zA, zG, zB, zH, zI, zC, zJ, zK, zL, zD, zE, zF, zM, zN, zO, zP, zQ, reduceCtorEq, a1, b1, addr_add_eq, Nat.zero_add]) | refine iX ?_ ?_ <;> intro _ | refine And.intro (by omega) ?_ | fail)
  intro w3 l3
  repeat' (first | (simp (disch := omega) only [push_cast, ↓reduceIte, zA, zG, zB, zH, zI, zC, zJ, zK, zL, zD, zE, zF, zM, zN, zO, zP, zQ, reduceCtorEq]) | refine iX ?_ ?_ <;> intro _ | refine And.intro (by omega) ?_ | fail)
  refine (scmp_c _ _ _ _ w3 (hx2.later l3).1 (hy2.later l3).1).mono ?_
  rintro _ w4 ⟨rfl, h4⟩
  obtain rfl := h4.symm
  repeat' (first | (simp (disch := omega) only [push_cast, ↓reduceIte, zA, zG, zB, zH, zI, zC, zJ, zK, zL, zD, zE, zF, zM, zN, zO, zP, zQ, reduceCtorEq]) | refine iX ?_ ?_ <;> intro _ | refine And.intro (by omega) ?_ | refine dq ?_)
  have e : (if (if x.t < y.t then (-1 : Int) else if y.t < x.t then 1 else 0) = 0 then clist x.d y.d else (if x.t < y.t then -1 else if y.t < x.t then 1 else 0)) = ecmp x y := by
    unfold ecmp ckey
    by_cases h1 : x.t < y.t
    · simp [h1]
    · by_cases h2 : y.t < x.t <;> simp [h1, h2]
  generalize (if x.t < y.t then (-1 : Int) else if y.t < x.t then 1 else 0) = c at *
  have lb := later_alloc w3 (.cells #[.int .i64 c, .int .i64 (clist x.d y.d)] 3)
  have hsl : Sl (w3.alloc (.cells #[.int .i64 c, .int .i64 (clist x.d y.d)] 3)) (.slice (some ⟨w3.heap.size, 0, none⟩) 2 2) (([c, clist x.d y.d] : List Int).map i64v) :=
    Sl.of_blk (xs := [.int .i64 c, .int .i64 (clist x.d y.d)]) (Blk.new w3 _ _) rfl (by unfold maxLen; omega)
  refine (cmpOr_c _ _ _ _ hsl).mono ?_
  rintro _ w5 ⟨rfl, h5⟩
  obtain rfl := h5.symm
  rw [e]
  repeat' (first | (simp (disch := omega) only [push_cast, ↓reduceIte, zA, zG, zB, zH, zI, zC, zJ, zK, zL, zD, zE, zF, zM, zN, zO, zP, zQ, reduceCtorEq]) | refine iX ?_ ?_ <;> intro _ | refine And.intro (by omega) ?_ | refine dq ?_)
  first | exact ⟨rfl, ((l2.trans l3).trans lb)⟩ | exact ((l2.trans l3).trans lb)
end Go.Proofs.Ytnofalhkapmcnaa
end
section
set_option linter.unusedSimpArgs false
namespace Go.Proofs.Ytnofalhkapmcnaa
open Go.Vc Go.Key Go.Stab
set_option maxRecDepth 100000
def EO (w : World) (B : Nat) (e : El) : Prop := w.ownsRow B 9 1 e.dv e.d.length (e.d.map Value.string) ∧ OwnA w B e.av e.a
theorem EO.is {w : World} {B : Nat} {e : El} (h : EO w B e) : EIs w e := ⟨Sl.of_own h.1, OwnR.s h.2⟩
theorem EO.later {w w' : World} {B : Nat} {e : El} (h : EO w B e) (hl : Later w w') : EO w' B e := ⟨own_later h.1 hl, OwnR.later h.2 hl⟩
theorem EO.base {w : World} {B B' : Nat} {e : El} (h : EO w B e) (hb : B' ≤ B) : EO w B' e := ⟨own_base h.1 hb, OwnR.base h.2 hb⟩
theorem EO.chg {w w' : World} {B g : Nat} {e : El} {cs : Array Value} (h : EO w B e) (hb : Blk w g cs 72) (c : Chg w w' [g]) : EO w' B e :=
  ⟨own_chg_ty h.1 hb (by decide) c, own_chg_ty h.2 hb (by decide) c⟩
theorem EIs.slices {w : World} {e : El} (h : EIs w e) : (∃ o n c, e.dv = .slice o n c) ∧ (∃ o n c, e.av = .slice o n c) := by
  obtain ⟨o, c, h1, _⟩ := Sl.openM h.1
  obtain ⟨o', c', h2, _⟩ := RecS.slice h.2
  exact ⟨⟨o, _, c, h1⟩, ⟨o', _, c', h2⟩⟩
theorem elC_one {w : World} {e : El} (h : EIs w e) : ∀ u ∈ elC e, u.oneCell' = true := by
  obtain ⟨⟨o, n, c, h1⟩, ⟨o', n', c', h2⟩⟩ := h.slices
  intro u hu
  unfold elC at hu
  rw [h1, h2] at hu
  simp only [List.mem_cons, List.not_mem_nil, or_false] at hu
  rcases hu with rfl | rfl | rfl | rfl <;> rfl
abbrev OwnE (w : World) (B : Nat) (v : Value) (l : List El) : Prop := OwnR elC 4 w B 72 v l
structure Sw (w : World) (B B' g c : Nat) (L l : List El) : Prop where
  own : OwnE w B (.slice (some ⟨g, 0, none⟩) l.length c) l
  els : ∀ e ∈ L, EO w B' e
  sub : ∀ e ∈ l, e ∈ L
  big : l.length ≤ 1000000
theorem Sw.later {w w' : World} {B B' g c : Nat} {L l : List El} (h : Sw w B B' g c L l) (hl : Later w w') : Sw w' B B' g c L l := ⟨h.own.later hl, fun e he => (h.els e he).later hl, h.sub, h.big⟩
theorem Sw.at {w : World} {B B' g c : Nat} {L l : List El} (h : Sw w B B' g c L l) {i : Nat} (hi : i < l.length) : cellsAt w ⟨g, i * 4, none⟩ 4 = some (elC l[i]!) := by
  rw [getElem!_pos l i hi]
  have := RecS.get elC_len h.own.s hi
  rwa [addr_add_eq, Nat.zero_add] at this
theorem Sw.elAt {w : World} {B B' g c : Nat} {L l : List El} (h : Sw w B B' g c L l) {i : Nat} (hi : i < l.length) : EO w B' l[i]! := by
  rw [getElem!_pos l i hi]
  exact h.els _ (h.sub _ (List.getElem_mem _))
theorem Sw.store {w : World} {B B' g c : Nat} {L l : List El} (h : Sw w B B' g c L l) {i : Nat} (hi : i < l.length) {e : El} (he : e ∈ L) {K : Value → World → Prop} (hK : ∀ w', Sw w' B B' g c L (l.set i e) → Chg w w' [g] → K undef w') :
    vStoreD Try.prog 72 (some 4) (.pointer (some ⟨g, i * 4, none⟩)) (.agg (elC e).toArray) K w := by
  obtain ⟨g', eg, hB, ⟨cs, hb⟩, hcan, ho, hc⟩ := OwnR.set elC_len h.own hi e
  have eg' : g = g' := by have := congrArg Addr.block eg; simpa using this
  subst eg'
  rw [addr_add_eq, Nat.zero_add] at hcan ho hc
  refine ⟨rfl, ?_, ?_, ?_⟩
  · simpa [Value.cells] using elC_one (h.els e he).is
  · simpa [Value.cells] using hcan
  · have e1 : (Value.agg (elC e).toArray).cells.toList = elC e := by simp [Value.cells]
    rw [e1]
    refine hK _ ⟨by simpa using ho, fun x hx => (h.els x hx).chg hb hc, fun x hx => ?_, by simpa using h.big⟩ hc
    rcases List.mem_or_eq_of_mem_set hx with hx | rfl
    · exact h.sub x hx
    · exact he
theorem Sw.mem {w : World} {B B' g c : Nat} {L l : List El} (h : Sw w B B' g c L l) {i : Nat} (hi : i < l.length) : l[i]! ∈ L := by rw [getElem!_pos l i hi]; exact h.sub _ (List.getElem_mem _)
abbrev cmpV : Value := .func (.func 101) #[] #[]
theorem swapRange_c (B B' g c : Nat) (L l : List El) (a b k : Nat) (w : World) (h : Sw w B B' g c L l) (ha : a + k ≤ l.length) (hb : b + k ≤ l.length) :
    FnC Try.prog 186 #[.slice (some ⟨g, 0, none⟩) l.length c, .int .i64 a, .int .i64 b, .int .i64 k, cmpV] w fun r w' => Sw w' B B' g c L (swps l a b k) ∧ Chg w w' [g] := by
  have hbig := h.big
  refine enter186 _ _ _ _ _ ?_
  unfold B186
  repeat' (first | (simp (disch := omega) only [push_cast, ↓reduceIte, zA, zG, zB, zH, zI, zC, zJ, zK, zL, zD, zE, zF, zM, zN, zO, zP, zQ, reduceCtorEq]) | refine iX ?_ ?_ <;> intro _ | refine And.intro (by omega) ?_ | refine dq ?_)
  refine vc_loop W186_0 (fun i : Nat => [(10, .int .i64 (i : Int))]) (fun i w' => i ≤ k ∧ Sw w' B B' g c L (swps l a b i) ∧ Chg w w' [g]) (fun i => k - i) 0 (by decide) ?_ ?_ ?_
  · simp (disch := omega) only [push_cast, ↓reduceIte, zA, zG, zB, zH, zI, zC, zJ, zK, zL, zD, zE, zF, zM, zN, zO, zP, zQ, reduceCtorEq]
  · exact ⟨by omega, h, Chg.refl _ _⟩
  rintro i uu w1 ⟨hi, h1, c1⟩
  have hlen := swps_len l a b i
  by_cases hlt : i < k
  · have ea : ((a : Int) + (i : Int)).toNat = a + i := by omega
    have eb : ((b : Int) + (i : Int)).toNat = b + i := by omega
    have fa := h1.at (i := a + i) (by omega)
    have fb := h1.at (i := b + i) (by omega)
    repeat' (first | (simp (disch := omega) only [push_cast, ↓reduceIte, zA, zG, zB, zH, zI, zC, zJ, zK, zL, zD, zE, zF, zM, zN, zO, zP, zQ, reduceCtorEq]) | refine iX ?_ ?_ <;> intro _ | refine And.intro (by omega) ?_ | fail)
    refine drawnS_k 21 ?_
    repeat' (first | (simp (disch := omega) only [push_cast, ↓reduceIte, zA, zG, zB, zH, zI, zC, zJ, zK, zL, zD, zE, zF, zM, zN, zO, zP, zQ, reduceCtorEq, ea, eb, fa, fb]) | refine iX ?_ ?_ <;> intro _ | refine And.intro (by omega) ?_ | fail)
    refine ⟨rfl, fun w2 l2 => ⟨by simp (disch := omega) only [push_cast, ↓reduceIte, zA, zG, zB, zH, zI, zC, zJ, zK, zL, zD, zE, zF, zM, zN, zO, zP, zQ, reduceCtorEq, implies_true, and_self], ?_⟩⟩
    have h2 := h1.later l2
    have c2 := c1.trans (Chg.of_later l2)
    repeat' (first | (simp (disch := omega) only [push_cast, ↓reduceIte, zA, zG, zB, zH, zI, zC, zJ, zK, zL, zD, zE, zF, zM, zN, zO, zP, zQ, reduceCtorEq, ea, eb]) | refine iX ?_ ?_ <;> intro _ | refine And.intro (by omega) ?_ | fail)
    refine h2.store (i := a + i) (by omega) (h2.mem (i := b + i) (by omega)) fun w3 h3 c3 => ?_
    repeat' (first | (simp (disch := omega) only [push_cast, ↓reduceIte, zA, zG, zB, zH, zI, zC, zJ, zK, zL, zD, zE, zF, zM, zN, zO, zP, zQ, reduceCtorEq, eb]) | refine iX ?_ ?_ <;> intro _ | refine And.intro (by omega) ?_ | fail)
    refine h3.store (i := b + i) (by simp; omega) (h2.mem (i := a + i) (by omega)) fun w4 h4 c4 => ?_
    repeat' (first | (simp (disch := omega) only [push_cast, ↓reduceIte, zA, zG, zB, zH, zI, zC, zJ, zK, zL, zD, zE, zF, zM, zN, zO, zP, zQ, reduceCtorEq]) | refine iX ?_ ?_ <;> intro _ | refine And.intro (by omega) ?_ | refine dq ?_)
    exact ⟨rfl, i + 1, by simp (disch := omega) only [push_cast, ↓reduceIte, zA, zG, zB, zH, zI, zC, zJ, zK, zL, zD, zE, zF, zM, zN, zO, zP, zQ, reduceCtorEq], ⟨by omega, h4, (c2.trans c3).trans c4⟩, by dsimp only; omega⟩
  · have e : i = k := by omega
    subst e
    repeat' (first | (simp (disch := omega) only [push_cast, ↓reduceIte, zA, zG, zB, zH, zI, zC, zJ, zK, zL, zD, zE, zF, zM, zN, zO, zP, zQ, reduceCtorEq]) | refine iX ?_ ?_ <;> intro _ | refine And.intro (by omega) ?_ | refine dq ?_)
    first | exact ⟨h1, c1⟩ | exact c1
theorem rotate_c (B B' g c : Nat) (L X u v Y : List El) (w : World) (h : Sw w B B' g c L (X ++ u ++ v ++ Y)) (hu : 0 < u.length) (hv : 0 < v.length) :
    FnC Try.prog 166 #[.slice (some ⟨g, 0, none⟩) (X ++ u ++ v ++ Y).length c, .int .i64 X.length, .int .i64 ((X.length + u.length : Nat) : Int), .int .i64 ((X.length + u.length + v.length : Nat) : Int), cmpV] w fun r w' => Sw w' B B' g c L (X ++ v ++ u ++ Y) ∧ Chg w w' [g] := by
  have hbig := h.big
  have hlen : (X ++ u ++ v ++ Y).length = X.length + u.length + v.length + Y.length := by simp; omega
  rw [hlen] at hbig
  generalize hN : (X ++ u ++ v ++ Y).length = N at *
  refine enter166 _ _ _ _ _ ?_
  unfold B166
  have ei : ((X.length + u.length : Nat) : Int) - (X.length : Int) = (u.length : Int) := by omega
  have ej : ((X.length + u.length + v.length : Nat) : Int) - ((X.length + u.length : Nat) : Int) = (v.length : Int) := by omega
  generalize hm : X.length + u.length = m at *
  have ej' : (m : Int) + (v.length : Int) - (m : Int) = (v.length : Int) := by omega
  repeat' (first | (simp (disch := omega) only [push_cast, ↓reduceIte, zA, zG, zB, zH, zI, zC, zJ, zK, zL, zD, zE, zF, zM, zN, zO, zP, zQ, reduceCtorEq, ei, ej]) | refine iX ?_ ?_ <;> intro _ | refine And.intro (by omega) ?_ | refine dq ?_)
  refine vc_loop W166_0 (fun p : Nat × Nat => [(10, .int .i64 (p.1 : Int)), (11, .int .i64 (p.2 : Int))])
    (fun p w' => ∃ dl P Q dr, P.length = p.1 ∧ Q.length = p.2 ∧ 0 < p.1 ∧ 0 < p.2 ∧ X.length + dl.length + P.length = m ∧ v ++ u = dl ++ Q ++ P ++ dr ∧ Sw w' B B' g c L (X ++ dl ++ P ++ Q ++ (dr ++ Y)) ∧ Chg w w' [g]) (fun p => p.1 + p.2) (u.length, v.length) (by decide) ?_ ?_ ?_
  · simp (disch := omega) only [push_cast, ↓reduceIte, zA, zG, zB, zH, zI, zC, zJ, zK, zL, zD, zE, zF, zM, zN, zO, zP, zQ, reduceCtorEq, ei, ej, ej']
  · exact ⟨[], u, v, [], rfl, rfl, hu, hv, by simp; omega, by simp, by simpa using h, Chg.refl _ _⟩
  rintro ⟨i, j⟩ uu w1 ⟨dl, P, Q, dr, hP, hQ, hi0, hj0, hmP, hvu, h1, c1⟩
  dsimp only at hP hQ hi0 hj0
  have htot := congrArg List.length hvu
  simp only [List.length_append] at htot
  have hLn : (X ++ dl ++ P ++ Q ++ (dr ++ Y)).length = N := by simp only [List.length_append]; omega
  rcases Nat.lt_trichotomy i j with hij | hij | hij
  · obtain ⟨Q1, Q2, rfl, q2, q1, hs⟩ := rot_lt (X := X ++ dl) (P := P) (Q := Q) (Y := dr ++ Y) (by omega)
    have h1' := swapRange_c B B' g c L (X ++ dl ++ P ++ (Q1 ++ Q2) ++ (dr ++ Y)) (X ++ dl).length ((X ++ dl).length + (Q1 ++ Q2).length) P.length w1 h1 (by simp only [List.length_append]; omega) (by simp only [List.length_append] at *; omega)
    rw [hs, hLn] at h1'
    have a1 : ((X ++ dl).length : Int) = (m : Int) - (i : Int) := by rw [List.length_append]; omega
    have a2 : (((X ++ dl).length + (Q1 ++ Q2).length : Nat) : Int) = (m : Int) + (j : Int) - (i : Int) := by rw [List.length_append, hQ]; omega
    rw [a1, a2, hP] at h1'
    have hjo := hQ
    rw [List.length_append] at hjo
    repeat' (first | (simp (disch := omega) only [push_cast, ↓reduceIte, zA, zG, zB, zH, zI, zC, zJ, zK, zL, zD, zE, zF, zM, zN, zO, zP, zQ, reduceCtorEq]) | refine iX ?_ ?_ <;> intro _ | refine And.intro (by omega) ?_ | refine dq ?_)
    refine h1'.mono ?_
    rintro _ w2 ⟨h2, c2⟩
    repeat' (first | (simp (disch := omega) only [push_cast, ↓reduceIte, zA, zG, zB, zH, zI, zC, zJ, zK, zL, zD, zE, zF, zM, zN, zO, zP, zQ, reduceCtorEq]) | refine iX ?_ ?_ <;> intro _ | refine And.intro (by omega) ?_ | refine dq ?_)
    refine ⟨rfl, (i, j - i), by simp (disch := omega) only [push_cast, ↓reduceIte, zA, zG, zB, zH, zI, zC, zJ, zK, zL, zD, zE, zF, zM, zN, zO, zP, zQ, reduceCtorEq], ⟨dl, Q2, Q1, P ++ dr, by dsimp only; omega, by dsimp only; omega, by dsimp only; omega, by dsimp only; omega, by omega, ?_, by simpa using h2, c1.trans c2⟩, by dsimp only; omega⟩
    rw [hvu]; simp
  · subst hij
    have hs := rot_eq (X := X ++ dl) (P := P) (Q := Q) (Y := dr ++ Y) (by omega)
    have h1' := swapRange_c B B' g c L (X ++ dl ++ P ++ Q ++ (dr ++ Y)) (X ++ dl).length ((X ++ dl).length + P.length) P.length w1 h1 (by simp only [List.length_append]; omega) (by simp only [List.length_append]; omega)
    rw [hs, hLn] at h1'
    have a1 : ((X ++ dl).length : Int) = (m : Int) - (i : Int) := by rw [List.length_append]; omega
    have a2 : (((X ++ dl).length + P.length : Nat) : Int) = (m : Int) := by rw [List.length_append]; omega
    rw [a1, a2, hP] at h1'
    repeat' (first | (simp (disch := omega) only [push_cast, ↓reduceIte, zA, zG, zB, zH, zI, zC, zJ, zK, zL, zD, zE, zF, zM, zN, zO, zP, zQ, reduceCtorEq]) | refine iX ?_ ?_ <;> intro _ | refine And.intro (by omega) ?_ | refine dq ?_)
    refine h1'.mono ?_
    rintro _ w2 ⟨h2, c2⟩
    have hf : Sw w2 B B' g c L (X ++ v ++ u ++ Y) := by
      have e : X ++ v ++ u ++ Y = X ++ dl ++ Q ++ P ++ (dr ++ Y) := by
        rw [List.append_assoc X v u, hvu]; simp
      rw [e]; exact h2
    repeat' (first | (simp (disch := omega) only [push_cast, ↓reduceIte, zA, zG, zB, zH, zI, zC, zJ, zK, zL, zD, zE, zF, zM, zN, zO, zP, zQ, reduceCtorEq]) | refine iX ?_ ?_ <;> intro _ | refine And.intro (by omega) ?_ | refine dq ?_)
    first | exact ⟨hf, (c1.trans c2)⟩ | exact (c1.trans c2)
  · obtain ⟨P1, P2, rfl, q1, q2, hs⟩ := rot_gt (X := X ++ dl) (P := P) (Q := Q) (Y := dr ++ Y) (by omega)
    have h1' := swapRange_c B B' g c L (X ++ dl ++ (P1 ++ P2) ++ Q ++ (dr ++ Y)) (X ++ dl).length ((X ++ dl).length + (P1 ++ P2).length) Q.length w1 h1 (by simp only [List.length_append] at *; omega) (by simp only [List.length_append] at *; omega)
    rw [hs, hLn] at h1'
    have a1 : ((X ++ dl).length : Int) = (m : Int) - (i : Int) := by rw [List.length_append]; omega
    have a2 : (((X ++ dl).length + (P1 ++ P2).length : Nat) : Int) = (m : Int) := by rw [List.length_append]; omega
    rw [a1, a2, hQ] at h1'
    have hio := hP
    rw [List.length_append] at hio
    repeat' (first | (simp (disch := omega) only [push_cast, ↓reduceIte, zA, zG, zB, zH, zI, zC, zJ, zK, zL, zD, zE, zF, zM, zN, zO, zP, zQ, reduceCtorEq]) | refine iX ?_ ?_ <;> intro _ | refine And.intro (by omega) ?_ | refine dq ?_)
    refine h1'.mono ?_
    rintro _ w2 ⟨h2, c2⟩
    repeat' (first | (simp (disch := omega) only [push_cast, ↓reduceIte, zA, zG, zB, zH, zI, zC, zJ, zK, zL, zD, zE, zF, zM, zN, zO, zP, zQ, reduceCtorEq]) | refine iX ?_ ?_ <;> intro _ | refine And.intro (by omega) ?_ | refine dq ?_)
    refine ⟨rfl, (i - j, j), by simp (disch := omega) only [push_cast, ↓reduceIte, zA, zG, zB, zH, zI, zC, zJ, zK, zL, zD, zE, zF, zM, zN, zO, zP, zQ, reduceCtorEq], ⟨dl ++ Q, P2, P1, dr, by dsimp only; omega, by dsimp only; omega, by dsimp only; omega, by dsimp only; omega, by simp only [List.length_append]; omega, ?_, by simpa using h2, c1.trans c2⟩, by dsimp only; omega⟩
    rw [hvu]; simp
end Go.Proofs.Ytnofalhkapmcnaa
end
section
set_option linter.unusedSimpArgs false
namespace Go.Proofs.Ytnofalhkapmcnaa
open Go.Vc Go.Key Go.Stab
set_option maxRecDepth 100000
theorem cloneS_c (v : Value) (l : List ByteArray) (w : World) (h : StS w v l) (hl : l.length ≤ 1000000) : FnC Try.prog 75 #[v] w fun r w' => OwnS w' w.heap.size r l ∧ Later w w' := by
  have h0 := h
  obtain ⟨o, c, rfl, g1, g2, h, g3⟩ := h.openM
  refine enter75 _ ?_
  unfold B75
  cases o with
  | none =>
    obtain ⟨rfl, _⟩ := g3 rfl
    repeat' (first | (simp (disch := omega) only [push_cast, ↓reduceIte, zA, zG, zB, zH, zI, zC, zJ, zK, zL, zD, zE, zF, zM, zN, zO, zP, zQ, reduceCtorEq]) | refine iX ?_ ?_ <;> intro _ | refine And.intro (by omega) ?_ | refine dq ?_)
    have : OwnS w w.heap.size (.slice none 0 0) [] := own_nil w _ _ 1
    first | exact ⟨this, Later.refl _⟩ | exact Later.refl _
  | some a =>
    repeat' (first | (simp (disch := omega) only [push_cast, ↓reduceIte, zA, zG, zB, zH, zI, zC, zJ, zK, zL, zD, zE, zF, zM, zN, zO, zP, zQ, reduceCtorEq]) | refine iX ?_ ?_ <;> intro _ | refine And.intro (by omega) ?_ | refine dq ?_)
    have la := later_alloc w (.cells #[] 9)
    have hown : (w.alloc (.cells #[] 9)).ownsRow w.heap.size 9 1 (.slice (some ⟨w.heap.size, 0, none⟩) 0 0) 0 [] := own_lit w [] _ 1 0 rfl (by unfold maxLen; omega) (Nat.le_refl _)
    have hx : SlN (w.alloc (.cells #[] 9)) 1 (.slice (some a) l.length c) l.length (l.map Value.string) := by
      have := h.later la
      unfold Sl at this
      rwa [List.length_map] at this
    refine vAppend_own Try.underlying22 ti9 rfl (by decide) hown hx (by intro u hu; obtain ⟨x, _, rfl⟩ := List.mem_map.1 hu; rfl) (by unfold maxLen; omega) (by omega) (by simp) ?_
    intro v' w' ho hg _
    have hl' := la.appended hown (Nat.le_refl _) hg
    have ho' : OwnS w' w.heap.size v' l := by
      unfold OwnS
      simpa using ho
    repeat' (first | (simp (disch := omega) only [push_cast, ↓reduceIte, zA, zG, zB, zH, zI, zC, zJ, zK, zL, zD, zE, zF, zM, zN, zO, zP, zQ, reduceCtorEq]) | refine iX ?_ ?_ <;> intro _ | refine And.intro (by omega) ?_ | refine dq ?_)
    first | exact ⟨ho', hl'⟩ | exact hl'
theorem cloneA_c (v : Value) (l : List Ag) (w : World) (h : AgS w v l) (hl : l.length ≤ 1000000) : FnC Try.prog 155 #[v] w fun r w' => OwnA w' w.heap.size r l ∧ Later w w' := by
  have h0 := h
  obtain ⟨o, c, rfl, g1, g2⟩ := h.slice
  refine enter155 _ ?_
  unfold B155
  cases o with
  | none =>
    have hn : l = [] := List.length_eq_zero_iff.1 (((SlN.len h0).2.2.2.2 rfl).1)
    subst hn
    repeat' (first | (simp (disch := omega) only [push_cast, ↓reduceIte, zA, zG, zB, zH, zI, zC, zJ, zK, zL, zD, zE, zF, zM, zN, zO, zP, zQ, reduceCtorEq]) | refine iX ?_ ?_ <;> intro _ | refine And.intro (by omega) ?_ | refine dq ?_)
    have : OwnA w w.heap.size (.slice none 0 0) [] := OwnR.nil w _ _
    first | exact ⟨this, Later.refl _⟩ | exact Later.refl _
  | some a =>
    repeat' (first | (simp (disch := omega) only [push_cast, ↓reduceIte, zA, zG, zB, zH, zI, zC, zJ, zK, zL, zD, zE, zF, zM, zN, zO, zP, zQ, reduceCtorEq]) | refine iX ?_ ?_ <;> intro _ | refine And.intro (by omega) ?_ | refine dq ?_)
    have la := later_alloc w (.cells #[] 111)
    refine vAppend_rs agC_len agC_one Try.underlying70 ti111 rfl (by decide) (OwnR.lit0 w 111 (Nat.le_refl _)) (RecS.later h0 la) (by simp; omega) (by omega) (by simp) ?_
    intro v' w' ho hg _
    have hl' := la.appended (OwnR.lit0 (enc := agC) (k := 3) w 111 (Nat.le_refl _)) (Nat.le_refl _) hg
    rw [List.nil_append] at ho
    repeat' (first | (simp (disch := omega) only [push_cast, ↓reduceIte, zA, zG, zB, zH, zI, zC, zJ, zK, zL, zD, zE, zF, zM, zN, zO, zP, zQ, reduceCtorEq]) | refine iX ?_ ?_ <;> intro _ | refine And.intro (by omega) ?_ | refine dq ?_)
    first | exact ⟨ho, hl'⟩ | exact hl'
theorem stb_ownA (w0 : World) (B : Nat) (l : List Ag) : Stb w0 (fun v w => OwnA w B v l) := fun _ _ _ _ hl h => OwnR.later h hl
theorem own_c (e : El) (w : World) (h : EIs w e) (hd : e.d.length ≤ 1000000) (ha : e.a.length ≤ 1000000) : FnC Try.prog 133 #[elV e] w fun r w' => ∃ x y, r = elV { e with dv := x, av := y } ∧ EO w' w.heap.size { e with dv := x, av := y } ∧ Later w w' := by
  unfold elV
  refine enter133 _ ?_
  unfold B133
  have eca : (Value.agg #[.int .i64 e.t, e.dv, .int .i64 e.n, e.av]).cells = #[.int .i64 e.t, e.dv, .int .i64 e.n, e.av] := rfl
  have l1 := later_alloc w (.cells #[.int .i64 e.t, e.dv, .int .i64 e.n, e.av] 72)
  have B1 := Blk.new w #[.int .i64 e.t, e.dv, .int .i64 e.n, e.av] 72
  have s1 : (w.alloc (.cells #[.int .i64 e.t, e.dv, .int .i64 e.n, e.av] 72)).heap.size = w.heap.size + 1 := World.size_alloc w _
  repeat' (first | (simp (disch := omega) only [push_cast, ↓reduceIte, zA, zG, zB, zH, zI, zC, zJ, zK, zL, zD, zE, zF, zM, zN, zO, zP, zQ, reduceCtorEq, eca, s1]) | refine iX ?_ ?_ <;> intro _ | refine And.intro (by omega) ?_ | fail)
  generalize w.alloc (.cells #[.int .i64 e.t, e.dv, .int .i64 e.n, e.av] 72) = w1 at *
  have l2 := later_alloc w1 (.cells #[.int .i64 0, .slice none 0 0, .int .i64 0, .slice none 0 0] 72)
  have B2 := Blk.new w1 #[.int .i64 0, .slice none 0 0, .int .i64 0, .slice none 0 0] 72
  rw [s1] at B2
  generalize w1.alloc (.cells #[.int .i64 0, .slice none 0 0, .int .i64 0, .slice none 0 0] 72) = w2 at *
  have h2 := h.later (l1.trans l2)
  have B12 := B1.chg (Chg.of_later (ks := []) l2) (by simp)
  obtain ⟨a0, a1, a2, a3, _⟩ := box4_later B12 (Later.refl _)
  have hsz := (l1.trans l2).size
  refine drawn_k 7 ?_
  repeat' (first | (simp (disch := omega) only [push_cast, ↓reduceIte, zA, zG, zB, zH, zI, zC, zJ, zK, zL, zD, zE, zF, zM, zN, zO, zP, zQ, reduceCtorEq, a1, a3, addr_add_eq, Nat.zero_add]) | refine iX ?_ ?_ <;> intro _ | refine And.intro (by omega) ?_ | fail)
  refine NFn.of hb75 (fun v w' => OwnS w' w.heap.size v e.d) (stb_ownS _ _ _) (fun w' hl => (cloneS_c _ _ w' (h2.later hl).1 hd).mono fun v w'' hv => ⟨own_base hv.1 (Nat.le_trans hsz hl.size), hv.2⟩) ?_
  repeat' (first | (simp (disch := omega) only [push_cast, ↓reduceIte, zA, zG, zB, zH, zI, zC, zJ, zK, zL, zD, zE, zF, zM, zN, zO, zP, zQ, reduceCtorEq, a1, a3, addr_add_eq, Nat.zero_add]) | refine iX ?_ ?_ <;> intro _ | refine And.intro (by omega) ?_ | fail)
  refine NFn.of hb155 (fun v w' => OwnA w' w.heap.size v e.a) (stb_ownA _ _ _) (fun w' hl => (cloneA_c _ _ w' (h2.later hl).2 ha).mono fun v w'' hv => ⟨OwnR.base hv.1 (Nat.le_trans hsz hl.size), hv.2⟩) ?_
  repeat' (first | (simp (disch := omega) only [push_cast, ↓reduceIte, zA, zG, zB, zH, zI, zC, zJ, zK, zL, zD, zE, zF, zM, zN, zO, zP, zQ, reduceCtorEq, a1, a3, addr_add_eq, Nat.zero_add]) | refine iX ?_ ?_ <;> intro _ | refine And.intro (by omega) ?_ | fail)
  intro w3 l3 y hy x hx
  obtain ⟨ox, cx, rfl, _⟩ := Sl.openM (Sl.of_own hx : Sl w3 x (e.d.map Value.string))
  obtain ⟨oy, cy, rfl, _⟩ := RecS.slice (OwnR.s hy)
  have hE : EO w3 w.heap.size { e with dv := .slice ox e.d.length cx, av := .slice oy e.a.length cy } := ⟨hx, hy⟩
  have B13 := B12.chg (Chg.of_later (ks := []) l3) (by simp)
  have B23 := B2.chg (Chg.of_later (ks := []) l3) (by simp)
  have g1 : w3.cell? ⟨w.heap.size, 1, none⟩ = some e.dv := B13.cell 1
  have g2 := B13.frozen 1
  have l03 := (l1.trans l2).trans l3
  generalize hk : w.heap.size = k at *
  repeat' (first | (simp (disch := omega) only [push_cast, ↓reduceIte, zA, zG, zB, zH, zI, zC, zJ, zK, zL, zD, zE, zF, zM, zN, zO, zP, zQ, reduceCtorEq, g1, g2, addr_add_eq, Nat.zero_add]) | refine iX ?_ ?_ <;> intro _ | refine And.intro (by omega) ?_ | fail)
  have c4 := chg_setCell w3 (k := k) (i := 1) (ks := [k]) (by simp) (.slice ox e.d.length cx)
  have B14 := B13.set 1 (.slice ox e.d.length cx)
  have hE4 := hE.chg B13 c4
  have B24 := B23.chg c4 (by simp)
  generalize w3.setCell ⟨k, 1, none⟩ (.slice ox e.d.length cx) = w4 at *
  have g3 : w4.cell? ⟨k, 3, none⟩ = some e.av := B14.cell 3
  have g4 := B14.frozen 3
  repeat' (first | (simp (disch := omega) only [push_cast, ↓reduceIte, zA, zG, zB, zH, zI, zC, zJ, zK, zL, zD, zE, zF, zM, zN, zO, zP, zQ, reduceCtorEq, g3, g4, addr_add_eq, Nat.zero_add]) | refine iX ?_ ?_ <;> intro _ | refine And.intro (by omega) ?_ | fail)
  have c5 := chg_setCell w4 (k := k) (i := 3) (ks := [k]) (by simp) (.slice oy e.a.length cy)
  have B15 := B14.set 3 (.slice oy e.a.length cy)
  have hE5 := hE4.chg B14 c5
  have B25 := B24.chg c5 (by simp)
  generalize w4.setCell ⟨k, 3, none⟩ (.slice oy e.a.length cy) = w5 at *
  have g5 : cellsAt w5 ⟨k, 0, none⟩ 4 = some [.int .i64 e.t, .slice ox e.d.length cx, .int .i64 e.n, .slice oy e.a.length cy] := Blk.cellsAt (l := [.int .i64 e.t, .slice ox e.d.length cx, .int .i64 e.n, .slice oy e.a.length cy]) B15
  repeat' (first | (simp (disch := omega) only [push_cast, ↓reduceIte, zA, zG, zB, zH, zI, zC, zJ, zK, zL, zD, zE, zF, zM, zN, zO, zP, zQ, reduceCtorEq, g5]) | refine iX ?_ ?_ <;> intro _ | refine And.intro (by omega) ?_ | fail)
  refine vStore_blk (l := [.int .i64 0, .slice none 0 0, .int .i64 0, .slice none 0 0]) (xs := elC { e with dv := .slice ox e.d.length cx, av := .slice oy e.a.length cy }) B25 rfl rfl (elC_one hE5.is) ?_
  intro w6 B26 c6
  have hE6 := hE5.chg B25 c6
  repeat' (first | (simp (disch := omega) only [push_cast, ↓reduceIte, zA, zG, zB, zH, zI, zC, zJ, zK, zL, zD, zE, zF, zM, zN, zO, zP, zQ, reduceCtorEq]) | refine iX ?_ ?_ <;> intro _ | refine And.intro (by omega) ?_ | refine dq ?_)
  refine resK_cells (s := 4) (by simp (disch := omega) only [push_cast, ↓reduceIte, zA, zG, zB, zH, zI, zC, zJ, zK, zL, zD, zE, zF, zM, zN, zO, zP, zQ, reduceCtorEq]) (by rw [Try.underlying72]; exact sz72) (Blk.cellsAt (l := elC { e with dv := .slice ox e.d.length cx, av := .slice oy e.a.length cy }) B26) ?_
  repeat' (first | (simp (disch := omega) only [push_cast, ↓reduceIte, zA, zG, zB, zH, zI, zC, zJ, zK, zL, zD, zE, zF, zM, zN, zO, zP, zQ, reduceCtorEq]) | refine iX ?_ ?_ <;> intro _ | refine And.intro (by omega) ?_ | refine dq ?_)
  refine ⟨.slice ox e.d.length cx, .slice oy e.a.length cy, rfl, hE6, ?_⟩
  have hall : Chg w3 w6 [k, k + 1] := ((c4.mono (by simp)).trans (c5.mono (by simp))).trans (c6.mono (by simp))
  exact Chg.later l03 hall (by intro j hj; simp at hj; omega)
end Go.Proofs.Ytnofalhkapmcnaa
end
