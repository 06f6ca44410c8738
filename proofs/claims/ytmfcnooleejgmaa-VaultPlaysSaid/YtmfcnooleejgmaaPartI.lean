/- The functions' code in the generator's form. Written by a program (codes.py) out of Lean's own print of the loaded translation. -/
import Derived.Test.YtmfcnooleejgmaaPartH
set_option linter.all false
open Nat renaming reduceEqDiff → zA, reducePow → zB, reduceMul → zC, reduceAdd → zD, reduceSub → zE, reduceLeDiff → zF
open Int renaming reduceToNat → zG, reducePow → zH, reduceNeg → zI, reduceMul → zJ, reduceAdd → zK, reduceSub → zL, reduceLT → zM, reduceLE → zN, reduceEq → zO, reduceMod → zP, reduceDiv → zQ
section
namespace Go.Proofs.Ytmfcnooleejgmaa
open Go.Vc
set_option maxRecDepth 100000
variable (Q : Post) (ds : List Deferred) (σ : Env) (w : World)
/-! 5 columbary/columbarylaw03.VaultPlays (params #[3, 35], results #[(.tmp 4)], 112 slots) -/
def W5_0 : List Nat := [4, 5, 7, 9, 10, 11, 12, 13, 14, 15, 16, 44, 45, 46, 47, 48, 49, 50, 51, 52, 53, 54, 55, 56, 57, 58, 59, 60, 61, 62, 63, 64, 65, 66, 67, 68, 69, 70, 71, 72, 73, 74, 75, 76, 77, 78, 79, 80, 81, 82, 83, 84, 85, 86, 87, 88, 89, 90, 91, 92, 93, 94, 95, 96, 97, 98, 99, 100, 101, 102, 103, 104, 105, 106, 107, 108, 109, 110]
@[push_cast] theorem W5_0_def : W5_0 = [4, 5, 7, 9, 10, 11, 12, 13, 14, 15, 16, 44, 45, 46, 47, 48, 49, 50, 51, 52, 53, 54, 55, 56, 57, 58, 59, 60, 61, 62, 63, 64, 65, 66, 67, 68, 69, 70, 71, 72, 73, 74, 75, 76, 77, 78, 79, 80, 81, 82, 83, 84, 85, 86, 87, 88, 89, 90, 91, 92, 93, 94, 95, 96, 97, 98, 99, 100, 101, 102, 103, 104, 105, 106, 107, 108, 109, 110] := mk_eq rfl
def r5_0 : List VOp :=
  [⟨some 4, .assign (.const (.bool false)), 4, none⟩]
def r5_1 : List VOp :=
  [mv 18 0 3,
   ⟨some 19, .call ⟨.value (.func 9), #[.tmp 18], #[3]⟩, 25, none⟩,
   mv 17 19 25,
   ext 20 17 0 23,
   ext 21 17 1 24,
   asg 5 20 23,
   asg 6 21 24]
def r5_2 : List VOp :=
  [mv 23 0 3,
   ⟨some 24, .call ⟨.value (.func 20), #[.tmp 23], #[3]⟩, 44, none⟩,
   mv 22 24 44,
   ext 25 22 0 43,
   ext 26 22 1 24,
   asg 7 25 43,
   asg 8 26 24]
def r5_3 : List VOp :=
  [mv 27 6 24,
   mv 28 8 24,
   ⟨some 29, .binOp .neq 24 (.tmp 27) (.tmp 28) 24, 4, none⟩,
   mv 30 29 4,
   ⟨some 31, .move (.tmp 8), 24, some (30, false)⟩,
   ⟨some 32, .binOp .neq 24 (.tmp 31) (.const (.int .i64 0)) 24, 4, some (30, false)⟩,
   ⟨some 33, .pick (.tmp 30) (.const (.bool true)) (.tmp 32), 4, none⟩]
def r5_4 : List VOp :=
  [⟨some 34, .call ⟨.value (.func 15), #[], #[]⟩, 4, none⟩,
   mv 35 34 4,
   ⟨some 36, .move (.tmp 6), 24, some (35, true)⟩,
   ⟨some 37, .move (.tmp 8), 24, some (35, true)⟩,
   ⟨some 38, .binOp .eql 24 (.tmp 36) (.tmp 37) 24, 4, some (35, true)⟩,
   ⟨some 39, .pick (.tmp 35) (.tmp 38) (.const (.bool false)), 4, none⟩,
   mv 40 39 4,
   ⟨some 41, .move (.tmp 5), 23, some (40, true)⟩,
   ⟨some 42, .binOp .eql 23 (.tmp 41) (.const (.pointer none)) 23, 4, some (40, true)⟩,
   ⟨some 43, .pick (.tmp 40) (.tmp 42) (.const (.bool false)), 4, none⟩,
   asg 4 43 4]
def r5_5 : List VOp :=
  [⟨some 9, .assign (.const (.int .i64 0)), 3, none⟩]
def r5_6 : List VOp :=
  [mv 44 9 3,
   mv 45 1 35,
   ⟨some 46, .call ⟨.builtin .len, #[.tmp 45], #[35]⟩, 3, none⟩,
   ⟨some 47, .binOp .lss 3 (.tmp 44) (.tmp 46) 3, 4, none⟩,
   mv 48 47 4,
   ⟨some 49, .move (.tmp 9), 3, some (48, true)⟩,
   ⟨some 50, .binOp .lss 3 (.tmp 49) (.const (.int .i64 80)) 3, 4, some (48, true)⟩,
   ⟨some 51, .pick (.tmp 48) (.tmp 50) (.const (.bool false)), 4, none⟩]
def r5_8 : List VOp :=
  [mv 54 1 35,
   mv 55 9 3,
   iad 56 35 54 55,
   lda 57 37 56,
   ⟨some 10, .alloc 37, 0, none⟩,
   ⟨none, .store 37 (.tmp 10) (.tmp 57), 0, none⟩]
def r5_9 : List VOp :=
  [lda 58 37 10,
   ⟨some 59, .call ⟨.value (.func 16), #[.tmp 58], #[37]⟩, 4, none⟩,
   asg 11 59 4]
def r5_10 : List VOp :=
  [mv 60 11 4,
   ⟨some 61, .unOp .not 4 (.tmp 60), 4, none⟩]
def r5_11 : List VOp :=
  [lda 62 37 10,
   mv 63 5 23,
   ⟨some 64, .call ⟨.value (.func 18), #[.tmp 62, .tmp 63], #[37, 23]⟩, 24, none⟩,
   lda 65 37 10,
   mv 66 7 43,
   ⟨some 67, .call ⟨.value (.func 21), #[.tmp 65, .tmp 66], #[37, 43]⟩, 24, none⟩,
   ⟨some 68, .binOp .neq 24 (.tmp 64) (.tmp 67) 24, 4, none⟩]
def r5_12 : List VOp :=
  [⟨some 4, .assign (.const (.bool false)), 4, none⟩]
def r5_13 : List VOp :=
  [fad 69 37 10 0,
   lda 70 3 69,
   ⟨some 71, .binOp .eql 3 (.tmp 70) (.const (.int .i64 6)) 3, 4, none⟩]
def r5_14 : List VOp :=
  [mv 72 5 23,
   fad 73 37 10 1,
   lda 74 3 73,
   ⟨some 75, .call ⟨.value (.func 13), #[.tmp 72, .tmp 74], #[23, 3]⟩, 23, none⟩,
   asg 5 75 23]
def r5_15 : List VOp :=
  [mv 76 7 43,
   fad 77 37 10 1,
   lda 78 3 77,
   ⟨some 79, .call ⟨.value (.func 22), #[.tmp 76, .tmp 78], #[43, 3]⟩, 43, none⟩,
   asg 7 79 43]
def r5_16 : List VOp :=
  [fad 80 37 10 0,
   lda 81 3 80,
   ⟨some 82, .binOp .eql 3 (.tmp 81) (.const (.int .i64 7)) 3, 4, none⟩]
def r5_17 : List VOp :=
  [mv 83 5 23,
   ⟨some 84, .call ⟨.value (.func 23), #[.tmp 83], #[23]⟩, 23, none⟩,
   asg 5 84 23]
def r5_18 : List VOp :=
  [mv 85 7 43,
   ⟨some 86, .call ⟨.value (.func 24), #[.tmp 85], #[43]⟩, 43, none⟩,
   asg 7 86 43]
def r5_19 : List VOp :=
  [mv 87 5 23,
   mv 88 7 43,
   ⟨some 89, .call ⟨.value (.func 25), #[.tmp 87, .tmp 88], #[23, 43]⟩, 4, none⟩,
   asg 12 89 4]
def r5_20 : List VOp :=
  [mv 91 5 23,
   fad 92 37 10 2,
   lda 93 9 92,
   ⟨some 94, .call ⟨.value (.func 14), #[.tmp 91, .tmp 93], #[23, 9]⟩, 31, none⟩,
   mv 90 94 31,
   ext 95 90 0 22,
   ext 96 90 1 4,
   asg 13 95 22,
   asg 14 96 4]
def r5_21 : List VOp :=
  [mv 98 7 43,
   fad 99 37 10 2,
   lda 100 9 99,
   ⟨some 101, .call ⟨.value (.func 26), #[.tmp 98, .tmp 100], #[43, 9]⟩, 31, none⟩,
   mv 97 101 31,
   ext 102 97 0 22,
   ext 103 97 1 4,
   asg 15 102 22,
   asg 16 103 4]
def r5_22 : List VOp :=
  [mv 104 12 4,
   ⟨some 105, .unOp .not 4 (.tmp 104), 4, none⟩,
   mv 106 105 4,
   ⟨some 107, .move (.tmp 14), 4, some (106, false)⟩,
   ⟨some 108, .move (.tmp 16), 4, some (106, false)⟩,
   ⟨some 109, .binOp .neq 4 (.tmp 107) (.tmp 108) 4, 4, some (106, false)⟩,
   ⟨some 110, .pick (.tmp 106) (.const (.bool true)) (.tmp 109), 4, none⟩]
def r5_23 : List VOp :=
  [⟨some 4, .assign (.const (.bool false)), 4, none⟩]
def r5_7 : List VOp :=
  [mv 52 9 3,
   ⟨some 53, .binOp .add 3 (.tmp 52) (.const (.int .i64 1)) 3, 3, none⟩,
   asg 9 53 3]
def r5_24 : List VOp :=
  [⟨some 111, .call ⟨.value (.func 15), #[], #[]⟩, 4, none⟩,
   asg 4 111 4]
def B5 : VC :=
  (.seq (.region r5_0) (.seq (.region r5_1) (.seq (.region r5_2) (.seq (.seq (.region r5_3) (.cond (.tmp 33) (.seq (.region r5_4) .ret) .skip)) (.seq (.seq (.region r5_5) (.block 0 (.loop (.seq (.seq (.region r5_6) (.cond (.tmp 51) .skip (.exit 0))) (.seq (.block 1 (.seq (.region r5_8) (.seq (.region r5_9) (.seq (.seq (.region r5_10) (.cond (.tmp 61) (.exit 1) .skip)) (.seq (.seq (.drawT r5_11 3 2 5 [65, 66]) (.cond (.tmp 68) (.seq (.region r5_12) .ret) .skip)) (.seq (.seq (.region r5_13) (.cond (.tmp 71) (.seq (.region r5_14) (.region r5_15)) .skip)) (.seq (.seq (.region r5_16) (.cond (.tmp 82) (.seq (.region r5_17) (.region r5_18)) .skip)) (.seq (.region r5_19) (.seq (.region r5_20) (.seq (.region r5_21) (.seq (.region r5_22) (.cond (.tmp 110) (.seq (.region r5_23) .ret) .skip)))))))))))) (.region r5_7)))))) (.seq (.region r5_24) .ret))))))
theorem code5 : ∃ c, Try.f5.body = some c ∧ absT Try.f5.ntmps c = B5 := ⟨_, rfl, by kernel_rfl⟩
theorem hb5 : HasBody Try.prog 5 := hasBody_of Try.func5 (by kernel_rfl)
theorem res5 : Try.f5.results = #[(.tmp 4)] := rfl
theorem enter5 {w : World} {R : Value → World → Prop} (x0 x1 : Value) (h : vc Try.prog B5 (retK Try.prog #[(.tmp 4)] R) [] (initEnv [x0, x1] 0) w) : FnC Try.prog 5 #[x0, x1] w R := by
  obtain ⟨c, h1, h2⟩ := code5
  exact hb5.fn (ret_of_vc mixed Try.func5 h1 (Nat.le_of_ble_eq_true rfl) B5 h2 h)
@[push_cast] theorem vr5_0 : VR r5_0 [⟨some 4, .assign (.const (.bool false)), 4, none⟩] := vR rfl
@[push_cast] theorem vr5_1 : VR r5_1 [⟨some 18, .move (.tmp 0), 3, none⟩, ⟨some 19, .call ⟨.value (.func 9), #[.tmp 18], #[3]⟩, 25, none⟩, ⟨some 17, .move (.tmp 19), 25, none⟩, ⟨some 20, .extract (.tmp 17) 0, 23, none⟩, ⟨some 21, .extract (.tmp 17) 1, 24, none⟩, ⟨some 5, .assign (.tmp 20), 23, none⟩, ⟨some 6, .assign (.tmp 21), 24, none⟩] := vR rfl
@[push_cast] theorem vr5_2 : VR r5_2 [⟨some 23, .move (.tmp 0), 3, none⟩, ⟨some 24, .call ⟨.value (.func 20), #[.tmp 23], #[3]⟩, 44, none⟩, ⟨some 22, .move (.tmp 24), 44, none⟩, ⟨some 25, .extract (.tmp 22) 0, 43, none⟩, ⟨some 26, .extract (.tmp 22) 1, 24, none⟩, ⟨some 7, .assign (.tmp 25), 43, none⟩, ⟨some 8, .assign (.tmp 26), 24, none⟩] := vR rfl
@[push_cast] theorem vr5_3 : VR r5_3 [⟨some 27, .move (.tmp 6), 24, none⟩, ⟨some 28, .move (.tmp 8), 24, none⟩, ⟨some 29, .binOp .neq 24 (.tmp 27) (.tmp 28) 24, 4, none⟩, ⟨some 30, .move (.tmp 29), 4, none⟩, ⟨some 31, .move (.tmp 8), 24, some (30, false)⟩, ⟨some 32, .binOp .neq 24 (.tmp 31) (.const (.int .i64 0)) 24, 4, some (30, false)⟩, ⟨some 33, .pick (.tmp 30) (.const (.bool true)) (.tmp 32), 4, none⟩] := vR rfl
@[push_cast] theorem vr5_4 : VR r5_4 [⟨some 34, .call ⟨.value (.func 15), #[], #[]⟩, 4, none⟩, ⟨some 35, .move (.tmp 34), 4, none⟩, ⟨some 36, .move (.tmp 6), 24, some (35, true)⟩, ⟨some 37, .move (.tmp 8), 24, some (35, true)⟩, ⟨some 38, .binOp .eql 24 (.tmp 36) (.tmp 37) 24, 4, some (35, true)⟩, ⟨some 39, .pick (.tmp 35) (.tmp 38) (.const (.bool false)), 4, none⟩, ⟨some 40, .move (.tmp 39), 4, none⟩, ⟨some 41, .move (.tmp 5), 23, some (40, true)⟩, ⟨some 42, .binOp .eql 23 (.tmp 41) (.const (.pointer none)) 23, 4, some (40, true)⟩, ⟨some 43, .pick (.tmp 40) (.tmp 42) (.const (.bool false)), 4, none⟩, ⟨some 4, .assign (.tmp 43), 4, none⟩] := vR rfl
@[push_cast] theorem vr5_5 : VR r5_5 [⟨some 9, .assign (.const (.int .i64 0)), 3, none⟩] := vR rfl
@[push_cast] theorem vr5_6 : VR r5_6 [⟨some 44, .move (.tmp 9), 3, none⟩, ⟨some 45, .move (.tmp 1), 35, none⟩, ⟨some 46, .call ⟨.builtin .len, #[.tmp 45], #[35]⟩, 3, none⟩, ⟨some 47, .binOp .lss 3 (.tmp 44) (.tmp 46) 3, 4, none⟩, ⟨some 48, .move (.tmp 47), 4, none⟩, ⟨some 49, .move (.tmp 9), 3, some (48, true)⟩, ⟨some 50, .binOp .lss 3 (.tmp 49) (.const (.int .i64 80)) 3, 4, some (48, true)⟩, ⟨some 51, .pick (.tmp 48) (.tmp 50) (.const (.bool false)), 4, none⟩] := vR rfl
@[push_cast] theorem vr5_8 : VR r5_8 [⟨some 54, .move (.tmp 1), 35, none⟩, ⟨some 55, .move (.tmp 9), 3, none⟩, ⟨some 56, .indexAddr 35 (.tmp 54) (.tmp 55), 0, none⟩, ⟨some 57, .load 37 (.tmp 56), 37, none⟩, ⟨some 10, .alloc 37, 0, none⟩, ⟨none, .store 37 (.tmp 10) (.tmp 57), 0, none⟩] := vR rfl
@[push_cast] theorem vr5_9 : VR r5_9 [⟨some 58, .load 37 (.tmp 10), 37, none⟩, ⟨some 59, .call ⟨.value (.func 16), #[.tmp 58], #[37]⟩, 4, none⟩, ⟨some 11, .assign (.tmp 59), 4, none⟩] := vR rfl
@[push_cast] theorem vr5_10 : VR r5_10 [⟨some 60, .move (.tmp 11), 4, none⟩, ⟨some 61, .unOp .not 4 (.tmp 60), 4, none⟩] := vR rfl
@[push_cast] theorem vr5_11 : vc Try.prog (.drawT r5_11 3 2 5 [65, 66]) Q ds σ w = drawnT Try.prog [(⟨some 62, .load 37 (.tmp 10), 37, none⟩, [10]), (⟨some 63, .move (.tmp 5), 23, none⟩, [5]), (⟨some 64, .call ⟨.value (.func 18), #[.tmp 62, .tmp 63], #[37, 23]⟩, 24, none⟩, [62, 63]), (⟨some 65, .load 37 (.tmp 10), 37, none⟩, [10]), (⟨some 66, .move (.tmp 7), 43, none⟩, [7]), (⟨some 67, .call ⟨.value (.func 21), #[.tmp 65, .tmp 66], #[37, 43]⟩, 24, none⟩, [65, 66]), (⟨some 68, .binOp .neq 24 (.tmp 64) (.tmp 67) 24, 4, none⟩, [64, 67])] 3 2 5 [65, 66] (Q .normal ds) σ w := mk_eq rfl
@[push_cast] theorem vr5_12 : VR r5_12 [⟨some 4, .assign (.const (.bool false)), 4, none⟩] := vR rfl
@[push_cast] theorem vr5_13 : VR r5_13 [⟨some 69, .fieldAddr 37 (.tmp 10) 0, 0, none⟩, ⟨some 70, .load 3 (.tmp 69), 3, none⟩, ⟨some 71, .binOp .eql 3 (.tmp 70) (.const (.int .i64 6)) 3, 4, none⟩] := vR rfl
@[push_cast] theorem vr5_14 : VR r5_14 [⟨some 72, .move (.tmp 5), 23, none⟩, ⟨some 73, .fieldAddr 37 (.tmp 10) 1, 0, none⟩, ⟨some 74, .load 3 (.tmp 73), 3, none⟩, ⟨some 75, .call ⟨.value (.func 13), #[.tmp 72, .tmp 74], #[23, 3]⟩, 23, none⟩, ⟨some 5, .assign (.tmp 75), 23, none⟩] := vR rfl
@[push_cast] theorem vr5_15 : VR r5_15 [⟨some 76, .move (.tmp 7), 43, none⟩, ⟨some 77, .fieldAddr 37 (.tmp 10) 1, 0, none⟩, ⟨some 78, .load 3 (.tmp 77), 3, none⟩, ⟨some 79, .call ⟨.value (.func 22), #[.tmp 76, .tmp 78], #[43, 3]⟩, 43, none⟩, ⟨some 7, .assign (.tmp 79), 43, none⟩] := vR rfl
@[push_cast] theorem vr5_16 : VR r5_16 [⟨some 80, .fieldAddr 37 (.tmp 10) 0, 0, none⟩, ⟨some 81, .load 3 (.tmp 80), 3, none⟩, ⟨some 82, .binOp .eql 3 (.tmp 81) (.const (.int .i64 7)) 3, 4, none⟩] := vR rfl
@[push_cast] theorem vr5_17 : VR r5_17 [⟨some 83, .move (.tmp 5), 23, none⟩, ⟨some 84, .call ⟨.value (.func 23), #[.tmp 83], #[23]⟩, 23, none⟩, ⟨some 5, .assign (.tmp 84), 23, none⟩] := vR rfl
@[push_cast] theorem vr5_18 : VR r5_18 [⟨some 85, .move (.tmp 7), 43, none⟩, ⟨some 86, .call ⟨.value (.func 24), #[.tmp 85], #[43]⟩, 43, none⟩, ⟨some 7, .assign (.tmp 86), 43, none⟩] := vR rfl
@[push_cast] theorem vr5_19 : VR r5_19 [⟨some 87, .move (.tmp 5), 23, none⟩, ⟨some 88, .move (.tmp 7), 43, none⟩, ⟨some 89, .call ⟨.value (.func 25), #[.tmp 87, .tmp 88], #[23, 43]⟩, 4, none⟩, ⟨some 12, .assign (.tmp 89), 4, none⟩] := vR rfl
@[push_cast] theorem vr5_20 : VR r5_20 [⟨some 91, .move (.tmp 5), 23, none⟩, ⟨some 92, .fieldAddr 37 (.tmp 10) 2, 0, none⟩, ⟨some 93, .load 9 (.tmp 92), 9, none⟩, ⟨some 94, .call ⟨.value (.func 14), #[.tmp 91, .tmp 93], #[23, 9]⟩, 31, none⟩, ⟨some 90, .move (.tmp 94), 31, none⟩, ⟨some 95, .extract (.tmp 90) 0, 22, none⟩, ⟨some 96, .extract (.tmp 90) 1, 4, none⟩, ⟨some 13, .assign (.tmp 95), 22, none⟩, ⟨some 14, .assign (.tmp 96), 4, none⟩] := vR rfl
@[push_cast] theorem vr5_21 : VR r5_21 [⟨some 98, .move (.tmp 7), 43, none⟩, ⟨some 99, .fieldAddr 37 (.tmp 10) 2, 0, none⟩, ⟨some 100, .load 9 (.tmp 99), 9, none⟩, ⟨some 101, .call ⟨.value (.func 26), #[.tmp 98, .tmp 100], #[43, 9]⟩, 31, none⟩, ⟨some 97, .move (.tmp 101), 31, none⟩, ⟨some 102, .extract (.tmp 97) 0, 22, none⟩, ⟨some 103, .extract (.tmp 97) 1, 4, none⟩, ⟨some 15, .assign (.tmp 102), 22, none⟩, ⟨some 16, .assign (.tmp 103), 4, none⟩] := vR rfl
@[push_cast] theorem vr5_22 : VR r5_22 [⟨some 104, .move (.tmp 12), 4, none⟩, ⟨some 105, .unOp .not 4 (.tmp 104), 4, none⟩, ⟨some 106, .move (.tmp 105), 4, none⟩, ⟨some 107, .move (.tmp 14), 4, some (106, false)⟩, ⟨some 108, .move (.tmp 16), 4, some (106, false)⟩, ⟨some 109, .binOp .neq 4 (.tmp 107) (.tmp 108) 4, 4, some (106, false)⟩, ⟨some 110, .pick (.tmp 106) (.const (.bool true)) (.tmp 109), 4, none⟩] := vR rfl
@[push_cast] theorem vr5_23 : VR r5_23 [⟨some 4, .assign (.const (.bool false)), 4, none⟩] := vR rfl
@[push_cast] theorem vr5_7 : VR r5_7 [⟨some 52, .move (.tmp 9), 3, none⟩, ⟨some 53, .binOp .add 3 (.tmp 52) (.const (.int .i64 1)) 3, 3, none⟩, ⟨some 9, .assign (.tmp 53), 3, none⟩] := vR rfl
@[push_cast] theorem vr5_24 : VR r5_24 [⟨some 111, .call ⟨.value (.func 15), #[], #[]⟩, 4, none⟩, ⟨some 4, .assign (.tmp 111), 4, none⟩] := vR rfl
/-! 20 columbary/columbaryref03.New (params #[3], results #[(.tmp 2), (.tmp 3)], 13 slots) -/
def r20_0 : List VOp :=
  [⟨some 2, .assign (.const (.pointer none)), 43, none⟩,
   ⟨some 3, .assign (.const (.int .i64 0)), 24, none⟩]
def r20_1 : List VOp :=
  [mv 4 0 3,
   ⟨some 5, .binOp .lss 3 (.tmp 4) (.const (.int .i64 0)) 3, 4, none⟩,
   mv 6 5 4,
   ⟨some 7, .move (.tmp 0), 3, some (6, false)⟩,
   ⟨some 8, .binOp .gtr 3 (.tmp 7) (.const (.int .i64 16777216)) 3, 4, some (6, false)⟩,
   ⟨some 9, .pick (.tmp 6) (.const (.bool true)) (.tmp 8), 4, none⟩]
def r20_2 : List VOp :=
  [⟨some 2, .assign (.const (.pointer none)), 43, none⟩,
   ⟨some 3, .assign (.const (.int .i64 1)), 24, none⟩]
def r20_3 : List VOp :=
  [mv 10 0 3,
   ⟨some 11, .build 71 #[(0, (.tmp 10)), (1, (.const (.int .i64 (-1))))], 71, none⟩,
   ⟨some 12, .box 71 (.tmp 11), 43, none⟩,
   asg 2 12 43,
   ⟨some 3, .assign (.const (.int .i64 0)), 24, none⟩]
def B20 : VC :=
  (.seq (.region r20_0) (.seq (.seq (.region r20_1) (.cond (.tmp 9) (.seq (.region r20_2) .ret) .skip)) (.seq (.region r20_3) .ret)))
theorem code20 : ∃ c, Try.f20.body = some c ∧ abs Try.f20.ntmps c = B20 := ⟨_, rfl, by kernel_rfl⟩
theorem hb20 : HasBody Try.prog 20 := hasBody_of Try.func20 (by kernel_rfl)
theorem res20 : Try.f20.results = #[(.tmp 2), (.tmp 3)] := rfl
theorem enter20 {w : World} {R : Value → World → Prop} (x0 : Value) (h : vc Try.prog B20 (retK Try.prog #[(.tmp 2), (.tmp 3)] R) [] (initEnv [x0] 0) w) : FnC Try.prog 20 #[x0] w R := by
  obtain ⟨c, h1, h2⟩ := code20
  exact hb20.fn (ret_of_vc mixed Try.func20 h1 (Nat.le_of_ble_eq_true rfl) B20 h2 h)
@[push_cast] theorem vr20_0 : VR r20_0 [⟨some 2, .assign (.const (.pointer none)), 43, none⟩, ⟨some 3, .assign (.const (.int .i64 0)), 24, none⟩] := vR rfl
@[push_cast] theorem vr20_1 : VR r20_1 [⟨some 4, .move (.tmp 0), 3, none⟩, ⟨some 5, .binOp .lss 3 (.tmp 4) (.const (.int .i64 0)) 3, 4, none⟩, ⟨some 6, .move (.tmp 5), 4, none⟩, ⟨some 7, .move (.tmp 0), 3, some (6, false)⟩, ⟨some 8, .binOp .gtr 3 (.tmp 7) (.const (.int .i64 16777216)) 3, 4, some (6, false)⟩, ⟨some 9, .pick (.tmp 6) (.const (.bool true)) (.tmp 8), 4, none⟩] := vR rfl
@[push_cast] theorem vr20_2 : VR r20_2 [⟨some 2, .assign (.const (.pointer none)), 43, none⟩, ⟨some 3, .assign (.const (.int .i64 1)), 24, none⟩] := vR rfl
@[push_cast] theorem vr20_3 : VR r20_3 [⟨some 10, .move (.tmp 0), 3, none⟩, ⟨some 11, .build 71 #[(0, (.tmp 10)), (1, (.const (.int .i64 (-1))))], 71, none⟩, ⟨some 12, .box 71 (.tmp 11), 43, none⟩, ⟨some 2, .assign (.tmp 12), 43, none⟩, ⟨some 3, .assign (.const (.int .i64 0)), 24, none⟩] := vR rfl
/-! 21 (columbary/columbarylaw03.Act).doRef (params #[37, 43], results #[(.tmp 4)], 45 slots) -/
def r21_0 : List VOp :=
  [⟨some 2, .box 37 (.tmp 0), 0, none⟩,
   ⟨some 4, .assign (.const (.int .i64 0)), 24, none⟩]
def r21_1 : List VOp :=
  [fad 5 37 2 0,
   lda 6 3 5]
def r21_2 : List VOp :=
  [⟨some 8, .binOp .eql 3 (.tmp 6) (.const (.int .i64 1)) 3, 4, none⟩,
   asg 7 8 4]
def r21_3 : List VOp :=
  [mv 9 1 43,
   fad 10 37 2 2,
   lda 11 9 10,
   fad 12 37 2 4,
   lda 13 22 12,
   ⟨some 14, .call ⟨.value (.func 37), #[.tmp 9, .tmp 11, .tmp 13], #[43, 9, 22]⟩, 24, none⟩,
   asg 4 14 24]
def r21_4 : List VOp :=
  [⟨some 16, .binOp .eql 3 (.tmp 6) (.const (.int .i64 2)) 3, 4, none⟩,
   asg 15 16 4]
def r21_5 : List VOp :=
  [mv 17 1 43,
   fad 18 37 2 2,
   lda 19 9 18,
   ⟨some 20, .call ⟨.value (.func 38), #[.tmp 17, .tmp 19], #[43, 9]⟩, 24, none⟩,
   asg 4 20 24]
def r21_6 : List VOp :=
  [⟨some 22, .binOp .eql 3 (.tmp 6) (.const (.int .i64 3)) 3, 4, none⟩,
   asg 21 22 4]
def r21_7 : List VOp :=
  [mv 23 1 43,
   fad 24 37 2 2,
   lda 25 9 24,
   fad 26 37 2 3,
   lda 27 9 26,
   ⟨some 28, .call ⟨.value (.func 39), #[.tmp 23, .tmp 25, .tmp 27], #[43, 9, 9]⟩, 24, none⟩,
   asg 4 28 24]
def r21_8 : List VOp :=
  [⟨some 30, .binOp .eql 3 (.tmp 6) (.const (.int .i64 4)) 3, 4, none⟩,
   asg 29 30 4]
def r21_9 : List VOp :=
  [mv 31 1 43,
   fad 32 37 2 2,
   lda 33 9 32,
   ⟨some 34, .call ⟨.value (.func 40), #[.tmp 31, .tmp 33], #[43, 9]⟩, 24, none⟩,
   asg 4 34 24]
def r21_10 : List VOp :=
  [⟨some 36, .binOp .eql 3 (.tmp 6) (.const (.int .i64 5)) 3, 4, none⟩,
   asg 35 36 4]
def r21_11 : List VOp :=
  [fad 37 37 2 1,
   lda 38 3 37,
   ⟨some 39, .binOp .lss 3 (.tmp 38) (.const (.int .i64 0)) 3, 4, none⟩]
def r21_12 : List VOp :=
  [⟨some 4, .assign (.const (.int .i64 1)), 24, none⟩]
def r21_13 : List VOp :=
  [mv 40 1 43,
   fad 41 37 2 1,
   lda 42 3 41,
   ⟨some 43, .nilCheck (.tmp 40), 0, none⟩,
   fad 44 71 43 1,
   ⟨none, .store 3 (.tmp 44) (.tmp 42), 0, none⟩]
def r21_14 : List VOp :=
  [⟨some 4, .assign (.const (.int .i64 0)), 24, none⟩]
def B21 : VC :=
  (.seq (.region r21_0) (.seq (.seq (.region r21_1) (.block 0 (.seq (.region r21_2) (.cond (.tmp 7) (.seq (.region r21_3) .ret) (.seq (.region r21_4) (.cond (.tmp 15) (.seq (.region r21_5) .ret) (.seq (.region r21_6) (.cond (.tmp 21) (.seq (.region r21_7) .ret) (.seq (.region r21_8) (.cond (.tmp 29) (.seq (.region r21_9) .ret) (.seq (.region r21_10) (.cond (.tmp 35) (.seq (.seq (.region r21_11) (.cond (.tmp 39) (.seq (.region r21_12) .ret) .skip)) (.region r21_13)) .skip)))))))))))) (.seq (.region r21_14) .ret)))
theorem code21 : ∃ c, Try.f21.body = some c ∧ abs Try.f21.ntmps c = B21 := ⟨_, rfl, by kernel_rfl⟩
theorem hb21 : HasBody Try.prog 21 := hasBody_of Try.func21 (by kernel_rfl)
theorem res21 : Try.f21.results = #[(.tmp 4)] := rfl
theorem enter21 {w : World} {R : Value → World → Prop} (x0 x1 : Value) (h : vc Try.prog B21 (retK Try.prog #[(.tmp 4)] R) [] (initEnv [x0, x1] 0) w) : FnC Try.prog 21 #[x0, x1] w R := by
  obtain ⟨c, h1, h2⟩ := code21
  exact hb21.fn (ret_of_vc mixed Try.func21 h1 (Nat.le_of_ble_eq_true rfl) B21 h2 h)
@[push_cast] theorem vr21_0 : VR r21_0 [⟨some 2, .box 37 (.tmp 0), 0, none⟩, ⟨some 4, .assign (.const (.int .i64 0)), 24, none⟩] := vR rfl
@[push_cast] theorem vr21_1 : VR r21_1 [⟨some 5, .fieldAddr 37 (.tmp 2) 0, 0, none⟩, ⟨some 6, .load 3 (.tmp 5), 3, none⟩] := vR rfl
@[push_cast] theorem vr21_2 : VR r21_2 [⟨some 8, .binOp .eql 3 (.tmp 6) (.const (.int .i64 1)) 3, 4, none⟩, ⟨some 7, .assign (.tmp 8), 4, none⟩] := vR rfl
@[push_cast] theorem vr21_3 : VR r21_3 [⟨some 9, .move (.tmp 1), 43, none⟩, ⟨some 10, .fieldAddr 37 (.tmp 2) 2, 0, none⟩, ⟨some 11, .load 9 (.tmp 10), 9, none⟩, ⟨some 12, .fieldAddr 37 (.tmp 2) 4, 0, none⟩, ⟨some 13, .load 22 (.tmp 12), 22, none⟩, ⟨some 14, .call ⟨.value (.func 37), #[.tmp 9, .tmp 11, .tmp 13], #[43, 9, 22]⟩, 24, none⟩, ⟨some 4, .assign (.tmp 14), 24, none⟩] := vR rfl
@[push_cast] theorem vr21_4 : VR r21_4 [⟨some 16, .binOp .eql 3 (.tmp 6) (.const (.int .i64 2)) 3, 4, none⟩, ⟨some 15, .assign (.tmp 16), 4, none⟩] := vR rfl
@[push_cast] theorem vr21_5 : VR r21_5 [⟨some 17, .move (.tmp 1), 43, none⟩, ⟨some 18, .fieldAddr 37 (.tmp 2) 2, 0, none⟩, ⟨some 19, .load 9 (.tmp 18), 9, none⟩, ⟨some 20, .call ⟨.value (.func 38), #[.tmp 17, .tmp 19], #[43, 9]⟩, 24, none⟩, ⟨some 4, .assign (.tmp 20), 24, none⟩] := vR rfl
@[push_cast] theorem vr21_6 : VR r21_6 [⟨some 22, .binOp .eql 3 (.tmp 6) (.const (.int .i64 3)) 3, 4, none⟩, ⟨some 21, .assign (.tmp 22), 4, none⟩] := vR rfl
@[push_cast] theorem vr21_7 : VR r21_7 [⟨some 23, .move (.tmp 1), 43, none⟩, ⟨some 24, .fieldAddr 37 (.tmp 2) 2, 0, none⟩, ⟨some 25, .load 9 (.tmp 24), 9, none⟩, ⟨some 26, .fieldAddr 37 (.tmp 2) 3, 0, none⟩, ⟨some 27, .load 9 (.tmp 26), 9, none⟩, ⟨some 28, .call ⟨.value (.func 39), #[.tmp 23, .tmp 25, .tmp 27], #[43, 9, 9]⟩, 24, none⟩, ⟨some 4, .assign (.tmp 28), 24, none⟩] := vR rfl
@[push_cast] theorem vr21_8 : VR r21_8 [⟨some 30, .binOp .eql 3 (.tmp 6) (.const (.int .i64 4)) 3, 4, none⟩, ⟨some 29, .assign (.tmp 30), 4, none⟩] := vR rfl
@[push_cast] theorem vr21_9 : VR r21_9 [⟨some 31, .move (.tmp 1), 43, none⟩, ⟨some 32, .fieldAddr 37 (.tmp 2) 2, 0, none⟩, ⟨some 33, .load 9 (.tmp 32), 9, none⟩, ⟨some 34, .call ⟨.value (.func 40), #[.tmp 31, .tmp 33], #[43, 9]⟩, 24, none⟩, ⟨some 4, .assign (.tmp 34), 24, none⟩] := vR rfl
@[push_cast] theorem vr21_10 : VR r21_10 [⟨some 36, .binOp .eql 3 (.tmp 6) (.const (.int .i64 5)) 3, 4, none⟩, ⟨some 35, .assign (.tmp 36), 4, none⟩] := vR rfl
@[push_cast] theorem vr21_11 : VR r21_11 [⟨some 37, .fieldAddr 37 (.tmp 2) 1, 0, none⟩, ⟨some 38, .load 3 (.tmp 37), 3, none⟩, ⟨some 39, .binOp .lss 3 (.tmp 38) (.const (.int .i64 0)) 3, 4, none⟩] := vR rfl
@[push_cast] theorem vr21_12 : VR r21_12 [⟨some 4, .assign (.const (.int .i64 1)), 24, none⟩] := vR rfl
@[push_cast] theorem vr21_13 : VR r21_13 [⟨some 40, .move (.tmp 1), 43, none⟩, ⟨some 41, .fieldAddr 37 (.tmp 2) 1, 0, none⟩, ⟨some 42, .load 3 (.tmp 41), 3, none⟩, ⟨some 43, .nilCheck (.tmp 40), 0, none⟩, ⟨some 44, .fieldAddr 71 (.tmp 43) 1, 0, none⟩, ⟨none, .store 3 (.tmp 44) (.tmp 42), 0, none⟩] := vR rfl
@[push_cast] theorem vr21_14 : VR r21_14 [⟨some 4, .assign (.const (.int .i64 0)), 24, none⟩] := vR rfl
/-! 22 (*columbary/columbaryref03.Vault).Crash (params #[43, 3], results #[(.tmp 4)], 63 slots) -/
def W22_0 : List Nat := [6, 7, 8, 15, 16, 17, 18, 19, 20, 21, 22, 23, 24, 25, 26, 27, 28, 29, 30, 31, 32, 33, 34, 35, 36, 37, 38, 39, 40, 41, 42, 43, 44, 45, 46, 47, 48, 49, 50, 51, 52, 53, 54, 55, 56, 57, 58, 59, 60, 61]
@[push_cast] theorem W22_0_def : W22_0 = [6, 7, 8, 15, 16, 17, 18, 19, 20, 21, 22, 23, 24, 25, 26, 27, 28, 29, 30, 31, 32, 33, 34, 35, 36, 37, 38, 39, 40, 41, 42, 43, 44, 45, 46, 47, 48, 49, 50, 51, 52, 53, 54, 55, 56, 57, 58, 59, 60, 61] := mk_eq rfl
def r22_0 : List VOp :=
  [⟨some 4, .assign (.const (.pointer none)), 43, none⟩]
def r22_1 : List VOp :=
  [mv 9 0 43,
   ⟨some 10, .nilCheck (.tmp 9), 0, none⟩,
   fad 11 71 10 0,
   lda 12 3 11,
   ⟨some 13, .build 71 #[(0, (.tmp 12)), (1, (.const (.int .i64 (-1))))], 71, none⟩,
   ⟨some 14, .box 71 (.tmp 13), 43, none⟩,
   asg 5 14 43]
def r22_2 : List VOp :=
  [⟨some 6, .assign (.const (.int .i64 0)), 3, none⟩]
def r22_3 : List VOp :=
  [mv 15 6 3,
   mv 16 0 43,
   ⟨some 17, .nilCheck (.tmp 16), 0, none⟩,
   fad 18 71 17 2,
   lda 19 69 18,
   ⟨some 20, .call ⟨.builtin .len, #[.tmp 19], #[69]⟩, 3, none⟩,
   ⟨some 21, .binOp .lss 3 (.tmp 15) (.tmp 20) 3, 4, none⟩]
def r22_5 : List VOp :=
  [mv 24 0 43,
   ⟨some 25, .nilCheck (.tmp 24), 0, none⟩,
   fad 26 71 25 2,
   lda 27 69 26,
   mv 28 6 3,
   iad 29 69 27 28,
   lda 30 73 29,
   ⟨some 7, .alloc 73, 0, none⟩,
   ⟨none, .store 73 (.tmp 7) (.tmp 30), 0, none⟩]
def r22_6 : List VOp :=
  [fad 31 73 7 2,
   lda 32 3 31,
   mv 33 1 3,
   ⟨some 34, .call ⟨.builtin .max, #[(.tmp 33), (.const (.int .i64 0))], #[3, 3]⟩, 3, none⟩,
   fad 35 73 7 1,
   lda 36 22 35,
   ⟨some 37, .call ⟨.builtin .len, #[.tmp 36], #[22]⟩, 3, none⟩,
   fad 38 73 7 2,
   lda 39 3 38,
   ⟨some 40, .binOp .sub 3 (.tmp 37) (.tmp 39) 3, 3, none⟩,
   ⟨some 41, .call ⟨.builtin .min, #[.tmp 34, .tmp 40], #[3, 3]⟩, 3, none⟩,
   ⟨some 42, .binOp .add 3 (.tmp 32) (.tmp 41) 3, 3, none⟩,
   asg 8 42 3]
def r22_7 : List VOp :=
  [mv 43 5 43,
   mv 44 5 43,
   ⟨some 45, .nilCheck (.tmp 44), 0, none⟩,
   fad 46 71 45 2,
   lda 47 69 46,
   fad 48 73 7 0,
   lda 49 9 48,
   ⟨some 50, .buildSlice 22 0 #[], 22, none⟩,
   fad 51 73 7 1,
   lda 52 22 51,
   mv 53 8 3,
   ⟨some 54, .slice 22 (.tmp 52) none (some (.tmp 53)) none, 22, none⟩,
   ⟨some 55, .call ⟨.builtin .append, #[.tmp 50, .tmp 54], #[22, 22]⟩, 22, none⟩,
   mv 56 8 3,
   ⟨some 57, .build 73 #[(0, (.tmp 49)), (1, (.tmp 55)), (2, (.tmp 56))], 73, none⟩,
   ⟨some 58, .buildSlice 69 1 #[(0, (.tmp 57))], 69, none⟩,
   ⟨some 59, .call ⟨.builtin .append, #[.tmp 47, .tmp 58], #[69, 69]⟩, 69, none⟩,
   ⟨some 60, .nilCheck (.tmp 43), 0, none⟩,
   fad 61 71 60 2,
   ⟨none, .store 69 (.tmp 61) (.tmp 59), 0, none⟩]
def r22_4 : List VOp :=
  [mv 22 6 3,
   ⟨some 23, .binOp .add 3 (.tmp 22) (.const (.int .i64 1)) 3, 3, none⟩,
   asg 6 23 3]
def r22_8 : List VOp :=
  [mv 62 5 43,
   asg 4 62 43]
def B22 : VC :=
  (.seq (.region r22_0) (.seq (.region r22_1) (.seq (.seq (.region r22_2) (.block 0 (.loop (.seq (.seq (.region r22_3) (.cond (.tmp 21) .skip (.exit 0))) (.seq (.block 1 (.seq (.region r22_5) (.seq (.region r22_6) (.drawS r22_7 4 [43])))) (.region r22_4)))))) (.seq (.region r22_8) .ret))))
theorem code22 : ∃ c, Try.f22.body = some c ∧ abs Try.f22.ntmps c = B22 := ⟨_, rfl, by kernel_rfl⟩
theorem hb22 : HasBody Try.prog 22 := hasBody_of Try.func22 (by kernel_rfl)
theorem res22 : Try.f22.results = #[(.tmp 4)] := rfl
theorem enter22 {w : World} {R : Value → World → Prop} (x0 x1 : Value) (h : vc Try.prog B22 (retK Try.prog #[(.tmp 4)] R) [] (initEnv [x0, x1] 0) w) : FnC Try.prog 22 #[x0, x1] w R := by
  obtain ⟨c, h1, h2⟩ := code22
  exact hb22.fn (ret_of_vc mixed Try.func22 h1 (Nat.le_of_ble_eq_true rfl) B22 h2 h)
@[push_cast] theorem vr22_0 : VR r22_0 [⟨some 4, .assign (.const (.pointer none)), 43, none⟩] := vR rfl
@[push_cast] theorem vr22_1 : VR r22_1 [⟨some 9, .move (.tmp 0), 43, none⟩, ⟨some 10, .nilCheck (.tmp 9), 0, none⟩, ⟨some 11, .fieldAddr 71 (.tmp 10) 0, 0, none⟩, ⟨some 12, .load 3 (.tmp 11), 3, none⟩, ⟨some 13, .build 71 #[(0, (.tmp 12)), (1, (.const (.int .i64 (-1))))], 71, none⟩, ⟨some 14, .box 71 (.tmp 13), 43, none⟩, ⟨some 5, .assign (.tmp 14), 43, none⟩] := vR rfl
@[push_cast] theorem vr22_2 : VR r22_2 [⟨some 6, .assign (.const (.int .i64 0)), 3, none⟩] := vR rfl
@[push_cast] theorem vr22_3 : VR r22_3 [⟨some 15, .move (.tmp 6), 3, none⟩, ⟨some 16, .move (.tmp 0), 43, none⟩, ⟨some 17, .nilCheck (.tmp 16), 0, none⟩, ⟨some 18, .fieldAddr 71 (.tmp 17) 2, 0, none⟩, ⟨some 19, .load 69 (.tmp 18), 69, none⟩, ⟨some 20, .call ⟨.builtin .len, #[.tmp 19], #[69]⟩, 3, none⟩, ⟨some 21, .binOp .lss 3 (.tmp 15) (.tmp 20) 3, 4, none⟩] := vR rfl
@[push_cast] theorem vr22_5 : VR r22_5 [⟨some 24, .move (.tmp 0), 43, none⟩, ⟨some 25, .nilCheck (.tmp 24), 0, none⟩, ⟨some 26, .fieldAddr 71 (.tmp 25) 2, 0, none⟩, ⟨some 27, .load 69 (.tmp 26), 69, none⟩, ⟨some 28, .move (.tmp 6), 3, none⟩, ⟨some 29, .indexAddr 69 (.tmp 27) (.tmp 28), 0, none⟩, ⟨some 30, .load 73 (.tmp 29), 73, none⟩, ⟨some 7, .alloc 73, 0, none⟩, ⟨none, .store 73 (.tmp 7) (.tmp 30), 0, none⟩] := vR rfl
@[push_cast] theorem vr22_6 : VR r22_6 [⟨some 31, .fieldAddr 73 (.tmp 7) 2, 0, none⟩, ⟨some 32, .load 3 (.tmp 31), 3, none⟩, ⟨some 33, .move (.tmp 1), 3, none⟩, ⟨some 34, .call ⟨.builtin .max, #[(.tmp 33), (.const (.int .i64 0))], #[3, 3]⟩, 3, none⟩, ⟨some 35, .fieldAddr 73 (.tmp 7) 1, 0, none⟩, ⟨some 36, .load 22 (.tmp 35), 22, none⟩, ⟨some 37, .call ⟨.builtin .len, #[.tmp 36], #[22]⟩, 3, none⟩, ⟨some 38, .fieldAddr 73 (.tmp 7) 2, 0, none⟩, ⟨some 39, .load 3 (.tmp 38), 3, none⟩, ⟨some 40, .binOp .sub 3 (.tmp 37) (.tmp 39) 3, 3, none⟩, ⟨some 41, .call ⟨.builtin .min, #[.tmp 34, .tmp 40], #[3, 3]⟩, 3, none⟩, ⟨some 42, .binOp .add 3 (.tmp 32) (.tmp 41) 3, 3, none⟩, ⟨some 8, .assign (.tmp 42), 3, none⟩] := vR rfl
@[push_cast] theorem vr22_7 : vc Try.prog (.drawS r22_7 4 [43]) Q ds σ w = drawnS Try.prog [(⟨some 43, .move (.tmp 5), 43, none⟩, [5]), (⟨some 44, .move (.tmp 5), 43, none⟩, [5]), (⟨some 45, .nilCheck (.tmp 44), 0, none⟩, [44]), (⟨some 46, .fieldAddr 71 (.tmp 45) 2, 0, none⟩, [45]), (⟨some 47, .load 69 (.tmp 46), 69, none⟩, [46]), (⟨some 48, .fieldAddr 73 (.tmp 7) 0, 0, none⟩, [7]), (⟨some 49, .load 9 (.tmp 48), 9, none⟩, [48]), (⟨some 50, .buildSlice 22 0 #[], 22, none⟩, []), (⟨some 51, .fieldAddr 73 (.tmp 7) 1, 0, none⟩, [7]), (⟨some 52, .load 22 (.tmp 51), 22, none⟩, [51]), (⟨some 53, .move (.tmp 8), 3, none⟩, [8]), (⟨some 54, .slice 22 (.tmp 52) none (some (.tmp 53)) none, 22, none⟩, [52, 53]), (⟨some 55, .call ⟨.builtin .append, #[.tmp 50, .tmp 54], #[22, 22]⟩, 22, none⟩, [50, 54]), (⟨some 56, .move (.tmp 8), 3, none⟩, [8]), (⟨some 57, .build 73 #[(0, (.tmp 49)), (1, (.tmp 55)), (2, (.tmp 56))], 73, none⟩, [49, 55, 56]), (⟨some 58, .buildSlice 69 1 #[(0, (.tmp 57))], 69, none⟩, [57]), (⟨some 59, .call ⟨.builtin .append, #[.tmp 47, .tmp 58], #[69, 69]⟩, 69, none⟩, [47, 58]), (⟨some 60, .nilCheck (.tmp 43), 0, none⟩, [43]), (⟨some 61, .fieldAddr 71 (.tmp 60) 2, 0, none⟩, [60]), (⟨none, .store 69 (.tmp 61) (.tmp 59), 0, none⟩, [61, 59])] 4 [43] (Q .normal ds) σ w := mk_eq rfl
@[push_cast] theorem vr22_4 : VR r22_4 [⟨some 22, .move (.tmp 6), 3, none⟩, ⟨some 23, .binOp .add 3 (.tmp 22) (.const (.int .i64 1)) 3, 3, none⟩, ⟨some 6, .assign (.tmp 23), 3, none⟩] := vR rfl
@[push_cast] theorem vr22_8 : VR r22_8 [⟨some 62, .move (.tmp 5), 43, none⟩, ⟨some 4, .assign (.tmp 62), 43, none⟩] := vR rfl
/-! 24 (*columbary/columbaryref03.Vault).Copy (params #[43], results #[(.tmp 2)], 19 slots) -/
def r24_0 : List VOp :=
  [⟨some 2, .assign (.const (.pointer none)), 43, none⟩]
def r24_1 : List VOp :=
  [mv 3 0 43,
   ⟨some 4, .nilCheck (.tmp 3), 0, none⟩,
   fad 5 71 4 0,
   lda 6 3 5,
   mv 7 0 43,
   ⟨some 8, .nilCheck (.tmp 7), 0, none⟩,
   fad 9 71 8 1,
   lda 10 3 9,
   ⟨some 11, .buildSlice 69 0 #[], 69, none⟩,
   mv 12 0 43,
   ⟨some 13, .nilCheck (.tmp 12), 0, none⟩,
   fad 14 71 13 2,
   lda 15 69 14,
   ⟨some 16, .call ⟨.builtin .append, #[.tmp 11, .tmp 15], #[69, 69]⟩, 69, none⟩,
   ⟨some 17, .build 71 #[(0, (.tmp 6)), (1, (.tmp 10)), (2, (.tmp 16))], 71, none⟩,
   ⟨some 18, .box 71 (.tmp 17), 43, none⟩,
   asg 2 18 43]
def B24 : VC :=
  (.seq (.region r24_0) (.seq (.draw r24_1 4) .ret))
theorem code24 : ∃ c, Try.f24.body = some c ∧ abs Try.f24.ntmps c = B24 := ⟨_, rfl, by kernel_rfl⟩
theorem hb24 : HasBody Try.prog 24 := hasBody_of Try.func24 (by kernel_rfl)
theorem res24 : Try.f24.results = #[(.tmp 2)] := rfl
theorem enter24 {w : World} {R : Value → World → Prop} (x0 : Value) (h : vc Try.prog B24 (retK Try.prog #[(.tmp 2)] R) [] (initEnv [x0] 0) w) : FnC Try.prog 24 #[x0] w R := by
  obtain ⟨c, h1, h2⟩ := code24
  exact hb24.fn (ret_of_vc mixed Try.func24 h1 (Nat.le_of_ble_eq_true rfl) B24 h2 h)
@[push_cast] theorem vr24_0 : VR r24_0 [⟨some 2, .assign (.const (.pointer none)), 43, none⟩] := vR rfl
@[push_cast] theorem vr24_1 : vc Try.prog (.draw r24_1 4) Q ds σ w = drawn Try.prog [(⟨some 3, .move (.tmp 0), 43, none⟩, [0]), (⟨some 4, .nilCheck (.tmp 3), 0, none⟩, [3]), (⟨some 5, .fieldAddr 71 (.tmp 4) 0, 0, none⟩, [4]), (⟨some 6, .load 3 (.tmp 5), 3, none⟩, [5]), (⟨some 7, .move (.tmp 0), 43, none⟩, [0]), (⟨some 8, .nilCheck (.tmp 7), 0, none⟩, [7]), (⟨some 9, .fieldAddr 71 (.tmp 8) 1, 0, none⟩, [8]), (⟨some 10, .load 3 (.tmp 9), 3, none⟩, [9]), (⟨some 11, .buildSlice 69 0 #[], 69, none⟩, []), (⟨some 12, .move (.tmp 0), 43, none⟩, [0]), (⟨some 13, .nilCheck (.tmp 12), 0, none⟩, [12]), (⟨some 14, .fieldAddr 71 (.tmp 13) 2, 0, none⟩, [13]), (⟨some 15, .load 69 (.tmp 14), 69, none⟩, [14]), (⟨some 16, .call ⟨.builtin .append, #[.tmp 11, .tmp 15], #[69, 69]⟩, 69, none⟩, [11, 15]), (⟨some 17, .build 71 #[(0, (.tmp 6)), (1, (.tmp 10)), (2, (.tmp 16))], 71, none⟩, [6, 10, 16]), (⟨some 18, .box 71 (.tmp 17), 43, none⟩, [17]), (⟨some 2, .assign (.tmp 18), 43, none⟩, [18])] 4 (Q .normal ds) σ w := mk_eq rfl
/-! 25 columbary/columbarylaw03.same (params #[23, 43], results #[(.tmp 4)], 66 slots) -/
def W25_0 : List Nat := [4, 7, 8, 9, 35, 36, 37, 38, 39, 40, 41, 42, 43, 44, 45, 46, 47, 48, 49, 50, 51, 52, 53, 54, 55, 56, 57, 58, 59, 60, 61, 62, 63, 64, 65]
@[push_cast] theorem W25_0_def : W25_0 = [4, 7, 8, 9, 35, 36, 37, 38, 39, 40, 41, 42, 43, 44, 45, 46, 47, 48, 49, 50, 51, 52, 53, 54, 55, 56, 57, 58, 59, 60, 61, 62, 63, 64, 65] := mk_eq rfl
def r25_0 : List VOp :=
  [⟨some 4, .assign (.const (.bool false)), 4, none⟩]
def r25_1 : List VOp :=
  [mv 10 0 23,
   ⟨some 11, .call ⟨.value (.func 19), #[.tmp 10], #[23]⟩, 40, none⟩,
   asg 5 11 40]
def r25_2 : List VOp :=
  [mv 12 5 40,
   mv 13 1 43,
   ⟨some 14, .call ⟨.value (.func 42), #[.tmp 13], #[43]⟩, 40, none⟩,
   ⟨some 15, .call ⟨.value (.func 29), #[.tmp 12, .tmp 14], #[40, 40]⟩, 4, none⟩,
   asg 6 15 4]
def r25_3 : List VOp :=
  [mv 16 6 4,
   ⟨some 17, .unOp .not 4 (.tmp 16), 4, none⟩,
   mv 18 17 4,
   ⟨some 19, .move (.tmp 0), 23, some (18, false)⟩,
   ⟨some 20, .call ⟨.value (.func 17), #[.tmp 19], #[23]⟩, 3, some (18, false)⟩,
   ⟨some 21, .move (.tmp 1), 43, some (18, false)⟩,
   ⟨some 22, .call ⟨.value (.func 43), #[.tmp 21], #[43]⟩, 3, some (18, false)⟩,
   ⟨some 23, .binOp .neq 3 (.tmp 20) (.tmp 22) 3, 4, some (18, false)⟩,
   ⟨some 24, .pick (.tmp 18) (.const (.bool true)) (.tmp 23), 4, none⟩,
   mv 25 24 4,
   ⟨some 26, .move (.tmp 0), 23, some (25, false)⟩,
   ⟨some 27, .call ⟨.value (.func 28), #[.tmp 26], #[23]⟩, 4, some (25, false)⟩,
   ⟨some 28, .move (.tmp 1), 43, some (25, false)⟩,
   ⟨some 29, .nilCheck (.tmp 28), 0, some (25, false)⟩,
   ⟨some 30, .fieldAddr 71 (.tmp 29) 1, 0, some (25, false)⟩,
   ⟨some 31, .load 3 (.tmp 30), 3, some (25, false)⟩,
   ⟨some 32, .binOp .eql 3 (.tmp 31) (.const (.int .i64 0)) 3, 4, some (25, false)⟩,
   ⟨some 33, .binOp .neq 4 (.tmp 27) (.tmp 32) 4, 4, some (25, false)⟩,
   ⟨some 34, .pick (.tmp 25) (.const (.bool true)) (.tmp 33), 4, none⟩]
def r25_4 : List VOp :=
  [⟨some 4, .assign (.const (.bool false)), 4, none⟩]
def r25_5 : List VOp :=
  [⟨some 7, .assign (.const (.int .i64 0)), 3, none⟩]
def r25_6 : List VOp :=
  [mv 35 7 3,
   mv 36 5 40,
   ⟨some 37, .call ⟨.builtin .len, #[.tmp 36], #[40]⟩, 3, none⟩,
   ⟨some 38, .binOp .lss 3 (.tmp 35) (.tmp 37) 3, 4, none⟩]
def r25_8 : List VOp :=
  [mv 42 0 23,
   mv 43 5 40,
   mv 44 7 3,
   iad 45 40 43 44,
   lda 46 9 45,
   ⟨some 47, .call ⟨.value (.func 14), #[.tmp 42, .tmp 46], #[23, 9]⟩, 31, none⟩,
   mv 41 47 31,
   ext 48 41 0 22,
   ext 49 41 1 4,
   asg 8 48 22,
   asg 9 49 4]
def r25_9 : List VOp :=
  [mv 50 9 4,
   ⟨some 51, .unOp .not 4 (.tmp 50), 4, none⟩,
   mv 52 51 4,
   ⟨some 53, .move (.tmp 8), 22, some (52, false)⟩,
   ⟨some 54, .convert 22 9 (.tmp 53), 9, some (52, false)⟩,
   ⟨some 55, .move (.tmp 1), 43, some (52, false)⟩,
   ⟨some 56, .nilCheck (.tmp 55), 0, some (52, false)⟩,
   ⟨some 57, .fieldAddr 71 (.tmp 56) 2, 0, some (52, false)⟩,
   ⟨some 58, .load 69 (.tmp 57), 69, some (52, false)⟩,
   ⟨some 59, .move (.tmp 7), 3, some (52, false)⟩,
   ⟨some 60, .indexAddr 69 (.tmp 58) (.tmp 59), 0, some (52, false)⟩,
   ⟨some 61, .fieldAddr 73 (.tmp 60) 1, 0, some (52, false)⟩,
   ⟨some 62, .load 22 (.tmp 61), 22, some (52, false)⟩,
   ⟨some 63, .convert 22 9 (.tmp 62), 9, some (52, false)⟩,
   ⟨some 64, .binOp .neq 9 (.tmp 54) (.tmp 63) 9, 4, some (52, false)⟩,
   ⟨some 65, .pick (.tmp 52) (.const (.bool true)) (.tmp 64), 4, none⟩]
def r25_10 : List VOp :=
  [⟨some 4, .assign (.const (.bool false)), 4, none⟩]
def r25_7 : List VOp :=
  [mv 39 7 3,
   ⟨some 40, .binOp .add 3 (.tmp 39) (.const (.int .i64 1)) 3, 3, none⟩,
   asg 7 40 3]
def r25_11 : List VOp :=
  [⟨some 4, .assign (.const (.bool true)), 4, none⟩]
def B25 : VC :=
  (.seq (.region r25_0) (.seq (.region r25_1) (.seq (.region r25_2) (.seq (.seq (.draw r25_3 3) (.cond (.tmp 34) (.seq (.region r25_4) .ret) .skip)) (.seq (.seq (.region r25_5) (.block 0 (.loop (.seq (.seq (.region r25_6) (.cond (.tmp 38) .skip (.exit 0))) (.seq (.block 1 (.seq (.region r25_8) (.seq (.draw r25_9 3) (.cond (.tmp 65) (.seq (.region r25_10) .ret) .skip)))) (.region r25_7)))))) (.seq (.region r25_11) .ret))))))
theorem code25 : ∃ c, Try.f25.body = some c ∧ abs Try.f25.ntmps c = B25 := ⟨_, rfl, by kernel_rfl⟩
theorem hb25 : HasBody Try.prog 25 := hasBody_of Try.func25 (by kernel_rfl)
theorem res25 : Try.f25.results = #[(.tmp 4)] := rfl
theorem enter25 {w : World} {R : Value → World → Prop} (x0 x1 : Value) (h : vc Try.prog B25 (retK Try.prog #[(.tmp 4)] R) [] (initEnv [x0, x1] 0) w) : FnC Try.prog 25 #[x0, x1] w R := by
  obtain ⟨c, h1, h2⟩ := code25
  exact hb25.fn (ret_of_vc mixed Try.func25 h1 (Nat.le_of_ble_eq_true rfl) B25 h2 h)
@[push_cast] theorem vr25_0 : VR r25_0 [⟨some 4, .assign (.const (.bool false)), 4, none⟩] := vR rfl
@[push_cast] theorem vr25_1 : VR r25_1 [⟨some 10, .move (.tmp 0), 23, none⟩, ⟨some 11, .call ⟨.value (.func 19), #[.tmp 10], #[23]⟩, 40, none⟩, ⟨some 5, .assign (.tmp 11), 40, none⟩] := vR rfl
@[push_cast] theorem vr25_2 : VR r25_2 [⟨some 12, .move (.tmp 5), 40, none⟩, ⟨some 13, .move (.tmp 1), 43, none⟩, ⟨some 14, .call ⟨.value (.func 42), #[.tmp 13], #[43]⟩, 40, none⟩, ⟨some 15, .call ⟨.value (.func 29), #[.tmp 12, .tmp 14], #[40, 40]⟩, 4, none⟩, ⟨some 6, .assign (.tmp 15), 4, none⟩] := vR rfl
@[push_cast] theorem vr25_3 : vc Try.prog (.draw r25_3 3) Q ds σ w = drawn Try.prog [(⟨some 16, .move (.tmp 6), 4, none⟩, [6]), (⟨some 17, .unOp .not 4 (.tmp 16), 4, none⟩, [16]), (⟨some 18, .move (.tmp 17), 4, none⟩, [17]), (⟨some 19, .move (.tmp 0), 23, some (18, false)⟩, [0, 18]), (⟨some 20, .call ⟨.value (.func 17), #[.tmp 19], #[23]⟩, 3, some (18, false)⟩, [19, 18]), (⟨some 21, .move (.tmp 1), 43, some (18, false)⟩, [1, 18]), (⟨some 22, .call ⟨.value (.func 43), #[.tmp 21], #[43]⟩, 3, some (18, false)⟩, [21, 18]), (⟨some 23, .binOp .neq 3 (.tmp 20) (.tmp 22) 3, 4, some (18, false)⟩, [20, 22, 18]), (⟨some 24, .pick (.tmp 18) (.const (.bool true)) (.tmp 23), 4, none⟩, [18, 23]), (⟨some 25, .move (.tmp 24), 4, none⟩, [24]), (⟨some 26, .move (.tmp 0), 23, some (25, false)⟩, [0, 25]), (⟨some 27, .call ⟨.value (.func 28), #[.tmp 26], #[23]⟩, 4, some (25, false)⟩, [26, 25]), (⟨some 28, .move (.tmp 1), 43, some (25, false)⟩, [1, 25]), (⟨some 29, .nilCheck (.tmp 28), 0, some (25, false)⟩, [28, 25]), (⟨some 30, .fieldAddr 71 (.tmp 29) 1, 0, some (25, false)⟩, [29, 25]), (⟨some 31, .load 3 (.tmp 30), 3, some (25, false)⟩, [30, 25]), (⟨some 32, .binOp .eql 3 (.tmp 31) (.const (.int .i64 0)) 3, 4, some (25, false)⟩, [31, 25]), (⟨some 33, .binOp .neq 4 (.tmp 27) (.tmp 32) 4, 4, some (25, false)⟩, [27, 32, 25]), (⟨some 34, .pick (.tmp 25) (.const (.bool true)) (.tmp 33), 4, none⟩, [25, 33])] 3 (Q .normal ds) σ w := mk_eq rfl
@[push_cast] theorem vr25_4 : VR r25_4 [⟨some 4, .assign (.const (.bool false)), 4, none⟩] := vR rfl
@[push_cast] theorem vr25_5 : VR r25_5 [⟨some 7, .assign (.const (.int .i64 0)), 3, none⟩] := vR rfl
@[push_cast] theorem vr25_6 : VR r25_6 [⟨some 35, .move (.tmp 7), 3, none⟩, ⟨some 36, .move (.tmp 5), 40, none⟩, ⟨some 37, .call ⟨.builtin .len, #[.tmp 36], #[40]⟩, 3, none⟩, ⟨some 38, .binOp .lss 3 (.tmp 35) (.tmp 37) 3, 4, none⟩] := vR rfl
@[push_cast] theorem vr25_8 : VR r25_8 [⟨some 42, .move (.tmp 0), 23, none⟩, ⟨some 43, .move (.tmp 5), 40, none⟩, ⟨some 44, .move (.tmp 7), 3, none⟩, ⟨some 45, .indexAddr 40 (.tmp 43) (.tmp 44), 0, none⟩, ⟨some 46, .load 9 (.tmp 45), 9, none⟩, ⟨some 47, .call ⟨.value (.func 14), #[.tmp 42, .tmp 46], #[23, 9]⟩, 31, none⟩, ⟨some 41, .move (.tmp 47), 31, none⟩, ⟨some 48, .extract (.tmp 41) 0, 22, none⟩, ⟨some 49, .extract (.tmp 41) 1, 4, none⟩, ⟨some 8, .assign (.tmp 48), 22, none⟩, ⟨some 9, .assign (.tmp 49), 4, none⟩] := vR rfl
@[push_cast] theorem vr25_9 : vc Try.prog (.draw r25_9 3) Q ds σ w = drawn Try.prog [(⟨some 50, .move (.tmp 9), 4, none⟩, [9]), (⟨some 51, .unOp .not 4 (.tmp 50), 4, none⟩, [50]), (⟨some 52, .move (.tmp 51), 4, none⟩, [51]), (⟨some 53, .move (.tmp 8), 22, some (52, false)⟩, [8, 52]), (⟨some 54, .convert 22 9 (.tmp 53), 9, some (52, false)⟩, [53, 52]), (⟨some 55, .move (.tmp 1), 43, some (52, false)⟩, [1, 52]), (⟨some 56, .nilCheck (.tmp 55), 0, some (52, false)⟩, [55, 52]), (⟨some 57, .fieldAddr 71 (.tmp 56) 2, 0, some (52, false)⟩, [56, 52]), (⟨some 58, .load 69 (.tmp 57), 69, some (52, false)⟩, [57, 52]), (⟨some 59, .move (.tmp 7), 3, some (52, false)⟩, [7, 52]), (⟨some 60, .indexAddr 69 (.tmp 58) (.tmp 59), 0, some (52, false)⟩, [58, 59, 52]), (⟨some 61, .fieldAddr 73 (.tmp 60) 1, 0, some (52, false)⟩, [60, 52]), (⟨some 62, .load 22 (.tmp 61), 22, some (52, false)⟩, [61, 52]), (⟨some 63, .convert 22 9 (.tmp 62), 9, some (52, false)⟩, [62, 52]), (⟨some 64, .binOp .neq 9 (.tmp 54) (.tmp 63) 9, 4, some (52, false)⟩, [54, 63, 52]), (⟨some 65, .pick (.tmp 52) (.const (.bool true)) (.tmp 64), 4, none⟩, [52, 64])] 3 (Q .normal ds) σ w := mk_eq rfl
@[push_cast] theorem vr25_10 : VR r25_10 [⟨some 4, .assign (.const (.bool false)), 4, none⟩] := vR rfl
@[push_cast] theorem vr25_7 : VR r25_7 [⟨some 39, .move (.tmp 7), 3, none⟩, ⟨some 40, .binOp .add 3 (.tmp 39) (.const (.int .i64 1)) 3, 3, none⟩, ⟨some 7, .assign (.tmp 40), 3, none⟩] := vR rfl
@[push_cast] theorem vr25_11 : VR r25_11 [⟨some 4, .assign (.const (.bool true)), 4, none⟩] := vR rfl
/-! 26 (*columbary/columbaryref03.Vault).Read (params #[43, 9], results #[(.tmp 4), (.tmp 5)], 24 slots) -/
def r26_0 : List VOp :=
  [⟨some 4, .assign (.const (.slice none 0 0)), 22, none⟩,
   ⟨some 5, .assign (.const (.bool false)), 4, none⟩]
def r26_1 : List VOp :=
  [mv 9 0 43,
   mv 10 1 9,
   ⟨some 11, .call ⟨.value (.func 44), #[.tmp 9, .tmp 10], #[43, 9]⟩, 75, none⟩,
   mv 8 11 75,
   ext 12 8 0 3,
   ext 13 8 1 4,
   asg 6 12 3,
   asg 7 13 4]
def r26_2 : List VOp :=
  [mv 14 7 4,
   ⟨some 15, .unOp .not 4 (.tmp 14), 4, none⟩]
def r26_3 : List VOp :=
  [⟨some 4, .assign (.const (.slice none 0 0)), 22, none⟩,
   ⟨some 5, .assign (.const (.bool false)), 4, none⟩]
def r26_4 : List VOp :=
  [mv 16 0 43,
   ⟨some 17, .nilCheck (.tmp 16), 0, none⟩,
   fad 18 71 17 2,
   lda 19 69 18,
   mv 20 6 3,
   iad 21 69 19 20,
   fad 22 73 21 1,
   lda 23 22 22,
   asg 4 23 22,
   ⟨some 5, .assign (.const (.bool true)), 4, none⟩]
def B26 : VC :=
  (.seq (.region r26_0) (.seq (.region r26_1) (.seq (.seq (.region r26_2) (.cond (.tmp 15) (.seq (.region r26_3) .ret) .skip)) (.seq (.region r26_4) .ret))))
theorem code26 : ∃ c, Try.f26.body = some c ∧ abs Try.f26.ntmps c = B26 := ⟨_, rfl, by kernel_rfl⟩
theorem hb26 : HasBody Try.prog 26 := hasBody_of Try.func26 (by kernel_rfl)
theorem res26 : Try.f26.results = #[(.tmp 4), (.tmp 5)] := rfl
theorem enter26 {w : World} {R : Value → World → Prop} (x0 x1 : Value) (h : vc Try.prog B26 (retK Try.prog #[(.tmp 4), (.tmp 5)] R) [] (initEnv [x0, x1] 0) w) : FnC Try.prog 26 #[x0, x1] w R := by
  obtain ⟨c, h1, h2⟩ := code26
  exact hb26.fn (ret_of_vc mixed Try.func26 h1 (Nat.le_of_ble_eq_true rfl) B26 h2 h)
@[push_cast] theorem vr26_0 : VR r26_0 [⟨some 4, .assign (.const (.slice none 0 0)), 22, none⟩, ⟨some 5, .assign (.const (.bool false)), 4, none⟩] := vR rfl
@[push_cast] theorem vr26_1 : VR r26_1 [⟨some 9, .move (.tmp 0), 43, none⟩, ⟨some 10, .move (.tmp 1), 9, none⟩, ⟨some 11, .call ⟨.value (.func 44), #[.tmp 9, .tmp 10], #[43, 9]⟩, 75, none⟩, ⟨some 8, .move (.tmp 11), 75, none⟩, ⟨some 12, .extract (.tmp 8) 0, 3, none⟩, ⟨some 13, .extract (.tmp 8) 1, 4, none⟩, ⟨some 6, .assign (.tmp 12), 3, none⟩, ⟨some 7, .assign (.tmp 13), 4, none⟩] := vR rfl
@[push_cast] theorem vr26_2 : VR r26_2 [⟨some 14, .move (.tmp 7), 4, none⟩, ⟨some 15, .unOp .not 4 (.tmp 14), 4, none⟩] := vR rfl
@[push_cast] theorem vr26_3 : VR r26_3 [⟨some 4, .assign (.const (.slice none 0 0)), 22, none⟩, ⟨some 5, .assign (.const (.bool false)), 4, none⟩] := vR rfl
@[push_cast] theorem vr26_4 : VR r26_4 [⟨some 16, .move (.tmp 0), 43, none⟩, ⟨some 17, .nilCheck (.tmp 16), 0, none⟩, ⟨some 18, .fieldAddr 71 (.tmp 17) 2, 0, none⟩, ⟨some 19, .load 69 (.tmp 18), 69, none⟩, ⟨some 20, .move (.tmp 6), 3, none⟩, ⟨some 21, .indexAddr 69 (.tmp 19) (.tmp 20), 0, none⟩, ⟨some 22, .fieldAddr 73 (.tmp 21) 1, 0, none⟩, ⟨some 23, .load 22 (.tmp 22), 22, none⟩, ⟨some 4, .assign (.tmp 23), 22, none⟩, ⟨some 5, .assign (.const (.bool true)), 4, none⟩] := vR rfl
/-! 37 (*columbary/columbaryref03.Vault).Append (params #[43, 9, 22], results #[(.tmp 6)], 62 slots) -/
def r37_0 : List VOp :=
  [⟨some 6, .assign (.const (.int .i64 0)), 24, none⟩]
def r37_1 : List VOp :=
  [mv 12 1 9,
   ⟨some 13, .call ⟨.value (.func 50), #[.tmp 12], #[9]⟩, 4, none⟩,
   asg 7 13 4]
def r37_2 : List VOp :=
  [mv 14 7 4,
   ⟨some 15, .unOp .not 4 (.tmp 14), 4, none⟩]
def r37_3 : List VOp :=
  [⟨some 6, .assign (.const (.int .i64 31)), 24, none⟩]
def r37_4 : List VOp :=
  [mv 16 0 43,
   ⟨some 17, .call ⟨.value (.func 51), #[.tmp 16], #[43]⟩, 4, none⟩,
   asg 8 17 4]
def r37_5 : List VOp :=
  [mv 18 8 4]
def r37_6 : List VOp :=
  [⟨some 6, .assign (.const (.int .i64 272)), 24, none⟩]
def r37_7 : List VOp :=
  [mv 20 0 43,
   mv 21 1 9,
   ⟨some 22, .call ⟨.value (.func 44), #[.tmp 20, .tmp 21], #[43, 9]⟩, 75, none⟩,
   mv 19 22 75,
   ext 23 19 0 3,
   ext 24 19 1 4,
   asg 9 23 3,
   asg 10 24 4]
def r37_8 : List VOp :=
  [mv 25 2 22,
   ⟨some 26, .call ⟨.builtin .len, #[.tmp 25], #[22]⟩, 3, none⟩,
   mv 27 0 43,
   ⟨some 28, .call ⟨.value (.func 43), #[.tmp 27], #[43]⟩, 3, none⟩,
   ⟨some 29, .binOp .gtr 3 (.tmp 26) (.tmp 28) 3, 4, none⟩,
   mv 30 29 4,
   ⟨some 31, .move (.tmp 10), 4, some (30, false)⟩,
   ⟨some 32, .unOp .not 4 (.tmp 31), 4, some (30, false)⟩,
   ⟨some 33, .move (.tmp 32), 4, some (30, false)⟩,
   ⟨some 34, .move (.tmp 0), 43, some (33, true)⟩,
   ⟨some 35, .nilCheck (.tmp 34), 0, some (33, true)⟩,
   ⟨some 36, .fieldAddr 71 (.tmp 35) 2, 0, some (33, true)⟩,
   ⟨some 37, .load 69 (.tmp 36), 69, some (33, true)⟩,
   ⟨some 38, .call ⟨.builtin .len, #[.tmp 37], #[69]⟩, 3, some (33, true)⟩,
   ⟨some 39, .binOp .geq 3 (.tmp 38) (.const (.int .i64 200)) 3, 4, some (33, true)⟩,
   ⟨some 40, .pick (.tmp 33) (.tmp 39) (.const (.bool false)), 4, some (30, false)⟩,
   ⟨some 41, .pick (.tmp 30) (.const (.bool true)) (.tmp 40), 4, none⟩]
def r37_9 : List VOp :=
  [⟨some 6, .assign (.const (.int .i64 32)), 24, none⟩]
def r37_10 : List VOp :=
  [mv 42 1 9,
   ⟨some 43, .build 73 #[(0, (.tmp 42))], 73, none⟩,
   ⟨some 11, .alloc 73, 0, none⟩,
   ⟨none, .store 73 (.tmp 11) (.tmp 43), 0, none⟩]
def r37_11 : List VOp :=
  [mv 44 10 4]
def r37_12 : List VOp :=
  [mv 45 0 43,
   ⟨some 46, .nilCheck (.tmp 45), 0, none⟩,
   fad 47 71 46 2,
   lda 48 69 47,
   mv 49 9 3,
   iad 50 69 48 49,
   lda 51 73 50,
   ⟨none, .store 73 (.tmp 11) (.tmp 51), 0, none⟩]
def r37_13 : List VOp :=
  [⟨some 52, .buildSlice 22 0 #[], 22, none⟩,
   fad 53 73 11 1,
   lda 54 22 53,
   ⟨some 55, .call ⟨.builtin .append, #[.tmp 52, .tmp 54], #[22, 22]⟩, 22, none⟩,
   mv 56 2 22,
   ⟨some 57, .call ⟨.builtin .append, #[.tmp 55, .tmp 56], #[22, 22]⟩, 22, none⟩,
   fad 58 73 11 1,
   ⟨none, .store 22 (.tmp 58) (.tmp 57), 0, none⟩]
def r37_14 : List VOp :=
  [mv 59 0 43,
   lda 60 73 11,
   ⟨some 61, .call ⟨.value (.func 52), #[.tmp 59, .tmp 60], #[43, 73]⟩, 0, none⟩]
def r37_15 : List VOp :=
  [⟨some 6, .assign (.const (.int .i64 0)), 24, none⟩]
def B37 : VC :=
  (.seq (.region r37_0) (.seq (.region r37_1) (.seq (.seq (.region r37_2) (.cond (.tmp 15) (.seq (.region r37_3) .ret) .skip)) (.seq (.region r37_4) (.seq (.seq (.region r37_5) (.cond (.tmp 18) (.seq (.region r37_6) .ret) .skip)) (.seq (.region r37_7) (.seq (.seq (.region r37_8) (.cond (.tmp 41) (.seq (.region r37_9) .ret) .skip)) (.seq (.region r37_10) (.seq (.seq (.region r37_11) (.cond (.tmp 44) (.region r37_12) .skip)) (.seq (.region r37_13) (.seq (.region r37_14) (.seq (.region r37_15) .ret))))))))))))
theorem code37 : ∃ c, Try.f37.body = some c ∧ abs Try.f37.ntmps c = B37 := ⟨_, rfl, by kernel_rfl⟩
theorem hb37 : HasBody Try.prog 37 := hasBody_of Try.func37 (by kernel_rfl)
theorem res37 : Try.f37.results = #[(.tmp 6)] := rfl
theorem enter37 {w : World} {R : Value → World → Prop} (x0 x1 x2 : Value) (h : vc Try.prog B37 (retK Try.prog #[(.tmp 6)] R) [] (initEnv [x0, x1, x2] 0) w) : FnC Try.prog 37 #[x0, x1, x2] w R := by
  obtain ⟨c, h1, h2⟩ := code37
  exact hb37.fn (ret_of_vc mixed Try.func37 h1 (Nat.le_of_ble_eq_true rfl) B37 h2 h)
@[push_cast] theorem vr37_0 : VR r37_0 [⟨some 6, .assign (.const (.int .i64 0)), 24, none⟩] := vR rfl
@[push_cast] theorem vr37_1 : VR r37_1 [⟨some 12, .move (.tmp 1), 9, none⟩, ⟨some 13, .call ⟨.value (.func 50), #[.tmp 12], #[9]⟩, 4, none⟩, ⟨some 7, .assign (.tmp 13), 4, none⟩] := vR rfl
@[push_cast] theorem vr37_2 : VR r37_2 [⟨some 14, .move (.tmp 7), 4, none⟩, ⟨some 15, .unOp .not 4 (.tmp 14), 4, none⟩] := vR rfl
@[push_cast] theorem vr37_3 : VR r37_3 [⟨some 6, .assign (.const (.int .i64 31)), 24, none⟩] := vR rfl
@[push_cast] theorem vr37_4 : VR r37_4 [⟨some 16, .move (.tmp 0), 43, none⟩, ⟨some 17, .call ⟨.value (.func 51), #[.tmp 16], #[43]⟩, 4, none⟩, ⟨some 8, .assign (.tmp 17), 4, none⟩] := vR rfl
@[push_cast] theorem vr37_5 : VR r37_5 [⟨some 18, .move (.tmp 8), 4, none⟩] := vR rfl
@[push_cast] theorem vr37_6 : VR r37_6 [⟨some 6, .assign (.const (.int .i64 272)), 24, none⟩] := vR rfl
@[push_cast] theorem vr37_7 : VR r37_7 [⟨some 20, .move (.tmp 0), 43, none⟩, ⟨some 21, .move (.tmp 1), 9, none⟩, ⟨some 22, .call ⟨.value (.func 44), #[.tmp 20, .tmp 21], #[43, 9]⟩, 75, none⟩, ⟨some 19, .move (.tmp 22), 75, none⟩, ⟨some 23, .extract (.tmp 19) 0, 3, none⟩, ⟨some 24, .extract (.tmp 19) 1, 4, none⟩, ⟨some 9, .assign (.tmp 23), 3, none⟩, ⟨some 10, .assign (.tmp 24), 4, none⟩] := vR rfl
@[push_cast] theorem vr37_8 : VR r37_8 [⟨some 25, .move (.tmp 2), 22, none⟩, ⟨some 26, .call ⟨.builtin .len, #[.tmp 25], #[22]⟩, 3, none⟩, ⟨some 27, .move (.tmp 0), 43, none⟩, ⟨some 28, .call ⟨.value (.func 43), #[.tmp 27], #[43]⟩, 3, none⟩, ⟨some 29, .binOp .gtr 3 (.tmp 26) (.tmp 28) 3, 4, none⟩, ⟨some 30, .move (.tmp 29), 4, none⟩, ⟨some 31, .move (.tmp 10), 4, some (30, false)⟩, ⟨some 32, .unOp .not 4 (.tmp 31), 4, some (30, false)⟩, ⟨some 33, .move (.tmp 32), 4, some (30, false)⟩, ⟨some 34, .move (.tmp 0), 43, some (33, true)⟩, ⟨some 35, .nilCheck (.tmp 34), 0, some (33, true)⟩, ⟨some 36, .fieldAddr 71 (.tmp 35) 2, 0, some (33, true)⟩, ⟨some 37, .load 69 (.tmp 36), 69, some (33, true)⟩, ⟨some 38, .call ⟨.builtin .len, #[.tmp 37], #[69]⟩, 3, some (33, true)⟩, ⟨some 39, .binOp .geq 3 (.tmp 38) (.const (.int .i64 200)) 3, 4, some (33, true)⟩, ⟨some 40, .pick (.tmp 33) (.tmp 39) (.const (.bool false)), 4, some (30, false)⟩, ⟨some 41, .pick (.tmp 30) (.const (.bool true)) (.tmp 40), 4, none⟩] := vR rfl
@[push_cast] theorem vr37_9 : VR r37_9 [⟨some 6, .assign (.const (.int .i64 32)), 24, none⟩] := vR rfl
@[push_cast] theorem vr37_10 : VR r37_10 [⟨some 42, .move (.tmp 1), 9, none⟩, ⟨some 43, .build 73 #[(0, (.tmp 42))], 73, none⟩, ⟨some 11, .alloc 73, 0, none⟩, ⟨none, .store 73 (.tmp 11) (.tmp 43), 0, none⟩] := vR rfl
@[push_cast] theorem vr37_11 : VR r37_11 [⟨some 44, .move (.tmp 10), 4, none⟩] := vR rfl
@[push_cast] theorem vr37_12 : VR r37_12 [⟨some 45, .move (.tmp 0), 43, none⟩, ⟨some 46, .nilCheck (.tmp 45), 0, none⟩, ⟨some 47, .fieldAddr 71 (.tmp 46) 2, 0, none⟩, ⟨some 48, .load 69 (.tmp 47), 69, none⟩, ⟨some 49, .move (.tmp 9), 3, none⟩, ⟨some 50, .indexAddr 69 (.tmp 48) (.tmp 49), 0, none⟩, ⟨some 51, .load 73 (.tmp 50), 73, none⟩, ⟨none, .store 73 (.tmp 11) (.tmp 51), 0, none⟩] := vR rfl
@[push_cast] theorem vr37_13 : VR r37_13 [⟨some 52, .buildSlice 22 0 #[], 22, none⟩, ⟨some 53, .fieldAddr 73 (.tmp 11) 1, 0, none⟩, ⟨some 54, .load 22 (.tmp 53), 22, none⟩, ⟨some 55, .call ⟨.builtin .append, #[.tmp 52, .tmp 54], #[22, 22]⟩, 22, none⟩, ⟨some 56, .move (.tmp 2), 22, none⟩, ⟨some 57, .call ⟨.builtin .append, #[.tmp 55, .tmp 56], #[22, 22]⟩, 22, none⟩, ⟨some 58, .fieldAddr 73 (.tmp 11) 1, 0, none⟩, ⟨none, .store 22 (.tmp 58) (.tmp 57), 0, none⟩] := vR rfl
@[push_cast] theorem vr37_14 : VR r37_14 [⟨some 59, .move (.tmp 0), 43, none⟩, ⟨some 60, .load 73 (.tmp 11), 73, none⟩, ⟨some 61, .call ⟨.value (.func 52), #[.tmp 59, .tmp 60], #[43, 73]⟩, 0, none⟩] := vR rfl
@[push_cast] theorem vr37_15 : VR r37_15 [⟨some 6, .assign (.const (.int .i64 0)), 24, none⟩] := vR rfl
/-! 38 (*columbary/columbaryref03.Vault).Sync (params #[43, 9], results #[(.tmp 4)], 34 slots) -/
def r38_0 : List VOp :=
  [⟨some 4, .assign (.const (.int .i64 0)), 24, none⟩]
def r38_1 : List VOp :=
  [mv 10 0 43,
   mv 11 1 9,
   ⟨some 12, .call ⟨.value (.func 44), #[.tmp 10, .tmp 11], #[43, 9]⟩, 75, none⟩,
   mv 9 12 75,
   ext 13 9 0 3,
   ext 14 9 1 4,
   asg 5 13 3,
   asg 6 14 4]
def r38_2 : List VOp :=
  [mv 15 6 4,
   ⟨some 16, .unOp .not 4 (.tmp 15), 4, none⟩]
def r38_3 : List VOp :=
  [⟨some 4, .assign (.const (.int .i64 31)), 24, none⟩]
def r38_4 : List VOp :=
  [mv 17 0 43,
   ⟨some 18, .call ⟨.value (.func 51), #[.tmp 17], #[43]⟩, 4, none⟩,
   asg 7 18 4]
def r38_5 : List VOp :=
  [mv 19 7 4]
def r38_6 : List VOp :=
  [⟨some 4, .assign (.const (.int .i64 272)), 24, none⟩]
def r38_7 : List VOp :=
  [mv 20 0 43,
   ⟨some 21, .nilCheck (.tmp 20), 0, none⟩,
   fad 22 71 21 2,
   lda 23 69 22,
   mv 24 5 3,
   iad 25 69 23 24,
   lda 26 73 25,
   ⟨some 8, .alloc 73, 0, none⟩,
   ⟨none, .store 73 (.tmp 8) (.tmp 26), 0, none⟩]
def r38_8 : List VOp :=
  [fad 27 73 8 1,
   lda 28 22 27,
   ⟨some 29, .call ⟨.builtin .len, #[.tmp 28], #[22]⟩, 3, none⟩,
   fad 30 73 8 2,
   ⟨none, .store 3 (.tmp 30) (.tmp 29), 0, none⟩]
def r38_9 : List VOp :=
  [mv 31 0 43,
   lda 32 73 8,
   ⟨some 33, .call ⟨.value (.func 52), #[.tmp 31, .tmp 32], #[43, 73]⟩, 0, none⟩]
def r38_10 : List VOp :=
  [⟨some 4, .assign (.const (.int .i64 0)), 24, none⟩]
def B38 : VC :=
  (.seq (.region r38_0) (.seq (.region r38_1) (.seq (.seq (.region r38_2) (.cond (.tmp 16) (.seq (.region r38_3) .ret) .skip)) (.seq (.region r38_4) (.seq (.seq (.region r38_5) (.cond (.tmp 19) (.seq (.region r38_6) .ret) .skip)) (.seq (.region r38_7) (.seq (.region r38_8) (.seq (.region r38_9) (.seq (.region r38_10) .ret)))))))))
theorem code38 : ∃ c, Try.f38.body = some c ∧ abs Try.f38.ntmps c = B38 := ⟨_, rfl, by kernel_rfl⟩
theorem hb38 : HasBody Try.prog 38 := hasBody_of Try.func38 (by kernel_rfl)
theorem res38 : Try.f38.results = #[(.tmp 4)] := rfl
theorem enter38 {w : World} {R : Value → World → Prop} (x0 x1 : Value) (h : vc Try.prog B38 (retK Try.prog #[(.tmp 4)] R) [] (initEnv [x0, x1] 0) w) : FnC Try.prog 38 #[x0, x1] w R := by
  obtain ⟨c, h1, h2⟩ := code38
  exact hb38.fn (ret_of_vc mixed Try.func38 h1 (Nat.le_of_ble_eq_true rfl) B38 h2 h)
@[push_cast] theorem vr38_0 : VR r38_0 [⟨some 4, .assign (.const (.int .i64 0)), 24, none⟩] := vR rfl
@[push_cast] theorem vr38_1 : VR r38_1 [⟨some 10, .move (.tmp 0), 43, none⟩, ⟨some 11, .move (.tmp 1), 9, none⟩, ⟨some 12, .call ⟨.value (.func 44), #[.tmp 10, .tmp 11], #[43, 9]⟩, 75, none⟩, ⟨some 9, .move (.tmp 12), 75, none⟩, ⟨some 13, .extract (.tmp 9) 0, 3, none⟩, ⟨some 14, .extract (.tmp 9) 1, 4, none⟩, ⟨some 5, .assign (.tmp 13), 3, none⟩, ⟨some 6, .assign (.tmp 14), 4, none⟩] := vR rfl
@[push_cast] theorem vr38_2 : VR r38_2 [⟨some 15, .move (.tmp 6), 4, none⟩, ⟨some 16, .unOp .not 4 (.tmp 15), 4, none⟩] := vR rfl
@[push_cast] theorem vr38_3 : VR r38_3 [⟨some 4, .assign (.const (.int .i64 31)), 24, none⟩] := vR rfl
@[push_cast] theorem vr38_4 : VR r38_4 [⟨some 17, .move (.tmp 0), 43, none⟩, ⟨some 18, .call ⟨.value (.func 51), #[.tmp 17], #[43]⟩, 4, none⟩, ⟨some 7, .assign (.tmp 18), 4, none⟩] := vR rfl
@[push_cast] theorem vr38_5 : VR r38_5 [⟨some 19, .move (.tmp 7), 4, none⟩] := vR rfl
@[push_cast] theorem vr38_6 : VR r38_6 [⟨some 4, .assign (.const (.int .i64 272)), 24, none⟩] := vR rfl
@[push_cast] theorem vr38_7 : VR r38_7 [⟨some 20, .move (.tmp 0), 43, none⟩, ⟨some 21, .nilCheck (.tmp 20), 0, none⟩, ⟨some 22, .fieldAddr 71 (.tmp 21) 2, 0, none⟩, ⟨some 23, .load 69 (.tmp 22), 69, none⟩, ⟨some 24, .move (.tmp 5), 3, none⟩, ⟨some 25, .indexAddr 69 (.tmp 23) (.tmp 24), 0, none⟩, ⟨some 26, .load 73 (.tmp 25), 73, none⟩, ⟨some 8, .alloc 73, 0, none⟩, ⟨none, .store 73 (.tmp 8) (.tmp 26), 0, none⟩] := vR rfl
@[push_cast] theorem vr38_8 : VR r38_8 [⟨some 27, .fieldAddr 73 (.tmp 8) 1, 0, none⟩, ⟨some 28, .load 22 (.tmp 27), 22, none⟩, ⟨some 29, .call ⟨.builtin .len, #[.tmp 28], #[22]⟩, 3, none⟩, ⟨some 30, .fieldAddr 73 (.tmp 8) 2, 0, none⟩, ⟨none, .store 3 (.tmp 30) (.tmp 29), 0, none⟩] := vR rfl
@[push_cast] theorem vr38_9 : VR r38_9 [⟨some 31, .move (.tmp 0), 43, none⟩, ⟨some 32, .load 73 (.tmp 8), 73, none⟩, ⟨some 33, .call ⟨.value (.func 52), #[.tmp 31, .tmp 32], #[43, 73]⟩, 0, none⟩] := vR rfl
@[push_cast] theorem vr38_10 : VR r38_10 [⟨some 4, .assign (.const (.int .i64 0)), 24, none⟩] := vR rfl
/-! 39 (*columbary/columbaryref03.Vault).Rename (params #[43, 9, 9], results #[(.tmp 6)], 44 slots) -/
def r39_0 : List VOp :=
  [⟨some 6, .assign (.const (.int .i64 0)), 24, none⟩]
def r39_1 : List VOp :=
  [mv 13 0 43,
   mv 14 1 9,
   ⟨some 15, .call ⟨.value (.func 44), #[.tmp 13, .tmp 14], #[43, 9]⟩, 75, none⟩,
   mv 12 15 75,
   ext 16 12 0 3,
   ext 17 12 1 4,
   asg 7 16 3,
   asg 8 17 4]
def r39_2 : List VOp :=
  [mv 18 2 9,
   ⟨some 19, .call ⟨.value (.func 50), #[.tmp 18], #[9]⟩, 4, none⟩,
   asg 9 19 4]
def r39_3 : List VOp :=
  [mv 20 8 4,
   ⟨some 21, .unOp .not 4 (.tmp 20), 4, none⟩,
   mv 22 21 4,
   ⟨some 23, .move (.tmp 9), 4, some (22, false)⟩,
   ⟨some 24, .unOp .not 4 (.tmp 23), 4, some (22, false)⟩,
   ⟨some 25, .pick (.tmp 22) (.const (.bool true)) (.tmp 24), 4, none⟩]
def r39_4 : List VOp :=
  [⟨some 6, .assign (.const (.int .i64 31)), 24, none⟩]
def r39_5 : List VOp :=
  [mv 26 0 43,
   ⟨some 27, .call ⟨.value (.func 51), #[.tmp 26], #[43]⟩, 4, none⟩,
   asg 10 27 4]
def r39_6 : List VOp :=
  [mv 28 10 4]
def r39_7 : List VOp :=
  [⟨some 6, .assign (.const (.int .i64 272)), 24, none⟩]
def r39_8 : List VOp :=
  [mv 29 0 43,
   ⟨some 30, .nilCheck (.tmp 29), 0, none⟩,
   fad 31 71 30 2,
   lda 32 69 31,
   mv 33 7 3,
   iad 34 69 32 33,
   lda 35 73 34,
   ⟨some 11, .alloc 73, 0, none⟩,
   ⟨none, .store 73 (.tmp 11) (.tmp 35), 0, none⟩]
def r39_9 : List VOp :=
  [mv 36 0 43,
   mv 37 7 3,
   ⟨some 38, .call ⟨.value (.func 53), #[.tmp 36, .tmp 37], #[43, 3]⟩, 0, none⟩]
def r39_10 : List VOp :=
  [mv 39 2 9,
   fad 40 73 11 0,
   ⟨none, .store 9 (.tmp 40) (.tmp 39), 0, none⟩]
def r39_11 : List VOp :=
  [mv 41 0 43,
   lda 42 73 11,
   ⟨some 43, .call ⟨.value (.func 52), #[.tmp 41, .tmp 42], #[43, 73]⟩, 0, none⟩]
def r39_12 : List VOp :=
  [⟨some 6, .assign (.const (.int .i64 0)), 24, none⟩]
def B39 : VC :=
  (.seq (.region r39_0) (.seq (.region r39_1) (.seq (.region r39_2) (.seq (.seq (.region r39_3) (.cond (.tmp 25) (.seq (.region r39_4) .ret) .skip)) (.seq (.region r39_5) (.seq (.seq (.region r39_6) (.cond (.tmp 28) (.seq (.region r39_7) .ret) .skip)) (.seq (.region r39_8) (.seq (.region r39_9) (.seq (.region r39_10) (.seq (.region r39_11) (.seq (.region r39_12) .ret)))))))))))
theorem code39 : ∃ c, Try.f39.body = some c ∧ abs Try.f39.ntmps c = B39 := ⟨_, rfl, by kernel_rfl⟩
theorem hb39 : HasBody Try.prog 39 := hasBody_of Try.func39 (by kernel_rfl)
theorem res39 : Try.f39.results = #[(.tmp 6)] := rfl
theorem enter39 {w : World} {R : Value → World → Prop} (x0 x1 x2 : Value) (h : vc Try.prog B39 (retK Try.prog #[(.tmp 6)] R) [] (initEnv [x0, x1, x2] 0) w) : FnC Try.prog 39 #[x0, x1, x2] w R := by
  obtain ⟨c, h1, h2⟩ := code39
  exact hb39.fn (ret_of_vc mixed Try.func39 h1 (Nat.le_of_ble_eq_true rfl) B39 h2 h)
@[push_cast] theorem vr39_0 : VR r39_0 [⟨some 6, .assign (.const (.int .i64 0)), 24, none⟩] := vR rfl
@[push_cast] theorem vr39_1 : VR r39_1 [⟨some 13, .move (.tmp 0), 43, none⟩, ⟨some 14, .move (.tmp 1), 9, none⟩, ⟨some 15, .call ⟨.value (.func 44), #[.tmp 13, .tmp 14], #[43, 9]⟩, 75, none⟩, ⟨some 12, .move (.tmp 15), 75, none⟩, ⟨some 16, .extract (.tmp 12) 0, 3, none⟩, ⟨some 17, .extract (.tmp 12) 1, 4, none⟩, ⟨some 7, .assign (.tmp 16), 3, none⟩, ⟨some 8, .assign (.tmp 17), 4, none⟩] := vR rfl
@[push_cast] theorem vr39_2 : VR r39_2 [⟨some 18, .move (.tmp 2), 9, none⟩, ⟨some 19, .call ⟨.value (.func 50), #[.tmp 18], #[9]⟩, 4, none⟩, ⟨some 9, .assign (.tmp 19), 4, none⟩] := vR rfl
@[push_cast] theorem vr39_3 : VR r39_3 [⟨some 20, .move (.tmp 8), 4, none⟩, ⟨some 21, .unOp .not 4 (.tmp 20), 4, none⟩, ⟨some 22, .move (.tmp 21), 4, none⟩, ⟨some 23, .move (.tmp 9), 4, some (22, false)⟩, ⟨some 24, .unOp .not 4 (.tmp 23), 4, some (22, false)⟩, ⟨some 25, .pick (.tmp 22) (.const (.bool true)) (.tmp 24), 4, none⟩] := vR rfl
@[push_cast] theorem vr39_4 : VR r39_4 [⟨some 6, .assign (.const (.int .i64 31)), 24, none⟩] := vR rfl
@[push_cast] theorem vr39_5 : VR r39_5 [⟨some 26, .move (.tmp 0), 43, none⟩, ⟨some 27, .call ⟨.value (.func 51), #[.tmp 26], #[43]⟩, 4, none⟩, ⟨some 10, .assign (.tmp 27), 4, none⟩] := vR rfl
@[push_cast] theorem vr39_6 : VR r39_6 [⟨some 28, .move (.tmp 10), 4, none⟩] := vR rfl
@[push_cast] theorem vr39_7 : VR r39_7 [⟨some 6, .assign (.const (.int .i64 272)), 24, none⟩] := vR rfl
@[push_cast] theorem vr39_8 : VR r39_8 [⟨some 29, .move (.tmp 0), 43, none⟩, ⟨some 30, .nilCheck (.tmp 29), 0, none⟩, ⟨some 31, .fieldAddr 71 (.tmp 30) 2, 0, none⟩, ⟨some 32, .load 69 (.tmp 31), 69, none⟩, ⟨some 33, .move (.tmp 7), 3, none⟩, ⟨some 34, .indexAddr 69 (.tmp 32) (.tmp 33), 0, none⟩, ⟨some 35, .load 73 (.tmp 34), 73, none⟩, ⟨some 11, .alloc 73, 0, none⟩, ⟨none, .store 73 (.tmp 11) (.tmp 35), 0, none⟩] := vR rfl
@[push_cast] theorem vr39_9 : VR r39_9 [⟨some 36, .move (.tmp 0), 43, none⟩, ⟨some 37, .move (.tmp 7), 3, none⟩, ⟨some 38, .call ⟨.value (.func 53), #[.tmp 36, .tmp 37], #[43, 3]⟩, 0, none⟩] := vR rfl
@[push_cast] theorem vr39_10 : VR r39_10 [⟨some 39, .move (.tmp 2), 9, none⟩, ⟨some 40, .fieldAddr 73 (.tmp 11) 0, 0, none⟩, ⟨none, .store 9 (.tmp 40) (.tmp 39), 0, none⟩] := vR rfl
@[push_cast] theorem vr39_11 : VR r39_11 [⟨some 41, .move (.tmp 0), 43, none⟩, ⟨some 42, .load 73 (.tmp 11), 73, none⟩, ⟨some 43, .call ⟨.value (.func 52), #[.tmp 41, .tmp 42], #[43, 73]⟩, 0, none⟩] := vR rfl
@[push_cast] theorem vr39_12 : VR r39_12 [⟨some 6, .assign (.const (.int .i64 0)), 24, none⟩] := vR rfl
/-! 40 (*columbary/columbaryref03.Vault).Delete (params #[43, 9], results #[(.tmp 4)], 22 slots) -/
def r40_0 : List VOp :=
  [⟨some 4, .assign (.const (.int .i64 0)), 24, none⟩]
def r40_1 : List VOp :=
  [mv 9 0 43,
   mv 10 1 9,
   ⟨some 11, .call ⟨.value (.func 44), #[.tmp 9, .tmp 10], #[43, 9]⟩, 75, none⟩,
   mv 8 11 75,
   ext 12 8 0 3,
   ext 13 8 1 4,
   asg 5 12 3,
   asg 6 13 4]
def r40_2 : List VOp :=
  [mv 14 6 4,
   ⟨some 15, .unOp .not 4 (.tmp 14), 4, none⟩]
def r40_3 : List VOp :=
  [⟨some 4, .assign (.const (.int .i64 31)), 24, none⟩]
def r40_4 : List VOp :=
  [mv 16 0 43,
   ⟨some 17, .call ⟨.value (.func 51), #[.tmp 16], #[43]⟩, 4, none⟩,
   asg 7 17 4]
def r40_5 : List VOp :=
  [mv 18 7 4]
def r40_6 : List VOp :=
  [⟨some 4, .assign (.const (.int .i64 272)), 24, none⟩]
def r40_7 : List VOp :=
  [mv 19 0 43,
   mv 20 5 3,
   ⟨some 21, .call ⟨.value (.func 53), #[.tmp 19, .tmp 20], #[43, 3]⟩, 0, none⟩]
def r40_8 : List VOp :=
  [⟨some 4, .assign (.const (.int .i64 0)), 24, none⟩]
def B40 : VC :=
  (.seq (.region r40_0) (.seq (.region r40_1) (.seq (.seq (.region r40_2) (.cond (.tmp 15) (.seq (.region r40_3) .ret) .skip)) (.seq (.region r40_4) (.seq (.seq (.region r40_5) (.cond (.tmp 18) (.seq (.region r40_6) .ret) .skip)) (.seq (.region r40_7) (.seq (.region r40_8) .ret)))))))
theorem code40 : ∃ c, Try.f40.body = some c ∧ abs Try.f40.ntmps c = B40 := ⟨_, rfl, by kernel_rfl⟩
theorem hb40 : HasBody Try.prog 40 := hasBody_of Try.func40 (by kernel_rfl)
theorem res40 : Try.f40.results = #[(.tmp 4)] := rfl
theorem enter40 {w : World} {R : Value → World → Prop} (x0 x1 : Value) (h : vc Try.prog B40 (retK Try.prog #[(.tmp 4)] R) [] (initEnv [x0, x1] 0) w) : FnC Try.prog 40 #[x0, x1] w R := by
  obtain ⟨c, h1, h2⟩ := code40
  exact hb40.fn (ret_of_vc mixed Try.func40 h1 (Nat.le_of_ble_eq_true rfl) B40 h2 h)
@[push_cast] theorem vr40_0 : VR r40_0 [⟨some 4, .assign (.const (.int .i64 0)), 24, none⟩] := vR rfl
@[push_cast] theorem vr40_1 : VR r40_1 [⟨some 9, .move (.tmp 0), 43, none⟩, ⟨some 10, .move (.tmp 1), 9, none⟩, ⟨some 11, .call ⟨.value (.func 44), #[.tmp 9, .tmp 10], #[43, 9]⟩, 75, none⟩, ⟨some 8, .move (.tmp 11), 75, none⟩, ⟨some 12, .extract (.tmp 8) 0, 3, none⟩, ⟨some 13, .extract (.tmp 8) 1, 4, none⟩, ⟨some 5, .assign (.tmp 12), 3, none⟩, ⟨some 6, .assign (.tmp 13), 4, none⟩] := vR rfl
@[push_cast] theorem vr40_2 : VR r40_2 [⟨some 14, .move (.tmp 6), 4, none⟩, ⟨some 15, .unOp .not 4 (.tmp 14), 4, none⟩] := vR rfl
@[push_cast] theorem vr40_3 : VR r40_3 [⟨some 4, .assign (.const (.int .i64 31)), 24, none⟩] := vR rfl
@[push_cast] theorem vr40_4 : VR r40_4 [⟨some 16, .move (.tmp 0), 43, none⟩, ⟨some 17, .call ⟨.value (.func 51), #[.tmp 16], #[43]⟩, 4, none⟩, ⟨some 7, .assign (.tmp 17), 4, none⟩] := vR rfl
@[push_cast] theorem vr40_5 : VR r40_5 [⟨some 18, .move (.tmp 7), 4, none⟩] := vR rfl
@[push_cast] theorem vr40_6 : VR r40_6 [⟨some 4, .assign (.const (.int .i64 272)), 24, none⟩] := vR rfl
@[push_cast] theorem vr40_7 : VR r40_7 [⟨some 19, .move (.tmp 0), 43, none⟩, ⟨some 20, .move (.tmp 5), 3, none⟩, ⟨some 21, .call ⟨.value (.func 53), #[.tmp 19, .tmp 20], #[43, 3]⟩, 0, none⟩] := vR rfl
@[push_cast] theorem vr40_8 : VR r40_8 [⟨some 4, .assign (.const (.int .i64 0)), 24, none⟩] := vR rfl
/-! 42 (*columbary/columbaryref03.Vault).List (params #[43], results #[(.tmp 2)], 26 slots) -/
def W42_0 : List Nat := [3, 4, 5, 6, 7, 8, 9, 10, 11, 12, 13, 14, 15, 16, 17, 18, 19, 20, 21, 22, 23, 24]
@[push_cast] theorem W42_0_def : W42_0 = [3, 4, 5, 6, 7, 8, 9, 10, 11, 12, 13, 14, 15, 16, 17, 18, 19, 20, 21, 22, 23, 24] := mk_eq rfl
def r42_0 : List VOp :=
  [⟨some 2, .assign (.const (.slice none 0 0)), 40, none⟩]
def r42_1 : List VOp :=
  [⟨some 3, .assign (.const (.slice none 0 0)), 40, none⟩]
def r42_2 : List VOp :=
  [⟨some 4, .assign (.const (.int .i64 0)), 3, none⟩]
def r42_3 : List VOp :=
  [mv 5 4 3,
   mv 6 0 43,
   ⟨some 7, .nilCheck (.tmp 6), 0, none⟩,
   fad 8 71 7 2,
   lda 9 69 8,
   ⟨some 10, .call ⟨.builtin .len, #[.tmp 9], #[69]⟩, 3, none⟩,
   ⟨some 11, .binOp .lss 3 (.tmp 5) (.tmp 10) 3, 4, none⟩]
def r42_5 : List VOp :=
  [mv 14 3 40,
   mv 15 0 43,
   ⟨some 16, .nilCheck (.tmp 15), 0, none⟩,
   fad 17 71 16 2,
   lda 18 69 17,
   mv 19 4 3,
   iad 20 69 18 19,
   fad 21 73 20 0,
   lda 22 9 21,
   ⟨some 23, .buildSlice 40 1 #[(0, (.tmp 22))], 40, none⟩,
   ⟨some 24, .call ⟨.builtin .append, #[.tmp 14, .tmp 23], #[40, 40]⟩, 40, none⟩,
   asg 3 24 40]
def r42_4 : List VOp :=
  [mv 12 4 3,
   ⟨some 13, .binOp .add 3 (.tmp 12) (.const (.int .i64 1)) 3, 3, none⟩,
   asg 4 13 3]
def r42_6 : List VOp :=
  [mv 25 3 40,
   asg 2 25 40]
def B42 : VC :=
  (.seq (.region r42_0) (.seq (.region r42_1) (.seq (.seq (.region r42_2) (.block 0 (.loop (.seq (.seq (.region r42_3) (.cond (.tmp 11) .skip (.exit 0))) (.seq (.block 1 (.region r42_5)) (.region r42_4)))))) (.seq (.region r42_6) .ret))))
theorem code42 : ∃ c, Try.f42.body = some c ∧ abs Try.f42.ntmps c = B42 := ⟨_, rfl, by kernel_rfl⟩
theorem hb42 : HasBody Try.prog 42 := hasBody_of Try.func42 (by kernel_rfl)
theorem res42 : Try.f42.results = #[(.tmp 2)] := rfl
theorem enter42 {w : World} {R : Value → World → Prop} (x0 : Value) (h : vc Try.prog B42 (retK Try.prog #[(.tmp 2)] R) [] (initEnv [x0] 0) w) : FnC Try.prog 42 #[x0] w R := by
  obtain ⟨c, h1, h2⟩ := code42
  exact hb42.fn (ret_of_vc mixed Try.func42 h1 (Nat.le_of_ble_eq_true rfl) B42 h2 h)
@[push_cast] theorem vr42_0 : VR r42_0 [⟨some 2, .assign (.const (.slice none 0 0)), 40, none⟩] := vR rfl
@[push_cast] theorem vr42_1 : VR r42_1 [⟨some 3, .assign (.const (.slice none 0 0)), 40, none⟩] := vR rfl
@[push_cast] theorem vr42_2 : VR r42_2 [⟨some 4, .assign (.const (.int .i64 0)), 3, none⟩] := vR rfl
@[push_cast] theorem vr42_3 : VR r42_3 [⟨some 5, .move (.tmp 4), 3, none⟩, ⟨some 6, .move (.tmp 0), 43, none⟩, ⟨some 7, .nilCheck (.tmp 6), 0, none⟩, ⟨some 8, .fieldAddr 71 (.tmp 7) 2, 0, none⟩, ⟨some 9, .load 69 (.tmp 8), 69, none⟩, ⟨some 10, .call ⟨.builtin .len, #[.tmp 9], #[69]⟩, 3, none⟩, ⟨some 11, .binOp .lss 3 (.tmp 5) (.tmp 10) 3, 4, none⟩] := vR rfl
@[push_cast] theorem vr42_5 : VR r42_5 [⟨some 14, .move (.tmp 3), 40, none⟩, ⟨some 15, .move (.tmp 0), 43, none⟩, ⟨some 16, .nilCheck (.tmp 15), 0, none⟩, ⟨some 17, .fieldAddr 71 (.tmp 16) 2, 0, none⟩, ⟨some 18, .load 69 (.tmp 17), 69, none⟩, ⟨some 19, .move (.tmp 4), 3, none⟩, ⟨some 20, .indexAddr 69 (.tmp 18) (.tmp 19), 0, none⟩, ⟨some 21, .fieldAddr 73 (.tmp 20) 0, 0, none⟩, ⟨some 22, .load 9 (.tmp 21), 9, none⟩, ⟨some 23, .buildSlice 40 1 #[(0, (.tmp 22))], 40, none⟩, ⟨some 24, .call ⟨.builtin .append, #[.tmp 14, .tmp 23], #[40, 40]⟩, 40, none⟩, ⟨some 3, .assign (.tmp 24), 40, none⟩] := vR rfl
@[push_cast] theorem vr42_4 : VR r42_4 [⟨some 12, .move (.tmp 4), 3, none⟩, ⟨some 13, .binOp .add 3 (.tmp 12) (.const (.int .i64 1)) 3, 3, none⟩, ⟨some 4, .assign (.tmp 13), 3, none⟩] := vR rfl
@[push_cast] theorem vr42_6 : VR r42_6 [⟨some 25, .move (.tmp 3), 40, none⟩, ⟨some 2, .assign (.tmp 25), 40, none⟩] := vR rfl
/-! 43 (*columbary/columbaryref03.Vault).Free (params #[43], results #[(.tmp 2)], 30 slots) -/
def W43_0 : List Nat := [3, 4, 9, 10, 11, 12, 13, 14, 15, 16, 17, 18, 19, 20, 21, 22, 23, 24, 25, 26, 27, 28]
@[push_cast] theorem W43_0_def : W43_0 = [3, 4, 9, 10, 11, 12, 13, 14, 15, 16, 17, 18, 19, 20, 21, 22, 23, 24, 25, 26, 27, 28] := mk_eq rfl
def r43_0 : List VOp :=
  [⟨some 2, .assign (.const (.int .i64 0)), 3, none⟩]
def r43_1 : List VOp :=
  [mv 5 0 43,
   ⟨some 6, .nilCheck (.tmp 5), 0, none⟩,
   fad 7 71 6 0,
   lda 8 3 7,
   asg 3 8 3]
def r43_2 : List VOp :=
  [⟨some 4, .assign (.const (.int .i64 0)), 3, none⟩]
def r43_3 : List VOp :=
  [mv 9 4 3,
   mv 10 0 43,
   ⟨some 11, .nilCheck (.tmp 10), 0, none⟩,
   fad 12 71 11 2,
   lda 13 69 12,
   ⟨some 14, .call ⟨.builtin .len, #[.tmp 13], #[69]⟩, 3, none⟩,
   ⟨some 15, .binOp .lss 3 (.tmp 9) (.tmp 14) 3, 4, none⟩]
def r43_5 : List VOp :=
  [mv 18 3 3,
   mv 19 0 43,
   ⟨some 20, .nilCheck (.tmp 19), 0, none⟩,
   fad 21 71 20 2,
   lda 22 69 21,
   mv 23 4 3,
   iad 24 69 22 23,
   fad 25 73 24 1,
   lda 26 22 25,
   ⟨some 27, .call ⟨.builtin .len, #[.tmp 26], #[22]⟩, 3, none⟩,
   ⟨some 28, .binOp .sub 3 (.tmp 18) (.tmp 27) 3, 3, none⟩,
   asg 3 28 3]
def r43_4 : List VOp :=
  [mv 16 4 3,
   ⟨some 17, .binOp .add 3 (.tmp 16) (.const (.int .i64 1)) 3, 3, none⟩,
   asg 4 17 3]
def r43_6 : List VOp :=
  [mv 29 3 3,
   asg 2 29 3]
def B43 : VC :=
  (.seq (.region r43_0) (.seq (.region r43_1) (.seq (.seq (.region r43_2) (.block 0 (.loop (.seq (.seq (.region r43_3) (.cond (.tmp 15) .skip (.exit 0))) (.seq (.block 1 (.region r43_5)) (.region r43_4)))))) (.seq (.region r43_6) .ret))))
theorem code43 : ∃ c, Try.f43.body = some c ∧ abs Try.f43.ntmps c = B43 := ⟨_, rfl, by kernel_rfl⟩
theorem hb43 : HasBody Try.prog 43 := hasBody_of Try.func43 (by kernel_rfl)
theorem res43 : Try.f43.results = #[(.tmp 2)] := rfl
theorem enter43 {w : World} {R : Value → World → Prop} (x0 : Value) (h : vc Try.prog B43 (retK Try.prog #[(.tmp 2)] R) [] (initEnv [x0] 0) w) : FnC Try.prog 43 #[x0] w R := by
  obtain ⟨c, h1, h2⟩ := code43
  exact hb43.fn (ret_of_vc mixed Try.func43 h1 (Nat.le_of_ble_eq_true rfl) B43 h2 h)
@[push_cast] theorem vr43_0 : VR r43_0 [⟨some 2, .assign (.const (.int .i64 0)), 3, none⟩] := vR rfl
@[push_cast] theorem vr43_1 : VR r43_1 [⟨some 5, .move (.tmp 0), 43, none⟩, ⟨some 6, .nilCheck (.tmp 5), 0, none⟩, ⟨some 7, .fieldAddr 71 (.tmp 6) 0, 0, none⟩, ⟨some 8, .load 3 (.tmp 7), 3, none⟩, ⟨some 3, .assign (.tmp 8), 3, none⟩] := vR rfl
@[push_cast] theorem vr43_2 : VR r43_2 [⟨some 4, .assign (.const (.int .i64 0)), 3, none⟩] := vR rfl
@[push_cast] theorem vr43_3 : VR r43_3 [⟨some 9, .move (.tmp 4), 3, none⟩, ⟨some 10, .move (.tmp 0), 43, none⟩, ⟨some 11, .nilCheck (.tmp 10), 0, none⟩, ⟨some 12, .fieldAddr 71 (.tmp 11) 2, 0, none⟩, ⟨some 13, .load 69 (.tmp 12), 69, none⟩, ⟨some 14, .call ⟨.builtin .len, #[.tmp 13], #[69]⟩, 3, none⟩, ⟨some 15, .binOp .lss 3 (.tmp 9) (.tmp 14) 3, 4, none⟩] := vR rfl
@[push_cast] theorem vr43_5 : VR r43_5 [⟨some 18, .move (.tmp 3), 3, none⟩, ⟨some 19, .move (.tmp 0), 43, none⟩, ⟨some 20, .nilCheck (.tmp 19), 0, none⟩, ⟨some 21, .fieldAddr 71 (.tmp 20) 2, 0, none⟩, ⟨some 22, .load 69 (.tmp 21), 69, none⟩, ⟨some 23, .move (.tmp 4), 3, none⟩, ⟨some 24, .indexAddr 69 (.tmp 22) (.tmp 23), 0, none⟩, ⟨some 25, .fieldAddr 73 (.tmp 24) 1, 0, none⟩, ⟨some 26, .load 22 (.tmp 25), 22, none⟩, ⟨some 27, .call ⟨.builtin .len, #[.tmp 26], #[22]⟩, 3, none⟩, ⟨some 28, .binOp .sub 3 (.tmp 18) (.tmp 27) 3, 3, none⟩, ⟨some 3, .assign (.tmp 28), 3, none⟩] := vR rfl
@[push_cast] theorem vr43_4 : VR r43_4 [⟨some 16, .move (.tmp 4), 3, none⟩, ⟨some 17, .binOp .add 3 (.tmp 16) (.const (.int .i64 1)) 3, 3, none⟩, ⟨some 4, .assign (.tmp 17), 3, none⟩] := vR rfl
@[push_cast] theorem vr43_6 : VR r43_6 [⟨some 29, .move (.tmp 3), 3, none⟩, ⟨some 2, .assign (.tmp 29), 3, none⟩] := vR rfl
/-! 44 (*columbary/columbaryref03.Vault).find (params #[43, 9], results #[(.tmp 4), (.tmp 5)], 48 slots) -/
def W44_0 : List Nat := [6, 7, 8, 9, 10, 11, 12, 13, 14, 15, 16, 17, 18, 19, 20, 21, 22, 23, 24, 25, 26, 27]
@[push_cast] theorem W44_0_def : W44_0 = [6, 7, 8, 9, 10, 11, 12, 13, 14, 15, 16, 17, 18, 19, 20, 21, 22, 23, 24, 25, 26, 27] := mk_eq rfl
def r44_0 : List VOp :=
  [⟨some 4, .assign (.const (.int .i64 0)), 3, none⟩,
   ⟨some 5, .assign (.const (.bool false)), 4, none⟩]
def r44_1 : List VOp :=
  [⟨some 6, .assign (.const (.int .i64 0)), 3, none⟩]
def r44_2 : List VOp :=
  [mv 7 6 3,
   mv 8 0 43,
   ⟨some 9, .nilCheck (.tmp 8), 0, none⟩,
   fad 10 71 9 2,
   lda 11 69 10,
   ⟨some 12, .call ⟨.builtin .len, #[.tmp 11], #[69]⟩, 3, none⟩,
   ⟨some 13, .binOp .lss 3 (.tmp 7) (.tmp 12) 3, 4, none⟩,
   mv 14 13 4,
   ⟨some 15, .move (.tmp 0), 43, some (14, true)⟩,
   ⟨some 16, .nilCheck (.tmp 15), 0, some (14, true)⟩,
   ⟨some 17, .fieldAddr 71 (.tmp 16) 2, 0, some (14, true)⟩,
   ⟨some 18, .load 69 (.tmp 17), 69, some (14, true)⟩,
   ⟨some 19, .move (.tmp 6), 3, some (14, true)⟩,
   ⟨some 20, .indexAddr 69 (.tmp 18) (.tmp 19), 0, some (14, true)⟩,
   ⟨some 21, .fieldAddr 73 (.tmp 20) 0, 0, some (14, true)⟩,
   ⟨some 22, .load 9 (.tmp 21), 9, some (14, true)⟩,
   ⟨some 23, .move (.tmp 1), 9, some (14, true)⟩,
   ⟨some 24, .binOp .lss 9 (.tmp 22) (.tmp 23) 9, 4, some (14, true)⟩,
   ⟨some 25, .pick (.tmp 14) (.tmp 24) (.const (.bool false)), 4, none⟩]
def r44_3 : List VOp :=
  [mv 26 6 3,
   ⟨some 27, .binOp .add 3 (.tmp 26) (.const (.int .i64 1)) 3, 3, none⟩,
   asg 6 27 3]
def r44_4 : List VOp :=
  [mv 28 6 3,
   mv 29 6 3,
   mv 30 0 43,
   ⟨some 31, .nilCheck (.tmp 30), 0, none⟩,
   fad 32 71 31 2,
   lda 33 69 32,
   ⟨some 34, .call ⟨.builtin .len, #[.tmp 33], #[69]⟩, 3, none⟩,
   ⟨some 35, .binOp .lss 3 (.tmp 29) (.tmp 34) 3, 4, none⟩,
   mv 36 35 4,
   ⟨some 37, .move (.tmp 0), 43, some (36, true)⟩,
   ⟨some 38, .nilCheck (.tmp 37), 0, some (36, true)⟩,
   ⟨some 39, .fieldAddr 71 (.tmp 38) 2, 0, some (36, true)⟩,
   ⟨some 40, .load 69 (.tmp 39), 69, some (36, true)⟩,
   ⟨some 41, .move (.tmp 6), 3, some (36, true)⟩,
   ⟨some 42, .indexAddr 69 (.tmp 40) (.tmp 41), 0, some (36, true)⟩,
   ⟨some 43, .fieldAddr 73 (.tmp 42) 0, 0, some (36, true)⟩,
   ⟨some 44, .load 9 (.tmp 43), 9, some (36, true)⟩,
   ⟨some 45, .move (.tmp 1), 9, some (36, true)⟩,
   ⟨some 46, .binOp .eql 9 (.tmp 44) (.tmp 45) 9, 4, some (36, true)⟩,
   ⟨some 47, .pick (.tmp 36) (.tmp 46) (.const (.bool false)), 4, none⟩,
   asg 4 28 3,
   asg 5 47 4]
def B44 : VC :=
  (.seq (.region r44_0) (.seq (.region r44_1) (.seq (.block 0 (.loop (.seq (.seq (.region r44_2) (.cond (.tmp 25) .skip (.exit 0))) (.block 1 (.region r44_3))))) (.seq (.draw r44_4 2) .ret))))
theorem code44 : ∃ c, Try.f44.body = some c ∧ abs Try.f44.ntmps c = B44 := ⟨_, rfl, by kernel_rfl⟩
theorem hb44 : HasBody Try.prog 44 := hasBody_of Try.func44 (by kernel_rfl)
theorem res44 : Try.f44.results = #[(.tmp 4), (.tmp 5)] := rfl
theorem enter44 {w : World} {R : Value → World → Prop} (x0 x1 : Value) (h : vc Try.prog B44 (retK Try.prog #[(.tmp 4), (.tmp 5)] R) [] (initEnv [x0, x1] 0) w) : FnC Try.prog 44 #[x0, x1] w R := by
  obtain ⟨c, h1, h2⟩ := code44
  exact hb44.fn (ret_of_vc mixed Try.func44 h1 (Nat.le_of_ble_eq_true rfl) B44 h2 h)
@[push_cast] theorem vr44_0 : VR r44_0 [⟨some 4, .assign (.const (.int .i64 0)), 3, none⟩, ⟨some 5, .assign (.const (.bool false)), 4, none⟩] := vR rfl
@[push_cast] theorem vr44_1 : VR r44_1 [⟨some 6, .assign (.const (.int .i64 0)), 3, none⟩] := vR rfl
@[push_cast] theorem vr44_2 : VR r44_2 [⟨some 7, .move (.tmp 6), 3, none⟩, ⟨some 8, .move (.tmp 0), 43, none⟩, ⟨some 9, .nilCheck (.tmp 8), 0, none⟩, ⟨some 10, .fieldAddr 71 (.tmp 9) 2, 0, none⟩, ⟨some 11, .load 69 (.tmp 10), 69, none⟩, ⟨some 12, .call ⟨.builtin .len, #[.tmp 11], #[69]⟩, 3, none⟩, ⟨some 13, .binOp .lss 3 (.tmp 7) (.tmp 12) 3, 4, none⟩, ⟨some 14, .move (.tmp 13), 4, none⟩, ⟨some 15, .move (.tmp 0), 43, some (14, true)⟩, ⟨some 16, .nilCheck (.tmp 15), 0, some (14, true)⟩, ⟨some 17, .fieldAddr 71 (.tmp 16) 2, 0, some (14, true)⟩, ⟨some 18, .load 69 (.tmp 17), 69, some (14, true)⟩, ⟨some 19, .move (.tmp 6), 3, some (14, true)⟩, ⟨some 20, .indexAddr 69 (.tmp 18) (.tmp 19), 0, some (14, true)⟩, ⟨some 21, .fieldAddr 73 (.tmp 20) 0, 0, some (14, true)⟩, ⟨some 22, .load 9 (.tmp 21), 9, some (14, true)⟩, ⟨some 23, .move (.tmp 1), 9, some (14, true)⟩, ⟨some 24, .binOp .lss 9 (.tmp 22) (.tmp 23) 9, 4, some (14, true)⟩, ⟨some 25, .pick (.tmp 14) (.tmp 24) (.const (.bool false)), 4, none⟩] := vR rfl
@[push_cast] theorem vr44_3 : VR r44_3 [⟨some 26, .move (.tmp 6), 3, none⟩, ⟨some 27, .binOp .add 3 (.tmp 26) (.const (.int .i64 1)) 3, 3, none⟩, ⟨some 6, .assign (.tmp 27), 3, none⟩] := vR rfl
@[push_cast] theorem vr44_4 : vc Try.prog (.draw r44_4 2) Q ds σ w = drawn Try.prog [(⟨some 28, .move (.tmp 6), 3, none⟩, [6]), (⟨some 29, .move (.tmp 6), 3, none⟩, [6]), (⟨some 30, .move (.tmp 0), 43, none⟩, [0]), (⟨some 31, .nilCheck (.tmp 30), 0, none⟩, [30]), (⟨some 32, .fieldAddr 71 (.tmp 31) 2, 0, none⟩, [31]), (⟨some 33, .load 69 (.tmp 32), 69, none⟩, [32]), (⟨some 34, .call ⟨.builtin .len, #[.tmp 33], #[69]⟩, 3, none⟩, [33]), (⟨some 35, .binOp .lss 3 (.tmp 29) (.tmp 34) 3, 4, none⟩, [29, 34]), (⟨some 36, .move (.tmp 35), 4, none⟩, [35]), (⟨some 37, .move (.tmp 0), 43, some (36, true)⟩, [0, 36]), (⟨some 38, .nilCheck (.tmp 37), 0, some (36, true)⟩, [37, 36]), (⟨some 39, .fieldAddr 71 (.tmp 38) 2, 0, some (36, true)⟩, [38, 36]), (⟨some 40, .load 69 (.tmp 39), 69, some (36, true)⟩, [39, 36]), (⟨some 41, .move (.tmp 6), 3, some (36, true)⟩, [6, 36]), (⟨some 42, .indexAddr 69 (.tmp 40) (.tmp 41), 0, some (36, true)⟩, [40, 41, 36]), (⟨some 43, .fieldAddr 73 (.tmp 42) 0, 0, some (36, true)⟩, [42, 36]), (⟨some 44, .load 9 (.tmp 43), 9, some (36, true)⟩, [43, 36]), (⟨some 45, .move (.tmp 1), 9, some (36, true)⟩, [1, 36]), (⟨some 46, .binOp .eql 9 (.tmp 44) (.tmp 45) 9, 4, some (36, true)⟩, [44, 45, 36]), (⟨some 47, .pick (.tmp 36) (.tmp 46) (.const (.bool false)), 4, none⟩, [36, 46]), (⟨some 4, .assign (.tmp 28), 3, none⟩, [28]), (⟨some 5, .assign (.tmp 47), 4, none⟩, [47])] 2 (Q .normal ds) σ w := mk_eq rfl
/-! 50 columbary/columbaryref03.Name (params #[9], results #[(.tmp 2)], 40 slots) -/
def W50_0 : List Nat := [2, 3, 4, 5, 6, 7, 8, 9, 10, 11, 12, 13, 14, 15, 16, 17, 18, 19, 20, 21, 22, 23, 24, 25, 26, 27, 28, 29, 30, 31]
@[push_cast] theorem W50_0_def : W50_0 = [2, 3, 4, 5, 6, 7, 8, 9, 10, 11, 12, 13, 14, 15, 16, 17, 18, 19, 20, 21, 22, 23, 24, 25, 26, 27, 28, 29, 30, 31] := mk_eq rfl
def r50_0 : List VOp :=
  [⟨some 2, .assign (.const (.bool false)), 4, none⟩]
def r50_1 : List VOp :=
  [⟨some 3, .assign (.const (.int .i64 0)), 3, none⟩]
def r50_2 : List VOp :=
  [mv 5 3 3,
   mv 6 0 9,
   ⟨some 7, .call ⟨.builtin .len, #[.tmp 6], #[9]⟩, 3, none⟩,
   ⟨some 8, .binOp .lss 3 (.tmp 5) (.tmp 7) 3, 4, none⟩]
def r50_4 : List VOp :=
  [mv 11 0 9,
   mv 12 3 3,
   ⟨some 13, .index 9 (.tmp 11) (.tmp 12), 5, none⟩,
   asg 4 13 5]
def r50_5 : List VOp :=
  [mv 14 4 5,
   ⟨some 15, .binOp .lss 5 (.tmp 14) (.const (.int .u8 97)) 5, 4, none⟩,
   mv 16 15 4,
   ⟨some 17, .move (.tmp 4), 5, some (16, false)⟩,
   ⟨some 18, .binOp .gtr 5 (.tmp 17) (.const (.int .u8 122)) 5, 4, some (16, false)⟩,
   ⟨some 19, .pick (.tmp 16) (.const (.bool true)) (.tmp 18), 4, none⟩,
   mv 20 19 4,
   ⟨some 21, .move (.tmp 4), 5, some (20, true)⟩,
   ⟨some 22, .binOp .lss 5 (.tmp 21) (.const (.int .u8 48)) 5, 4, some (20, true)⟩,
   ⟨some 23, .move (.tmp 22), 4, some (20, true)⟩,
   ⟨some 24, .move (.tmp 4), 5, some (23, false)⟩,
   ⟨some 25, .binOp .gtr 5 (.tmp 24) (.const (.int .u8 57)) 5, 4, some (23, false)⟩,
   ⟨some 26, .pick (.tmp 23) (.const (.bool true)) (.tmp 25), 4, some (20, true)⟩,
   ⟨some 27, .pick (.tmp 20) (.tmp 26) (.const (.bool false)), 4, none⟩,
   mv 28 27 4,
   ⟨some 29, .move (.tmp 4), 5, some (28, true)⟩,
   ⟨some 30, .binOp .neq 5 (.tmp 29) (.const (.int .u8 46)) 5, 4, some (28, true)⟩,
   ⟨some 31, .pick (.tmp 28) (.tmp 30) (.const (.bool false)), 4, none⟩]
def r50_6 : List VOp :=
  [⟨some 2, .assign (.const (.bool false)), 4, none⟩]
def r50_3 : List VOp :=
  [mv 9 3 3,
   ⟨some 10, .binOp .add 3 (.tmp 9) (.const (.int .i64 1)) 3, 3, none⟩,
   asg 3 10 3]
def r50_7 : List VOp :=
  [mv 32 0 9,
   ⟨some 33, .call ⟨.builtin .len, #[.tmp 32], #[9]⟩, 3, none⟩,
   ⟨some 34, .binOp .geq 3 (.tmp 33) (.const (.int .i64 1)) 3, 4, none⟩,
   mv 35 34 4,
   ⟨some 36, .move (.tmp 0), 9, some (35, true)⟩,
   ⟨some 37, .call ⟨.builtin .len, #[.tmp 36], #[9]⟩, 3, some (35, true)⟩,
   ⟨some 38, .binOp .leq 3 (.tmp 37) (.const (.int .i64 12)) 3, 4, some (35, true)⟩,
   ⟨some 39, .pick (.tmp 35) (.tmp 38) (.const (.bool false)), 4, none⟩,
   asg 2 39 4]
def B50 : VC :=
  (.seq (.region r50_0) (.seq (.seq (.region r50_1) (.block 0 (.loop (.seq (.seq (.region r50_2) (.cond (.tmp 8) .skip (.exit 0))) (.seq (.block 1 (.seq (.region r50_4) (.seq (.region r50_5) (.cond (.tmp 31) (.seq (.region r50_6) .ret) .skip)))) (.region r50_3)))))) (.seq (.region r50_7) .ret)))
theorem code50 : ∃ c, Try.f50.body = some c ∧ abs Try.f50.ntmps c = B50 := ⟨_, rfl, by kernel_rfl⟩
theorem hb50 : HasBody Try.prog 50 := hasBody_of Try.func50 (by kernel_rfl)
theorem res50 : Try.f50.results = #[(.tmp 2)] := rfl
theorem enter50 {w : World} {R : Value → World → Prop} (x0 : Value) (h : vc Try.prog B50 (retK Try.prog #[(.tmp 2)] R) [] (initEnv [x0] 0) w) : FnC Try.prog 50 #[x0] w R := by
  obtain ⟨c, h1, h2⟩ := code50
  exact hb50.fn (ret_of_vc mixed Try.func50 h1 (Nat.le_of_ble_eq_true rfl) B50 h2 h)
@[push_cast] theorem vr50_0 : VR r50_0 [⟨some 2, .assign (.const (.bool false)), 4, none⟩] := vR rfl
@[push_cast] theorem vr50_1 : VR r50_1 [⟨some 3, .assign (.const (.int .i64 0)), 3, none⟩] := vR rfl
@[push_cast] theorem vr50_2 : VR r50_2 [⟨some 5, .move (.tmp 3), 3, none⟩, ⟨some 6, .move (.tmp 0), 9, none⟩, ⟨some 7, .call ⟨.builtin .len, #[.tmp 6], #[9]⟩, 3, none⟩, ⟨some 8, .binOp .lss 3 (.tmp 5) (.tmp 7) 3, 4, none⟩] := vR rfl
@[push_cast] theorem vr50_4 : VR r50_4 [⟨some 11, .move (.tmp 0), 9, none⟩, ⟨some 12, .move (.tmp 3), 3, none⟩, ⟨some 13, .index 9 (.tmp 11) (.tmp 12), 5, none⟩, ⟨some 4, .assign (.tmp 13), 5, none⟩] := vR rfl
@[push_cast] theorem vr50_5 : VR r50_5 [⟨some 14, .move (.tmp 4), 5, none⟩, ⟨some 15, .binOp .lss 5 (.tmp 14) (.const (.int .u8 97)) 5, 4, none⟩, ⟨some 16, .move (.tmp 15), 4, none⟩, ⟨some 17, .move (.tmp 4), 5, some (16, false)⟩, ⟨some 18, .binOp .gtr 5 (.tmp 17) (.const (.int .u8 122)) 5, 4, some (16, false)⟩, ⟨some 19, .pick (.tmp 16) (.const (.bool true)) (.tmp 18), 4, none⟩, ⟨some 20, .move (.tmp 19), 4, none⟩, ⟨some 21, .move (.tmp 4), 5, some (20, true)⟩, ⟨some 22, .binOp .lss 5 (.tmp 21) (.const (.int .u8 48)) 5, 4, some (20, true)⟩, ⟨some 23, .move (.tmp 22), 4, some (20, true)⟩, ⟨some 24, .move (.tmp 4), 5, some (23, false)⟩, ⟨some 25, .binOp .gtr 5 (.tmp 24) (.const (.int .u8 57)) 5, 4, some (23, false)⟩, ⟨some 26, .pick (.tmp 23) (.const (.bool true)) (.tmp 25), 4, some (20, true)⟩, ⟨some 27, .pick (.tmp 20) (.tmp 26) (.const (.bool false)), 4, none⟩, ⟨some 28, .move (.tmp 27), 4, none⟩, ⟨some 29, .move (.tmp 4), 5, some (28, true)⟩, ⟨some 30, .binOp .neq 5 (.tmp 29) (.const (.int .u8 46)) 5, 4, some (28, true)⟩, ⟨some 31, .pick (.tmp 28) (.tmp 30) (.const (.bool false)), 4, none⟩] := vR rfl
@[push_cast] theorem vr50_6 : VR r50_6 [⟨some 2, .assign (.const (.bool false)), 4, none⟩] := vR rfl
@[push_cast] theorem vr50_3 : VR r50_3 [⟨some 9, .move (.tmp 3), 3, none⟩, ⟨some 10, .binOp .add 3 (.tmp 9) (.const (.int .i64 1)) 3, 3, none⟩, ⟨some 3, .assign (.tmp 10), 3, none⟩] := vR rfl
@[push_cast] theorem vr50_7 : VR r50_7 [⟨some 32, .move (.tmp 0), 9, none⟩, ⟨some 33, .call ⟨.builtin .len, #[.tmp 32], #[9]⟩, 3, none⟩, ⟨some 34, .binOp .geq 3 (.tmp 33) (.const (.int .i64 1)) 3, 4, none⟩, ⟨some 35, .move (.tmp 34), 4, none⟩, ⟨some 36, .move (.tmp 0), 9, some (35, true)⟩, ⟨some 37, .call ⟨.builtin .len, #[.tmp 36], #[9]⟩, 3, some (35, true)⟩, ⟨some 38, .binOp .leq 3 (.tmp 37) (.const (.int .i64 12)) 3, 4, some (35, true)⟩, ⟨some 39, .pick (.tmp 35) (.tmp 38) (.const (.bool false)), 4, none⟩, ⟨some 2, .assign (.tmp 39), 4, none⟩] := vR rfl
/-! 51 (*columbary/columbaryref03.Vault).burnt (params #[43], results #[(.tmp 2)], 20 slots) -/
def r51_0 : List VOp :=
  [⟨some 2, .assign (.const (.bool false)), 4, none⟩]
def r51_1 : List VOp :=
  [mv 3 0 43,
   ⟨some 4, .nilCheck (.tmp 3), 0, none⟩,
   fad 5 71 4 1,
   lda 6 3 5,
   ⟨some 7, .binOp .gtr 3 (.tmp 6) (.const (.int .i64 0)) 3, 4, none⟩]
def r51_2 : List VOp :=
  [mv 8 0 43,
   ⟨some 9, .nilCheck (.tmp 8), 0, none⟩,
   fad 10 71 9 1,
   lda 11 3 10,
   ⟨some 12, .binOp .sub 3 (.tmp 11) (.const (.int .i64 1)) 3, 3, none⟩,
   ⟨some 13, .nilCheck (.tmp 8), 0, none⟩,
   fad 14 71 13 1,
   ⟨none, .store 3 (.tmp 14) (.tmp 12), 0, none⟩]
def r51_3 : List VOp :=
  [mv 15 0 43,
   ⟨some 16, .nilCheck (.tmp 15), 0, none⟩,
   fad 17 71 16 1,
   lda 18 3 17,
   ⟨some 19, .binOp .eql 3 (.tmp 18) (.const (.int .i64 0)) 3, 4, none⟩,
   asg 2 19 4]
def B51 : VC :=
  (.seq (.region r51_0) (.seq (.seq (.region r51_1) (.cond (.tmp 7) (.region r51_2) .skip)) (.seq (.region r51_3) .ret)))
theorem code51 : ∃ c, Try.f51.body = some c ∧ abs Try.f51.ntmps c = B51 := ⟨_, rfl, by kernel_rfl⟩
theorem hb51 : HasBody Try.prog 51 := hasBody_of Try.func51 (by kernel_rfl)
theorem res51 : Try.f51.results = #[(.tmp 2)] := rfl
theorem enter51 {w : World} {R : Value → World → Prop} (x0 : Value) (h : vc Try.prog B51 (retK Try.prog #[(.tmp 2)] R) [] (initEnv [x0] 0) w) : FnC Try.prog 51 #[x0] w R := by
  obtain ⟨c, h1, h2⟩ := code51
  exact hb51.fn (ret_of_vc mixed Try.func51 h1 (Nat.le_of_ble_eq_true rfl) B51 h2 h)
@[push_cast] theorem vr51_0 : VR r51_0 [⟨some 2, .assign (.const (.bool false)), 4, none⟩] := vR rfl
@[push_cast] theorem vr51_1 : VR r51_1 [⟨some 3, .move (.tmp 0), 43, none⟩, ⟨some 4, .nilCheck (.tmp 3), 0, none⟩, ⟨some 5, .fieldAddr 71 (.tmp 4) 1, 0, none⟩, ⟨some 6, .load 3 (.tmp 5), 3, none⟩, ⟨some 7, .binOp .gtr 3 (.tmp 6) (.const (.int .i64 0)) 3, 4, none⟩] := vR rfl
@[push_cast] theorem vr51_2 : VR r51_2 [⟨some 8, .move (.tmp 0), 43, none⟩, ⟨some 9, .nilCheck (.tmp 8), 0, none⟩, ⟨some 10, .fieldAddr 71 (.tmp 9) 1, 0, none⟩, ⟨some 11, .load 3 (.tmp 10), 3, none⟩, ⟨some 12, .binOp .sub 3 (.tmp 11) (.const (.int .i64 1)) 3, 3, none⟩, ⟨some 13, .nilCheck (.tmp 8), 0, none⟩, ⟨some 14, .fieldAddr 71 (.tmp 13) 1, 0, none⟩, ⟨none, .store 3 (.tmp 14) (.tmp 12), 0, none⟩] := vR rfl
@[push_cast] theorem vr51_3 : VR r51_3 [⟨some 15, .move (.tmp 0), 43, none⟩, ⟨some 16, .nilCheck (.tmp 15), 0, none⟩, ⟨some 17, .fieldAddr 71 (.tmp 16) 1, 0, none⟩, ⟨some 18, .load 3 (.tmp 17), 3, none⟩, ⟨some 19, .binOp .eql 3 (.tmp 18) (.const (.int .i64 0)) 3, 4, none⟩, ⟨some 2, .assign (.tmp 19), 4, none⟩] := vR rfl
/-! 52 (*columbary/columbaryref03.Vault).set (params #[43, 73], results #[], 41 slots) -/
def r52_0 : List VOp :=
  [⟨some 3, .box 73 (.tmp 1), 0, none⟩]
def r52_1 : List VOp :=
  [mv 8 0 43,
   fad 9 73 3 0,
   lda 10 9 9,
   ⟨some 11, .call ⟨.value (.func 44), #[.tmp 8, .tmp 10], #[43, 9]⟩, 75, none⟩,
   mv 7 11 75,
   ext 12 7 0 3,
   ext 13 7 1 4,
   asg 4 12 3,
   asg 5 13 4]
def r52_2 : List VOp :=
  [⟨some 14, .buildSlice 69 0 #[], 69, none⟩,
   mv 15 0 43,
   ⟨some 16, .nilCheck (.tmp 15), 0, none⟩,
   fad 17 71 16 2,
   lda 18 69 17,
   mv 19 4 3,
   ⟨some 20, .slice 69 (.tmp 18) none (some (.tmp 19)) none, 69, none⟩,
   ⟨some 21, .call ⟨.builtin .append, #[.tmp 14, .tmp 20], #[69, 69]⟩, 69, none⟩,
   asg 6 21 69]
def r52_3 : List VOp :=
  [mv 22 6 69,
   lda 23 73 3,
   ⟨some 24, .buildSlice 69 1 #[(0, (.tmp 23))], 69, none⟩,
   ⟨some 25, .call ⟨.builtin .append, #[.tmp 22, .tmp 24], #[69, 69]⟩, 69, none⟩,
   asg 6 25 69]
def r52_4 : List VOp :=
  [mv 26 5 4]
def r52_5 : List VOp :=
  [mv 27 4 3,
   ⟨some 28, .binOp .add 3 (.tmp 27) (.const (.int .i64 1)) 3, 3, none⟩,
   asg 4 28 3]
def r52_6 : List VOp :=
  [mv 29 6 69,
   mv 30 0 43,
   ⟨some 31, .nilCheck (.tmp 30), 0, none⟩,
   fad 32 71 31 2,
   lda 33 69 32,
   mv 34 4 3,
   ⟨some 35, .slice 69 (.tmp 33) (some (.tmp 34)) none none, 69, none⟩,
   ⟨some 36, .call ⟨.builtin .append, #[.tmp 29, .tmp 35], #[69, 69]⟩, 69, none⟩,
   asg 6 36 69]
def r52_7 : List VOp :=
  [mv 37 0 43,
   mv 38 6 69,
   ⟨some 39, .nilCheck (.tmp 37), 0, none⟩,
   fad 40 71 39 2,
   ⟨none, .store 69 (.tmp 40) (.tmp 38), 0, none⟩]
def B52 : VC :=
  (.seq (.region r52_0) (.seq (.region r52_1) (.seq (.region r52_2) (.seq (.region r52_3) (.seq (.seq (.region r52_4) (.cond (.tmp 26) (.region r52_5) .skip)) (.seq (.region r52_6) (.region r52_7)))))))
theorem code52 : ∃ c, Try.f52.body = some c ∧ abs Try.f52.ntmps c = B52 := ⟨_, rfl, by kernel_rfl⟩
theorem hb52 : HasBody Try.prog 52 := hasBody_of Try.func52 (by kernel_rfl)
theorem res52 : Try.f52.results = #[] := rfl
theorem enter52 {w : World} {R : Value → World → Prop} (x0 x1 : Value) (h : vc Try.prog B52 (retK Try.prog #[] R) [] (initEnv [x0, x1] 0) w) : FnC Try.prog 52 #[x0, x1] w R := by
  obtain ⟨c, h1, h2⟩ := code52
  exact hb52.fn (ret_of_vc mixed Try.func52 h1 (Nat.le_of_ble_eq_true rfl) B52 h2 h)
@[push_cast] theorem vr52_0 : VR r52_0 [⟨some 3, .box 73 (.tmp 1), 0, none⟩] := vR rfl
@[push_cast] theorem vr52_1 : VR r52_1 [⟨some 8, .move (.tmp 0), 43, none⟩, ⟨some 9, .fieldAddr 73 (.tmp 3) 0, 0, none⟩, ⟨some 10, .load 9 (.tmp 9), 9, none⟩, ⟨some 11, .call ⟨.value (.func 44), #[.tmp 8, .tmp 10], #[43, 9]⟩, 75, none⟩, ⟨some 7, .move (.tmp 11), 75, none⟩, ⟨some 12, .extract (.tmp 7) 0, 3, none⟩, ⟨some 13, .extract (.tmp 7) 1, 4, none⟩, ⟨some 4, .assign (.tmp 12), 3, none⟩, ⟨some 5, .assign (.tmp 13), 4, none⟩] := vR rfl
@[push_cast] theorem vr52_2 : VR r52_2 [⟨some 14, .buildSlice 69 0 #[], 69, none⟩, ⟨some 15, .move (.tmp 0), 43, none⟩, ⟨some 16, .nilCheck (.tmp 15), 0, none⟩, ⟨some 17, .fieldAddr 71 (.tmp 16) 2, 0, none⟩, ⟨some 18, .load 69 (.tmp 17), 69, none⟩, ⟨some 19, .move (.tmp 4), 3, none⟩, ⟨some 20, .slice 69 (.tmp 18) none (some (.tmp 19)) none, 69, none⟩, ⟨some 21, .call ⟨.builtin .append, #[.tmp 14, .tmp 20], #[69, 69]⟩, 69, none⟩, ⟨some 6, .assign (.tmp 21), 69, none⟩] := vR rfl
@[push_cast] theorem vr52_3 : VR r52_3 [⟨some 22, .move (.tmp 6), 69, none⟩, ⟨some 23, .load 73 (.tmp 3), 73, none⟩, ⟨some 24, .buildSlice 69 1 #[(0, (.tmp 23))], 69, none⟩, ⟨some 25, .call ⟨.builtin .append, #[.tmp 22, .tmp 24], #[69, 69]⟩, 69, none⟩, ⟨some 6, .assign (.tmp 25), 69, none⟩] := vR rfl
@[push_cast] theorem vr52_4 : VR r52_4 [⟨some 26, .move (.tmp 5), 4, none⟩] := vR rfl
@[push_cast] theorem vr52_5 : VR r52_5 [⟨some 27, .move (.tmp 4), 3, none⟩, ⟨some 28, .binOp .add 3 (.tmp 27) (.const (.int .i64 1)) 3, 3, none⟩, ⟨some 4, .assign (.tmp 28), 3, none⟩] := vR rfl
@[push_cast] theorem vr52_6 : VR r52_6 [⟨some 29, .move (.tmp 6), 69, none⟩, ⟨some 30, .move (.tmp 0), 43, none⟩, ⟨some 31, .nilCheck (.tmp 30), 0, none⟩, ⟨some 32, .fieldAddr 71 (.tmp 31) 2, 0, none⟩, ⟨some 33, .load 69 (.tmp 32), 69, none⟩, ⟨some 34, .move (.tmp 4), 3, none⟩, ⟨some 35, .slice 69 (.tmp 33) (some (.tmp 34)) none none, 69, none⟩, ⟨some 36, .call ⟨.builtin .append, #[.tmp 29, .tmp 35], #[69, 69]⟩, 69, none⟩, ⟨some 6, .assign (.tmp 36), 69, none⟩] := vR rfl
@[push_cast] theorem vr52_7 : VR r52_7 [⟨some 37, .move (.tmp 0), 43, none⟩, ⟨some 38, .move (.tmp 6), 69, none⟩, ⟨some 39, .nilCheck (.tmp 37), 0, none⟩, ⟨some 40, .fieldAddr 71 (.tmp 39) 2, 0, none⟩, ⟨none, .store 69 (.tmp 40) (.tmp 38), 0, none⟩] := vR rfl
/-! 53 (*columbary/columbaryref03.Vault).drop (params #[43, 3], results #[], 26 slots) -/
def r53_0 : List VOp :=
  [⟨some 5, .buildSlice 69 0 #[], 69, none⟩,
   mv 6 0 43,
   ⟨some 7, .nilCheck (.tmp 6), 0, none⟩,
   fad 8 71 7 2,
   lda 9 69 8,
   mv 10 1 3,
   ⟨some 11, .slice 69 (.tmp 9) none (some (.tmp 10)) none, 69, none⟩,
   ⟨some 12, .call ⟨.builtin .append, #[.tmp 5, .tmp 11], #[69, 69]⟩, 69, none⟩,
   asg 4 12 69]
def r53_1 : List VOp :=
  [mv 13 4 69,
   mv 14 0 43,
   ⟨some 15, .nilCheck (.tmp 14), 0, none⟩,
   fad 16 71 15 2,
   lda 17 69 16,
   mv 18 1 3,
   ⟨some 19, .binOp .add 3 (.tmp 18) (.const (.int .i64 1)) 3, 3, none⟩,
   ⟨some 20, .slice 69 (.tmp 17) (some (.tmp 19)) none none, 69, none⟩,
   ⟨some 21, .call ⟨.builtin .append, #[.tmp 13, .tmp 20], #[69, 69]⟩, 69, none⟩,
   asg 4 21 69]
def r53_2 : List VOp :=
  [mv 22 0 43,
   mv 23 4 69,
   ⟨some 24, .nilCheck (.tmp 22), 0, none⟩,
   fad 25 71 24 2,
   ⟨none, .store 69 (.tmp 25) (.tmp 23), 0, none⟩]
def B53 : VC :=
  (.seq (.region r53_0) (.seq (.region r53_1) (.region r53_2)))
theorem code53 : ∃ c, Try.f53.body = some c ∧ abs Try.f53.ntmps c = B53 := ⟨_, rfl, by kernel_rfl⟩
theorem hb53 : HasBody Try.prog 53 := hasBody_of Try.func53 (by kernel_rfl)
theorem res53 : Try.f53.results = #[] := rfl
theorem enter53 {w : World} {R : Value → World → Prop} (x0 x1 : Value) (h : vc Try.prog B53 (retK Try.prog #[] R) [] (initEnv [x0, x1] 0) w) : FnC Try.prog 53 #[x0, x1] w R := by
  obtain ⟨c, h1, h2⟩ := code53
  exact hb53.fn (ret_of_vc mixed Try.func53 h1 (Nat.le_of_ble_eq_true rfl) B53 h2 h)
@[push_cast] theorem vr53_0 : VR r53_0 [⟨some 5, .buildSlice 69 0 #[], 69, none⟩, ⟨some 6, .move (.tmp 0), 43, none⟩, ⟨some 7, .nilCheck (.tmp 6), 0, none⟩, ⟨some 8, .fieldAddr 71 (.tmp 7) 2, 0, none⟩, ⟨some 9, .load 69 (.tmp 8), 69, none⟩, ⟨some 10, .move (.tmp 1), 3, none⟩, ⟨some 11, .slice 69 (.tmp 9) none (some (.tmp 10)) none, 69, none⟩, ⟨some 12, .call ⟨.builtin .append, #[.tmp 5, .tmp 11], #[69, 69]⟩, 69, none⟩, ⟨some 4, .assign (.tmp 12), 69, none⟩] := vR rfl
@[push_cast] theorem vr53_1 : VR r53_1 [⟨some 13, .move (.tmp 4), 69, none⟩, ⟨some 14, .move (.tmp 0), 43, none⟩, ⟨some 15, .nilCheck (.tmp 14), 0, none⟩, ⟨some 16, .fieldAddr 71 (.tmp 15) 2, 0, none⟩, ⟨some 17, .load 69 (.tmp 16), 69, none⟩, ⟨some 18, .move (.tmp 1), 3, none⟩, ⟨some 19, .binOp .add 3 (.tmp 18) (.const (.int .i64 1)) 3, 3, none⟩, ⟨some 20, .slice 69 (.tmp 17) (some (.tmp 19)) none none, 69, none⟩, ⟨some 21, .call ⟨.builtin .append, #[.tmp 13, .tmp 20], #[69, 69]⟩, 69, none⟩, ⟨some 4, .assign (.tmp 21), 69, none⟩] := vR rfl
@[push_cast] theorem vr53_2 : VR r53_2 [⟨some 22, .move (.tmp 0), 43, none⟩, ⟨some 23, .move (.tmp 4), 69, none⟩, ⟨some 24, .nilCheck (.tmp 22), 0, none⟩, ⟨some 25, .fieldAddr 71 (.tmp 24) 2, 0, none⟩, ⟨none, .store 69 (.tmp 25) (.tmp 23), 0, none⟩] := vR rfl
@[push_cast] theorem bsl22_0_CodesX {K : Value → World → Prop} {w : World}  : vBuildSlice Try.prog 22 0 #[] K w = K (.slice (some ⟨w.heap.size, 0, none⟩) 0 0) (w.alloc (.cells #[] 5)) :=
  vBuildSlice_ok Try.underlying22 ti5 (by kernel_rfl) (by decide)
@[push_cast] theorem bsl40_1_CodesX {K : Value → World → Prop} {w : World} (x0 : ByteArray) : vBuildSlice Try.prog 40 1 #[(0, (.string x0))] K w = K (.slice (some ⟨w.heap.size, 0, none⟩) 1 1) (w.alloc (.cells #[(.string x0)] 9)) :=
  vBuildSlice_ok Try.underlying40 ti9 (by kernel_rfl) (by decide)
@[push_cast] theorem bsl69_0_CodesX {K : Value → World → Prop} {w : World}  : vBuildSlice Try.prog 69 0 #[] K w = K (.slice (some ⟨w.heap.size, 0, none⟩) 0 0) (w.alloc (.cells #[] 73)) :=
  vBuildSlice_ok Try.underlying69 ti73 (by kernel_rfl) (by decide)
@[push_cast] theorem bsl69_1_CodesX {K : Value → World → Prop} {w : World} (x00 x01 x02 : Value) : vBuildSlice Try.prog 69 1 #[(0, (.agg #[x00, x01, x02]))] K w = K (.slice (some ⟨w.heap.size, 0, none⟩) 1 1) (w.alloc (.cells #[x00, x01, x02] 73)) :=
  vBuildSlice_ok Try.underlying69 ti73 (by kernel_rfl) (by decide)
@[push_cast] theorem bld71_0_1_CodesX {K : Value → World → Prop} {w : World} (x0 : Int) (x1 : Int) : vBuild Try.prog 71 #[(0, (.int .i64 x0)), (1, (.int .i64 x1))] K w = K (.agg #[(.int .i64 x0), (.int .i64 x1), (.slice none 0 0)]) w :=
  vBuild_ok (by kernel_rfl)
@[push_cast] theorem bld71_0_1_2_CodesX {K : Value → World → Prop} {w : World} (x0 : Int) (x1 : Int) (x2o : Option Addr) (x2n x2c : Nat) : vBuild Try.prog 71 #[(0, (.int .i64 x0)), (1, (.int .i64 x1)), (2, (.slice x2o x2n x2c))] K w = K (.agg #[(.int .i64 x0), (.int .i64 x1), (.slice x2o x2n x2c)]) w :=
  vBuild_ok (by kernel_rfl)
@[push_cast] theorem bld73_0_CodesX {K : Value → World → Prop} {w : World} (x0 : ByteArray) : vBuild Try.prog 73 #[(0, (.string x0))] K w = K (.agg #[(.string x0), (.slice none 0 0), (.int .i64 0)]) w :=
  vBuild_ok (by kernel_rfl)
@[push_cast] theorem bld73_0_1_2_CodesX {K : Value → World → Prop} {w : World} (x0 : ByteArray) (x1o : Option Addr) (x1n x1c : Nat) (x2 : Int) : vBuild Try.prog 73 #[(0, (.string x0)), (1, (.slice x1o x1n x1c)), (2, (.int .i64 x2))] K w = K (.agg #[(.string x0), (.slice x1o x1n x1c), (.int .i64 x2)]) w :=
  vBuild_ok (by kernel_rfl)
end Go.Proofs.Ytmfcnooleejgmaa
end
section
namespace Go.Vc
open Go.RowKit
variable {α : Type} {enc : α → List Value} {k : Nat}
theorem rec_take (hk : ∀ x, (enc x).length = k) (l : List α) : ∀ j : Nat, (l.map enc).flatten.take (j * k) = ((l.take j).map enc).flatten := by
  induction l with
  | nil => intro j; simp
  | cons p l ih =>
    intro j
    cases j with
    | zero => simp
    | succ j =>
      simp only [List.map_cons, List.flatten_cons, List.take_succ_cons]
      rw [List.take_append, hk, List.take_of_length_le (by rw [hk, Nat.add_mul]; omega), show (j + 1) * k - k = j * k by rw [Nat.add_mul]; omega, ih]
theorem rec_drop (hk : ∀ x, (enc x).length = k) (l : List α) : ∀ j : Nat, (l.map enc).flatten.drop (j * k) = ((l.drop j).map enc).flatten := by
  induction l with
  | nil => intro j; simp
  | cons p l ih =>
    intro j
    cases j with
    | zero => simp
    | succ j =>
      simp only [List.map_cons, List.flatten_cons, List.drop_succ_cons]
      rw [List.drop_append, hk, List.drop_of_length_le (by rw [hk, Nat.add_mul]; omega), show (j + 1) * k - k = j * k by rw [Nat.add_mul]; omega, ih, List.nil_append]
theorem RecS.pre (hk : ∀ x, (enc x).length = k) {w : World} {o : Option Addr} {n c : Nat} {l : List α} (h : RecS enc k w (.slice o n c) l) {j : Nat} (hj : j ≤ l.length) : RecS enc k w (.slice (slAddr o 0 c k) j c) (l.take j) := by
  obtain ⟨hn, hc, hm, hl, _⟩ := SlN.len h
  subst hn
  have := SlN.part h (l := 0) (k := (j : Int)) (m := (c : Int)) (by omega) (by omega) (by omega) (by omega) (by omega)
  rw [Int.toNat_natCast] at this
  simp only [Int.sub_zero, Int.toNat_natCast, Int.toNat_zero, Nat.zero_mul, List.drop_zero] at this
  rw [rec_take hk] at this
  unfold RecS
  rw [List.length_take, Nat.min_eq_left hj]
  exact this
theorem RecS.from (hk : ∀ x, (enc x).length = k) {w : World} {o : Option Addr} {n c : Nat} {l : List α} (h : RecS enc k w (.slice o n c) l) {j : Nat} (hj : j ≤ l.length) : RecS enc k w (.slice (slAddr o j c k) (l.length - j) ((c : Int) - j).toNat) (l.drop j) := by
  obtain ⟨hn, hc, hm, hl, _⟩ := SlN.len h
  subst hn
  have := SlN.part h (l := (j : Int)) (k := (l.length : Int)) (m := (c : Int)) (by omega) (by omega) (by omega) (by omega) (by omega)
  rw [Int.toNat_natCast, Int.toNat_natCast, ← hl, List.take_length, rec_drop hk, show ((l.length : Int) - (j : Int)).toNat = l.length - j by omega] at this
  unfold RecS
  rw [List.length_drop]
  exact this
end Go.Vc
namespace Go.Vlt
open Go Go.Vc Go.Key
/-- Where a name is, or would be. -/
structure FI (k : ByteArray) (L : List Fl) (i : Nat) : Prop where
  le : i ≤ L.length
  below : ∀ j (h : j < L.length), j < i → blt (L[j]).name k = true
  at_ : ∀ h : i < L.length, blt (L[i]).name k = false
theorem FI.tail {k : ByteArray} {x : Fl} {l : List Fl} {i : Nat} (h : FI k (x :: l) (i + 1)) : FI k l i ∧ blt x.name k = true :=
  ⟨⟨by have := h.le; simpa using this, fun j hj hji => h.below (j + 1) (by simpa using hj) (by omega), fun hi => h.at_ (by simpa using hi)⟩, h.below 0 (by simp) (by omega)⟩
theorem FI.put (f : Fl) : ∀ {L : List Fl} {i : Nat}, FI f.name L i → lPut f L = L.take i ++ f :: L.drop (if ∃ h : i < L.length, (L[i]).name = f.name then i + 1 else i)
  | [], i, h => by
    have : i = 0 := by have := h.le; simpa using this
    subst this
    rw [if_neg (by simp)]
    rfl
  | x :: l, 0, h => by
    have h0 := h.at_ (by simp)
    simp only [List.getElem_cons_zero] at h0
    unfold lPut
    rw [if_neg (by simp [h0])]
    by_cases he : x.name = f.name
    · rw [if_pos he, if_pos ⟨by simp, he⟩]; rfl
    · rw [if_neg he, if_neg (by rintro ⟨_, h'⟩; exact he h')]; rfl
  | x :: l, i + 1, h => by
    obtain ⟨h1, h2⟩ := h.tail
    unfold lPut
    rw [if_pos h2, FI.put f h1]
    have e : (∃ h : i + 1 < (x :: l).length, ((x :: l)[i + 1]).name = f.name) ↔ (∃ h : i < l.length, (l[i]).name = f.name) := by simp
    by_cases hc : ∃ h : i < l.length, (l[i]).name = f.name
    · rw [if_pos hc, if_pos (e.2 hc)]; rfl
    · rw [if_neg hc, if_neg (fun h' => hc (e.1 h'))]; rfl
theorem FI.del {k : ByteArray} : ∀ {L : List Fl} {i : Nat}, FI k L i → (∃ h : i < L.length, (L[i]).name = k) → lDel k L = L.take i ++ L.drop (i + 1)
  | [], i, _, ⟨h, _⟩ => by simp at h
  | x :: l, 0, h, ⟨_, he⟩ => by
    unfold lDel
    rw [if_pos (by simpa using he)]; rfl
  | x :: l, i + 1, h, ⟨hi, he⟩ => by
    obtain ⟨h1, h2⟩ := h.tail
    unfold lDel
    rw [if_neg (blt_ne h2), FI.del h1 ⟨by simpa using hi, by simpa using he⟩]; rfl
theorem FI.lk {k : ByteArray} : ∀ {L : List Fl} {i : Nat}, Srd L → FI k L i → (∀ h : i < L.length, (L[i]).name = k → lk k L = some ((L[i]).b, (L[i]).safe)) ∧ ((∀ h : i < L.length, (L[i]).name ≠ k) → lk k L = none)
  | [], i, _, _ => ⟨fun h => by simp at h, fun _ => rfl⟩
  | x :: l, 0, hs, h => by
    obtain ⟨s1, s2⟩ := List.pairwise_cons.1 hs
    have h0 := h.at_ (by simp)
    simp only [List.getElem_cons_zero] at h0
    refine ⟨fun _ he => ?_, fun hn => ?_⟩
    · simp only [List.getElem_cons_zero] at he ⊢
      have h' := lk_mem hs (x := x) (by simp)
      rw [he] at h'; exact h'
    · have hne : x.name ≠ k := hn (by simp)
      refine lk_out fun y hy => ?_
      rcases List.mem_cons.1 hy with rfl | hy
      · exact hne
      · have h1 : blt k x.name = true := by
          rcases blt_tri x.name k with h' | h' | h'
          · rw [h0] at h'; cases h'.1
          · exact absurd h'.1 hne
          · exact h'.2.1
        exact (blt_ne (blt_trans h1 (s1 y hy))).symm
  | x :: l, i + 1, hs, h => by
    obtain ⟨s1, s2⟩ := List.pairwise_cons.1 hs
    obtain ⟨h1, h2⟩ := h.tail
    obtain ⟨i1, i2⟩ := FI.lk s2 h1
    have e : Vlt.lk k (x :: l) = Vlt.lk k l := by
      show (if k = x.name then some (x.b, x.safe) else Vlt.lk k l) = _
      rw [if_neg fun h' => blt_ne h2 h'.symm]
    rw [e]
    exact ⟨fun hi he => i1 (by simpa using hi) (by simpa using he), fun hn => i2 fun hi => hn (by simpa using hi)⟩
end Go.Vlt
namespace Go.Proofs.Ytmfcnooleejgmaa
open Go.Vc Go.Vlt Go.Key
set_option maxRecDepth 100000
/-- A file of the document's vault, and where its bytes lie. -/
structure DE where
  name : ByteArray
  b : List UInt8
  safe : Nat
  bo : Option Addr
  bc : Nat
def DE.bv (d : DE) : Value := .slice d.bo d.b.length d.bc
def flC (d : DE) : List Value := [.string d.name, .slice d.bo d.b.length d.bc, .int .i64 d.safe]
def DE.fl (d : DE) : Fl := ⟨d.name, d.b, d.safe⟩
theorem flC_len (d : DE) : (flC d).length = 3 := rfl
theorem flC_one (d : DE) : ∀ u ∈ flC d, u.oneCell' = true := by
  intro u hu
  simp only [flC, List.mem_cons, List.not_mem_nil, or_false] at hu
  rcases hu with rfl | rfl | rfl <;> rfl
structure DE.Ok (w : World) (d : DE) : Prop where
  sl : Sl w d.bv (d.b.map u8v)
  u8 : InT 5 w d.bv
theorem DE.Ok.chg {w w' : World} {d : DE} {ks : List Nat} (h : d.Ok w) (g : Chg w w' ks) (hk : ∀ k ∈ ks, ∀ cs, ¬ Blk w k cs 5) : d.Ok w' := by
  obtain ⟨j, j1, j2⟩ := h.u8.at_ hk
  exact ⟨Sl.chg h.sl g j2 j1, h.u8.chg g hk⟩
structure DV' (w : World) (bm : Nat) (lv : Value) (ds : List DE) (s : Vst) : Prop where
  blk : Blk w bm #[.int .i64 s.room, .int .i64 s.fuse, lv] 71
  recs : RecS flC 3 w lv ds
  inT : InT 73 w lv
  eq : ds.map DE.fl = s.L
  ok : ∀ d ∈ ds, d.Ok w
def DV (w : World) (bm : Nat) (s : Vst) : Prop := ∃ lv ds, DV' w bm lv ds s
theorem recs_chg {w w' : World} {ks : List Nat} {lv : Value} {ds : List DE} (h : RecS flC 3 w lv ds) (hi : InT 73 w lv) (g : Chg w w' ks) (hF : ∀ k ∈ ks, ∀ cs, ¬ Blk w k cs 73) : RecS flC 3 w' lv ds := by
  obtain ⟨j, j1, j2⟩ := hi.at_ hF
  exact SlN.chg h g j2 j1
theorem DV'.chg {w w' : World} {bm : Nat} {lv : Value} {ds : List DE} {s : Vst} {ks : List Nat} (h : DV' w bm lv ds s) (g : Chg w w' ks) (hb : bm ∉ ks) (h8 : ∀ k ∈ ks, ∀ cs, ¬ Blk w k cs 5) (hF : ∀ k ∈ ks, ∀ cs, ¬ Blk w k cs 73) : DV' w' bm lv ds s :=
  ⟨h.blk.chg g hb, recs_chg h.recs h.inT g hF, h.inT.chg g hF, h.eq, fun d hd => (h.ok d hd).chg g h8⟩
theorem DV'.later {w w' : World} {bm : Nat} {lv : Value} {ds : List DE} {s : Vst} (h : DV' w bm lv ds s) (hl : Later w w') : DV' w' bm lv ds s := h.chg (Chg.of_later (ks := []) hl) (by simp) (by simp) (by simp)
theorem DV.later {w w' : World} {bm : Nat} {s : Vst} (h : DV w bm s) (hl : Later w w') : DV w' bm s := by
  obtain ⟨lv, ds, h⟩ := h
  exact ⟨lv, ds, h.later hl⟩
theorem blk_ty {w : World} {k : Nat} {cs : Array Value} {e e' : TypeId} (h : Blk w k cs e) (hne : e ≠ e') : ∀ cs', ¬ Blk w k cs' e' := fun cs' h' => by
  unfold Blk at h h'
  rw [h] at h'
  simp only [Option.some.injEq, Obj.cells.injEq] at h'
  exact hne h'.2.1
theorem DV'.box8 {w : World} {bm : Nat} {lv : Value} {ds : List DE} {s : Vst} (h : DV' w bm lv ds s) : ∀ k ∈ [bm], ∀ cs, ¬ Blk w k cs 5 := fun k hk => by rw [List.mem_singleton.1 hk]; exact blk_ty h.blk (by decide)
theorem DV'.boxF {w : World} {bm : Nat} {lv : Value} {ds : List DE} {s : Vst} (h : DV' w bm lv ds s) : ∀ k ∈ [bm], ∀ cs, ¬ Blk w k cs 73 := fun k hk => by rw [List.mem_singleton.1 hk]; exact blk_ty h.blk (by decide)
theorem DV'.fuse {w : World} {bm : Nat} {lv : Value} {ds : List DE} {s : Vst} (h : DV' w bm lv ds s) (n : Int) : DV' (w.setCell ⟨bm, 1, none⟩ (.int .i64 n)) bm lv ds ⟨s.room, n, s.L⟩ := by
  have c2 := chg_setCell (i := 1) w (ks := [bm]) (k := bm) (by simp) (.int .i64 n)
  exact ⟨h.blk.set 1 (.int .i64 n), recs_chg h.recs h.inT c2 h.boxF, h.inT.chg c2 h.boxF, h.eq, fun d hd => (h.ok d hd).chg c2 h.box8⟩
theorem DV'.setL {w : World} {bm : Nat} {lv lv2 : Value} {ds ds2 : List DE} {s : Vst} (h : DV' w bm lv ds s) (h2 : RecS flC 3 w lv2 ds2) (hi2 : InT 73 w lv2) (hok : ∀ d ∈ ds2, d.Ok w) : DV' (w.setCell ⟨bm, 2, none⟩ lv2) bm lv2 ds2 ⟨s.room, s.fuse, ds2.map DE.fl⟩ := by
  have c2 := chg_setCell (i := 2) w (ks := [bm]) (k := bm) (by simp) lv2
  exact ⟨h.blk.set 2 lv2, recs_chg h2 hi2 c2 h.boxF, hi2.chg c2 h.boxF, rfl, fun d hd => (hok d hd).chg c2 h.box8⟩
/-- What is done to the one vault leaves the other. -/
theorem DV.other {w w' : World} {bk r bm : Nat} {s t : Vst} (h : DV w bm t) (h' : VS w bk r s) (hc : Chg w w' [bk, r]) (hb : bm ≠ bk) : DV w' bm t := by
  obtain ⟨lv, ds, h⟩ := h
  obtain ⟨es, c, h1, h2⟩ := h'
  have hr : bm ≠ r := by
    rintro rfl
    exact h1.mapb _ _ h.blk
  refine ⟨lv, ds, h.chg hc (by simp [hb, hr]) (fun k hk => ?_) (fun k hk => ?_)⟩
  · rcases List.mem_cons.1 hk with rfl | hk
    · exact h1.box
    · rw [List.mem_singleton.1 hk]; exact h1.mapb _
  · rcases List.mem_cons.1 hk with rfl | hk
    · exact blk_ty h1.blk (by decide)
    · rw [List.mem_singleton.1 hk]; exact h1.mapb _
theorem VS.otherD {w w' : World} {bk r bm : Nat} {s t : Vst} (h : VS w bk r s) (h' : DV w bm t) (hc : Chg w w' [bm]) (hb : bk ≠ bm) : VS w' bk r s := by
  obtain ⟨lv, ds, h'⟩ := h'
  obtain ⟨es, c, h1, h2⟩ := h
  have hr : r ≠ bm := by
    rintro rfl
    exact h1.mapb _ _ h'.blk
  exact ⟨es, c, h1.chg hc (by simpa using hb) (by simpa using hr) h'.box8, h2⟩
end Go.Proofs.Ytmfcnooleejgmaa
end
section
set_option linter.unusedSimpArgs false
namespace Go.Proofs.Ytmfcnooleejgmaa
open Go.Vc Go.Vlt Go.Key
set_option maxRecDepth 100000
theorem nmB_iff (c : UInt8) : nmB c = true ↔ (97 ≤ c.toNat ∧ c.toNat ≤ 122) ∨ (48 ≤ c.toNat ∧ c.toNat ≤ 57) ∨ c.toNat = 46 := by
  unfold nmB
  simp only [Bool.or_eq_true, Bool.and_eq_true, decide_eq_true_eq, beq_iff_eq, UInt8.le_iff_toNat_le]
  have e : (c = 46) ↔ c.toNat = 46 := ⟨fun h => by rw [h]; rfl, fun h => UInt8.toNat_inj.1 h⟩
  rw [e]
  constructor
  · rintro ((h | h) | h)
    · exact .inl h
    · exact .inr (.inl h)
    · exact .inr (.inr h)
  · rintro (h | h | h)
    · exact .inl (.inl h)
    · exact .inl (.inr h)
    · exact .inr h
theorem dname_c (s : ByteArray) (w : World) (hs : s.size ≤ 9223372036854775807) : FnC Try.prog 50 #[.string s] w fun r w' => r = .bool (nmOk s) ∧ w' = w := by
  have hall : s.data.toList.all nmB = true ↔ ∀ i (h : i < s.size), nmB s[i] = true := by
    rw [List.all_eq_true]
    constructor
    · intro h i hi
      have e : s[i] = s.data.toList[i]'(by simpa using hi) := rfl
      rw [e]
      exact h _ (List.getElem_mem _)
    · intro h b hb
      obtain ⟨i, hi, rfl⟩ := List.getElem_of_mem hb
      exact h i (by simpa using hi)
  refine enter50 _ ?_
  unfold B50
  repeat' (first | (simp (disch := omega) only [push_cast, ↓reduceIte, zA, zG, zB, zH, zI, zC, zJ, zK, zL, zD, zE, zF, zM, zN, zO, zP, zQ, reduceCtorEq, not_true_eq_false, not_false_eq_true]) | (first | refine vIfE_of ?_ ?_ | refine vIfD_of ?_ ?_ | refine vIfQ_of ?_ ?_ | refine vIfV_of ?_ ?_) <;> intro _ | refine And.intro (by omega) ?_ | refine drawn_q ?_ | fail)
  refine vc_loop W50_0 (fun i : Nat => [(2, .bool false), (3, .int .i64 (i : Int))])
    (fun i w' => i ≤ s.size ∧ w' = w ∧ ∀ j (h : j < s.size), j < i → nmB s[j] = true) (fun i => s.size - i) 0 (by decide) ?_ ?_ ?_
  · simp (disch := omega) only [push_cast, ↓reduceIte, zA, zG, zB, zH, zI, zC, zJ, zK, zL, zD, zE, zF, zM, zN, zO, zP, zQ, reduceCtorEq, not_true_eq_false, not_false_eq_true]
  · exact ⟨by omega, rfl, fun j _ hj => absurd hj (Nat.not_lt_zero _)⟩
  rintro i uu w0 ⟨hi, h0, hA⟩
  obtain rfl := h0.symm
  by_cases hlt : i < s.size
  · have hd : decide ((i : Int) < (s.size : Int)) = true := decide_eq_true (by omega)
    have hg : s[i]? = some s[i] := getElem?_pos s i hlt
    by_cases hv : nmB s[i] = true
    · have hv' := (nmB_iff _).1 hv
      generalize hc : s[i].toNat = c at *
      repeat' (first | (simp (disch := omega) only [push_cast, ↓reduceIte, zA, zG, zB, zH, zI, zC, zJ, zK, zL, zD, zE, zF, zM, zN, zO, zP, zQ, reduceCtorEq, not_true_eq_false, not_false_eq_true, hd, hg, hc]) | (first | refine vIfE_of ?_ ?_ | refine vIfD_of ?_ ?_ | refine vIfQ_of ?_ ?_ | refine vIfV_of ?_ ?_) <;> intro _ | refine And.intro (by omega) ?_ | refine drawn_q ?_ | fail)
      all_goals first
        | (exfalso; omega)
        | (refine ⟨rfl, i + 1, by simp (disch := omega) only [push_cast, ↓reduceIte, zA, zG, zB, zH, zI, zC, zJ, zK, zL, zD, zE, zF, zM, zN, zO, zP, zQ, reduceCtorEq, not_true_eq_false, not_false_eq_true], ⟨by omega, rfl, fun j hj hji => ?_⟩, by dsimp only; omega⟩
           by_cases h : j < i
           · exact hA j hj h
           · have : j = i := by omega
             subst this
             exact hv)
    · have hno : nmOk s = false := by
        unfold nmOk
        cases h : s.data.toList.all nmB with
        | false => rfl
        | true => exact absurd (hall.1 h i hlt) hv
      have hv' : ¬ ((97 ≤ s[i].toNat ∧ s[i].toNat ≤ 122) ∨ (48 ≤ s[i].toNat ∧ s[i].toNat ≤ 57) ∨ s[i].toNat = 46) := fun h => hv ((nmB_iff _).2 h)
      generalize hc : s[i].toNat = c at *
      repeat' (first | (simp (disch := omega) only [push_cast, ↓reduceIte, zA, zG, zB, zH, zI, zC, zJ, zK, zL, zD, zE, zF, zM, zN, zO, zP, zQ, reduceCtorEq, not_true_eq_false, not_false_eq_true, hd, hg, hc]) | (first | refine vIfE_of ?_ ?_ | refine vIfD_of ?_ ?_ | refine vIfQ_of ?_ ?_ | refine vIfV_of ?_ ?_) <;> intro _ | refine And.intro (by omega) ?_ | refine drawn_q ?_ | fail)
      all_goals first
        | (exfalso; omega)
        | exact ⟨by rw [hno], rfl⟩
        | (rw [hno])
  · have hd : decide ((i : Int) < (s.size : Int)) = false := decide_eq_false (by omega)
    have hy : nmOk s = decide (1 ≤ s.size ∧ s.size ≤ 12) := by
      unfold nmOk
      rw [hall.2 fun j hj => hA j hj (by omega), Bool.true_and]
    rw [hy]
    by_cases h1 : 1 ≤ s.size
    · have hd1 : decide ((1 : Int) ≤ (s.size : Int)) = true := decide_eq_true (by omega)
      have hd2 : decide ((s.size : Int) ≤ 12) = decide (1 ≤ s.size ∧ s.size ≤ 12) := decide_eq_decide.2 (by omega)
      repeat' (first | (simp (disch := omega) only [push_cast, ↓reduceIte, zA, zG, zB, zH, zI, zC, zJ, zK, zL, zD, zE, zF, zM, zN, zO, zP, zQ, reduceCtorEq, not_true_eq_false, not_false_eq_true, hd, hd1, hd2]) | (first | refine vIfE_of ?_ ?_ | refine vIfD_of ?_ ?_ | refine vIfQ_of ?_ ?_ | refine vIfV_of ?_ ?_) <;> intro _ | refine And.intro (by omega) ?_ | refine drawn_q ?_ | fail)
    · have hd1 : decide ((1 : Int) ≤ (s.size : Int)) = false := decide_eq_false (by omega)
      have hd2 : decide (1 ≤ s.size ∧ s.size ≤ 12) = false := decide_eq_false (by omega)
      repeat' (first | (simp (disch := omega) only [push_cast, ↓reduceIte, zA, zG, zB, zH, zI, zC, zJ, zK, zL, zD, zE, zF, zM, zN, zO, zP, zQ, reduceCtorEq, not_true_eq_false, not_false_eq_true, hd, hd1, hd2]) | (first | refine vIfE_of ?_ ?_ | refine vIfD_of ?_ ?_ | refine vIfQ_of ?_ ?_ | refine vIfV_of ?_ ?_) <;> intro _ | refine And.intro (by omega) ?_ | refine drawn_q ?_ | fail)
theorem DV'.L {w : World} {bm : Nat} {lv : Value} {ds : List DE} {s : Vst} (h : DV' w bm lv ds s) : ∃ o c, lv = .slice o ds.length c ∧ ds.length ≤ c ∧ c ≤ 9223372036854775807 ∧ ds.length = s.L.length := by
  obtain ⟨o, c, h1, h2, h3⟩ := RecS.slice h.recs
  exact ⟨o, c, h1, h2, h3, by rw [← h.eq, List.length_map]⟩
def FindR (v : Value) (k : ByteArray) (L : List Fl) : Prop := ∃ i, FI k L i ∧ v = .tuple #[.int .i64 (i : Int), .bool (lk k L).isSome] ∧ ((lk k L).isSome = true ↔ ∃ h : i < L.length, (L[i]).name = k)
theorem find_d (bm : Nat) (s : Vst) (k : ByteArray) (w : World) (h : DV w bm s) (g : Good s) : FnC Try.prog 44 #[.pointer (some ⟨bm, 0, none⟩), .string k] w fun v w' => FindR v k s.L ∧ Later w w' := by
  obtain ⟨lv, ds, h⟩ := h
  obtain ⟨o, c, rfl, hc1, hc2, hlen⟩ := h.L
  have hget : ∀ i (hi : i < ds.length) (hi' : i < s.L.length), (s.L[i]).name = (ds[i]).name := fun i hi hi' => by
    have : s.L[i] = (ds[i]).fl := by simp only [← h.eq, List.getElem_map]
    rw [this]; rfl
  have hsl := g.len
  have f2 : ∀ w', Later w w' → w'.cell? ⟨bm, 2, none⟩ = some (.slice o ds.length c) := fun w' hl => (h.later hl).blk.cell 2
  refine enter44 _ _ ?_
  unfold B44
  repeat' (first | (simp (disch := omega) only [push_cast, ↓reduceIte, zA, zG, zB, zH, zI, zC, zJ, zK, zL, zD, zE, zF, zM, zN, zO, zP, zQ, reduceCtorEq, not_true_eq_false, not_false_eq_true]) | (first | refine vIfE_of ?_ ?_ | refine vIfD_of ?_ ?_ | refine vIfQ_of ?_ ?_ | refine vIfV_of ?_ ?_) <;> intro _ | refine And.intro (by omega) ?_ | refine drawn_q ?_ | fail)
  refine vc_loop W44_0 (fun i : Nat => [(6, .int .i64 (i : Int))]) (fun i w' => i ≤ ds.length ∧ w' = w ∧ ∀ j (hj : j < s.L.length), j < i → blt (s.L[j]).name k = true) (fun i => ds.length - i) 0 (by decide) ?_ ?_ ?_
  · simp (disch := omega) only [push_cast, ↓reduceIte, zA, zG, zB, zH, zI, zC, zJ, zK, zL, zD, zE, zF, zM, zN, zO, zP, zQ, reduceCtorEq, not_true_eq_false, not_false_eq_true]
  · exact ⟨by omega, rfl, fun j _ hj => absurd hj (Nat.not_lt_zero _)⟩
  rintro i uu w1 ⟨hi, hw, hA⟩
  obtain rfl := hw.symm
  have f20 := f2 w (Later.refl _)
  by_cases hlt : i < ds.length
  · have hd : decide ((i : Int) < (ds.length : Int)) = true := decide_eq_true (by omega)
    obtain ⟨a, rfl, _⟩ := RecS.at flC_len h.recs hlt
    have hn : ∀ w', Later w w' → w'.cell? ((a.add (i * 3)).add 0) = some (.string (ds[i]).name) := fun w' hl => RecS.cell flC_len (h.later hl).recs hlt rfl
    have hn0 := hn w (Later.refl _)
    rw [addr_add_zero] at hn0
    have hgi := hget i hlt (by omega)
    cases hb : blt (ds[i]).name k with
    | true =>
      have hb' : Op.bytesLess (ds[i]).name.data.toList k.data.toList = true := hb
      repeat' (first | (simp (disch := omega) only [push_cast, ↓reduceIte, zA, zG, zB, zH, zI, zC, zJ, zK, zL, zD, zE, zF, zM, zN, zO, zP, zQ, reduceCtorEq, not_true_eq_false, not_false_eq_true, f20, hd, hn0, hb', addr_add_eq, addr_add_zero, Nat.zero_add]) | (first | refine vIfE_of ?_ ?_ | refine vIfD_of ?_ ?_ | refine vIfQ_of ?_ ?_ | refine vIfV_of ?_ ?_) <;> intro _ | refine And.intro (by omega) ?_ | refine drawn_q ?_ | fail)
      refine ⟨rfl, i + 1, by simp (disch := omega) only [push_cast, ↓reduceIte, zA, zG, zB, zH, zI, zC, zJ, zK, zL, zD, zE, zF, zM, zN, zO, zP, zQ, reduceCtorEq, not_true_eq_false, not_false_eq_true], ⟨by omega, rfl, fun j hj hji => ?_⟩, by dsimp only; omega⟩
      by_cases hjl : j < i
      · exact hA j hj hjl
      · have : j = i := by omega
        subst this
        rw [hgi]; exact hb
    | false =>
      have hb' : Op.bytesLess (ds[i]).name.data.toList k.data.toList = false := hb
      have hF : FI k s.L i := ⟨by omega, hA, fun _ => by rw [hgi]; exact hb⟩
      obtain ⟨k1, k2⟩ := FI.lk g.srd hF
      have hil : i < s.L.length := by omega
      by_cases he : (ds[i]).name = k
      · have hs : (lk k s.L).isSome = true := by rw [k1 hil (hgi.trans he)]; rfl
        have hde := decide_eq_true he
        repeat' (first | (simp (disch := omega) only [push_cast, ↓reduceIte, zA, zG, zB, zH, zI, zC, zJ, zK, zL, zD, zE, zF, zM, zN, zO, zP, zQ, reduceCtorEq, not_true_eq_false, not_false_eq_true, f20, hd, hn0, hb', hde, addr_add_eq, addr_add_zero, Nat.zero_add]) | (first | refine vIfE_of ?_ ?_ | refine vIfD_of ?_ ?_ | refine vIfQ_of ?_ ?_ | refine vIfV_of ?_ ?_) <;> intro _ | refine And.intro (by omega) ?_ | refine drawn_q ?_ | fail)
        intro w2 l2
        repeat' (first | (simp (disch := omega) only [push_cast, ↓reduceIte, zA, zG, zB, zH, zI, zC, zJ, zK, zL, zD, zE, zF, zM, zN, zO, zP, zQ, reduceCtorEq, not_true_eq_false, not_false_eq_true]) | (first | refine vIfE_of ?_ ?_ | refine vIfD_of ?_ ?_ | refine vIfQ_of ?_ ?_ | refine vIfV_of ?_ ?_) <;> intro _ | refine And.intro (by omega) ?_ | refine drawn_q ?_ | fail)
        exact ⟨⟨i, hF, by rw [hs], ⟨fun _ => ⟨hil, hgi.trans he⟩, fun _ => hs⟩⟩, l2⟩
      · have hs : (lk k s.L).isSome = false := by rw [k2 fun _ => by rw [hgi]; exact he]; rfl
        have hde := decide_eq_false he
        repeat' (first | (simp (disch := omega) only [push_cast, ↓reduceIte, zA, zG, zB, zH, zI, zC, zJ, zK, zL, zD, zE, zF, zM, zN, zO, zP, zQ, reduceCtorEq, not_true_eq_false, not_false_eq_true, f20, hd, hn0, hb', hde, addr_add_eq, addr_add_zero, Nat.zero_add]) | (first | refine vIfE_of ?_ ?_ | refine vIfD_of ?_ ?_ | refine vIfQ_of ?_ ?_ | refine vIfV_of ?_ ?_) <;> intro _ | refine And.intro (by omega) ?_ | refine drawn_q ?_ | fail)
        intro w2 l2
        repeat' (first | (simp (disch := omega) only [push_cast, ↓reduceIte, zA, zG, zB, zH, zI, zC, zJ, zK, zL, zD, zE, zF, zM, zN, zO, zP, zQ, reduceCtorEq, not_true_eq_false, not_false_eq_true]) | (first | refine vIfE_of ?_ ?_ | refine vIfD_of ?_ ?_ | refine vIfQ_of ?_ ?_ | refine vIfV_of ?_ ?_) <;> intro _ | refine And.intro (by omega) ?_ | refine drawn_q ?_ | fail)
        exact ⟨⟨i, hF, by rw [hs], ⟨fun h' => (by rw [hs] at h'; cases h'), fun ⟨_, h'⟩ => absurd (hgi.symm.trans h') he⟩⟩, l2⟩
  · have hd : decide ((i : Int) < (ds.length : Int)) = false := decide_eq_false (by omega)
    have hF : FI k s.L i := ⟨by omega, hA, fun h' => by omega⟩
    obtain ⟨k1, k2⟩ := FI.lk g.srd hF
    have hs : (lk k s.L).isSome = false := by rw [k2 fun h' => by omega]; rfl
    repeat' (first | (simp (disch := omega) only [push_cast, ↓reduceIte, zA, zG, zB, zH, zI, zC, zJ, zK, zL, zD, zE, zF, zM, zN, zO, zP, zQ, reduceCtorEq, not_true_eq_false, not_false_eq_true, f20, hd, addr_add_eq, Nat.zero_add]) | (first | refine vIfE_of ?_ ?_ | refine vIfD_of ?_ ?_ | refine vIfQ_of ?_ ?_ | refine vIfV_of ?_ ?_) <;> intro _ | refine And.intro (by omega) ?_ | refine drawn_q ?_ | fail)
    intro w2 l2
    repeat' (first | (simp (disch := omega) only [push_cast, ↓reduceIte, zA, zG, zB, zH, zI, zC, zJ, zK, zL, zD, zE, zF, zM, zN, zO, zP, zQ, reduceCtorEq, not_true_eq_false, not_false_eq_true]) | (first | refine vIfE_of ?_ ?_ | refine vIfD_of ?_ ?_ | refine vIfQ_of ?_ ?_ | refine vIfV_of ?_ ?_) <;> intro _ | refine And.intro (by omega) ?_ | refine drawn_q ?_ | fail)
    exact ⟨⟨i, hF, by rw [hs], ⟨fun h' => (by rw [hs] at h'; cases h'), fun ⟨h', _⟩ => by omega⟩⟩, l2⟩
theorem burnt_d (bm : Nat) (s : Vst) (w : World) (h : DV w bm s) (g : Good s) : FnC Try.prog 51 #[.pointer (some ⟨bm, 0, none⟩)] w fun v w' => v = .bool (decide (brn s.fuse = 0)) ∧ DV w' bm s.burn ∧ Chg w w' [bm] := by
  obtain ⟨lv, ds, h⟩ := h
  have hf := g.fuse
  refine enter51 _ ?_
  unfold B51
  have f1 : w.cell? ⟨bm, 1, none⟩ = some (.int .i64 s.fuse) := h.blk.cell 1
  unfold brn Vst.burn brn
  by_cases h0 : 0 < s.fuse
  · rw [if_pos h0]
    have hd := decide_eq_true h0
    have hce : ∃ y, w.cell? ⟨bm, 1, none⟩ = some y := ⟨_, f1⟩
    have hfz := h.blk.frozen 1
    have c2 := chg_setCell (i := 1) w (ks := [bm]) (k := bm) (by simp) (.int .i64 (s.fuse - 1))
    have h2 := h.fuse (s.fuse - 1)
    have f2 : (w.setCell ⟨bm, 1, none⟩ (.int .i64 (s.fuse - 1))).cell? ⟨bm, 1, none⟩ = some (.int .i64 (s.fuse - 1)) := h2.blk.cell 1
    repeat' (first | (simp (disch := omega) only [push_cast, ↓reduceIte, zA, zG, zB, zH, zI, zC, zJ, zK, zL, zD, zE, zF, zM, zN, zO, zP, zQ, reduceCtorEq, not_true_eq_false, not_false_eq_true, f1, hd, hce, hfz, addr_add_eq, Nat.zero_add]) | (first | refine vIfE_of ?_ ?_ | refine vIfD_of ?_ ?_ | refine vIfQ_of ?_ ?_ | refine vIfV_of ?_ ?_) <;> intro _ | refine And.intro (by omega) ?_ | refine drawn_q ?_ | fail)
    generalize w.setCell ⟨bm, 1, none⟩ (.int .i64 (s.fuse - 1)) = w2 at *
    repeat' (first | (simp (disch := omega) only [push_cast, ↓reduceIte, zA, zG, zB, zH, zI, zC, zJ, zK, zL, zD, zE, zF, zM, zN, zO, zP, zQ, reduceCtorEq, not_true_eq_false, not_false_eq_true, f2, addr_add_eq, Nat.zero_add]) | (first | refine vIfE_of ?_ ?_ | refine vIfD_of ?_ ?_ | refine vIfQ_of ?_ ?_ | refine vIfV_of ?_ ?_) <;> intro _ | refine And.intro (by omega) ?_ | refine drawn_q ?_ | fail)
    first | exact ⟨rfl, ⟨lv, ds, h2⟩, c2⟩ | exact ⟨⟨lv, ds, h2⟩, c2⟩ | exact c2
  · rw [if_neg h0]
    have hd := decide_eq_false h0
    repeat' (first | (simp (disch := omega) only [push_cast, ↓reduceIte, zA, zG, zB, zH, zI, zC, zJ, zK, zL, zD, zE, zF, zM, zN, zO, zP, zQ, reduceCtorEq, not_true_eq_false, not_false_eq_true, f1, hd, addr_add_eq, Nat.zero_add]) | (first | refine vIfE_of ?_ ?_ | refine vIfD_of ?_ ?_ | refine vIfQ_of ?_ ?_ | refine vIfV_of ?_ ?_) <;> intro _ | refine And.intro (by omega) ?_ | refine drawn_q ?_ | fail)
    first | exact ⟨rfl, ⟨lv, ds, h⟩, Chg.refl _ _⟩ | exact ⟨⟨lv, ds, h⟩, Chg.refl _ _⟩ | exact Chg.refl _ _
theorem free_d (bm : Nat) (s : Vst) (w : World) (h : DV w bm s) (g : Good s) : FnC Try.prog 43 #[.pointer (some ⟨bm, 0, none⟩)] w fun v w' => v = .int .i64 (s.room - tl s.L) ∧ w' = w := by
  obtain ⟨lv, ds, h⟩ := h
  obtain ⟨o, c, rfl, hc1, hc2, hlen⟩ := h.L
  have f0 : w.cell? ⟨bm, 0, none⟩ = some (.int .i64 s.room) := h.blk.cell 0
  have f2 : w.cell? ⟨bm, 2, none⟩ = some (.slice o ds.length c) := h.blk.cell 2
  have hsl := g.len
  have ht := g.tot
  have hr := g.room
  refine enter43 _ ?_
  unfold B43
  repeat' (first | (simp (disch := omega) only [push_cast, ↓reduceIte, zA, zG, zB, zH, zI, zC, zJ, zK, zL, zD, zE, zF, zM, zN, zO, zP, zQ, reduceCtorEq, not_true_eq_false, not_false_eq_true, f0, addr_add_eq, Nat.zero_add]) | (first | refine vIfE_of ?_ ?_ | refine vIfD_of ?_ ?_ | refine vIfQ_of ?_ ?_ | refine vIfV_of ?_ ?_) <;> intro _ | refine And.intro (by omega) ?_ | refine drawn_q ?_ | fail)
  refine vc_loop W43_0 (fun i : Nat => [(3, .int .i64 (s.room - tl (s.L.take i))), (4, .int .i64 (i : Int))]) (fun i w' => i ≤ ds.length ∧ w' = w) (fun i => ds.length - i) 0 (by decide) ?_ ?_ ?_
  · have e0 : s.room - tl [] = s.room := by show s.room - 0 = s.room; omega
    simp (disch := omega) only [push_cast, ↓reduceIte, zA, zG, zB, zH, zI, zC, zJ, zK, zL, zD, zE, zF, zM, zN, zO, zP, zQ, reduceCtorEq, not_true_eq_false, not_false_eq_true, e0]
  · exact ⟨by omega, rfl⟩
  rintro i uu w1 ⟨hi, hw⟩
  obtain rfl := hw.symm
  have hti := tl_take_le (L := s.L) i
  have htn := tl_nn (s.L.take i)
  by_cases hlt : i < ds.length
  · have hd : decide ((i : Int) < (ds.length : Int)) = true := decide_eq_true (by omega)
    obtain ⟨a, rfl, _⟩ := RecS.at flC_len h.recs hlt
    have hn : w.cell? ((a.add (i * 3)).add 1) = some (.slice (ds[i]).bo (ds[i]).b.length (ds[i]).bc) := RecS.cell flC_len h.recs hlt rfl
    have hil : i < s.L.length := by omega
    have htk := tl_take hil
    have hti2 := tl_take_le (L := s.L) (i + 1)
    have hb : (s.L[i]).b = (ds[i]).b := by
      have : s.L[i] = (ds[i]).fl := by simp only [← h.eq, List.getElem_map]
      rw [this]; rfl
    rw [hb] at htk
    have e2 : s.room - tl (s.L.take (i + 1)) = s.room - tl (s.L.take i) - ((ds[i]).b.length : Int) := by omega
    repeat' (first | (simp (disch := omega) only [push_cast, ↓reduceIte, zA, zG, zB, zH, zI, zC, zJ, zK, zL, zD, zE, zF, zM, zN, zO, zP, zQ, reduceCtorEq, not_true_eq_false, not_false_eq_true, f2, hd, hn, addr_add_eq, Nat.zero_add]) | (first | refine vIfE_of ?_ ?_ | refine vIfD_of ?_ ?_ | refine vIfQ_of ?_ ?_ | refine vIfV_of ?_ ?_) <;> intro _ | refine And.intro (by omega) ?_ | refine drawn_q ?_ | fail)
    exact ⟨rfl, i + 1, by simp (disch := omega) only [push_cast, ↓reduceIte, zA, zG, zB, zH, zI, zC, zJ, zK, zL, zD, zE, zF, zM, zN, zO, zP, zQ, reduceCtorEq, not_true_eq_false, not_false_eq_true, e2], ⟨by omega, rfl⟩, by dsimp only; omega⟩
  · have hd : decide ((i : Int) < (ds.length : Int)) = false := decide_eq_false (by omega)
    have hii : i = s.L.length := by omega
    subst hii
    rw [List.take_length]
    repeat' (first | (simp (disch := omega) only [push_cast, ↓reduceIte, zA, zG, zB, zH, zI, zC, zJ, zK, zL, zD, zE, zF, zM, zN, zO, zP, zQ, reduceCtorEq, not_true_eq_false, not_false_eq_true, f2, hd, addr_add_eq, Nat.zero_add]) | (first | refine vIfE_of ?_ ?_ | refine vIfD_of ?_ ?_ | refine vIfQ_of ?_ ?_ | refine vIfV_of ?_ ?_) <;> intro _ | refine And.intro (by omega) ?_ | refine drawn_q ?_ | fail)
    first | exact ⟨rfl, rfl⟩ | skip
end Go.Proofs.Ytmfcnooleejgmaa
end
section
set_option linter.unusedSimpArgs false
namespace Go.Proofs.Ytmfcnooleejgmaa
open Go.Vc Go.Vlt Go.Key
set_option maxRecDepth 100000
theorem InT.chg_at {E : TypeId} {w w' : World} {v : Value} {ks : List Nat} {j : Nat} (h : InT E w v) (g : Chg w w' ks) (hj : inB j v) (hjk : j ∉ ks) : InT E w' v := by
  unfold InT at h ⊢
  split
  · rename_i a m c
    simp only at h
    rcases h with rfl | ⟨cs, hb⟩
    · exact .inl rfl
    · rcases hj with rfl | hj
      · exact .inl rfl
      · exact .inr ⟨cs, hb.chg g (by rw [hj]; exact hjk)⟩
  · trivial
theorem drop_d (bm i : Nat) (s : Vst) (w : World) (h : DV w bm s) (g : Good s) (hi : i < s.L.length) : FnC Try.prog 53 #[.pointer (some ⟨bm, 0, none⟩), .int .i64 (i : Int)] w fun _ w' => (∃ lv ds, DV' w' bm lv ds ⟨s.room, s.fuse, s.L.take i ++ s.L.drop (i + 1)⟩ ∧ ∃ j, inB j lv ∧ w.heap.size ≤ j) ∧ Chg w w' [bm] := by
  obtain ⟨lv, ds, h⟩ := h
  obtain ⟨o, c, rfl, hc1, hc2, hlen⟩ := h.L
  have hsl := g.len
  have f2 : ∀ w', Later w w' → w'.cell? ⟨bm, 2, none⟩ = some (.slice o ds.length c) := fun w' hl => (h.later hl).blk.cell 2
  refine enter53 _ _ ?_
  unfold B53
  repeat' (first | (simp (disch := omega) only [push_cast, ↓reduceIte, zA, zG, zB, zH, zI, zC, zJ, zK, zL, zD, zE, zF, zM, zN, zO, zP, zQ, reduceCtorEq, not_true_eq_false, not_false_eq_true]) | (first | refine vIfE_of ?_ ?_ | refine vIfD_of ?_ ?_ | refine vIfQ_of ?_ ?_ | refine vIfV_of ?_ ?_) <;> intro _ | refine And.intro (by omega) ?_ | refine drawn_q ?_ | fail)
  have l1 := later_alloc w (.cells #[] 73)
  have O1 : OwnR flC 3 (w.alloc (.cells #[] 73)) w.heap.size 73 (.slice (some ⟨w.heap.size, 0, none⟩) 0 0) [] := OwnR.lit0 w _ (Nat.le_refl _)
  generalize w.alloc (.cells #[] 73) = w1 at *
  have f21 := f2 w1 l1
  repeat' (first | (simp (disch := omega) only [push_cast, ↓reduceIte, zA, zG, zB, zH, zI, zC, zJ, zK, zL, zD, zE, zF, zM, zN, zO, zP, zQ, reduceCtorEq, not_true_eq_false, not_false_eq_true, f21, addr_add_eq, Nat.zero_add]) | (first | refine vIfE_of ?_ ?_ | refine vIfD_of ?_ ?_ | refine vIfQ_of ?_ ?_ | refine vIfV_of ?_ ?_) <;> intro _ | refine And.intro (by omega) ?_ | refine drawn_q ?_ | fail)
  have R1 := RecS.pre flC_len (h.later l1).recs (j := i) (by omega)
  rw [slAddr_zero] at R1
  refine vAppend_rs flC_len flC_one Try.underlying69 ti73 rfl (by decide) O1 R1 (by simp only [List.length_nil, List.length_take]; omega) (by decide) l1.size ?_
  intro v2 w2 O2 g2 _
  have l2 : Later w w2 := l1.appended O1 (Nat.le_refl _) g2
  rw [List.nil_append] at O2
  obtain ⟨o2, c2, rfl, _, _⟩ := RecS.slice O2.s
  have f22 := f2 w2 l2
  repeat' (first | (simp (disch := omega) only [push_cast, ↓reduceIte, zA, zG, zB, zH, zI, zC, zJ, zK, zL, zD, zE, zF, zM, zN, zO, zP, zQ, reduceCtorEq, not_true_eq_false, not_false_eq_true, f22, addr_add_eq, Nat.zero_add]) | (first | refine vIfE_of ?_ ?_ | refine vIfD_of ?_ ?_ | refine vIfQ_of ?_ ?_ | refine vIfV_of ?_ ?_) <;> intro _ | refine And.intro (by omega) ?_ | refine drawn_q ?_ | fail)
  have R2 := RecS.from flC_len (h.later l2).recs (j := i + 1) (by omega)
  have e1 : (ds.length : Int) - ((i : Int) + 1) = ((ds.length - (i + 1) : Nat) : Int) := by omega
  have e2 : ((i : Int) + 1) = ((i + 1 : Nat) : Int) := by omega
  rw [e2]
  have e3 : ((ds.length : Int) - ((i + 1 : Nat) : Int)).toNat = ds.length - (i + 1) := by omega
  rw [e3]
  refine vAppend_rs flC_len flC_one Try.underlying69 ti73 rfl (by decide) O2 R2 (by simp only [List.length_drop, List.length_take]; omega) (by decide) l2.size ?_
  intro v3 w3 O3 g3 _
  have l3 : Later w w3 := l2.appended O2 (Nat.le_refl _) g3
  obtain ⟨o3, c3, rfl, _, _⟩ := RecS.slice O3.s
  have h3 := h.later l3
  have hfz := h3.blk.frozen 2
  have hce : ∃ y, w3.cell? ⟨bm, 2, none⟩ = some y := ⟨_, h3.blk.cell 2⟩
  have c4 := chg_setCell (i := 2) w3 (ks := [bm]) (k := bm) (by simp) (.slice o3 (ds.take i ++ ds.drop (i + 1)).length c3)
  have h4 := h3.setL O3.s (InT.of_own O3) (fun d hd => by
    rcases List.mem_append.1 hd with hd | hd
    · exact h3.ok d (List.mem_of_mem_take hd)
    · exact h3.ok d (List.mem_of_mem_drop hd))
  have e4 : (ds.take i ++ ds.drop (i + 1)).map DE.fl = s.L.take i ++ s.L.drop (i + 1) := by rw [List.map_append, List.map_take, List.map_drop, h.eq]
  rw [e4] at h4
  repeat' (first | (simp (disch := omega) only [push_cast, ↓reduceIte, zA, zG, zB, zH, zI, zC, zJ, zK, zL, zD, zE, zF, zM, zN, zO, zP, zQ, reduceCtorEq, not_true_eq_false, not_false_eq_true, hce, hfz, addr_add_eq, Nat.zero_add]) | (first | refine vIfE_of ?_ ?_ | refine vIfD_of ?_ ?_ | refine vIfQ_of ?_ ?_ | refine vIfV_of ?_ ?_) <;> intro _ | refine And.intro (by omega) ?_ | refine drawn_q ?_ | fail)
  obtain ⟨j, _, j2, j3⟩ := own_in O3
  exact ⟨⟨_, _, h4, j, j3, j2⟩, (Chg.of_later l3).trans c4⟩
theorem set_d (bm : Nat) (d : DE) (s : Vst) (w : World) (h : DV w bm s) (g : Good s) (hd : d.Ok w) : FnC Try.prog 52 #[.pointer (some ⟨bm, 0, none⟩), .agg (flC d).toArray] w fun _ w' => DV w' bm ⟨s.room, s.fuse, lPut d.fl s.L⟩ ∧ Chg w w' [bm] := by
  refine enter52 _ _ ?_
  unfold B52
  have eca : (Value.agg (flC d).toArray).cells = (flC d).toArray := rfl
  repeat' (first | (simp (disch := omega) only [push_cast, ↓reduceIte, zA, zG, zB, zH, zI, zC, zJ, zK, zL, zD, zE, zF, zM, zN, zO, zP, zQ, reduceCtorEq, not_true_eq_false, not_false_eq_true, eca]) | (first | refine vIfE_of ?_ ?_ | refine vIfD_of ?_ ?_ | refine vIfQ_of ?_ ?_ | refine vIfV_of ?_ ?_) <;> intro _ | refine And.intro (by omega) ?_ | refine drawn_q ?_ | fail)
  have l0 := later_alloc w (.cells (flC d).toArray 73)
  have Bd := Blk.new w (flC d).toArray 73
  have h0 := DV.later h l0
  generalize w.alloc (.cells (flC d).toArray 73) = w0 at *
  generalize hkd : w.heap.size = kd at *
  have fn : w0.cell? ⟨kd, 0, none⟩ = some (.string d.name) := Bd.cell 0
  repeat' (first | (simp (disch := omega) only [push_cast, ↓reduceIte, zA, zG, zB, zH, zI, zC, zJ, zK, zL, zD, zE, zF, zM, zN, zO, zP, zQ, reduceCtorEq, not_true_eq_false, not_false_eq_true, fn, addr_add_eq, Nat.zero_add]) | (first | refine vIfE_of ?_ ?_ | refine vIfD_of ?_ ?_ | refine vIfQ_of ?_ ?_ | refine vIfV_of ?_ ?_) <;> intro _ | refine And.intro (by omega) ?_ | refine drawn_q ?_ | fail)
  refine (find_d bm s d.name w0 h0 g).mono ?_
  rintro _ w1 ⟨⟨i, hF, rfl, hiff⟩, l1⟩
  obtain ⟨lv, ds, h1⟩ := DV.later h0 l1
  have l01 := l0.trans l1
  have Bd1 := Bd.chg (Chg.of_later (ks := []) l1) (by simp)
  obtain ⟨o, c, rfl, hc1, hc2, hlen⟩ := h1.L
  have hsl := g.len
  have hile := hF.le
  have f2 : ∀ w', Later w1 w' → w'.cell? ⟨bm, 2, none⟩ = some (.slice o ds.length c) := fun w' hl => (h1.later hl).blk.cell 2
  repeat' (first | (simp (disch := omega) only [push_cast, ↓reduceIte, zA, zG, zB, zH, zI, zC, zJ, zK, zL, zD, zE, zF, zM, zN, zO, zP, zQ, reduceCtorEq, not_true_eq_false, not_false_eq_true]) | (first | refine vIfE_of ?_ ?_ | refine vIfD_of ?_ ?_ | refine vIfQ_of ?_ ?_ | refine vIfV_of ?_ ?_) <;> intro _ | refine And.intro (by omega) ?_ | refine drawn_q ?_ | fail)
  have l2 := later_alloc w1 (.cells #[] 73)
  have O2 : OwnR flC 3 (w1.alloc (.cells #[] 73)) w1.heap.size 73 (.slice (some ⟨w1.heap.size, 0, none⟩) 0 0) [] := OwnR.lit0 w1 _ (Nat.le_refl _)
  generalize w1.alloc (.cells #[] 73) = w2 at *
  have f22 := f2 w2 l2
  repeat' (first | (simp (disch := omega) only [push_cast, ↓reduceIte, zA, zG, zB, zH, zI, zC, zJ, zK, zL, zD, zE, zF, zM, zN, zO, zP, zQ, reduceCtorEq, not_true_eq_false, not_false_eq_true, f22, addr_add_eq, Nat.zero_add]) | (first | refine vIfE_of ?_ ?_ | refine vIfD_of ?_ ?_ | refine vIfQ_of ?_ ?_ | refine vIfV_of ?_ ?_) <;> intro _ | refine And.intro (by omega) ?_ | refine drawn_q ?_ | fail)
  have R2 := RecS.pre flC_len (h1.later l2).recs (j := i) (by omega)
  rw [slAddr_zero] at R2
  refine vAppend_rs flC_len flC_one Try.underlying69 ti73 rfl (by decide) O2 R2 (by simp only [List.length_nil, List.length_take]; omega) (by decide) l2.size ?_
  intro v3 w3 O3 g3 _
  have l3 : Later w1 w3 := l2.appended O2 (Nat.le_refl _) g3
  rw [List.nil_append] at O3
  obtain ⟨o3, c3, rfl, _, _⟩ := RecS.slice O3.s
  have Bd3 := Bd1.chg (Chg.of_later (ks := []) l3) (by simp)
  have fd3 : Go.Vc.cellsAt w3 ⟨kd, 0, none⟩ 3 = some (flC d) := Blk.cellsAt (l := flC d) Bd3
  unfold flC at fd3
  repeat' (first | (simp (disch := omega) only [push_cast, ↓reduceIte, zA, zG, zB, zH, zI, zC, zJ, zK, zL, zD, zE, zF, zM, zN, zO, zP, zQ, reduceCtorEq, not_true_eq_false, not_false_eq_true, fd3, addr_add_eq, Nat.zero_add]) | (first | refine vIfE_of ?_ ?_ | refine vIfD_of ?_ ?_ | refine vIfQ_of ?_ ?_ | refine vIfV_of ?_ ?_) <;> intro _ | refine And.intro (by omega) ?_ | refine drawn_q ?_ | fail)
  have l34 := later_alloc w3 (.cells (flC d).toArray 73)
  have R4 : RecS flC 3 (w3.alloc (.cells (flC d).toArray 73)) (.slice (some ⟨w3.heap.size, 0, none⟩) 1 1) [d] := RecS.lit1 (flC_len d) (Blk.new w3 _ _)
  have O4 := O3.later l34
  have l4 := l3.trans l34
  have hap := fun (K : Value → World → Prop) hK => vAppend_rs (K := K) (ty := 69) flC_len flC_one Try.underlying69 ti73 rfl (by decide) O4 R4 (by simp only [List.length_take, List.length_cons, List.length_nil]; omega) (by decide) l4.size hK
  unfold flC at hap
  refine hap _ ?_
  intro v5 w5 O5 g5 _
  have l5 : Later w1 w5 := l4.appended O4 (Nat.le_refl _) g5
  obtain ⟨o5, c5, rfl, _, _⟩ := RecS.slice O5.s
  obtain ⟨j, hj, hjd⟩ : ∃ j : Nat, j = (if (lk d.name s.L).isSome = true then i + 1 else i) ∧ j ≤ ds.length := by
    refine ⟨_, rfl, ?_⟩
    split
    · rename_i hs
      obtain ⟨hlt, _⟩ := hiff.1 hs
      omega
    · omega
  have hput : lPut d.fl s.L = s.L.take i ++ d.fl :: s.L.drop j := by
    rw [FI.put d.fl (L := s.L) (i := i) hF, hj]
    congr 2
    by_cases hs : (lk d.name s.L).isSome = true
    · rw [if_pos hs, if_pos (show ∃ h : i < s.L.length, (s.L[i]).name = d.fl.name from hiff.1 hs)]
    · rw [if_neg hs, if_neg (show ¬ ∃ h : i < s.L.length, (s.L[i]).name = d.fl.name from fun h' => hs (hiff.2 h'))]
  have f25 := f2 w5 l5
  have fin : ∀ (σ : Env), True := fun _ => trivial
  have R5 := RecS.from flC_len (h1.later l5).recs (j := j) hjd
  have e3 : ((ds.length : Int) - ((j : Nat) : Int)).toNat = ds.length - j := by omega
  cases hs : (lk d.name s.L).isSome
  case' true =>
    rw [hs, if_pos rfl] at hj
    have e2 : ((i : Int) + 1) = (j : Int) := by omega
    repeat' (first | (simp (disch := omega) only [push_cast, ↓reduceIte, zA, zG, zB, zH, zI, zC, zJ, zK, zL, zD, zE, zF, zM, zN, zO, zP, zQ, reduceCtorEq, not_true_eq_false, not_false_eq_true, f25, hs, e2, addr_add_eq, Nat.zero_add]) | (first | refine vIfE_of ?_ ?_ | refine vIfD_of ?_ ?_ | refine vIfQ_of ?_ ?_ | refine vIfV_of ?_ ?_) <;> intro _ | refine And.intro (by omega) ?_ | refine drawn_q ?_ | fail)
  case' false =>
    rw [hs, if_neg (by simp)] at hj
    have e2 : (i : Int) = (j : Int) := by omega
    repeat' (first | (simp (disch := omega) only [push_cast, ↓reduceIte, zA, zG, zB, zH, zI, zC, zJ, zK, zL, zD, zE, zF, zM, zN, zO, zP, zQ, reduceCtorEq, not_true_eq_false, not_false_eq_true, f25, hs, e2, addr_add_eq, Nat.zero_add]) | (first | refine vIfE_of ?_ ?_ | refine vIfD_of ?_ ?_ | refine vIfQ_of ?_ ?_ | refine vIfV_of ?_ ?_) <;> intro _ | refine And.intro (by omega) ?_ | refine drawn_q ?_ | fail)
  all_goals
    rw [e3]
    refine vAppend_rs flC_len flC_one Try.underlying69 ti73 rfl (by decide) O5 R5 (by simp only [List.length_append, List.length_cons, List.length_nil, List.length_drop, List.length_take]; omega) (by decide) l5.size ?_
    intro v6 w6 O6 g6 _
    have l6 : Later w1 w6 := l5.appended O5 (Nat.le_refl _) g6
    obtain ⟨o6, c6, rfl, _, _⟩ := RecS.slice O6.s
    have h6 := h1.later l6
    have hd6 : d.Ok w6 := hd.chg (Chg.of_later (ks := []) (l01.trans l6)) (by simp)
    have hfz := h6.blk.frozen 2
    have hce : ∃ y, w6.cell? ⟨bm, 2, none⟩ = some y := ⟨_, h6.blk.cell 2⟩
    have c7 := chg_setCell (i := 2) w6 (ks := [bm]) (k := bm) (by simp) (.slice o6 (ds.take i ++ [d] ++ ds.drop j).length c6)
    have h7 := h6.setL O6.s (InT.of_own O6) (fun x hx => by
      rcases List.mem_append.1 hx with hx | hx
      · rcases List.mem_append.1 hx with hx | hx
        · exact h6.ok x (List.mem_of_mem_take hx)
        · rw [List.mem_singleton.1 hx]; exact hd6
      · exact h6.ok x (List.mem_of_mem_drop hx))
    have e4 : (ds.take i ++ [d] ++ ds.drop j).map DE.fl = lPut d.fl s.L := by
      rw [hput, List.map_append, List.map_append, List.map_take, List.map_drop, h1.eq, List.append_assoc]; rfl
    rw [e4] at h7
    repeat' (first | (simp (disch := omega) only [push_cast, ↓reduceIte, zA, zG, zB, zH, zI, zC, zJ, zK, zL, zD, zE, zF, zM, zN, zO, zP, zQ, reduceCtorEq, not_true_eq_false, not_false_eq_true, hce, hfz, addr_add_eq, Nat.zero_add]) | (first | refine vIfE_of ?_ ?_ | refine vIfD_of ?_ ?_ | refine vIfQ_of ?_ ?_ | refine vIfV_of ?_ ?_) <;> intro _ | refine And.intro (by omega) ?_ | refine drawn_q ?_ | fail)
    exact ⟨⟨_, _, h7⟩, (Chg.of_later (l01.trans l6)).trans c7⟩
end Go.Proofs.Ytmfcnooleejgmaa
end
