/- The functions' code in the generator's form. Written by a program (codes.py) out of Lean's own print of the loaded translation. -/
import Derived.Test.YtnofalhkapmcnaaGreatPartE
set_option linter.all false
section
namespace Go.Proofs.YtnofalhkapmcnaaGreat
open Go.Vc
set_option maxRecDepth 100000
variable (Q : Post) (ds : List Deferred) (σ : Env) (w : World)
/-! 14 columbary/columbarylaw23.Fits (params #[24, 32], results #[(.tmp 4)], 57 slots) -/
def r14_0 : List VOp :=
  [⟨some 2, .box 24 (.tmp 0), 0, none⟩,
   ⟨some 3, .box 32 (.tmp 1), 0, none⟩,
   ⟨some 4, .assign (.const (.bool false)), 4, none⟩]
def r14_1 : List VOp :=
  [fad 10 24 2 0,
   lda 11 22 10,
   ⟨some 12, .call ⟨.value (.func 38), #[.tmp 11], #[22]⟩, 4, none⟩,
   asg 5 12 4]
def r14_2 : List VOp :=
  [fad 13 24 2 1,
   lda 14 22 13,
   ⟨some 15, .call ⟨.value (.func 38), #[.tmp 14], #[22]⟩, 4, none⟩,
   asg 6 15 4]
def r14_3 : List VOp :=
  [fad 16 32 3 4,
   lda 17 22 16,
   ⟨some 18, .call ⟨.value (.func 38), #[.tmp 17], #[22]⟩, 4, none⟩,
   asg 7 18 4]
def r14_4 : List VOp :=
  [mv 19 5 4,
   ⟨some 20, .unOp .not 4 (.tmp 19), 4, none⟩,
   mv 21 20 4,
   ⟨some 22, .move (.tmp 6), 4, some (21, false)⟩,
   ⟨some 23, .unOp .not 4 (.tmp 22), 4, some (21, false)⟩,
   ⟨some 24, .pick (.tmp 21) (.const (.bool true)) (.tmp 23), 4, none⟩,
   mv 25 24 4,
   ⟨some 26, .move (.tmp 7), 4, some (25, false)⟩,
   ⟨some 27, .unOp .not 4 (.tmp 26), 4, some (25, false)⟩,
   ⟨some 28, .pick (.tmp 25) (.const (.bool true)) (.tmp 27), 4, none⟩,
   mv 29 28 4,
   ⟨some 30, .fieldAddr 32 (.tmp 3) 0, 0, some (29, false)⟩,
   ⟨some 31, .load 25 (.tmp 30), 25, some (29, false)⟩,
   ⟨some 32, .call ⟨.builtin .len, #[.tmp 31], #[25]⟩, 3, some (29, false)⟩,
   ⟨some 33, .binOp .gtr 3 (.tmp 32) (.const (.int .i64 30)) 3, 4, some (29, false)⟩,
   ⟨some 34, .pick (.tmp 29) (.const (.bool true)) (.tmp 33), 4, none⟩,
   mv 35 34 4,
   ⟨some 36, .fieldAddr 32 (.tmp 3) 6, 0, some (35, false)⟩,
   ⟨some 37, .load 30 (.tmp 36), 30, some (35, false)⟩,
   ⟨some 38, .call ⟨.builtin .len, #[.tmp 37], #[30]⟩, 3, some (35, false)⟩,
   ⟨some 39, .binOp .gtr 3 (.tmp 38) (.const (.int .i64 30)) 3, 4, some (35, false)⟩,
   ⟨some 40, .pick (.tmp 35) (.const (.bool true)) (.tmp 39), 4, none⟩,
   mv 41 40 4,
   ⟨some 42, .fieldAddr 32 (.tmp 3) 5, 0, some (41, false)⟩,
   ⟨some 43, .load 29 (.tmp 42), 29, some (41, false)⟩,
   ⟨some 44, .call ⟨.value (.func 39), #[(.tmp 43), (.const (.int .i64 300))], #[29, 3]⟩, 3, some (41, false)⟩,
   ⟨some 45, .binOp .geq 3 (.tmp 44) (.const (.int .i64 300)) 3, 4, some (41, false)⟩,
   ⟨some 46, .pick (.tmp 41) (.const (.bool true)) (.tmp 45), 4, none⟩]
def r14_5 : List VOp :=
  [⟨some 4, .assign (.const (.bool false)), 4, none⟩]
def r14_6 : List VOp :=
  [lda 47 24 2,
   ⟨some 48, .call ⟨.value (.func 40), #[.tmp 47], #[24]⟩, 4, none⟩,
   asg 8 48 4]
def r14_7 : List VOp :=
  [fad 49 32 3 5,
   lda 50 29 49,
   ⟨some 51, .call ⟨.value (.func 41), #[.tmp 50], #[29]⟩, 3, none⟩,
   asg 9 51 3]
def r14_8 : List VOp :=
  [mv 52 8 4,
   mv 53 52 4,
   ⟨some 54, .move (.tmp 9), 3, some (53, true)⟩,
   ⟨some 55, .binOp .leq 3 (.tmp 54) (.const (.int .i64 60)) 3, 4, some (53, true)⟩,
   ⟨some 56, .pick (.tmp 53) (.tmp 55) (.const (.bool false)), 4, none⟩,
   asg 4 56 4]
def B14 : VC :=
  (.seq (.region r14_0) (.seq (.region r14_1) (.seq (.region r14_2) (.seq (.region r14_3) (.seq (.seq (.region r14_4) (.cond (.tmp 46) (.seq (.region r14_5) .ret) .skip)) (.seq (.region r14_6) (.seq (.region r14_7) (.seq (.region r14_8) .ret))))))))
theorem code14 : ∃ c, Tryz.f14.body = some c ∧ abs Tryz.f14.ntmps c = B14 := ⟨_, rfl, by kernel_rfl⟩
theorem hb14 : HasBody Tryz.prog 14 := hasBody_of Tryz.func14 (by kernel_rfl)
theorem res14 : Tryz.f14.results = #[(.tmp 4)] := rfl
theorem enter14 {w : World} {R : Value → World → Prop} (x0 x1 : Value) (h : vc Tryz.prog B14 (retK Tryz.prog #[(.tmp 4)] R) [] (initEnv [x0, x1] 0) w) : FnC Tryz.prog 14 #[x0, x1] w R := by
  obtain ⟨c, h1, h2⟩ := code14
  exact hb14.fn (ret_of_vc mixed Tryz.func14 h1 (Nat.le_of_ble_eq_true rfl) B14 h2 h)
@[push_cast] theorem vr14_0 : VR r14_0 [⟨some 2, .box 24 (.tmp 0), 0, none⟩, ⟨some 3, .box 32 (.tmp 1), 0, none⟩, ⟨some 4, .assign (.const (.bool false)), 4, none⟩] := vR rfl
@[push_cast] theorem vr14_1 : VR r14_1 [⟨some 10, .fieldAddr 24 (.tmp 2) 0, 0, none⟩, ⟨some 11, .load 22 (.tmp 10), 22, none⟩, ⟨some 12, .call ⟨.value (.func 38), #[.tmp 11], #[22]⟩, 4, none⟩, ⟨some 5, .assign (.tmp 12), 4, none⟩] := vR rfl
@[push_cast] theorem vr14_2 : VR r14_2 [⟨some 13, .fieldAddr 24 (.tmp 2) 1, 0, none⟩, ⟨some 14, .load 22 (.tmp 13), 22, none⟩, ⟨some 15, .call ⟨.value (.func 38), #[.tmp 14], #[22]⟩, 4, none⟩, ⟨some 6, .assign (.tmp 15), 4, none⟩] := vR rfl
@[push_cast] theorem vr14_3 : VR r14_3 [⟨some 16, .fieldAddr 32 (.tmp 3) 4, 0, none⟩, ⟨some 17, .load 22 (.tmp 16), 22, none⟩, ⟨some 18, .call ⟨.value (.func 38), #[.tmp 17], #[22]⟩, 4, none⟩, ⟨some 7, .assign (.tmp 18), 4, none⟩] := vR rfl
@[push_cast] theorem vr14_4 : VR r14_4 [⟨some 19, .move (.tmp 5), 4, none⟩, ⟨some 20, .unOp .not 4 (.tmp 19), 4, none⟩, ⟨some 21, .move (.tmp 20), 4, none⟩, ⟨some 22, .move (.tmp 6), 4, some (21, false)⟩, ⟨some 23, .unOp .not 4 (.tmp 22), 4, some (21, false)⟩, ⟨some 24, .pick (.tmp 21) (.const (.bool true)) (.tmp 23), 4, none⟩, ⟨some 25, .move (.tmp 24), 4, none⟩, ⟨some 26, .move (.tmp 7), 4, some (25, false)⟩, ⟨some 27, .unOp .not 4 (.tmp 26), 4, some (25, false)⟩, ⟨some 28, .pick (.tmp 25) (.const (.bool true)) (.tmp 27), 4, none⟩, ⟨some 29, .move (.tmp 28), 4, none⟩, ⟨some 30, .fieldAddr 32 (.tmp 3) 0, 0, some (29, false)⟩, ⟨some 31, .load 25 (.tmp 30), 25, some (29, false)⟩, ⟨some 32, .call ⟨.builtin .len, #[.tmp 31], #[25]⟩, 3, some (29, false)⟩, ⟨some 33, .binOp .gtr 3 (.tmp 32) (.const (.int .i64 30)) 3, 4, some (29, false)⟩, ⟨some 34, .pick (.tmp 29) (.const (.bool true)) (.tmp 33), 4, none⟩, ⟨some 35, .move (.tmp 34), 4, none⟩, ⟨some 36, .fieldAddr 32 (.tmp 3) 6, 0, some (35, false)⟩, ⟨some 37, .load 30 (.tmp 36), 30, some (35, false)⟩, ⟨some 38, .call ⟨.builtin .len, #[.tmp 37], #[30]⟩, 3, some (35, false)⟩, ⟨some 39, .binOp .gtr 3 (.tmp 38) (.const (.int .i64 30)) 3, 4, some (35, false)⟩, ⟨some 40, .pick (.tmp 35) (.const (.bool true)) (.tmp 39), 4, none⟩, ⟨some 41, .move (.tmp 40), 4, none⟩, ⟨some 42, .fieldAddr 32 (.tmp 3) 5, 0, some (41, false)⟩, ⟨some 43, .load 29 (.tmp 42), 29, some (41, false)⟩, ⟨some 44, .call ⟨.value (.func 39), #[(.tmp 43), (.const (.int .i64 300))], #[29, 3]⟩, 3, some (41, false)⟩, ⟨some 45, .binOp .geq 3 (.tmp 44) (.const (.int .i64 300)) 3, 4, some (41, false)⟩, ⟨some 46, .pick (.tmp 41) (.const (.bool true)) (.tmp 45), 4, none⟩] := vR rfl
@[push_cast] theorem vr14_5 : VR r14_5 [⟨some 4, .assign (.const (.bool false)), 4, none⟩] := vR rfl
@[push_cast] theorem vr14_6 : VR r14_6 [⟨some 47, .load 24 (.tmp 2), 24, none⟩, ⟨some 48, .call ⟨.value (.func 40), #[.tmp 47], #[24]⟩, 4, none⟩, ⟨some 8, .assign (.tmp 48), 4, none⟩] := vR rfl
@[push_cast] theorem vr14_7 : VR r14_7 [⟨some 49, .fieldAddr 32 (.tmp 3) 5, 0, none⟩, ⟨some 50, .load 29 (.tmp 49), 29, none⟩, ⟨some 51, .call ⟨.value (.func 41), #[.tmp 50], #[29]⟩, 3, none⟩, ⟨some 9, .assign (.tmp 51), 3, none⟩] := vR rfl
@[push_cast] theorem vr14_8 : VR r14_8 [⟨some 52, .move (.tmp 8), 4, none⟩, ⟨some 53, .move (.tmp 52), 4, none⟩, ⟨some 54, .move (.tmp 9), 3, some (53, true)⟩, ⟨some 55, .binOp .leq 3 (.tmp 54) (.const (.int .i64 60)) 3, 4, some (53, true)⟩, ⟨some 56, .pick (.tmp 53) (.tmp 55) (.const (.bool false)), 4, none⟩, ⟨some 4, .assign (.tmp 56), 4, none⟩] := vR rfl
/-! 17 columbary/columbaryref23.Check (params #[24, 32], results #[(.tmp 4)], 21 slots) -/
def r17_0 : List VOp :=
  [⟨some 2, .box 24 (.tmp 0), 0, none⟩,
   ⟨some 3, .box 32 (.tmp 1), 0, none⟩,
   ⟨some 4, .assign (.const (.int .i64 0)), 37, none⟩]
def r17_1 : List VOp :=
  [lda 8 32 3,
   ⟨some 9, .call ⟨.value (.func 45), #[.tmp 8], #[32]⟩, 4, none⟩,
   asg 5 9 4]
def r17_2 : List VOp :=
  [mv 10 5 4,
   ⟨some 11, .unOp .not 4 (.tmp 10), 4, none⟩]
def r17_3 : List VOp :=
  [⟨some 4, .assign (.const (.int .i64 221)), 37, none⟩]
def r17_4 : List VOp :=
  [lda 12 24 2,
   lda 13 32 3,
   ⟨some 14, .call ⟨.value (.func 46), #[.tmp 12, .tmp 13], #[24, 32]⟩, 4, none⟩,
   asg 6 14 4]
def r17_5 : List VOp :=
  [mv 15 6 4,
   ⟨some 16, .unOp .not 4 (.tmp 15), 4, none⟩]
def r17_6 : List VOp :=
  [⟨some 4, .assign (.const (.int .i64 231)), 37, none⟩]
def r17_7 : List VOp :=
  [lda 17 32 3,
   ⟨some 18, .call ⟨.value (.func 47), #[.tmp 17], #[32]⟩, 4, none⟩,
   asg 7 18 4]
def r17_8 : List VOp :=
  [mv 19 7 4,
   ⟨some 20, .unOp .not 4 (.tmp 19), 4, none⟩]
def r17_9 : List VOp :=
  [⟨some 4, .assign (.const (.int .i64 232)), 37, none⟩]
def r17_10 : List VOp :=
  [⟨some 4, .assign (.const (.int .i64 0)), 37, none⟩]
def B17 : VC :=
  (.seq (.region r17_0) (.seq (.region r17_1) (.seq (.seq (.region r17_2) (.cond (.tmp 11) (.seq (.region r17_3) .ret) .skip)) (.seq (.region r17_4) (.seq (.seq (.region r17_5) (.cond (.tmp 16) (.seq (.region r17_6) .ret) .skip)) (.seq (.region r17_7) (.seq (.seq (.region r17_8) (.cond (.tmp 20) (.seq (.region r17_9) .ret) .skip)) (.seq (.region r17_10) .ret))))))))
theorem code17 : ∃ c, Tryz.f17.body = some c ∧ abs Tryz.f17.ntmps c = B17 := ⟨_, rfl, by kernel_rfl⟩
theorem hb17 : HasBody Tryz.prog 17 := hasBody_of Tryz.func17 (by kernel_rfl)
theorem res17 : Tryz.f17.results = #[(.tmp 4)] := rfl
theorem enter17 {w : World} {R : Value → World → Prop} (x0 x1 : Value) (h : vc Tryz.prog B17 (retK Tryz.prog #[(.tmp 4)] R) [] (initEnv [x0, x1] 0) w) : FnC Tryz.prog 17 #[x0, x1] w R := by
  obtain ⟨c, h1, h2⟩ := code17
  exact hb17.fn (ret_of_vc mixed Tryz.func17 h1 (Nat.le_of_ble_eq_true rfl) B17 h2 h)
@[push_cast] theorem vr17_0 : VR r17_0 [⟨some 2, .box 24 (.tmp 0), 0, none⟩, ⟨some 3, .box 32 (.tmp 1), 0, none⟩, ⟨some 4, .assign (.const (.int .i64 0)), 37, none⟩] := vR rfl
@[push_cast] theorem vr17_1 : VR r17_1 [⟨some 8, .load 32 (.tmp 3), 32, none⟩, ⟨some 9, .call ⟨.value (.func 45), #[.tmp 8], #[32]⟩, 4, none⟩, ⟨some 5, .assign (.tmp 9), 4, none⟩] := vR rfl
@[push_cast] theorem vr17_2 : VR r17_2 [⟨some 10, .move (.tmp 5), 4, none⟩, ⟨some 11, .unOp .not 4 (.tmp 10), 4, none⟩] := vR rfl
@[push_cast] theorem vr17_3 : VR r17_3 [⟨some 4, .assign (.const (.int .i64 221)), 37, none⟩] := vR rfl
@[push_cast] theorem vr17_4 : VR r17_4 [⟨some 12, .load 24 (.tmp 2), 24, none⟩, ⟨some 13, .load 32 (.tmp 3), 32, none⟩, ⟨some 14, .call ⟨.value (.func 46), #[.tmp 12, .tmp 13], #[24, 32]⟩, 4, none⟩, ⟨some 6, .assign (.tmp 14), 4, none⟩] := vR rfl
@[push_cast] theorem vr17_5 : VR r17_5 [⟨some 15, .move (.tmp 6), 4, none⟩, ⟨some 16, .unOp .not 4 (.tmp 15), 4, none⟩] := vR rfl
@[push_cast] theorem vr17_6 : VR r17_6 [⟨some 4, .assign (.const (.int .i64 231)), 37, none⟩] := vR rfl
@[push_cast] theorem vr17_7 : VR r17_7 [⟨some 17, .load 32 (.tmp 3), 32, none⟩, ⟨some 18, .call ⟨.value (.func 47), #[.tmp 17], #[32]⟩, 4, none⟩, ⟨some 7, .assign (.tmp 18), 4, none⟩] := vR rfl
@[push_cast] theorem vr17_8 : VR r17_8 [⟨some 19, .move (.tmp 7), 4, none⟩, ⟨some 20, .unOp .not 4 (.tmp 19), 4, none⟩] := vR rfl
@[push_cast] theorem vr17_9 : VR r17_9 [⟨some 4, .assign (.const (.int .i64 232)), 37, none⟩] := vR rfl
@[push_cast] theorem vr17_10 : VR r17_10 [⟨some 4, .assign (.const (.int .i64 0)), 37, none⟩] := vR rfl
/-! 18 columbary/columbaryref03.Texts (params #[22, 22], results #[(.tmp 4)], 26 slots) -/
def W18_0 : List Nat := [4, 5, 11, 12, 13, 14, 15, 16, 17, 18, 19, 20, 21, 22, 23, 24, 25]
@[push_cast] theorem W18_0_def : W18_0 = [4, 5, 11, 12, 13, 14, 15, 16, 17, 18, 19, 20, 21, 22, 23, 24, 25] := mk_eq rfl
def r18_0 : List VOp :=
  [⟨some 4, .assign (.const (.bool false)), 4, none⟩]
def r18_1 : List VOp :=
  [mv 6 0 22,
   ⟨some 7, .call ⟨.builtin .len, #[.tmp 6], #[22]⟩, 3, none⟩,
   mv 8 1 22,
   ⟨some 9, .call ⟨.builtin .len, #[.tmp 8], #[22]⟩, 3, none⟩,
   ⟨some 10, .binOp .neq 3 (.tmp 7) (.tmp 9) 3, 4, none⟩]
def r18_2 : List VOp :=
  [⟨some 4, .assign (.const (.bool false)), 4, none⟩]
def r18_3 : List VOp :=
  [⟨some 5, .assign (.const (.int .i64 0)), 3, none⟩]
def r18_4 : List VOp :=
  [mv 11 5 3,
   mv 12 0 22,
   ⟨some 13, .call ⟨.builtin .len, #[.tmp 12], #[22]⟩, 3, none⟩,
   ⟨some 14, .binOp .lss 3 (.tmp 11) (.tmp 13) 3, 4, none⟩]
def r18_6 : List VOp :=
  [mv 17 0 22,
   mv 18 5 3,
   iad 19 22 17 18,
   lda 20 9 19,
   mv 21 1 22,
   mv 22 5 3,
   iad 23 22 21 22,
   lda 24 9 23,
   ⟨some 25, .binOp .neq 9 (.tmp 20) (.tmp 24) 9, 4, none⟩]
def r18_7 : List VOp :=
  [⟨some 4, .assign (.const (.bool false)), 4, none⟩]
def r18_5 : List VOp :=
  [mv 15 5 3,
   ⟨some 16, .binOp .add 3 (.tmp 15) (.const (.int .i64 1)) 3, 3, none⟩,
   asg 5 16 3]
def r18_8 : List VOp :=
  [⟨some 4, .assign (.const (.bool true)), 4, none⟩]
def B18 : VC :=
  (.seq (.region r18_0) (.seq (.seq (.region r18_1) (.cond (.tmp 10) (.seq (.region r18_2) .ret) .skip)) (.seq (.seq (.region r18_3) (.block 0 (.loop (.seq (.seq (.region r18_4) (.cond (.tmp 14) .skip (.exit 0))) (.seq (.block 1 (.seq (.draw r18_6 2) (.cond (.tmp 25) (.seq (.region r18_7) .ret) .skip))) (.region r18_5)))))) (.seq (.region r18_8) .ret))))
theorem code18 : ∃ c, Tryz.f18.body = some c ∧ abs Tryz.f18.ntmps c = B18 := ⟨_, rfl, by kernel_rfl⟩
theorem hb18 : HasBody Tryz.prog 18 := hasBody_of Tryz.func18 (by kernel_rfl)
theorem res18 : Tryz.f18.results = #[(.tmp 4)] := rfl
theorem enter18 {w : World} {R : Value → World → Prop} (x0 x1 : Value) (h : vc Tryz.prog B18 (retK Tryz.prog #[(.tmp 4)] R) [] (initEnv [x0, x1] 0) w) : FnC Tryz.prog 18 #[x0, x1] w R := by
  obtain ⟨c, h1, h2⟩ := code18
  exact hb18.fn (ret_of_vc mixed Tryz.func18 h1 (Nat.le_of_ble_eq_true rfl) B18 h2 h)
@[push_cast] theorem vr18_0 : VR r18_0 [⟨some 4, .assign (.const (.bool false)), 4, none⟩] := vR rfl
@[push_cast] theorem vr18_1 : VR r18_1 [⟨some 6, .move (.tmp 0), 22, none⟩, ⟨some 7, .call ⟨.builtin .len, #[.tmp 6], #[22]⟩, 3, none⟩, ⟨some 8, .move (.tmp 1), 22, none⟩, ⟨some 9, .call ⟨.builtin .len, #[.tmp 8], #[22]⟩, 3, none⟩, ⟨some 10, .binOp .neq 3 (.tmp 7) (.tmp 9) 3, 4, none⟩] := vR rfl
@[push_cast] theorem vr18_2 : VR r18_2 [⟨some 4, .assign (.const (.bool false)), 4, none⟩] := vR rfl
@[push_cast] theorem vr18_3 : VR r18_3 [⟨some 5, .assign (.const (.int .i64 0)), 3, none⟩] := vR rfl
@[push_cast] theorem vr18_4 : VR r18_4 [⟨some 11, .move (.tmp 5), 3, none⟩, ⟨some 12, .move (.tmp 0), 22, none⟩, ⟨some 13, .call ⟨.builtin .len, #[.tmp 12], #[22]⟩, 3, none⟩, ⟨some 14, .binOp .lss 3 (.tmp 11) (.tmp 13) 3, 4, none⟩] := vR rfl
@[push_cast] theorem vr18_6 : vc Tryz.prog (.draw r18_6 2) Q ds σ w = drawn Tryz.prog [(⟨some 17, .move (.tmp 0), 22, none⟩, [0]), (⟨some 18, .move (.tmp 5), 3, none⟩, [5]), (⟨some 19, .indexAddr 22 (.tmp 17) (.tmp 18), 0, none⟩, [17, 18]), (⟨some 20, .load 9 (.tmp 19), 9, none⟩, [19]), (⟨some 21, .move (.tmp 1), 22, none⟩, [1]), (⟨some 22, .move (.tmp 5), 3, none⟩, [5]), (⟨some 23, .indexAddr 22 (.tmp 21) (.tmp 22), 0, none⟩, [21, 22]), (⟨some 24, .load 9 (.tmp 23), 9, none⟩, [23]), (⟨some 25, .binOp .neq 9 (.tmp 20) (.tmp 24) 9, 4, none⟩, [20, 24])] 2 (Q .normal ds) σ w := mk_eq rfl
@[push_cast] theorem vr18_7 : VR r18_7 [⟨some 4, .assign (.const (.bool false)), 4, none⟩] := vR rfl
@[push_cast] theorem vr18_5 : VR r18_5 [⟨some 15, .move (.tmp 5), 3, none⟩, ⟨some 16, .binOp .add 3 (.tmp 15) (.const (.int .i64 1)) 3, 3, none⟩, ⟨some 5, .assign (.tmp 16), 3, none⟩] := vR rfl
@[push_cast] theorem vr18_8 : VR r18_8 [⟨some 4, .assign (.const (.bool true)), 4, none⟩] := vR rfl
/-! 20 columbary/columbaryref23.Used (params #[24, 32], results #[(.tmp 4)], 45 slots) -/
def W20_0 : List Nat := [6, 7, 8, 9, 18, 19, 20, 21, 22, 23, 24, 25, 26, 27, 28, 29, 30, 31, 32, 33, 34, 35, 36, 37, 38, 39, 40, 41, 42, 43]
@[push_cast] theorem W20_0_def : W20_0 = [6, 7, 8, 9, 18, 19, 20, 21, 22, 23, 24, 25, 26, 27, 28, 29, 30, 31, 32, 33, 34, 35, 36, 37, 38, 39, 40, 41, 42, 43] := mk_eq rfl
def r20_0 : List VOp :=
  [⟨some 2, .box 24 (.tmp 0), 0, none⟩,
   ⟨some 3, .box 32 (.tmp 1), 0, none⟩,
   ⟨some 4, .assign (.const (.slice none 0 0)), 22, none⟩]
def r20_1 : List VOp :=
  [⟨some 10, .buildSlice 22 0 #[], 22, none⟩,
   fad 11 32 3 4,
   lda 12 22 11,
   ⟨some 13, .call ⟨.builtin .append, #[.tmp 10, .tmp 12], #[22, 22]⟩, 22, none⟩,
   fad 14 32 3 5,
   lda 15 29 14,
   ⟨some 16, .call ⟨.value (.func 53), #[.tmp 15], #[29]⟩, 22, none⟩,
   ⟨some 17, .call ⟨.builtin .append, #[.tmp 13, .tmp 16], #[22, 22]⟩, 22, none⟩,
   asg 5 17 22]
def r20_2 : List VOp :=
  [⟨some 6, .assign (.const (.slice none 0 0)), 22, none⟩]
def r20_3 : List VOp :=
  [⟨some 7, .assign (.const (.int .i64 0)), 3, none⟩]
def r20_4 : List VOp :=
  [mv 18 7 3,
   fad 19 24 2 0,
   lda 20 22 19,
   ⟨some 21, .call ⟨.builtin .len, #[.tmp 20], #[22]⟩, 3, none⟩,
   ⟨some 22, .binOp .lss 3 (.tmp 18) (.tmp 21) 3, 4, none⟩]
def r20_6 : List VOp :=
  [mv 26 5 22,
   fad 27 24 2 0,
   lda 28 22 27,
   mv 29 7 3,
   iad 30 22 28 29,
   lda 31 9 30,
   ⟨some 32, .call ⟨.value (.func 30), #[.tmp 26, .tmp 31], #[22, 9]⟩, 62, none⟩,
   mv 25 32 62,
   ext 33 25 0 3,
   ext 34 25 1 4,
   asg 8 33 3,
   asg 9 34 4]
def r20_7 : List VOp :=
  [mv 35 9 4]
def r20_8 : List VOp :=
  [mv 36 6 22,
   fad 37 24 2 0,
   lda 38 22 37,
   mv 39 7 3,
   iad 40 22 38 39,
   lda 41 9 40,
   ⟨some 42, .buildSlice 22 1 #[(0, (.tmp 41))], 22, none⟩,
   ⟨some 43, .call ⟨.builtin .append, #[.tmp 36, .tmp 42], #[22, 22]⟩, 22, none⟩,
   asg 6 43 22]
def r20_5 : List VOp :=
  [mv 23 7 3,
   ⟨some 24, .binOp .add 3 (.tmp 23) (.const (.int .i64 1)) 3, 3, none⟩,
   asg 7 24 3]
def r20_9 : List VOp :=
  [mv 44 6 22,
   asg 4 44 22]
def B20 : VC :=
  (.seq (.region r20_0) (.seq (.draw r20_1 4) (.seq (.region r20_2) (.seq (.seq (.region r20_3) (.block 0 (.loop (.seq (.seq (.region r20_4) (.cond (.tmp 22) .skip (.exit 0))) (.seq (.block 1 (.seq (.region r20_6) (.seq (.region r20_7) (.cond (.tmp 35) (.region r20_8) .skip)))) (.region r20_5)))))) (.seq (.region r20_9) .ret)))))
theorem code20 : ∃ c, Tryz.f20.body = some c ∧ abs Tryz.f20.ntmps c = B20 := ⟨_, rfl, by kernel_rfl⟩
theorem hb20 : HasBody Tryz.prog 20 := hasBody_of Tryz.func20 (by kernel_rfl)
theorem res20 : Tryz.f20.results = #[(.tmp 4)] := rfl
theorem enter20 {w : World} {R : Value → World → Prop} (x0 x1 : Value) (h : vc Tryz.prog B20 (retK Tryz.prog #[(.tmp 4)] R) [] (initEnv [x0, x1] 0) w) : FnC Tryz.prog 20 #[x0, x1] w R := by
  obtain ⟨c, h1, h2⟩ := code20
  exact hb20.fn (ret_of_vc mixed Tryz.func20 h1 (Nat.le_of_ble_eq_true rfl) B20 h2 h)
@[push_cast] theorem vr20_0 : VR r20_0 [⟨some 2, .box 24 (.tmp 0), 0, none⟩, ⟨some 3, .box 32 (.tmp 1), 0, none⟩, ⟨some 4, .assign (.const (.slice none 0 0)), 22, none⟩] := vR rfl
@[push_cast] theorem vr20_1 : vc Tryz.prog (.draw r20_1 4) Q ds σ w = drawn Tryz.prog [(⟨some 10, .buildSlice 22 0 #[], 22, none⟩, []), (⟨some 11, .fieldAddr 32 (.tmp 3) 4, 0, none⟩, [3]), (⟨some 12, .load 22 (.tmp 11), 22, none⟩, [11]), (⟨some 13, .call ⟨.builtin .append, #[.tmp 10, .tmp 12], #[22, 22]⟩, 22, none⟩, [10, 12]), (⟨some 14, .fieldAddr 32 (.tmp 3) 5, 0, none⟩, [3]), (⟨some 15, .load 29 (.tmp 14), 29, none⟩, [14]), (⟨some 16, .call ⟨.value (.func 53), #[.tmp 15], #[29]⟩, 22, none⟩, [15]), (⟨some 17, .call ⟨.builtin .append, #[.tmp 13, .tmp 16], #[22, 22]⟩, 22, none⟩, [13, 16]), (⟨some 5, .assign (.tmp 17), 22, none⟩, [17])] 4 (Q .normal ds) σ w := mk_eq rfl
@[push_cast] theorem vr20_2 : VR r20_2 [⟨some 6, .assign (.const (.slice none 0 0)), 22, none⟩] := vR rfl
@[push_cast] theorem vr20_3 : VR r20_3 [⟨some 7, .assign (.const (.int .i64 0)), 3, none⟩] := vR rfl
@[push_cast] theorem vr20_4 : VR r20_4 [⟨some 18, .move (.tmp 7), 3, none⟩, ⟨some 19, .fieldAddr 24 (.tmp 2) 0, 0, none⟩, ⟨some 20, .load 22 (.tmp 19), 22, none⟩, ⟨some 21, .call ⟨.builtin .len, #[.tmp 20], #[22]⟩, 3, none⟩, ⟨some 22, .binOp .lss 3 (.tmp 18) (.tmp 21) 3, 4, none⟩] := vR rfl
@[push_cast] theorem vr20_6 : VR r20_6 [⟨some 26, .move (.tmp 5), 22, none⟩, ⟨some 27, .fieldAddr 24 (.tmp 2) 0, 0, none⟩, ⟨some 28, .load 22 (.tmp 27), 22, none⟩, ⟨some 29, .move (.tmp 7), 3, none⟩, ⟨some 30, .indexAddr 22 (.tmp 28) (.tmp 29), 0, none⟩, ⟨some 31, .load 9 (.tmp 30), 9, none⟩, ⟨some 32, .call ⟨.value (.func 30), #[.tmp 26, .tmp 31], #[22, 9]⟩, 62, none⟩, ⟨some 25, .move (.tmp 32), 62, none⟩, ⟨some 33, .extract (.tmp 25) 0, 3, none⟩, ⟨some 34, .extract (.tmp 25) 1, 4, none⟩, ⟨some 8, .assign (.tmp 33), 3, none⟩, ⟨some 9, .assign (.tmp 34), 4, none⟩] := vR rfl
@[push_cast] theorem vr20_7 : VR r20_7 [⟨some 35, .move (.tmp 9), 4, none⟩] := vR rfl
@[push_cast] theorem vr20_8 : VR r20_8 [⟨some 36, .move (.tmp 6), 22, none⟩, ⟨some 37, .fieldAddr 24 (.tmp 2) 0, 0, none⟩, ⟨some 38, .load 22 (.tmp 37), 22, none⟩, ⟨some 39, .move (.tmp 7), 3, none⟩, ⟨some 40, .indexAddr 22 (.tmp 38) (.tmp 39), 0, none⟩, ⟨some 41, .load 9 (.tmp 40), 9, none⟩, ⟨some 42, .buildSlice 22 1 #[(0, (.tmp 41))], 22, none⟩, ⟨some 43, .call ⟨.builtin .append, #[.tmp 36, .tmp 42], #[22, 22]⟩, 22, none⟩, ⟨some 6, .assign (.tmp 43), 22, none⟩] := vR rfl
@[push_cast] theorem vr20_5 : VR r20_5 [⟨some 23, .move (.tmp 7), 3, none⟩, ⟨some 24, .binOp .add 3 (.tmp 23) (.const (.int .i64 1)) 3, 3, none⟩, ⟨some 7, .assign (.tmp 24), 3, none⟩] := vR rfl
@[push_cast] theorem vr20_9 : VR r20_9 [⟨some 44, .move (.tmp 6), 22, none⟩, ⟨some 4, .assign (.tmp 44), 22, none⟩] := vR rfl
/-! 30 columbary/columbaryref10.Find (params #[22, 9], results #[(.tmp 4), (.tmp 5)], 20 slots) -/
def W30_0 : List Nat := [4, 5, 6, 7, 8, 9, 10, 11, 12, 13, 14, 15, 16, 17, 18, 19]
@[push_cast] theorem W30_0_def : W30_0 = [4, 5, 6, 7, 8, 9, 10, 11, 12, 13, 14, 15, 16, 17, 18, 19] := mk_eq rfl
def r30_0 : List VOp :=
  [⟨some 4, .assign (.const (.int .i64 0)), 3, none⟩,
   ⟨some 5, .assign (.const (.bool false)), 4, none⟩]
def r30_1 : List VOp :=
  [⟨some 6, .assign (.const (.int .i64 0)), 3, none⟩]
def r30_2 : List VOp :=
  [mv 7 6 3,
   mv 8 0 22,
   ⟨some 9, .call ⟨.builtin .len, #[.tmp 8], #[22]⟩, 3, none⟩,
   ⟨some 10, .binOp .lss 3 (.tmp 7) (.tmp 9) 3, 4, none⟩]
def r30_4 : List VOp :=
  [mv 13 0 22,
   mv 14 6 3,
   iad 15 22 13 14,
   lda 16 9 15,
   mv 17 1 9,
   ⟨some 18, .binOp .eql 9 (.tmp 16) (.tmp 17) 9, 4, none⟩]
def r30_5 : List VOp :=
  [mv 19 6 3,
   asg 4 19 3,
   ⟨some 5, .assign (.const (.bool true)), 4, none⟩]
def r30_3 : List VOp :=
  [mv 11 6 3,
   ⟨some 12, .binOp .add 3 (.tmp 11) (.const (.int .i64 1)) 3, 3, none⟩,
   asg 6 12 3]
def r30_6 : List VOp :=
  [⟨some 4, .assign (.const (.int .i64 0)), 3, none⟩,
   ⟨some 5, .assign (.const (.bool false)), 4, none⟩]
def B30 : VC :=
  (.seq (.region r30_0) (.seq (.seq (.region r30_1) (.block 0 (.loop (.seq (.seq (.region r30_2) (.cond (.tmp 10) .skip (.exit 0))) (.seq (.block 1 (.seq (.region r30_4) (.cond (.tmp 18) (.seq (.region r30_5) .ret) .skip))) (.region r30_3)))))) (.seq (.region r30_6) .ret)))
theorem code30 : ∃ c, Tryz.f30.body = some c ∧ abs Tryz.f30.ntmps c = B30 := ⟨_, rfl, by kernel_rfl⟩
theorem hb30 : HasBody Tryz.prog 30 := hasBody_of Tryz.func30 (by kernel_rfl)
theorem res30 : Tryz.f30.results = #[(.tmp 4), (.tmp 5)] := rfl
theorem enter30 {w : World} {R : Value → World → Prop} (x0 x1 : Value) (h : vc Tryz.prog B30 (retK Tryz.prog #[(.tmp 4), (.tmp 5)] R) [] (initEnv [x0, x1] 0) w) : FnC Tryz.prog 30 #[x0, x1] w R := by
  obtain ⟨c, h1, h2⟩ := code30
  exact hb30.fn (ret_of_vc mixed Tryz.func30 h1 (Nat.le_of_ble_eq_true rfl) B30 h2 h)
@[push_cast] theorem vr30_0 : VR r30_0 [⟨some 4, .assign (.const (.int .i64 0)), 3, none⟩, ⟨some 5, .assign (.const (.bool false)), 4, none⟩] := vR rfl
@[push_cast] theorem vr30_1 : VR r30_1 [⟨some 6, .assign (.const (.int .i64 0)), 3, none⟩] := vR rfl
@[push_cast] theorem vr30_2 : VR r30_2 [⟨some 7, .move (.tmp 6), 3, none⟩, ⟨some 8, .move (.tmp 0), 22, none⟩, ⟨some 9, .call ⟨.builtin .len, #[.tmp 8], #[22]⟩, 3, none⟩, ⟨some 10, .binOp .lss 3 (.tmp 7) (.tmp 9) 3, 4, none⟩] := vR rfl
@[push_cast] theorem vr30_4 : VR r30_4 [⟨some 13, .move (.tmp 0), 22, none⟩, ⟨some 14, .move (.tmp 6), 3, none⟩, ⟨some 15, .indexAddr 22 (.tmp 13) (.tmp 14), 0, none⟩, ⟨some 16, .load 9 (.tmp 15), 9, none⟩, ⟨some 17, .move (.tmp 1), 9, none⟩, ⟨some 18, .binOp .eql 9 (.tmp 16) (.tmp 17) 9, 4, none⟩] := vR rfl
@[push_cast] theorem vr30_5 : VR r30_5 [⟨some 19, .move (.tmp 6), 3, none⟩, ⟨some 4, .assign (.tmp 19), 3, none⟩, ⟨some 5, .assign (.const (.bool true)), 4, none⟩] := vR rfl
@[push_cast] theorem vr30_3 : VR r30_3 [⟨some 11, .move (.tmp 6), 3, none⟩, ⟨some 12, .binOp .add 3 (.tmp 11) (.const (.int .i64 1)) 3, 3, none⟩, ⟨some 6, .assign (.tmp 12), 3, none⟩] := vR rfl
@[push_cast] theorem vr30_6 : VR r30_6 [⟨some 4, .assign (.const (.int .i64 0)), 3, none⟩, ⟨some 5, .assign (.const (.bool false)), 4, none⟩] := vR rfl
/-! 38 columbary/columbarylaw10.Fits (params #[22], results #[(.tmp 2)], 20 slots) -/
def W38_0 : List Nat := [2, 3, 4, 5, 6, 7, 8, 9, 10, 11, 12, 13, 14, 15, 16, 17, 18, 19]
@[push_cast] theorem W38_0_def : W38_0 = [2, 3, 4, 5, 6, 7, 8, 9, 10, 11, 12, 13, 14, 15, 16, 17, 18, 19] := mk_eq rfl
def r38_0 : List VOp :=
  [⟨some 2, .assign (.const (.bool false)), 4, none⟩]
def r38_1 : List VOp :=
  [⟨some 3, .assign (.const (.int .i64 0)), 3, none⟩]
def r38_2 : List VOp :=
  [mv 4 3 3,
   mv 5 0 22,
   ⟨some 6, .call ⟨.builtin .len, #[.tmp 5], #[22]⟩, 3, none⟩,
   ⟨some 7, .binOp .lss 3 (.tmp 4) (.tmp 6) 3, 4, none⟩]
def r38_4 : List VOp :=
  [mv 10 3 3,
   ⟨some 11, .binOp .eql 3 (.tmp 10) (.const (.int .i64 20)) 3, 4, none⟩,
   mv 12 11 4,
   ⟨some 13, .move (.tmp 0), 22, some (12, false)⟩,
   ⟨some 14, .move (.tmp 3), 3, some (12, false)⟩,
   ⟨some 15, .indexAddr 22 (.tmp 13) (.tmp 14), 0, some (12, false)⟩,
   ⟨some 16, .load 9 (.tmp 15), 9, some (12, false)⟩,
   ⟨some 17, .call ⟨.builtin .len, #[.tmp 16], #[9]⟩, 3, some (12, false)⟩,
   ⟨some 18, .binOp .gtr 3 (.tmp 17) (.const (.int .i64 80)) 3, 4, some (12, false)⟩,
   ⟨some 19, .pick (.tmp 12) (.const (.bool true)) (.tmp 18), 4, none⟩]
def r38_5 : List VOp :=
  [⟨some 2, .assign (.const (.bool false)), 4, none⟩]
def r38_3 : List VOp :=
  [mv 8 3 3,
   ⟨some 9, .binOp .add 3 (.tmp 8) (.const (.int .i64 1)) 3, 3, none⟩,
   asg 3 9 3]
def r38_6 : List VOp :=
  [⟨some 2, .assign (.const (.bool true)), 4, none⟩]
def B38 : VC :=
  (.seq (.region r38_0) (.seq (.seq (.region r38_1) (.block 0 (.loop (.seq (.seq (.region r38_2) (.cond (.tmp 7) .skip (.exit 0))) (.seq (.block 1 (.seq (.region r38_4) (.cond (.tmp 19) (.seq (.region r38_5) .ret) .skip))) (.region r38_3)))))) (.seq (.region r38_6) .ret)))
theorem code38 : ∃ c, Tryz.f38.body = some c ∧ abs Tryz.f38.ntmps c = B38 := ⟨_, rfl, by kernel_rfl⟩
theorem hb38 : HasBody Tryz.prog 38 := hasBody_of Tryz.func38 (by kernel_rfl)
theorem res38 : Tryz.f38.results = #[(.tmp 2)] := rfl
theorem enter38 {w : World} {R : Value → World → Prop} (x0 : Value) (h : vc Tryz.prog B38 (retK Tryz.prog #[(.tmp 2)] R) [] (initEnv [x0] 0) w) : FnC Tryz.prog 38 #[x0] w R := by
  obtain ⟨c, h1, h2⟩ := code38
  exact hb38.fn (ret_of_vc mixed Tryz.func38 h1 (Nat.le_of_ble_eq_true rfl) B38 h2 h)
@[push_cast] theorem vr38_0 : VR r38_0 [⟨some 2, .assign (.const (.bool false)), 4, none⟩] := vR rfl
@[push_cast] theorem vr38_1 : VR r38_1 [⟨some 3, .assign (.const (.int .i64 0)), 3, none⟩] := vR rfl
@[push_cast] theorem vr38_2 : VR r38_2 [⟨some 4, .move (.tmp 3), 3, none⟩, ⟨some 5, .move (.tmp 0), 22, none⟩, ⟨some 6, .call ⟨.builtin .len, #[.tmp 5], #[22]⟩, 3, none⟩, ⟨some 7, .binOp .lss 3 (.tmp 4) (.tmp 6) 3, 4, none⟩] := vR rfl
@[push_cast] theorem vr38_4 : VR r38_4 [⟨some 10, .move (.tmp 3), 3, none⟩, ⟨some 11, .binOp .eql 3 (.tmp 10) (.const (.int .i64 20)) 3, 4, none⟩, ⟨some 12, .move (.tmp 11), 4, none⟩, ⟨some 13, .move (.tmp 0), 22, some (12, false)⟩, ⟨some 14, .move (.tmp 3), 3, some (12, false)⟩, ⟨some 15, .indexAddr 22 (.tmp 13) (.tmp 14), 0, some (12, false)⟩, ⟨some 16, .load 9 (.tmp 15), 9, some (12, false)⟩, ⟨some 17, .call ⟨.builtin .len, #[.tmp 16], #[9]⟩, 3, some (12, false)⟩, ⟨some 18, .binOp .gtr 3 (.tmp 17) (.const (.int .i64 80)) 3, 4, some (12, false)⟩, ⟨some 19, .pick (.tmp 12) (.const (.bool true)) (.tmp 18), 4, none⟩] := vR rfl
@[push_cast] theorem vr38_5 : VR r38_5 [⟨some 2, .assign (.const (.bool false)), 4, none⟩] := vR rfl
@[push_cast] theorem vr38_3 : VR r38_3 [⟨some 8, .move (.tmp 3), 3, none⟩, ⟨some 9, .binOp .add 3 (.tmp 8) (.const (.int .i64 1)) 3, 3, none⟩, ⟨some 3, .assign (.tmp 9), 3, none⟩] := vR rfl
@[push_cast] theorem vr38_6 : VR r38_6 [⟨some 2, .assign (.const (.bool true)), 4, none⟩] := vR rfl
/-! 39 columbary/columbarylaw23.parts (params #[29, 3], results #[(.tmp 4)], 40 slots) -/
def W39_0 : List Nat := [5, 6, 16, 17, 18, 19, 20, 21, 22, 23, 24, 25, 26, 27, 28, 29, 30, 31, 32, 33, 34, 35, 36, 37, 38]
@[push_cast] theorem W39_0_def : W39_0 = [5, 6, 16, 17, 18, 19, 20, 21, 22, 23, 24, 25, 26, 27, 28, 29, 30, 31, 32, 33, 34, 35, 36, 37, 38] := mk_eq rfl
def r39_0 : List VOp :=
  [⟨some 2, .box 29 (.tmp 0), 0, none⟩,
   ⟨some 4, .assign (.const (.int .i64 0)), 3, none⟩]
def r39_1 : List VOp :=
  [fad 7 29 2 1,
   lda 8 9 7,
   ⟨some 9, .call ⟨.builtin .len, #[.tmp 8], #[9]⟩, 3, none⟩,
   fad 10 29 2 2,
   lda 11 9 10,
   ⟨some 12, .call ⟨.builtin .len, #[.tmp 11], #[9]⟩, 3, none⟩,
   ⟨some 13, .binOp .add 3 (.tmp 9) (.tmp 12) 3, 3, none⟩,
   ⟨some 14, .binOp .quo 3 (.tmp 13) (.const (.int .i64 100)) 3, 3, none⟩,
   ⟨some 15, .binOp .add 3 (.const (.int .i64 1)) (.tmp 14) 3, 3, none⟩,
   asg 5 15 3]
def r39_2 : List VOp :=
  [⟨some 6, .assign (.const (.int .i64 0)), 3, none⟩]
def r39_3 : List VOp :=
  [mv 16 6 3,
   fad 17 29 2 3,
   lda 18 27 17,
   ⟨some 19, .call ⟨.builtin .len, #[.tmp 18], #[27]⟩, 3, none⟩,
   ⟨some 20, .binOp .lss 3 (.tmp 16) (.tmp 19) 3, 4, none⟩,
   mv 21 20 4,
   ⟨some 22, .move (.tmp 5), 3, some (21, true)⟩,
   ⟨some 23, .move (.tmp 1), 3, some (21, true)⟩,
   ⟨some 24, .binOp .lss 3 (.tmp 22) (.tmp 23) 3, 4, some (21, true)⟩,
   ⟨some 25, .pick (.tmp 21) (.tmp 24) (.const (.bool false)), 4, none⟩]
def r39_5 : List VOp :=
  [mv 28 5 3,
   fad 29 29 2 3,
   lda 30 27 29,
   mv 31 6 3,
   iad 32 27 30 31,
   lda 33 29 32,
   mv 34 1 3,
   mv 35 5 3,
   ⟨some 36, .binOp .sub 3 (.tmp 34) (.tmp 35) 3, 3, none⟩,
   ⟨some 37, .call ⟨.value (.func 39), #[.tmp 33, .tmp 36], #[29, 3]⟩, 3, none⟩,
   ⟨some 38, .binOp .add 3 (.tmp 28) (.tmp 37) 3, 3, none⟩,
   asg 5 38 3]
def r39_4 : List VOp :=
  [mv 26 6 3,
   ⟨some 27, .binOp .add 3 (.tmp 26) (.const (.int .i64 1)) 3, 3, none⟩,
   asg 6 27 3]
def r39_6 : List VOp :=
  [mv 39 5 3,
   asg 4 39 3]
def B39 : VC :=
  (.seq (.region r39_0) (.seq (.region r39_1) (.seq (.seq (.region r39_2) (.block 0 (.loop (.seq (.seq (.region r39_3) (.cond (.tmp 25) .skip (.exit 0))) (.seq (.block 1 (.region r39_5)) (.region r39_4)))))) (.seq (.region r39_6) .ret))))
theorem code39 : ∃ c, Tryz.f39.body = some c ∧ abs Tryz.f39.ntmps c = B39 := ⟨_, rfl, by kernel_rfl⟩
theorem hb39 : HasBody Tryz.prog 39 := hasBody_of Tryz.func39 (by kernel_rfl)
theorem res39 : Tryz.f39.results = #[(.tmp 4)] := rfl
theorem enter39 {w : World} {R : Value → World → Prop} (x0 x1 : Value) (h : vc Tryz.prog B39 (retK Tryz.prog #[(.tmp 4)] R) [] (initEnv [x0, x1] 0) w) : FnC Tryz.prog 39 #[x0, x1] w R := by
  obtain ⟨c, h1, h2⟩ := code39
  exact hb39.fn (ret_of_vc mixed Tryz.func39 h1 (Nat.le_of_ble_eq_true rfl) B39 h2 h)
@[push_cast] theorem vr39_0 : VR r39_0 [⟨some 2, .box 29 (.tmp 0), 0, none⟩, ⟨some 4, .assign (.const (.int .i64 0)), 3, none⟩] := vR rfl
@[push_cast] theorem vr39_1 : VR r39_1 [⟨some 7, .fieldAddr 29 (.tmp 2) 1, 0, none⟩, ⟨some 8, .load 9 (.tmp 7), 9, none⟩, ⟨some 9, .call ⟨.builtin .len, #[.tmp 8], #[9]⟩, 3, none⟩, ⟨some 10, .fieldAddr 29 (.tmp 2) 2, 0, none⟩, ⟨some 11, .load 9 (.tmp 10), 9, none⟩, ⟨some 12, .call ⟨.builtin .len, #[.tmp 11], #[9]⟩, 3, none⟩, ⟨some 13, .binOp .add 3 (.tmp 9) (.tmp 12) 3, 3, none⟩, ⟨some 14, .binOp .quo 3 (.tmp 13) (.const (.int .i64 100)) 3, 3, none⟩, ⟨some 15, .binOp .add 3 (.const (.int .i64 1)) (.tmp 14) 3, 3, none⟩, ⟨some 5, .assign (.tmp 15), 3, none⟩] := vR rfl
@[push_cast] theorem vr39_2 : VR r39_2 [⟨some 6, .assign (.const (.int .i64 0)), 3, none⟩] := vR rfl
@[push_cast] theorem vr39_3 : VR r39_3 [⟨some 16, .move (.tmp 6), 3, none⟩, ⟨some 17, .fieldAddr 29 (.tmp 2) 3, 0, none⟩, ⟨some 18, .load 27 (.tmp 17), 27, none⟩, ⟨some 19, .call ⟨.builtin .len, #[.tmp 18], #[27]⟩, 3, none⟩, ⟨some 20, .binOp .lss 3 (.tmp 16) (.tmp 19) 3, 4, none⟩, ⟨some 21, .move (.tmp 20), 4, none⟩, ⟨some 22, .move (.tmp 5), 3, some (21, true)⟩, ⟨some 23, .move (.tmp 1), 3, some (21, true)⟩, ⟨some 24, .binOp .lss 3 (.tmp 22) (.tmp 23) 3, 4, some (21, true)⟩, ⟨some 25, .pick (.tmp 21) (.tmp 24) (.const (.bool false)), 4, none⟩] := vR rfl
@[push_cast] theorem vr39_5 : VR r39_5 [⟨some 28, .move (.tmp 5), 3, none⟩, ⟨some 29, .fieldAddr 29 (.tmp 2) 3, 0, none⟩, ⟨some 30, .load 27 (.tmp 29), 27, none⟩, ⟨some 31, .move (.tmp 6), 3, none⟩, ⟨some 32, .indexAddr 27 (.tmp 30) (.tmp 31), 0, none⟩, ⟨some 33, .load 29 (.tmp 32), 29, none⟩, ⟨some 34, .move (.tmp 1), 3, none⟩, ⟨some 35, .move (.tmp 5), 3, none⟩, ⟨some 36, .binOp .sub 3 (.tmp 34) (.tmp 35) 3, 3, none⟩, ⟨some 37, .call ⟨.value (.func 39), #[.tmp 33, .tmp 36], #[29, 3]⟩, 3, none⟩, ⟨some 38, .binOp .add 3 (.tmp 28) (.tmp 37) 3, 3, none⟩, ⟨some 5, .assign (.tmp 38), 3, none⟩] := vR rfl
@[push_cast] theorem vr39_4 : VR r39_4 [⟨some 26, .move (.tmp 6), 3, none⟩, ⟨some 27, .binOp .add 3 (.tmp 26) (.const (.int .i64 1)) 3, 3, none⟩, ⟨some 6, .assign (.tmp 27), 3, none⟩] := vR rfl
@[push_cast] theorem vr39_6 : VR r39_6 [⟨some 39, .move (.tmp 5), 3, none⟩, ⟨some 4, .assign (.tmp 39), 3, none⟩] := vR rfl
/-! 40 columbary/columbaryref10.Right (params #[24], results #[(.tmp 2)], 57 slots) -/
def W40_0 : List Nat := [2, 4, 5, 6, 14, 15, 16, 17, 18, 19, 20, 21, 22, 23, 24, 25, 26, 27, 28, 29, 30, 31, 32, 33, 34, 35, 36, 37, 38, 39, 40]
@[push_cast] theorem W40_0_def : W40_0 = [2, 4, 5, 6, 14, 15, 16, 17, 18, 19, 20, 21, 22, 23, 24, 25, 26, 27, 28, 29, 30, 31, 32, 33, 34, 35, 36, 37, 38, 39, 40] := mk_eq rfl
def W40_1 : List Nat := [2, 6, 27, 28, 29, 30, 31, 32, 33, 34, 35, 36, 37, 38, 39, 40]
@[push_cast] theorem W40_1_def : W40_1 = [2, 6, 27, 28, 29, 30, 31, 32, 33, 34, 35, 36, 37, 38, 39, 40] := mk_eq rfl
def r40_0 : List VOp :=
  [⟨some 1, .box 24 (.tmp 0), 0, none⟩,
   ⟨some 2, .assign (.const (.bool false)), 4, none⟩]
def r40_1 : List VOp :=
  [⟨some 7, .buildSlice 22 0 #[], 22, none⟩,
   fad 8 24 1 0,
   lda 9 22 8,
   ⟨some 10, .call ⟨.builtin .append, #[.tmp 7, .tmp 9], #[22, 22]⟩, 22, none⟩,
   fad 11 24 1 1,
   lda 12 22 11,
   ⟨some 13, .call ⟨.builtin .append, #[.tmp 10, .tmp 12], #[22, 22]⟩, 22, none⟩,
   asg 3 13 22]
def r40_2 : List VOp :=
  [⟨some 4, .assign (.const (.int .i64 0)), 3, none⟩]
def r40_3 : List VOp :=
  [mv 14 4 3,
   mv 15 3 22,
   ⟨some 16, .call ⟨.builtin .len, #[.tmp 15], #[22]⟩, 3, none⟩,
   ⟨some 17, .binOp .lss 3 (.tmp 14) (.tmp 16) 3, 4, none⟩]
def r40_5 : List VOp :=
  [mv 20 3 22,
   mv 21 4 3,
   iad 22 22 20 21,
   lda 23 9 22,
   ⟨some 24, .call ⟨.value (.func 76), #[.tmp 23], #[9]⟩, 4, none⟩,
   asg 5 24 4]
def r40_6 : List VOp :=
  [mv 25 5 4,
   ⟨some 26, .unOp .not 4 (.tmp 25), 4, none⟩]
def r40_7 : List VOp :=
  [⟨some 2, .assign (.const (.bool false)), 4, none⟩]
def r40_8 : List VOp :=
  [⟨some 6, .assign (.const (.int .i64 0)), 3, none⟩]
def r40_9 : List VOp :=
  [mv 27 6 3,
   mv 28 4 3,
   ⟨some 29, .binOp .lss 3 (.tmp 27) (.tmp 28) 3, 4, none⟩]
def r40_11 : List VOp :=
  [mv 32 3 22,
   mv 33 6 3,
   iad 34 22 32 33,
   lda 35 9 34,
   mv 36 3 22,
   mv 37 4 3,
   iad 38 22 36 37,
   lda 39 9 38,
   ⟨some 40, .binOp .eql 9 (.tmp 35) (.tmp 39) 9, 4, none⟩]
def r40_12 : List VOp :=
  [⟨some 2, .assign (.const (.bool false)), 4, none⟩]
def r40_10 : List VOp :=
  [mv 30 6 3,
   ⟨some 31, .binOp .add 3 (.tmp 30) (.const (.int .i64 1)) 3, 3, none⟩,
   asg 6 31 3]
def r40_4 : List VOp :=
  [mv 18 4 3,
   ⟨some 19, .binOp .add 3 (.tmp 18) (.const (.int .i64 1)) 3, 3, none⟩,
   asg 4 19 3]
def r40_13 : List VOp :=
  [fad 41 24 1 0,
   lda 42 22 41,
   ⟨some 43, .call ⟨.builtin .len, #[.tmp 42], #[22]⟩, 3, none⟩,
   ⟨some 44, .binOp .geq 3 (.tmp 43) (.const (.int .i64 1)) 3, 4, none⟩,
   mv 45 44 4,
   ⟨some 46, .fieldAddr 24 (.tmp 1) 0, 0, some (45, true)⟩,
   ⟨some 47, .load 22 (.tmp 46), 22, some (45, true)⟩,
   ⟨some 48, .call ⟨.builtin .len, #[.tmp 47], #[22]⟩, 3, some (45, true)⟩,
   ⟨some 49, .binOp .leq 3 (.tmp 48) (.const (.int .i64 6)) 3, 4, some (45, true)⟩,
   ⟨some 50, .pick (.tmp 45) (.tmp 49) (.const (.bool false)), 4, none⟩,
   mv 51 50 4,
   ⟨some 52, .fieldAddr 24 (.tmp 1) 1, 0, some (51, true)⟩,
   ⟨some 53, .load 22 (.tmp 52), 22, some (51, true)⟩,
   ⟨some 54, .call ⟨.builtin .len, #[.tmp 53], #[22]⟩, 3, some (51, true)⟩,
   ⟨some 55, .binOp .leq 3 (.tmp 54) (.const (.int .i64 4)) 3, 4, some (51, true)⟩,
   ⟨some 56, .pick (.tmp 51) (.tmp 55) (.const (.bool false)), 4, none⟩,
   asg 2 56 4]
def B40 : VC :=
  (.seq (.region r40_0) (.seq (.draw r40_1 3) (.seq (.seq (.region r40_2) (.block 0 (.loop (.seq (.seq (.region r40_3) (.cond (.tmp 17) .skip (.exit 0))) (.seq (.block 1 (.seq (.region r40_5) (.seq (.seq (.region r40_6) (.cond (.tmp 26) (.seq (.region r40_7) .ret) .skip)) (.seq (.region r40_8) (.block 2 (.loop (.seq (.seq (.region r40_9) (.cond (.tmp 29) .skip (.exit 2))) (.seq (.block 3 (.seq (.draw r40_11 2) (.cond (.tmp 40) (.seq (.region r40_12) .ret) .skip))) (.region r40_10))))))))) (.region r40_4)))))) (.seq (.region r40_13) .ret))))
theorem code40 : ∃ c, Tryz.f40.body = some c ∧ abs Tryz.f40.ntmps c = B40 := ⟨_, rfl, by kernel_rfl⟩
theorem hb40 : HasBody Tryz.prog 40 := hasBody_of Tryz.func40 (by kernel_rfl)
theorem res40 : Tryz.f40.results = #[(.tmp 2)] := rfl
theorem enter40 {w : World} {R : Value → World → Prop} (x0 : Value) (h : vc Tryz.prog B40 (retK Tryz.prog #[(.tmp 2)] R) [] (initEnv [x0] 0) w) : FnC Tryz.prog 40 #[x0] w R := by
  obtain ⟨c, h1, h2⟩ := code40
  exact hb40.fn (ret_of_vc mixed Tryz.func40 h1 (Nat.le_of_ble_eq_true rfl) B40 h2 h)
@[push_cast] theorem vr40_0 : VR r40_0 [⟨some 1, .box 24 (.tmp 0), 0, none⟩, ⟨some 2, .assign (.const (.bool false)), 4, none⟩] := vR rfl
@[push_cast] theorem vr40_1 : vc Tryz.prog (.draw r40_1 3) Q ds σ w = drawn Tryz.prog [(⟨some 7, .buildSlice 22 0 #[], 22, none⟩, []), (⟨some 8, .fieldAddr 24 (.tmp 1) 0, 0, none⟩, [1]), (⟨some 9, .load 22 (.tmp 8), 22, none⟩, [8]), (⟨some 10, .call ⟨.builtin .append, #[.tmp 7, .tmp 9], #[22, 22]⟩, 22, none⟩, [7, 9]), (⟨some 11, .fieldAddr 24 (.tmp 1) 1, 0, none⟩, [1]), (⟨some 12, .load 22 (.tmp 11), 22, none⟩, [11]), (⟨some 13, .call ⟨.builtin .append, #[.tmp 10, .tmp 12], #[22, 22]⟩, 22, none⟩, [10, 12]), (⟨some 3, .assign (.tmp 13), 22, none⟩, [13])] 3 (Q .normal ds) σ w := mk_eq rfl
@[push_cast] theorem vr40_2 : VR r40_2 [⟨some 4, .assign (.const (.int .i64 0)), 3, none⟩] := vR rfl
@[push_cast] theorem vr40_3 : VR r40_3 [⟨some 14, .move (.tmp 4), 3, none⟩, ⟨some 15, .move (.tmp 3), 22, none⟩, ⟨some 16, .call ⟨.builtin .len, #[.tmp 15], #[22]⟩, 3, none⟩, ⟨some 17, .binOp .lss 3 (.tmp 14) (.tmp 16) 3, 4, none⟩] := vR rfl
@[push_cast] theorem vr40_5 : VR r40_5 [⟨some 20, .move (.tmp 3), 22, none⟩, ⟨some 21, .move (.tmp 4), 3, none⟩, ⟨some 22, .indexAddr 22 (.tmp 20) (.tmp 21), 0, none⟩, ⟨some 23, .load 9 (.tmp 22), 9, none⟩, ⟨some 24, .call ⟨.value (.func 76), #[.tmp 23], #[9]⟩, 4, none⟩, ⟨some 5, .assign (.tmp 24), 4, none⟩] := vR rfl
@[push_cast] theorem vr40_6 : VR r40_6 [⟨some 25, .move (.tmp 5), 4, none⟩, ⟨some 26, .unOp .not 4 (.tmp 25), 4, none⟩] := vR rfl
@[push_cast] theorem vr40_7 : VR r40_7 [⟨some 2, .assign (.const (.bool false)), 4, none⟩] := vR rfl
@[push_cast] theorem vr40_8 : VR r40_8 [⟨some 6, .assign (.const (.int .i64 0)), 3, none⟩] := vR rfl
@[push_cast] theorem vr40_9 : VR r40_9 [⟨some 27, .move (.tmp 6), 3, none⟩, ⟨some 28, .move (.tmp 4), 3, none⟩, ⟨some 29, .binOp .lss 3 (.tmp 27) (.tmp 28) 3, 4, none⟩] := vR rfl
@[push_cast] theorem vr40_11 : vc Tryz.prog (.draw r40_11 2) Q ds σ w = drawn Tryz.prog [(⟨some 32, .move (.tmp 3), 22, none⟩, [3]), (⟨some 33, .move (.tmp 6), 3, none⟩, [6]), (⟨some 34, .indexAddr 22 (.tmp 32) (.tmp 33), 0, none⟩, [32, 33]), (⟨some 35, .load 9 (.tmp 34), 9, none⟩, [34]), (⟨some 36, .move (.tmp 3), 22, none⟩, [3]), (⟨some 37, .move (.tmp 4), 3, none⟩, [4]), (⟨some 38, .indexAddr 22 (.tmp 36) (.tmp 37), 0, none⟩, [36, 37]), (⟨some 39, .load 9 (.tmp 38), 9, none⟩, [38]), (⟨some 40, .binOp .eql 9 (.tmp 35) (.tmp 39) 9, 4, none⟩, [35, 39])] 2 (Q .normal ds) σ w := mk_eq rfl
@[push_cast] theorem vr40_12 : VR r40_12 [⟨some 2, .assign (.const (.bool false)), 4, none⟩] := vR rfl
@[push_cast] theorem vr40_10 : VR r40_10 [⟨some 30, .move (.tmp 6), 3, none⟩, ⟨some 31, .binOp .add 3 (.tmp 30) (.const (.int .i64 1)) 3, 3, none⟩, ⟨some 6, .assign (.tmp 31), 3, none⟩] := vR rfl
@[push_cast] theorem vr40_4 : VR r40_4 [⟨some 18, .move (.tmp 4), 3, none⟩, ⟨some 19, .binOp .add 3 (.tmp 18) (.const (.int .i64 1)) 3, 3, none⟩, ⟨some 4, .assign (.tmp 19), 3, none⟩] := vR rfl
@[push_cast] theorem vr40_13 : VR r40_13 [⟨some 41, .fieldAddr 24 (.tmp 1) 0, 0, none⟩, ⟨some 42, .load 22 (.tmp 41), 22, none⟩, ⟨some 43, .call ⟨.builtin .len, #[.tmp 42], #[22]⟩, 3, none⟩, ⟨some 44, .binOp .geq 3 (.tmp 43) (.const (.int .i64 1)) 3, 4, none⟩, ⟨some 45, .move (.tmp 44), 4, none⟩, ⟨some 46, .fieldAddr 24 (.tmp 1) 0, 0, some (45, true)⟩, ⟨some 47, .load 22 (.tmp 46), 22, some (45, true)⟩, ⟨some 48, .call ⟨.builtin .len, #[.tmp 47], #[22]⟩, 3, some (45, true)⟩, ⟨some 49, .binOp .leq 3 (.tmp 48) (.const (.int .i64 6)) 3, 4, some (45, true)⟩, ⟨some 50, .pick (.tmp 45) (.tmp 49) (.const (.bool false)), 4, none⟩, ⟨some 51, .move (.tmp 50), 4, none⟩, ⟨some 52, .fieldAddr 24 (.tmp 1) 1, 0, some (51, true)⟩, ⟨some 53, .load 22 (.tmp 52), 22, some (51, true)⟩, ⟨some 54, .call ⟨.builtin .len, #[.tmp 53], #[22]⟩, 3, some (51, true)⟩, ⟨some 55, .binOp .leq 3 (.tmp 54) (.const (.int .i64 4)) 3, 4, some (51, true)⟩, ⟨some 56, .pick (.tmp 51) (.tmp 55) (.const (.bool false)), 4, none⟩, ⟨some 2, .assign (.tmp 56), 4, none⟩] := vR rfl
/-! 41 columbary/columbaryref22.Depth (params #[29], results #[(.tmp 2)], 22 slots) -/
def W41_0 : List Nat := [3, 4, 5, 6, 7, 8, 9, 10, 11, 12, 13, 14, 15, 16, 17, 18, 19]
@[push_cast] theorem W41_0_def : W41_0 = [3, 4, 5, 6, 7, 8, 9, 10, 11, 12, 13, 14, 15, 16, 17, 18, 19] := mk_eq rfl
def r41_0 : List VOp :=
  [⟨some 1, .box 29 (.tmp 0), 0, none⟩,
   ⟨some 2, .assign (.const (.int .i64 0)), 3, none⟩]
def r41_1 : List VOp :=
  [⟨some 3, .assign (.const (.int .i64 0)), 3, none⟩]
def r41_2 : List VOp :=
  [⟨some 4, .assign (.const (.int .i64 0)), 3, none⟩]
def r41_3 : List VOp :=
  [mv 5 4 3,
   fad 6 29 1 3,
   lda 7 27 6,
   ⟨some 8, .call ⟨.builtin .len, #[.tmp 7], #[27]⟩, 3, none⟩,
   ⟨some 9, .binOp .lss 3 (.tmp 5) (.tmp 8) 3, 4, none⟩]
def r41_5 : List VOp :=
  [mv 12 3 3,
   fad 13 29 1 3,
   lda 14 27 13,
   mv 15 4 3,
   iad 16 27 14 15,
   lda 17 29 16,
   ⟨some 18, .call ⟨.value (.func 41), #[.tmp 17], #[29]⟩, 3, none⟩,
   ⟨some 19, .call ⟨.builtin .max, #[.tmp 12, .tmp 18], #[3, 3]⟩, 3, none⟩,
   asg 3 19 3]
def r41_4 : List VOp :=
  [mv 10 4 3,
   ⟨some 11, .binOp .add 3 (.tmp 10) (.const (.int .i64 1)) 3, 3, none⟩,
   asg 4 11 3]
def r41_6 : List VOp :=
  [mv 20 3 3,
   ⟨some 21, .binOp .add 3 (.tmp 20) (.const (.int .i64 1)) 3, 3, none⟩,
   asg 2 21 3]
def B41 : VC :=
  (.seq (.region r41_0) (.seq (.region r41_1) (.seq (.seq (.region r41_2) (.block 0 (.loop (.seq (.seq (.region r41_3) (.cond (.tmp 9) .skip (.exit 0))) (.seq (.block 1 (.region r41_5)) (.region r41_4)))))) (.seq (.region r41_6) .ret))))
theorem code41 : ∃ c, Tryz.f41.body = some c ∧ abs Tryz.f41.ntmps c = B41 := ⟨_, rfl, by kernel_rfl⟩
theorem hb41 : HasBody Tryz.prog 41 := hasBody_of Tryz.func41 (by kernel_rfl)
theorem res41 : Tryz.f41.results = #[(.tmp 2)] := rfl
theorem enter41 {w : World} {R : Value → World → Prop} (x0 : Value) (h : vc Tryz.prog B41 (retK Tryz.prog #[(.tmp 2)] R) [] (initEnv [x0] 0) w) : FnC Tryz.prog 41 #[x0] w R := by
  obtain ⟨c, h1, h2⟩ := code41
  exact hb41.fn (ret_of_vc mixed Tryz.func41 h1 (Nat.le_of_ble_eq_true rfl) B41 h2 h)
@[push_cast] theorem vr41_0 : VR r41_0 [⟨some 1, .box 29 (.tmp 0), 0, none⟩, ⟨some 2, .assign (.const (.int .i64 0)), 3, none⟩] := vR rfl
@[push_cast] theorem vr41_1 : VR r41_1 [⟨some 3, .assign (.const (.int .i64 0)), 3, none⟩] := vR rfl
@[push_cast] theorem vr41_2 : VR r41_2 [⟨some 4, .assign (.const (.int .i64 0)), 3, none⟩] := vR rfl
@[push_cast] theorem vr41_3 : VR r41_3 [⟨some 5, .move (.tmp 4), 3, none⟩, ⟨some 6, .fieldAddr 29 (.tmp 1) 3, 0, none⟩, ⟨some 7, .load 27 (.tmp 6), 27, none⟩, ⟨some 8, .call ⟨.builtin .len, #[.tmp 7], #[27]⟩, 3, none⟩, ⟨some 9, .binOp .lss 3 (.tmp 5) (.tmp 8) 3, 4, none⟩] := vR rfl
@[push_cast] theorem vr41_5 : VR r41_5 [⟨some 12, .move (.tmp 3), 3, none⟩, ⟨some 13, .fieldAddr 29 (.tmp 1) 3, 0, none⟩, ⟨some 14, .load 27 (.tmp 13), 27, none⟩, ⟨some 15, .move (.tmp 4), 3, none⟩, ⟨some 16, .indexAddr 27 (.tmp 14) (.tmp 15), 0, none⟩, ⟨some 17, .load 29 (.tmp 16), 29, none⟩, ⟨some 18, .call ⟨.value (.func 41), #[.tmp 17], #[29]⟩, 3, none⟩, ⟨some 19, .call ⟨.builtin .max, #[.tmp 12, .tmp 18], #[3, 3]⟩, 3, none⟩, ⟨some 3, .assign (.tmp 19), 3, none⟩] := vR rfl
@[push_cast] theorem vr41_4 : VR r41_4 [⟨some 10, .move (.tmp 4), 3, none⟩, ⟨some 11, .binOp .add 3 (.tmp 10) (.const (.int .i64 1)) 3, 3, none⟩, ⟨some 4, .assign (.tmp 11), 3, none⟩] := vR rfl
@[push_cast] theorem vr41_6 : VR r41_6 [⟨some 20, .move (.tmp 3), 3, none⟩, ⟨some 21, .binOp .add 3 (.tmp 20) (.const (.int .i64 1)) 3, 3, none⟩, ⟨some 2, .assign (.tmp 21), 3, none⟩] := vR rfl
/-! 45 columbary/columbaryref23.shape (params #[32], results #[(.tmp 2)], 106 slots) -/
def W45_0 : List Nat := [2, 3, 4, 30, 31, 32, 33, 34, 35, 36, 37, 38, 39, 40, 41, 42, 43, 44]
@[push_cast] theorem W45_0_def : W45_0 = [2, 3, 4, 30, 31, 32, 33, 34, 35, 36, 37, 38, 39, 40, 41, 42, 43, 44] := mk_eq rfl
def W45_1 : List Nat := [2, 5, 6, 7, 45, 46, 47, 48, 49, 50, 51, 52, 53, 54, 55, 56, 57, 58, 59, 60, 61, 62, 63, 64, 65, 66, 67, 68, 69, 70, 71, 72, 73, 74, 75, 76, 77, 78, 79, 80, 81]
@[push_cast] theorem W45_1_def : W45_1 = [2, 5, 6, 7, 45, 46, 47, 48, 49, 50, 51, 52, 53, 54, 55, 56, 57, 58, 59, 60, 61, 62, 63, 64, 65, 66, 67, 68, 69, 70, 71, 72, 73, 74, 75, 76, 77, 78, 79, 80, 81] := mk_eq rfl
def r45_0 : List VOp :=
  [⟨some 1, .box 32 (.tmp 0), 0, none⟩,
   ⟨some 2, .assign (.const (.bool false)), 4, none⟩]
def r45_1 : List VOp :=
  [fad 8 32 1 0,
   lda 9 25 8,
   ⟨some 10, .call ⟨.builtin .len, #[.tmp 9], #[25]⟩, 3, none⟩,
   ⟨some 11, .binOp .lss 3 (.tmp 10) (.const (.int .i64 1)) 3, 4, none⟩,
   mv 12 11 4,
   ⟨some 13, .fieldAddr 32 (.tmp 1) 0, 0, some (12, false)⟩,
   ⟨some 14, .load 25 (.tmp 13), 25, some (12, false)⟩,
   ⟨some 15, .call ⟨.builtin .len, #[.tmp 14], #[25]⟩, 3, some (12, false)⟩,
   ⟨some 16, .binOp .gtr 3 (.tmp 15) (.const (.int .i64 8)) 3, 4, some (12, false)⟩,
   ⟨some 17, .pick (.tmp 12) (.const (.bool true)) (.tmp 16), 4, none⟩,
   mv 18 17 4,
   ⟨some 19, .fieldAddr 32 (.tmp 1) 4, 0, some (18, false)⟩,
   ⟨some 20, .load 22 (.tmp 19), 22, some (18, false)⟩,
   ⟨some 21, .call ⟨.builtin .len, #[.tmp 20], #[22]⟩, 3, some (18, false)⟩,
   ⟨some 22, .binOp .gtr 3 (.tmp 21) (.const (.int .i64 6)) 3, 4, some (18, false)⟩,
   ⟨some 23, .pick (.tmp 18) (.const (.bool true)) (.tmp 22), 4, none⟩,
   mv 24 23 4,
   ⟨some 25, .fieldAddr 32 (.tmp 1) 6, 0, some (24, false)⟩,
   ⟨some 26, .load 30 (.tmp 25), 30, some (24, false)⟩,
   ⟨some 27, .call ⟨.builtin .len, #[.tmp 26], #[30]⟩, 3, some (24, false)⟩,
   ⟨some 28, .binOp .gtr 3 (.tmp 27) (.const (.int .i64 8)) 3, 4, some (24, false)⟩,
   ⟨some 29, .pick (.tmp 24) (.const (.bool true)) (.tmp 28), 4, none⟩]
def r45_2 : List VOp :=
  [⟨some 2, .assign (.const (.bool false)), 4, none⟩]
def r45_3 : List VOp :=
  [⟨some 3, .assign (.const (.int .i64 0)), 3, none⟩]
def r45_4 : List VOp :=
  [mv 30 3 3,
   fad 31 32 1 0,
   lda 32 25 31,
   ⟨some 33, .call ⟨.builtin .len, #[.tmp 32], #[25]⟩, 3, none⟩,
   ⟨some 34, .binOp .lss 3 (.tmp 30) (.tmp 33) 3, 4, none⟩]
def r45_6 : List VOp :=
  [fad 37 32 1 0,
   lda 38 25 37,
   mv 39 3 3,
   iad 40 25 38 39,
   lda 41 58 40,
   ⟨some 42, .call ⟨.value (.func 94), #[.tmp 41], #[58]⟩, 4, none⟩,
   asg 4 42 4]
def r45_7 : List VOp :=
  [mv 43 4 4,
   ⟨some 44, .unOp .not 4 (.tmp 43), 4, none⟩]
def r45_8 : List VOp :=
  [⟨some 2, .assign (.const (.bool false)), 4, none⟩]
def r45_5 : List VOp :=
  [mv 35 3 3,
   ⟨some 36, .binOp .add 3 (.tmp 35) (.const (.int .i64 1)) 3, 3, none⟩,
   asg 3 36 3]
def r45_9 : List VOp :=
  [⟨some 5, .assign (.const (.int .i64 0)), 3, none⟩]
def r45_10 : List VOp :=
  [mv 45 5 3,
   fad 46 32 1 6,
   lda 47 30 46,
   ⟨some 48, .call ⟨.builtin .len, #[.tmp 47], #[30]⟩, 3, none⟩,
   ⟨some 49, .binOp .lss 3 (.tmp 45) (.tmp 48) 3, 4, none⟩]
def r45_12 : List VOp :=
  [fad 52 32 1 6,
   lda 53 30 52,
   mv 54 5 3,
   iad 55 30 53 54,
   lda 56 103 55,
   ⟨some 6, .alloc 103, 0, none⟩,
   ⟨none, .store 103 (.tmp 6) (.tmp 56), 0, none⟩]
def r45_13 : List VOp :=
  [fad 57 103 6 0,
   lda 58 58 57,
   ⟨some 59, .call ⟨.value (.func 94), #[.tmp 58], #[58]⟩, 4, none⟩,
   asg 7 59 4]
def r45_14 : List VOp :=
  [mv 60 7 4,
   ⟨some 61, .unOp .not 4 (.tmp 60), 4, none⟩,
   mv 62 61 4,
   ⟨some 63, .fieldAddr 103 (.tmp 6) 1, 0, some (62, false)⟩,
   ⟨some 64, .load 3 (.tmp 63), 3, some (62, false)⟩,
   ⟨some 65, .binOp .lss 3 (.tmp 64) (.const (.int .i64 (-1))) 3, 4, some (62, false)⟩,
   ⟨some 66, .pick (.tmp 62) (.const (.bool true)) (.tmp 65), 4, none⟩,
   mv 67 66 4,
   ⟨some 68, .fieldAddr 103 (.tmp 6) 1, 0, some (67, false)⟩,
   ⟨some 69, .load 3 (.tmp 68), 3, some (67, false)⟩,
   ⟨some 70, .binOp .gtr 3 (.tmp 69) (.const (.int .i64 1)) 3, 4, some (67, false)⟩,
   ⟨some 71, .pick (.tmp 67) (.const (.bool true)) (.tmp 70), 4, none⟩,
   mv 72 71 4,
   ⟨some 73, .fieldAddr 103 (.tmp 6) 2, 0, some (72, false)⟩,
   ⟨some 74, .load 3 (.tmp 73), 3, some (72, false)⟩,
   ⟨some 75, .binOp .lss 3 (.tmp 74) (.const (.int .i64 (-4611686018427387904))) 3, 4, some (72, false)⟩,
   ⟨some 76, .pick (.tmp 72) (.const (.bool true)) (.tmp 75), 4, none⟩,
   mv 77 76 4,
   ⟨some 78, .fieldAddr 103 (.tmp 6) 2, 0, some (77, false)⟩,
   ⟨some 79, .load 3 (.tmp 78), 3, some (77, false)⟩,
   ⟨some 80, .binOp .gtr 3 (.tmp 79) (.const (.int .i64 4611686018427387904)) 3, 4, some (77, false)⟩,
   ⟨some 81, .pick (.tmp 77) (.const (.bool true)) (.tmp 80), 4, none⟩]
def r45_15 : List VOp :=
  [⟨some 2, .assign (.const (.bool false)), 4, none⟩]
def r45_11 : List VOp :=
  [mv 50 5 3,
   ⟨some 51, .binOp .add 3 (.tmp 50) (.const (.int .i64 1)) 3, 3, none⟩,
   asg 5 51 3]
def r45_16 : List VOp :=
  [fad 82 32 1 5,
   fad 83 29 82 0,
   lda 84 26 83,
   ⟨some 85, .binOp .eql 26 (.tmp 84) (.const (.int .i64 0)) 26, 4, none⟩]
def r45_17 : List VOp :=
  [fad 86 32 1 5,
   fad 87 29 86 3,
   lda 88 27 87,
   ⟨some 89, .call ⟨.builtin .len, #[.tmp 88], #[27]⟩, 3, none⟩,
   ⟨some 90, .binOp .eql 3 (.tmp 89) (.const (.int .i64 0)) 3, 4, none⟩,
   mv 91 90 4,
   ⟨some 92, .fieldAddr 32 (.tmp 1) 5, 0, some (91, true)⟩,
   ⟨some 93, .fieldAddr 29 (.tmp 92) 1, 0, some (91, true)⟩,
   ⟨some 94, .load 9 (.tmp 93), 9, some (91, true)⟩,
   ⟨some 95, .binOp .eql 9 (.tmp 94) (.const (.string { data := #[] })) 9, 4, some (91, true)⟩,
   ⟨some 96, .pick (.tmp 91) (.tmp 95) (.const (.bool false)), 4, none⟩,
   mv 97 96 4,
   ⟨some 98, .fieldAddr 32 (.tmp 1) 5, 0, some (97, true)⟩,
   ⟨some 99, .fieldAddr 29 (.tmp 98) 2, 0, some (97, true)⟩,
   ⟨some 100, .load 9 (.tmp 99), 9, some (97, true)⟩,
   ⟨some 101, .binOp .eql 9 (.tmp 100) (.const (.string { data := #[] })) 9, 4, some (97, true)⟩,
   ⟨some 102, .pick (.tmp 97) (.tmp 101) (.const (.bool false)), 4, none⟩,
   asg 2 102 4]
def r45_18 : List VOp :=
  [fad 103 32 1 5,
   lda 104 29 103,
   ⟨some 105, .call ⟨.value (.func 95), #[(.tmp 104), (.const (.int .i64 30))], #[29, 3]⟩, 4, none⟩,
   asg 2 105 4]
def B45 : VC :=
  (.seq (.region r45_0) (.seq (.seq (.region r45_1) (.cond (.tmp 29) (.seq (.region r45_2) .ret) .skip)) (.seq (.seq (.region r45_3) (.block 0 (.loop (.seq (.seq (.region r45_4) (.cond (.tmp 34) .skip (.exit 0))) (.seq (.block 1 (.seq (.region r45_6) (.seq (.region r45_7) (.cond (.tmp 44) (.seq (.region r45_8) .ret) .skip)))) (.region r45_5)))))) (.seq (.seq (.region r45_9) (.block 2 (.loop (.seq (.seq (.region r45_10) (.cond (.tmp 49) .skip (.exit 2))) (.seq (.block 3 (.seq (.region r45_12) (.seq (.region r45_13) (.seq (.region r45_14) (.cond (.tmp 81) (.seq (.region r45_15) .ret) .skip))))) (.region r45_11)))))) (.seq (.seq (.region r45_16) (.cond (.tmp 85) (.seq (.region r45_17) .ret) .skip)) (.seq (.region r45_18) .ret))))))
theorem code45 : ∃ c, Tryz.f45.body = some c ∧ abs Tryz.f45.ntmps c = B45 := ⟨_, rfl, by kernel_rfl⟩
theorem hb45 : HasBody Tryz.prog 45 := hasBody_of Tryz.func45 (by kernel_rfl)
theorem res45 : Tryz.f45.results = #[(.tmp 2)] := rfl
theorem enter45 {w : World} {R : Value → World → Prop} (x0 : Value) (h : vc Tryz.prog B45 (retK Tryz.prog #[(.tmp 2)] R) [] (initEnv [x0] 0) w) : FnC Tryz.prog 45 #[x0] w R := by
  obtain ⟨c, h1, h2⟩ := code45
  exact hb45.fn (ret_of_vc mixed Tryz.func45 h1 (Nat.le_of_ble_eq_true rfl) B45 h2 h)
@[push_cast] theorem vr45_0 : VR r45_0 [⟨some 1, .box 32 (.tmp 0), 0, none⟩, ⟨some 2, .assign (.const (.bool false)), 4, none⟩] := vR rfl
@[push_cast] theorem vr45_1 : VR r45_1 [⟨some 8, .fieldAddr 32 (.tmp 1) 0, 0, none⟩, ⟨some 9, .load 25 (.tmp 8), 25, none⟩, ⟨some 10, .call ⟨.builtin .len, #[.tmp 9], #[25]⟩, 3, none⟩, ⟨some 11, .binOp .lss 3 (.tmp 10) (.const (.int .i64 1)) 3, 4, none⟩, ⟨some 12, .move (.tmp 11), 4, none⟩, ⟨some 13, .fieldAddr 32 (.tmp 1) 0, 0, some (12, false)⟩, ⟨some 14, .load 25 (.tmp 13), 25, some (12, false)⟩, ⟨some 15, .call ⟨.builtin .len, #[.tmp 14], #[25]⟩, 3, some (12, false)⟩, ⟨some 16, .binOp .gtr 3 (.tmp 15) (.const (.int .i64 8)) 3, 4, some (12, false)⟩, ⟨some 17, .pick (.tmp 12) (.const (.bool true)) (.tmp 16), 4, none⟩, ⟨some 18, .move (.tmp 17), 4, none⟩, ⟨some 19, .fieldAddr 32 (.tmp 1) 4, 0, some (18, false)⟩, ⟨some 20, .load 22 (.tmp 19), 22, some (18, false)⟩, ⟨some 21, .call ⟨.builtin .len, #[.tmp 20], #[22]⟩, 3, some (18, false)⟩, ⟨some 22, .binOp .gtr 3 (.tmp 21) (.const (.int .i64 6)) 3, 4, some (18, false)⟩, ⟨some 23, .pick (.tmp 18) (.const (.bool true)) (.tmp 22), 4, none⟩, ⟨some 24, .move (.tmp 23), 4, none⟩, ⟨some 25, .fieldAddr 32 (.tmp 1) 6, 0, some (24, false)⟩, ⟨some 26, .load 30 (.tmp 25), 30, some (24, false)⟩, ⟨some 27, .call ⟨.builtin .len, #[.tmp 26], #[30]⟩, 3, some (24, false)⟩, ⟨some 28, .binOp .gtr 3 (.tmp 27) (.const (.int .i64 8)) 3, 4, some (24, false)⟩, ⟨some 29, .pick (.tmp 24) (.const (.bool true)) (.tmp 28), 4, none⟩] := vR rfl
@[push_cast] theorem vr45_2 : VR r45_2 [⟨some 2, .assign (.const (.bool false)), 4, none⟩] := vR rfl
@[push_cast] theorem vr45_3 : VR r45_3 [⟨some 3, .assign (.const (.int .i64 0)), 3, none⟩] := vR rfl
@[push_cast] theorem vr45_4 : VR r45_4 [⟨some 30, .move (.tmp 3), 3, none⟩, ⟨some 31, .fieldAddr 32 (.tmp 1) 0, 0, none⟩, ⟨some 32, .load 25 (.tmp 31), 25, none⟩, ⟨some 33, .call ⟨.builtin .len, #[.tmp 32], #[25]⟩, 3, none⟩, ⟨some 34, .binOp .lss 3 (.tmp 30) (.tmp 33) 3, 4, none⟩] := vR rfl
@[push_cast] theorem vr45_6 : VR r45_6 [⟨some 37, .fieldAddr 32 (.tmp 1) 0, 0, none⟩, ⟨some 38, .load 25 (.tmp 37), 25, none⟩, ⟨some 39, .move (.tmp 3), 3, none⟩, ⟨some 40, .indexAddr 25 (.tmp 38) (.tmp 39), 0, none⟩, ⟨some 41, .load 58 (.tmp 40), 58, none⟩, ⟨some 42, .call ⟨.value (.func 94), #[.tmp 41], #[58]⟩, 4, none⟩, ⟨some 4, .assign (.tmp 42), 4, none⟩] := vR rfl
@[push_cast] theorem vr45_7 : VR r45_7 [⟨some 43, .move (.tmp 4), 4, none⟩, ⟨some 44, .unOp .not 4 (.tmp 43), 4, none⟩] := vR rfl
@[push_cast] theorem vr45_8 : VR r45_8 [⟨some 2, .assign (.const (.bool false)), 4, none⟩] := vR rfl
@[push_cast] theorem vr45_5 : VR r45_5 [⟨some 35, .move (.tmp 3), 3, none⟩, ⟨some 36, .binOp .add 3 (.tmp 35) (.const (.int .i64 1)) 3, 3, none⟩, ⟨some 3, .assign (.tmp 36), 3, none⟩] := vR rfl
@[push_cast] theorem vr45_9 : VR r45_9 [⟨some 5, .assign (.const (.int .i64 0)), 3, none⟩] := vR rfl
@[push_cast] theorem vr45_10 : VR r45_10 [⟨some 45, .move (.tmp 5), 3, none⟩, ⟨some 46, .fieldAddr 32 (.tmp 1) 6, 0, none⟩, ⟨some 47, .load 30 (.tmp 46), 30, none⟩, ⟨some 48, .call ⟨.builtin .len, #[.tmp 47], #[30]⟩, 3, none⟩, ⟨some 49, .binOp .lss 3 (.tmp 45) (.tmp 48) 3, 4, none⟩] := vR rfl
@[push_cast] theorem vr45_12 : VR r45_12 [⟨some 52, .fieldAddr 32 (.tmp 1) 6, 0, none⟩, ⟨some 53, .load 30 (.tmp 52), 30, none⟩, ⟨some 54, .move (.tmp 5), 3, none⟩, ⟨some 55, .indexAddr 30 (.tmp 53) (.tmp 54), 0, none⟩, ⟨some 56, .load 103 (.tmp 55), 103, none⟩, ⟨some 6, .alloc 103, 0, none⟩, ⟨none, .store 103 (.tmp 6) (.tmp 56), 0, none⟩] := vR rfl
@[push_cast] theorem vr45_13 : VR r45_13 [⟨some 57, .fieldAddr 103 (.tmp 6) 0, 0, none⟩, ⟨some 58, .load 58 (.tmp 57), 58, none⟩, ⟨some 59, .call ⟨.value (.func 94), #[.tmp 58], #[58]⟩, 4, none⟩, ⟨some 7, .assign (.tmp 59), 4, none⟩] := vR rfl
@[push_cast] theorem vr45_14 : VR r45_14 [⟨some 60, .move (.tmp 7), 4, none⟩, ⟨some 61, .unOp .not 4 (.tmp 60), 4, none⟩, ⟨some 62, .move (.tmp 61), 4, none⟩, ⟨some 63, .fieldAddr 103 (.tmp 6) 1, 0, some (62, false)⟩, ⟨some 64, .load 3 (.tmp 63), 3, some (62, false)⟩, ⟨some 65, .binOp .lss 3 (.tmp 64) (.const (.int .i64 (-1))) 3, 4, some (62, false)⟩, ⟨some 66, .pick (.tmp 62) (.const (.bool true)) (.tmp 65), 4, none⟩, ⟨some 67, .move (.tmp 66), 4, none⟩, ⟨some 68, .fieldAddr 103 (.tmp 6) 1, 0, some (67, false)⟩, ⟨some 69, .load 3 (.tmp 68), 3, some (67, false)⟩, ⟨some 70, .binOp .gtr 3 (.tmp 69) (.const (.int .i64 1)) 3, 4, some (67, false)⟩, ⟨some 71, .pick (.tmp 67) (.const (.bool true)) (.tmp 70), 4, none⟩, ⟨some 72, .move (.tmp 71), 4, none⟩, ⟨some 73, .fieldAddr 103 (.tmp 6) 2, 0, some (72, false)⟩, ⟨some 74, .load 3 (.tmp 73), 3, some (72, false)⟩, ⟨some 75, .binOp .lss 3 (.tmp 74) (.const (.int .i64 (-4611686018427387904))) 3, 4, some (72, false)⟩, ⟨some 76, .pick (.tmp 72) (.const (.bool true)) (.tmp 75), 4, none⟩, ⟨some 77, .move (.tmp 76), 4, none⟩, ⟨some 78, .fieldAddr 103 (.tmp 6) 2, 0, some (77, false)⟩, ⟨some 79, .load 3 (.tmp 78), 3, some (77, false)⟩, ⟨some 80, .binOp .gtr 3 (.tmp 79) (.const (.int .i64 4611686018427387904)) 3, 4, some (77, false)⟩, ⟨some 81, .pick (.tmp 77) (.const (.bool true)) (.tmp 80), 4, none⟩] := vR rfl
@[push_cast] theorem vr45_15 : VR r45_15 [⟨some 2, .assign (.const (.bool false)), 4, none⟩] := vR rfl
@[push_cast] theorem vr45_11 : VR r45_11 [⟨some 50, .move (.tmp 5), 3, none⟩, ⟨some 51, .binOp .add 3 (.tmp 50) (.const (.int .i64 1)) 3, 3, none⟩, ⟨some 5, .assign (.tmp 51), 3, none⟩] := vR rfl
@[push_cast] theorem vr45_16 : VR r45_16 [⟨some 82, .fieldAddr 32 (.tmp 1) 5, 0, none⟩, ⟨some 83, .fieldAddr 29 (.tmp 82) 0, 0, none⟩, ⟨some 84, .load 26 (.tmp 83), 26, none⟩, ⟨some 85, .binOp .eql 26 (.tmp 84) (.const (.int .i64 0)) 26, 4, none⟩] := vR rfl
@[push_cast] theorem vr45_17 : VR r45_17 [⟨some 86, .fieldAddr 32 (.tmp 1) 5, 0, none⟩, ⟨some 87, .fieldAddr 29 (.tmp 86) 3, 0, none⟩, ⟨some 88, .load 27 (.tmp 87), 27, none⟩, ⟨some 89, .call ⟨.builtin .len, #[.tmp 88], #[27]⟩, 3, none⟩, ⟨some 90, .binOp .eql 3 (.tmp 89) (.const (.int .i64 0)) 3, 4, none⟩, ⟨some 91, .move (.tmp 90), 4, none⟩, ⟨some 92, .fieldAddr 32 (.tmp 1) 5, 0, some (91, true)⟩, ⟨some 93, .fieldAddr 29 (.tmp 92) 1, 0, some (91, true)⟩, ⟨some 94, .load 9 (.tmp 93), 9, some (91, true)⟩, ⟨some 95, .binOp .eql 9 (.tmp 94) (.const (.string { data := #[] })) 9, 4, some (91, true)⟩, ⟨some 96, .pick (.tmp 91) (.tmp 95) (.const (.bool false)), 4, none⟩, ⟨some 97, .move (.tmp 96), 4, none⟩, ⟨some 98, .fieldAddr 32 (.tmp 1) 5, 0, some (97, true)⟩, ⟨some 99, .fieldAddr 29 (.tmp 98) 2, 0, some (97, true)⟩, ⟨some 100, .load 9 (.tmp 99), 9, some (97, true)⟩, ⟨some 101, .binOp .eql 9 (.tmp 100) (.const (.string { data := #[] })) 9, 4, some (97, true)⟩, ⟨some 102, .pick (.tmp 97) (.tmp 101) (.const (.bool false)), 4, none⟩, ⟨some 2, .assign (.tmp 102), 4, none⟩] := vR rfl
@[push_cast] theorem vr45_18 : VR r45_18 [⟨some 103, .fieldAddr 32 (.tmp 1) 5, 0, none⟩, ⟨some 104, .load 29 (.tmp 103), 29, none⟩, ⟨some 105, .call ⟨.value (.func 95), #[(.tmp 104), (.const (.int .i64 30))], #[29, 3]⟩, 4, none⟩, ⟨some 2, .assign (.tmp 105), 4, none⟩] := vR rfl
/-! 46 columbary/columbaryref23.names (params #[24, 32], results #[(.tmp 4)], 72 slots) -/
def W46_0 : List Nat := [4, 6, 7, 8, 21, 22, 23, 24, 25, 26, 27, 28, 29, 30, 31, 32, 33, 34, 35, 36, 37, 38]
@[push_cast] theorem W46_0_def : W46_0 = [4, 6, 7, 8, 21, 22, 23, 24, 25, 26, 27, 28, 29, 30, 31, 32, 33, 34, 35, 36, 37, 38] := mk_eq rfl
def W46_1 : List Nat := [4, 9, 10, 39, 40, 41, 42, 43, 44, 45, 46, 47, 48, 49, 50, 51, 52, 53, 54]
@[push_cast] theorem W46_1_def : W46_1 = [4, 9, 10, 39, 40, 41, 42, 43, 44, 45, 46, 47, 48, 49, 50, 51, 52, 53, 54] := mk_eq rfl
def W46_2 : List Nat := [4, 11, 12, 55, 56, 57, 58, 59, 60, 61, 62, 63, 64, 65, 66, 67, 68, 69, 70, 71]
@[push_cast] theorem W46_2_def : W46_2 = [4, 11, 12, 55, 56, 57, 58, 59, 60, 61, 62, 63, 64, 65, 66, 67, 68, 69, 70, 71] := mk_eq rfl
def r46_0 : List VOp :=
  [⟨some 2, .box 24 (.tmp 0), 0, none⟩,
   ⟨some 3, .box 32 (.tmp 1), 0, none⟩,
   ⟨some 4, .assign (.const (.bool false)), 4, none⟩]
def r46_1 : List VOp :=
  [⟨some 13, .buildSlice 22 0 #[], 22, none⟩,
   fad 14 32 3 4,
   lda 15 22 14,
   ⟨some 16, .call ⟨.builtin .append, #[.tmp 13, .tmp 15], #[22, 22]⟩, 22, none⟩,
   fad 17 32 3 5,
   lda 18 29 17,
   ⟨some 19, .call ⟨.value (.func 53), #[.tmp 18], #[29]⟩, 22, none⟩,
   ⟨some 20, .call ⟨.builtin .append, #[.tmp 16, .tmp 19], #[22, 22]⟩, 22, none⟩,
   asg 5 20 22]
def r46_2 : List VOp :=
  [⟨some 6, .assign (.const (.int .i64 0)), 3, none⟩]
def r46_3 : List VOp :=
  [mv 21 6 3,
   mv 22 5 22,
   ⟨some 23, .call ⟨.builtin .len, #[.tmp 22], #[22]⟩, 3, none⟩,
   ⟨some 24, .binOp .lss 3 (.tmp 21) (.tmp 23) 3, 4, none⟩]
def r46_5 : List VOp :=
  [fad 28 24 2 0,
   lda 29 22 28,
   mv 30 5 22,
   mv 31 6 3,
   iad 32 22 30 31,
   lda 33 9 32,
   ⟨some 34, .call ⟨.value (.func 30), #[.tmp 29, .tmp 33], #[22, 9]⟩, 62, none⟩,
   mv 27 34 62,
   ext 35 27 0 3,
   ext 36 27 1 4,
   asg 7 35 3,
   asg 8 36 4]
def r46_6 : List VOp :=
  [mv 37 8 4,
   ⟨some 38, .unOp .not 4 (.tmp 37), 4, none⟩]
def r46_7 : List VOp :=
  [⟨some 4, .assign (.const (.bool false)), 4, none⟩]
def r46_4 : List VOp :=
  [mv 25 6 3,
   ⟨some 26, .binOp .add 3 (.tmp 25) (.const (.int .i64 1)) 3, 3, none⟩,
   asg 6 26 3]
def r46_8 : List VOp :=
  [⟨some 9, .assign (.const (.int .i64 0)), 3, none⟩]
def r46_9 : List VOp :=
  [mv 39 9 3,
   fad 40 32 3 0,
   lda 41 25 40,
   ⟨some 42, .call ⟨.builtin .len, #[.tmp 41], #[25]⟩, 3, none⟩,
   ⟨some 43, .binOp .lss 3 (.tmp 39) (.tmp 42) 3, 4, none⟩]
def r46_11 : List VOp :=
  [lda 46 24 2,
   fad 47 32 3 0,
   lda 48 25 47,
   mv 49 9 3,
   iad 50 25 48 49,
   lda 51 58 50,
   ⟨some 52, .call ⟨.value (.func 96), #[.tmp 46, .tmp 51], #[24, 58]⟩, 4, none⟩,
   asg 10 52 4]
def r46_12 : List VOp :=
  [mv 53 10 4,
   ⟨some 54, .unOp .not 4 (.tmp 53), 4, none⟩]
def r46_13 : List VOp :=
  [⟨some 4, .assign (.const (.bool false)), 4, none⟩]
def r46_10 : List VOp :=
  [mv 44 9 3,
   ⟨some 45, .binOp .add 3 (.tmp 44) (.const (.int .i64 1)) 3, 3, none⟩,
   asg 9 45 3]
def r46_14 : List VOp :=
  [⟨some 11, .assign (.const (.int .i64 0)), 3, none⟩]
def r46_15 : List VOp :=
  [mv 55 11 3,
   fad 56 32 3 6,
   lda 57 30 56,
   ⟨some 58, .call ⟨.builtin .len, #[.tmp 57], #[30]⟩, 3, none⟩,
   ⟨some 59, .binOp .lss 3 (.tmp 55) (.tmp 58) 3, 4, none⟩]
def r46_17 : List VOp :=
  [lda 62 24 2,
   fad 63 32 3 6,
   lda 64 30 63,
   mv 65 11 3,
   iad 66 30 64 65,
   fad 67 103 66 0,
   lda 68 58 67,
   ⟨some 69, .call ⟨.value (.func 96), #[.tmp 62, .tmp 68], #[24, 58]⟩, 4, none⟩,
   asg 12 69 4]
def r46_18 : List VOp :=
  [mv 70 12 4,
   ⟨some 71, .unOp .not 4 (.tmp 70), 4, none⟩]
def r46_19 : List VOp :=
  [⟨some 4, .assign (.const (.bool false)), 4, none⟩]
def r46_16 : List VOp :=
  [mv 60 11 3,
   ⟨some 61, .binOp .add 3 (.tmp 60) (.const (.int .i64 1)) 3, 3, none⟩,
   asg 11 61 3]
def r46_20 : List VOp :=
  [⟨some 4, .assign (.const (.bool true)), 4, none⟩]
def B46 : VC :=
  (.seq (.region r46_0) (.seq (.draw r46_1 4) (.seq (.seq (.region r46_2) (.block 0 (.loop (.seq (.seq (.region r46_3) (.cond (.tmp 24) .skip (.exit 0))) (.seq (.block 1 (.seq (.draw r46_5 2) (.seq (.region r46_6) (.cond (.tmp 38) (.seq (.region r46_7) .ret) .skip)))) (.region r46_4)))))) (.seq (.seq (.region r46_8) (.block 2 (.loop (.seq (.seq (.region r46_9) (.cond (.tmp 43) .skip (.exit 2))) (.seq (.block 3 (.seq (.draw r46_11 3) (.seq (.region r46_12) (.cond (.tmp 54) (.seq (.region r46_13) .ret) .skip)))) (.region r46_10)))))) (.seq (.seq (.region r46_14) (.block 4 (.loop (.seq (.seq (.region r46_15) (.cond (.tmp 59) .skip (.exit 4))) (.seq (.block 5 (.seq (.draw r46_17 3) (.seq (.region r46_18) (.cond (.tmp 71) (.seq (.region r46_19) .ret) .skip)))) (.region r46_16)))))) (.seq (.region r46_20) .ret))))))
theorem code46 : ∃ c, Tryz.f46.body = some c ∧ abs Tryz.f46.ntmps c = B46 := ⟨_, rfl, by kernel_rfl⟩
theorem hb46 : HasBody Tryz.prog 46 := hasBody_of Tryz.func46 (by kernel_rfl)
theorem res46 : Tryz.f46.results = #[(.tmp 4)] := rfl
theorem enter46 {w : World} {R : Value → World → Prop} (x0 x1 : Value) (h : vc Tryz.prog B46 (retK Tryz.prog #[(.tmp 4)] R) [] (initEnv [x0, x1] 0) w) : FnC Tryz.prog 46 #[x0, x1] w R := by
  obtain ⟨c, h1, h2⟩ := code46
  exact hb46.fn (ret_of_vc mixed Tryz.func46 h1 (Nat.le_of_ble_eq_true rfl) B46 h2 h)
@[push_cast] theorem vr46_0 : VR r46_0 [⟨some 2, .box 24 (.tmp 0), 0, none⟩, ⟨some 3, .box 32 (.tmp 1), 0, none⟩, ⟨some 4, .assign (.const (.bool false)), 4, none⟩] := vR rfl
@[push_cast] theorem vr46_1 : vc Tryz.prog (.draw r46_1 4) Q ds σ w = drawn Tryz.prog [(⟨some 13, .buildSlice 22 0 #[], 22, none⟩, []), (⟨some 14, .fieldAddr 32 (.tmp 3) 4, 0, none⟩, [3]), (⟨some 15, .load 22 (.tmp 14), 22, none⟩, [14]), (⟨some 16, .call ⟨.builtin .append, #[.tmp 13, .tmp 15], #[22, 22]⟩, 22, none⟩, [13, 15]), (⟨some 17, .fieldAddr 32 (.tmp 3) 5, 0, none⟩, [3]), (⟨some 18, .load 29 (.tmp 17), 29, none⟩, [17]), (⟨some 19, .call ⟨.value (.func 53), #[.tmp 18], #[29]⟩, 22, none⟩, [18]), (⟨some 20, .call ⟨.builtin .append, #[.tmp 16, .tmp 19], #[22, 22]⟩, 22, none⟩, [16, 19]), (⟨some 5, .assign (.tmp 20), 22, none⟩, [20])] 4 (Q .normal ds) σ w := mk_eq rfl
@[push_cast] theorem vr46_2 : VR r46_2 [⟨some 6, .assign (.const (.int .i64 0)), 3, none⟩] := vR rfl
@[push_cast] theorem vr46_3 : VR r46_3 [⟨some 21, .move (.tmp 6), 3, none⟩, ⟨some 22, .move (.tmp 5), 22, none⟩, ⟨some 23, .call ⟨.builtin .len, #[.tmp 22], #[22]⟩, 3, none⟩, ⟨some 24, .binOp .lss 3 (.tmp 21) (.tmp 23) 3, 4, none⟩] := vR rfl
@[push_cast] theorem vr46_5 : vc Tryz.prog (.draw r46_5 2) Q ds σ w = drawn Tryz.prog [(⟨some 28, .fieldAddr 24 (.tmp 2) 0, 0, none⟩, [2]), (⟨some 29, .load 22 (.tmp 28), 22, none⟩, [28]), (⟨some 30, .move (.tmp 5), 22, none⟩, [5]), (⟨some 31, .move (.tmp 6), 3, none⟩, [6]), (⟨some 32, .indexAddr 22 (.tmp 30) (.tmp 31), 0, none⟩, [30, 31]), (⟨some 33, .load 9 (.tmp 32), 9, none⟩, [32]), (⟨some 34, .call ⟨.value (.func 30), #[.tmp 29, .tmp 33], #[22, 9]⟩, 62, none⟩, [29, 33]), (⟨some 27, .move (.tmp 34), 62, none⟩, [34]), (⟨some 35, .extract (.tmp 27) 0, 3, none⟩, [27]), (⟨some 36, .extract (.tmp 27) 1, 4, none⟩, [27]), (⟨some 7, .assign (.tmp 35), 3, none⟩, [35]), (⟨some 8, .assign (.tmp 36), 4, none⟩, [36])] 2 (Q .normal ds) σ w := mk_eq rfl
@[push_cast] theorem vr46_6 : VR r46_6 [⟨some 37, .move (.tmp 8), 4, none⟩, ⟨some 38, .unOp .not 4 (.tmp 37), 4, none⟩] := vR rfl
@[push_cast] theorem vr46_7 : VR r46_7 [⟨some 4, .assign (.const (.bool false)), 4, none⟩] := vR rfl
@[push_cast] theorem vr46_4 : VR r46_4 [⟨some 25, .move (.tmp 6), 3, none⟩, ⟨some 26, .binOp .add 3 (.tmp 25) (.const (.int .i64 1)) 3, 3, none⟩, ⟨some 6, .assign (.tmp 26), 3, none⟩] := vR rfl
@[push_cast] theorem vr46_8 : VR r46_8 [⟨some 9, .assign (.const (.int .i64 0)), 3, none⟩] := vR rfl
@[push_cast] theorem vr46_9 : VR r46_9 [⟨some 39, .move (.tmp 9), 3, none⟩, ⟨some 40, .fieldAddr 32 (.tmp 3) 0, 0, none⟩, ⟨some 41, .load 25 (.tmp 40), 25, none⟩, ⟨some 42, .call ⟨.builtin .len, #[.tmp 41], #[25]⟩, 3, none⟩, ⟨some 43, .binOp .lss 3 (.tmp 39) (.tmp 42) 3, 4, none⟩] := vR rfl
@[push_cast] theorem vr46_11 : vc Tryz.prog (.draw r46_11 3) Q ds σ w = drawn Tryz.prog [(⟨some 46, .load 24 (.tmp 2), 24, none⟩, [2]), (⟨some 47, .fieldAddr 32 (.tmp 3) 0, 0, none⟩, [3]), (⟨some 48, .load 25 (.tmp 47), 25, none⟩, [47]), (⟨some 49, .move (.tmp 9), 3, none⟩, [9]), (⟨some 50, .indexAddr 25 (.tmp 48) (.tmp 49), 0, none⟩, [48, 49]), (⟨some 51, .load 58 (.tmp 50), 58, none⟩, [50]), (⟨some 52, .call ⟨.value (.func 96), #[.tmp 46, .tmp 51], #[24, 58]⟩, 4, none⟩, [46, 51]), (⟨some 10, .assign (.tmp 52), 4, none⟩, [52])] 3 (Q .normal ds) σ w := mk_eq rfl
@[push_cast] theorem vr46_12 : VR r46_12 [⟨some 53, .move (.tmp 10), 4, none⟩, ⟨some 54, .unOp .not 4 (.tmp 53), 4, none⟩] := vR rfl
@[push_cast] theorem vr46_13 : VR r46_13 [⟨some 4, .assign (.const (.bool false)), 4, none⟩] := vR rfl
@[push_cast] theorem vr46_10 : VR r46_10 [⟨some 44, .move (.tmp 9), 3, none⟩, ⟨some 45, .binOp .add 3 (.tmp 44) (.const (.int .i64 1)) 3, 3, none⟩, ⟨some 9, .assign (.tmp 45), 3, none⟩] := vR rfl
@[push_cast] theorem vr46_14 : VR r46_14 [⟨some 11, .assign (.const (.int .i64 0)), 3, none⟩] := vR rfl
@[push_cast] theorem vr46_15 : VR r46_15 [⟨some 55, .move (.tmp 11), 3, none⟩, ⟨some 56, .fieldAddr 32 (.tmp 3) 6, 0, none⟩, ⟨some 57, .load 30 (.tmp 56), 30, none⟩, ⟨some 58, .call ⟨.builtin .len, #[.tmp 57], #[30]⟩, 3, none⟩, ⟨some 59, .binOp .lss 3 (.tmp 55) (.tmp 58) 3, 4, none⟩] := vR rfl
@[push_cast] theorem vr46_17 : vc Tryz.prog (.draw r46_17 3) Q ds σ w = drawn Tryz.prog [(⟨some 62, .load 24 (.tmp 2), 24, none⟩, [2]), (⟨some 63, .fieldAddr 32 (.tmp 3) 6, 0, none⟩, [3]), (⟨some 64, .load 30 (.tmp 63), 30, none⟩, [63]), (⟨some 65, .move (.tmp 11), 3, none⟩, [11]), (⟨some 66, .indexAddr 30 (.tmp 64) (.tmp 65), 0, none⟩, [64, 65]), (⟨some 67, .fieldAddr 103 (.tmp 66) 0, 0, none⟩, [66]), (⟨some 68, .load 58 (.tmp 67), 58, none⟩, [67]), (⟨some 69, .call ⟨.value (.func 96), #[.tmp 62, .tmp 68], #[24, 58]⟩, 4, none⟩, [62, 68]), (⟨some 12, .assign (.tmp 69), 4, none⟩, [69])] 3 (Q .normal ds) σ w := mk_eq rfl
@[push_cast] theorem vr46_18 : VR r46_18 [⟨some 70, .move (.tmp 12), 4, none⟩, ⟨some 71, .unOp .not 4 (.tmp 70), 4, none⟩] := vR rfl
@[push_cast] theorem vr46_19 : VR r46_19 [⟨some 4, .assign (.const (.bool false)), 4, none⟩] := vR rfl
@[push_cast] theorem vr46_16 : VR r46_16 [⟨some 60, .move (.tmp 11), 3, none⟩, ⟨some 61, .binOp .add 3 (.tmp 60) (.const (.int .i64 1)) 3, 3, none⟩, ⟨some 11, .assign (.tmp 61), 3, none⟩] := vR rfl
@[push_cast] theorem vr46_20 : VR r46_20 [⟨some 4, .assign (.const (.bool true)), 4, none⟩] := vR rfl
/-! 47 columbary/columbaryref23.types (params #[32], results #[(.tmp 2)], 89 slots) -/
def W47_0 : List Nat := [2, 3, 4, 8, 9, 10, 11, 12, 13, 14, 15, 16, 17, 18, 19, 20, 21, 22, 23, 24, 25, 26, 27, 28, 29, 30]
@[push_cast] theorem W47_0_def : W47_0 = [2, 3, 4, 8, 9, 10, 11, 12, 13, 14, 15, 16, 17, 18, 19, 20, 21, 22, 23, 24, 25, 26, 27, 28, 29, 30] := mk_eq rfl
def W47_1 : List Nat := [2, 4, 15, 16, 17, 18, 19, 20, 21, 22, 23, 24, 25, 26, 27, 28, 29, 30]
@[push_cast] theorem W47_1_def : W47_1 = [2, 4, 15, 16, 17, 18, 19, 20, 21, 22, 23, 24, 25, 26, 27, 28, 29, 30] := mk_eq rfl
def r47_0 : List VOp :=
  [⟨some 1, .box 32 (.tmp 0), 0, none⟩,
   ⟨some 2, .assign (.const (.bool false)), 4, none⟩]
def r47_1 : List VOp :=
  [⟨some 3, .assign (.const (.int .i64 0)), 3, none⟩]
def r47_2 : List VOp :=
  [mv 8 3 3,
   fad 9 32 1 4,
   lda 10 22 9,
   ⟨some 11, .call ⟨.builtin .len, #[.tmp 10], #[22]⟩, 3, none⟩,
   ⟨some 12, .binOp .lss 3 (.tmp 8) (.tmp 11) 3, 4, none⟩]
def r47_4 : List VOp :=
  [⟨some 4, .assign (.const (.int .i64 0)), 3, none⟩]
def r47_5 : List VOp :=
  [mv 15 4 3,
   mv 16 3 3,
   ⟨some 17, .binOp .lss 3 (.tmp 15) (.tmp 16) 3, 4, none⟩]
def r47_7 : List VOp :=
  [fad 20 32 1 4,
   lda 21 22 20,
   mv 22 3 3,
   iad 23 22 21 22,
   lda 24 9 23,
   fad 25 32 1 4,
   lda 26 22 25,
   mv 27 4 3,
   iad 28 22 26 27,
   lda 29 9 28,
   ⟨some 30, .binOp .eql 9 (.tmp 24) (.tmp 29) 9, 4, none⟩]
def r47_8 : List VOp :=
  [⟨some 2, .assign (.const (.bool false)), 4, none⟩]
def r47_6 : List VOp :=
  [mv 18 4 3,
   ⟨some 19, .binOp .add 3 (.tmp 18) (.const (.int .i64 1)) 3, 3, none⟩,
   asg 4 19 3]
def r47_3 : List VOp :=
  [mv 13 3 3,
   ⟨some 14, .binOp .add 3 (.tmp 13) (.const (.int .i64 1)) 3, 3, none⟩,
   asg 3 14 3]
def r47_9 : List VOp :=
  [fad 31 32 1 5,
   lda 32 29 31,
   ⟨some 33, .call ⟨.value (.func 97), #[.tmp 32], #[29]⟩, 4, none⟩,
   asg 5 33 4]
def r47_10 : List VOp :=
  [fad 34 32 1 3,
   lda 35 3 34,
   ⟨some 36, .binOp .eql 3 (.tmp 35) (.const (.int .i64 0)) 3, 4, none⟩,
   mv 37 36 4,
   ⟨some 38, .fieldAddr 32 (.tmp 1) 3, 0, some (37, false)⟩,
   ⟨some 39, .load 3 (.tmp 38), 3, some (37, false)⟩,
   ⟨some 40, .call ⟨.value (.func 98), #[.tmp 39], #[3]⟩, 4, some (37, false)⟩,
   ⟨some 41, .pick (.tmp 37) (.const (.bool true)) (.tmp 40), 4, none⟩,
   asg 6 41 4]
def r47_11 : List VOp :=
  [fad 42 32 1 0,
   lda 43 25 42,
   ⟨some 44, .call ⟨.builtin .len, #[.tmp 43], #[25]⟩, 3, none⟩,
   asg 7 44 3]
def r47_12 : List VOp :=
  [mv 45 5 4,
   mv 46 45 4,
   ⟨some 47, .move (.tmp 6), 4, some (46, true)⟩,
   ⟨some 48, .pick (.tmp 46) (.tmp 47) (.const (.bool false)), 4, none⟩,
   mv 49 48 4,
   ⟨some 50, .fieldAddr 32 (.tmp 1) 1, 0, some (49, true)⟩,
   ⟨some 51, .load 3 (.tmp 50), 3, some (49, true)⟩,
   ⟨some 52, .binOp .geq 3 (.tmp 51) (.const (.int .i64 0)) 3, 4, some (49, true)⟩,
   ⟨some 53, .pick (.tmp 49) (.tmp 52) (.const (.bool false)), 4, none⟩,
   mv 54 53 4,
   ⟨some 55, .fieldAddr 32 (.tmp 1) 1, 0, some (54, true)⟩,
   ⟨some 56, .load 3 (.tmp 55), 3, some (54, true)⟩,
   ⟨some 57, .fieldAddr 32 (.tmp 1) 2, 0, some (54, true)⟩,
   ⟨some 58, .load 3 (.tmp 57), 3, some (54, true)⟩,
   ⟨some 59, .binOp .lss 3 (.tmp 56) (.tmp 58) 3, 4, some (54, true)⟩,
   ⟨some 60, .pick (.tmp 54) (.tmp 59) (.const (.bool false)), 4, none⟩,
   mv 61 60 4,
   ⟨some 62, .fieldAddr 32 (.tmp 1) 2, 0, some (61, true)⟩,
   ⟨some 63, .load 3 (.tmp 62), 3, some (61, true)⟩,
   ⟨some 64, .binOp .leq 3 (.tmp 63) (.const (.int .i64 1099511627776)) 3, 4, some (61, true)⟩,
   ⟨some 65, .pick (.tmp 61) (.tmp 64) (.const (.bool false)), 4, none⟩,
   mv 66 65 4,
   ⟨some 67, .fieldAddr 32 (.tmp 1) 7, 0, some (66, true)⟩,
   ⟨some 68, .load 3 (.tmp 67), 3, some (66, true)⟩,
   ⟨some 69, .move (.tmp 7), 3, some (66, true)⟩,
   ⟨some 70, .unOp .neg 3 (.tmp 69), 3, some (66, true)⟩,
   ⟨some 71, .binOp .geq 3 (.tmp 68) (.tmp 70) 3, 4, some (66, true)⟩,
   ⟨some 72, .pick (.tmp 66) (.tmp 71) (.const (.bool false)), 4, none⟩,
   mv 73 72 4,
   ⟨some 74, .fieldAddr 32 (.tmp 1) 7, 0, some (73, true)⟩,
   ⟨some 75, .load 3 (.tmp 74), 3, some (73, true)⟩,
   ⟨some 76, .move (.tmp 7), 3, some (73, true)⟩,
   ⟨some 77, .binOp .leq 3 (.tmp 75) (.tmp 76) 3, 4, some (73, true)⟩,
   ⟨some 78, .pick (.tmp 73) (.tmp 77) (.const (.bool false)), 4, none⟩,
   mv 79 78 4,
   ⟨some 80, .fieldAddr 32 (.tmp 1) 8, 0, some (79, true)⟩,
   ⟨some 81, .load 3 (.tmp 80), 3, some (79, true)⟩,
   ⟨some 82, .binOp .geq 3 (.tmp 81) (.const (.int .i64 0)) 3, 4, some (79, true)⟩,
   ⟨some 83, .pick (.tmp 79) (.tmp 82) (.const (.bool false)), 4, none⟩,
   mv 84 83 4,
   ⟨some 85, .fieldAddr 32 (.tmp 1) 8, 0, some (84, true)⟩,
   ⟨some 86, .load 3 (.tmp 85), 3, some (84, true)⟩,
   ⟨some 87, .binOp .leq 3 (.tmp 86) (.const (.int .i64 1000)) 3, 4, some (84, true)⟩,
   ⟨some 88, .pick (.tmp 84) (.tmp 87) (.const (.bool false)), 4, none⟩,
   asg 2 88 4]
def B47 : VC :=
  (.seq (.region r47_0) (.seq (.seq (.region r47_1) (.block 0 (.loop (.seq (.seq (.region r47_2) (.cond (.tmp 12) .skip (.exit 0))) (.seq (.block 1 (.seq (.region r47_4) (.block 2 (.loop (.seq (.seq (.region r47_5) (.cond (.tmp 17) .skip (.exit 2))) (.seq (.block 3 (.seq (.draw r47_7 2) (.cond (.tmp 30) (.seq (.region r47_8) .ret) .skip))) (.region r47_6))))))) (.region r47_3)))))) (.seq (.region r47_9) (.seq (.region r47_10) (.seq (.region r47_11) (.seq (.region r47_12) .ret))))))
theorem code47 : ∃ c, Tryz.f47.body = some c ∧ abs Tryz.f47.ntmps c = B47 := ⟨_, rfl, by kernel_rfl⟩
theorem hb47 : HasBody Tryz.prog 47 := hasBody_of Tryz.func47 (by kernel_rfl)
theorem res47 : Tryz.f47.results = #[(.tmp 2)] := rfl
theorem enter47 {w : World} {R : Value → World → Prop} (x0 : Value) (h : vc Tryz.prog B47 (retK Tryz.prog #[(.tmp 2)] R) [] (initEnv [x0] 0) w) : FnC Tryz.prog 47 #[x0] w R := by
  obtain ⟨c, h1, h2⟩ := code47
  exact hb47.fn (ret_of_vc mixed Tryz.func47 h1 (Nat.le_of_ble_eq_true rfl) B47 h2 h)
@[push_cast] theorem vr47_0 : VR r47_0 [⟨some 1, .box 32 (.tmp 0), 0, none⟩, ⟨some 2, .assign (.const (.bool false)), 4, none⟩] := vR rfl
@[push_cast] theorem vr47_1 : VR r47_1 [⟨some 3, .assign (.const (.int .i64 0)), 3, none⟩] := vR rfl
@[push_cast] theorem vr47_2 : VR r47_2 [⟨some 8, .move (.tmp 3), 3, none⟩, ⟨some 9, .fieldAddr 32 (.tmp 1) 4, 0, none⟩, ⟨some 10, .load 22 (.tmp 9), 22, none⟩, ⟨some 11, .call ⟨.builtin .len, #[.tmp 10], #[22]⟩, 3, none⟩, ⟨some 12, .binOp .lss 3 (.tmp 8) (.tmp 11) 3, 4, none⟩] := vR rfl
@[push_cast] theorem vr47_4 : VR r47_4 [⟨some 4, .assign (.const (.int .i64 0)), 3, none⟩] := vR rfl
@[push_cast] theorem vr47_5 : VR r47_5 [⟨some 15, .move (.tmp 4), 3, none⟩, ⟨some 16, .move (.tmp 3), 3, none⟩, ⟨some 17, .binOp .lss 3 (.tmp 15) (.tmp 16) 3, 4, none⟩] := vR rfl
@[push_cast] theorem vr47_7 : vc Tryz.prog (.draw r47_7 2) Q ds σ w = drawn Tryz.prog [(⟨some 20, .fieldAddr 32 (.tmp 1) 4, 0, none⟩, [1]), (⟨some 21, .load 22 (.tmp 20), 22, none⟩, [20]), (⟨some 22, .move (.tmp 3), 3, none⟩, [3]), (⟨some 23, .indexAddr 22 (.tmp 21) (.tmp 22), 0, none⟩, [21, 22]), (⟨some 24, .load 9 (.tmp 23), 9, none⟩, [23]), (⟨some 25, .fieldAddr 32 (.tmp 1) 4, 0, none⟩, [1]), (⟨some 26, .load 22 (.tmp 25), 22, none⟩, [25]), (⟨some 27, .move (.tmp 4), 3, none⟩, [4]), (⟨some 28, .indexAddr 22 (.tmp 26) (.tmp 27), 0, none⟩, [26, 27]), (⟨some 29, .load 9 (.tmp 28), 9, none⟩, [28]), (⟨some 30, .binOp .eql 9 (.tmp 24) (.tmp 29) 9, 4, none⟩, [24, 29])] 2 (Q .normal ds) σ w := mk_eq rfl
@[push_cast] theorem vr47_8 : VR r47_8 [⟨some 2, .assign (.const (.bool false)), 4, none⟩] := vR rfl
@[push_cast] theorem vr47_6 : VR r47_6 [⟨some 18, .move (.tmp 4), 3, none⟩, ⟨some 19, .binOp .add 3 (.tmp 18) (.const (.int .i64 1)) 3, 3, none⟩, ⟨some 4, .assign (.tmp 19), 3, none⟩] := vR rfl
@[push_cast] theorem vr47_3 : VR r47_3 [⟨some 13, .move (.tmp 3), 3, none⟩, ⟨some 14, .binOp .add 3 (.tmp 13) (.const (.int .i64 1)) 3, 3, none⟩, ⟨some 3, .assign (.tmp 14), 3, none⟩] := vR rfl
@[push_cast] theorem vr47_9 : VR r47_9 [⟨some 31, .fieldAddr 32 (.tmp 1) 5, 0, none⟩, ⟨some 32, .load 29 (.tmp 31), 29, none⟩, ⟨some 33, .call ⟨.value (.func 97), #[.tmp 32], #[29]⟩, 4, none⟩, ⟨some 5, .assign (.tmp 33), 4, none⟩] := vR rfl
@[push_cast] theorem vr47_10 : VR r47_10 [⟨some 34, .fieldAddr 32 (.tmp 1) 3, 0, none⟩, ⟨some 35, .load 3 (.tmp 34), 3, none⟩, ⟨some 36, .binOp .eql 3 (.tmp 35) (.const (.int .i64 0)) 3, 4, none⟩, ⟨some 37, .move (.tmp 36), 4, none⟩, ⟨some 38, .fieldAddr 32 (.tmp 1) 3, 0, some (37, false)⟩, ⟨some 39, .load 3 (.tmp 38), 3, some (37, false)⟩, ⟨some 40, .call ⟨.value (.func 98), #[.tmp 39], #[3]⟩, 4, some (37, false)⟩, ⟨some 41, .pick (.tmp 37) (.const (.bool true)) (.tmp 40), 4, none⟩, ⟨some 6, .assign (.tmp 41), 4, none⟩] := vR rfl
@[push_cast] theorem vr47_11 : VR r47_11 [⟨some 42, .fieldAddr 32 (.tmp 1) 0, 0, none⟩, ⟨some 43, .load 25 (.tmp 42), 25, none⟩, ⟨some 44, .call ⟨.builtin .len, #[.tmp 43], #[25]⟩, 3, none⟩, ⟨some 7, .assign (.tmp 44), 3, none⟩] := vR rfl
@[push_cast] theorem vr47_12 : VR r47_12 [⟨some 45, .move (.tmp 5), 4, none⟩, ⟨some 46, .move (.tmp 45), 4, none⟩, ⟨some 47, .move (.tmp 6), 4, some (46, true)⟩, ⟨some 48, .pick (.tmp 46) (.tmp 47) (.const (.bool false)), 4, none⟩, ⟨some 49, .move (.tmp 48), 4, none⟩, ⟨some 50, .fieldAddr 32 (.tmp 1) 1, 0, some (49, true)⟩, ⟨some 51, .load 3 (.tmp 50), 3, some (49, true)⟩, ⟨some 52, .binOp .geq 3 (.tmp 51) (.const (.int .i64 0)) 3, 4, some (49, true)⟩, ⟨some 53, .pick (.tmp 49) (.tmp 52) (.const (.bool false)), 4, none⟩, ⟨some 54, .move (.tmp 53), 4, none⟩, ⟨some 55, .fieldAddr 32 (.tmp 1) 1, 0, some (54, true)⟩, ⟨some 56, .load 3 (.tmp 55), 3, some (54, true)⟩, ⟨some 57, .fieldAddr 32 (.tmp 1) 2, 0, some (54, true)⟩, ⟨some 58, .load 3 (.tmp 57), 3, some (54, true)⟩, ⟨some 59, .binOp .lss 3 (.tmp 56) (.tmp 58) 3, 4, some (54, true)⟩, ⟨some 60, .pick (.tmp 54) (.tmp 59) (.const (.bool false)), 4, none⟩, ⟨some 61, .move (.tmp 60), 4, none⟩, ⟨some 62, .fieldAddr 32 (.tmp 1) 2, 0, some (61, true)⟩, ⟨some 63, .load 3 (.tmp 62), 3, some (61, true)⟩, ⟨some 64, .binOp .leq 3 (.tmp 63) (.const (.int .i64 1099511627776)) 3, 4, some (61, true)⟩, ⟨some 65, .pick (.tmp 61) (.tmp 64) (.const (.bool false)), 4, none⟩, ⟨some 66, .move (.tmp 65), 4, none⟩, ⟨some 67, .fieldAddr 32 (.tmp 1) 7, 0, some (66, true)⟩, ⟨some 68, .load 3 (.tmp 67), 3, some (66, true)⟩, ⟨some 69, .move (.tmp 7), 3, some (66, true)⟩, ⟨some 70, .unOp .neg 3 (.tmp 69), 3, some (66, true)⟩, ⟨some 71, .binOp .geq 3 (.tmp 68) (.tmp 70) 3, 4, some (66, true)⟩, ⟨some 72, .pick (.tmp 66) (.tmp 71) (.const (.bool false)), 4, none⟩, ⟨some 73, .move (.tmp 72), 4, none⟩, ⟨some 74, .fieldAddr 32 (.tmp 1) 7, 0, some (73, true)⟩, ⟨some 75, .load 3 (.tmp 74), 3, some (73, true)⟩, ⟨some 76, .move (.tmp 7), 3, some (73, true)⟩, ⟨some 77, .binOp .leq 3 (.tmp 75) (.tmp 76) 3, 4, some (73, true)⟩, ⟨some 78, .pick (.tmp 73) (.tmp 77) (.const (.bool false)), 4, none⟩, ⟨some 79, .move (.tmp 78), 4, none⟩, ⟨some 80, .fieldAddr 32 (.tmp 1) 8, 0, some (79, true)⟩, ⟨some 81, .load 3 (.tmp 80), 3, some (79, true)⟩, ⟨some 82, .binOp .geq 3 (.tmp 81) (.const (.int .i64 0)) 3, 4, some (79, true)⟩, ⟨some 83, .pick (.tmp 79) (.tmp 82) (.const (.bool false)), 4, none⟩, ⟨some 84, .move (.tmp 83), 4, none⟩, ⟨some 85, .fieldAddr 32 (.tmp 1) 8, 0, some (84, true)⟩, ⟨some 86, .load 3 (.tmp 85), 3, some (84, true)⟩, ⟨some 87, .binOp .leq 3 (.tmp 86) (.const (.int .i64 1000)) 3, 4, some (84, true)⟩, ⟨some 88, .pick (.tmp 84) (.tmp 87) (.const (.bool false)), 4, none⟩, ⟨some 2, .assign (.tmp 88), 4, none⟩] := vR rfl
/-! 53 columbary/columbaryref23.dims (params #[29], results #[(.tmp 2)], 34 slots) -/
def W53_0 : List Nat := [3, 4, 18, 19, 20, 21, 22, 23, 24, 25, 26, 27, 28, 29, 30, 31, 32]
@[push_cast] theorem W53_0_def : W53_0 = [3, 4, 18, 19, 20, 21, 22, 23, 24, 25, 26, 27, 28, 29, 30, 31, 32] := mk_eq rfl
def r53_0 : List VOp :=
  [⟨some 1, .box 29 (.tmp 0), 0, none⟩,
   ⟨some 2, .assign (.const (.slice none 0 0)), 22, none⟩]
def r53_1 : List VOp :=
  [⟨some 3, .assign (.const (.slice none 0 0)), 22, none⟩]
def r53_2 : List VOp :=
  [fad 5 29 1 0,
   lda 6 26 5,
   ⟨some 7, .binOp .eql 26 (.tmp 6) (.const (.int .i64 1)) 26, 4, none⟩,
   mv 8 7 4,
   ⟨some 9, .fieldAddr 29 (.tmp 1) 0, 0, some (8, false)⟩,
   ⟨some 10, .load 26 (.tmp 9), 26, some (8, false)⟩,
   ⟨some 11, .binOp .eql 26 (.tmp 10) (.const (.int .i64 2)) 26, 4, some (8, false)⟩,
   ⟨some 12, .pick (.tmp 8) (.const (.bool true)) (.tmp 11), 4, none⟩]
def r53_3 : List VOp :=
  [mv 13 3 22,
   fad 14 29 1 1,
   lda 15 9 14,
   ⟨some 16, .buildSlice 22 1 #[(0, (.tmp 15))], 22, none⟩,
   ⟨some 17, .call ⟨.builtin .append, #[.tmp 13, .tmp 16], #[22, 22]⟩, 22, none⟩,
   asg 3 17 22]
def r53_4 : List VOp :=
  [⟨some 4, .assign (.const (.int .i64 0)), 3, none⟩]
def r53_5 : List VOp :=
  [mv 18 4 3,
   fad 19 29 1 3,
   lda 20 27 19,
   ⟨some 21, .call ⟨.builtin .len, #[.tmp 20], #[27]⟩, 3, none⟩,
   ⟨some 22, .binOp .lss 3 (.tmp 18) (.tmp 21) 3, 4, none⟩]
def r53_7 : List VOp :=
  [mv 25 3 22,
   fad 26 29 1 3,
   lda 27 27 26,
   mv 28 4 3,
   iad 29 27 27 28,
   lda 30 29 29,
   ⟨some 31, .call ⟨.value (.func 53), #[.tmp 30], #[29]⟩, 22, none⟩,
   ⟨some 32, .call ⟨.builtin .append, #[.tmp 25, .tmp 31], #[22, 22]⟩, 22, none⟩,
   asg 3 32 22]
def r53_6 : List VOp :=
  [mv 23 4 3,
   ⟨some 24, .binOp .add 3 (.tmp 23) (.const (.int .i64 1)) 3, 3, none⟩,
   asg 4 24 3]
def r53_8 : List VOp :=
  [mv 33 3 22,
   asg 2 33 22]
def B53 : VC :=
  (.seq (.region r53_0) (.seq (.region r53_1) (.seq (.seq (.region r53_2) (.cond (.tmp 12) (.region r53_3) .skip)) (.seq (.seq (.region r53_4) (.block 0 (.loop (.seq (.seq (.region r53_5) (.cond (.tmp 22) .skip (.exit 0))) (.seq (.block 1 (.region r53_7)) (.region r53_6)))))) (.seq (.region r53_8) .ret)))))
theorem code53 : ∃ c, Tryz.f53.body = some c ∧ abs Tryz.f53.ntmps c = B53 := ⟨_, rfl, by kernel_rfl⟩
theorem hb53 : HasBody Tryz.prog 53 := hasBody_of Tryz.func53 (by kernel_rfl)
theorem res53 : Tryz.f53.results = #[(.tmp 2)] := rfl
theorem enter53 {w : World} {R : Value → World → Prop} (x0 : Value) (h : vc Tryz.prog B53 (retK Tryz.prog #[(.tmp 2)] R) [] (initEnv [x0] 0) w) : FnC Tryz.prog 53 #[x0] w R := by
  obtain ⟨c, h1, h2⟩ := code53
  exact hb53.fn (ret_of_vc mixed Tryz.func53 h1 (Nat.le_of_ble_eq_true rfl) B53 h2 h)
@[push_cast] theorem vr53_0 : VR r53_0 [⟨some 1, .box 29 (.tmp 0), 0, none⟩, ⟨some 2, .assign (.const (.slice none 0 0)), 22, none⟩] := vR rfl
@[push_cast] theorem vr53_1 : VR r53_1 [⟨some 3, .assign (.const (.slice none 0 0)), 22, none⟩] := vR rfl
@[push_cast] theorem vr53_2 : VR r53_2 [⟨some 5, .fieldAddr 29 (.tmp 1) 0, 0, none⟩, ⟨some 6, .load 26 (.tmp 5), 26, none⟩, ⟨some 7, .binOp .eql 26 (.tmp 6) (.const (.int .i64 1)) 26, 4, none⟩, ⟨some 8, .move (.tmp 7), 4, none⟩, ⟨some 9, .fieldAddr 29 (.tmp 1) 0, 0, some (8, false)⟩, ⟨some 10, .load 26 (.tmp 9), 26, some (8, false)⟩, ⟨some 11, .binOp .eql 26 (.tmp 10) (.const (.int .i64 2)) 26, 4, some (8, false)⟩, ⟨some 12, .pick (.tmp 8) (.const (.bool true)) (.tmp 11), 4, none⟩] := vR rfl
@[push_cast] theorem vr53_3 : VR r53_3 [⟨some 13, .move (.tmp 3), 22, none⟩, ⟨some 14, .fieldAddr 29 (.tmp 1) 1, 0, none⟩, ⟨some 15, .load 9 (.tmp 14), 9, none⟩, ⟨some 16, .buildSlice 22 1 #[(0, (.tmp 15))], 22, none⟩, ⟨some 17, .call ⟨.builtin .append, #[.tmp 13, .tmp 16], #[22, 22]⟩, 22, none⟩, ⟨some 3, .assign (.tmp 17), 22, none⟩] := vR rfl
@[push_cast] theorem vr53_4 : VR r53_4 [⟨some 4, .assign (.const (.int .i64 0)), 3, none⟩] := vR rfl
@[push_cast] theorem vr53_5 : VR r53_5 [⟨some 18, .move (.tmp 4), 3, none⟩, ⟨some 19, .fieldAddr 29 (.tmp 1) 3, 0, none⟩, ⟨some 20, .load 27 (.tmp 19), 27, none⟩, ⟨some 21, .call ⟨.builtin .len, #[.tmp 20], #[27]⟩, 3, none⟩, ⟨some 22, .binOp .lss 3 (.tmp 18) (.tmp 21) 3, 4, none⟩] := vR rfl
@[push_cast] theorem vr53_7 : VR r53_7 [⟨some 25, .move (.tmp 3), 22, none⟩, ⟨some 26, .fieldAddr 29 (.tmp 1) 3, 0, none⟩, ⟨some 27, .load 27 (.tmp 26), 27, none⟩, ⟨some 28, .move (.tmp 4), 3, none⟩, ⟨some 29, .indexAddr 27 (.tmp 27) (.tmp 28), 0, none⟩, ⟨some 30, .load 29 (.tmp 29), 29, none⟩, ⟨some 31, .call ⟨.value (.func 53), #[.tmp 30], #[29]⟩, 22, none⟩, ⟨some 32, .call ⟨.builtin .append, #[.tmp 25, .tmp 31], #[22, 22]⟩, 22, none⟩, ⟨some 3, .assign (.tmp 32), 22, none⟩] := vR rfl
@[push_cast] theorem vr53_6 : VR r53_6 [⟨some 23, .move (.tmp 4), 3, none⟩, ⟨some 24, .binOp .add 3 (.tmp 23) (.const (.int .i64 1)) 3, 3, none⟩, ⟨some 4, .assign (.tmp 24), 3, none⟩] := vR rfl
@[push_cast] theorem vr53_8 : VR r53_8 [⟨some 33, .move (.tmp 3), 22, none⟩, ⟨some 2, .assign (.tmp 33), 22, none⟩] := vR rfl
/-! 76 columbary/columbaryref10.Name (params #[9], results #[(.tmp 2)], 71 slots) -/
def W76_0 : List Nat := [2, 4, 9, 10, 11, 12, 13, 14, 15, 16, 17, 18, 19, 20]
@[push_cast] theorem W76_0_def : W76_0 = [2, 4, 9, 10, 11, 12, 13, 14, 15, 16, 17, 18, 19, 20] := mk_eq rfl
def W76_1 : List Nat := [2, 5, 6, 7, 21, 22, 23, 24, 25, 26, 27, 28, 29, 30, 31, 32, 33, 34, 35, 36, 37, 38, 39, 40, 41, 42, 43, 44, 45, 46, 47, 48, 49, 50, 51, 52, 53, 54, 55, 56, 57, 58, 59, 60, 61, 62]
@[push_cast] theorem W76_1_def : W76_1 = [2, 5, 6, 7, 21, 22, 23, 24, 25, 26, 27, 28, 29, 30, 31, 32, 33, 34, 35, 36, 37, 38, 39, 40, 41, 42, 43, 44, 45, 46, 47, 48, 49, 50, 51, 52, 53, 54, 55, 56, 57, 58, 59, 60, 61, 62] := mk_eq rfl
def r76_0 : List VOp :=
  [⟨some 2, .assign (.const (.bool false)), 4, none⟩]
def r76_1 : List VOp :=
  [⟨some 8, .call ⟨.value (.func 118), #[], #[]⟩, 22, none⟩,
   asg 3 8 22]
def r76_2 : List VOp :=
  [⟨some 4, .assign (.const (.int .i64 0)), 3, none⟩]
def r76_3 : List VOp :=
  [mv 9 4 3,
   mv 10 3 22,
   ⟨some 11, .call ⟨.builtin .len, #[.tmp 10], #[22]⟩, 3, none⟩,
   ⟨some 12, .binOp .lss 3 (.tmp 9) (.tmp 11) 3, 4, none⟩]
def r76_5 : List VOp :=
  [mv 15 3 22,
   mv 16 4 3,
   iad 17 22 15 16,
   lda 18 9 17,
   mv 19 0 9,
   ⟨some 20, .binOp .eql 9 (.tmp 18) (.tmp 19) 9, 4, none⟩]
def r76_6 : List VOp :=
  [⟨some 2, .assign (.const (.bool false)), 4, none⟩]
def r76_4 : List VOp :=
  [mv 13 4 3,
   ⟨some 14, .binOp .add 3 (.tmp 13) (.const (.int .i64 1)) 3, 3, none⟩,
   asg 4 14 3]
def r76_7 : List VOp :=
  [⟨some 5, .assign (.const (.int .i64 0)), 3, none⟩]
def r76_8 : List VOp :=
  [mv 21 5 3,
   mv 22 0 9,
   ⟨some 23, .call ⟨.builtin .len, #[.tmp 22], #[9]⟩, 3, none⟩,
   ⟨some 24, .binOp .lss 3 (.tmp 21) (.tmp 23) 3, 4, none⟩]
def r76_10 : List VOp :=
  [mv 27 0 9,
   mv 28 5 3,
   ⟨some 29, .index 9 (.tmp 27) (.tmp 28), 5, none⟩,
   ⟨some 30, .binOp .geq 5 (.tmp 29) (.const (.int .u8 97)) 5, 4, none⟩,
   mv 31 30 4,
   ⟨some 32, .move (.tmp 0), 9, some (31, true)⟩,
   ⟨some 33, .move (.tmp 5), 3, some (31, true)⟩,
   ⟨some 34, .index 9 (.tmp 32) (.tmp 33), 5, some (31, true)⟩,
   ⟨some 35, .binOp .leq 5 (.tmp 34) (.const (.int .u8 122)) 5, 4, some (31, true)⟩,
   ⟨some 36, .pick (.tmp 31) (.tmp 35) (.const (.bool false)), 4, none⟩,
   asg 6 36 4]
def r76_11 : List VOp :=
  [mv 37 0 9,
   mv 38 5 3,
   ⟨some 39, .index 9 (.tmp 37) (.tmp 38), 5, none⟩,
   ⟨some 40, .binOp .geq 5 (.tmp 39) (.const (.int .u8 48)) 5, 4, none⟩,
   mv 41 40 4,
   ⟨some 42, .move (.tmp 0), 9, some (41, true)⟩,
   ⟨some 43, .move (.tmp 5), 3, some (41, true)⟩,
   ⟨some 44, .index 9 (.tmp 42) (.tmp 43), 5, some (41, true)⟩,
   ⟨some 45, .binOp .leq 5 (.tmp 44) (.const (.int .u8 57)) 5, 4, some (41, true)⟩,
   ⟨some 46, .pick (.tmp 41) (.tmp 45) (.const (.bool false)), 4, none⟩,
   mv 47 46 4,
   ⟨some 48, .move (.tmp 0), 9, some (47, false)⟩,
   ⟨some 49, .move (.tmp 5), 3, some (47, false)⟩,
   ⟨some 50, .index 9 (.tmp 48) (.tmp 49), 5, some (47, false)⟩,
   ⟨some 51, .binOp .eql 5 (.tmp 50) (.const (.int .u8 95)) 5, 4, some (47, false)⟩,
   ⟨some 52, .pick (.tmp 47) (.const (.bool true)) (.tmp 51), 4, none⟩,
   asg 7 52 4]
def r76_12 : List VOp :=
  [mv 53 6 4,
   ⟨some 54, .unOp .not 4 (.tmp 53), 4, none⟩,
   mv 55 54 4,
   ⟨some 56, .move (.tmp 7), 4, some (55, true)⟩,
   ⟨some 57, .unOp .not 4 (.tmp 56), 4, some (55, true)⟩,
   ⟨some 58, .move (.tmp 57), 4, some (55, true)⟩,
   ⟨some 59, .move (.tmp 5), 3, some (58, false)⟩,
   ⟨some 60, .binOp .eql 3 (.tmp 59) (.const (.int .i64 0)) 3, 4, some (58, false)⟩,
   ⟨some 61, .pick (.tmp 58) (.const (.bool true)) (.tmp 60), 4, some (55, true)⟩,
   ⟨some 62, .pick (.tmp 55) (.tmp 61) (.const (.bool false)), 4, none⟩]
def r76_13 : List VOp :=
  [⟨some 2, .assign (.const (.bool false)), 4, none⟩]
def r76_9 : List VOp :=
  [mv 25 5 3,
   ⟨some 26, .binOp .add 3 (.tmp 25) (.const (.int .i64 1)) 3, 3, none⟩,
   asg 5 26 3]
def r76_14 : List VOp :=
  [mv 63 0 9,
   ⟨some 64, .call ⟨.builtin .len, #[.tmp 63], #[9]⟩, 3, none⟩,
   ⟨some 65, .binOp .geq 3 (.tmp 64) (.const (.int .i64 1)) 3, 4, none⟩,
   mv 66 65 4,
   ⟨some 67, .move (.tmp 0), 9, some (66, true)⟩,
   ⟨some 68, .call ⟨.builtin .len, #[.tmp 67], #[9]⟩, 3, some (66, true)⟩,
   ⟨some 69, .binOp .leq 3 (.tmp 68) (.const (.int .i64 12)) 3, 4, some (66, true)⟩,
   ⟨some 70, .pick (.tmp 66) (.tmp 69) (.const (.bool false)), 4, none⟩,
   asg 2 70 4]
def B76 : VC :=
  (.seq (.region r76_0) (.seq (.region r76_1) (.seq (.seq (.region r76_2) (.block 0 (.loop (.seq (.seq (.region r76_3) (.cond (.tmp 12) .skip (.exit 0))) (.seq (.block 1 (.seq (.region r76_5) (.cond (.tmp 20) (.seq (.region r76_6) .ret) .skip))) (.region r76_4)))))) (.seq (.seq (.region r76_7) (.block 2 (.loop (.seq (.seq (.region r76_8) (.cond (.tmp 24) .skip (.exit 2))) (.seq (.block 3 (.seq (.region r76_10) (.seq (.region r76_11) (.seq (.region r76_12) (.cond (.tmp 62) (.seq (.region r76_13) .ret) .skip))))) (.region r76_9)))))) (.seq (.region r76_14) .ret)))))
theorem code76 : ∃ c, Tryz.f76.body = some c ∧ abs Tryz.f76.ntmps c = B76 := ⟨_, rfl, by kernel_rfl⟩
theorem hb76 : HasBody Tryz.prog 76 := hasBody_of Tryz.func76 (by kernel_rfl)
theorem res76 : Tryz.f76.results = #[(.tmp 2)] := rfl
theorem enter76 {w : World} {R : Value → World → Prop} (x0 : Value) (h : vc Tryz.prog B76 (retK Tryz.prog #[(.tmp 2)] R) [] (initEnv [x0] 0) w) : FnC Tryz.prog 76 #[x0] w R := by
  obtain ⟨c, h1, h2⟩ := code76
  exact hb76.fn (ret_of_vc mixed Tryz.func76 h1 (Nat.le_of_ble_eq_true rfl) B76 h2 h)
@[push_cast] theorem vr76_0 : VR r76_0 [⟨some 2, .assign (.const (.bool false)), 4, none⟩] := vR rfl
@[push_cast] theorem vr76_1 : VR r76_1 [⟨some 8, .call ⟨.value (.func 118), #[], #[]⟩, 22, none⟩, ⟨some 3, .assign (.tmp 8), 22, none⟩] := vR rfl
@[push_cast] theorem vr76_2 : VR r76_2 [⟨some 4, .assign (.const (.int .i64 0)), 3, none⟩] := vR rfl
@[push_cast] theorem vr76_3 : VR r76_3 [⟨some 9, .move (.tmp 4), 3, none⟩, ⟨some 10, .move (.tmp 3), 22, none⟩, ⟨some 11, .call ⟨.builtin .len, #[.tmp 10], #[22]⟩, 3, none⟩, ⟨some 12, .binOp .lss 3 (.tmp 9) (.tmp 11) 3, 4, none⟩] := vR rfl
@[push_cast] theorem vr76_5 : VR r76_5 [⟨some 15, .move (.tmp 3), 22, none⟩, ⟨some 16, .move (.tmp 4), 3, none⟩, ⟨some 17, .indexAddr 22 (.tmp 15) (.tmp 16), 0, none⟩, ⟨some 18, .load 9 (.tmp 17), 9, none⟩, ⟨some 19, .move (.tmp 0), 9, none⟩, ⟨some 20, .binOp .eql 9 (.tmp 18) (.tmp 19) 9, 4, none⟩] := vR rfl
@[push_cast] theorem vr76_6 : VR r76_6 [⟨some 2, .assign (.const (.bool false)), 4, none⟩] := vR rfl
@[push_cast] theorem vr76_4 : VR r76_4 [⟨some 13, .move (.tmp 4), 3, none⟩, ⟨some 14, .binOp .add 3 (.tmp 13) (.const (.int .i64 1)) 3, 3, none⟩, ⟨some 4, .assign (.tmp 14), 3, none⟩] := vR rfl
@[push_cast] theorem vr76_7 : VR r76_7 [⟨some 5, .assign (.const (.int .i64 0)), 3, none⟩] := vR rfl
@[push_cast] theorem vr76_8 : VR r76_8 [⟨some 21, .move (.tmp 5), 3, none⟩, ⟨some 22, .move (.tmp 0), 9, none⟩, ⟨some 23, .call ⟨.builtin .len, #[.tmp 22], #[9]⟩, 3, none⟩, ⟨some 24, .binOp .lss 3 (.tmp 21) (.tmp 23) 3, 4, none⟩] := vR rfl
@[push_cast] theorem vr76_10 : VR r76_10 [⟨some 27, .move (.tmp 0), 9, none⟩, ⟨some 28, .move (.tmp 5), 3, none⟩, ⟨some 29, .index 9 (.tmp 27) (.tmp 28), 5, none⟩, ⟨some 30, .binOp .geq 5 (.tmp 29) (.const (.int .u8 97)) 5, 4, none⟩, ⟨some 31, .move (.tmp 30), 4, none⟩, ⟨some 32, .move (.tmp 0), 9, some (31, true)⟩, ⟨some 33, .move (.tmp 5), 3, some (31, true)⟩, ⟨some 34, .index 9 (.tmp 32) (.tmp 33), 5, some (31, true)⟩, ⟨some 35, .binOp .leq 5 (.tmp 34) (.const (.int .u8 122)) 5, 4, some (31, true)⟩, ⟨some 36, .pick (.tmp 31) (.tmp 35) (.const (.bool false)), 4, none⟩, ⟨some 6, .assign (.tmp 36), 4, none⟩] := vR rfl
@[push_cast] theorem vr76_11 : VR r76_11 [⟨some 37, .move (.tmp 0), 9, none⟩, ⟨some 38, .move (.tmp 5), 3, none⟩, ⟨some 39, .index 9 (.tmp 37) (.tmp 38), 5, none⟩, ⟨some 40, .binOp .geq 5 (.tmp 39) (.const (.int .u8 48)) 5, 4, none⟩, ⟨some 41, .move (.tmp 40), 4, none⟩, ⟨some 42, .move (.tmp 0), 9, some (41, true)⟩, ⟨some 43, .move (.tmp 5), 3, some (41, true)⟩, ⟨some 44, .index 9 (.tmp 42) (.tmp 43), 5, some (41, true)⟩, ⟨some 45, .binOp .leq 5 (.tmp 44) (.const (.int .u8 57)) 5, 4, some (41, true)⟩, ⟨some 46, .pick (.tmp 41) (.tmp 45) (.const (.bool false)), 4, none⟩, ⟨some 47, .move (.tmp 46), 4, none⟩, ⟨some 48, .move (.tmp 0), 9, some (47, false)⟩, ⟨some 49, .move (.tmp 5), 3, some (47, false)⟩, ⟨some 50, .index 9 (.tmp 48) (.tmp 49), 5, some (47, false)⟩, ⟨some 51, .binOp .eql 5 (.tmp 50) (.const (.int .u8 95)) 5, 4, some (47, false)⟩, ⟨some 52, .pick (.tmp 47) (.const (.bool true)) (.tmp 51), 4, none⟩, ⟨some 7, .assign (.tmp 52), 4, none⟩] := vR rfl
@[push_cast] theorem vr76_12 : VR r76_12 [⟨some 53, .move (.tmp 6), 4, none⟩, ⟨some 54, .unOp .not 4 (.tmp 53), 4, none⟩, ⟨some 55, .move (.tmp 54), 4, none⟩, ⟨some 56, .move (.tmp 7), 4, some (55, true)⟩, ⟨some 57, .unOp .not 4 (.tmp 56), 4, some (55, true)⟩, ⟨some 58, .move (.tmp 57), 4, some (55, true)⟩, ⟨some 59, .move (.tmp 5), 3, some (58, false)⟩, ⟨some 60, .binOp .eql 3 (.tmp 59) (.const (.int .i64 0)) 3, 4, some (58, false)⟩, ⟨some 61, .pick (.tmp 58) (.const (.bool true)) (.tmp 60), 4, some (55, true)⟩, ⟨some 62, .pick (.tmp 55) (.tmp 61) (.const (.bool false)), 4, none⟩] := vR rfl
@[push_cast] theorem vr76_13 : VR r76_13 [⟨some 2, .assign (.const (.bool false)), 4, none⟩] := vR rfl
@[push_cast] theorem vr76_9 : VR r76_9 [⟨some 25, .move (.tmp 5), 3, none⟩, ⟨some 26, .binOp .add 3 (.tmp 25) (.const (.int .i64 1)) 3, 3, none⟩, ⟨some 5, .assign (.tmp 26), 3, none⟩] := vR rfl
@[push_cast] theorem vr76_14 : VR r76_14 [⟨some 63, .move (.tmp 0), 9, none⟩, ⟨some 64, .call ⟨.builtin .len, #[.tmp 63], #[9]⟩, 3, none⟩, ⟨some 65, .binOp .geq 3 (.tmp 64) (.const (.int .i64 1)) 3, 4, none⟩, ⟨some 66, .move (.tmp 65), 4, none⟩, ⟨some 67, .move (.tmp 0), 9, some (66, true)⟩, ⟨some 68, .call ⟨.builtin .len, #[.tmp 67], #[9]⟩, 3, some (66, true)⟩, ⟨some 69, .binOp .leq 3 (.tmp 68) (.const (.int .i64 12)) 3, 4, some (66, true)⟩, ⟨some 70, .pick (.tmp 66) (.tmp 69) (.const (.bool false)), 4, none⟩, ⟨some 2, .assign (.tmp 70), 4, none⟩] := vR rfl
/-! 94 columbary/columbaryref23.term (params #[58], results #[(.tmp 2)], 20 slots) -/
def r94_0 : List VOp :=
  [⟨some 1, .box 58 (.tmp 0), 0, none⟩,
   ⟨some 2, .assign (.const (.bool false)), 4, none⟩]
def r94_1 : List VOp :=
  [fad 3 58 1 0,
   lda 4 56 3,
   ⟨some 5, .binOp .geq 56 (.tmp 4) (.const (.int .i64 0)) 56, 4, none⟩,
   mv 6 5 4,
   ⟨some 7, .fieldAddr 58 (.tmp 1) 0, 0, some (6, true)⟩,
   ⟨some 8, .load 56 (.tmp 7), 56, some (6, true)⟩,
   ⟨some 9, .binOp .leq 56 (.tmp 8) (.const (.int .i64 3)) 56, 4, some (6, true)⟩,
   ⟨some 10, .pick (.tmp 6) (.tmp 9) (.const (.bool false)), 4, none⟩,
   mv 11 10 4,
   ⟨some 12, .fieldAddr 58 (.tmp 1) 0, 0, some (11, true)⟩,
   ⟨some 13, .load 56 (.tmp 12), 56, some (11, true)⟩,
   ⟨some 14, .binOp .eql 56 (.tmp 13) (.const (.int .i64 0)) 56, 4, some (11, true)⟩,
   ⟨some 15, .fieldAddr 58 (.tmp 1) 1, 0, some (11, true)⟩,
   ⟨some 16, .load 9 (.tmp 15), 9, some (11, true)⟩,
   ⟨some 17, .binOp .eql 9 (.tmp 16) (.const (.string { data := #[] })) 9, 4, some (11, true)⟩,
   ⟨some 18, .binOp .eql 4 (.tmp 14) (.tmp 17) 4, 4, some (11, true)⟩,
   ⟨some 19, .pick (.tmp 11) (.tmp 18) (.const (.bool false)), 4, none⟩,
   asg 2 19 4]
def B94 : VC :=
  (.seq (.region r94_0) (.seq (.region r94_1) .ret))
theorem code94 : ∃ c, Tryz.f94.body = some c ∧ abs Tryz.f94.ntmps c = B94 := ⟨_, rfl, by kernel_rfl⟩
theorem hb94 : HasBody Tryz.prog 94 := hasBody_of Tryz.func94 (by kernel_rfl)
theorem res94 : Tryz.f94.results = #[(.tmp 2)] := rfl
theorem enter94 {w : World} {R : Value → World → Prop} (x0 : Value) (h : vc Tryz.prog B94 (retK Tryz.prog #[(.tmp 2)] R) [] (initEnv [x0] 0) w) : FnC Tryz.prog 94 #[x0] w R := by
  obtain ⟨c, h1, h2⟩ := code94
  exact hb94.fn (ret_of_vc mixed Tryz.func94 h1 (Nat.le_of_ble_eq_true rfl) B94 h2 h)
@[push_cast] theorem vr94_0 : VR r94_0 [⟨some 1, .box 58 (.tmp 0), 0, none⟩, ⟨some 2, .assign (.const (.bool false)), 4, none⟩] := vR rfl
@[push_cast] theorem vr94_1 : VR r94_1 [⟨some 3, .fieldAddr 58 (.tmp 1) 0, 0, none⟩, ⟨some 4, .load 56 (.tmp 3), 56, none⟩, ⟨some 5, .binOp .geq 56 (.tmp 4) (.const (.int .i64 0)) 56, 4, none⟩, ⟨some 6, .move (.tmp 5), 4, none⟩, ⟨some 7, .fieldAddr 58 (.tmp 1) 0, 0, some (6, true)⟩, ⟨some 8, .load 56 (.tmp 7), 56, some (6, true)⟩, ⟨some 9, .binOp .leq 56 (.tmp 8) (.const (.int .i64 3)) 56, 4, some (6, true)⟩, ⟨some 10, .pick (.tmp 6) (.tmp 9) (.const (.bool false)), 4, none⟩, ⟨some 11, .move (.tmp 10), 4, none⟩, ⟨some 12, .fieldAddr 58 (.tmp 1) 0, 0, some (11, true)⟩, ⟨some 13, .load 56 (.tmp 12), 56, some (11, true)⟩, ⟨some 14, .binOp .eql 56 (.tmp 13) (.const (.int .i64 0)) 56, 4, some (11, true)⟩, ⟨some 15, .fieldAddr 58 (.tmp 1) 1, 0, some (11, true)⟩, ⟨some 16, .load 9 (.tmp 15), 9, some (11, true)⟩, ⟨some 17, .binOp .eql 9 (.tmp 16) (.const (.string { data := #[] })) 9, 4, some (11, true)⟩, ⟨some 18, .binOp .eql 4 (.tmp 14) (.tmp 17) 4, 4, some (11, true)⟩, ⟨some 19, .pick (.tmp 11) (.tmp 18) (.const (.bool false)), 4, none⟩, ⟨some 2, .assign (.tmp 19), 4, none⟩] := vR rfl
/-! 95 columbary/columbaryref23.form (params #[29, 3], results #[(.tmp 4)], 72 slots) -/
def W95_0 : List Nat := [4, 6, 7, 13, 14, 15, 16, 17, 18, 19, 20, 21, 22, 23, 24, 25, 26, 27]
@[push_cast] theorem W95_0_def : W95_0 = [4, 6, 7, 13, 14, 15, 16, 17, 18, 19, 20, 21, 22, 23, 24, 25, 26, 27] := mk_eq rfl
def r95_0 : List VOp :=
  [⟨some 2, .box 29 (.tmp 0), 0, none⟩,
   ⟨some 4, .assign (.const (.bool false)), 4, none⟩]
def r95_1 : List VOp :=
  [fad 8 29 2 3,
   lda 9 27 8,
   ⟨some 10, .call ⟨.builtin .len, #[.tmp 9], #[27]⟩, 3, none⟩,
   asg 5 10 3]
def r95_2 : List VOp :=
  [mv 11 1 3,
   ⟨some 12, .binOp .eql 3 (.tmp 11) (.const (.int .i64 0)) 3, 4, none⟩]
def r95_3 : List VOp :=
  [⟨some 4, .assign (.const (.bool false)), 4, none⟩]
def r95_4 : List VOp :=
  [⟨some 6, .assign (.const (.int .i64 0)), 3, none⟩]
def r95_5 : List VOp :=
  [mv 13 6 3,
   mv 14 5 3,
   ⟨some 15, .binOp .lss 3 (.tmp 13) (.tmp 14) 3, 4, none⟩]
def r95_7 : List VOp :=
  [fad 18 29 2 3,
   lda 19 27 18,
   mv 20 6 3,
   iad 21 27 19 20,
   lda 22 29 21,
   mv 23 1 3,
   ⟨some 24, .binOp .sub 3 (.tmp 23) (.const (.int .i64 1)) 3, 3, none⟩,
   ⟨some 25, .call ⟨.value (.func 95), #[.tmp 22, .tmp 24], #[29, 3]⟩, 4, none⟩,
   asg 7 25 4]
def r95_8 : List VOp :=
  [mv 26 7 4,
   ⟨some 27, .unOp .not 4 (.tmp 26), 4, none⟩]
def r95_9 : List VOp :=
  [⟨some 4, .assign (.const (.bool false)), 4, none⟩]
def r95_6 : List VOp :=
  [mv 16 6 3,
   ⟨some 17, .binOp .add 3 (.tmp 16) (.const (.int .i64 1)) 3, 3, none⟩,
   asg 6 17 3]
def r95_10 : List VOp :=
  [fad 28 29 2 0,
   lda 29 26 28]
def r95_11 : List VOp :=
  [⟨some 31, .binOp .eql 26 (.tmp 29) (.const (.int .i64 1)) 26, 4, none⟩,
   asg 30 31 4]
def r95_12 : List VOp :=
  [mv 32 5 3,
   ⟨some 33, .binOp .eql 3 (.tmp 32) (.const (.int .i64 0)) 3, 4, none⟩,
   asg 4 33 4]
def r95_13 : List VOp :=
  [⟨some 35, .binOp .eql 26 (.tmp 29) (.const (.int .i64 2)) 26, 4, none⟩,
   asg 34 35 4]
def r95_14 : List VOp :=
  [mv 36 5 3,
   ⟨some 37, .binOp .eql 3 (.tmp 36) (.const (.int .i64 0)) 3, 4, none⟩,
   mv 38 37 4,
   ⟨some 39, .fieldAddr 29 (.tmp 2) 2, 0, some (38, true)⟩,
   ⟨some 40, .load 9 (.tmp 39), 9, some (38, true)⟩,
   ⟨some 41, .binOp .eql 9 (.tmp 40) (.const (.string { data := #[] })) 9, 4, some (38, true)⟩,
   ⟨some 42, .pick (.tmp 38) (.tmp 41) (.const (.bool false)), 4, none⟩,
   asg 4 42 4]
def r95_15 : List VOp :=
  [⟨some 44, .binOp .eql 26 (.tmp 29) (.const (.int .i64 3)) 26, 4, none⟩,
   asg 43 44 4]
def r95_16 : List VOp :=
  [mv 45 5 3,
   ⟨some 46, .binOp .eql 3 (.tmp 45) (.const (.int .i64 1)) 3, 4, none⟩,
   mv 47 46 4,
   ⟨some 48, .fieldAddr 29 (.tmp 2) 1, 0, some (47, true)⟩,
   ⟨some 49, .load 9 (.tmp 48), 9, some (47, true)⟩,
   ⟨some 50, .binOp .eql 9 (.tmp 49) (.const (.string { data := #[] })) 9, 4, some (47, true)⟩,
   ⟨some 51, .pick (.tmp 47) (.tmp 50) (.const (.bool false)), 4, none⟩,
   mv 52 51 4,
   ⟨some 53, .fieldAddr 29 (.tmp 2) 2, 0, some (52, true)⟩,
   ⟨some 54, .load 9 (.tmp 53), 9, some (52, true)⟩,
   ⟨some 55, .binOp .eql 9 (.tmp 54) (.const (.string { data := #[] })) 9, 4, some (52, true)⟩,
   ⟨some 56, .pick (.tmp 52) (.tmp 55) (.const (.bool false)), 4, none⟩,
   asg 4 56 4]
def r95_17 : List VOp :=
  [⟨some 58, .binOp .eql 26 (.tmp 29) (.const (.int .i64 4)) 26, 4, none⟩,
   asg 57 58 4]
def r95_18 : List VOp :=
  [⟨some 59, .binOp .eql 26 (.tmp 29) (.const (.int .i64 5)) 26, 4, none⟩,
   asg 57 59 4]
def r95_19 : List VOp :=
  [mv 60 5 3,
   ⟨some 61, .binOp .geq 3 (.tmp 60) (.const (.int .i64 2)) 3, 4, none⟩,
   mv 62 61 4,
   ⟨some 63, .fieldAddr 29 (.tmp 2) 1, 0, some (62, true)⟩,
   ⟨some 64, .load 9 (.tmp 63), 9, some (62, true)⟩,
   ⟨some 65, .binOp .eql 9 (.tmp 64) (.const (.string { data := #[] })) 9, 4, some (62, true)⟩,
   ⟨some 66, .pick (.tmp 62) (.tmp 65) (.const (.bool false)), 4, none⟩,
   mv 67 66 4,
   ⟨some 68, .fieldAddr 29 (.tmp 2) 2, 0, some (67, true)⟩,
   ⟨some 69, .load 9 (.tmp 68), 9, some (67, true)⟩,
   ⟨some 70, .binOp .eql 9 (.tmp 69) (.const (.string { data := #[] })) 9, 4, some (67, true)⟩,
   ⟨some 71, .pick (.tmp 67) (.tmp 70) (.const (.bool false)), 4, none⟩,
   asg 4 71 4]
def r95_20 : List VOp :=
  [⟨some 4, .assign (.const (.bool false)), 4, none⟩]
def B95 : VC :=
  (.seq (.region r95_0) (.seq (.region r95_1) (.seq (.seq (.region r95_2) (.cond (.tmp 12) (.seq (.region r95_3) .ret) .skip)) (.seq (.seq (.region r95_4) (.block 0 (.loop (.seq (.seq (.region r95_5) (.cond (.tmp 15) .skip (.exit 0))) (.seq (.block 1 (.seq (.region r95_7) (.seq (.region r95_8) (.cond (.tmp 27) (.seq (.region r95_9) .ret) .skip)))) (.region r95_6)))))) (.seq (.seq (.region r95_10) (.block 2 (.seq (.region r95_11) (.cond (.tmp 30) (.seq (.region r95_12) .ret) (.seq (.region r95_13) (.cond (.tmp 34) (.seq (.region r95_14) .ret) (.seq (.region r95_15) (.cond (.tmp 43) (.seq (.region r95_16) .ret) (.seq (.seq (.region r95_17) (.cond (.tmp 57) .skip (.region r95_18))) (.cond (.tmp 57) (.seq (.region r95_19) .ret) .skip)))))))))) (.seq (.region r95_20) .ret))))))
theorem code95 : ∃ c, Tryz.f95.body = some c ∧ abs Tryz.f95.ntmps c = B95 := ⟨_, rfl, by kernel_rfl⟩
theorem hb95 : HasBody Tryz.prog 95 := hasBody_of Tryz.func95 (by kernel_rfl)
theorem res95 : Tryz.f95.results = #[(.tmp 4)] := rfl
theorem enter95 {w : World} {R : Value → World → Prop} (x0 x1 : Value) (h : vc Tryz.prog B95 (retK Tryz.prog #[(.tmp 4)] R) [] (initEnv [x0, x1] 0) w) : FnC Tryz.prog 95 #[x0, x1] w R := by
  obtain ⟨c, h1, h2⟩ := code95
  exact hb95.fn (ret_of_vc mixed Tryz.func95 h1 (Nat.le_of_ble_eq_true rfl) B95 h2 h)
@[push_cast] theorem vr95_0 : VR r95_0 [⟨some 2, .box 29 (.tmp 0), 0, none⟩, ⟨some 4, .assign (.const (.bool false)), 4, none⟩] := vR rfl
@[push_cast] theorem vr95_1 : VR r95_1 [⟨some 8, .fieldAddr 29 (.tmp 2) 3, 0, none⟩, ⟨some 9, .load 27 (.tmp 8), 27, none⟩, ⟨some 10, .call ⟨.builtin .len, #[.tmp 9], #[27]⟩, 3, none⟩, ⟨some 5, .assign (.tmp 10), 3, none⟩] := vR rfl
@[push_cast] theorem vr95_2 : VR r95_2 [⟨some 11, .move (.tmp 1), 3, none⟩, ⟨some 12, .binOp .eql 3 (.tmp 11) (.const (.int .i64 0)) 3, 4, none⟩] := vR rfl
@[push_cast] theorem vr95_3 : VR r95_3 [⟨some 4, .assign (.const (.bool false)), 4, none⟩] := vR rfl
@[push_cast] theorem vr95_4 : VR r95_4 [⟨some 6, .assign (.const (.int .i64 0)), 3, none⟩] := vR rfl
@[push_cast] theorem vr95_5 : VR r95_5 [⟨some 13, .move (.tmp 6), 3, none⟩, ⟨some 14, .move (.tmp 5), 3, none⟩, ⟨some 15, .binOp .lss 3 (.tmp 13) (.tmp 14) 3, 4, none⟩] := vR rfl
@[push_cast] theorem vr95_7 : VR r95_7 [⟨some 18, .fieldAddr 29 (.tmp 2) 3, 0, none⟩, ⟨some 19, .load 27 (.tmp 18), 27, none⟩, ⟨some 20, .move (.tmp 6), 3, none⟩, ⟨some 21, .indexAddr 27 (.tmp 19) (.tmp 20), 0, none⟩, ⟨some 22, .load 29 (.tmp 21), 29, none⟩, ⟨some 23, .move (.tmp 1), 3, none⟩, ⟨some 24, .binOp .sub 3 (.tmp 23) (.const (.int .i64 1)) 3, 3, none⟩, ⟨some 25, .call ⟨.value (.func 95), #[.tmp 22, .tmp 24], #[29, 3]⟩, 4, none⟩, ⟨some 7, .assign (.tmp 25), 4, none⟩] := vR rfl
@[push_cast] theorem vr95_8 : VR r95_8 [⟨some 26, .move (.tmp 7), 4, none⟩, ⟨some 27, .unOp .not 4 (.tmp 26), 4, none⟩] := vR rfl
@[push_cast] theorem vr95_9 : VR r95_9 [⟨some 4, .assign (.const (.bool false)), 4, none⟩] := vR rfl
@[push_cast] theorem vr95_6 : VR r95_6 [⟨some 16, .move (.tmp 6), 3, none⟩, ⟨some 17, .binOp .add 3 (.tmp 16) (.const (.int .i64 1)) 3, 3, none⟩, ⟨some 6, .assign (.tmp 17), 3, none⟩] := vR rfl
@[push_cast] theorem vr95_10 : VR r95_10 [⟨some 28, .fieldAddr 29 (.tmp 2) 0, 0, none⟩, ⟨some 29, .load 26 (.tmp 28), 26, none⟩] := vR rfl
@[push_cast] theorem vr95_11 : VR r95_11 [⟨some 31, .binOp .eql 26 (.tmp 29) (.const (.int .i64 1)) 26, 4, none⟩, ⟨some 30, .assign (.tmp 31), 4, none⟩] := vR rfl
@[push_cast] theorem vr95_12 : VR r95_12 [⟨some 32, .move (.tmp 5), 3, none⟩, ⟨some 33, .binOp .eql 3 (.tmp 32) (.const (.int .i64 0)) 3, 4, none⟩, ⟨some 4, .assign (.tmp 33), 4, none⟩] := vR rfl
@[push_cast] theorem vr95_13 : VR r95_13 [⟨some 35, .binOp .eql 26 (.tmp 29) (.const (.int .i64 2)) 26, 4, none⟩, ⟨some 34, .assign (.tmp 35), 4, none⟩] := vR rfl
@[push_cast] theorem vr95_14 : VR r95_14 [⟨some 36, .move (.tmp 5), 3, none⟩, ⟨some 37, .binOp .eql 3 (.tmp 36) (.const (.int .i64 0)) 3, 4, none⟩, ⟨some 38, .move (.tmp 37), 4, none⟩, ⟨some 39, .fieldAddr 29 (.tmp 2) 2, 0, some (38, true)⟩, ⟨some 40, .load 9 (.tmp 39), 9, some (38, true)⟩, ⟨some 41, .binOp .eql 9 (.tmp 40) (.const (.string { data := #[] })) 9, 4, some (38, true)⟩, ⟨some 42, .pick (.tmp 38) (.tmp 41) (.const (.bool false)), 4, none⟩, ⟨some 4, .assign (.tmp 42), 4, none⟩] := vR rfl
@[push_cast] theorem vr95_15 : VR r95_15 [⟨some 44, .binOp .eql 26 (.tmp 29) (.const (.int .i64 3)) 26, 4, none⟩, ⟨some 43, .assign (.tmp 44), 4, none⟩] := vR rfl
@[push_cast] theorem vr95_16 : VR r95_16 [⟨some 45, .move (.tmp 5), 3, none⟩, ⟨some 46, .binOp .eql 3 (.tmp 45) (.const (.int .i64 1)) 3, 4, none⟩, ⟨some 47, .move (.tmp 46), 4, none⟩, ⟨some 48, .fieldAddr 29 (.tmp 2) 1, 0, some (47, true)⟩, ⟨some 49, .load 9 (.tmp 48), 9, some (47, true)⟩, ⟨some 50, .binOp .eql 9 (.tmp 49) (.const (.string { data := #[] })) 9, 4, some (47, true)⟩, ⟨some 51, .pick (.tmp 47) (.tmp 50) (.const (.bool false)), 4, none⟩, ⟨some 52, .move (.tmp 51), 4, none⟩, ⟨some 53, .fieldAddr 29 (.tmp 2) 2, 0, some (52, true)⟩, ⟨some 54, .load 9 (.tmp 53), 9, some (52, true)⟩, ⟨some 55, .binOp .eql 9 (.tmp 54) (.const (.string { data := #[] })) 9, 4, some (52, true)⟩, ⟨some 56, .pick (.tmp 52) (.tmp 55) (.const (.bool false)), 4, none⟩, ⟨some 4, .assign (.tmp 56), 4, none⟩] := vR rfl
@[push_cast] theorem vr95_17 : VR r95_17 [⟨some 58, .binOp .eql 26 (.tmp 29) (.const (.int .i64 4)) 26, 4, none⟩, ⟨some 57, .assign (.tmp 58), 4, none⟩] := vR rfl
@[push_cast] theorem vr95_18 : VR r95_18 [⟨some 59, .binOp .eql 26 (.tmp 29) (.const (.int .i64 5)) 26, 4, none⟩, ⟨some 57, .assign (.tmp 59), 4, none⟩] := vR rfl
@[push_cast] theorem vr95_19 : VR r95_19 [⟨some 60, .move (.tmp 5), 3, none⟩, ⟨some 61, .binOp .geq 3 (.tmp 60) (.const (.int .i64 2)) 3, 4, none⟩, ⟨some 62, .move (.tmp 61), 4, none⟩, ⟨some 63, .fieldAddr 29 (.tmp 2) 1, 0, some (62, true)⟩, ⟨some 64, .load 9 (.tmp 63), 9, some (62, true)⟩, ⟨some 65, .binOp .eql 9 (.tmp 64) (.const (.string { data := #[] })) 9, 4, some (62, true)⟩, ⟨some 66, .pick (.tmp 62) (.tmp 65) (.const (.bool false)), 4, none⟩, ⟨some 67, .move (.tmp 66), 4, none⟩, ⟨some 68, .fieldAddr 29 (.tmp 2) 2, 0, some (67, true)⟩, ⟨some 69, .load 9 (.tmp 68), 9, some (67, true)⟩, ⟨some 70, .binOp .eql 9 (.tmp 69) (.const (.string { data := #[] })) 9, 4, some (67, true)⟩, ⟨some 71, .pick (.tmp 67) (.tmp 70) (.const (.bool false)), 4, none⟩, ⟨some 4, .assign (.tmp 71), 4, none⟩] := vR rfl
@[push_cast] theorem vr95_20 : VR r95_20 [⟨some 4, .assign (.const (.bool false)), 4, none⟩] := vR rfl
/-! 96 columbary/columbaryref23.metric (params #[24, 58], results #[(.tmp 4)], 21 slots) -/
def r96_0 : List VOp :=
  [⟨some 2, .box 24 (.tmp 0), 0, none⟩,
   ⟨some 3, .box 58 (.tmp 1), 0, none⟩,
   ⟨some 4, .assign (.const (.bool false)), 4, none⟩]
def r96_1 : List VOp :=
  [fad 8 24 2 1,
   lda 9 22 8,
   fad 10 58 3 1,
   lda 11 9 10,
   ⟨some 12, .call ⟨.value (.func 30), #[.tmp 9, .tmp 11], #[22, 9]⟩, 62, none⟩,
   mv 7 12 62,
   ext 13 7 0 3,
   ext 14 7 1 4,
   asg 5 13 3,
   asg 6 14 4]
def r96_2 : List VOp :=
  [fad 15 58 3 0,
   lda 16 56 15,
   ⟨some 17, .binOp .eql 56 (.tmp 16) (.const (.int .i64 0)) 56, 4, none⟩,
   mv 18 17 4,
   ⟨some 19, .move (.tmp 6), 4, some (18, false)⟩,
   ⟨some 20, .pick (.tmp 18) (.const (.bool true)) (.tmp 19), 4, none⟩,
   asg 4 20 4]
def B96 : VC :=
  (.seq (.region r96_0) (.seq (.region r96_1) (.seq (.region r96_2) .ret)))
theorem code96 : ∃ c, Tryz.f96.body = some c ∧ abs Tryz.f96.ntmps c = B96 := ⟨_, rfl, by kernel_rfl⟩
theorem hb96 : HasBody Tryz.prog 96 := hasBody_of Tryz.func96 (by kernel_rfl)
theorem res96 : Tryz.f96.results = #[(.tmp 4)] := rfl
theorem enter96 {w : World} {R : Value → World → Prop} (x0 x1 : Value) (h : vc Tryz.prog B96 (retK Tryz.prog #[(.tmp 4)] R) [] (initEnv [x0, x1] 0) w) : FnC Tryz.prog 96 #[x0, x1] w R := by
  obtain ⟨c, h1, h2⟩ := code96
  exact hb96.fn (ret_of_vc mixed Tryz.func96 h1 (Nat.le_of_ble_eq_true rfl) B96 h2 h)
@[push_cast] theorem vr96_0 : VR r96_0 [⟨some 2, .box 24 (.tmp 0), 0, none⟩, ⟨some 3, .box 58 (.tmp 1), 0, none⟩, ⟨some 4, .assign (.const (.bool false)), 4, none⟩] := vR rfl
@[push_cast] theorem vr96_1 : VR r96_1 [⟨some 8, .fieldAddr 24 (.tmp 2) 1, 0, none⟩, ⟨some 9, .load 22 (.tmp 8), 22, none⟩, ⟨some 10, .fieldAddr 58 (.tmp 3) 1, 0, none⟩, ⟨some 11, .load 9 (.tmp 10), 9, none⟩, ⟨some 12, .call ⟨.value (.func 30), #[.tmp 9, .tmp 11], #[22, 9]⟩, 62, none⟩, ⟨some 7, .move (.tmp 12), 62, none⟩, ⟨some 13, .extract (.tmp 7) 0, 3, none⟩, ⟨some 14, .extract (.tmp 7) 1, 4, none⟩, ⟨some 5, .assign (.tmp 13), 3, none⟩, ⟨some 6, .assign (.tmp 14), 4, none⟩] := vR rfl
@[push_cast] theorem vr96_2 : VR r96_2 [⟨some 15, .fieldAddr 58 (.tmp 3) 0, 0, none⟩, ⟨some 16, .load 56 (.tmp 15), 56, none⟩, ⟨some 17, .binOp .eql 56 (.tmp 16) (.const (.int .i64 0)) 56, 4, none⟩, ⟨some 18, .move (.tmp 17), 4, none⟩, ⟨some 19, .move (.tmp 6), 4, some (18, false)⟩, ⟨some 20, .pick (.tmp 18) (.const (.bool true)) (.tmp 19), 4, none⟩, ⟨some 4, .assign (.tmp 20), 4, none⟩] := vR rfl
/-! 97 columbary/columbaryref23.values (params #[29], results #[(.tmp 2)], 27 slots) -/
def W97_0 : List Nat := [3, 4, 5, 9, 10, 11, 12, 13, 14, 15, 16, 17, 18, 19, 20, 21, 22, 23, 24, 25]
@[push_cast] theorem W97_0_def : W97_0 = [3, 4, 5, 9, 10, 11, 12, 13, 14, 15, 16, 17, 18, 19, 20, 21, 22, 23, 24, 25] := mk_eq rfl
def r97_0 : List VOp :=
  [⟨some 1, .box 29 (.tmp 0), 0, none⟩,
   ⟨some 2, .assign (.const (.bool false)), 4, none⟩]
def r97_1 : List VOp :=
  [fad 6 29 1 2,
   lda 7 9 6,
   ⟨some 8, .call ⟨.value (.func 103), #[.tmp 7], #[9]⟩, 4, none⟩,
   asg 3 8 4]
def r97_2 : List VOp :=
  [⟨some 4, .assign (.const (.int .i64 0)), 3, none⟩]
def r97_3 : List VOp :=
  [mv 9 4 3,
   fad 10 29 1 3,
   lda 11 27 10,
   ⟨some 12, .call ⟨.builtin .len, #[.tmp 11], #[27]⟩, 3, none⟩,
   ⟨some 13, .binOp .lss 3 (.tmp 9) (.tmp 12) 3, 4, none⟩]
def r97_5 : List VOp :=
  [fad 16 29 1 3,
   lda 17 27 16,
   mv 18 4 3,
   iad 19 27 17 18,
   lda 20 29 19,
   ⟨some 21, .call ⟨.value (.func 97), #[.tmp 20], #[29]⟩, 4, none⟩,
   asg 5 21 4]
def r97_6 : List VOp :=
  [mv 22 3 4,
   mv 23 22 4,
   ⟨some 24, .move (.tmp 5), 4, some (23, true)⟩,
   ⟨some 25, .pick (.tmp 23) (.tmp 24) (.const (.bool false)), 4, none⟩,
   asg 3 25 4]
def r97_4 : List VOp :=
  [mv 14 4 3,
   ⟨some 15, .binOp .add 3 (.tmp 14) (.const (.int .i64 1)) 3, 3, none⟩,
   asg 4 15 3]
def r97_7 : List VOp :=
  [mv 26 3 4,
   asg 2 26 4]
def B97 : VC :=
  (.seq (.region r97_0) (.seq (.region r97_1) (.seq (.seq (.region r97_2) (.block 0 (.loop (.seq (.seq (.region r97_3) (.cond (.tmp 13) .skip (.exit 0))) (.seq (.block 1 (.seq (.region r97_5) (.region r97_6))) (.region r97_4)))))) (.seq (.region r97_7) .ret))))
theorem code97 : ∃ c, Tryz.f97.body = some c ∧ abs Tryz.f97.ntmps c = B97 := ⟨_, rfl, by kernel_rfl⟩
theorem hb97 : HasBody Tryz.prog 97 := hasBody_of Tryz.func97 (by kernel_rfl)
theorem res97 : Tryz.f97.results = #[(.tmp 2)] := rfl
theorem enter97 {w : World} {R : Value → World → Prop} (x0 : Value) (h : vc Tryz.prog B97 (retK Tryz.prog #[(.tmp 2)] R) [] (initEnv [x0] 0) w) : FnC Tryz.prog 97 #[x0] w R := by
  obtain ⟨c, h1, h2⟩ := code97
  exact hb97.fn (ret_of_vc mixed Tryz.func97 h1 (Nat.le_of_ble_eq_true rfl) B97 h2 h)
@[push_cast] theorem vr97_0 : VR r97_0 [⟨some 1, .box 29 (.tmp 0), 0, none⟩, ⟨some 2, .assign (.const (.bool false)), 4, none⟩] := vR rfl
@[push_cast] theorem vr97_1 : VR r97_1 [⟨some 6, .fieldAddr 29 (.tmp 1) 2, 0, none⟩, ⟨some 7, .load 9 (.tmp 6), 9, none⟩, ⟨some 8, .call ⟨.value (.func 103), #[.tmp 7], #[9]⟩, 4, none⟩, ⟨some 3, .assign (.tmp 8), 4, none⟩] := vR rfl
@[push_cast] theorem vr97_2 : VR r97_2 [⟨some 4, .assign (.const (.int .i64 0)), 3, none⟩] := vR rfl
@[push_cast] theorem vr97_3 : VR r97_3 [⟨some 9, .move (.tmp 4), 3, none⟩, ⟨some 10, .fieldAddr 29 (.tmp 1) 3, 0, none⟩, ⟨some 11, .load 27 (.tmp 10), 27, none⟩, ⟨some 12, .call ⟨.builtin .len, #[.tmp 11], #[27]⟩, 3, none⟩, ⟨some 13, .binOp .lss 3 (.tmp 9) (.tmp 12) 3, 4, none⟩] := vR rfl
@[push_cast] theorem vr97_5 : VR r97_5 [⟨some 16, .fieldAddr 29 (.tmp 1) 3, 0, none⟩, ⟨some 17, .load 27 (.tmp 16), 27, none⟩, ⟨some 18, .move (.tmp 4), 3, none⟩, ⟨some 19, .indexAddr 27 (.tmp 17) (.tmp 18), 0, none⟩, ⟨some 20, .load 29 (.tmp 19), 29, none⟩, ⟨some 21, .call ⟨.value (.func 97), #[.tmp 20], #[29]⟩, 4, none⟩, ⟨some 5, .assign (.tmp 21), 4, none⟩] := vR rfl
@[push_cast] theorem vr97_6 : VR r97_6 [⟨some 22, .move (.tmp 3), 4, none⟩, ⟨some 23, .move (.tmp 22), 4, none⟩, ⟨some 24, .move (.tmp 5), 4, some (23, true)⟩, ⟨some 25, .pick (.tmp 23) (.tmp 24) (.const (.bool false)), 4, none⟩, ⟨some 3, .assign (.tmp 25), 4, none⟩] := vR rfl
@[push_cast] theorem vr97_4 : VR r97_4 [⟨some 14, .move (.tmp 4), 3, none⟩, ⟨some 15, .binOp .add 3 (.tmp 14) (.const (.int .i64 1)) 3, 3, none⟩, ⟨some 4, .assign (.tmp 15), 3, none⟩] := vR rfl
@[push_cast] theorem vr97_7 : VR r97_7 [⟨some 26, .move (.tmp 3), 4, none⟩, ⟨some 2, .assign (.tmp 26), 4, none⟩] := vR rfl
/-! 98 columbary/columbaryref11.Right (params #[3], results #[(.tmp 2)], 9 slots) -/
def r98_0 : List VOp :=
  [⟨some 2, .assign (.const (.bool false)), 4, none⟩]
def r98_1 : List VOp :=
  [mv 3 0 3,
   ⟨some 4, .binOp .geq 3 (.tmp 3) (.const (.int .i64 1)) 3, 4, none⟩,
   mv 5 4 4,
   ⟨some 6, .move (.tmp 0), 3, some (5, true)⟩,
   ⟨some 7, .binOp .leq 3 (.tmp 6) (.const (.int .i64 1048576)) 3, 4, some (5, true)⟩,
   ⟨some 8, .pick (.tmp 5) (.tmp 7) (.const (.bool false)), 4, none⟩,
   asg 2 8 4]
def B98 : VC :=
  (.seq (.region r98_0) (.seq (.region r98_1) .ret))
theorem code98 : ∃ c, Tryz.f98.body = some c ∧ abs Tryz.f98.ntmps c = B98 := ⟨_, rfl, by kernel_rfl⟩
theorem hb98 : HasBody Tryz.prog 98 := hasBody_of Tryz.func98 (by kernel_rfl)
theorem res98 : Tryz.f98.results = #[(.tmp 2)] := rfl
theorem enter98 {w : World} {R : Value → World → Prop} (x0 : Value) (h : vc Tryz.prog B98 (retK Tryz.prog #[(.tmp 2)] R) [] (initEnv [x0] 0) w) : FnC Tryz.prog 98 #[x0] w R := by
  obtain ⟨c, h1, h2⟩ := code98
  exact hb98.fn (ret_of_vc mixed Tryz.func98 h1 (Nat.le_of_ble_eq_true rfl) B98 h2 h)
@[push_cast] theorem vr98_0 : VR r98_0 [⟨some 2, .assign (.const (.bool false)), 4, none⟩] := vR rfl
@[push_cast] theorem vr98_1 : VR r98_1 [⟨some 3, .move (.tmp 0), 3, none⟩, ⟨some 4, .binOp .geq 3 (.tmp 3) (.const (.int .i64 1)) 3, 4, none⟩, ⟨some 5, .move (.tmp 4), 4, none⟩, ⟨some 6, .move (.tmp 0), 3, some (5, true)⟩, ⟨some 7, .binOp .leq 3 (.tmp 6) (.const (.int .i64 1048576)) 3, 4, some (5, true)⟩, ⟨some 8, .pick (.tmp 5) (.tmp 7) (.const (.bool false)), 4, none⟩, ⟨some 2, .assign (.tmp 8), 4, none⟩] := vR rfl
/-! 103 columbary/columbaryref10.Value (params #[9], results #[(.tmp 2)], 35 slots) -/
def W103_0 : List Nat := [2, 3, 4, 5, 6, 7, 8, 9, 10, 11, 12, 13, 14, 15, 16, 17, 18, 19, 20, 21, 22, 23, 24, 25, 26, 27, 28, 29, 30, 31]
@[push_cast] theorem W103_0_def : W103_0 = [2, 3, 4, 5, 6, 7, 8, 9, 10, 11, 12, 13, 14, 15, 16, 17, 18, 19, 20, 21, 22, 23, 24, 25, 26, 27, 28, 29, 30, 31] := mk_eq rfl
def r103_0 : List VOp :=
  [⟨some 2, .assign (.const (.bool false)), 4, none⟩]
def r103_1 : List VOp :=
  [⟨some 3, .assign (.const (.int .i64 0)), 3, none⟩]
def r103_2 : List VOp :=
  [mv 4 3 3,
   mv 5 0 9,
   ⟨some 6, .call ⟨.builtin .len, #[.tmp 5], #[9]⟩, 3, none⟩,
   ⟨some 7, .binOp .lss 3 (.tmp 4) (.tmp 6) 3, 4, none⟩]
def r103_4 : List VOp :=
  [mv 10 0 9,
   mv 11 3 3,
   ⟨some 12, .index 9 (.tmp 10) (.tmp 11), 5, none⟩,
   ⟨some 13, .binOp .lss 5 (.tmp 12) (.const (.int .u8 32)) 5, 4, none⟩,
   mv 14 13 4,
   ⟨some 15, .move (.tmp 0), 9, some (14, false)⟩,
   ⟨some 16, .move (.tmp 3), 3, some (14, false)⟩,
   ⟨some 17, .index 9 (.tmp 15) (.tmp 16), 5, some (14, false)⟩,
   ⟨some 18, .binOp .gtr 5 (.tmp 17) (.const (.int .u8 126)) 5, 4, some (14, false)⟩,
   ⟨some 19, .pick (.tmp 14) (.const (.bool true)) (.tmp 18), 4, none⟩,
   mv 20 19 4,
   ⟨some 21, .move (.tmp 0), 9, some (20, false)⟩,
   ⟨some 22, .move (.tmp 3), 3, some (20, false)⟩,
   ⟨some 23, .index 9 (.tmp 21) (.tmp 22), 5, some (20, false)⟩,
   ⟨some 24, .binOp .eql 5 (.tmp 23) (.const (.int .u8 34)) 5, 4, some (20, false)⟩,
   ⟨some 25, .pick (.tmp 20) (.const (.bool true)) (.tmp 24), 4, none⟩,
   mv 26 25 4,
   ⟨some 27, .move (.tmp 0), 9, some (26, false)⟩,
   ⟨some 28, .move (.tmp 3), 3, some (26, false)⟩,
   ⟨some 29, .index 9 (.tmp 27) (.tmp 28), 5, some (26, false)⟩,
   ⟨some 30, .binOp .eql 5 (.tmp 29) (.const (.int .u8 92)) 5, 4, some (26, false)⟩,
   ⟨some 31, .pick (.tmp 26) (.const (.bool true)) (.tmp 30), 4, none⟩]
def r103_5 : List VOp :=
  [⟨some 2, .assign (.const (.bool false)), 4, none⟩]
def r103_3 : List VOp :=
  [mv 8 3 3,
   ⟨some 9, .binOp .add 3 (.tmp 8) (.const (.int .i64 1)) 3, 3, none⟩,
   asg 3 9 3]
def r103_6 : List VOp :=
  [mv 32 0 9,
   ⟨some 33, .call ⟨.builtin .len, #[.tmp 32], #[9]⟩, 3, none⟩,
   ⟨some 34, .binOp .leq 3 (.tmp 33) (.const (.int .i64 24)) 3, 4, none⟩,
   asg 2 34 4]
def B103 : VC :=
  (.seq (.region r103_0) (.seq (.seq (.region r103_1) (.block 0 (.loop (.seq (.seq (.region r103_2) (.cond (.tmp 7) .skip (.exit 0))) (.seq (.block 1 (.seq (.region r103_4) (.cond (.tmp 31) (.seq (.region r103_5) .ret) .skip))) (.region r103_3)))))) (.seq (.region r103_6) .ret)))
theorem code103 : ∃ c, Tryz.f103.body = some c ∧ abs Tryz.f103.ntmps c = B103 := ⟨_, rfl, by kernel_rfl⟩
theorem hb103 : HasBody Tryz.prog 103 := hasBody_of Tryz.func103 (by kernel_rfl)
theorem res103 : Tryz.f103.results = #[(.tmp 2)] := rfl
theorem enter103 {w : World} {R : Value → World → Prop} (x0 : Value) (h : vc Tryz.prog B103 (retK Tryz.prog #[(.tmp 2)] R) [] (initEnv [x0] 0) w) : FnC Tryz.prog 103 #[x0] w R := by
  obtain ⟨c, h1, h2⟩ := code103
  exact hb103.fn (ret_of_vc mixed Tryz.func103 h1 (Nat.le_of_ble_eq_true rfl) B103 h2 h)
@[push_cast] theorem vr103_0 : VR r103_0 [⟨some 2, .assign (.const (.bool false)), 4, none⟩] := vR rfl
@[push_cast] theorem vr103_1 : VR r103_1 [⟨some 3, .assign (.const (.int .i64 0)), 3, none⟩] := vR rfl
@[push_cast] theorem vr103_2 : VR r103_2 [⟨some 4, .move (.tmp 3), 3, none⟩, ⟨some 5, .move (.tmp 0), 9, none⟩, ⟨some 6, .call ⟨.builtin .len, #[.tmp 5], #[9]⟩, 3, none⟩, ⟨some 7, .binOp .lss 3 (.tmp 4) (.tmp 6) 3, 4, none⟩] := vR rfl
@[push_cast] theorem vr103_4 : VR r103_4 [⟨some 10, .move (.tmp 0), 9, none⟩, ⟨some 11, .move (.tmp 3), 3, none⟩, ⟨some 12, .index 9 (.tmp 10) (.tmp 11), 5, none⟩, ⟨some 13, .binOp .lss 5 (.tmp 12) (.const (.int .u8 32)) 5, 4, none⟩, ⟨some 14, .move (.tmp 13), 4, none⟩, ⟨some 15, .move (.tmp 0), 9, some (14, false)⟩, ⟨some 16, .move (.tmp 3), 3, some (14, false)⟩, ⟨some 17, .index 9 (.tmp 15) (.tmp 16), 5, some (14, false)⟩, ⟨some 18, .binOp .gtr 5 (.tmp 17) (.const (.int .u8 126)) 5, 4, some (14, false)⟩, ⟨some 19, .pick (.tmp 14) (.const (.bool true)) (.tmp 18), 4, none⟩, ⟨some 20, .move (.tmp 19), 4, none⟩, ⟨some 21, .move (.tmp 0), 9, some (20, false)⟩, ⟨some 22, .move (.tmp 3), 3, some (20, false)⟩, ⟨some 23, .index 9 (.tmp 21) (.tmp 22), 5, some (20, false)⟩, ⟨some 24, .binOp .eql 5 (.tmp 23) (.const (.int .u8 34)) 5, 4, some (20, false)⟩, ⟨some 25, .pick (.tmp 20) (.const (.bool true)) (.tmp 24), 4, none⟩, ⟨some 26, .move (.tmp 25), 4, none⟩, ⟨some 27, .move (.tmp 0), 9, some (26, false)⟩, ⟨some 28, .move (.tmp 3), 3, some (26, false)⟩, ⟨some 29, .index 9 (.tmp 27) (.tmp 28), 5, some (26, false)⟩, ⟨some 30, .binOp .eql 5 (.tmp 29) (.const (.int .u8 92)) 5, 4, some (26, false)⟩, ⟨some 31, .pick (.tmp 26) (.const (.bool true)) (.tmp 30), 4, none⟩] := vR rfl
@[push_cast] theorem vr103_5 : VR r103_5 [⟨some 2, .assign (.const (.bool false)), 4, none⟩] := vR rfl
@[push_cast] theorem vr103_3 : VR r103_3 [⟨some 8, .move (.tmp 3), 3, none⟩, ⟨some 9, .binOp .add 3 (.tmp 8) (.const (.int .i64 1)) 3, 3, none⟩, ⟨some 3, .assign (.tmp 9), 3, none⟩] := vR rfl
@[push_cast] theorem vr103_6 : VR r103_6 [⟨some 32, .move (.tmp 0), 9, none⟩, ⟨some 33, .call ⟨.builtin .len, #[.tmp 32], #[9]⟩, 3, none⟩, ⟨some 34, .binOp .leq 3 (.tmp 33) (.const (.int .i64 24)) 3, 4, none⟩, ⟨some 2, .assign (.tmp 34), 4, none⟩] := vR rfl
/-! 118 columbary/columbaryref10.words (params #[], results #[(.tmp 0)], 2 slots) -/
def r118_0 : List VOp :=
  [⟨some 0, .assign (.const (.slice none 0 0)), 22, none⟩]
def r118_1 : List VOp :=
  [⟨some 1, .buildSlice 22 20 #[(0, (.const (.string { data := #[99, 111, 117, 110, 116] }))), (1, (.const (.string { data := #[115, 117, 109] }))), (2, (.const (.string { data := #[109, 105, 110] }))), (3, (.const (.string { data := #[109, 97, 120] }))), (4, (.const (.string { data := #[102, 114, 111, 109] }))), (5, (.const (.string { data := #[116, 111] }))), (6, (.const (.string { data := #[98, 121] }))), (7, (.const (.string { data := #[101, 118, 101, 114, 121] }))), (8, (.const (.string { data := #[119, 104, 101, 114, 101] }))), (9, (.const (.string { data := #[104, 97, 118, 105, 110, 103] }))), (10, (.const (.string { data := #[111, 114, 100, 101, 114] }))), (11, (.const (.string { data := #[108, 105, 109, 105, 116] }))), (12, (.const (.string { data := #[97, 110, 100] }))), (13, (.const (.string { data := #[111, 114] }))), (14, (.const (.string { data := #[110, 111, 116] }))), (15, (.const (.string { data := #[105, 115] }))), (16, (.const (.string { data := #[110, 117, 108, 108] }))), (17, (.const (.string { data := #[97, 115, 99] }))), (18, (.const (.string { data := #[100, 101, 115, 99] }))), (19, (.const (.string { data := #[115, 101, 108, 101, 99, 116] })))], 22, none⟩,
   asg 0 1 22]
def B118 : VC :=
  (.seq (.region r118_0) (.seq (.region r118_1) .ret))
theorem code118 : ∃ c, Tryz.f118.body = some c ∧ abs Tryz.f118.ntmps c = B118 := ⟨_, rfl, by kernel_rfl⟩
theorem hb118 : HasBody Tryz.prog 118 := hasBody_of Tryz.func118 (by kernel_rfl)
theorem res118 : Tryz.f118.results = #[(.tmp 0)] := rfl
theorem enter118 {w : World} {R : Value → World → Prop} (h : vc Tryz.prog B118 (retK Tryz.prog #[(.tmp 0)] R) [] (initEnv [] 0) w) : FnC Tryz.prog 118 #[] w R := by
  obtain ⟨c, h1, h2⟩ := code118
  exact hb118.fn (ret_of_vc mixed Tryz.func118 h1 (Nat.le_of_ble_eq_true rfl) B118 h2 h)
@[push_cast] theorem vr118_0 : VR r118_0 [⟨some 0, .assign (.const (.slice none 0 0)), 22, none⟩] := vR rfl
@[push_cast] theorem vr118_1 : VR r118_1 [⟨some 1, .buildSlice 22 20 #[(0, (.const (.string { data := #[99, 111, 117, 110, 116] }))), (1, (.const (.string { data := #[115, 117, 109] }))), (2, (.const (.string { data := #[109, 105, 110] }))), (3, (.const (.string { data := #[109, 97, 120] }))), (4, (.const (.string { data := #[102, 114, 111, 109] }))), (5, (.const (.string { data := #[116, 111] }))), (6, (.const (.string { data := #[98, 121] }))), (7, (.const (.string { data := #[101, 118, 101, 114, 121] }))), (8, (.const (.string { data := #[119, 104, 101, 114, 101] }))), (9, (.const (.string { data := #[104, 97, 118, 105, 110, 103] }))), (10, (.const (.string { data := #[111, 114, 100, 101, 114] }))), (11, (.const (.string { data := #[108, 105, 109, 105, 116] }))), (12, (.const (.string { data := #[97, 110, 100] }))), (13, (.const (.string { data := #[111, 114] }))), (14, (.const (.string { data := #[110, 111, 116] }))), (15, (.const (.string { data := #[105, 115] }))), (16, (.const (.string { data := #[110, 117, 108, 108] }))), (17, (.const (.string { data := #[97, 115, 99] }))), (18, (.const (.string { data := #[100, 101, 115, 99] }))), (19, (.const (.string { data := #[115, 101, 108, 101, 99, 116] })))], 22, none⟩, ⟨some 0, .assign (.tmp 1), 22, none⟩] := vR rfl
@[push_cast] theorem bsl22_0_Codes7B {K : Value → World → Prop} {w : World}  : vBuildSlice Tryz.prog 22 0 #[] K w = K (.slice (some ⟨w.heap.size, 0, none⟩) 0 0) (w.alloc (.cells #[] 9)) :=
  vBuildSlice_ok Tryz.underlying22 ti9 (by kernel_rfl) (by decide)
@[push_cast] theorem bsl22_1_Codes7B {K : Value → World → Prop} {w : World} (x0 : ByteArray) : vBuildSlice Tryz.prog 22 1 #[(0, (.string x0))] K w = K (.slice (some ⟨w.heap.size, 0, none⟩) 1 1) (w.alloc (.cells #[(.string x0)] 9)) :=
  vBuildSlice_ok Tryz.underlying22 ti9 (by kernel_rfl) (by decide)
@[push_cast] theorem bsl22_20_Codes7B {K : Value → World → Prop} {w : World} (x0 : ByteArray) (x1 : ByteArray) (x2 : ByteArray) (x3 : ByteArray) (x4 : ByteArray) (x5 : ByteArray) (x6 : ByteArray) (x7 : ByteArray) (x8 : ByteArray) (x9 : ByteArray) (x10 : ByteArray) (x11 : ByteArray) (x12 : ByteArray) (x13 : ByteArray) (x14 : ByteArray) (x15 : ByteArray) (x16 : ByteArray) (x17 : ByteArray) (x18 : ByteArray) (x19 : ByteArray) : vBuildSlice Tryz.prog 22 20 #[(0, (.string x0)), (1, (.string x1)), (2, (.string x2)), (3, (.string x3)), (4, (.string x4)), (5, (.string x5)), (6, (.string x6)), (7, (.string x7)), (8, (.string x8)), (9, (.string x9)), (10, (.string x10)), (11, (.string x11)), (12, (.string x12)), (13, (.string x13)), (14, (.string x14)), (15, (.string x15)), (16, (.string x16)), (17, (.string x17)), (18, (.string x18)), (19, (.string x19))] K w = K (.slice (some ⟨w.heap.size, 0, none⟩) 20 20) (w.alloc (.cells #[(.string x0), (.string x1), (.string x2), (.string x3), (.string x4), (.string x5), (.string x6), (.string x7), (.string x8), (.string x9), (.string x10), (.string x11), (.string x12), (.string x13), (.string x14), (.string x15), (.string x16), (.string x17), (.string x18), (.string x19)] 9)) :=
  vBuildSlice_ok Tryz.underlying22 ti9 (by kernel_rfl) (by decide)
end Go.Proofs.YtnofalhkapmcnaaGreat
end
