/- The functions' code in the generator's form. Written by a program (codes.py) out of Lean's own print of the loaded translation. -/
import Derived.Test.YtnofalhkapmcnaaPartD
set_option linter.all false
section
namespace Go.Proofs.Ytnofalhkapmcnaa
open Go.Vc
set_option maxRecDepth 100000
variable (Q : Post) (ds : List Deferred) (σ : Env) (w : World)
abbrev VR (r l : List VOp) : Prop := ∀ (Q : Post) (ds : List Deferred) (σ : Env) (w : World), vc Try.prog (.region r) Q ds σ w = vcOps Try.prog l (Q .normal ds) σ w
theorem vR {r l : List VOp} (h : r = l) : VR r l := fun Q ds σ w => mk_eq (by subst h; rfl)
abbrev mv (d s t : Nat) : VOp := ⟨some d, .move (.tmp s), t, none⟩
abbrev lda (d t s : Nat) : VOp := ⟨some d, .load t (.tmp s), t, none⟩
abbrev asg (d s t : Nat) : VOp := ⟨some d, .assign (.tmp s), t, none⟩
abbrev ext (d s i t : Nat) : VOp := ⟨some d, .extract (.tmp s) i, t, none⟩
abbrev fad (d t s i : Nat) : VOp := ⟨some d, .fieldAddr t (.tmp s) i, 0, none⟩
abbrev iad (d t s i : Nat) : VOp := ⟨some d, .indexAddr t (.tmp s) (.tmp i), 0, none⟩
/-! 27 columbary/columbarylaw23.Fits (params #[24, 42], results #[(.tmp 4)], 57 slots) -/
def r27_0 : List VOp :=
  [⟨some 2, .box 24 (.tmp 0), 0, none⟩,
   ⟨some 3, .box 42 (.tmp 1), 0, none⟩,
   ⟨some 4, .assign (.const (.bool false)), 4, none⟩]
def r27_1 : List VOp :=
  [fad 10 24 2 0,
   lda 11 22 10,
   ⟨some 12, .call ⟨.value (.func 53), #[.tmp 11], #[22]⟩, 4, none⟩,
   asg 5 12 4]
def r27_2 : List VOp :=
  [fad 13 24 2 1,
   lda 14 22 13,
   ⟨some 15, .call ⟨.value (.func 53), #[.tmp 14], #[22]⟩, 4, none⟩,
   asg 6 15 4]
def r27_3 : List VOp :=
  [fad 16 42 3 4,
   lda 17 22 16,
   ⟨some 18, .call ⟨.value (.func 53), #[.tmp 17], #[22]⟩, 4, none⟩,
   asg 7 18 4]
def r27_4 : List VOp :=
  [mv 19 5 4,
   ⟨some 20, .unOp .not 4 (.tmp 19), 4, none⟩,
   mv 21 20 4,
   ⟨some 22, .move (.tmp 6), 4, some (21, false)⟩,
   ⟨some 23, .unOp .not 4 (.tmp 22), 4, some (21, false)⟩,
   ⟨some 24, .pick (.tmp 21) (.const (.bool true)) (.tmp 23), 4, none⟩,
   mv 25 24 4,
   ⟨some 26, .move (.tmp 7), 4, some (25, false)⟩,
   ⟨some 27, .unOp .not 4 (.tmp 26), 4, some (25, false)⟩,
   ⟨some 28, .pick (.tmp 25) (.const (.bool true)) (.tmp 27), 4, none⟩,
   mv 29 28 4,
   ⟨some 30, .fieldAddr 42 (.tmp 3) 0, 0, some (29, false)⟩,
   ⟨some 31, .load 35 (.tmp 30), 35, some (29, false)⟩,
   ⟨some 32, .call ⟨.builtin .len, #[.tmp 31], #[35]⟩, 3, some (29, false)⟩,
   ⟨some 33, .binOp .gtr 3 (.tmp 32) (.const (.int .i64 30)) 3, 4, some (29, false)⟩,
   ⟨some 34, .pick (.tmp 29) (.const (.bool true)) (.tmp 33), 4, none⟩,
   mv 35 34 4,
   ⟨some 36, .fieldAddr 42 (.tmp 3) 6, 0, some (35, false)⟩,
   ⟨some 37, .load 40 (.tmp 36), 40, some (35, false)⟩,
   ⟨some 38, .call ⟨.builtin .len, #[.tmp 37], #[40]⟩, 3, some (35, false)⟩,
   ⟨some 39, .binOp .gtr 3 (.tmp 38) (.const (.int .i64 30)) 3, 4, some (35, false)⟩,
   ⟨some 40, .pick (.tmp 35) (.const (.bool true)) (.tmp 39), 4, none⟩,
   mv 41 40 4,
   ⟨some 42, .fieldAddr 42 (.tmp 3) 5, 0, some (41, false)⟩,
   ⟨some 43, .load 39 (.tmp 42), 39, some (41, false)⟩,
   ⟨some 44, .call ⟨.value (.func 69), #[(.tmp 43), (.const (.int .i64 300))], #[39, 3]⟩, 3, some (41, false)⟩,
   ⟨some 45, .binOp .geq 3 (.tmp 44) (.const (.int .i64 300)) 3, 4, some (41, false)⟩,
   ⟨some 46, .pick (.tmp 41) (.const (.bool true)) (.tmp 45), 4, none⟩]
def r27_5 : List VOp :=
  [⟨some 4, .assign (.const (.bool false)), 4, none⟩]
def r27_6 : List VOp :=
  [lda 47 24 2,
   ⟨some 48, .call ⟨.value (.func 55), #[.tmp 47], #[24]⟩, 4, none⟩,
   asg 8 48 4]
def r27_7 : List VOp :=
  [fad 49 42 3 5,
   lda 50 39 49,
   ⟨some 51, .call ⟨.value (.func 31), #[.tmp 50], #[39]⟩, 3, none⟩,
   asg 9 51 3]
def r27_8 : List VOp :=
  [mv 52 8 4,
   mv 53 52 4,
   ⟨some 54, .move (.tmp 9), 3, some (53, true)⟩,
   ⟨some 55, .binOp .leq 3 (.tmp 54) (.const (.int .i64 60)) 3, 4, some (53, true)⟩,
   ⟨some 56, .pick (.tmp 53) (.tmp 55) (.const (.bool false)), 4, none⟩,
   asg 4 56 4]
def B27 : VC :=
  (.seq (.region r27_0) (.seq (.region r27_1) (.seq (.region r27_2) (.seq (.region r27_3) (.seq (.seq (.region r27_4) (.cond (.tmp 46) (.seq (.region r27_5) .ret) .skip)) (.seq (.region r27_6) (.seq (.region r27_7) (.seq (.region r27_8) .ret))))))))
theorem code27 : ∃ c, Try.f27.body = some c ∧ abs Try.f27.ntmps c = B27 := ⟨_, rfl, by kernel_rfl⟩
theorem hb27 : HasBody Try.prog 27 := hasBody_of Try.func27 (by kernel_rfl)
theorem res27 : Try.f27.results = #[(.tmp 4)] := rfl
theorem enter27 {w : World} {R : Value → World → Prop} (x0 x1 : Value) (h : vc Try.prog B27 (retK Try.prog #[(.tmp 4)] R) [] (initEnv [x0, x1] 0) w) : FnC Try.prog 27 #[x0, x1] w R := by
  obtain ⟨c, h1, h2⟩ := code27
  exact hb27.fn (ret_of_vc mixed Try.func27 h1 (Nat.le_of_ble_eq_true rfl) B27 h2 h)
@[push_cast] theorem vr27_0 : VR r27_0 [⟨some 2, .box 24 (.tmp 0), 0, none⟩, ⟨some 3, .box 42 (.tmp 1), 0, none⟩, ⟨some 4, .assign (.const (.bool false)), 4, none⟩] := vR rfl
@[push_cast] theorem vr27_1 : VR r27_1 [⟨some 10, .fieldAddr 24 (.tmp 2) 0, 0, none⟩, ⟨some 11, .load 22 (.tmp 10), 22, none⟩, ⟨some 12, .call ⟨.value (.func 53), #[.tmp 11], #[22]⟩, 4, none⟩, ⟨some 5, .assign (.tmp 12), 4, none⟩] := vR rfl
@[push_cast] theorem vr27_2 : VR r27_2 [⟨some 13, .fieldAddr 24 (.tmp 2) 1, 0, none⟩, ⟨some 14, .load 22 (.tmp 13), 22, none⟩, ⟨some 15, .call ⟨.value (.func 53), #[.tmp 14], #[22]⟩, 4, none⟩, ⟨some 6, .assign (.tmp 15), 4, none⟩] := vR rfl
@[push_cast] theorem vr27_3 : VR r27_3 [⟨some 16, .fieldAddr 42 (.tmp 3) 4, 0, none⟩, ⟨some 17, .load 22 (.tmp 16), 22, none⟩, ⟨some 18, .call ⟨.value (.func 53), #[.tmp 17], #[22]⟩, 4, none⟩, ⟨some 7, .assign (.tmp 18), 4, none⟩] := vR rfl
@[push_cast] theorem vr27_4 : VR r27_4 [⟨some 19, .move (.tmp 5), 4, none⟩, ⟨some 20, .unOp .not 4 (.tmp 19), 4, none⟩, ⟨some 21, .move (.tmp 20), 4, none⟩, ⟨some 22, .move (.tmp 6), 4, some (21, false)⟩, ⟨some 23, .unOp .not 4 (.tmp 22), 4, some (21, false)⟩, ⟨some 24, .pick (.tmp 21) (.const (.bool true)) (.tmp 23), 4, none⟩, ⟨some 25, .move (.tmp 24), 4, none⟩, ⟨some 26, .move (.tmp 7), 4, some (25, false)⟩, ⟨some 27, .unOp .not 4 (.tmp 26), 4, some (25, false)⟩, ⟨some 28, .pick (.tmp 25) (.const (.bool true)) (.tmp 27), 4, none⟩, ⟨some 29, .move (.tmp 28), 4, none⟩, ⟨some 30, .fieldAddr 42 (.tmp 3) 0, 0, some (29, false)⟩, ⟨some 31, .load 35 (.tmp 30), 35, some (29, false)⟩, ⟨some 32, .call ⟨.builtin .len, #[.tmp 31], #[35]⟩, 3, some (29, false)⟩, ⟨some 33, .binOp .gtr 3 (.tmp 32) (.const (.int .i64 30)) 3, 4, some (29, false)⟩, ⟨some 34, .pick (.tmp 29) (.const (.bool true)) (.tmp 33), 4, none⟩, ⟨some 35, .move (.tmp 34), 4, none⟩, ⟨some 36, .fieldAddr 42 (.tmp 3) 6, 0, some (35, false)⟩, ⟨some 37, .load 40 (.tmp 36), 40, some (35, false)⟩, ⟨some 38, .call ⟨.builtin .len, #[.tmp 37], #[40]⟩, 3, some (35, false)⟩, ⟨some 39, .binOp .gtr 3 (.tmp 38) (.const (.int .i64 30)) 3, 4, some (35, false)⟩, ⟨some 40, .pick (.tmp 35) (.const (.bool true)) (.tmp 39), 4, none⟩, ⟨some 41, .move (.tmp 40), 4, none⟩, ⟨some 42, .fieldAddr 42 (.tmp 3) 5, 0, some (41, false)⟩, ⟨some 43, .load 39 (.tmp 42), 39, some (41, false)⟩, ⟨some 44, .call ⟨.value (.func 69), #[(.tmp 43), (.const (.int .i64 300))], #[39, 3]⟩, 3, some (41, false)⟩, ⟨some 45, .binOp .geq 3 (.tmp 44) (.const (.int .i64 300)) 3, 4, some (41, false)⟩, ⟨some 46, .pick (.tmp 41) (.const (.bool true)) (.tmp 45), 4, none⟩] := vR rfl
@[push_cast] theorem vr27_5 : VR r27_5 [⟨some 4, .assign (.const (.bool false)), 4, none⟩] := vR rfl
@[push_cast] theorem vr27_6 : VR r27_6 [⟨some 47, .load 24 (.tmp 2), 24, none⟩, ⟨some 48, .call ⟨.value (.func 55), #[.tmp 47], #[24]⟩, 4, none⟩, ⟨some 8, .assign (.tmp 48), 4, none⟩] := vR rfl
@[push_cast] theorem vr27_7 : VR r27_7 [⟨some 49, .fieldAddr 42 (.tmp 3) 5, 0, none⟩, ⟨some 50, .load 39 (.tmp 49), 39, none⟩, ⟨some 51, .call ⟨.value (.func 31), #[.tmp 50], #[39]⟩, 3, none⟩, ⟨some 9, .assign (.tmp 51), 3, none⟩] := vR rfl
@[push_cast] theorem vr27_8 : VR r27_8 [⟨some 52, .move (.tmp 8), 4, none⟩, ⟨some 53, .move (.tmp 52), 4, none⟩, ⟨some 54, .move (.tmp 9), 3, some (53, true)⟩, ⟨some 55, .binOp .leq 3 (.tmp 54) (.const (.int .i64 60)) 3, 4, some (53, true)⟩, ⟨some 56, .pick (.tmp 53) (.tmp 55) (.const (.bool false)), 4, none⟩, ⟨some 4, .assign (.tmp 56), 4, none⟩] := vR rfl
/-! 31 columbary/columbaryref22.Depth (params #[39], results #[(.tmp 2)], 22 slots) -/
def W31_0 : List Nat := [3, 4, 5, 6, 7, 8, 9, 10, 11, 12, 13, 14, 15, 16, 17, 18, 19]
@[push_cast] theorem W31_0_def : W31_0 = [3, 4, 5, 6, 7, 8, 9, 10, 11, 12, 13, 14, 15, 16, 17, 18, 19] := mk_eq rfl
def r31_0 : List VOp :=
  [⟨some 1, .box 39 (.tmp 0), 0, none⟩,
   ⟨some 2, .assign (.const (.int .i64 0)), 3, none⟩]
def r31_1 : List VOp :=
  [⟨some 3, .assign (.const (.int .i64 0)), 3, none⟩]
def r31_2 : List VOp :=
  [⟨some 4, .assign (.const (.int .i64 0)), 3, none⟩]
def r31_3 : List VOp :=
  [mv 5 4 3,
   fad 6 39 1 3,
   lda 7 37 6,
   ⟨some 8, .call ⟨.builtin .len, #[.tmp 7], #[37]⟩, 3, none⟩,
   ⟨some 9, .binOp .lss 3 (.tmp 5) (.tmp 8) 3, 4, none⟩]
def r31_5 : List VOp :=
  [mv 12 3 3,
   fad 13 39 1 3,
   lda 14 37 13,
   mv 15 4 3,
   iad 16 37 14 15,
   lda 17 39 16,
   ⟨some 18, .call ⟨.value (.func 31), #[.tmp 17], #[39]⟩, 3, none⟩,
   ⟨some 19, .call ⟨.builtin .max, #[.tmp 12, .tmp 18], #[3, 3]⟩, 3, none⟩,
   asg 3 19 3]
def r31_4 : List VOp :=
  [mv 10 4 3,
   ⟨some 11, .binOp .add 3 (.tmp 10) (.const (.int .i64 1)) 3, 3, none⟩,
   asg 4 11 3]
def r31_6 : List VOp :=
  [mv 20 3 3,
   ⟨some 21, .binOp .add 3 (.tmp 20) (.const (.int .i64 1)) 3, 3, none⟩,
   asg 2 21 3]
def B31 : VC :=
  (.seq (.region r31_0) (.seq (.region r31_1) (.seq (.seq (.region r31_2) (.block 0 (.loop (.seq (.seq (.region r31_3) (.cond (.tmp 9) .skip (.exit 0))) (.seq (.block 1 (.region r31_5)) (.region r31_4)))))) (.seq (.region r31_6) .ret))))
theorem code31 : ∃ c, Try.f31.body = some c ∧ abs Try.f31.ntmps c = B31 := ⟨_, rfl, by kernel_rfl⟩
theorem hb31 : HasBody Try.prog 31 := hasBody_of Try.func31 (by kernel_rfl)
theorem res31 : Try.f31.results = #[(.tmp 2)] := rfl
theorem enter31 {w : World} {R : Value → World → Prop} (x0 : Value) (h : vc Try.prog B31 (retK Try.prog #[(.tmp 2)] R) [] (initEnv [x0] 0) w) : FnC Try.prog 31 #[x0] w R := by
  obtain ⟨c, h1, h2⟩ := code31
  exact hb31.fn (ret_of_vc mixed Try.func31 h1 (Nat.le_of_ble_eq_true rfl) B31 h2 h)
@[push_cast] theorem vr31_0 : VR r31_0 [⟨some 1, .box 39 (.tmp 0), 0, none⟩, ⟨some 2, .assign (.const (.int .i64 0)), 3, none⟩] := vR rfl
@[push_cast] theorem vr31_1 : VR r31_1 [⟨some 3, .assign (.const (.int .i64 0)), 3, none⟩] := vR rfl
@[push_cast] theorem vr31_2 : VR r31_2 [⟨some 4, .assign (.const (.int .i64 0)), 3, none⟩] := vR rfl
@[push_cast] theorem vr31_3 : VR r31_3 [⟨some 5, .move (.tmp 4), 3, none⟩, ⟨some 6, .fieldAddr 39 (.tmp 1) 3, 0, none⟩, ⟨some 7, .load 37 (.tmp 6), 37, none⟩, ⟨some 8, .call ⟨.builtin .len, #[.tmp 7], #[37]⟩, 3, none⟩, ⟨some 9, .binOp .lss 3 (.tmp 5) (.tmp 8) 3, 4, none⟩] := vR rfl
@[push_cast] theorem vr31_5 : VR r31_5 [⟨some 12, .move (.tmp 3), 3, none⟩, ⟨some 13, .fieldAddr 39 (.tmp 1) 3, 0, none⟩, ⟨some 14, .load 37 (.tmp 13), 37, none⟩, ⟨some 15, .move (.tmp 4), 3, none⟩, ⟨some 16, .indexAddr 37 (.tmp 14) (.tmp 15), 0, none⟩, ⟨some 17, .load 39 (.tmp 16), 39, none⟩, ⟨some 18, .call ⟨.value (.func 31), #[.tmp 17], #[39]⟩, 3, none⟩, ⟨some 19, .call ⟨.builtin .max, #[.tmp 12, .tmp 18], #[3, 3]⟩, 3, none⟩, ⟨some 3, .assign (.tmp 19), 3, none⟩] := vR rfl
@[push_cast] theorem vr31_4 : VR r31_4 [⟨some 10, .move (.tmp 4), 3, none⟩, ⟨some 11, .binOp .add 3 (.tmp 10) (.const (.int .i64 1)) 3, 3, none⟩, ⟨some 4, .assign (.tmp 11), 3, none⟩] := vR rfl
@[push_cast] theorem vr31_6 : VR r31_6 [⟨some 20, .move (.tmp 3), 3, none⟩, ⟨some 21, .binOp .add 3 (.tmp 20) (.const (.int .i64 1)) 3, 3, none⟩, ⟨some 2, .assign (.tmp 21), 3, none⟩] := vR rfl
/-! 32 columbary/columbaryref03.Texts (params #[22, 22], results #[(.tmp 4)], 26 slots) -/
def W32_0 : List Nat := [4, 5, 11, 12, 13, 14, 15, 16, 17, 18, 19, 20, 21, 22, 23, 24, 25]
@[push_cast] theorem W32_0_def : W32_0 = [4, 5, 11, 12, 13, 14, 15, 16, 17, 18, 19, 20, 21, 22, 23, 24, 25] := mk_eq rfl
def r32_0 : List VOp :=
  [⟨some 4, .assign (.const (.bool false)), 4, none⟩]
def r32_1 : List VOp :=
  [mv 6 0 22,
   ⟨some 7, .call ⟨.builtin .len, #[.tmp 6], #[22]⟩, 3, none⟩,
   mv 8 1 22,
   ⟨some 9, .call ⟨.builtin .len, #[.tmp 8], #[22]⟩, 3, none⟩,
   ⟨some 10, .binOp .neq 3 (.tmp 7) (.tmp 9) 3, 4, none⟩]
def r32_2 : List VOp :=
  [⟨some 4, .assign (.const (.bool false)), 4, none⟩]
def r32_3 : List VOp :=
  [⟨some 5, .assign (.const (.int .i64 0)), 3, none⟩]
def r32_4 : List VOp :=
  [mv 11 5 3,
   mv 12 0 22,
   ⟨some 13, .call ⟨.builtin .len, #[.tmp 12], #[22]⟩, 3, none⟩,
   ⟨some 14, .binOp .lss 3 (.tmp 11) (.tmp 13) 3, 4, none⟩]
def r32_6 : List VOp :=
  [mv 17 0 22,
   mv 18 5 3,
   iad 19 22 17 18,
   lda 20 9 19,
   mv 21 1 22,
   mv 22 5 3,
   iad 23 22 21 22,
   lda 24 9 23,
   ⟨some 25, .binOp .neq 9 (.tmp 20) (.tmp 24) 9, 4, none⟩]
def r32_7 : List VOp :=
  [⟨some 4, .assign (.const (.bool false)), 4, none⟩]
def r32_5 : List VOp :=
  [mv 15 5 3,
   ⟨some 16, .binOp .add 3 (.tmp 15) (.const (.int .i64 1)) 3, 3, none⟩,
   asg 5 16 3]
def r32_8 : List VOp :=
  [⟨some 4, .assign (.const (.bool true)), 4, none⟩]
def B32 : VC :=
  (.seq (.region r32_0) (.seq (.seq (.region r32_1) (.cond (.tmp 10) (.seq (.region r32_2) .ret) .skip)) (.seq (.seq (.region r32_3) (.block 0 (.loop (.seq (.seq (.region r32_4) (.cond (.tmp 14) .skip (.exit 0))) (.seq (.block 1 (.seq (.draw r32_6 2) (.cond (.tmp 25) (.seq (.region r32_7) .ret) .skip))) (.region r32_5)))))) (.seq (.region r32_8) .ret))))
theorem code32 : ∃ c, Try.f32.body = some c ∧ abs Try.f32.ntmps c = B32 := ⟨_, rfl, by kernel_rfl⟩
theorem hb32 : HasBody Try.prog 32 := hasBody_of Try.func32 (by kernel_rfl)
theorem res32 : Try.f32.results = #[(.tmp 4)] := rfl
theorem enter32 {w : World} {R : Value → World → Prop} (x0 x1 : Value) (h : vc Try.prog B32 (retK Try.prog #[(.tmp 4)] R) [] (initEnv [x0, x1] 0) w) : FnC Try.prog 32 #[x0, x1] w R := by
  obtain ⟨c, h1, h2⟩ := code32
  exact hb32.fn (ret_of_vc mixed Try.func32 h1 (Nat.le_of_ble_eq_true rfl) B32 h2 h)
@[push_cast] theorem vr32_0 : VR r32_0 [⟨some 4, .assign (.const (.bool false)), 4, none⟩] := vR rfl
@[push_cast] theorem vr32_1 : VR r32_1 [⟨some 6, .move (.tmp 0), 22, none⟩, ⟨some 7, .call ⟨.builtin .len, #[.tmp 6], #[22]⟩, 3, none⟩, ⟨some 8, .move (.tmp 1), 22, none⟩, ⟨some 9, .call ⟨.builtin .len, #[.tmp 8], #[22]⟩, 3, none⟩, ⟨some 10, .binOp .neq 3 (.tmp 7) (.tmp 9) 3, 4, none⟩] := vR rfl
@[push_cast] theorem vr32_2 : VR r32_2 [⟨some 4, .assign (.const (.bool false)), 4, none⟩] := vR rfl
@[push_cast] theorem vr32_3 : VR r32_3 [⟨some 5, .assign (.const (.int .i64 0)), 3, none⟩] := vR rfl
@[push_cast] theorem vr32_4 : VR r32_4 [⟨some 11, .move (.tmp 5), 3, none⟩, ⟨some 12, .move (.tmp 0), 22, none⟩, ⟨some 13, .call ⟨.builtin .len, #[.tmp 12], #[22]⟩, 3, none⟩, ⟨some 14, .binOp .lss 3 (.tmp 11) (.tmp 13) 3, 4, none⟩] := vR rfl
@[push_cast] theorem vr32_6 : vc Try.prog (.draw r32_6 2) Q ds σ w = drawn Try.prog [(⟨some 17, .move (.tmp 0), 22, none⟩, [0]), (⟨some 18, .move (.tmp 5), 3, none⟩, [5]), (⟨some 19, .indexAddr 22 (.tmp 17) (.tmp 18), 0, none⟩, [17, 18]), (⟨some 20, .load 9 (.tmp 19), 9, none⟩, [19]), (⟨some 21, .move (.tmp 1), 22, none⟩, [1]), (⟨some 22, .move (.tmp 5), 3, none⟩, [5]), (⟨some 23, .indexAddr 22 (.tmp 21) (.tmp 22), 0, none⟩, [21, 22]), (⟨some 24, .load 9 (.tmp 23), 9, none⟩, [23]), (⟨some 25, .binOp .neq 9 (.tmp 20) (.tmp 24) 9, 4, none⟩, [20, 24])] 2 (Q .normal ds) σ w := mk_eq rfl
@[push_cast] theorem vr32_7 : VR r32_7 [⟨some 4, .assign (.const (.bool false)), 4, none⟩] := vR rfl
@[push_cast] theorem vr32_5 : VR r32_5 [⟨some 15, .move (.tmp 5), 3, none⟩, ⟨some 16, .binOp .add 3 (.tmp 15) (.const (.int .i64 1)) 3, 3, none⟩, ⟨some 5, .assign (.tmp 16), 3, none⟩] := vR rfl
@[push_cast] theorem vr32_8 : VR r32_8 [⟨some 4, .assign (.const (.bool true)), 4, none⟩] := vR rfl
/-! 33 columbary/columbaryref23.Check (params #[24, 42], results #[(.tmp 4)], 21 slots) -/
def r33_0 : List VOp :=
  [⟨some 2, .box 24 (.tmp 0), 0, none⟩,
   ⟨some 3, .box 42 (.tmp 1), 0, none⟩,
   ⟨some 4, .assign (.const (.int .i64 0)), 53, none⟩]
def r33_1 : List VOp :=
  [lda 8 42 3,
   ⟨some 9, .call ⟨.value (.func 77), #[.tmp 8], #[42]⟩, 4, none⟩,
   asg 5 9 4]
def r33_2 : List VOp :=
  [mv 10 5 4,
   ⟨some 11, .unOp .not 4 (.tmp 10), 4, none⟩]
def r33_3 : List VOp :=
  [⟨some 4, .assign (.const (.int .i64 221)), 53, none⟩]
def r33_4 : List VOp :=
  [lda 12 24 2,
   lda 13 42 3,
   ⟨some 14, .call ⟨.value (.func 78), #[.tmp 12, .tmp 13], #[24, 42]⟩, 4, none⟩,
   asg 6 14 4]
def r33_5 : List VOp :=
  [mv 15 6 4,
   ⟨some 16, .unOp .not 4 (.tmp 15), 4, none⟩]
def r33_6 : List VOp :=
  [⟨some 4, .assign (.const (.int .i64 231)), 53, none⟩]
def r33_7 : List VOp :=
  [lda 17 42 3,
   ⟨some 18, .call ⟨.value (.func 79), #[.tmp 17], #[42]⟩, 4, none⟩,
   asg 7 18 4]
def r33_8 : List VOp :=
  [mv 19 7 4,
   ⟨some 20, .unOp .not 4 (.tmp 19), 4, none⟩]
def r33_9 : List VOp :=
  [⟨some 4, .assign (.const (.int .i64 232)), 53, none⟩]
def r33_10 : List VOp :=
  [⟨some 4, .assign (.const (.int .i64 0)), 53, none⟩]
def B33 : VC :=
  (.seq (.region r33_0) (.seq (.region r33_1) (.seq (.seq (.region r33_2) (.cond (.tmp 11) (.seq (.region r33_3) .ret) .skip)) (.seq (.region r33_4) (.seq (.seq (.region r33_5) (.cond (.tmp 16) (.seq (.region r33_6) .ret) .skip)) (.seq (.region r33_7) (.seq (.seq (.region r33_8) (.cond (.tmp 20) (.seq (.region r33_9) .ret) .skip)) (.seq (.region r33_10) .ret))))))))
theorem code33 : ∃ c, Try.f33.body = some c ∧ abs Try.f33.ntmps c = B33 := ⟨_, rfl, by kernel_rfl⟩
theorem hb33 : HasBody Try.prog 33 := hasBody_of Try.func33 (by kernel_rfl)
theorem res33 : Try.f33.results = #[(.tmp 4)] := rfl
theorem enter33 {w : World} {R : Value → World → Prop} (x0 x1 : Value) (h : vc Try.prog B33 (retK Try.prog #[(.tmp 4)] R) [] (initEnv [x0, x1] 0) w) : FnC Try.prog 33 #[x0, x1] w R := by
  obtain ⟨c, h1, h2⟩ := code33
  exact hb33.fn (ret_of_vc mixed Try.func33 h1 (Nat.le_of_ble_eq_true rfl) B33 h2 h)
@[push_cast] theorem vr33_0 : VR r33_0 [⟨some 2, .box 24 (.tmp 0), 0, none⟩, ⟨some 3, .box 42 (.tmp 1), 0, none⟩, ⟨some 4, .assign (.const (.int .i64 0)), 53, none⟩] := vR rfl
@[push_cast] theorem vr33_1 : VR r33_1 [⟨some 8, .load 42 (.tmp 3), 42, none⟩, ⟨some 9, .call ⟨.value (.func 77), #[.tmp 8], #[42]⟩, 4, none⟩, ⟨some 5, .assign (.tmp 9), 4, none⟩] := vR rfl
@[push_cast] theorem vr33_2 : VR r33_2 [⟨some 10, .move (.tmp 5), 4, none⟩, ⟨some 11, .unOp .not 4 (.tmp 10), 4, none⟩] := vR rfl
@[push_cast] theorem vr33_3 : VR r33_3 [⟨some 4, .assign (.const (.int .i64 221)), 53, none⟩] := vR rfl
@[push_cast] theorem vr33_4 : VR r33_4 [⟨some 12, .load 24 (.tmp 2), 24, none⟩, ⟨some 13, .load 42 (.tmp 3), 42, none⟩, ⟨some 14, .call ⟨.value (.func 78), #[.tmp 12, .tmp 13], #[24, 42]⟩, 4, none⟩, ⟨some 6, .assign (.tmp 14), 4, none⟩] := vR rfl
@[push_cast] theorem vr33_5 : VR r33_5 [⟨some 15, .move (.tmp 6), 4, none⟩, ⟨some 16, .unOp .not 4 (.tmp 15), 4, none⟩] := vR rfl
@[push_cast] theorem vr33_6 : VR r33_6 [⟨some 4, .assign (.const (.int .i64 231)), 53, none⟩] := vR rfl
@[push_cast] theorem vr33_7 : VR r33_7 [⟨some 17, .load 42 (.tmp 3), 42, none⟩, ⟨some 18, .call ⟨.value (.func 79), #[.tmp 17], #[42]⟩, 4, none⟩, ⟨some 7, .assign (.tmp 18), 4, none⟩] := vR rfl
@[push_cast] theorem vr33_8 : VR r33_8 [⟨some 19, .move (.tmp 7), 4, none⟩, ⟨some 20, .unOp .not 4 (.tmp 19), 4, none⟩] := vR rfl
@[push_cast] theorem vr33_9 : VR r33_9 [⟨some 4, .assign (.const (.int .i64 232)), 53, none⟩] := vR rfl
@[push_cast] theorem vr33_10 : VR r33_10 [⟨some 4, .assign (.const (.int .i64 0)), 53, none⟩] := vR rfl
/-! 43 columbary/columbaryref10.Find (params #[22, 9], results #[(.tmp 4), (.tmp 5)], 20 slots) -/
def W43_0 : List Nat := [4, 5, 6, 7, 8, 9, 10, 11, 12, 13, 14, 15, 16, 17, 18, 19]
@[push_cast] theorem W43_0_def : W43_0 = [4, 5, 6, 7, 8, 9, 10, 11, 12, 13, 14, 15, 16, 17, 18, 19] := mk_eq rfl
def r43_0 : List VOp :=
  [⟨some 4, .assign (.const (.int .i64 0)), 3, none⟩,
   ⟨some 5, .assign (.const (.bool false)), 4, none⟩]
def r43_1 : List VOp :=
  [⟨some 6, .assign (.const (.int .i64 0)), 3, none⟩]
def r43_2 : List VOp :=
  [mv 7 6 3,
   mv 8 0 22,
   ⟨some 9, .call ⟨.builtin .len, #[.tmp 8], #[22]⟩, 3, none⟩,
   ⟨some 10, .binOp .lss 3 (.tmp 7) (.tmp 9) 3, 4, none⟩]
def r43_4 : List VOp :=
  [mv 13 0 22,
   mv 14 6 3,
   iad 15 22 13 14,
   lda 16 9 15,
   mv 17 1 9,
   ⟨some 18, .binOp .eql 9 (.tmp 16) (.tmp 17) 9, 4, none⟩]
def r43_5 : List VOp :=
  [mv 19 6 3,
   asg 4 19 3,
   ⟨some 5, .assign (.const (.bool true)), 4, none⟩]
def r43_3 : List VOp :=
  [mv 11 6 3,
   ⟨some 12, .binOp .add 3 (.tmp 11) (.const (.int .i64 1)) 3, 3, none⟩,
   asg 6 12 3]
def r43_6 : List VOp :=
  [⟨some 4, .assign (.const (.int .i64 0)), 3, none⟩,
   ⟨some 5, .assign (.const (.bool false)), 4, none⟩]
def B43 : VC :=
  (.seq (.region r43_0) (.seq (.seq (.region r43_1) (.block 0 (.loop (.seq (.seq (.region r43_2) (.cond (.tmp 10) .skip (.exit 0))) (.seq (.block 1 (.seq (.region r43_4) (.cond (.tmp 18) (.seq (.region r43_5) .ret) .skip))) (.region r43_3)))))) (.seq (.region r43_6) .ret)))
theorem code43 : ∃ c, Try.f43.body = some c ∧ abs Try.f43.ntmps c = B43 := ⟨_, rfl, by kernel_rfl⟩
theorem hb43 : HasBody Try.prog 43 := hasBody_of Try.func43 (by kernel_rfl)
theorem res43 : Try.f43.results = #[(.tmp 4), (.tmp 5)] := rfl
theorem enter43 {w : World} {R : Value → World → Prop} (x0 x1 : Value) (h : vc Try.prog B43 (retK Try.prog #[(.tmp 4), (.tmp 5)] R) [] (initEnv [x0, x1] 0) w) : FnC Try.prog 43 #[x0, x1] w R := by
  obtain ⟨c, h1, h2⟩ := code43
  exact hb43.fn (ret_of_vc mixed Try.func43 h1 (Nat.le_of_ble_eq_true rfl) B43 h2 h)
@[push_cast] theorem vr43_0 : VR r43_0 [⟨some 4, .assign (.const (.int .i64 0)), 3, none⟩, ⟨some 5, .assign (.const (.bool false)), 4, none⟩] := vR rfl
@[push_cast] theorem vr43_1 : VR r43_1 [⟨some 6, .assign (.const (.int .i64 0)), 3, none⟩] := vR rfl
@[push_cast] theorem vr43_2 : VR r43_2 [⟨some 7, .move (.tmp 6), 3, none⟩, ⟨some 8, .move (.tmp 0), 22, none⟩, ⟨some 9, .call ⟨.builtin .len, #[.tmp 8], #[22]⟩, 3, none⟩, ⟨some 10, .binOp .lss 3 (.tmp 7) (.tmp 9) 3, 4, none⟩] := vR rfl
@[push_cast] theorem vr43_4 : VR r43_4 [⟨some 13, .move (.tmp 0), 22, none⟩, ⟨some 14, .move (.tmp 6), 3, none⟩, ⟨some 15, .indexAddr 22 (.tmp 13) (.tmp 14), 0, none⟩, ⟨some 16, .load 9 (.tmp 15), 9, none⟩, ⟨some 17, .move (.tmp 1), 9, none⟩, ⟨some 18, .binOp .eql 9 (.tmp 16) (.tmp 17) 9, 4, none⟩] := vR rfl
@[push_cast] theorem vr43_5 : VR r43_5 [⟨some 19, .move (.tmp 6), 3, none⟩, ⟨some 4, .assign (.tmp 19), 3, none⟩, ⟨some 5, .assign (.const (.bool true)), 4, none⟩] := vR rfl
@[push_cast] theorem vr43_3 : VR r43_3 [⟨some 11, .move (.tmp 6), 3, none⟩, ⟨some 12, .binOp .add 3 (.tmp 11) (.const (.int .i64 1)) 3, 3, none⟩, ⟨some 6, .assign (.tmp 12), 3, none⟩] := vR rfl
@[push_cast] theorem vr43_6 : VR r43_6 [⟨some 4, .assign (.const (.int .i64 0)), 3, none⟩, ⟨some 5, .assign (.const (.bool false)), 4, none⟩] := vR rfl
/-! 50 cmp.Or[int] (params #[29], results #[(.tmp 2)], 18 slots) -/
def W50_0 : List Nat := [2, 5, 8, 9, 10, 11, 12, 13, 14, 15, 16]
@[push_cast] theorem W50_0_def : W50_0 = [2, 5, 8, 9, 10, 11, 12, 13, 14, 15, 16] := mk_eq rfl
def r50_0 : List VOp :=
  [⟨some 2, .assign (.const (.int .i64 0)), 3, none⟩]
def r50_1 : List VOp :=
  [⟨some 3, .assign (.const (.int .i64 0)), 3, none⟩]
def r50_2 : List VOp :=
  [mv 6 0 29,
   ⟨some 7, .call ⟨.builtin .len, #[.tmp 6], #[29]⟩, 3, none⟩,
   ⟨some 8, .move (.const (.int .i64 0)), 3, none⟩]
def r50_3 : List VOp :=
  [⟨some 9, .binOp .lss 3 (.tmp 8) (.tmp 7) 3, 0, none⟩]
def r50_4 : List VOp :=
  [iad 10 29 6 8,
   lda 11 3 10,
   asg 5 11 3]
def r50_5 : List VOp :=
  [mv 12 5 3,
   mv 13 3 3,
   ⟨some 14, .binOp .neq 3 (.tmp 12) (.tmp 13) 3, 4, none⟩]
def r50_6 : List VOp :=
  [mv 15 5 3,
   asg 2 15 3]
def r50_7 : List VOp :=
  [⟨some 16, .binOp .add 3 (.tmp 8) (.const (.int .i64 1)) 3, 3, none⟩,
   mv 8 16 3]
def r50_8 : List VOp :=
  [mv 17 3 3,
   asg 2 17 3]
def B50 : VC :=
  (.seq (.region r50_0) (.seq (.region r50_1) (.seq (.seq (.region r50_2) (.block 0 (.loop (.seq (.region r50_3) (.seq (.cond (.tmp 9) .skip (.exit 0)) (.seq (.block 1 (.seq (.region r50_4) (.seq (.region r50_5) (.cond (.tmp 14) (.seq (.region r50_6) .ret) .skip)))) (.region r50_7))))))) (.seq (.region r50_8) .ret))))
theorem code50 : ∃ c, Try.f50.body = some c ∧ abs Try.f50.ntmps c = B50 := ⟨_, rfl, by kernel_rfl⟩
theorem hb50 : HasBody Try.prog 50 := hasBody_of Try.func50 (by kernel_rfl)
theorem res50 : Try.f50.results = #[(.tmp 2)] := rfl
theorem enter50 {w : World} {R : Value → World → Prop} (x0 : Value) (h : vc Try.prog B50 (retK Try.prog #[(.tmp 2)] R) [] (initEnv [x0] 0) w) : FnC Try.prog 50 #[x0] w R := by
  obtain ⟨c, h1, h2⟩ := code50
  exact hb50.fn (ret_of_vc mixed Try.func50 h1 (Nat.le_of_ble_eq_true rfl) B50 h2 h)
@[push_cast] theorem vr50_0 : VR r50_0 [⟨some 2, .assign (.const (.int .i64 0)), 3, none⟩] := vR rfl
@[push_cast] theorem vr50_1 : VR r50_1 [⟨some 3, .assign (.const (.int .i64 0)), 3, none⟩] := vR rfl
@[push_cast] theorem vr50_2 : VR r50_2 [⟨some 6, .move (.tmp 0), 29, none⟩, ⟨some 7, .call ⟨.builtin .len, #[.tmp 6], #[29]⟩, 3, none⟩, ⟨some 8, .move (.const (.int .i64 0)), 3, none⟩] := vR rfl
@[push_cast] theorem vr50_3 : VR r50_3 [⟨some 9, .binOp .lss 3 (.tmp 8) (.tmp 7) 3, 0, none⟩] := vR rfl
@[push_cast] theorem vr50_4 : VR r50_4 [⟨some 10, .indexAddr 29 (.tmp 6) (.tmp 8), 0, none⟩, ⟨some 11, .load 3 (.tmp 10), 3, none⟩, ⟨some 5, .assign (.tmp 11), 3, none⟩] := vR rfl
@[push_cast] theorem vr50_5 : VR r50_5 [⟨some 12, .move (.tmp 5), 3, none⟩, ⟨some 13, .move (.tmp 3), 3, none⟩, ⟨some 14, .binOp .neq 3 (.tmp 12) (.tmp 13) 3, 4, none⟩] := vR rfl
@[push_cast] theorem vr50_6 : VR r50_6 [⟨some 15, .move (.tmp 5), 3, none⟩, ⟨some 2, .assign (.tmp 15), 3, none⟩] := vR rfl
@[push_cast] theorem vr50_7 : VR r50_7 [⟨some 16, .binOp .add 3 (.tmp 8) (.const (.int .i64 1)) 3, 3, none⟩, ⟨some 8, .move (.tmp 16), 3, none⟩] := vR rfl
@[push_cast] theorem vr50_8 : VR r50_8 [⟨some 17, .move (.tmp 3), 3, none⟩, ⟨some 2, .assign (.tmp 17), 3, none⟩] := vR rfl
/-! 51 cmp.Compare[int] (params #[3, 3], results #[(.tmp 4)], 20 slots) -/
def r51_0 : List VOp :=
  [⟨some 4, .assign (.const (.int .i64 0)), 3, none⟩]
def r51_1 : List VOp :=
  [mv 7 0 3,
   ⟨some 8, .call ⟨.value (.func 86), #[.tmp 7], #[3]⟩, 4, none⟩,
   asg 5 8 4]
def r51_2 : List VOp :=
  [mv 9 1 3,
   ⟨some 10, .call ⟨.value (.func 86), #[.tmp 9], #[3]⟩, 4, none⟩,
   asg 6 10 4]
def r51_3 : List VOp :=
  [mv 11 5 4]
def r51_4 : List VOp :=
  [mv 12 6 4]
def r51_5 : List VOp :=
  [⟨some 4, .assign (.const (.int .i64 0)), 3, none⟩]
def r51_6 : List VOp :=
  [⟨some 4, .assign (.const (.int .i64 (-1))), 3, none⟩]
def r51_7 : List VOp :=
  [mv 13 6 4]
def r51_8 : List VOp :=
  [⟨some 4, .assign (.const (.int .i64 1)), 3, none⟩]
def r51_9 : List VOp :=
  [mv 14 0 3,
   mv 15 1 3,
   ⟨some 16, .binOp .lss 3 (.tmp 14) (.tmp 15) 3, 4, none⟩]
def r51_10 : List VOp :=
  [⟨some 4, .assign (.const (.int .i64 (-1))), 3, none⟩]
def r51_11 : List VOp :=
  [mv 17 0 3,
   mv 18 1 3,
   ⟨some 19, .binOp .gtr 3 (.tmp 17) (.tmp 18) 3, 4, none⟩]
def r51_12 : List VOp :=
  [⟨some 4, .assign (.const (.int .i64 1)), 3, none⟩]
def r51_13 : List VOp :=
  [⟨some 4, .assign (.const (.int .i64 0)), 3, none⟩]
def B51 : VC :=
  (.seq (.region r51_0) (.seq (.region r51_1) (.seq (.region r51_2) (.seq (.seq (.region r51_3) (.cond (.tmp 11) (.seq (.seq (.region r51_4) (.cond (.tmp 12) (.seq (.region r51_5) .ret) .skip)) (.seq (.region r51_6) .ret)) .skip)) (.seq (.seq (.region r51_7) (.cond (.tmp 13) (.seq (.region r51_8) .ret) .skip)) (.seq (.seq (.region r51_9) (.cond (.tmp 16) (.seq (.region r51_10) .ret) .skip)) (.seq (.seq (.region r51_11) (.cond (.tmp 19) (.seq (.region r51_12) .ret) .skip)) (.seq (.region r51_13) .ret))))))))
theorem code51 : ∃ c, Try.f51.body = some c ∧ abs Try.f51.ntmps c = B51 := ⟨_, rfl, by kernel_rfl⟩
theorem hb51 : HasBody Try.prog 51 := hasBody_of Try.func51 (by kernel_rfl)
theorem res51 : Try.f51.results = #[(.tmp 4)] := rfl
theorem enter51 {w : World} {R : Value → World → Prop} (x0 x1 : Value) (h : vc Try.prog B51 (retK Try.prog #[(.tmp 4)] R) [] (initEnv [x0, x1] 0) w) : FnC Try.prog 51 #[x0, x1] w R := by
  obtain ⟨c, h1, h2⟩ := code51
  exact hb51.fn (ret_of_vc mixed Try.func51 h1 (Nat.le_of_ble_eq_true rfl) B51 h2 h)
@[push_cast] theorem vr51_0 : VR r51_0 [⟨some 4, .assign (.const (.int .i64 0)), 3, none⟩] := vR rfl
@[push_cast] theorem vr51_1 : VR r51_1 [⟨some 7, .move (.tmp 0), 3, none⟩, ⟨some 8, .call ⟨.value (.func 86), #[.tmp 7], #[3]⟩, 4, none⟩, ⟨some 5, .assign (.tmp 8), 4, none⟩] := vR rfl
@[push_cast] theorem vr51_2 : VR r51_2 [⟨some 9, .move (.tmp 1), 3, none⟩, ⟨some 10, .call ⟨.value (.func 86), #[.tmp 9], #[3]⟩, 4, none⟩, ⟨some 6, .assign (.tmp 10), 4, none⟩] := vR rfl
@[push_cast] theorem vr51_3 : VR r51_3 [⟨some 11, .move (.tmp 5), 4, none⟩] := vR rfl
@[push_cast] theorem vr51_4 : VR r51_4 [⟨some 12, .move (.tmp 6), 4, none⟩] := vR rfl
@[push_cast] theorem vr51_5 : VR r51_5 [⟨some 4, .assign (.const (.int .i64 0)), 3, none⟩] := vR rfl
@[push_cast] theorem vr51_6 : VR r51_6 [⟨some 4, .assign (.const (.int .i64 (-1))), 3, none⟩] := vR rfl
@[push_cast] theorem vr51_7 : VR r51_7 [⟨some 13, .move (.tmp 6), 4, none⟩] := vR rfl
@[push_cast] theorem vr51_8 : VR r51_8 [⟨some 4, .assign (.const (.int .i64 1)), 3, none⟩] := vR rfl
@[push_cast] theorem vr51_9 : VR r51_9 [⟨some 14, .move (.tmp 0), 3, none⟩, ⟨some 15, .move (.tmp 1), 3, none⟩, ⟨some 16, .binOp .lss 3 (.tmp 14) (.tmp 15) 3, 4, none⟩] := vR rfl
@[push_cast] theorem vr51_10 : VR r51_10 [⟨some 4, .assign (.const (.int .i64 (-1))), 3, none⟩] := vR rfl
@[push_cast] theorem vr51_11 : VR r51_11 [⟨some 17, .move (.tmp 0), 3, none⟩, ⟨some 18, .move (.tmp 1), 3, none⟩, ⟨some 19, .binOp .gtr 3 (.tmp 17) (.tmp 18) 3, 4, none⟩] := vR rfl
@[push_cast] theorem vr51_12 : VR r51_12 [⟨some 4, .assign (.const (.int .i64 1)), 3, none⟩] := vR rfl
@[push_cast] theorem vr51_13 : VR r51_13 [⟨some 4, .assign (.const (.int .i64 0)), 3, none⟩] := vR rfl
/-! 53 columbary/columbarylaw10.Fits (params #[22], results #[(.tmp 2)], 20 slots) -/
def W53_0 : List Nat := [2, 3, 4, 5, 6, 7, 8, 9, 10, 11, 12, 13, 14, 15, 16, 17, 18, 19]
@[push_cast] theorem W53_0_def : W53_0 = [2, 3, 4, 5, 6, 7, 8, 9, 10, 11, 12, 13, 14, 15, 16, 17, 18, 19] := mk_eq rfl
def r53_0 : List VOp :=
  [⟨some 2, .assign (.const (.bool false)), 4, none⟩]
def r53_1 : List VOp :=
  [⟨some 3, .assign (.const (.int .i64 0)), 3, none⟩]
def r53_2 : List VOp :=
  [mv 4 3 3,
   mv 5 0 22,
   ⟨some 6, .call ⟨.builtin .len, #[.tmp 5], #[22]⟩, 3, none⟩,
   ⟨some 7, .binOp .lss 3 (.tmp 4) (.tmp 6) 3, 4, none⟩]
def r53_4 : List VOp :=
  [mv 10 3 3,
   ⟨some 11, .binOp .eql 3 (.tmp 10) (.const (.int .i64 20)) 3, 4, none⟩,
   mv 12 11 4,
   ⟨some 13, .move (.tmp 0), 22, some (12, false)⟩,
   ⟨some 14, .move (.tmp 3), 3, some (12, false)⟩,
   ⟨some 15, .indexAddr 22 (.tmp 13) (.tmp 14), 0, some (12, false)⟩,
   ⟨some 16, .load 9 (.tmp 15), 9, some (12, false)⟩,
   ⟨some 17, .call ⟨.builtin .len, #[.tmp 16], #[9]⟩, 3, some (12, false)⟩,
   ⟨some 18, .binOp .gtr 3 (.tmp 17) (.const (.int .i64 80)) 3, 4, some (12, false)⟩,
   ⟨some 19, .pick (.tmp 12) (.const (.bool true)) (.tmp 18), 4, none⟩]
def r53_5 : List VOp :=
  [⟨some 2, .assign (.const (.bool false)), 4, none⟩]
def r53_3 : List VOp :=
  [mv 8 3 3,
   ⟨some 9, .binOp .add 3 (.tmp 8) (.const (.int .i64 1)) 3, 3, none⟩,
   asg 3 9 3]
def r53_6 : List VOp :=
  [⟨some 2, .assign (.const (.bool true)), 4, none⟩]
def B53 : VC :=
  (.seq (.region r53_0) (.seq (.seq (.region r53_1) (.block 0 (.loop (.seq (.seq (.region r53_2) (.cond (.tmp 7) .skip (.exit 0))) (.seq (.block 1 (.seq (.region r53_4) (.cond (.tmp 19) (.seq (.region r53_5) .ret) .skip))) (.region r53_3)))))) (.seq (.region r53_6) .ret)))
theorem code53 : ∃ c, Try.f53.body = some c ∧ abs Try.f53.ntmps c = B53 := ⟨_, rfl, by kernel_rfl⟩
theorem hb53 : HasBody Try.prog 53 := hasBody_of Try.func53 (by kernel_rfl)
theorem res53 : Try.f53.results = #[(.tmp 2)] := rfl
theorem enter53 {w : World} {R : Value → World → Prop} (x0 : Value) (h : vc Try.prog B53 (retK Try.prog #[(.tmp 2)] R) [] (initEnv [x0] 0) w) : FnC Try.prog 53 #[x0] w R := by
  obtain ⟨c, h1, h2⟩ := code53
  exact hb53.fn (ret_of_vc mixed Try.func53 h1 (Nat.le_of_ble_eq_true rfl) B53 h2 h)
@[push_cast] theorem vr53_0 : VR r53_0 [⟨some 2, .assign (.const (.bool false)), 4, none⟩] := vR rfl
@[push_cast] theorem vr53_1 : VR r53_1 [⟨some 3, .assign (.const (.int .i64 0)), 3, none⟩] := vR rfl
@[push_cast] theorem vr53_2 : VR r53_2 [⟨some 4, .move (.tmp 3), 3, none⟩, ⟨some 5, .move (.tmp 0), 22, none⟩, ⟨some 6, .call ⟨.builtin .len, #[.tmp 5], #[22]⟩, 3, none⟩, ⟨some 7, .binOp .lss 3 (.tmp 4) (.tmp 6) 3, 4, none⟩] := vR rfl
@[push_cast] theorem vr53_4 : VR r53_4 [⟨some 10, .move (.tmp 3), 3, none⟩, ⟨some 11, .binOp .eql 3 (.tmp 10) (.const (.int .i64 20)) 3, 4, none⟩, ⟨some 12, .move (.tmp 11), 4, none⟩, ⟨some 13, .move (.tmp 0), 22, some (12, false)⟩, ⟨some 14, .move (.tmp 3), 3, some (12, false)⟩, ⟨some 15, .indexAddr 22 (.tmp 13) (.tmp 14), 0, some (12, false)⟩, ⟨some 16, .load 9 (.tmp 15), 9, some (12, false)⟩, ⟨some 17, .call ⟨.builtin .len, #[.tmp 16], #[9]⟩, 3, some (12, false)⟩, ⟨some 18, .binOp .gtr 3 (.tmp 17) (.const (.int .i64 80)) 3, 4, some (12, false)⟩, ⟨some 19, .pick (.tmp 12) (.const (.bool true)) (.tmp 18), 4, none⟩] := vR rfl
@[push_cast] theorem vr53_5 : VR r53_5 [⟨some 2, .assign (.const (.bool false)), 4, none⟩] := vR rfl
@[push_cast] theorem vr53_3 : VR r53_3 [⟨some 8, .move (.tmp 3), 3, none⟩, ⟨some 9, .binOp .add 3 (.tmp 8) (.const (.int .i64 1)) 3, 3, none⟩, ⟨some 3, .assign (.tmp 9), 3, none⟩] := vR rfl
@[push_cast] theorem vr53_6 : VR r53_6 [⟨some 2, .assign (.const (.bool true)), 4, none⟩] := vR rfl
/-! 55 columbary/columbaryref10.Right (params #[24], results #[(.tmp 2)], 57 slots) -/
def W55_0 : List Nat := [2, 4, 5, 6, 14, 15, 16, 17, 18, 19, 20, 21, 22, 23, 24, 25, 26, 27, 28, 29, 30, 31, 32, 33, 34, 35, 36, 37, 38, 39, 40]
@[push_cast] theorem W55_0_def : W55_0 = [2, 4, 5, 6, 14, 15, 16, 17, 18, 19, 20, 21, 22, 23, 24, 25, 26, 27, 28, 29, 30, 31, 32, 33, 34, 35, 36, 37, 38, 39, 40] := mk_eq rfl
def W55_1 : List Nat := [2, 6, 27, 28, 29, 30, 31, 32, 33, 34, 35, 36, 37, 38, 39, 40]
@[push_cast] theorem W55_1_def : W55_1 = [2, 6, 27, 28, 29, 30, 31, 32, 33, 34, 35, 36, 37, 38, 39, 40] := mk_eq rfl
def r55_0 : List VOp :=
  [⟨some 1, .box 24 (.tmp 0), 0, none⟩,
   ⟨some 2, .assign (.const (.bool false)), 4, none⟩]
def r55_1 : List VOp :=
  [⟨some 7, .buildSlice 22 0 #[], 22, none⟩,
   fad 8 24 1 0,
   lda 9 22 8,
   ⟨some 10, .call ⟨.builtin .append, #[.tmp 7, .tmp 9], #[22, 22]⟩, 22, none⟩,
   fad 11 24 1 1,
   lda 12 22 11,
   ⟨some 13, .call ⟨.builtin .append, #[.tmp 10, .tmp 12], #[22, 22]⟩, 22, none⟩,
   asg 3 13 22]
def r55_2 : List VOp :=
  [⟨some 4, .assign (.const (.int .i64 0)), 3, none⟩]
def r55_3 : List VOp :=
  [mv 14 4 3,
   mv 15 3 22,
   ⟨some 16, .call ⟨.builtin .len, #[.tmp 15], #[22]⟩, 3, none⟩,
   ⟨some 17, .binOp .lss 3 (.tmp 14) (.tmp 16) 3, 4, none⟩]
def r55_5 : List VOp :=
  [mv 20 3 22,
   mv 21 4 3,
   iad 22 22 20 21,
   lda 23 9 22,
   ⟨some 24, .call ⟨.value (.func 87), #[.tmp 23], #[9]⟩, 4, none⟩,
   asg 5 24 4]
def r55_6 : List VOp :=
  [mv 25 5 4,
   ⟨some 26, .unOp .not 4 (.tmp 25), 4, none⟩]
def r55_7 : List VOp :=
  [⟨some 2, .assign (.const (.bool false)), 4, none⟩]
def r55_8 : List VOp :=
  [⟨some 6, .assign (.const (.int .i64 0)), 3, none⟩]
def r55_9 : List VOp :=
  [mv 27 6 3,
   mv 28 4 3,
   ⟨some 29, .binOp .lss 3 (.tmp 27) (.tmp 28) 3, 4, none⟩]
def r55_11 : List VOp :=
  [mv 32 3 22,
   mv 33 6 3,
   iad 34 22 32 33,
   lda 35 9 34,
   mv 36 3 22,
   mv 37 4 3,
   iad 38 22 36 37,
   lda 39 9 38,
   ⟨some 40, .binOp .eql 9 (.tmp 35) (.tmp 39) 9, 4, none⟩]
def r55_12 : List VOp :=
  [⟨some 2, .assign (.const (.bool false)), 4, none⟩]
def r55_10 : List VOp :=
  [mv 30 6 3,
   ⟨some 31, .binOp .add 3 (.tmp 30) (.const (.int .i64 1)) 3, 3, none⟩,
   asg 6 31 3]
def r55_4 : List VOp :=
  [mv 18 4 3,
   ⟨some 19, .binOp .add 3 (.tmp 18) (.const (.int .i64 1)) 3, 3, none⟩,
   asg 4 19 3]
def r55_13 : List VOp :=
  [fad 41 24 1 0,
   lda 42 22 41,
   ⟨some 43, .call ⟨.builtin .len, #[.tmp 42], #[22]⟩, 3, none⟩,
   ⟨some 44, .binOp .geq 3 (.tmp 43) (.const (.int .i64 1)) 3, 4, none⟩,
   mv 45 44 4,
   ⟨some 46, .fieldAddr 24 (.tmp 1) 0, 0, some (45, true)⟩,
   ⟨some 47, .load 22 (.tmp 46), 22, some (45, true)⟩,
   ⟨some 48, .call ⟨.builtin .len, #[.tmp 47], #[22]⟩, 3, some (45, true)⟩,
   ⟨some 49, .binOp .leq 3 (.tmp 48) (.const (.int .i64 6)) 3, 4, some (45, true)⟩,
   ⟨some 50, .pick (.tmp 45) (.tmp 49) (.const (.bool false)), 4, none⟩,
   mv 51 50 4,
   ⟨some 52, .fieldAddr 24 (.tmp 1) 1, 0, some (51, true)⟩,
   ⟨some 53, .load 22 (.tmp 52), 22, some (51, true)⟩,
   ⟨some 54, .call ⟨.builtin .len, #[.tmp 53], #[22]⟩, 3, some (51, true)⟩,
   ⟨some 55, .binOp .leq 3 (.tmp 54) (.const (.int .i64 4)) 3, 4, some (51, true)⟩,
   ⟨some 56, .pick (.tmp 51) (.tmp 55) (.const (.bool false)), 4, none⟩,
   asg 2 56 4]
def B55 : VC :=
  (.seq (.region r55_0) (.seq (.draw r55_1 3) (.seq (.seq (.region r55_2) (.block 0 (.loop (.seq (.seq (.region r55_3) (.cond (.tmp 17) .skip (.exit 0))) (.seq (.block 1 (.seq (.region r55_5) (.seq (.seq (.region r55_6) (.cond (.tmp 26) (.seq (.region r55_7) .ret) .skip)) (.seq (.region r55_8) (.block 2 (.loop (.seq (.seq (.region r55_9) (.cond (.tmp 29) .skip (.exit 2))) (.seq (.block 3 (.seq (.draw r55_11 2) (.cond (.tmp 40) (.seq (.region r55_12) .ret) .skip))) (.region r55_10))))))))) (.region r55_4)))))) (.seq (.region r55_13) .ret))))
theorem code55 : ∃ c, Try.f55.body = some c ∧ abs Try.f55.ntmps c = B55 := ⟨_, rfl, by kernel_rfl⟩
theorem hb55 : HasBody Try.prog 55 := hasBody_of Try.func55 (by kernel_rfl)
theorem res55 : Try.f55.results = #[(.tmp 2)] := rfl
theorem enter55 {w : World} {R : Value → World → Prop} (x0 : Value) (h : vc Try.prog B55 (retK Try.prog #[(.tmp 2)] R) [] (initEnv [x0] 0) w) : FnC Try.prog 55 #[x0] w R := by
  obtain ⟨c, h1, h2⟩ := code55
  exact hb55.fn (ret_of_vc mixed Try.func55 h1 (Nat.le_of_ble_eq_true rfl) B55 h2 h)
@[push_cast] theorem vr55_0 : VR r55_0 [⟨some 1, .box 24 (.tmp 0), 0, none⟩, ⟨some 2, .assign (.const (.bool false)), 4, none⟩] := vR rfl
@[push_cast] theorem vr55_1 : vc Try.prog (.draw r55_1 3) Q ds σ w = drawn Try.prog [(⟨some 7, .buildSlice 22 0 #[], 22, none⟩, []), (⟨some 8, .fieldAddr 24 (.tmp 1) 0, 0, none⟩, [1]), (⟨some 9, .load 22 (.tmp 8), 22, none⟩, [8]), (⟨some 10, .call ⟨.builtin .append, #[.tmp 7, .tmp 9], #[22, 22]⟩, 22, none⟩, [7, 9]), (⟨some 11, .fieldAddr 24 (.tmp 1) 1, 0, none⟩, [1]), (⟨some 12, .load 22 (.tmp 11), 22, none⟩, [11]), (⟨some 13, .call ⟨.builtin .append, #[.tmp 10, .tmp 12], #[22, 22]⟩, 22, none⟩, [10, 12]), (⟨some 3, .assign (.tmp 13), 22, none⟩, [13])] 3 (Q .normal ds) σ w := mk_eq rfl
@[push_cast] theorem vr55_2 : VR r55_2 [⟨some 4, .assign (.const (.int .i64 0)), 3, none⟩] := vR rfl
@[push_cast] theorem vr55_3 : VR r55_3 [⟨some 14, .move (.tmp 4), 3, none⟩, ⟨some 15, .move (.tmp 3), 22, none⟩, ⟨some 16, .call ⟨.builtin .len, #[.tmp 15], #[22]⟩, 3, none⟩, ⟨some 17, .binOp .lss 3 (.tmp 14) (.tmp 16) 3, 4, none⟩] := vR rfl
@[push_cast] theorem vr55_5 : VR r55_5 [⟨some 20, .move (.tmp 3), 22, none⟩, ⟨some 21, .move (.tmp 4), 3, none⟩, ⟨some 22, .indexAddr 22 (.tmp 20) (.tmp 21), 0, none⟩, ⟨some 23, .load 9 (.tmp 22), 9, none⟩, ⟨some 24, .call ⟨.value (.func 87), #[.tmp 23], #[9]⟩, 4, none⟩, ⟨some 5, .assign (.tmp 24), 4, none⟩] := vR rfl
@[push_cast] theorem vr55_6 : VR r55_6 [⟨some 25, .move (.tmp 5), 4, none⟩, ⟨some 26, .unOp .not 4 (.tmp 25), 4, none⟩] := vR rfl
@[push_cast] theorem vr55_7 : VR r55_7 [⟨some 2, .assign (.const (.bool false)), 4, none⟩] := vR rfl
@[push_cast] theorem vr55_8 : VR r55_8 [⟨some 6, .assign (.const (.int .i64 0)), 3, none⟩] := vR rfl
@[push_cast] theorem vr55_9 : VR r55_9 [⟨some 27, .move (.tmp 6), 3, none⟩, ⟨some 28, .move (.tmp 4), 3, none⟩, ⟨some 29, .binOp .lss 3 (.tmp 27) (.tmp 28) 3, 4, none⟩] := vR rfl
@[push_cast] theorem vr55_11 : vc Try.prog (.draw r55_11 2) Q ds σ w = drawn Try.prog [(⟨some 32, .move (.tmp 3), 22, none⟩, [3]), (⟨some 33, .move (.tmp 6), 3, none⟩, [6]), (⟨some 34, .indexAddr 22 (.tmp 32) (.tmp 33), 0, none⟩, [32, 33]), (⟨some 35, .load 9 (.tmp 34), 9, none⟩, [34]), (⟨some 36, .move (.tmp 3), 22, none⟩, [3]), (⟨some 37, .move (.tmp 4), 3, none⟩, [4]), (⟨some 38, .indexAddr 22 (.tmp 36) (.tmp 37), 0, none⟩, [36, 37]), (⟨some 39, .load 9 (.tmp 38), 9, none⟩, [38]), (⟨some 40, .binOp .eql 9 (.tmp 35) (.tmp 39) 9, 4, none⟩, [35, 39])] 2 (Q .normal ds) σ w := mk_eq rfl
@[push_cast] theorem vr55_12 : VR r55_12 [⟨some 2, .assign (.const (.bool false)), 4, none⟩] := vR rfl
@[push_cast] theorem vr55_10 : VR r55_10 [⟨some 30, .move (.tmp 6), 3, none⟩, ⟨some 31, .binOp .add 3 (.tmp 30) (.const (.int .i64 1)) 3, 3, none⟩, ⟨some 6, .assign (.tmp 31), 3, none⟩] := vR rfl
@[push_cast] theorem vr55_4 : VR r55_4 [⟨some 18, .move (.tmp 4), 3, none⟩, ⟨some 19, .binOp .add 3 (.tmp 18) (.const (.int .i64 1)) 3, 3, none⟩, ⟨some 4, .assign (.tmp 19), 3, none⟩] := vR rfl
@[push_cast] theorem vr55_13 : VR r55_13 [⟨some 41, .fieldAddr 24 (.tmp 1) 0, 0, none⟩, ⟨some 42, .load 22 (.tmp 41), 22, none⟩, ⟨some 43, .call ⟨.builtin .len, #[.tmp 42], #[22]⟩, 3, none⟩, ⟨some 44, .binOp .geq 3 (.tmp 43) (.const (.int .i64 1)) 3, 4, none⟩, ⟨some 45, .move (.tmp 44), 4, none⟩, ⟨some 46, .fieldAddr 24 (.tmp 1) 0, 0, some (45, true)⟩, ⟨some 47, .load 22 (.tmp 46), 22, some (45, true)⟩, ⟨some 48, .call ⟨.builtin .len, #[.tmp 47], #[22]⟩, 3, some (45, true)⟩, ⟨some 49, .binOp .leq 3 (.tmp 48) (.const (.int .i64 6)) 3, 4, some (45, true)⟩, ⟨some 50, .pick (.tmp 45) (.tmp 49) (.const (.bool false)), 4, none⟩, ⟨some 51, .move (.tmp 50), 4, none⟩, ⟨some 52, .fieldAddr 24 (.tmp 1) 1, 0, some (51, true)⟩, ⟨some 53, .load 22 (.tmp 52), 22, some (51, true)⟩, ⟨some 54, .call ⟨.builtin .len, #[.tmp 53], #[22]⟩, 3, some (51, true)⟩, ⟨some 55, .binOp .leq 3 (.tmp 54) (.const (.int .i64 4)) 3, 4, some (51, true)⟩, ⟨some 56, .pick (.tmp 51) (.tmp 55) (.const (.bool false)), 4, none⟩, ⟨some 2, .assign (.tmp 56), 4, none⟩] := vR rfl
/-! 69 columbary/columbarylaw23.parts (params #[39, 3], results #[(.tmp 4)], 40 slots) -/
def W69_0 : List Nat := [5, 6, 16, 17, 18, 19, 20, 21, 22, 23, 24, 25, 26, 27, 28, 29, 30, 31, 32, 33, 34, 35, 36, 37, 38]
@[push_cast] theorem W69_0_def : W69_0 = [5, 6, 16, 17, 18, 19, 20, 21, 22, 23, 24, 25, 26, 27, 28, 29, 30, 31, 32, 33, 34, 35, 36, 37, 38] := mk_eq rfl
def r69_0 : List VOp :=
  [⟨some 2, .box 39 (.tmp 0), 0, none⟩,
   ⟨some 4, .assign (.const (.int .i64 0)), 3, none⟩]
def r69_1 : List VOp :=
  [fad 7 39 2 1,
   lda 8 9 7,
   ⟨some 9, .call ⟨.builtin .len, #[.tmp 8], #[9]⟩, 3, none⟩,
   fad 10 39 2 2,
   lda 11 9 10,
   ⟨some 12, .call ⟨.builtin .len, #[.tmp 11], #[9]⟩, 3, none⟩,
   ⟨some 13, .binOp .add 3 (.tmp 9) (.tmp 12) 3, 3, none⟩,
   ⟨some 14, .binOp .quo 3 (.tmp 13) (.const (.int .i64 100)) 3, 3, none⟩,
   ⟨some 15, .binOp .add 3 (.const (.int .i64 1)) (.tmp 14) 3, 3, none⟩,
   asg 5 15 3]
def r69_2 : List VOp :=
  [⟨some 6, .assign (.const (.int .i64 0)), 3, none⟩]
def r69_3 : List VOp :=
  [mv 16 6 3,
   fad 17 39 2 3,
   lda 18 37 17,
   ⟨some 19, .call ⟨.builtin .len, #[.tmp 18], #[37]⟩, 3, none⟩,
   ⟨some 20, .binOp .lss 3 (.tmp 16) (.tmp 19) 3, 4, none⟩,
   mv 21 20 4,
   ⟨some 22, .move (.tmp 5), 3, some (21, true)⟩,
   ⟨some 23, .move (.tmp 1), 3, some (21, true)⟩,
   ⟨some 24, .binOp .lss 3 (.tmp 22) (.tmp 23) 3, 4, some (21, true)⟩,
   ⟨some 25, .pick (.tmp 21) (.tmp 24) (.const (.bool false)), 4, none⟩]
def r69_5 : List VOp :=
  [mv 28 5 3,
   fad 29 39 2 3,
   lda 30 37 29,
   mv 31 6 3,
   iad 32 37 30 31,
   lda 33 39 32,
   mv 34 1 3,
   mv 35 5 3,
   ⟨some 36, .binOp .sub 3 (.tmp 34) (.tmp 35) 3, 3, none⟩,
   ⟨some 37, .call ⟨.value (.func 69), #[.tmp 33, .tmp 36], #[39, 3]⟩, 3, none⟩,
   ⟨some 38, .binOp .add 3 (.tmp 28) (.tmp 37) 3, 3, none⟩,
   asg 5 38 3]
def r69_4 : List VOp :=
  [mv 26 6 3,
   ⟨some 27, .binOp .add 3 (.tmp 26) (.const (.int .i64 1)) 3, 3, none⟩,
   asg 6 27 3]
def r69_6 : List VOp :=
  [mv 39 5 3,
   asg 4 39 3]
def B69 : VC :=
  (.seq (.region r69_0) (.seq (.region r69_1) (.seq (.seq (.region r69_2) (.block 0 (.loop (.seq (.seq (.region r69_3) (.cond (.tmp 25) .skip (.exit 0))) (.seq (.block 1 (.region r69_5)) (.region r69_4)))))) (.seq (.region r69_6) .ret))))
theorem code69 : ∃ c, Try.f69.body = some c ∧ abs Try.f69.ntmps c = B69 := ⟨_, rfl, by kernel_rfl⟩
theorem hb69 : HasBody Try.prog 69 := hasBody_of Try.func69 (by kernel_rfl)
theorem res69 : Try.f69.results = #[(.tmp 4)] := rfl
theorem enter69 {w : World} {R : Value → World → Prop} (x0 x1 : Value) (h : vc Try.prog B69 (retK Try.prog #[(.tmp 4)] R) [] (initEnv [x0, x1] 0) w) : FnC Try.prog 69 #[x0, x1] w R := by
  obtain ⟨c, h1, h2⟩ := code69
  exact hb69.fn (ret_of_vc mixed Try.func69 h1 (Nat.le_of_ble_eq_true rfl) B69 h2 h)
@[push_cast] theorem vr69_0 : VR r69_0 [⟨some 2, .box 39 (.tmp 0), 0, none⟩, ⟨some 4, .assign (.const (.int .i64 0)), 3, none⟩] := vR rfl
@[push_cast] theorem vr69_1 : VR r69_1 [⟨some 7, .fieldAddr 39 (.tmp 2) 1, 0, none⟩, ⟨some 8, .load 9 (.tmp 7), 9, none⟩, ⟨some 9, .call ⟨.builtin .len, #[.tmp 8], #[9]⟩, 3, none⟩, ⟨some 10, .fieldAddr 39 (.tmp 2) 2, 0, none⟩, ⟨some 11, .load 9 (.tmp 10), 9, none⟩, ⟨some 12, .call ⟨.builtin .len, #[.tmp 11], #[9]⟩, 3, none⟩, ⟨some 13, .binOp .add 3 (.tmp 9) (.tmp 12) 3, 3, none⟩, ⟨some 14, .binOp .quo 3 (.tmp 13) (.const (.int .i64 100)) 3, 3, none⟩, ⟨some 15, .binOp .add 3 (.const (.int .i64 1)) (.tmp 14) 3, 3, none⟩, ⟨some 5, .assign (.tmp 15), 3, none⟩] := vR rfl
@[push_cast] theorem vr69_2 : VR r69_2 [⟨some 6, .assign (.const (.int .i64 0)), 3, none⟩] := vR rfl
@[push_cast] theorem vr69_3 : VR r69_3 [⟨some 16, .move (.tmp 6), 3, none⟩, ⟨some 17, .fieldAddr 39 (.tmp 2) 3, 0, none⟩, ⟨some 18, .load 37 (.tmp 17), 37, none⟩, ⟨some 19, .call ⟨.builtin .len, #[.tmp 18], #[37]⟩, 3, none⟩, ⟨some 20, .binOp .lss 3 (.tmp 16) (.tmp 19) 3, 4, none⟩, ⟨some 21, .move (.tmp 20), 4, none⟩, ⟨some 22, .move (.tmp 5), 3, some (21, true)⟩, ⟨some 23, .move (.tmp 1), 3, some (21, true)⟩, ⟨some 24, .binOp .lss 3 (.tmp 22) (.tmp 23) 3, 4, some (21, true)⟩, ⟨some 25, .pick (.tmp 21) (.tmp 24) (.const (.bool false)), 4, none⟩] := vR rfl
@[push_cast] theorem vr69_5 : VR r69_5 [⟨some 28, .move (.tmp 5), 3, none⟩, ⟨some 29, .fieldAddr 39 (.tmp 2) 3, 0, none⟩, ⟨some 30, .load 37 (.tmp 29), 37, none⟩, ⟨some 31, .move (.tmp 6), 3, none⟩, ⟨some 32, .indexAddr 37 (.tmp 30) (.tmp 31), 0, none⟩, ⟨some 33, .load 39 (.tmp 32), 39, none⟩, ⟨some 34, .move (.tmp 1), 3, none⟩, ⟨some 35, .move (.tmp 5), 3, none⟩, ⟨some 36, .binOp .sub 3 (.tmp 34) (.tmp 35) 3, 3, none⟩, ⟨some 37, .call ⟨.value (.func 69), #[.tmp 33, .tmp 36], #[39, 3]⟩, 3, none⟩, ⟨some 38, .binOp .add 3 (.tmp 28) (.tmp 37) 3, 3, none⟩, ⟨some 5, .assign (.tmp 38), 3, none⟩] := vR rfl
@[push_cast] theorem vr69_4 : VR r69_4 [⟨some 26, .move (.tmp 6), 3, none⟩, ⟨some 27, .binOp .add 3 (.tmp 26) (.const (.int .i64 1)) 3, 3, none⟩, ⟨some 6, .assign (.tmp 27), 3, none⟩] := vR rfl
@[push_cast] theorem vr69_6 : VR r69_6 [⟨some 39, .move (.tmp 5), 3, none⟩, ⟨some 4, .assign (.tmp 39), 3, none⟩] := vR rfl
/-! 77 columbary/columbaryref23.shape (params #[42], results #[(.tmp 2)], 106 slots) -/
def W77_0 : List Nat := [2, 3, 4, 30, 31, 32, 33, 34, 35, 36, 37, 38, 39, 40, 41, 42, 43, 44]
@[push_cast] theorem W77_0_def : W77_0 = [2, 3, 4, 30, 31, 32, 33, 34, 35, 36, 37, 38, 39, 40, 41, 42, 43, 44] := mk_eq rfl
def W77_1 : List Nat := [2, 5, 6, 7, 45, 46, 47, 48, 49, 50, 51, 52, 53, 54, 55, 56, 57, 58, 59, 60, 61, 62, 63, 64, 65, 66, 67, 68, 69, 70, 71, 72, 73, 74, 75, 76, 77, 78, 79, 80, 81]
@[push_cast] theorem W77_1_def : W77_1 = [2, 5, 6, 7, 45, 46, 47, 48, 49, 50, 51, 52, 53, 54, 55, 56, 57, 58, 59, 60, 61, 62, 63, 64, 65, 66, 67, 68, 69, 70, 71, 72, 73, 74, 75, 76, 77, 78, 79, 80, 81] := mk_eq rfl
def r77_0 : List VOp :=
  [⟨some 1, .box 42 (.tmp 0), 0, none⟩,
   ⟨some 2, .assign (.const (.bool false)), 4, none⟩]
def r77_1 : List VOp :=
  [fad 8 42 1 0,
   lda 9 35 8,
   ⟨some 10, .call ⟨.builtin .len, #[.tmp 9], #[35]⟩, 3, none⟩,
   ⟨some 11, .binOp .lss 3 (.tmp 10) (.const (.int .i64 1)) 3, 4, none⟩,
   mv 12 11 4,
   ⟨some 13, .fieldAddr 42 (.tmp 1) 0, 0, some (12, false)⟩,
   ⟨some 14, .load 35 (.tmp 13), 35, some (12, false)⟩,
   ⟨some 15, .call ⟨.builtin .len, #[.tmp 14], #[35]⟩, 3, some (12, false)⟩,
   ⟨some 16, .binOp .gtr 3 (.tmp 15) (.const (.int .i64 8)) 3, 4, some (12, false)⟩,
   ⟨some 17, .pick (.tmp 12) (.const (.bool true)) (.tmp 16), 4, none⟩,
   mv 18 17 4,
   ⟨some 19, .fieldAddr 42 (.tmp 1) 4, 0, some (18, false)⟩,
   ⟨some 20, .load 22 (.tmp 19), 22, some (18, false)⟩,
   ⟨some 21, .call ⟨.builtin .len, #[.tmp 20], #[22]⟩, 3, some (18, false)⟩,
   ⟨some 22, .binOp .gtr 3 (.tmp 21) (.const (.int .i64 6)) 3, 4, some (18, false)⟩,
   ⟨some 23, .pick (.tmp 18) (.const (.bool true)) (.tmp 22), 4, none⟩,
   mv 24 23 4,
   ⟨some 25, .fieldAddr 42 (.tmp 1) 6, 0, some (24, false)⟩,
   ⟨some 26, .load 40 (.tmp 25), 40, some (24, false)⟩,
   ⟨some 27, .call ⟨.builtin .len, #[.tmp 26], #[40]⟩, 3, some (24, false)⟩,
   ⟨some 28, .binOp .gtr 3 (.tmp 27) (.const (.int .i64 8)) 3, 4, some (24, false)⟩,
   ⟨some 29, .pick (.tmp 24) (.const (.bool true)) (.tmp 28), 4, none⟩]
def r77_2 : List VOp :=
  [⟨some 2, .assign (.const (.bool false)), 4, none⟩]
def r77_3 : List VOp :=
  [⟨some 3, .assign (.const (.int .i64 0)), 3, none⟩]
def r77_4 : List VOp :=
  [mv 30 3 3,
   fad 31 42 1 0,
   lda 32 35 31,
   ⟨some 33, .call ⟨.builtin .len, #[.tmp 32], #[35]⟩, 3, none⟩,
   ⟨some 34, .binOp .lss 3 (.tmp 30) (.tmp 33) 3, 4, none⟩]
def r77_6 : List VOp :=
  [fad 37 42 1 0,
   lda 38 35 37,
   mv 39 3 3,
   iad 40 35 38 39,
   lda 41 63 40,
   ⟨some 42, .call ⟨.value (.func 122), #[.tmp 41], #[63]⟩, 4, none⟩,
   asg 4 42 4]
def r77_7 : List VOp :=
  [mv 43 4 4,
   ⟨some 44, .unOp .not 4 (.tmp 43), 4, none⟩]
def r77_8 : List VOp :=
  [⟨some 2, .assign (.const (.bool false)), 4, none⟩]
def r77_5 : List VOp :=
  [mv 35 3 3,
   ⟨some 36, .binOp .add 3 (.tmp 35) (.const (.int .i64 1)) 3, 3, none⟩,
   asg 3 36 3]
def r77_9 : List VOp :=
  [⟨some 5, .assign (.const (.int .i64 0)), 3, none⟩]
def r77_10 : List VOp :=
  [mv 45 5 3,
   fad 46 42 1 6,
   lda 47 40 46,
   ⟨some 48, .call ⟨.builtin .len, #[.tmp 47], #[40]⟩, 3, none⟩,
   ⟨some 49, .binOp .lss 3 (.tmp 45) (.tmp 48) 3, 4, none⟩]
def r77_12 : List VOp :=
  [fad 52 42 1 6,
   lda 53 40 52,
   mv 54 5 3,
   iad 55 40 53 54,
   lda 56 146 55,
   ⟨some 6, .alloc 146, 0, none⟩,
   ⟨none, .store 146 (.tmp 6) (.tmp 56), 0, none⟩]
def r77_13 : List VOp :=
  [fad 57 146 6 0,
   lda 58 63 57,
   ⟨some 59, .call ⟨.value (.func 122), #[.tmp 58], #[63]⟩, 4, none⟩,
   asg 7 59 4]
def r77_14 : List VOp :=
  [mv 60 7 4,
   ⟨some 61, .unOp .not 4 (.tmp 60), 4, none⟩,
   mv 62 61 4,
   ⟨some 63, .fieldAddr 146 (.tmp 6) 1, 0, some (62, false)⟩,
   ⟨some 64, .load 3 (.tmp 63), 3, some (62, false)⟩,
   ⟨some 65, .binOp .lss 3 (.tmp 64) (.const (.int .i64 (-1))) 3, 4, some (62, false)⟩,
   ⟨some 66, .pick (.tmp 62) (.const (.bool true)) (.tmp 65), 4, none⟩,
   mv 67 66 4,
   ⟨some 68, .fieldAddr 146 (.tmp 6) 1, 0, some (67, false)⟩,
   ⟨some 69, .load 3 (.tmp 68), 3, some (67, false)⟩,
   ⟨some 70, .binOp .gtr 3 (.tmp 69) (.const (.int .i64 1)) 3, 4, some (67, false)⟩,
   ⟨some 71, .pick (.tmp 67) (.const (.bool true)) (.tmp 70), 4, none⟩,
   mv 72 71 4,
   ⟨some 73, .fieldAddr 146 (.tmp 6) 2, 0, some (72, false)⟩,
   ⟨some 74, .load 3 (.tmp 73), 3, some (72, false)⟩,
   ⟨some 75, .binOp .lss 3 (.tmp 74) (.const (.int .i64 (-4611686018427387904))) 3, 4, some (72, false)⟩,
   ⟨some 76, .pick (.tmp 72) (.const (.bool true)) (.tmp 75), 4, none⟩,
   mv 77 76 4,
   ⟨some 78, .fieldAddr 146 (.tmp 6) 2, 0, some (77, false)⟩,
   ⟨some 79, .load 3 (.tmp 78), 3, some (77, false)⟩,
   ⟨some 80, .binOp .gtr 3 (.tmp 79) (.const (.int .i64 4611686018427387904)) 3, 4, some (77, false)⟩,
   ⟨some 81, .pick (.tmp 77) (.const (.bool true)) (.tmp 80), 4, none⟩]
def r77_15 : List VOp :=
  [⟨some 2, .assign (.const (.bool false)), 4, none⟩]
def r77_11 : List VOp :=
  [mv 50 5 3,
   ⟨some 51, .binOp .add 3 (.tmp 50) (.const (.int .i64 1)) 3, 3, none⟩,
   asg 5 51 3]
def r77_16 : List VOp :=
  [fad 82 42 1 5,
   fad 83 39 82 0,
   lda 84 36 83,
   ⟨some 85, .binOp .eql 36 (.tmp 84) (.const (.int .i64 0)) 36, 4, none⟩]
def r77_17 : List VOp :=
  [fad 86 42 1 5,
   fad 87 39 86 3,
   lda 88 37 87,
   ⟨some 89, .call ⟨.builtin .len, #[.tmp 88], #[37]⟩, 3, none⟩,
   ⟨some 90, .binOp .eql 3 (.tmp 89) (.const (.int .i64 0)) 3, 4, none⟩,
   mv 91 90 4,
   ⟨some 92, .fieldAddr 42 (.tmp 1) 5, 0, some (91, true)⟩,
   ⟨some 93, .fieldAddr 39 (.tmp 92) 1, 0, some (91, true)⟩,
   ⟨some 94, .load 9 (.tmp 93), 9, some (91, true)⟩,
   ⟨some 95, .binOp .eql 9 (.tmp 94) (.const (.string { data := #[] })) 9, 4, some (91, true)⟩,
   ⟨some 96, .pick (.tmp 91) (.tmp 95) (.const (.bool false)), 4, none⟩,
   mv 97 96 4,
   ⟨some 98, .fieldAddr 42 (.tmp 1) 5, 0, some (97, true)⟩,
   ⟨some 99, .fieldAddr 39 (.tmp 98) 2, 0, some (97, true)⟩,
   ⟨some 100, .load 9 (.tmp 99), 9, some (97, true)⟩,
   ⟨some 101, .binOp .eql 9 (.tmp 100) (.const (.string { data := #[] })) 9, 4, some (97, true)⟩,
   ⟨some 102, .pick (.tmp 97) (.tmp 101) (.const (.bool false)), 4, none⟩,
   asg 2 102 4]
def r77_18 : List VOp :=
  [fad 103 42 1 5,
   lda 104 39 103,
   ⟨some 105, .call ⟨.value (.func 123), #[(.tmp 104), (.const (.int .i64 30))], #[39, 3]⟩, 4, none⟩,
   asg 2 105 4]
def B77 : VC :=
  (.seq (.region r77_0) (.seq (.seq (.region r77_1) (.cond (.tmp 29) (.seq (.region r77_2) .ret) .skip)) (.seq (.seq (.region r77_3) (.block 0 (.loop (.seq (.seq (.region r77_4) (.cond (.tmp 34) .skip (.exit 0))) (.seq (.block 1 (.seq (.region r77_6) (.seq (.region r77_7) (.cond (.tmp 44) (.seq (.region r77_8) .ret) .skip)))) (.region r77_5)))))) (.seq (.seq (.region r77_9) (.block 2 (.loop (.seq (.seq (.region r77_10) (.cond (.tmp 49) .skip (.exit 2))) (.seq (.block 3 (.seq (.region r77_12) (.seq (.region r77_13) (.seq (.region r77_14) (.cond (.tmp 81) (.seq (.region r77_15) .ret) .skip))))) (.region r77_11)))))) (.seq (.seq (.region r77_16) (.cond (.tmp 85) (.seq (.region r77_17) .ret) .skip)) (.seq (.region r77_18) .ret))))))
theorem code77 : ∃ c, Try.f77.body = some c ∧ abs Try.f77.ntmps c = B77 := ⟨_, rfl, by kernel_rfl⟩
theorem hb77 : HasBody Try.prog 77 := hasBody_of Try.func77 (by kernel_rfl)
theorem res77 : Try.f77.results = #[(.tmp 2)] := rfl
theorem enter77 {w : World} {R : Value → World → Prop} (x0 : Value) (h : vc Try.prog B77 (retK Try.prog #[(.tmp 2)] R) [] (initEnv [x0] 0) w) : FnC Try.prog 77 #[x0] w R := by
  obtain ⟨c, h1, h2⟩ := code77
  exact hb77.fn (ret_of_vc mixed Try.func77 h1 (Nat.le_of_ble_eq_true rfl) B77 h2 h)
@[push_cast] theorem vr77_0 : VR r77_0 [⟨some 1, .box 42 (.tmp 0), 0, none⟩, ⟨some 2, .assign (.const (.bool false)), 4, none⟩] := vR rfl
@[push_cast] theorem vr77_1 : VR r77_1 [⟨some 8, .fieldAddr 42 (.tmp 1) 0, 0, none⟩, ⟨some 9, .load 35 (.tmp 8), 35, none⟩, ⟨some 10, .call ⟨.builtin .len, #[.tmp 9], #[35]⟩, 3, none⟩, ⟨some 11, .binOp .lss 3 (.tmp 10) (.const (.int .i64 1)) 3, 4, none⟩, ⟨some 12, .move (.tmp 11), 4, none⟩, ⟨some 13, .fieldAddr 42 (.tmp 1) 0, 0, some (12, false)⟩, ⟨some 14, .load 35 (.tmp 13), 35, some (12, false)⟩, ⟨some 15, .call ⟨.builtin .len, #[.tmp 14], #[35]⟩, 3, some (12, false)⟩, ⟨some 16, .binOp .gtr 3 (.tmp 15) (.const (.int .i64 8)) 3, 4, some (12, false)⟩, ⟨some 17, .pick (.tmp 12) (.const (.bool true)) (.tmp 16), 4, none⟩, ⟨some 18, .move (.tmp 17), 4, none⟩, ⟨some 19, .fieldAddr 42 (.tmp 1) 4, 0, some (18, false)⟩, ⟨some 20, .load 22 (.tmp 19), 22, some (18, false)⟩, ⟨some 21, .call ⟨.builtin .len, #[.tmp 20], #[22]⟩, 3, some (18, false)⟩, ⟨some 22, .binOp .gtr 3 (.tmp 21) (.const (.int .i64 6)) 3, 4, some (18, false)⟩, ⟨some 23, .pick (.tmp 18) (.const (.bool true)) (.tmp 22), 4, none⟩, ⟨some 24, .move (.tmp 23), 4, none⟩, ⟨some 25, .fieldAddr 42 (.tmp 1) 6, 0, some (24, false)⟩, ⟨some 26, .load 40 (.tmp 25), 40, some (24, false)⟩, ⟨some 27, .call ⟨.builtin .len, #[.tmp 26], #[40]⟩, 3, some (24, false)⟩, ⟨some 28, .binOp .gtr 3 (.tmp 27) (.const (.int .i64 8)) 3, 4, some (24, false)⟩, ⟨some 29, .pick (.tmp 24) (.const (.bool true)) (.tmp 28), 4, none⟩] := vR rfl
@[push_cast] theorem vr77_2 : VR r77_2 [⟨some 2, .assign (.const (.bool false)), 4, none⟩] := vR rfl
@[push_cast] theorem vr77_3 : VR r77_3 [⟨some 3, .assign (.const (.int .i64 0)), 3, none⟩] := vR rfl
@[push_cast] theorem vr77_4 : VR r77_4 [⟨some 30, .move (.tmp 3), 3, none⟩, ⟨some 31, .fieldAddr 42 (.tmp 1) 0, 0, none⟩, ⟨some 32, .load 35 (.tmp 31), 35, none⟩, ⟨some 33, .call ⟨.builtin .len, #[.tmp 32], #[35]⟩, 3, none⟩, ⟨some 34, .binOp .lss 3 (.tmp 30) (.tmp 33) 3, 4, none⟩] := vR rfl
@[push_cast] theorem vr77_6 : VR r77_6 [⟨some 37, .fieldAddr 42 (.tmp 1) 0, 0, none⟩, ⟨some 38, .load 35 (.tmp 37), 35, none⟩, ⟨some 39, .move (.tmp 3), 3, none⟩, ⟨some 40, .indexAddr 35 (.tmp 38) (.tmp 39), 0, none⟩, ⟨some 41, .load 63 (.tmp 40), 63, none⟩, ⟨some 42, .call ⟨.value (.func 122), #[.tmp 41], #[63]⟩, 4, none⟩, ⟨some 4, .assign (.tmp 42), 4, none⟩] := vR rfl
@[push_cast] theorem vr77_7 : VR r77_7 [⟨some 43, .move (.tmp 4), 4, none⟩, ⟨some 44, .unOp .not 4 (.tmp 43), 4, none⟩] := vR rfl
@[push_cast] theorem vr77_8 : VR r77_8 [⟨some 2, .assign (.const (.bool false)), 4, none⟩] := vR rfl
@[push_cast] theorem vr77_5 : VR r77_5 [⟨some 35, .move (.tmp 3), 3, none⟩, ⟨some 36, .binOp .add 3 (.tmp 35) (.const (.int .i64 1)) 3, 3, none⟩, ⟨some 3, .assign (.tmp 36), 3, none⟩] := vR rfl
@[push_cast] theorem vr77_9 : VR r77_9 [⟨some 5, .assign (.const (.int .i64 0)), 3, none⟩] := vR rfl
@[push_cast] theorem vr77_10 : VR r77_10 [⟨some 45, .move (.tmp 5), 3, none⟩, ⟨some 46, .fieldAddr 42 (.tmp 1) 6, 0, none⟩, ⟨some 47, .load 40 (.tmp 46), 40, none⟩, ⟨some 48, .call ⟨.builtin .len, #[.tmp 47], #[40]⟩, 3, none⟩, ⟨some 49, .binOp .lss 3 (.tmp 45) (.tmp 48) 3, 4, none⟩] := vR rfl
@[push_cast] theorem vr77_12 : VR r77_12 [⟨some 52, .fieldAddr 42 (.tmp 1) 6, 0, none⟩, ⟨some 53, .load 40 (.tmp 52), 40, none⟩, ⟨some 54, .move (.tmp 5), 3, none⟩, ⟨some 55, .indexAddr 40 (.tmp 53) (.tmp 54), 0, none⟩, ⟨some 56, .load 146 (.tmp 55), 146, none⟩, ⟨some 6, .alloc 146, 0, none⟩, ⟨none, .store 146 (.tmp 6) (.tmp 56), 0, none⟩] := vR rfl
@[push_cast] theorem vr77_13 : VR r77_13 [⟨some 57, .fieldAddr 146 (.tmp 6) 0, 0, none⟩, ⟨some 58, .load 63 (.tmp 57), 63, none⟩, ⟨some 59, .call ⟨.value (.func 122), #[.tmp 58], #[63]⟩, 4, none⟩, ⟨some 7, .assign (.tmp 59), 4, none⟩] := vR rfl
@[push_cast] theorem vr77_14 : VR r77_14 [⟨some 60, .move (.tmp 7), 4, none⟩, ⟨some 61, .unOp .not 4 (.tmp 60), 4, none⟩, ⟨some 62, .move (.tmp 61), 4, none⟩, ⟨some 63, .fieldAddr 146 (.tmp 6) 1, 0, some (62, false)⟩, ⟨some 64, .load 3 (.tmp 63), 3, some (62, false)⟩, ⟨some 65, .binOp .lss 3 (.tmp 64) (.const (.int .i64 (-1))) 3, 4, some (62, false)⟩, ⟨some 66, .pick (.tmp 62) (.const (.bool true)) (.tmp 65), 4, none⟩, ⟨some 67, .move (.tmp 66), 4, none⟩, ⟨some 68, .fieldAddr 146 (.tmp 6) 1, 0, some (67, false)⟩, ⟨some 69, .load 3 (.tmp 68), 3, some (67, false)⟩, ⟨some 70, .binOp .gtr 3 (.tmp 69) (.const (.int .i64 1)) 3, 4, some (67, false)⟩, ⟨some 71, .pick (.tmp 67) (.const (.bool true)) (.tmp 70), 4, none⟩, ⟨some 72, .move (.tmp 71), 4, none⟩, ⟨some 73, .fieldAddr 146 (.tmp 6) 2, 0, some (72, false)⟩, ⟨some 74, .load 3 (.tmp 73), 3, some (72, false)⟩, ⟨some 75, .binOp .lss 3 (.tmp 74) (.const (.int .i64 (-4611686018427387904))) 3, 4, some (72, false)⟩, ⟨some 76, .pick (.tmp 72) (.const (.bool true)) (.tmp 75), 4, none⟩, ⟨some 77, .move (.tmp 76), 4, none⟩, ⟨some 78, .fieldAddr 146 (.tmp 6) 2, 0, some (77, false)⟩, ⟨some 79, .load 3 (.tmp 78), 3, some (77, false)⟩, ⟨some 80, .binOp .gtr 3 (.tmp 79) (.const (.int .i64 4611686018427387904)) 3, 4, some (77, false)⟩, ⟨some 81, .pick (.tmp 77) (.const (.bool true)) (.tmp 80), 4, none⟩] := vR rfl
@[push_cast] theorem vr77_15 : VR r77_15 [⟨some 2, .assign (.const (.bool false)), 4, none⟩] := vR rfl
@[push_cast] theorem vr77_11 : VR r77_11 [⟨some 50, .move (.tmp 5), 3, none⟩, ⟨some 51, .binOp .add 3 (.tmp 50) (.const (.int .i64 1)) 3, 3, none⟩, ⟨some 5, .assign (.tmp 51), 3, none⟩] := vR rfl
@[push_cast] theorem vr77_16 : VR r77_16 [⟨some 82, .fieldAddr 42 (.tmp 1) 5, 0, none⟩, ⟨some 83, .fieldAddr 39 (.tmp 82) 0, 0, none⟩, ⟨some 84, .load 36 (.tmp 83), 36, none⟩, ⟨some 85, .binOp .eql 36 (.tmp 84) (.const (.int .i64 0)) 36, 4, none⟩] := vR rfl
@[push_cast] theorem vr77_17 : VR r77_17 [⟨some 86, .fieldAddr 42 (.tmp 1) 5, 0, none⟩, ⟨some 87, .fieldAddr 39 (.tmp 86) 3, 0, none⟩, ⟨some 88, .load 37 (.tmp 87), 37, none⟩, ⟨some 89, .call ⟨.builtin .len, #[.tmp 88], #[37]⟩, 3, none⟩, ⟨some 90, .binOp .eql 3 (.tmp 89) (.const (.int .i64 0)) 3, 4, none⟩, ⟨some 91, .move (.tmp 90), 4, none⟩, ⟨some 92, .fieldAddr 42 (.tmp 1) 5, 0, some (91, true)⟩, ⟨some 93, .fieldAddr 39 (.tmp 92) 1, 0, some (91, true)⟩, ⟨some 94, .load 9 (.tmp 93), 9, some (91, true)⟩, ⟨some 95, .binOp .eql 9 (.tmp 94) (.const (.string { data := #[] })) 9, 4, some (91, true)⟩, ⟨some 96, .pick (.tmp 91) (.tmp 95) (.const (.bool false)), 4, none⟩, ⟨some 97, .move (.tmp 96), 4, none⟩, ⟨some 98, .fieldAddr 42 (.tmp 1) 5, 0, some (97, true)⟩, ⟨some 99, .fieldAddr 39 (.tmp 98) 2, 0, some (97, true)⟩, ⟨some 100, .load 9 (.tmp 99), 9, some (97, true)⟩, ⟨some 101, .binOp .eql 9 (.tmp 100) (.const (.string { data := #[] })) 9, 4, some (97, true)⟩, ⟨some 102, .pick (.tmp 97) (.tmp 101) (.const (.bool false)), 4, none⟩, ⟨some 2, .assign (.tmp 102), 4, none⟩] := vR rfl
@[push_cast] theorem vr77_18 : VR r77_18 [⟨some 103, .fieldAddr 42 (.tmp 1) 5, 0, none⟩, ⟨some 104, .load 39 (.tmp 103), 39, none⟩, ⟨some 105, .call ⟨.value (.func 123), #[(.tmp 104), (.const (.int .i64 30))], #[39, 3]⟩, 4, none⟩, ⟨some 2, .assign (.tmp 105), 4, none⟩] := vR rfl
/-! 78 columbary/columbaryref23.names (params #[24, 42], results #[(.tmp 4)], 72 slots) -/
def W78_0 : List Nat := [4, 6, 7, 8, 21, 22, 23, 24, 25, 26, 27, 28, 29, 30, 31, 32, 33, 34, 35, 36, 37, 38]
@[push_cast] theorem W78_0_def : W78_0 = [4, 6, 7, 8, 21, 22, 23, 24, 25, 26, 27, 28, 29, 30, 31, 32, 33, 34, 35, 36, 37, 38] := mk_eq rfl
def W78_1 : List Nat := [4, 9, 10, 39, 40, 41, 42, 43, 44, 45, 46, 47, 48, 49, 50, 51, 52, 53, 54]
@[push_cast] theorem W78_1_def : W78_1 = [4, 9, 10, 39, 40, 41, 42, 43, 44, 45, 46, 47, 48, 49, 50, 51, 52, 53, 54] := mk_eq rfl
def W78_2 : List Nat := [4, 11, 12, 55, 56, 57, 58, 59, 60, 61, 62, 63, 64, 65, 66, 67, 68, 69, 70, 71]
@[push_cast] theorem W78_2_def : W78_2 = [4, 11, 12, 55, 56, 57, 58, 59, 60, 61, 62, 63, 64, 65, 66, 67, 68, 69, 70, 71] := mk_eq rfl
def r78_0 : List VOp :=
  [⟨some 2, .box 24 (.tmp 0), 0, none⟩,
   ⟨some 3, .box 42 (.tmp 1), 0, none⟩,
   ⟨some 4, .assign (.const (.bool false)), 4, none⟩]
def r78_1 : List VOp :=
  [⟨some 13, .buildSlice 22 0 #[], 22, none⟩,
   fad 14 42 3 4,
   lda 15 22 14,
   ⟨some 16, .call ⟨.builtin .append, #[.tmp 13, .tmp 15], #[22, 22]⟩, 22, none⟩,
   fad 17 42 3 5,
   lda 18 39 17,
   ⟨some 19, .call ⟨.value (.func 83), #[.tmp 18], #[39]⟩, 22, none⟩,
   ⟨some 20, .call ⟨.builtin .append, #[.tmp 16, .tmp 19], #[22, 22]⟩, 22, none⟩,
   asg 5 20 22]
def r78_2 : List VOp :=
  [⟨some 6, .assign (.const (.int .i64 0)), 3, none⟩]
def r78_3 : List VOp :=
  [mv 21 6 3,
   mv 22 5 22,
   ⟨some 23, .call ⟨.builtin .len, #[.tmp 22], #[22]⟩, 3, none⟩,
   ⟨some 24, .binOp .lss 3 (.tmp 21) (.tmp 23) 3, 4, none⟩]
def r78_5 : List VOp :=
  [fad 28 24 2 0,
   lda 29 22 28,
   mv 30 5 22,
   mv 31 6 3,
   iad 32 22 30 31,
   lda 33 9 32,
   ⟨some 34, .call ⟨.value (.func 43), #[.tmp 29, .tmp 33], #[22, 9]⟩, 94, none⟩,
   mv 27 34 94,
   ext 35 27 0 3,
   ext 36 27 1 4,
   asg 7 35 3,
   asg 8 36 4]
def r78_6 : List VOp :=
  [mv 37 8 4,
   ⟨some 38, .unOp .not 4 (.tmp 37), 4, none⟩]
def r78_7 : List VOp :=
  [⟨some 4, .assign (.const (.bool false)), 4, none⟩]
def r78_4 : List VOp :=
  [mv 25 6 3,
   ⟨some 26, .binOp .add 3 (.tmp 25) (.const (.int .i64 1)) 3, 3, none⟩,
   asg 6 26 3]
def r78_8 : List VOp :=
  [⟨some 9, .assign (.const (.int .i64 0)), 3, none⟩]
def r78_9 : List VOp :=
  [mv 39 9 3,
   fad 40 42 3 0,
   lda 41 35 40,
   ⟨some 42, .call ⟨.builtin .len, #[.tmp 41], #[35]⟩, 3, none⟩,
   ⟨some 43, .binOp .lss 3 (.tmp 39) (.tmp 42) 3, 4, none⟩]
def r78_11 : List VOp :=
  [lda 46 24 2,
   fad 47 42 3 0,
   lda 48 35 47,
   mv 49 9 3,
   iad 50 35 48 49,
   lda 51 63 50,
   ⟨some 52, .call ⟨.value (.func 124), #[.tmp 46, .tmp 51], #[24, 63]⟩, 4, none⟩,
   asg 10 52 4]
def r78_12 : List VOp :=
  [mv 53 10 4,
   ⟨some 54, .unOp .not 4 (.tmp 53), 4, none⟩]
def r78_13 : List VOp :=
  [⟨some 4, .assign (.const (.bool false)), 4, none⟩]
def r78_10 : List VOp :=
  [mv 44 9 3,
   ⟨some 45, .binOp .add 3 (.tmp 44) (.const (.int .i64 1)) 3, 3, none⟩,
   asg 9 45 3]
def r78_14 : List VOp :=
  [⟨some 11, .assign (.const (.int .i64 0)), 3, none⟩]
def r78_15 : List VOp :=
  [mv 55 11 3,
   fad 56 42 3 6,
   lda 57 40 56,
   ⟨some 58, .call ⟨.builtin .len, #[.tmp 57], #[40]⟩, 3, none⟩,
   ⟨some 59, .binOp .lss 3 (.tmp 55) (.tmp 58) 3, 4, none⟩]
def r78_17 : List VOp :=
  [lda 62 24 2,
   fad 63 42 3 6,
   lda 64 40 63,
   mv 65 11 3,
   iad 66 40 64 65,
   fad 67 146 66 0,
   lda 68 63 67,
   ⟨some 69, .call ⟨.value (.func 124), #[.tmp 62, .tmp 68], #[24, 63]⟩, 4, none⟩,
   asg 12 69 4]
def r78_18 : List VOp :=
  [mv 70 12 4,
   ⟨some 71, .unOp .not 4 (.tmp 70), 4, none⟩]
def r78_19 : List VOp :=
  [⟨some 4, .assign (.const (.bool false)), 4, none⟩]
def r78_16 : List VOp :=
  [mv 60 11 3,
   ⟨some 61, .binOp .add 3 (.tmp 60) (.const (.int .i64 1)) 3, 3, none⟩,
   asg 11 61 3]
def r78_20 : List VOp :=
  [⟨some 4, .assign (.const (.bool true)), 4, none⟩]
def B78 : VC :=
  (.seq (.region r78_0) (.seq (.draw r78_1 4) (.seq (.seq (.region r78_2) (.block 0 (.loop (.seq (.seq (.region r78_3) (.cond (.tmp 24) .skip (.exit 0))) (.seq (.block 1 (.seq (.draw r78_5 2) (.seq (.region r78_6) (.cond (.tmp 38) (.seq (.region r78_7) .ret) .skip)))) (.region r78_4)))))) (.seq (.seq (.region r78_8) (.block 2 (.loop (.seq (.seq (.region r78_9) (.cond (.tmp 43) .skip (.exit 2))) (.seq (.block 3 (.seq (.draw r78_11 3) (.seq (.region r78_12) (.cond (.tmp 54) (.seq (.region r78_13) .ret) .skip)))) (.region r78_10)))))) (.seq (.seq (.region r78_14) (.block 4 (.loop (.seq (.seq (.region r78_15) (.cond (.tmp 59) .skip (.exit 4))) (.seq (.block 5 (.seq (.draw r78_17 3) (.seq (.region r78_18) (.cond (.tmp 71) (.seq (.region r78_19) .ret) .skip)))) (.region r78_16)))))) (.seq (.region r78_20) .ret))))))
theorem code78 : ∃ c, Try.f78.body = some c ∧ abs Try.f78.ntmps c = B78 := ⟨_, rfl, by kernel_rfl⟩
theorem hb78 : HasBody Try.prog 78 := hasBody_of Try.func78 (by kernel_rfl)
theorem res78 : Try.f78.results = #[(.tmp 4)] := rfl
theorem enter78 {w : World} {R : Value → World → Prop} (x0 x1 : Value) (h : vc Try.prog B78 (retK Try.prog #[(.tmp 4)] R) [] (initEnv [x0, x1] 0) w) : FnC Try.prog 78 #[x0, x1] w R := by
  obtain ⟨c, h1, h2⟩ := code78
  exact hb78.fn (ret_of_vc mixed Try.func78 h1 (Nat.le_of_ble_eq_true rfl) B78 h2 h)
@[push_cast] theorem vr78_0 : VR r78_0 [⟨some 2, .box 24 (.tmp 0), 0, none⟩, ⟨some 3, .box 42 (.tmp 1), 0, none⟩, ⟨some 4, .assign (.const (.bool false)), 4, none⟩] := vR rfl
@[push_cast] theorem vr78_1 : vc Try.prog (.draw r78_1 4) Q ds σ w = drawn Try.prog [(⟨some 13, .buildSlice 22 0 #[], 22, none⟩, []), (⟨some 14, .fieldAddr 42 (.tmp 3) 4, 0, none⟩, [3]), (⟨some 15, .load 22 (.tmp 14), 22, none⟩, [14]), (⟨some 16, .call ⟨.builtin .append, #[.tmp 13, .tmp 15], #[22, 22]⟩, 22, none⟩, [13, 15]), (⟨some 17, .fieldAddr 42 (.tmp 3) 5, 0, none⟩, [3]), (⟨some 18, .load 39 (.tmp 17), 39, none⟩, [17]), (⟨some 19, .call ⟨.value (.func 83), #[.tmp 18], #[39]⟩, 22, none⟩, [18]), (⟨some 20, .call ⟨.builtin .append, #[.tmp 16, .tmp 19], #[22, 22]⟩, 22, none⟩, [16, 19]), (⟨some 5, .assign (.tmp 20), 22, none⟩, [20])] 4 (Q .normal ds) σ w := mk_eq rfl
@[push_cast] theorem vr78_2 : VR r78_2 [⟨some 6, .assign (.const (.int .i64 0)), 3, none⟩] := vR rfl
@[push_cast] theorem vr78_3 : VR r78_3 [⟨some 21, .move (.tmp 6), 3, none⟩, ⟨some 22, .move (.tmp 5), 22, none⟩, ⟨some 23, .call ⟨.builtin .len, #[.tmp 22], #[22]⟩, 3, none⟩, ⟨some 24, .binOp .lss 3 (.tmp 21) (.tmp 23) 3, 4, none⟩] := vR rfl
@[push_cast] theorem vr78_5 : vc Try.prog (.draw r78_5 2) Q ds σ w = drawn Try.prog [(⟨some 28, .fieldAddr 24 (.tmp 2) 0, 0, none⟩, [2]), (⟨some 29, .load 22 (.tmp 28), 22, none⟩, [28]), (⟨some 30, .move (.tmp 5), 22, none⟩, [5]), (⟨some 31, .move (.tmp 6), 3, none⟩, [6]), (⟨some 32, .indexAddr 22 (.tmp 30) (.tmp 31), 0, none⟩, [30, 31]), (⟨some 33, .load 9 (.tmp 32), 9, none⟩, [32]), (⟨some 34, .call ⟨.value (.func 43), #[.tmp 29, .tmp 33], #[22, 9]⟩, 94, none⟩, [29, 33]), (⟨some 27, .move (.tmp 34), 94, none⟩, [34]), (⟨some 35, .extract (.tmp 27) 0, 3, none⟩, [27]), (⟨some 36, .extract (.tmp 27) 1, 4, none⟩, [27]), (⟨some 7, .assign (.tmp 35), 3, none⟩, [35]), (⟨some 8, .assign (.tmp 36), 4, none⟩, [36])] 2 (Q .normal ds) σ w := mk_eq rfl
@[push_cast] theorem vr78_6 : VR r78_6 [⟨some 37, .move (.tmp 8), 4, none⟩, ⟨some 38, .unOp .not 4 (.tmp 37), 4, none⟩] := vR rfl
@[push_cast] theorem vr78_7 : VR r78_7 [⟨some 4, .assign (.const (.bool false)), 4, none⟩] := vR rfl
@[push_cast] theorem vr78_4 : VR r78_4 [⟨some 25, .move (.tmp 6), 3, none⟩, ⟨some 26, .binOp .add 3 (.tmp 25) (.const (.int .i64 1)) 3, 3, none⟩, ⟨some 6, .assign (.tmp 26), 3, none⟩] := vR rfl
@[push_cast] theorem vr78_8 : VR r78_8 [⟨some 9, .assign (.const (.int .i64 0)), 3, none⟩] := vR rfl
@[push_cast] theorem vr78_9 : VR r78_9 [⟨some 39, .move (.tmp 9), 3, none⟩, ⟨some 40, .fieldAddr 42 (.tmp 3) 0, 0, none⟩, ⟨some 41, .load 35 (.tmp 40), 35, none⟩, ⟨some 42, .call ⟨.builtin .len, #[.tmp 41], #[35]⟩, 3, none⟩, ⟨some 43, .binOp .lss 3 (.tmp 39) (.tmp 42) 3, 4, none⟩] := vR rfl
@[push_cast] theorem vr78_11 : vc Try.prog (.draw r78_11 3) Q ds σ w = drawn Try.prog [(⟨some 46, .load 24 (.tmp 2), 24, none⟩, [2]), (⟨some 47, .fieldAddr 42 (.tmp 3) 0, 0, none⟩, [3]), (⟨some 48, .load 35 (.tmp 47), 35, none⟩, [47]), (⟨some 49, .move (.tmp 9), 3, none⟩, [9]), (⟨some 50, .indexAddr 35 (.tmp 48) (.tmp 49), 0, none⟩, [48, 49]), (⟨some 51, .load 63 (.tmp 50), 63, none⟩, [50]), (⟨some 52, .call ⟨.value (.func 124), #[.tmp 46, .tmp 51], #[24, 63]⟩, 4, none⟩, [46, 51]), (⟨some 10, .assign (.tmp 52), 4, none⟩, [52])] 3 (Q .normal ds) σ w := mk_eq rfl
@[push_cast] theorem vr78_12 : VR r78_12 [⟨some 53, .move (.tmp 10), 4, none⟩, ⟨some 54, .unOp .not 4 (.tmp 53), 4, none⟩] := vR rfl
@[push_cast] theorem vr78_13 : VR r78_13 [⟨some 4, .assign (.const (.bool false)), 4, none⟩] := vR rfl
@[push_cast] theorem vr78_10 : VR r78_10 [⟨some 44, .move (.tmp 9), 3, none⟩, ⟨some 45, .binOp .add 3 (.tmp 44) (.const (.int .i64 1)) 3, 3, none⟩, ⟨some 9, .assign (.tmp 45), 3, none⟩] := vR rfl
@[push_cast] theorem vr78_14 : VR r78_14 [⟨some 11, .assign (.const (.int .i64 0)), 3, none⟩] := vR rfl
@[push_cast] theorem vr78_15 : VR r78_15 [⟨some 55, .move (.tmp 11), 3, none⟩, ⟨some 56, .fieldAddr 42 (.tmp 3) 6, 0, none⟩, ⟨some 57, .load 40 (.tmp 56), 40, none⟩, ⟨some 58, .call ⟨.builtin .len, #[.tmp 57], #[40]⟩, 3, none⟩, ⟨some 59, .binOp .lss 3 (.tmp 55) (.tmp 58) 3, 4, none⟩] := vR rfl
@[push_cast] theorem vr78_17 : vc Try.prog (.draw r78_17 3) Q ds σ w = drawn Try.prog [(⟨some 62, .load 24 (.tmp 2), 24, none⟩, [2]), (⟨some 63, .fieldAddr 42 (.tmp 3) 6, 0, none⟩, [3]), (⟨some 64, .load 40 (.tmp 63), 40, none⟩, [63]), (⟨some 65, .move (.tmp 11), 3, none⟩, [11]), (⟨some 66, .indexAddr 40 (.tmp 64) (.tmp 65), 0, none⟩, [64, 65]), (⟨some 67, .fieldAddr 146 (.tmp 66) 0, 0, none⟩, [66]), (⟨some 68, .load 63 (.tmp 67), 63, none⟩, [67]), (⟨some 69, .call ⟨.value (.func 124), #[.tmp 62, .tmp 68], #[24, 63]⟩, 4, none⟩, [62, 68]), (⟨some 12, .assign (.tmp 69), 4, none⟩, [69])] 3 (Q .normal ds) σ w := mk_eq rfl
@[push_cast] theorem vr78_18 : VR r78_18 [⟨some 70, .move (.tmp 12), 4, none⟩, ⟨some 71, .unOp .not 4 (.tmp 70), 4, none⟩] := vR rfl
@[push_cast] theorem vr78_19 : VR r78_19 [⟨some 4, .assign (.const (.bool false)), 4, none⟩] := vR rfl
@[push_cast] theorem vr78_16 : VR r78_16 [⟨some 60, .move (.tmp 11), 3, none⟩, ⟨some 61, .binOp .add 3 (.tmp 60) (.const (.int .i64 1)) 3, 3, none⟩, ⟨some 11, .assign (.tmp 61), 3, none⟩] := vR rfl
@[push_cast] theorem vr78_20 : VR r78_20 [⟨some 4, .assign (.const (.bool true)), 4, none⟩] := vR rfl
/-! 79 columbary/columbaryref23.types (params #[42], results #[(.tmp 2)], 89 slots) -/
def W79_0 : List Nat := [2, 3, 4, 8, 9, 10, 11, 12, 13, 14, 15, 16, 17, 18, 19, 20, 21, 22, 23, 24, 25, 26, 27, 28, 29, 30]
@[push_cast] theorem W79_0_def : W79_0 = [2, 3, 4, 8, 9, 10, 11, 12, 13, 14, 15, 16, 17, 18, 19, 20, 21, 22, 23, 24, 25, 26, 27, 28, 29, 30] := mk_eq rfl
def W79_1 : List Nat := [2, 4, 15, 16, 17, 18, 19, 20, 21, 22, 23, 24, 25, 26, 27, 28, 29, 30]
@[push_cast] theorem W79_1_def : W79_1 = [2, 4, 15, 16, 17, 18, 19, 20, 21, 22, 23, 24, 25, 26, 27, 28, 29, 30] := mk_eq rfl
def r79_0 : List VOp :=
  [⟨some 1, .box 42 (.tmp 0), 0, none⟩,
   ⟨some 2, .assign (.const (.bool false)), 4, none⟩]
def r79_1 : List VOp :=
  [⟨some 3, .assign (.const (.int .i64 0)), 3, none⟩]
def r79_2 : List VOp :=
  [mv 8 3 3,
   fad 9 42 1 4,
   lda 10 22 9,
   ⟨some 11, .call ⟨.builtin .len, #[.tmp 10], #[22]⟩, 3, none⟩,
   ⟨some 12, .binOp .lss 3 (.tmp 8) (.tmp 11) 3, 4, none⟩]
def r79_4 : List VOp :=
  [⟨some 4, .assign (.const (.int .i64 0)), 3, none⟩]
def r79_5 : List VOp :=
  [mv 15 4 3,
   mv 16 3 3,
   ⟨some 17, .binOp .lss 3 (.tmp 15) (.tmp 16) 3, 4, none⟩]
def r79_7 : List VOp :=
  [fad 20 42 1 4,
   lda 21 22 20,
   mv 22 3 3,
   iad 23 22 21 22,
   lda 24 9 23,
   fad 25 42 1 4,
   lda 26 22 25,
   mv 27 4 3,
   iad 28 22 26 27,
   lda 29 9 28,
   ⟨some 30, .binOp .eql 9 (.tmp 24) (.tmp 29) 9, 4, none⟩]
def r79_8 : List VOp :=
  [⟨some 2, .assign (.const (.bool false)), 4, none⟩]
def r79_6 : List VOp :=
  [mv 18 4 3,
   ⟨some 19, .binOp .add 3 (.tmp 18) (.const (.int .i64 1)) 3, 3, none⟩,
   asg 4 19 3]
def r79_3 : List VOp :=
  [mv 13 3 3,
   ⟨some 14, .binOp .add 3 (.tmp 13) (.const (.int .i64 1)) 3, 3, none⟩,
   asg 3 14 3]
def r79_9 : List VOp :=
  [fad 31 42 1 5,
   lda 32 39 31,
   ⟨some 33, .call ⟨.value (.func 125), #[.tmp 32], #[39]⟩, 4, none⟩,
   asg 5 33 4]
def r79_10 : List VOp :=
  [fad 34 42 1 3,
   lda 35 3 34,
   ⟨some 36, .binOp .eql 3 (.tmp 35) (.const (.int .i64 0)) 3, 4, none⟩,
   mv 37 36 4,
   ⟨some 38, .fieldAddr 42 (.tmp 1) 3, 0, some (37, false)⟩,
   ⟨some 39, .load 3 (.tmp 38), 3, some (37, false)⟩,
   ⟨some 40, .call ⟨.value (.func 84), #[.tmp 39], #[3]⟩, 4, some (37, false)⟩,
   ⟨some 41, .pick (.tmp 37) (.const (.bool true)) (.tmp 40), 4, none⟩,
   asg 6 41 4]
def r79_11 : List VOp :=
  [fad 42 42 1 0,
   lda 43 35 42,
   ⟨some 44, .call ⟨.builtin .len, #[.tmp 43], #[35]⟩, 3, none⟩,
   asg 7 44 3]
def r79_12 : List VOp :=
  [mv 45 5 4,
   mv 46 45 4,
   ⟨some 47, .move (.tmp 6), 4, some (46, true)⟩,
   ⟨some 48, .pick (.tmp 46) (.tmp 47) (.const (.bool false)), 4, none⟩,
   mv 49 48 4,
   ⟨some 50, .fieldAddr 42 (.tmp 1) 1, 0, some (49, true)⟩,
   ⟨some 51, .load 3 (.tmp 50), 3, some (49, true)⟩,
   ⟨some 52, .binOp .geq 3 (.tmp 51) (.const (.int .i64 0)) 3, 4, some (49, true)⟩,
   ⟨some 53, .pick (.tmp 49) (.tmp 52) (.const (.bool false)), 4, none⟩,
   mv 54 53 4,
   ⟨some 55, .fieldAddr 42 (.tmp 1) 1, 0, some (54, true)⟩,
   ⟨some 56, .load 3 (.tmp 55), 3, some (54, true)⟩,
   ⟨some 57, .fieldAddr 42 (.tmp 1) 2, 0, some (54, true)⟩,
   ⟨some 58, .load 3 (.tmp 57), 3, some (54, true)⟩,
   ⟨some 59, .binOp .lss 3 (.tmp 56) (.tmp 58) 3, 4, some (54, true)⟩,
   ⟨some 60, .pick (.tmp 54) (.tmp 59) (.const (.bool false)), 4, none⟩,
   mv 61 60 4,
   ⟨some 62, .fieldAddr 42 (.tmp 1) 2, 0, some (61, true)⟩,
   ⟨some 63, .load 3 (.tmp 62), 3, some (61, true)⟩,
   ⟨some 64, .binOp .leq 3 (.tmp 63) (.const (.int .i64 1099511627776)) 3, 4, some (61, true)⟩,
   ⟨some 65, .pick (.tmp 61) (.tmp 64) (.const (.bool false)), 4, none⟩,
   mv 66 65 4,
   ⟨some 67, .fieldAddr 42 (.tmp 1) 7, 0, some (66, true)⟩,
   ⟨some 68, .load 3 (.tmp 67), 3, some (66, true)⟩,
   ⟨some 69, .move (.tmp 7), 3, some (66, true)⟩,
   ⟨some 70, .unOp .neg 3 (.tmp 69), 3, some (66, true)⟩,
   ⟨some 71, .binOp .geq 3 (.tmp 68) (.tmp 70) 3, 4, some (66, true)⟩,
   ⟨some 72, .pick (.tmp 66) (.tmp 71) (.const (.bool false)), 4, none⟩,
   mv 73 72 4,
   ⟨some 74, .fieldAddr 42 (.tmp 1) 7, 0, some (73, true)⟩,
   ⟨some 75, .load 3 (.tmp 74), 3, some (73, true)⟩,
   ⟨some 76, .move (.tmp 7), 3, some (73, true)⟩,
   ⟨some 77, .binOp .leq 3 (.tmp 75) (.tmp 76) 3, 4, some (73, true)⟩,
   ⟨some 78, .pick (.tmp 73) (.tmp 77) (.const (.bool false)), 4, none⟩,
   mv 79 78 4,
   ⟨some 80, .fieldAddr 42 (.tmp 1) 8, 0, some (79, true)⟩,
   ⟨some 81, .load 3 (.tmp 80), 3, some (79, true)⟩,
   ⟨some 82, .binOp .geq 3 (.tmp 81) (.const (.int .i64 0)) 3, 4, some (79, true)⟩,
   ⟨some 83, .pick (.tmp 79) (.tmp 82) (.const (.bool false)), 4, none⟩,
   mv 84 83 4,
   ⟨some 85, .fieldAddr 42 (.tmp 1) 8, 0, some (84, true)⟩,
   ⟨some 86, .load 3 (.tmp 85), 3, some (84, true)⟩,
   ⟨some 87, .binOp .leq 3 (.tmp 86) (.const (.int .i64 1000)) 3, 4, some (84, true)⟩,
   ⟨some 88, .pick (.tmp 84) (.tmp 87) (.const (.bool false)), 4, none⟩,
   asg 2 88 4]
def B79 : VC :=
  (.seq (.region r79_0) (.seq (.seq (.region r79_1) (.block 0 (.loop (.seq (.seq (.region r79_2) (.cond (.tmp 12) .skip (.exit 0))) (.seq (.block 1 (.seq (.region r79_4) (.block 2 (.loop (.seq (.seq (.region r79_5) (.cond (.tmp 17) .skip (.exit 2))) (.seq (.block 3 (.seq (.draw r79_7 2) (.cond (.tmp 30) (.seq (.region r79_8) .ret) .skip))) (.region r79_6))))))) (.region r79_3)))))) (.seq (.region r79_9) (.seq (.region r79_10) (.seq (.region r79_11) (.seq (.region r79_12) .ret))))))
theorem code79 : ∃ c, Try.f79.body = some c ∧ abs Try.f79.ntmps c = B79 := ⟨_, rfl, by kernel_rfl⟩
theorem hb79 : HasBody Try.prog 79 := hasBody_of Try.func79 (by kernel_rfl)
theorem res79 : Try.f79.results = #[(.tmp 2)] := rfl
theorem enter79 {w : World} {R : Value → World → Prop} (x0 : Value) (h : vc Try.prog B79 (retK Try.prog #[(.tmp 2)] R) [] (initEnv [x0] 0) w) : FnC Try.prog 79 #[x0] w R := by
  obtain ⟨c, h1, h2⟩ := code79
  exact hb79.fn (ret_of_vc mixed Try.func79 h1 (Nat.le_of_ble_eq_true rfl) B79 h2 h)
@[push_cast] theorem vr79_0 : VR r79_0 [⟨some 1, .box 42 (.tmp 0), 0, none⟩, ⟨some 2, .assign (.const (.bool false)), 4, none⟩] := vR rfl
@[push_cast] theorem vr79_1 : VR r79_1 [⟨some 3, .assign (.const (.int .i64 0)), 3, none⟩] := vR rfl
@[push_cast] theorem vr79_2 : VR r79_2 [⟨some 8, .move (.tmp 3), 3, none⟩, ⟨some 9, .fieldAddr 42 (.tmp 1) 4, 0, none⟩, ⟨some 10, .load 22 (.tmp 9), 22, none⟩, ⟨some 11, .call ⟨.builtin .len, #[.tmp 10], #[22]⟩, 3, none⟩, ⟨some 12, .binOp .lss 3 (.tmp 8) (.tmp 11) 3, 4, none⟩] := vR rfl
@[push_cast] theorem vr79_4 : VR r79_4 [⟨some 4, .assign (.const (.int .i64 0)), 3, none⟩] := vR rfl
@[push_cast] theorem vr79_5 : VR r79_5 [⟨some 15, .move (.tmp 4), 3, none⟩, ⟨some 16, .move (.tmp 3), 3, none⟩, ⟨some 17, .binOp .lss 3 (.tmp 15) (.tmp 16) 3, 4, none⟩] := vR rfl
@[push_cast] theorem vr79_7 : vc Try.prog (.draw r79_7 2) Q ds σ w = drawn Try.prog [(⟨some 20, .fieldAddr 42 (.tmp 1) 4, 0, none⟩, [1]), (⟨some 21, .load 22 (.tmp 20), 22, none⟩, [20]), (⟨some 22, .move (.tmp 3), 3, none⟩, [3]), (⟨some 23, .indexAddr 22 (.tmp 21) (.tmp 22), 0, none⟩, [21, 22]), (⟨some 24, .load 9 (.tmp 23), 9, none⟩, [23]), (⟨some 25, .fieldAddr 42 (.tmp 1) 4, 0, none⟩, [1]), (⟨some 26, .load 22 (.tmp 25), 22, none⟩, [25]), (⟨some 27, .move (.tmp 4), 3, none⟩, [4]), (⟨some 28, .indexAddr 22 (.tmp 26) (.tmp 27), 0, none⟩, [26, 27]), (⟨some 29, .load 9 (.tmp 28), 9, none⟩, [28]), (⟨some 30, .binOp .eql 9 (.tmp 24) (.tmp 29) 9, 4, none⟩, [24, 29])] 2 (Q .normal ds) σ w := mk_eq rfl
@[push_cast] theorem vr79_8 : VR r79_8 [⟨some 2, .assign (.const (.bool false)), 4, none⟩] := vR rfl
@[push_cast] theorem vr79_6 : VR r79_6 [⟨some 18, .move (.tmp 4), 3, none⟩, ⟨some 19, .binOp .add 3 (.tmp 18) (.const (.int .i64 1)) 3, 3, none⟩, ⟨some 4, .assign (.tmp 19), 3, none⟩] := vR rfl
@[push_cast] theorem vr79_3 : VR r79_3 [⟨some 13, .move (.tmp 3), 3, none⟩, ⟨some 14, .binOp .add 3 (.tmp 13) (.const (.int .i64 1)) 3, 3, none⟩, ⟨some 3, .assign (.tmp 14), 3, none⟩] := vR rfl
@[push_cast] theorem vr79_9 : VR r79_9 [⟨some 31, .fieldAddr 42 (.tmp 1) 5, 0, none⟩, ⟨some 32, .load 39 (.tmp 31), 39, none⟩, ⟨some 33, .call ⟨.value (.func 125), #[.tmp 32], #[39]⟩, 4, none⟩, ⟨some 5, .assign (.tmp 33), 4, none⟩] := vR rfl
@[push_cast] theorem vr79_10 : VR r79_10 [⟨some 34, .fieldAddr 42 (.tmp 1) 3, 0, none⟩, ⟨some 35, .load 3 (.tmp 34), 3, none⟩, ⟨some 36, .binOp .eql 3 (.tmp 35) (.const (.int .i64 0)) 3, 4, none⟩, ⟨some 37, .move (.tmp 36), 4, none⟩, ⟨some 38, .fieldAddr 42 (.tmp 1) 3, 0, some (37, false)⟩, ⟨some 39, .load 3 (.tmp 38), 3, some (37, false)⟩, ⟨some 40, .call ⟨.value (.func 84), #[.tmp 39], #[3]⟩, 4, some (37, false)⟩, ⟨some 41, .pick (.tmp 37) (.const (.bool true)) (.tmp 40), 4, none⟩, ⟨some 6, .assign (.tmp 41), 4, none⟩] := vR rfl
@[push_cast] theorem vr79_11 : VR r79_11 [⟨some 42, .fieldAddr 42 (.tmp 1) 0, 0, none⟩, ⟨some 43, .load 35 (.tmp 42), 35, none⟩, ⟨some 44, .call ⟨.builtin .len, #[.tmp 43], #[35]⟩, 3, none⟩, ⟨some 7, .assign (.tmp 44), 3, none⟩] := vR rfl
@[push_cast] theorem vr79_12 : VR r79_12 [⟨some 45, .move (.tmp 5), 4, none⟩, ⟨some 46, .move (.tmp 45), 4, none⟩, ⟨some 47, .move (.tmp 6), 4, some (46, true)⟩, ⟨some 48, .pick (.tmp 46) (.tmp 47) (.const (.bool false)), 4, none⟩, ⟨some 49, .move (.tmp 48), 4, none⟩, ⟨some 50, .fieldAddr 42 (.tmp 1) 1, 0, some (49, true)⟩, ⟨some 51, .load 3 (.tmp 50), 3, some (49, true)⟩, ⟨some 52, .binOp .geq 3 (.tmp 51) (.const (.int .i64 0)) 3, 4, some (49, true)⟩, ⟨some 53, .pick (.tmp 49) (.tmp 52) (.const (.bool false)), 4, none⟩, ⟨some 54, .move (.tmp 53), 4, none⟩, ⟨some 55, .fieldAddr 42 (.tmp 1) 1, 0, some (54, true)⟩, ⟨some 56, .load 3 (.tmp 55), 3, some (54, true)⟩, ⟨some 57, .fieldAddr 42 (.tmp 1) 2, 0, some (54, true)⟩, ⟨some 58, .load 3 (.tmp 57), 3, some (54, true)⟩, ⟨some 59, .binOp .lss 3 (.tmp 56) (.tmp 58) 3, 4, some (54, true)⟩, ⟨some 60, .pick (.tmp 54) (.tmp 59) (.const (.bool false)), 4, none⟩, ⟨some 61, .move (.tmp 60), 4, none⟩, ⟨some 62, .fieldAddr 42 (.tmp 1) 2, 0, some (61, true)⟩, ⟨some 63, .load 3 (.tmp 62), 3, some (61, true)⟩, ⟨some 64, .binOp .leq 3 (.tmp 63) (.const (.int .i64 1099511627776)) 3, 4, some (61, true)⟩, ⟨some 65, .pick (.tmp 61) (.tmp 64) (.const (.bool false)), 4, none⟩, ⟨some 66, .move (.tmp 65), 4, none⟩, ⟨some 67, .fieldAddr 42 (.tmp 1) 7, 0, some (66, true)⟩, ⟨some 68, .load 3 (.tmp 67), 3, some (66, true)⟩, ⟨some 69, .move (.tmp 7), 3, some (66, true)⟩, ⟨some 70, .unOp .neg 3 (.tmp 69), 3, some (66, true)⟩, ⟨some 71, .binOp .geq 3 (.tmp 68) (.tmp 70) 3, 4, some (66, true)⟩, ⟨some 72, .pick (.tmp 66) (.tmp 71) (.const (.bool false)), 4, none⟩, ⟨some 73, .move (.tmp 72), 4, none⟩, ⟨some 74, .fieldAddr 42 (.tmp 1) 7, 0, some (73, true)⟩, ⟨some 75, .load 3 (.tmp 74), 3, some (73, true)⟩, ⟨some 76, .move (.tmp 7), 3, some (73, true)⟩, ⟨some 77, .binOp .leq 3 (.tmp 75) (.tmp 76) 3, 4, some (73, true)⟩, ⟨some 78, .pick (.tmp 73) (.tmp 77) (.const (.bool false)), 4, none⟩, ⟨some 79, .move (.tmp 78), 4, none⟩, ⟨some 80, .fieldAddr 42 (.tmp 1) 8, 0, some (79, true)⟩, ⟨some 81, .load 3 (.tmp 80), 3, some (79, true)⟩, ⟨some 82, .binOp .geq 3 (.tmp 81) (.const (.int .i64 0)) 3, 4, some (79, true)⟩, ⟨some 83, .pick (.tmp 79) (.tmp 82) (.const (.bool false)), 4, none⟩, ⟨some 84, .move (.tmp 83), 4, none⟩, ⟨some 85, .fieldAddr 42 (.tmp 1) 8, 0, some (84, true)⟩, ⟨some 86, .load 3 (.tmp 85), 3, some (84, true)⟩, ⟨some 87, .binOp .leq 3 (.tmp 86) (.const (.int .i64 1000)) 3, 4, some (84, true)⟩, ⟨some 88, .pick (.tmp 84) (.tmp 87) (.const (.bool false)), 4, none⟩, ⟨some 2, .assign (.tmp 88), 4, none⟩] := vR rfl
/-! 83 columbary/columbaryref23.dims (params #[39], results #[(.tmp 2)], 34 slots) -/
def W83_0 : List Nat := [3, 4, 18, 19, 20, 21, 22, 23, 24, 25, 26, 27, 28, 29, 30, 31, 32]
@[push_cast] theorem W83_0_def : W83_0 = [3, 4, 18, 19, 20, 21, 22, 23, 24, 25, 26, 27, 28, 29, 30, 31, 32] := mk_eq rfl
def r83_0 : List VOp :=
  [⟨some 1, .box 39 (.tmp 0), 0, none⟩,
   ⟨some 2, .assign (.const (.slice none 0 0)), 22, none⟩]
def r83_1 : List VOp :=
  [⟨some 3, .assign (.const (.slice none 0 0)), 22, none⟩]
def r83_2 : List VOp :=
  [fad 5 39 1 0,
   lda 6 36 5,
   ⟨some 7, .binOp .eql 36 (.tmp 6) (.const (.int .i64 1)) 36, 4, none⟩,
   mv 8 7 4,
   ⟨some 9, .fieldAddr 39 (.tmp 1) 0, 0, some (8, false)⟩,
   ⟨some 10, .load 36 (.tmp 9), 36, some (8, false)⟩,
   ⟨some 11, .binOp .eql 36 (.tmp 10) (.const (.int .i64 2)) 36, 4, some (8, false)⟩,
   ⟨some 12, .pick (.tmp 8) (.const (.bool true)) (.tmp 11), 4, none⟩]
def r83_3 : List VOp :=
  [mv 13 3 22,
   fad 14 39 1 1,
   lda 15 9 14,
   ⟨some 16, .buildSlice 22 1 #[(0, (.tmp 15))], 22, none⟩,
   ⟨some 17, .call ⟨.builtin .append, #[.tmp 13, .tmp 16], #[22, 22]⟩, 22, none⟩,
   asg 3 17 22]
def r83_4 : List VOp :=
  [⟨some 4, .assign (.const (.int .i64 0)), 3, none⟩]
def r83_5 : List VOp :=
  [mv 18 4 3,
   fad 19 39 1 3,
   lda 20 37 19,
   ⟨some 21, .call ⟨.builtin .len, #[.tmp 20], #[37]⟩, 3, none⟩,
   ⟨some 22, .binOp .lss 3 (.tmp 18) (.tmp 21) 3, 4, none⟩]
def r83_7 : List VOp :=
  [mv 25 3 22,
   fad 26 39 1 3,
   lda 27 37 26,
   mv 28 4 3,
   iad 29 37 27 28,
   lda 30 39 29,
   ⟨some 31, .call ⟨.value (.func 83), #[.tmp 30], #[39]⟩, 22, none⟩,
   ⟨some 32, .call ⟨.builtin .append, #[.tmp 25, .tmp 31], #[22, 22]⟩, 22, none⟩,
   asg 3 32 22]
def r83_6 : List VOp :=
  [mv 23 4 3,
   ⟨some 24, .binOp .add 3 (.tmp 23) (.const (.int .i64 1)) 3, 3, none⟩,
   asg 4 24 3]
def r83_8 : List VOp :=
  [mv 33 3 22,
   asg 2 33 22]
def B83 : VC :=
  (.seq (.region r83_0) (.seq (.region r83_1) (.seq (.seq (.region r83_2) (.cond (.tmp 12) (.region r83_3) .skip)) (.seq (.seq (.region r83_4) (.block 0 (.loop (.seq (.seq (.region r83_5) (.cond (.tmp 22) .skip (.exit 0))) (.seq (.block 1 (.region r83_7)) (.region r83_6)))))) (.seq (.region r83_8) .ret)))))
theorem code83 : ∃ c, Try.f83.body = some c ∧ abs Try.f83.ntmps c = B83 := ⟨_, rfl, by kernel_rfl⟩
theorem hb83 : HasBody Try.prog 83 := hasBody_of Try.func83 (by kernel_rfl)
theorem res83 : Try.f83.results = #[(.tmp 2)] := rfl
theorem enter83 {w : World} {R : Value → World → Prop} (x0 : Value) (h : vc Try.prog B83 (retK Try.prog #[(.tmp 2)] R) [] (initEnv [x0] 0) w) : FnC Try.prog 83 #[x0] w R := by
  obtain ⟨c, h1, h2⟩ := code83
  exact hb83.fn (ret_of_vc mixed Try.func83 h1 (Nat.le_of_ble_eq_true rfl) B83 h2 h)
@[push_cast] theorem vr83_0 : VR r83_0 [⟨some 1, .box 39 (.tmp 0), 0, none⟩, ⟨some 2, .assign (.const (.slice none 0 0)), 22, none⟩] := vR rfl
@[push_cast] theorem vr83_1 : VR r83_1 [⟨some 3, .assign (.const (.slice none 0 0)), 22, none⟩] := vR rfl
@[push_cast] theorem vr83_2 : VR r83_2 [⟨some 5, .fieldAddr 39 (.tmp 1) 0, 0, none⟩, ⟨some 6, .load 36 (.tmp 5), 36, none⟩, ⟨some 7, .binOp .eql 36 (.tmp 6) (.const (.int .i64 1)) 36, 4, none⟩, ⟨some 8, .move (.tmp 7), 4, none⟩, ⟨some 9, .fieldAddr 39 (.tmp 1) 0, 0, some (8, false)⟩, ⟨some 10, .load 36 (.tmp 9), 36, some (8, false)⟩, ⟨some 11, .binOp .eql 36 (.tmp 10) (.const (.int .i64 2)) 36, 4, some (8, false)⟩, ⟨some 12, .pick (.tmp 8) (.const (.bool true)) (.tmp 11), 4, none⟩] := vR rfl
@[push_cast] theorem vr83_3 : VR r83_3 [⟨some 13, .move (.tmp 3), 22, none⟩, ⟨some 14, .fieldAddr 39 (.tmp 1) 1, 0, none⟩, ⟨some 15, .load 9 (.tmp 14), 9, none⟩, ⟨some 16, .buildSlice 22 1 #[(0, (.tmp 15))], 22, none⟩, ⟨some 17, .call ⟨.builtin .append, #[.tmp 13, .tmp 16], #[22, 22]⟩, 22, none⟩, ⟨some 3, .assign (.tmp 17), 22, none⟩] := vR rfl
@[push_cast] theorem vr83_4 : VR r83_4 [⟨some 4, .assign (.const (.int .i64 0)), 3, none⟩] := vR rfl
@[push_cast] theorem vr83_5 : VR r83_5 [⟨some 18, .move (.tmp 4), 3, none⟩, ⟨some 19, .fieldAddr 39 (.tmp 1) 3, 0, none⟩, ⟨some 20, .load 37 (.tmp 19), 37, none⟩, ⟨some 21, .call ⟨.builtin .len, #[.tmp 20], #[37]⟩, 3, none⟩, ⟨some 22, .binOp .lss 3 (.tmp 18) (.tmp 21) 3, 4, none⟩] := vR rfl
@[push_cast] theorem vr83_7 : VR r83_7 [⟨some 25, .move (.tmp 3), 22, none⟩, ⟨some 26, .fieldAddr 39 (.tmp 1) 3, 0, none⟩, ⟨some 27, .load 37 (.tmp 26), 37, none⟩, ⟨some 28, .move (.tmp 4), 3, none⟩, ⟨some 29, .indexAddr 37 (.tmp 27) (.tmp 28), 0, none⟩, ⟨some 30, .load 39 (.tmp 29), 39, none⟩, ⟨some 31, .call ⟨.value (.func 83), #[.tmp 30], #[39]⟩, 22, none⟩, ⟨some 32, .call ⟨.builtin .append, #[.tmp 25, .tmp 31], #[22, 22]⟩, 22, none⟩, ⟨some 3, .assign (.tmp 32), 22, none⟩] := vR rfl
@[push_cast] theorem vr83_6 : VR r83_6 [⟨some 23, .move (.tmp 4), 3, none⟩, ⟨some 24, .binOp .add 3 (.tmp 23) (.const (.int .i64 1)) 3, 3, none⟩, ⟨some 4, .assign (.tmp 24), 3, none⟩] := vR rfl
@[push_cast] theorem vr83_8 : VR r83_8 [⟨some 33, .move (.tmp 3), 22, none⟩, ⟨some 2, .assign (.tmp 33), 22, none⟩] := vR rfl
/-! 84 columbary/columbaryref11.Right (params #[3], results #[(.tmp 2)], 9 slots) -/
def r84_0 : List VOp :=
  [⟨some 2, .assign (.const (.bool false)), 4, none⟩]
def r84_1 : List VOp :=
  [mv 3 0 3,
   ⟨some 4, .binOp .geq 3 (.tmp 3) (.const (.int .i64 1)) 3, 4, none⟩,
   mv 5 4 4,
   ⟨some 6, .move (.tmp 0), 3, some (5, true)⟩,
   ⟨some 7, .binOp .leq 3 (.tmp 6) (.const (.int .i64 1048576)) 3, 4, some (5, true)⟩,
   ⟨some 8, .pick (.tmp 5) (.tmp 7) (.const (.bool false)), 4, none⟩,
   asg 2 8 4]
def B84 : VC :=
  (.seq (.region r84_0) (.seq (.region r84_1) .ret))
theorem code84 : ∃ c, Try.f84.body = some c ∧ abs Try.f84.ntmps c = B84 := ⟨_, rfl, by kernel_rfl⟩
theorem hb84 : HasBody Try.prog 84 := hasBody_of Try.func84 (by kernel_rfl)
theorem res84 : Try.f84.results = #[(.tmp 2)] := rfl
theorem enter84 {w : World} {R : Value → World → Prop} (x0 : Value) (h : vc Try.prog B84 (retK Try.prog #[(.tmp 2)] R) [] (initEnv [x0] 0) w) : FnC Try.prog 84 #[x0] w R := by
  obtain ⟨c, h1, h2⟩ := code84
  exact hb84.fn (ret_of_vc mixed Try.func84 h1 (Nat.le_of_ble_eq_true rfl) B84 h2 h)
@[push_cast] theorem vr84_0 : VR r84_0 [⟨some 2, .assign (.const (.bool false)), 4, none⟩] := vR rfl
@[push_cast] theorem vr84_1 : VR r84_1 [⟨some 3, .move (.tmp 0), 3, none⟩, ⟨some 4, .binOp .geq 3 (.tmp 3) (.const (.int .i64 1)) 3, 4, none⟩, ⟨some 5, .move (.tmp 4), 4, none⟩, ⟨some 6, .move (.tmp 0), 3, some (5, true)⟩, ⟨some 7, .binOp .leq 3 (.tmp 6) (.const (.int .i64 1048576)) 3, 4, some (5, true)⟩, ⟨some 8, .pick (.tmp 5) (.tmp 7) (.const (.bool false)), 4, none⟩, ⟨some 2, .assign (.tmp 8), 4, none⟩] := vR rfl
/-! 86 cmp.isNaN[int] (params #[3], results #[(.tmp 2)], 6 slots) -/
def r86_0 : List VOp :=
  [⟨some 2, .assign (.const (.bool false)), 4, none⟩]
def r86_1 : List VOp :=
  [mv 3 0 3,
   mv 4 0 3,
   ⟨some 5, .binOp .neq 3 (.tmp 3) (.tmp 4) 3, 4, none⟩,
   asg 2 5 4]
def B86 : VC :=
  (.seq (.region r86_0) (.seq (.region r86_1) .ret))
theorem code86 : ∃ c, Try.f86.body = some c ∧ abs Try.f86.ntmps c = B86 := ⟨_, rfl, by kernel_rfl⟩
theorem hb86 : HasBody Try.prog 86 := hasBody_of Try.func86 (by kernel_rfl)
theorem res86 : Try.f86.results = #[(.tmp 2)] := rfl
theorem enter86 {w : World} {R : Value → World → Prop} (x0 : Value) (h : vc Try.prog B86 (retK Try.prog #[(.tmp 2)] R) [] (initEnv [x0] 0) w) : FnC Try.prog 86 #[x0] w R := by
  obtain ⟨c, h1, h2⟩ := code86
  exact hb86.fn (ret_of_vc mixed Try.func86 h1 (Nat.le_of_ble_eq_true rfl) B86 h2 h)
@[push_cast] theorem vr86_0 : VR r86_0 [⟨some 2, .assign (.const (.bool false)), 4, none⟩] := vR rfl
@[push_cast] theorem vr86_1 : VR r86_1 [⟨some 3, .move (.tmp 0), 3, none⟩, ⟨some 4, .move (.tmp 0), 3, none⟩, ⟨some 5, .binOp .neq 3 (.tmp 3) (.tmp 4) 3, 4, none⟩, ⟨some 2, .assign (.tmp 5), 4, none⟩] := vR rfl
/-! 87 columbary/columbaryref10.Name (params #[9], results #[(.tmp 2)], 71 slots) -/
def W87_0 : List Nat := [2, 4, 9, 10, 11, 12, 13, 14, 15, 16, 17, 18, 19, 20]
@[push_cast] theorem W87_0_def : W87_0 = [2, 4, 9, 10, 11, 12, 13, 14, 15, 16, 17, 18, 19, 20] := mk_eq rfl
def W87_1 : List Nat := [2, 5, 6, 7, 21, 22, 23, 24, 25, 26, 27, 28, 29, 30, 31, 32, 33, 34, 35, 36, 37, 38, 39, 40, 41, 42, 43, 44, 45, 46, 47, 48, 49, 50, 51, 52, 53, 54, 55, 56, 57, 58, 59, 60, 61, 62]
@[push_cast] theorem W87_1_def : W87_1 = [2, 5, 6, 7, 21, 22, 23, 24, 25, 26, 27, 28, 29, 30, 31, 32, 33, 34, 35, 36, 37, 38, 39, 40, 41, 42, 43, 44, 45, 46, 47, 48, 49, 50, 51, 52, 53, 54, 55, 56, 57, 58, 59, 60, 61, 62] := mk_eq rfl
def r87_0 : List VOp :=
  [⟨some 2, .assign (.const (.bool false)), 4, none⟩]
def r87_1 : List VOp :=
  [⟨some 8, .call ⟨.value (.func 126), #[], #[]⟩, 22, none⟩,
   asg 3 8 22]
def r87_2 : List VOp :=
  [⟨some 4, .assign (.const (.int .i64 0)), 3, none⟩]
def r87_3 : List VOp :=
  [mv 9 4 3,
   mv 10 3 22,
   ⟨some 11, .call ⟨.builtin .len, #[.tmp 10], #[22]⟩, 3, none⟩,
   ⟨some 12, .binOp .lss 3 (.tmp 9) (.tmp 11) 3, 4, none⟩]
def r87_5 : List VOp :=
  [mv 15 3 22,
   mv 16 4 3,
   iad 17 22 15 16,
   lda 18 9 17,
   mv 19 0 9,
   ⟨some 20, .binOp .eql 9 (.tmp 18) (.tmp 19) 9, 4, none⟩]
def r87_6 : List VOp :=
  [⟨some 2, .assign (.const (.bool false)), 4, none⟩]
def r87_4 : List VOp :=
  [mv 13 4 3,
   ⟨some 14, .binOp .add 3 (.tmp 13) (.const (.int .i64 1)) 3, 3, none⟩,
   asg 4 14 3]
def r87_7 : List VOp :=
  [⟨some 5, .assign (.const (.int .i64 0)), 3, none⟩]
def r87_8 : List VOp :=
  [mv 21 5 3,
   mv 22 0 9,
   ⟨some 23, .call ⟨.builtin .len, #[.tmp 22], #[9]⟩, 3, none⟩,
   ⟨some 24, .binOp .lss 3 (.tmp 21) (.tmp 23) 3, 4, none⟩]
def r87_10 : List VOp :=
  [mv 27 0 9,
   mv 28 5 3,
   ⟨some 29, .index 9 (.tmp 27) (.tmp 28), 5, none⟩,
   ⟨some 30, .binOp .geq 5 (.tmp 29) (.const (.int .u8 97)) 5, 4, none⟩,
   mv 31 30 4,
   ⟨some 32, .move (.tmp 0), 9, some (31, true)⟩,
   ⟨some 33, .move (.tmp 5), 3, some (31, true)⟩,
   ⟨some 34, .index 9 (.tmp 32) (.tmp 33), 5, some (31, true)⟩,
   ⟨some 35, .binOp .leq 5 (.tmp 34) (.const (.int .u8 122)) 5, 4, some (31, true)⟩,
   ⟨some 36, .pick (.tmp 31) (.tmp 35) (.const (.bool false)), 4, none⟩,
   asg 6 36 4]
def r87_11 : List VOp :=
  [mv 37 0 9,
   mv 38 5 3,
   ⟨some 39, .index 9 (.tmp 37) (.tmp 38), 5, none⟩,
   ⟨some 40, .binOp .geq 5 (.tmp 39) (.const (.int .u8 48)) 5, 4, none⟩,
   mv 41 40 4,
   ⟨some 42, .move (.tmp 0), 9, some (41, true)⟩,
   ⟨some 43, .move (.tmp 5), 3, some (41, true)⟩,
   ⟨some 44, .index 9 (.tmp 42) (.tmp 43), 5, some (41, true)⟩,
   ⟨some 45, .binOp .leq 5 (.tmp 44) (.const (.int .u8 57)) 5, 4, some (41, true)⟩,
   ⟨some 46, .pick (.tmp 41) (.tmp 45) (.const (.bool false)), 4, none⟩,
   mv 47 46 4,
   ⟨some 48, .move (.tmp 0), 9, some (47, false)⟩,
   ⟨some 49, .move (.tmp 5), 3, some (47, false)⟩,
   ⟨some 50, .index 9 (.tmp 48) (.tmp 49), 5, some (47, false)⟩,
   ⟨some 51, .binOp .eql 5 (.tmp 50) (.const (.int .u8 95)) 5, 4, some (47, false)⟩,
   ⟨some 52, .pick (.tmp 47) (.const (.bool true)) (.tmp 51), 4, none⟩,
   asg 7 52 4]
def r87_12 : List VOp :=
  [mv 53 6 4,
   ⟨some 54, .unOp .not 4 (.tmp 53), 4, none⟩,
   mv 55 54 4,
   ⟨some 56, .move (.tmp 7), 4, some (55, true)⟩,
   ⟨some 57, .unOp .not 4 (.tmp 56), 4, some (55, true)⟩,
   ⟨some 58, .move (.tmp 57), 4, some (55, true)⟩,
   ⟨some 59, .move (.tmp 5), 3, some (58, false)⟩,
   ⟨some 60, .binOp .eql 3 (.tmp 59) (.const (.int .i64 0)) 3, 4, some (58, false)⟩,
   ⟨some 61, .pick (.tmp 58) (.const (.bool true)) (.tmp 60), 4, some (55, true)⟩,
   ⟨some 62, .pick (.tmp 55) (.tmp 61) (.const (.bool false)), 4, none⟩]
def r87_13 : List VOp :=
  [⟨some 2, .assign (.const (.bool false)), 4, none⟩]
def r87_9 : List VOp :=
  [mv 25 5 3,
   ⟨some 26, .binOp .add 3 (.tmp 25) (.const (.int .i64 1)) 3, 3, none⟩,
   asg 5 26 3]
def r87_14 : List VOp :=
  [mv 63 0 9,
   ⟨some 64, .call ⟨.builtin .len, #[.tmp 63], #[9]⟩, 3, none⟩,
   ⟨some 65, .binOp .geq 3 (.tmp 64) (.const (.int .i64 1)) 3, 4, none⟩,
   mv 66 65 4,
   ⟨some 67, .move (.tmp 0), 9, some (66, true)⟩,
   ⟨some 68, .call ⟨.builtin .len, #[.tmp 67], #[9]⟩, 3, some (66, true)⟩,
   ⟨some 69, .binOp .leq 3 (.tmp 68) (.const (.int .i64 12)) 3, 4, some (66, true)⟩,
   ⟨some 70, .pick (.tmp 66) (.tmp 69) (.const (.bool false)), 4, none⟩,
   asg 2 70 4]
def B87 : VC :=
  (.seq (.region r87_0) (.seq (.region r87_1) (.seq (.seq (.region r87_2) (.block 0 (.loop (.seq (.seq (.region r87_3) (.cond (.tmp 12) .skip (.exit 0))) (.seq (.block 1 (.seq (.region r87_5) (.cond (.tmp 20) (.seq (.region r87_6) .ret) .skip))) (.region r87_4)))))) (.seq (.seq (.region r87_7) (.block 2 (.loop (.seq (.seq (.region r87_8) (.cond (.tmp 24) .skip (.exit 2))) (.seq (.block 3 (.seq (.region r87_10) (.seq (.region r87_11) (.seq (.region r87_12) (.cond (.tmp 62) (.seq (.region r87_13) .ret) .skip))))) (.region r87_9)))))) (.seq (.region r87_14) .ret)))))
theorem code87 : ∃ c, Try.f87.body = some c ∧ abs Try.f87.ntmps c = B87 := ⟨_, rfl, by kernel_rfl⟩
theorem hb87 : HasBody Try.prog 87 := hasBody_of Try.func87 (by kernel_rfl)
theorem res87 : Try.f87.results = #[(.tmp 2)] := rfl
theorem enter87 {w : World} {R : Value → World → Prop} (x0 : Value) (h : vc Try.prog B87 (retK Try.prog #[(.tmp 2)] R) [] (initEnv [x0] 0) w) : FnC Try.prog 87 #[x0] w R := by
  obtain ⟨c, h1, h2⟩ := code87
  exact hb87.fn (ret_of_vc mixed Try.func87 h1 (Nat.le_of_ble_eq_true rfl) B87 h2 h)
@[push_cast] theorem vr87_0 : VR r87_0 [⟨some 2, .assign (.const (.bool false)), 4, none⟩] := vR rfl
@[push_cast] theorem vr87_1 : VR r87_1 [⟨some 8, .call ⟨.value (.func 126), #[], #[]⟩, 22, none⟩, ⟨some 3, .assign (.tmp 8), 22, none⟩] := vR rfl
@[push_cast] theorem vr87_2 : VR r87_2 [⟨some 4, .assign (.const (.int .i64 0)), 3, none⟩] := vR rfl
@[push_cast] theorem vr87_3 : VR r87_3 [⟨some 9, .move (.tmp 4), 3, none⟩, ⟨some 10, .move (.tmp 3), 22, none⟩, ⟨some 11, .call ⟨.builtin .len, #[.tmp 10], #[22]⟩, 3, none⟩, ⟨some 12, .binOp .lss 3 (.tmp 9) (.tmp 11) 3, 4, none⟩] := vR rfl
@[push_cast] theorem vr87_5 : VR r87_5 [⟨some 15, .move (.tmp 3), 22, none⟩, ⟨some 16, .move (.tmp 4), 3, none⟩, ⟨some 17, .indexAddr 22 (.tmp 15) (.tmp 16), 0, none⟩, ⟨some 18, .load 9 (.tmp 17), 9, none⟩, ⟨some 19, .move (.tmp 0), 9, none⟩, ⟨some 20, .binOp .eql 9 (.tmp 18) (.tmp 19) 9, 4, none⟩] := vR rfl
@[push_cast] theorem vr87_6 : VR r87_6 [⟨some 2, .assign (.const (.bool false)), 4, none⟩] := vR rfl
@[push_cast] theorem vr87_4 : VR r87_4 [⟨some 13, .move (.tmp 4), 3, none⟩, ⟨some 14, .binOp .add 3 (.tmp 13) (.const (.int .i64 1)) 3, 3, none⟩, ⟨some 4, .assign (.tmp 14), 3, none⟩] := vR rfl
@[push_cast] theorem vr87_7 : VR r87_7 [⟨some 5, .assign (.const (.int .i64 0)), 3, none⟩] := vR rfl
@[push_cast] theorem vr87_8 : VR r87_8 [⟨some 21, .move (.tmp 5), 3, none⟩, ⟨some 22, .move (.tmp 0), 9, none⟩, ⟨some 23, .call ⟨.builtin .len, #[.tmp 22], #[9]⟩, 3, none⟩, ⟨some 24, .binOp .lss 3 (.tmp 21) (.tmp 23) 3, 4, none⟩] := vR rfl
@[push_cast] theorem vr87_10 : VR r87_10 [⟨some 27, .move (.tmp 0), 9, none⟩, ⟨some 28, .move (.tmp 5), 3, none⟩, ⟨some 29, .index 9 (.tmp 27) (.tmp 28), 5, none⟩, ⟨some 30, .binOp .geq 5 (.tmp 29) (.const (.int .u8 97)) 5, 4, none⟩, ⟨some 31, .move (.tmp 30), 4, none⟩, ⟨some 32, .move (.tmp 0), 9, some (31, true)⟩, ⟨some 33, .move (.tmp 5), 3, some (31, true)⟩, ⟨some 34, .index 9 (.tmp 32) (.tmp 33), 5, some (31, true)⟩, ⟨some 35, .binOp .leq 5 (.tmp 34) (.const (.int .u8 122)) 5, 4, some (31, true)⟩, ⟨some 36, .pick (.tmp 31) (.tmp 35) (.const (.bool false)), 4, none⟩, ⟨some 6, .assign (.tmp 36), 4, none⟩] := vR rfl
@[push_cast] theorem vr87_11 : VR r87_11 [⟨some 37, .move (.tmp 0), 9, none⟩, ⟨some 38, .move (.tmp 5), 3, none⟩, ⟨some 39, .index 9 (.tmp 37) (.tmp 38), 5, none⟩, ⟨some 40, .binOp .geq 5 (.tmp 39) (.const (.int .u8 48)) 5, 4, none⟩, ⟨some 41, .move (.tmp 40), 4, none⟩, ⟨some 42, .move (.tmp 0), 9, some (41, true)⟩, ⟨some 43, .move (.tmp 5), 3, some (41, true)⟩, ⟨some 44, .index 9 (.tmp 42) (.tmp 43), 5, some (41, true)⟩, ⟨some 45, .binOp .leq 5 (.tmp 44) (.const (.int .u8 57)) 5, 4, some (41, true)⟩, ⟨some 46, .pick (.tmp 41) (.tmp 45) (.const (.bool false)), 4, none⟩, ⟨some 47, .move (.tmp 46), 4, none⟩, ⟨some 48, .move (.tmp 0), 9, some (47, false)⟩, ⟨some 49, .move (.tmp 5), 3, some (47, false)⟩, ⟨some 50, .index 9 (.tmp 48) (.tmp 49), 5, some (47, false)⟩, ⟨some 51, .binOp .eql 5 (.tmp 50) (.const (.int .u8 95)) 5, 4, some (47, false)⟩, ⟨some 52, .pick (.tmp 47) (.const (.bool true)) (.tmp 51), 4, none⟩, ⟨some 7, .assign (.tmp 52), 4, none⟩] := vR rfl
@[push_cast] theorem vr87_12 : VR r87_12 [⟨some 53, .move (.tmp 6), 4, none⟩, ⟨some 54, .unOp .not 4 (.tmp 53), 4, none⟩, ⟨some 55, .move (.tmp 54), 4, none⟩, ⟨some 56, .move (.tmp 7), 4, some (55, true)⟩, ⟨some 57, .unOp .not 4 (.tmp 56), 4, some (55, true)⟩, ⟨some 58, .move (.tmp 57), 4, some (55, true)⟩, ⟨some 59, .move (.tmp 5), 3, some (58, false)⟩, ⟨some 60, .binOp .eql 3 (.tmp 59) (.const (.int .i64 0)) 3, 4, some (58, false)⟩, ⟨some 61, .pick (.tmp 58) (.const (.bool true)) (.tmp 60), 4, some (55, true)⟩, ⟨some 62, .pick (.tmp 55) (.tmp 61) (.const (.bool false)), 4, none⟩] := vR rfl
@[push_cast] theorem vr87_13 : VR r87_13 [⟨some 2, .assign (.const (.bool false)), 4, none⟩] := vR rfl
@[push_cast] theorem vr87_9 : VR r87_9 [⟨some 25, .move (.tmp 5), 3, none⟩, ⟨some 26, .binOp .add 3 (.tmp 25) (.const (.int .i64 1)) 3, 3, none⟩, ⟨some 5, .assign (.tmp 26), 3, none⟩] := vR rfl
@[push_cast] theorem vr87_14 : VR r87_14 [⟨some 63, .move (.tmp 0), 9, none⟩, ⟨some 64, .call ⟨.builtin .len, #[.tmp 63], #[9]⟩, 3, none⟩, ⟨some 65, .binOp .geq 3 (.tmp 64) (.const (.int .i64 1)) 3, 4, none⟩, ⟨some 66, .move (.tmp 65), 4, none⟩, ⟨some 67, .move (.tmp 0), 9, some (66, true)⟩, ⟨some 68, .call ⟨.builtin .len, #[.tmp 67], #[9]⟩, 3, some (66, true)⟩, ⟨some 69, .binOp .leq 3 (.tmp 68) (.const (.int .i64 12)) 3, 4, some (66, true)⟩, ⟨some 70, .pick (.tmp 66) (.tmp 69) (.const (.bool false)), 4, none⟩, ⟨some 2, .assign (.tmp 70), 4, none⟩] := vR rfl
/-! 122 columbary/columbaryref23.term (params #[63], results #[(.tmp 2)], 20 slots) -/
def r122_0 : List VOp :=
  [⟨some 1, .box 63 (.tmp 0), 0, none⟩,
   ⟨some 2, .assign (.const (.bool false)), 4, none⟩]
def r122_1 : List VOp :=
  [fad 3 63 1 0,
   lda 4 61 3,
   ⟨some 5, .binOp .geq 61 (.tmp 4) (.const (.int .i64 0)) 61, 4, none⟩,
   mv 6 5 4,
   ⟨some 7, .fieldAddr 63 (.tmp 1) 0, 0, some (6, true)⟩,
   ⟨some 8, .load 61 (.tmp 7), 61, some (6, true)⟩,
   ⟨some 9, .binOp .leq 61 (.tmp 8) (.const (.int .i64 3)) 61, 4, some (6, true)⟩,
   ⟨some 10, .pick (.tmp 6) (.tmp 9) (.const (.bool false)), 4, none⟩,
   mv 11 10 4,
   ⟨some 12, .fieldAddr 63 (.tmp 1) 0, 0, some (11, true)⟩,
   ⟨some 13, .load 61 (.tmp 12), 61, some (11, true)⟩,
   ⟨some 14, .binOp .eql 61 (.tmp 13) (.const (.int .i64 0)) 61, 4, some (11, true)⟩,
   ⟨some 15, .fieldAddr 63 (.tmp 1) 1, 0, some (11, true)⟩,
   ⟨some 16, .load 9 (.tmp 15), 9, some (11, true)⟩,
   ⟨some 17, .binOp .eql 9 (.tmp 16) (.const (.string { data := #[] })) 9, 4, some (11, true)⟩,
   ⟨some 18, .binOp .eql 4 (.tmp 14) (.tmp 17) 4, 4, some (11, true)⟩,
   ⟨some 19, .pick (.tmp 11) (.tmp 18) (.const (.bool false)), 4, none⟩,
   asg 2 19 4]
def B122 : VC :=
  (.seq (.region r122_0) (.seq (.region r122_1) .ret))
theorem code122 : ∃ c, Try.f122.body = some c ∧ abs Try.f122.ntmps c = B122 := ⟨_, rfl, by kernel_rfl⟩
theorem hb122 : HasBody Try.prog 122 := hasBody_of Try.func122 (by kernel_rfl)
theorem res122 : Try.f122.results = #[(.tmp 2)] := rfl
theorem enter122 {w : World} {R : Value → World → Prop} (x0 : Value) (h : vc Try.prog B122 (retK Try.prog #[(.tmp 2)] R) [] (initEnv [x0] 0) w) : FnC Try.prog 122 #[x0] w R := by
  obtain ⟨c, h1, h2⟩ := code122
  exact hb122.fn (ret_of_vc mixed Try.func122 h1 (Nat.le_of_ble_eq_true rfl) B122 h2 h)
@[push_cast] theorem vr122_0 : VR r122_0 [⟨some 1, .box 63 (.tmp 0), 0, none⟩, ⟨some 2, .assign (.const (.bool false)), 4, none⟩] := vR rfl
@[push_cast] theorem vr122_1 : VR r122_1 [⟨some 3, .fieldAddr 63 (.tmp 1) 0, 0, none⟩, ⟨some 4, .load 61 (.tmp 3), 61, none⟩, ⟨some 5, .binOp .geq 61 (.tmp 4) (.const (.int .i64 0)) 61, 4, none⟩, ⟨some 6, .move (.tmp 5), 4, none⟩, ⟨some 7, .fieldAddr 63 (.tmp 1) 0, 0, some (6, true)⟩, ⟨some 8, .load 61 (.tmp 7), 61, some (6, true)⟩, ⟨some 9, .binOp .leq 61 (.tmp 8) (.const (.int .i64 3)) 61, 4, some (6, true)⟩, ⟨some 10, .pick (.tmp 6) (.tmp 9) (.const (.bool false)), 4, none⟩, ⟨some 11, .move (.tmp 10), 4, none⟩, ⟨some 12, .fieldAddr 63 (.tmp 1) 0, 0, some (11, true)⟩, ⟨some 13, .load 61 (.tmp 12), 61, some (11, true)⟩, ⟨some 14, .binOp .eql 61 (.tmp 13) (.const (.int .i64 0)) 61, 4, some (11, true)⟩, ⟨some 15, .fieldAddr 63 (.tmp 1) 1, 0, some (11, true)⟩, ⟨some 16, .load 9 (.tmp 15), 9, some (11, true)⟩, ⟨some 17, .binOp .eql 9 (.tmp 16) (.const (.string { data := #[] })) 9, 4, some (11, true)⟩, ⟨some 18, .binOp .eql 4 (.tmp 14) (.tmp 17) 4, 4, some (11, true)⟩, ⟨some 19, .pick (.tmp 11) (.tmp 18) (.const (.bool false)), 4, none⟩, ⟨some 2, .assign (.tmp 19), 4, none⟩] := vR rfl
/-! 123 columbary/columbaryref23.form (params #[39, 3], results #[(.tmp 4)], 72 slots) -/
def W123_0 : List Nat := [4, 6, 7, 13, 14, 15, 16, 17, 18, 19, 20, 21, 22, 23, 24, 25, 26, 27]
@[push_cast] theorem W123_0_def : W123_0 = [4, 6, 7, 13, 14, 15, 16, 17, 18, 19, 20, 21, 22, 23, 24, 25, 26, 27] := mk_eq rfl
def r123_0 : List VOp :=
  [⟨some 2, .box 39 (.tmp 0), 0, none⟩,
   ⟨some 4, .assign (.const (.bool false)), 4, none⟩]
def r123_1 : List VOp :=
  [fad 8 39 2 3,
   lda 9 37 8,
   ⟨some 10, .call ⟨.builtin .len, #[.tmp 9], #[37]⟩, 3, none⟩,
   asg 5 10 3]
def r123_2 : List VOp :=
  [mv 11 1 3,
   ⟨some 12, .binOp .eql 3 (.tmp 11) (.const (.int .i64 0)) 3, 4, none⟩]
def r123_3 : List VOp :=
  [⟨some 4, .assign (.const (.bool false)), 4, none⟩]
def r123_4 : List VOp :=
  [⟨some 6, .assign (.const (.int .i64 0)), 3, none⟩]
def r123_5 : List VOp :=
  [mv 13 6 3,
   mv 14 5 3,
   ⟨some 15, .binOp .lss 3 (.tmp 13) (.tmp 14) 3, 4, none⟩]
def r123_7 : List VOp :=
  [fad 18 39 2 3,
   lda 19 37 18,
   mv 20 6 3,
   iad 21 37 19 20,
   lda 22 39 21,
   mv 23 1 3,
   ⟨some 24, .binOp .sub 3 (.tmp 23) (.const (.int .i64 1)) 3, 3, none⟩,
   ⟨some 25, .call ⟨.value (.func 123), #[.tmp 22, .tmp 24], #[39, 3]⟩, 4, none⟩,
   asg 7 25 4]
def r123_8 : List VOp :=
  [mv 26 7 4,
   ⟨some 27, .unOp .not 4 (.tmp 26), 4, none⟩]
def r123_9 : List VOp :=
  [⟨some 4, .assign (.const (.bool false)), 4, none⟩]
def r123_6 : List VOp :=
  [mv 16 6 3,
   ⟨some 17, .binOp .add 3 (.tmp 16) (.const (.int .i64 1)) 3, 3, none⟩,
   asg 6 17 3]
def r123_10 : List VOp :=
  [fad 28 39 2 0,
   lda 29 36 28]
def r123_11 : List VOp :=
  [⟨some 31, .binOp .eql 36 (.tmp 29) (.const (.int .i64 1)) 36, 4, none⟩,
   asg 30 31 4]
def r123_12 : List VOp :=
  [mv 32 5 3,
   ⟨some 33, .binOp .eql 3 (.tmp 32) (.const (.int .i64 0)) 3, 4, none⟩,
   asg 4 33 4]
def r123_13 : List VOp :=
  [⟨some 35, .binOp .eql 36 (.tmp 29) (.const (.int .i64 2)) 36, 4, none⟩,
   asg 34 35 4]
def r123_14 : List VOp :=
  [mv 36 5 3,
   ⟨some 37, .binOp .eql 3 (.tmp 36) (.const (.int .i64 0)) 3, 4, none⟩,
   mv 38 37 4,
   ⟨some 39, .fieldAddr 39 (.tmp 2) 2, 0, some (38, true)⟩,
   ⟨some 40, .load 9 (.tmp 39), 9, some (38, true)⟩,
   ⟨some 41, .binOp .eql 9 (.tmp 40) (.const (.string { data := #[] })) 9, 4, some (38, true)⟩,
   ⟨some 42, .pick (.tmp 38) (.tmp 41) (.const (.bool false)), 4, none⟩,
   asg 4 42 4]
def r123_15 : List VOp :=
  [⟨some 44, .binOp .eql 36 (.tmp 29) (.const (.int .i64 3)) 36, 4, none⟩,
   asg 43 44 4]
def r123_16 : List VOp :=
  [mv 45 5 3,
   ⟨some 46, .binOp .eql 3 (.tmp 45) (.const (.int .i64 1)) 3, 4, none⟩,
   mv 47 46 4,
   ⟨some 48, .fieldAddr 39 (.tmp 2) 1, 0, some (47, true)⟩,
   ⟨some 49, .load 9 (.tmp 48), 9, some (47, true)⟩,
   ⟨some 50, .binOp .eql 9 (.tmp 49) (.const (.string { data := #[] })) 9, 4, some (47, true)⟩,
   ⟨some 51, .pick (.tmp 47) (.tmp 50) (.const (.bool false)), 4, none⟩,
   mv 52 51 4,
   ⟨some 53, .fieldAddr 39 (.tmp 2) 2, 0, some (52, true)⟩,
   ⟨some 54, .load 9 (.tmp 53), 9, some (52, true)⟩,
   ⟨some 55, .binOp .eql 9 (.tmp 54) (.const (.string { data := #[] })) 9, 4, some (52, true)⟩,
   ⟨some 56, .pick (.tmp 52) (.tmp 55) (.const (.bool false)), 4, none⟩,
   asg 4 56 4]
def r123_17 : List VOp :=
  [⟨some 58, .binOp .eql 36 (.tmp 29) (.const (.int .i64 4)) 36, 4, none⟩,
   asg 57 58 4]
def r123_18 : List VOp :=
  [⟨some 59, .binOp .eql 36 (.tmp 29) (.const (.int .i64 5)) 36, 4, none⟩,
   asg 57 59 4]
def r123_19 : List VOp :=
  [mv 60 5 3,
   ⟨some 61, .binOp .geq 3 (.tmp 60) (.const (.int .i64 2)) 3, 4, none⟩,
   mv 62 61 4,
   ⟨some 63, .fieldAddr 39 (.tmp 2) 1, 0, some (62, true)⟩,
   ⟨some 64, .load 9 (.tmp 63), 9, some (62, true)⟩,
   ⟨some 65, .binOp .eql 9 (.tmp 64) (.const (.string { data := #[] })) 9, 4, some (62, true)⟩,
   ⟨some 66, .pick (.tmp 62) (.tmp 65) (.const (.bool false)), 4, none⟩,
   mv 67 66 4,
   ⟨some 68, .fieldAddr 39 (.tmp 2) 2, 0, some (67, true)⟩,
   ⟨some 69, .load 9 (.tmp 68), 9, some (67, true)⟩,
   ⟨some 70, .binOp .eql 9 (.tmp 69) (.const (.string { data := #[] })) 9, 4, some (67, true)⟩,
   ⟨some 71, .pick (.tmp 67) (.tmp 70) (.const (.bool false)), 4, none⟩,
   asg 4 71 4]
def r123_20 : List VOp :=
  [⟨some 4, .assign (.const (.bool false)), 4, none⟩]
def B123 : VC :=
  (.seq (.region r123_0) (.seq (.region r123_1) (.seq (.seq (.region r123_2) (.cond (.tmp 12) (.seq (.region r123_3) .ret) .skip)) (.seq (.seq (.region r123_4) (.block 0 (.loop (.seq (.seq (.region r123_5) (.cond (.tmp 15) .skip (.exit 0))) (.seq (.block 1 (.seq (.region r123_7) (.seq (.region r123_8) (.cond (.tmp 27) (.seq (.region r123_9) .ret) .skip)))) (.region r123_6)))))) (.seq (.seq (.region r123_10) (.block 2 (.seq (.region r123_11) (.cond (.tmp 30) (.seq (.region r123_12) .ret) (.seq (.region r123_13) (.cond (.tmp 34) (.seq (.region r123_14) .ret) (.seq (.region r123_15) (.cond (.tmp 43) (.seq (.region r123_16) .ret) (.seq (.seq (.region r123_17) (.cond (.tmp 57) .skip (.region r123_18))) (.cond (.tmp 57) (.seq (.region r123_19) .ret) .skip)))))))))) (.seq (.region r123_20) .ret))))))
theorem code123 : ∃ c, Try.f123.body = some c ∧ abs Try.f123.ntmps c = B123 := ⟨_, rfl, by kernel_rfl⟩
theorem hb123 : HasBody Try.prog 123 := hasBody_of Try.func123 (by kernel_rfl)
theorem res123 : Try.f123.results = #[(.tmp 4)] := rfl
theorem enter123 {w : World} {R : Value → World → Prop} (x0 x1 : Value) (h : vc Try.prog B123 (retK Try.prog #[(.tmp 4)] R) [] (initEnv [x0, x1] 0) w) : FnC Try.prog 123 #[x0, x1] w R := by
  obtain ⟨c, h1, h2⟩ := code123
  exact hb123.fn (ret_of_vc mixed Try.func123 h1 (Nat.le_of_ble_eq_true rfl) B123 h2 h)
@[push_cast] theorem vr123_0 : VR r123_0 [⟨some 2, .box 39 (.tmp 0), 0, none⟩, ⟨some 4, .assign (.const (.bool false)), 4, none⟩] := vR rfl
@[push_cast] theorem vr123_1 : VR r123_1 [⟨some 8, .fieldAddr 39 (.tmp 2) 3, 0, none⟩, ⟨some 9, .load 37 (.tmp 8), 37, none⟩, ⟨some 10, .call ⟨.builtin .len, #[.tmp 9], #[37]⟩, 3, none⟩, ⟨some 5, .assign (.tmp 10), 3, none⟩] := vR rfl
@[push_cast] theorem vr123_2 : VR r123_2 [⟨some 11, .move (.tmp 1), 3, none⟩, ⟨some 12, .binOp .eql 3 (.tmp 11) (.const (.int .i64 0)) 3, 4, none⟩] := vR rfl
@[push_cast] theorem vr123_3 : VR r123_3 [⟨some 4, .assign (.const (.bool false)), 4, none⟩] := vR rfl
@[push_cast] theorem vr123_4 : VR r123_4 [⟨some 6, .assign (.const (.int .i64 0)), 3, none⟩] := vR rfl
@[push_cast] theorem vr123_5 : VR r123_5 [⟨some 13, .move (.tmp 6), 3, none⟩, ⟨some 14, .move (.tmp 5), 3, none⟩, ⟨some 15, .binOp .lss 3 (.tmp 13) (.tmp 14) 3, 4, none⟩] := vR rfl
@[push_cast] theorem vr123_7 : VR r123_7 [⟨some 18, .fieldAddr 39 (.tmp 2) 3, 0, none⟩, ⟨some 19, .load 37 (.tmp 18), 37, none⟩, ⟨some 20, .move (.tmp 6), 3, none⟩, ⟨some 21, .indexAddr 37 (.tmp 19) (.tmp 20), 0, none⟩, ⟨some 22, .load 39 (.tmp 21), 39, none⟩, ⟨some 23, .move (.tmp 1), 3, none⟩, ⟨some 24, .binOp .sub 3 (.tmp 23) (.const (.int .i64 1)) 3, 3, none⟩, ⟨some 25, .call ⟨.value (.func 123), #[.tmp 22, .tmp 24], #[39, 3]⟩, 4, none⟩, ⟨some 7, .assign (.tmp 25), 4, none⟩] := vR rfl
@[push_cast] theorem vr123_8 : VR r123_8 [⟨some 26, .move (.tmp 7), 4, none⟩, ⟨some 27, .unOp .not 4 (.tmp 26), 4, none⟩] := vR rfl
@[push_cast] theorem vr123_9 : VR r123_9 [⟨some 4, .assign (.const (.bool false)), 4, none⟩] := vR rfl
@[push_cast] theorem vr123_6 : VR r123_6 [⟨some 16, .move (.tmp 6), 3, none⟩, ⟨some 17, .binOp .add 3 (.tmp 16) (.const (.int .i64 1)) 3, 3, none⟩, ⟨some 6, .assign (.tmp 17), 3, none⟩] := vR rfl
@[push_cast] theorem vr123_10 : VR r123_10 [⟨some 28, .fieldAddr 39 (.tmp 2) 0, 0, none⟩, ⟨some 29, .load 36 (.tmp 28), 36, none⟩] := vR rfl
@[push_cast] theorem vr123_11 : VR r123_11 [⟨some 31, .binOp .eql 36 (.tmp 29) (.const (.int .i64 1)) 36, 4, none⟩, ⟨some 30, .assign (.tmp 31), 4, none⟩] := vR rfl
@[push_cast] theorem vr123_12 : VR r123_12 [⟨some 32, .move (.tmp 5), 3, none⟩, ⟨some 33, .binOp .eql 3 (.tmp 32) (.const (.int .i64 0)) 3, 4, none⟩, ⟨some 4, .assign (.tmp 33), 4, none⟩] := vR rfl
@[push_cast] theorem vr123_13 : VR r123_13 [⟨some 35, .binOp .eql 36 (.tmp 29) (.const (.int .i64 2)) 36, 4, none⟩, ⟨some 34, .assign (.tmp 35), 4, none⟩] := vR rfl
@[push_cast] theorem vr123_14 : VR r123_14 [⟨some 36, .move (.tmp 5), 3, none⟩, ⟨some 37, .binOp .eql 3 (.tmp 36) (.const (.int .i64 0)) 3, 4, none⟩, ⟨some 38, .move (.tmp 37), 4, none⟩, ⟨some 39, .fieldAddr 39 (.tmp 2) 2, 0, some (38, true)⟩, ⟨some 40, .load 9 (.tmp 39), 9, some (38, true)⟩, ⟨some 41, .binOp .eql 9 (.tmp 40) (.const (.string { data := #[] })) 9, 4, some (38, true)⟩, ⟨some 42, .pick (.tmp 38) (.tmp 41) (.const (.bool false)), 4, none⟩, ⟨some 4, .assign (.tmp 42), 4, none⟩] := vR rfl
@[push_cast] theorem vr123_15 : VR r123_15 [⟨some 44, .binOp .eql 36 (.tmp 29) (.const (.int .i64 3)) 36, 4, none⟩, ⟨some 43, .assign (.tmp 44), 4, none⟩] := vR rfl
@[push_cast] theorem vr123_16 : VR r123_16 [⟨some 45, .move (.tmp 5), 3, none⟩, ⟨some 46, .binOp .eql 3 (.tmp 45) (.const (.int .i64 1)) 3, 4, none⟩, ⟨some 47, .move (.tmp 46), 4, none⟩, ⟨some 48, .fieldAddr 39 (.tmp 2) 1, 0, some (47, true)⟩, ⟨some 49, .load 9 (.tmp 48), 9, some (47, true)⟩, ⟨some 50, .binOp .eql 9 (.tmp 49) (.const (.string { data := #[] })) 9, 4, some (47, true)⟩, ⟨some 51, .pick (.tmp 47) (.tmp 50) (.const (.bool false)), 4, none⟩, ⟨some 52, .move (.tmp 51), 4, none⟩, ⟨some 53, .fieldAddr 39 (.tmp 2) 2, 0, some (52, true)⟩, ⟨some 54, .load 9 (.tmp 53), 9, some (52, true)⟩, ⟨some 55, .binOp .eql 9 (.tmp 54) (.const (.string { data := #[] })) 9, 4, some (52, true)⟩, ⟨some 56, .pick (.tmp 52) (.tmp 55) (.const (.bool false)), 4, none⟩, ⟨some 4, .assign (.tmp 56), 4, none⟩] := vR rfl
@[push_cast] theorem vr123_17 : VR r123_17 [⟨some 58, .binOp .eql 36 (.tmp 29) (.const (.int .i64 4)) 36, 4, none⟩, ⟨some 57, .assign (.tmp 58), 4, none⟩] := vR rfl
@[push_cast] theorem vr123_18 : VR r123_18 [⟨some 59, .binOp .eql 36 (.tmp 29) (.const (.int .i64 5)) 36, 4, none⟩, ⟨some 57, .assign (.tmp 59), 4, none⟩] := vR rfl
@[push_cast] theorem vr123_19 : VR r123_19 [⟨some 60, .move (.tmp 5), 3, none⟩, ⟨some 61, .binOp .geq 3 (.tmp 60) (.const (.int .i64 2)) 3, 4, none⟩, ⟨some 62, .move (.tmp 61), 4, none⟩, ⟨some 63, .fieldAddr 39 (.tmp 2) 1, 0, some (62, true)⟩, ⟨some 64, .load 9 (.tmp 63), 9, some (62, true)⟩, ⟨some 65, .binOp .eql 9 (.tmp 64) (.const (.string { data := #[] })) 9, 4, some (62, true)⟩, ⟨some 66, .pick (.tmp 62) (.tmp 65) (.const (.bool false)), 4, none⟩, ⟨some 67, .move (.tmp 66), 4, none⟩, ⟨some 68, .fieldAddr 39 (.tmp 2) 2, 0, some (67, true)⟩, ⟨some 69, .load 9 (.tmp 68), 9, some (67, true)⟩, ⟨some 70, .binOp .eql 9 (.tmp 69) (.const (.string { data := #[] })) 9, 4, some (67, true)⟩, ⟨some 71, .pick (.tmp 67) (.tmp 70) (.const (.bool false)), 4, none⟩, ⟨some 4, .assign (.tmp 71), 4, none⟩] := vR rfl
@[push_cast] theorem vr123_20 : VR r123_20 [⟨some 4, .assign (.const (.bool false)), 4, none⟩] := vR rfl
/-! 124 columbary/columbaryref23.metric (params #[24, 63], results #[(.tmp 4)], 21 slots) -/
def r124_0 : List VOp :=
  [⟨some 2, .box 24 (.tmp 0), 0, none⟩,
   ⟨some 3, .box 63 (.tmp 1), 0, none⟩,
   ⟨some 4, .assign (.const (.bool false)), 4, none⟩]
def r124_1 : List VOp :=
  [fad 8 24 2 1,
   lda 9 22 8,
   fad 10 63 3 1,
   lda 11 9 10,
   ⟨some 12, .call ⟨.value (.func 43), #[.tmp 9, .tmp 11], #[22, 9]⟩, 94, none⟩,
   mv 7 12 94,
   ext 13 7 0 3,
   ext 14 7 1 4,
   asg 5 13 3,
   asg 6 14 4]
def r124_2 : List VOp :=
  [fad 15 63 3 0,
   lda 16 61 15,
   ⟨some 17, .binOp .eql 61 (.tmp 16) (.const (.int .i64 0)) 61, 4, none⟩,
   mv 18 17 4,
   ⟨some 19, .move (.tmp 6), 4, some (18, false)⟩,
   ⟨some 20, .pick (.tmp 18) (.const (.bool true)) (.tmp 19), 4, none⟩,
   asg 4 20 4]
def B124 : VC :=
  (.seq (.region r124_0) (.seq (.region r124_1) (.seq (.region r124_2) .ret)))
theorem code124 : ∃ c, Try.f124.body = some c ∧ abs Try.f124.ntmps c = B124 := ⟨_, rfl, by kernel_rfl⟩
theorem hb124 : HasBody Try.prog 124 := hasBody_of Try.func124 (by kernel_rfl)
theorem res124 : Try.f124.results = #[(.tmp 4)] := rfl
theorem enter124 {w : World} {R : Value → World → Prop} (x0 x1 : Value) (h : vc Try.prog B124 (retK Try.prog #[(.tmp 4)] R) [] (initEnv [x0, x1] 0) w) : FnC Try.prog 124 #[x0, x1] w R := by
  obtain ⟨c, h1, h2⟩ := code124
  exact hb124.fn (ret_of_vc mixed Try.func124 h1 (Nat.le_of_ble_eq_true rfl) B124 h2 h)
@[push_cast] theorem vr124_0 : VR r124_0 [⟨some 2, .box 24 (.tmp 0), 0, none⟩, ⟨some 3, .box 63 (.tmp 1), 0, none⟩, ⟨some 4, .assign (.const (.bool false)), 4, none⟩] := vR rfl
@[push_cast] theorem vr124_1 : VR r124_1 [⟨some 8, .fieldAddr 24 (.tmp 2) 1, 0, none⟩, ⟨some 9, .load 22 (.tmp 8), 22, none⟩, ⟨some 10, .fieldAddr 63 (.tmp 3) 1, 0, none⟩, ⟨some 11, .load 9 (.tmp 10), 9, none⟩, ⟨some 12, .call ⟨.value (.func 43), #[.tmp 9, .tmp 11], #[22, 9]⟩, 94, none⟩, ⟨some 7, .move (.tmp 12), 94, none⟩, ⟨some 13, .extract (.tmp 7) 0, 3, none⟩, ⟨some 14, .extract (.tmp 7) 1, 4, none⟩, ⟨some 5, .assign (.tmp 13), 3, none⟩, ⟨some 6, .assign (.tmp 14), 4, none⟩] := vR rfl
@[push_cast] theorem vr124_2 : VR r124_2 [⟨some 15, .fieldAddr 63 (.tmp 3) 0, 0, none⟩, ⟨some 16, .load 61 (.tmp 15), 61, none⟩, ⟨some 17, .binOp .eql 61 (.tmp 16) (.const (.int .i64 0)) 61, 4, none⟩, ⟨some 18, .move (.tmp 17), 4, none⟩, ⟨some 19, .move (.tmp 6), 4, some (18, false)⟩, ⟨some 20, .pick (.tmp 18) (.const (.bool true)) (.tmp 19), 4, none⟩, ⟨some 4, .assign (.tmp 20), 4, none⟩] := vR rfl
/-! 125 columbary/columbaryref23.values (params #[39], results #[(.tmp 2)], 27 slots) -/
def W125_0 : List Nat := [3, 4, 5, 9, 10, 11, 12, 13, 14, 15, 16, 17, 18, 19, 20, 21, 22, 23, 24, 25]
@[push_cast] theorem W125_0_def : W125_0 = [3, 4, 5, 9, 10, 11, 12, 13, 14, 15, 16, 17, 18, 19, 20, 21, 22, 23, 24, 25] := mk_eq rfl
def r125_0 : List VOp :=
  [⟨some 1, .box 39 (.tmp 0), 0, none⟩,
   ⟨some 2, .assign (.const (.bool false)), 4, none⟩]
def r125_1 : List VOp :=
  [fad 6 39 1 2,
   lda 7 9 6,
   ⟨some 8, .call ⟨.value (.func 127), #[.tmp 7], #[9]⟩, 4, none⟩,
   asg 3 8 4]
def r125_2 : List VOp :=
  [⟨some 4, .assign (.const (.int .i64 0)), 3, none⟩]
def r125_3 : List VOp :=
  [mv 9 4 3,
   fad 10 39 1 3,
   lda 11 37 10,
   ⟨some 12, .call ⟨.builtin .len, #[.tmp 11], #[37]⟩, 3, none⟩,
   ⟨some 13, .binOp .lss 3 (.tmp 9) (.tmp 12) 3, 4, none⟩]
def r125_5 : List VOp :=
  [fad 16 39 1 3,
   lda 17 37 16,
   mv 18 4 3,
   iad 19 37 17 18,
   lda 20 39 19,
   ⟨some 21, .call ⟨.value (.func 125), #[.tmp 20], #[39]⟩, 4, none⟩,
   asg 5 21 4]
def r125_6 : List VOp :=
  [mv 22 3 4,
   mv 23 22 4,
   ⟨some 24, .move (.tmp 5), 4, some (23, true)⟩,
   ⟨some 25, .pick (.tmp 23) (.tmp 24) (.const (.bool false)), 4, none⟩,
   asg 3 25 4]
def r125_4 : List VOp :=
  [mv 14 4 3,
   ⟨some 15, .binOp .add 3 (.tmp 14) (.const (.int .i64 1)) 3, 3, none⟩,
   asg 4 15 3]
def r125_7 : List VOp :=
  [mv 26 3 4,
   asg 2 26 4]
def B125 : VC :=
  (.seq (.region r125_0) (.seq (.region r125_1) (.seq (.seq (.region r125_2) (.block 0 (.loop (.seq (.seq (.region r125_3) (.cond (.tmp 13) .skip (.exit 0))) (.seq (.block 1 (.seq (.region r125_5) (.region r125_6))) (.region r125_4)))))) (.seq (.region r125_7) .ret))))
theorem code125 : ∃ c, Try.f125.body = some c ∧ abs Try.f125.ntmps c = B125 := ⟨_, rfl, by kernel_rfl⟩
theorem hb125 : HasBody Try.prog 125 := hasBody_of Try.func125 (by kernel_rfl)
theorem res125 : Try.f125.results = #[(.tmp 2)] := rfl
theorem enter125 {w : World} {R : Value → World → Prop} (x0 : Value) (h : vc Try.prog B125 (retK Try.prog #[(.tmp 2)] R) [] (initEnv [x0] 0) w) : FnC Try.prog 125 #[x0] w R := by
  obtain ⟨c, h1, h2⟩ := code125
  exact hb125.fn (ret_of_vc mixed Try.func125 h1 (Nat.le_of_ble_eq_true rfl) B125 h2 h)
@[push_cast] theorem vr125_0 : VR r125_0 [⟨some 1, .box 39 (.tmp 0), 0, none⟩, ⟨some 2, .assign (.const (.bool false)), 4, none⟩] := vR rfl
@[push_cast] theorem vr125_1 : VR r125_1 [⟨some 6, .fieldAddr 39 (.tmp 1) 2, 0, none⟩, ⟨some 7, .load 9 (.tmp 6), 9, none⟩, ⟨some 8, .call ⟨.value (.func 127), #[.tmp 7], #[9]⟩, 4, none⟩, ⟨some 3, .assign (.tmp 8), 4, none⟩] := vR rfl
@[push_cast] theorem vr125_2 : VR r125_2 [⟨some 4, .assign (.const (.int .i64 0)), 3, none⟩] := vR rfl
@[push_cast] theorem vr125_3 : VR r125_3 [⟨some 9, .move (.tmp 4), 3, none⟩, ⟨some 10, .fieldAddr 39 (.tmp 1) 3, 0, none⟩, ⟨some 11, .load 37 (.tmp 10), 37, none⟩, ⟨some 12, .call ⟨.builtin .len, #[.tmp 11], #[37]⟩, 3, none⟩, ⟨some 13, .binOp .lss 3 (.tmp 9) (.tmp 12) 3, 4, none⟩] := vR rfl
@[push_cast] theorem vr125_5 : VR r125_5 [⟨some 16, .fieldAddr 39 (.tmp 1) 3, 0, none⟩, ⟨some 17, .load 37 (.tmp 16), 37, none⟩, ⟨some 18, .move (.tmp 4), 3, none⟩, ⟨some 19, .indexAddr 37 (.tmp 17) (.tmp 18), 0, none⟩, ⟨some 20, .load 39 (.tmp 19), 39, none⟩, ⟨some 21, .call ⟨.value (.func 125), #[.tmp 20], #[39]⟩, 4, none⟩, ⟨some 5, .assign (.tmp 21), 4, none⟩] := vR rfl
@[push_cast] theorem vr125_6 : VR r125_6 [⟨some 22, .move (.tmp 3), 4, none⟩, ⟨some 23, .move (.tmp 22), 4, none⟩, ⟨some 24, .move (.tmp 5), 4, some (23, true)⟩, ⟨some 25, .pick (.tmp 23) (.tmp 24) (.const (.bool false)), 4, none⟩, ⟨some 3, .assign (.tmp 25), 4, none⟩] := vR rfl
@[push_cast] theorem vr125_4 : VR r125_4 [⟨some 14, .move (.tmp 4), 3, none⟩, ⟨some 15, .binOp .add 3 (.tmp 14) (.const (.int .i64 1)) 3, 3, none⟩, ⟨some 4, .assign (.tmp 15), 3, none⟩] := vR rfl
@[push_cast] theorem vr125_7 : VR r125_7 [⟨some 26, .move (.tmp 3), 4, none⟩, ⟨some 2, .assign (.tmp 26), 4, none⟩] := vR rfl
/-! 126 columbary/columbaryref10.words (params #[], results #[(.tmp 0)], 2 slots) -/
def r126_0 : List VOp :=
  [⟨some 0, .assign (.const (.slice none 0 0)), 22, none⟩]
def r126_1 : List VOp :=
  [⟨some 1, .buildSlice 22 20 #[(0, (.const (.string { data := #[99, 111, 117, 110, 116] }))), (1, (.const (.string { data := #[115, 117, 109] }))), (2, (.const (.string { data := #[109, 105, 110] }))), (3, (.const (.string { data := #[109, 97, 120] }))), (4, (.const (.string { data := #[102, 114, 111, 109] }))), (5, (.const (.string { data := #[116, 111] }))), (6, (.const (.string { data := #[98, 121] }))), (7, (.const (.string { data := #[101, 118, 101, 114, 121] }))), (8, (.const (.string { data := #[119, 104, 101, 114, 101] }))), (9, (.const (.string { data := #[104, 97, 118, 105, 110, 103] }))), (10, (.const (.string { data := #[111, 114, 100, 101, 114] }))), (11, (.const (.string { data := #[108, 105, 109, 105, 116] }))), (12, (.const (.string { data := #[97, 110, 100] }))), (13, (.const (.string { data := #[111, 114] }))), (14, (.const (.string { data := #[110, 111, 116] }))), (15, (.const (.string { data := #[105, 115] }))), (16, (.const (.string { data := #[110, 117, 108, 108] }))), (17, (.const (.string { data := #[97, 115, 99] }))), (18, (.const (.string { data := #[100, 101, 115, 99] }))), (19, (.const (.string { data := #[115, 101, 108, 101, 99, 116] })))], 22, none⟩,
   asg 0 1 22]
def B126 : VC :=
  (.seq (.region r126_0) (.seq (.region r126_1) .ret))
theorem code126 : ∃ c, Try.f126.body = some c ∧ abs Try.f126.ntmps c = B126 := ⟨_, rfl, by kernel_rfl⟩
theorem hb126 : HasBody Try.prog 126 := hasBody_of Try.func126 (by kernel_rfl)
theorem res126 : Try.f126.results = #[(.tmp 0)] := rfl
theorem enter126 {w : World} {R : Value → World → Prop} (h : vc Try.prog B126 (retK Try.prog #[(.tmp 0)] R) [] (initEnv [] 0) w) : FnC Try.prog 126 #[] w R := by
  obtain ⟨c, h1, h2⟩ := code126
  exact hb126.fn (ret_of_vc mixed Try.func126 h1 (Nat.le_of_ble_eq_true rfl) B126 h2 h)
@[push_cast] theorem vr126_0 : VR r126_0 [⟨some 0, .assign (.const (.slice none 0 0)), 22, none⟩] := vR rfl
@[push_cast] theorem vr126_1 : VR r126_1 [⟨some 1, .buildSlice 22 20 #[(0, (.const (.string { data := #[99, 111, 117, 110, 116] }))), (1, (.const (.string { data := #[115, 117, 109] }))), (2, (.const (.string { data := #[109, 105, 110] }))), (3, (.const (.string { data := #[109, 97, 120] }))), (4, (.const (.string { data := #[102, 114, 111, 109] }))), (5, (.const (.string { data := #[116, 111] }))), (6, (.const (.string { data := #[98, 121] }))), (7, (.const (.string { data := #[101, 118, 101, 114, 121] }))), (8, (.const (.string { data := #[119, 104, 101, 114, 101] }))), (9, (.const (.string { data := #[104, 97, 118, 105, 110, 103] }))), (10, (.const (.string { data := #[111, 114, 100, 101, 114] }))), (11, (.const (.string { data := #[108, 105, 109, 105, 116] }))), (12, (.const (.string { data := #[97, 110, 100] }))), (13, (.const (.string { data := #[111, 114] }))), (14, (.const (.string { data := #[110, 111, 116] }))), (15, (.const (.string { data := #[105, 115] }))), (16, (.const (.string { data := #[110, 117, 108, 108] }))), (17, (.const (.string { data := #[97, 115, 99] }))), (18, (.const (.string { data := #[100, 101, 115, 99] }))), (19, (.const (.string { data := #[115, 101, 108, 101, 99, 116] })))], 22, none⟩, ⟨some 0, .assign (.tmp 1), 22, none⟩] := vR rfl
/-! 127 columbary/columbaryref10.Value (params #[9], results #[(.tmp 2)], 35 slots) -/
def W127_0 : List Nat := [2, 3, 4, 5, 6, 7, 8, 9, 10, 11, 12, 13, 14, 15, 16, 17, 18, 19, 20, 21, 22, 23, 24, 25, 26, 27, 28, 29, 30, 31]
@[push_cast] theorem W127_0_def : W127_0 = [2, 3, 4, 5, 6, 7, 8, 9, 10, 11, 12, 13, 14, 15, 16, 17, 18, 19, 20, 21, 22, 23, 24, 25, 26, 27, 28, 29, 30, 31] := mk_eq rfl
def r127_0 : List VOp :=
  [⟨some 2, .assign (.const (.bool false)), 4, none⟩]
def r127_1 : List VOp :=
  [⟨some 3, .assign (.const (.int .i64 0)), 3, none⟩]
def r127_2 : List VOp :=
  [mv 4 3 3,
   mv 5 0 9,
   ⟨some 6, .call ⟨.builtin .len, #[.tmp 5], #[9]⟩, 3, none⟩,
   ⟨some 7, .binOp .lss 3 (.tmp 4) (.tmp 6) 3, 4, none⟩]
def r127_4 : List VOp :=
  [mv 10 0 9,
   mv 11 3 3,
   ⟨some 12, .index 9 (.tmp 10) (.tmp 11), 5, none⟩,
   ⟨some 13, .binOp .lss 5 (.tmp 12) (.const (.int .u8 32)) 5, 4, none⟩,
   mv 14 13 4,
   ⟨some 15, .move (.tmp 0), 9, some (14, false)⟩,
   ⟨some 16, .move (.tmp 3), 3, some (14, false)⟩,
   ⟨some 17, .index 9 (.tmp 15) (.tmp 16), 5, some (14, false)⟩,
   ⟨some 18, .binOp .gtr 5 (.tmp 17) (.const (.int .u8 126)) 5, 4, some (14, false)⟩,
   ⟨some 19, .pick (.tmp 14) (.const (.bool true)) (.tmp 18), 4, none⟩,
   mv 20 19 4,
   ⟨some 21, .move (.tmp 0), 9, some (20, false)⟩,
   ⟨some 22, .move (.tmp 3), 3, some (20, false)⟩,
   ⟨some 23, .index 9 (.tmp 21) (.tmp 22), 5, some (20, false)⟩,
   ⟨some 24, .binOp .eql 5 (.tmp 23) (.const (.int .u8 34)) 5, 4, some (20, false)⟩,
   ⟨some 25, .pick (.tmp 20) (.const (.bool true)) (.tmp 24), 4, none⟩,
   mv 26 25 4,
   ⟨some 27, .move (.tmp 0), 9, some (26, false)⟩,
   ⟨some 28, .move (.tmp 3), 3, some (26, false)⟩,
   ⟨some 29, .index 9 (.tmp 27) (.tmp 28), 5, some (26, false)⟩,
   ⟨some 30, .binOp .eql 5 (.tmp 29) (.const (.int .u8 92)) 5, 4, some (26, false)⟩,
   ⟨some 31, .pick (.tmp 26) (.const (.bool true)) (.tmp 30), 4, none⟩]
def r127_5 : List VOp :=
  [⟨some 2, .assign (.const (.bool false)), 4, none⟩]
def r127_3 : List VOp :=
  [mv 8 3 3,
   ⟨some 9, .binOp .add 3 (.tmp 8) (.const (.int .i64 1)) 3, 3, none⟩,
   asg 3 9 3]
def r127_6 : List VOp :=
  [mv 32 0 9,
   ⟨some 33, .call ⟨.builtin .len, #[.tmp 32], #[9]⟩, 3, none⟩,
   ⟨some 34, .binOp .leq 3 (.tmp 33) (.const (.int .i64 24)) 3, 4, none⟩,
   asg 2 34 4]
def B127 : VC :=
  (.seq (.region r127_0) (.seq (.seq (.region r127_1) (.block 0 (.loop (.seq (.seq (.region r127_2) (.cond (.tmp 7) .skip (.exit 0))) (.seq (.block 1 (.seq (.region r127_4) (.cond (.tmp 31) (.seq (.region r127_5) .ret) .skip))) (.region r127_3)))))) (.seq (.region r127_6) .ret)))
theorem code127 : ∃ c, Try.f127.body = some c ∧ abs Try.f127.ntmps c = B127 := ⟨_, rfl, by kernel_rfl⟩
theorem hb127 : HasBody Try.prog 127 := hasBody_of Try.func127 (by kernel_rfl)
theorem res127 : Try.f127.results = #[(.tmp 2)] := rfl
theorem enter127 {w : World} {R : Value → World → Prop} (x0 : Value) (h : vc Try.prog B127 (retK Try.prog #[(.tmp 2)] R) [] (initEnv [x0] 0) w) : FnC Try.prog 127 #[x0] w R := by
  obtain ⟨c, h1, h2⟩ := code127
  exact hb127.fn (ret_of_vc mixed Try.func127 h1 (Nat.le_of_ble_eq_true rfl) B127 h2 h)
@[push_cast] theorem vr127_0 : VR r127_0 [⟨some 2, .assign (.const (.bool false)), 4, none⟩] := vR rfl
@[push_cast] theorem vr127_1 : VR r127_1 [⟨some 3, .assign (.const (.int .i64 0)), 3, none⟩] := vR rfl
@[push_cast] theorem vr127_2 : VR r127_2 [⟨some 4, .move (.tmp 3), 3, none⟩, ⟨some 5, .move (.tmp 0), 9, none⟩, ⟨some 6, .call ⟨.builtin .len, #[.tmp 5], #[9]⟩, 3, none⟩, ⟨some 7, .binOp .lss 3 (.tmp 4) (.tmp 6) 3, 4, none⟩] := vR rfl
@[push_cast] theorem vr127_4 : VR r127_4 [⟨some 10, .move (.tmp 0), 9, none⟩, ⟨some 11, .move (.tmp 3), 3, none⟩, ⟨some 12, .index 9 (.tmp 10) (.tmp 11), 5, none⟩, ⟨some 13, .binOp .lss 5 (.tmp 12) (.const (.int .u8 32)) 5, 4, none⟩, ⟨some 14, .move (.tmp 13), 4, none⟩, ⟨some 15, .move (.tmp 0), 9, some (14, false)⟩, ⟨some 16, .move (.tmp 3), 3, some (14, false)⟩, ⟨some 17, .index 9 (.tmp 15) (.tmp 16), 5, some (14, false)⟩, ⟨some 18, .binOp .gtr 5 (.tmp 17) (.const (.int .u8 126)) 5, 4, some (14, false)⟩, ⟨some 19, .pick (.tmp 14) (.const (.bool true)) (.tmp 18), 4, none⟩, ⟨some 20, .move (.tmp 19), 4, none⟩, ⟨some 21, .move (.tmp 0), 9, some (20, false)⟩, ⟨some 22, .move (.tmp 3), 3, some (20, false)⟩, ⟨some 23, .index 9 (.tmp 21) (.tmp 22), 5, some (20, false)⟩, ⟨some 24, .binOp .eql 5 (.tmp 23) (.const (.int .u8 34)) 5, 4, some (20, false)⟩, ⟨some 25, .pick (.tmp 20) (.const (.bool true)) (.tmp 24), 4, none⟩, ⟨some 26, .move (.tmp 25), 4, none⟩, ⟨some 27, .move (.tmp 0), 9, some (26, false)⟩, ⟨some 28, .move (.tmp 3), 3, some (26, false)⟩, ⟨some 29, .index 9 (.tmp 27) (.tmp 28), 5, some (26, false)⟩, ⟨some 30, .binOp .eql 5 (.tmp 29) (.const (.int .u8 92)) 5, 4, some (26, false)⟩, ⟨some 31, .pick (.tmp 26) (.const (.bool true)) (.tmp 30), 4, none⟩] := vR rfl
@[push_cast] theorem vr127_5 : VR r127_5 [⟨some 2, .assign (.const (.bool false)), 4, none⟩] := vR rfl
@[push_cast] theorem vr127_3 : VR r127_3 [⟨some 8, .move (.tmp 3), 3, none⟩, ⟨some 9, .binOp .add 3 (.tmp 8) (.const (.int .i64 1)) 3, 3, none⟩, ⟨some 3, .assign (.tmp 9), 3, none⟩] := vR rfl
@[push_cast] theorem vr127_6 : VR r127_6 [⟨some 32, .move (.tmp 0), 9, none⟩, ⟨some 33, .call ⟨.builtin .len, #[.tmp 32], #[9]⟩, 3, none⟩, ⟨some 34, .binOp .leq 3 (.tmp 33) (.const (.int .i64 24)) 3, 4, none⟩, ⟨some 2, .assign (.tmp 34), 4, none⟩] := vR rfl
@[push_cast] theorem bsl22_0_Codes7B {K : Value → World → Prop} {w : World}  : vBuildSlice Try.prog 22 0 #[] K w = K (.slice (some ⟨w.heap.size, 0, none⟩) 0 0) (w.alloc (.cells #[] 9)) :=
  vBuildSlice_ok Try.underlying22 ti9 (by kernel_rfl) (by decide)
@[push_cast] theorem bsl22_1_Codes7B {K : Value → World → Prop} {w : World} (x0 : ByteArray) : vBuildSlice Try.prog 22 1 #[(0, (.string x0))] K w = K (.slice (some ⟨w.heap.size, 0, none⟩) 1 1) (w.alloc (.cells #[(.string x0)] 9)) :=
  vBuildSlice_ok Try.underlying22 ti9 (by kernel_rfl) (by decide)
@[push_cast] theorem bsl22_20_Codes7B {K : Value → World → Prop} {w : World} (x0 : ByteArray) (x1 : ByteArray) (x2 : ByteArray) (x3 : ByteArray) (x4 : ByteArray) (x5 : ByteArray) (x6 : ByteArray) (x7 : ByteArray) (x8 : ByteArray) (x9 : ByteArray) (x10 : ByteArray) (x11 : ByteArray) (x12 : ByteArray) (x13 : ByteArray) (x14 : ByteArray) (x15 : ByteArray) (x16 : ByteArray) (x17 : ByteArray) (x18 : ByteArray) (x19 : ByteArray) : vBuildSlice Try.prog 22 20 #[(0, (.string x0)), (1, (.string x1)), (2, (.string x2)), (3, (.string x3)), (4, (.string x4)), (5, (.string x5)), (6, (.string x6)), (7, (.string x7)), (8, (.string x8)), (9, (.string x9)), (10, (.string x10)), (11, (.string x11)), (12, (.string x12)), (13, (.string x13)), (14, (.string x14)), (15, (.string x15)), (16, (.string x16)), (17, (.string x17)), (18, (.string x18)), (19, (.string x19))] K w = K (.slice (some ⟨w.heap.size, 0, none⟩) 20 20) (w.alloc (.cells #[(.string x0), (.string x1), (.string x2), (.string x3), (.string x4), (.string x5), (.string x6), (.string x7), (.string x8), (.string x9), (.string x10), (.string x11), (.string x12), (.string x13), (.string x14), (.string x15), (.string x16), (.string x17), (.string x18), (.string x19)] 9)) :=
  vBuildSlice_ok Try.underlying22 ti9 (by kernel_rfl) (by decide)
end Go.Proofs.Ytnofalhkapmcnaa
end
