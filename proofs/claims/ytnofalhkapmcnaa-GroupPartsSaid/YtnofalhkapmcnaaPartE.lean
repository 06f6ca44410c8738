/- The functions' code in the generator's form. Written by a program (codes.py) out of Lean's own print of the loaded translation. -/
import Derived.Test.YtnofalhkapmcnaaPartD
set_option linter.all false
open Nat renaming reduceEqDiff → zA, reducePow → zB, reduceMul → zC, reduceAdd → zD, reduceSub → zE, reduceLeDiff → zF
open Int renaming reduceToNat → zG, reducePow → zH, reduceNeg → zI, reduceMul → zJ, reduceAdd → zK, reduceSub → zL, reduceLT → zM, reduceLE → zN, reduceEq → zO, reduceMod → zP, reduceDiv → zQ
section
namespace Go.Proofs.Ytnofalhkapmcnaa
open Go.Vc
set_option maxRecDepth 100000
variable (Q : Post) (ds : List Deferred) (σ : Env) (w : World)
abbrev VR (r l : List VOp) : Prop := ∀ (Q : Post) (ds : List Deferred) (σ : Env) (w : World), vc Try.prog (.region r) Q ds σ w = vcOps Try.prog l (Q .normal ds) σ w
theorem vR {r l : List VOp} (h : r = l) : VR r l := fun Q ds σ w => mk_eq (by subst h; rfl)
abbrev Ent (f : FuncId) (B : VC) (rs : Array ResultVar) (l : List Value) : Prop := ∀ {w : World} {R : Value → World → Prop}, vc Try.prog B (retK Try.prog rs R) [] (initEnv l 0) w → FnC Try.prog f l.toArray w R
theorem ent {f : FuncId} {fn : Func} {B : VC} {rs : Array ResultVar} {l : List Value} {tt : Bool} (hc : ∃ c, fn.body = some c ∧ absM false fn.ntmps tt c = B) (hb : HasBody Try.prog f) (hf : Try.prog.funcs[f]? = some fn) (hn : Nat.ble l.length fn.ntmps = true) (hr : fn.results = rs) : Ent f B rs l := by
  intro w R h
  obtain ⟨c, h1, h2⟩ := hc
  subst hr
  exact hb.fn (ret_of_vc mixed hf h1 (by simpa using Nat.le_of_ble_eq_true hn) B h2 h)
abbrev mv (d s t : Nat) : VOp := ⟨some d, .move (.tmp s), t, none⟩
abbrev lda (d t s : Nat) : VOp := ⟨some d, .load t (.tmp s), t, none⟩
abbrev asg (d s t : Nat) : VOp := ⟨some d, .assign (.tmp s), t, none⟩
abbrev ext (d s i t : Nat) : VOp := ⟨some d, .extract (.tmp s) i, t, none⟩
abbrev fad (d t s i : Nat) : VOp := ⟨some d, .fieldAddr t (.tmp s) i, 0, none⟩
abbrev iad (d t s i : Nat) : VOp := ⟨some d, .indexAddr t (.tmp s) (.tmp i), 0, none⟩
/-! 27 columbary/columbarylaw23.Fits (params #[24, 42], results #[(.tmp 4)], 57 slots) -/
def r27_0 : List VOp :=
  [⟨some 2, .box 24 (.tmp 0), 0, none⟩,
   ⟨some 3, .box 42 (.tmp 1), 0, none⟩,
   ⟨some 4, .assign (.const (.bool false)), 4, none⟩]
def r27_1 : List VOp :=
  [fad 10 24 2 0,
   lda 11 22 10,
   ⟨some 12, .call ⟨.value (.func 53), #[.tmp 11], #[22]⟩, 4, none⟩,
   asg 5 12 4]
def r27_2 : List VOp :=
  [fad 13 24 2 1,
   lda 14 22 13,
   ⟨some 15, .call ⟨.value (.func 53), #[.tmp 14], #[22]⟩, 4, none⟩,
   asg 6 15 4]
def r27_3 : List VOp :=
  [fad 16 42 3 4,
   lda 17 22 16,
   ⟨some 18, .call ⟨.value (.func 53), #[.tmp 17], #[22]⟩, 4, none⟩,
   asg 7 18 4]
def r27_4 : List VOp :=
  [mv 19 5 4,
   ⟨some 20, .unOp .not 4 (.tmp 19), 4, none⟩,
   mv 21 20 4,
   ⟨some 22, .move (.tmp 6), 4, some (21, false)⟩,
   ⟨some 23, .unOp .not 4 (.tmp 22), 4, some (21, false)⟩,
   ⟨some 24, .pick (.tmp 21) (.const (.bool true)) (.tmp 23), 4, none⟩,
   mv 25 24 4,
   ⟨some 26, .move (.tmp 7), 4, some (25, false)⟩,
   ⟨some 27, .unOp .not 4 (.tmp 26), 4, some (25, false)⟩,
   ⟨some 28, .pick (.tmp 25) (.const (.bool true)) (.tmp 27), 4, none⟩,
   mv 29 28 4,
   ⟨some 30, .fieldAddr 42 (.tmp 3) 0, 0, some (29, false)⟩,
   ⟨some 31, .load 35 (.tmp 30), 35, some (29, false)⟩,
   ⟨some 32, .call ⟨.builtin .len, #[.tmp 31], #[35]⟩, 3, some (29, false)⟩,
   ⟨some 33, .binOp .gtr 3 (.tmp 32) (.const (.int .i64 30)) 3, 4, some (29, false)⟩,
   ⟨some 34, .pick (.tmp 29) (.const (.bool true)) (.tmp 33), 4, none⟩,
   mv 35 34 4,
   ⟨some 36, .fieldAddr 42 (.tmp 3) 6, 0, some (35, false)⟩,
   ⟨some 37, .load 40 (.tmp 36), 40, some (35, false)⟩,
   ⟨some 38, .call ⟨.builtin .len, #[.tmp 37], #[40]⟩, 3, some (35, false)⟩,
   ⟨some 39, .binOp .gtr 3 (.tmp 38) (.const (.int .i64 30)) 3, 4, some (35, false)⟩,
   ⟨some 40, .pick (.tmp 35) (.const (.bool true)) (.tmp 39), 4, none⟩,
   mv 41 40 4,
   ⟨some 42, .fieldAddr 42 (.tmp 3) 5, 0, some (41, false)⟩,
   ⟨some 43, .load 39 (.tmp 42), 39, some (41, false)⟩,
   ⟨some 44, .call ⟨.value (.func 69), #[(.tmp 43), (.const (.int .i64 300))], #[39, 3]⟩, 3, some (41, false)⟩,
   ⟨some 45, .binOp .geq 3 (.tmp 44) (.const (.int .i64 300)) 3, 4, some (41, false)⟩,
   ⟨some 46, .pick (.tmp 41) (.const (.bool true)) (.tmp 45), 4, none⟩]
def r27_5 : List VOp :=
  [⟨some 4, .assign (.const (.bool false)), 4, none⟩]
def r27_6 : List VOp :=
  [lda 47 24 2,
   ⟨some 48, .call ⟨.value (.func 55), #[.tmp 47], #[24]⟩, 4, none⟩,
   asg 8 48 4]
def r27_7 : List VOp :=
  [fad 49 42 3 5,
   lda 50 39 49,
   ⟨some 51, .call ⟨.value (.func 31), #[.tmp 50], #[39]⟩, 3, none⟩,
   asg 9 51 3]
def r27_8 : List VOp :=
  [mv 52 8 4,
   mv 53 52 4,
   ⟨some 54, .move (.tmp 9), 3, some (53, true)⟩,
   ⟨some 55, .binOp .leq 3 (.tmp 54) (.const (.int .i64 60)) 3, 4, some (53, true)⟩,
   ⟨some 56, .pick (.tmp 53) (.tmp 55) (.const (.bool false)), 4, none⟩,
   asg 4 56 4]
def B27 : VC :=
  (.seq (.region r27_0) (.seq (.region r27_1) (.seq (.region r27_2) (.seq (.region r27_3) (.seq (.seq (.region r27_4) (.cond (.tmp 46) (.seq (.region r27_5) .ret) .skip)) (.seq (.region r27_6) (.seq (.region r27_7) (.seq (.region r27_8) .ret))))))))
theorem code27 : ∃ c, Try.f27.body = some c ∧ abs Try.f27.ntmps c = B27 := ⟨_, rfl, by kernel_rfl⟩
theorem hb27 : HasBody Try.prog 27 := hasBody_of Try.func27 (by kernel_rfl)
theorem enter27 (x0 x1 : Value) : Ent 27 B27 #[(.tmp 4)] [x0, x1] := ent code27 hb27 Try.func27 rfl rfl
@[push_cast] def vr27_0 := vR r27_0.eq_1
@[push_cast] def vr27_1 := vR r27_1.eq_1
@[push_cast] def vr27_2 := vR r27_2.eq_1
@[push_cast] def vr27_3 := vR r27_3.eq_1
@[push_cast] def vr27_4 := vR r27_4.eq_1
@[push_cast] def vr27_5 := vR r27_5.eq_1
@[push_cast] def vr27_6 := vR r27_6.eq_1
@[push_cast] def vr27_7 := vR r27_7.eq_1
@[push_cast] def vr27_8 := vR r27_8.eq_1
/-! 31 columbary/columbaryref22.Depth (params #[39], results #[(.tmp 2)], 22 slots) -/
def W31_0 : List Nat := [3, 4, 5, 6, 7, 8, 9, 10, 11, 12, 13, 14, 15, 16, 17, 18, 19]
@[push_cast] theorem W31_0_def : W31_0 = [3, 4, 5, 6, 7, 8, 9, 10, 11, 12, 13, 14, 15, 16, 17, 18, 19] := mk_eq rfl
def r31_0 : List VOp :=
  [⟨some 1, .box 39 (.tmp 0), 0, none⟩,
   ⟨some 2, .assign (.const (.int .i64 0)), 3, none⟩]
def r31_1 : List VOp :=
  [⟨some 3, .assign (.const (.int .i64 0)), 3, none⟩]
def r31_2 : List VOp :=
  [⟨some 4, .assign (.const (.int .i64 0)), 3, none⟩]
def r31_3 : List VOp :=
  [mv 5 4 3,
   fad 6 39 1 3,
   lda 7 37 6,
   ⟨some 8, .call ⟨.builtin .len, #[.tmp 7], #[37]⟩, 3, none⟩,
   ⟨some 9, .binOp .lss 3 (.tmp 5) (.tmp 8) 3, 4, none⟩]
def r31_5 : List VOp :=
  [mv 12 3 3,
   fad 13 39 1 3,
   lda 14 37 13,
   mv 15 4 3,
   iad 16 37 14 15,
   lda 17 39 16,
   ⟨some 18, .call ⟨.value (.func 31), #[.tmp 17], #[39]⟩, 3, none⟩,
   ⟨some 19, .call ⟨.builtin .max, #[.tmp 12, .tmp 18], #[3, 3]⟩, 3, none⟩,
   asg 3 19 3]
def r31_4 : List VOp :=
  [mv 10 4 3,
   ⟨some 11, .binOp .add 3 (.tmp 10) (.const (.int .i64 1)) 3, 3, none⟩,
   asg 4 11 3]
def r31_6 : List VOp :=
  [mv 20 3 3,
   ⟨some 21, .binOp .add 3 (.tmp 20) (.const (.int .i64 1)) 3, 3, none⟩,
   asg 2 21 3]
def B31 : VC :=
  (.seq (.region r31_0) (.seq (.region r31_1) (.seq (.seq (.region r31_2) (.block 0 (.loop (.seq (.seq (.region r31_3) (.cond (.tmp 9) .skip (.exit 0))) (.seq (.block 1 (.region r31_5)) (.region r31_4)))))) (.seq (.region r31_6) .ret))))
theorem code31 : ∃ c, Try.f31.body = some c ∧ abs Try.f31.ntmps c = B31 := ⟨_, rfl, by kernel_rfl⟩
theorem hb31 : HasBody Try.prog 31 := hasBody_of Try.func31 (by kernel_rfl)
theorem enter31 (x0 : Value) : Ent 31 B31 #[(.tmp 2)] [x0] := ent code31 hb31 Try.func31 rfl rfl
@[push_cast] def vr31_0 := vR r31_0.eq_1
@[push_cast] def vr31_1 := vR r31_1.eq_1
@[push_cast] def vr31_2 := vR r31_2.eq_1
@[push_cast] def vr31_3 := vR r31_3.eq_1
@[push_cast] def vr31_5 := vR r31_5.eq_1
@[push_cast] def vr31_4 := vR r31_4.eq_1
@[push_cast] def vr31_6 := vR r31_6.eq_1
/-! 32 columbary/columbaryref03.Texts (params #[22, 22], results #[(.tmp 4)], 26 slots) -/
def W32_0 : List Nat := [4, 5, 11, 12, 13, 14, 15, 16, 17, 18, 19, 20, 21, 22, 23, 24, 25]
@[push_cast] theorem W32_0_def : W32_0 = [4, 5, 11, 12, 13, 14, 15, 16, 17, 18, 19, 20, 21, 22, 23, 24, 25] := mk_eq rfl
def r32_0 : List VOp :=
  [⟨some 4, .assign (.const (.bool false)), 4, none⟩]
def r32_1 : List VOp :=
  [mv 6 0 22,
   ⟨some 7, .call ⟨.builtin .len, #[.tmp 6], #[22]⟩, 3, none⟩,
   mv 8 1 22,
   ⟨some 9, .call ⟨.builtin .len, #[.tmp 8], #[22]⟩, 3, none⟩,
   ⟨some 10, .binOp .neq 3 (.tmp 7) (.tmp 9) 3, 4, none⟩]
def r32_2 : List VOp :=
  [⟨some 4, .assign (.const (.bool false)), 4, none⟩]
def r32_3 : List VOp :=
  [⟨some 5, .assign (.const (.int .i64 0)), 3, none⟩]
def r32_4 : List VOp :=
  [mv 11 5 3,
   mv 12 0 22,
   ⟨some 13, .call ⟨.builtin .len, #[.tmp 12], #[22]⟩, 3, none⟩,
   ⟨some 14, .binOp .lss 3 (.tmp 11) (.tmp 13) 3, 4, none⟩]
def r32_6 : List VOp :=
  [mv 17 0 22,
   mv 18 5 3,
   iad 19 22 17 18,
   lda 20 9 19,
   mv 21 1 22,
   mv 22 5 3,
   iad 23 22 21 22,
   lda 24 9 23,
   ⟨some 25, .binOp .neq 9 (.tmp 20) (.tmp 24) 9, 4, none⟩]
def r32_7 : List VOp :=
  [⟨some 4, .assign (.const (.bool false)), 4, none⟩]
def r32_5 : List VOp :=
  [mv 15 5 3,
   ⟨some 16, .binOp .add 3 (.tmp 15) (.const (.int .i64 1)) 3, 3, none⟩,
   asg 5 16 3]
def r32_8 : List VOp :=
  [⟨some 4, .assign (.const (.bool true)), 4, none⟩]
def B32 : VC :=
  (.seq (.region r32_0) (.seq (.seq (.region r32_1) (.cond (.tmp 10) (.seq (.region r32_2) .ret) .skip)) (.seq (.seq (.region r32_3) (.block 0 (.loop (.seq (.seq (.region r32_4) (.cond (.tmp 14) .skip (.exit 0))) (.seq (.block 1 (.seq (.draw r32_6 2) (.cond (.tmp 25) (.seq (.region r32_7) .ret) .skip))) (.region r32_5)))))) (.seq (.region r32_8) .ret))))
theorem code32 : ∃ c, Try.f32.body = some c ∧ abs Try.f32.ntmps c = B32 := ⟨_, rfl, by kernel_rfl⟩
theorem hb32 : HasBody Try.prog 32 := hasBody_of Try.func32 (by kernel_rfl)
theorem enter32 (x0 x1 : Value) : Ent 32 B32 #[(.tmp 4)] [x0, x1] := ent code32 hb32 Try.func32 rfl rfl
@[push_cast] def vr32_0 := vR r32_0.eq_1
@[push_cast] def vr32_1 := vR r32_1.eq_1
@[push_cast] def vr32_2 := vR r32_2.eq_1
@[push_cast] def vr32_3 := vR r32_3.eq_1
@[push_cast] def vr32_4 := vR r32_4.eq_1
@[push_cast] theorem vr32_6 : vc Try.prog (.draw r32_6 2) Q ds σ w = drawn Try.prog [(⟨some 17, .move (.tmp 0), 22, none⟩, [0]), (⟨some 18, .move (.tmp 5), 3, none⟩, [5]), (⟨some 19, .indexAddr 22 (.tmp 17) (.tmp 18), 0, none⟩, [17, 18]), (⟨some 20, .load 9 (.tmp 19), 9, none⟩, [19]), (⟨some 21, .move (.tmp 1), 22, none⟩, [1]), (⟨some 22, .move (.tmp 5), 3, none⟩, [5]), (⟨some 23, .indexAddr 22 (.tmp 21) (.tmp 22), 0, none⟩, [21, 22]), (⟨some 24, .load 9 (.tmp 23), 9, none⟩, [23]), (⟨some 25, .binOp .neq 9 (.tmp 20) (.tmp 24) 9, 4, none⟩, [20, 24])] 2 (Q .normal ds) σ w := mk_eq rfl
@[push_cast] def vr32_7 := vR r32_7.eq_1
@[push_cast] def vr32_5 := vR r32_5.eq_1
@[push_cast] def vr32_8 := vR r32_8.eq_1
/-! 33 columbary/columbaryref23.Check (params #[24, 42], results #[(.tmp 4)], 21 slots) -/
def r33_0 : List VOp :=
  [⟨some 2, .box 24 (.tmp 0), 0, none⟩,
   ⟨some 3, .box 42 (.tmp 1), 0, none⟩,
   ⟨some 4, .assign (.const (.int .i64 0)), 53, none⟩]
def r33_1 : List VOp :=
  [lda 8 42 3,
   ⟨some 9, .call ⟨.value (.func 77), #[.tmp 8], #[42]⟩, 4, none⟩,
   asg 5 9 4]
def r33_2 : List VOp :=
  [mv 10 5 4,
   ⟨some 11, .unOp .not 4 (.tmp 10), 4, none⟩]
def r33_3 : List VOp :=
  [⟨some 4, .assign (.const (.int .i64 221)), 53, none⟩]
def r33_4 : List VOp :=
  [lda 12 24 2,
   lda 13 42 3,
   ⟨some 14, .call ⟨.value (.func 78), #[.tmp 12, .tmp 13], #[24, 42]⟩, 4, none⟩,
   asg 6 14 4]
def r33_5 : List VOp :=
  [mv 15 6 4,
   ⟨some 16, .unOp .not 4 (.tmp 15), 4, none⟩]
def r33_6 : List VOp :=
  [⟨some 4, .assign (.const (.int .i64 231)), 53, none⟩]
def r33_7 : List VOp :=
  [lda 17 42 3,
   ⟨some 18, .call ⟨.value (.func 79), #[.tmp 17], #[42]⟩, 4, none⟩,
   asg 7 18 4]
def r33_8 : List VOp :=
  [mv 19 7 4,
   ⟨some 20, .unOp .not 4 (.tmp 19), 4, none⟩]
def r33_9 : List VOp :=
  [⟨some 4, .assign (.const (.int .i64 232)), 53, none⟩]
def r33_10 : List VOp :=
  [⟨some 4, .assign (.const (.int .i64 0)), 53, none⟩]
def B33 : VC :=
  (.seq (.region r33_0) (.seq (.region r33_1) (.seq (.seq (.region r33_2) (.cond (.tmp 11) (.seq (.region r33_3) .ret) .skip)) (.seq (.region r33_4) (.seq (.seq (.region r33_5) (.cond (.tmp 16) (.seq (.region r33_6) .ret) .skip)) (.seq (.region r33_7) (.seq (.seq (.region r33_8) (.cond (.tmp 20) (.seq (.region r33_9) .ret) .skip)) (.seq (.region r33_10) .ret))))))))
theorem code33 : ∃ c, Try.f33.body = some c ∧ abs Try.f33.ntmps c = B33 := ⟨_, rfl, by kernel_rfl⟩
theorem hb33 : HasBody Try.prog 33 := hasBody_of Try.func33 (by kernel_rfl)
theorem enter33 (x0 x1 : Value) : Ent 33 B33 #[(.tmp 4)] [x0, x1] := ent code33 hb33 Try.func33 rfl rfl
@[push_cast] def vr33_0 := vR r33_0.eq_1
@[push_cast] def vr33_1 := vR r33_1.eq_1
@[push_cast] def vr33_2 := vR r33_2.eq_1
@[push_cast] def vr33_3 := vR r33_3.eq_1
@[push_cast] def vr33_4 := vR r33_4.eq_1
@[push_cast] def vr33_5 := vR r33_5.eq_1
@[push_cast] def vr33_6 := vR r33_6.eq_1
@[push_cast] def vr33_7 := vR r33_7.eq_1
@[push_cast] def vr33_8 := vR r33_8.eq_1
@[push_cast] def vr33_9 := vR r33_9.eq_1
@[push_cast] def vr33_10 := vR r33_10.eq_1
/-! 43 columbary/columbaryref10.Find (params #[22, 9], results #[(.tmp 4), (.tmp 5)], 20 slots) -/
def W43_0 : List Nat := [4, 5, 6, 7, 8, 9, 10, 11, 12, 13, 14, 15, 16, 17, 18, 19]
@[push_cast] theorem W43_0_def : W43_0 = [4, 5, 6, 7, 8, 9, 10, 11, 12, 13, 14, 15, 16, 17, 18, 19] := mk_eq rfl
def r43_0 : List VOp :=
  [⟨some 4, .assign (.const (.int .i64 0)), 3, none⟩,
   ⟨some 5, .assign (.const (.bool false)), 4, none⟩]
def r43_1 : List VOp :=
  [⟨some 6, .assign (.const (.int .i64 0)), 3, none⟩]
def r43_2 : List VOp :=
  [mv 7 6 3,
   mv 8 0 22,
   ⟨some 9, .call ⟨.builtin .len, #[.tmp 8], #[22]⟩, 3, none⟩,
   ⟨some 10, .binOp .lss 3 (.tmp 7) (.tmp 9) 3, 4, none⟩]
def r43_4 : List VOp :=
  [mv 13 0 22,
   mv 14 6 3,
   iad 15 22 13 14,
   lda 16 9 15,
   mv 17 1 9,
   ⟨some 18, .binOp .eql 9 (.tmp 16) (.tmp 17) 9, 4, none⟩]
def r43_5 : List VOp :=
  [mv 19 6 3,
   asg 4 19 3,
   ⟨some 5, .assign (.const (.bool true)), 4, none⟩]
def r43_3 : List VOp :=
  [mv 11 6 3,
   ⟨some 12, .binOp .add 3 (.tmp 11) (.const (.int .i64 1)) 3, 3, none⟩,
   asg 6 12 3]
def r43_6 : List VOp :=
  [⟨some 4, .assign (.const (.int .i64 0)), 3, none⟩,
   ⟨some 5, .assign (.const (.bool false)), 4, none⟩]
def B43 : VC :=
  (.seq (.region r43_0) (.seq (.seq (.region r43_1) (.block 0 (.loop (.seq (.seq (.region r43_2) (.cond (.tmp 10) .skip (.exit 0))) (.seq (.block 1 (.seq (.region r43_4) (.cond (.tmp 18) (.seq (.region r43_5) .ret) .skip))) (.region r43_3)))))) (.seq (.region r43_6) .ret)))
theorem code43 : ∃ c, Try.f43.body = some c ∧ abs Try.f43.ntmps c = B43 := ⟨_, rfl, by kernel_rfl⟩
theorem hb43 : HasBody Try.prog 43 := hasBody_of Try.func43 (by kernel_rfl)
theorem enter43 (x0 x1 : Value) : Ent 43 B43 #[(.tmp 4), (.tmp 5)] [x0, x1] := ent code43 hb43 Try.func43 rfl rfl
@[push_cast] def vr43_0 := vR r43_0.eq_1
@[push_cast] def vr43_1 := vR r43_1.eq_1
@[push_cast] def vr43_2 := vR r43_2.eq_1
@[push_cast] def vr43_4 := vR r43_4.eq_1
@[push_cast] def vr43_5 := vR r43_5.eq_1
@[push_cast] def vr43_3 := vR r43_3.eq_1
@[push_cast] def vr43_6 := vR r43_6.eq_1
/-! 50 cmp.Or[int] (params #[29], results #[(.tmp 2)], 18 slots) -/
def W50_0 : List Nat := [2, 5, 8, 9, 10, 11, 12, 13, 14, 15, 16]
@[push_cast] theorem W50_0_def : W50_0 = [2, 5, 8, 9, 10, 11, 12, 13, 14, 15, 16] := mk_eq rfl
def r50_0 : List VOp :=
  [⟨some 2, .assign (.const (.int .i64 0)), 3, none⟩]
def r50_1 : List VOp :=
  [⟨some 3, .assign (.const (.int .i64 0)), 3, none⟩]
def r50_2 : List VOp :=
  [mv 6 0 29,
   ⟨some 7, .call ⟨.builtin .len, #[.tmp 6], #[29]⟩, 3, none⟩,
   ⟨some 8, .move (.const (.int .i64 0)), 3, none⟩]
def r50_3 : List VOp :=
  [⟨some 9, .binOp .lss 3 (.tmp 8) (.tmp 7) 3, 0, none⟩]
def r50_4 : List VOp :=
  [iad 10 29 6 8,
   lda 11 3 10,
   asg 5 11 3]
def r50_5 : List VOp :=
  [mv 12 5 3,
   mv 13 3 3,
   ⟨some 14, .binOp .neq 3 (.tmp 12) (.tmp 13) 3, 4, none⟩]
def r50_6 : List VOp :=
  [mv 15 5 3,
   asg 2 15 3]
def r50_7 : List VOp :=
  [⟨some 16, .binOp .add 3 (.tmp 8) (.const (.int .i64 1)) 3, 3, none⟩,
   mv 8 16 3]
def r50_8 : List VOp :=
  [mv 17 3 3,
   asg 2 17 3]
def B50 : VC :=
  (.seq (.region r50_0) (.seq (.region r50_1) (.seq (.seq (.region r50_2) (.block 0 (.loop (.seq (.region r50_3) (.seq (.cond (.tmp 9) .skip (.exit 0)) (.seq (.block 1 (.seq (.region r50_4) (.seq (.region r50_5) (.cond (.tmp 14) (.seq (.region r50_6) .ret) .skip)))) (.region r50_7))))))) (.seq (.region r50_8) .ret))))
theorem code50 : ∃ c, Try.f50.body = some c ∧ abs Try.f50.ntmps c = B50 := ⟨_, rfl, by kernel_rfl⟩
theorem hb50 : HasBody Try.prog 50 := hasBody_of Try.func50 (by kernel_rfl)
theorem enter50 (x0 : Value) : Ent 50 B50 #[(.tmp 2)] [x0] := ent code50 hb50 Try.func50 rfl rfl
@[push_cast] def vr50_0 := vR r50_0.eq_1
@[push_cast] def vr50_1 := vR r50_1.eq_1
@[push_cast] def vr50_2 := vR r50_2.eq_1
@[push_cast] def vr50_3 := vR r50_3.eq_1
@[push_cast] def vr50_4 := vR r50_4.eq_1
@[push_cast] def vr50_5 := vR r50_5.eq_1
@[push_cast] def vr50_6 := vR r50_6.eq_1
@[push_cast] def vr50_7 := vR r50_7.eq_1
@[push_cast] def vr50_8 := vR r50_8.eq_1
/-! 51 cmp.Compare[int] (params #[3, 3], results #[(.tmp 4)], 20 slots) -/
def r51_0 : List VOp :=
  [⟨some 4, .assign (.const (.int .i64 0)), 3, none⟩]
def r51_1 : List VOp :=
  [mv 7 0 3,
   ⟨some 8, .call ⟨.value (.func 86), #[.tmp 7], #[3]⟩, 4, none⟩,
   asg 5 8 4]
def r51_2 : List VOp :=
  [mv 9 1 3,
   ⟨some 10, .call ⟨.value (.func 86), #[.tmp 9], #[3]⟩, 4, none⟩,
   asg 6 10 4]
def r51_3 : List VOp :=
  [mv 11 5 4]
def r51_4 : List VOp :=
  [mv 12 6 4]
def r51_5 : List VOp :=
  [⟨some 4, .assign (.const (.int .i64 0)), 3, none⟩]
def r51_6 : List VOp :=
  [⟨some 4, .assign (.const (.int .i64 (-1))), 3, none⟩]
def r51_7 : List VOp :=
  [mv 13 6 4]
def r51_8 : List VOp :=
  [⟨some 4, .assign (.const (.int .i64 1)), 3, none⟩]
def r51_9 : List VOp :=
  [mv 14 0 3,
   mv 15 1 3,
   ⟨some 16, .binOp .lss 3 (.tmp 14) (.tmp 15) 3, 4, none⟩]
def r51_10 : List VOp :=
  [⟨some 4, .assign (.const (.int .i64 (-1))), 3, none⟩]
def r51_11 : List VOp :=
  [mv 17 0 3,
   mv 18 1 3,
   ⟨some 19, .binOp .gtr 3 (.tmp 17) (.tmp 18) 3, 4, none⟩]
def r51_12 : List VOp :=
  [⟨some 4, .assign (.const (.int .i64 1)), 3, none⟩]
def r51_13 : List VOp :=
  [⟨some 4, .assign (.const (.int .i64 0)), 3, none⟩]
def B51 : VC :=
  (.seq (.region r51_0) (.seq (.region r51_1) (.seq (.region r51_2) (.seq (.seq (.region r51_3) (.cond (.tmp 11) (.seq (.seq (.region r51_4) (.cond (.tmp 12) (.seq (.region r51_5) .ret) .skip)) (.seq (.region r51_6) .ret)) .skip)) (.seq (.seq (.region r51_7) (.cond (.tmp 13) (.seq (.region r51_8) .ret) .skip)) (.seq (.seq (.region r51_9) (.cond (.tmp 16) (.seq (.region r51_10) .ret) .skip)) (.seq (.seq (.region r51_11) (.cond (.tmp 19) (.seq (.region r51_12) .ret) .skip)) (.seq (.region r51_13) .ret))))))))
theorem code51 : ∃ c, Try.f51.body = some c ∧ abs Try.f51.ntmps c = B51 := ⟨_, rfl, by kernel_rfl⟩
theorem hb51 : HasBody Try.prog 51 := hasBody_of Try.func51 (by kernel_rfl)
theorem enter51 (x0 x1 : Value) : Ent 51 B51 #[(.tmp 4)] [x0, x1] := ent code51 hb51 Try.func51 rfl rfl
@[push_cast] def vr51_0 := vR r51_0.eq_1
@[push_cast] def vr51_1 := vR r51_1.eq_1
@[push_cast] def vr51_2 := vR r51_2.eq_1
@[push_cast] def vr51_3 := vR r51_3.eq_1
@[push_cast] def vr51_4 := vR r51_4.eq_1
@[push_cast] def vr51_5 := vR r51_5.eq_1
@[push_cast] def vr51_6 := vR r51_6.eq_1
@[push_cast] def vr51_7 := vR r51_7.eq_1
@[push_cast] def vr51_8 := vR r51_8.eq_1
@[push_cast] def vr51_9 := vR r51_9.eq_1
@[push_cast] def vr51_10 := vR r51_10.eq_1
@[push_cast] def vr51_11 := vR r51_11.eq_1
@[push_cast] def vr51_12 := vR r51_12.eq_1
@[push_cast] def vr51_13 := vR r51_13.eq_1
/-! 53 columbary/columbarylaw10.Fits (params #[22], results #[(.tmp 2)], 20 slots) -/
def W53_0 : List Nat := [2, 3, 4, 5, 6, 7, 8, 9, 10, 11, 12, 13, 14, 15, 16, 17, 18, 19]
@[push_cast] theorem W53_0_def : W53_0 = [2, 3, 4, 5, 6, 7, 8, 9, 10, 11, 12, 13, 14, 15, 16, 17, 18, 19] := mk_eq rfl
def r53_0 : List VOp :=
  [⟨some 2, .assign (.const (.bool false)), 4, none⟩]
def r53_1 : List VOp :=
  [⟨some 3, .assign (.const (.int .i64 0)), 3, none⟩]
def r53_2 : List VOp :=
  [mv 4 3 3,
   mv 5 0 22,
   ⟨some 6, .call ⟨.builtin .len, #[.tmp 5], #[22]⟩, 3, none⟩,
   ⟨some 7, .binOp .lss 3 (.tmp 4) (.tmp 6) 3, 4, none⟩]
def r53_4 : List VOp :=
  [mv 10 3 3,
   ⟨some 11, .binOp .eql 3 (.tmp 10) (.const (.int .i64 20)) 3, 4, none⟩,
   mv 12 11 4,
   ⟨some 13, .move (.tmp 0), 22, some (12, false)⟩,
   ⟨some 14, .move (.tmp 3), 3, some (12, false)⟩,
   ⟨some 15, .indexAddr 22 (.tmp 13) (.tmp 14), 0, some (12, false)⟩,
   ⟨some 16, .load 9 (.tmp 15), 9, some (12, false)⟩,
   ⟨some 17, .call ⟨.builtin .len, #[.tmp 16], #[9]⟩, 3, some (12, false)⟩,
   ⟨some 18, .binOp .gtr 3 (.tmp 17) (.const (.int .i64 80)) 3, 4, some (12, false)⟩,
   ⟨some 19, .pick (.tmp 12) (.const (.bool true)) (.tmp 18), 4, none⟩]
def r53_5 : List VOp :=
  [⟨some 2, .assign (.const (.bool false)), 4, none⟩]
def r53_3 : List VOp :=
  [mv 8 3 3,
   ⟨some 9, .binOp .add 3 (.tmp 8) (.const (.int .i64 1)) 3, 3, none⟩,
   asg 3 9 3]
def r53_6 : List VOp :=
  [⟨some 2, .assign (.const (.bool true)), 4, none⟩]
def B53 : VC :=
  (.seq (.region r53_0) (.seq (.seq (.region r53_1) (.block 0 (.loop (.seq (.seq (.region r53_2) (.cond (.tmp 7) .skip (.exit 0))) (.seq (.block 1 (.seq (.region r53_4) (.cond (.tmp 19) (.seq (.region r53_5) .ret) .skip))) (.region r53_3)))))) (.seq (.region r53_6) .ret)))
theorem code53 : ∃ c, Try.f53.body = some c ∧ abs Try.f53.ntmps c = B53 := ⟨_, rfl, by kernel_rfl⟩
theorem hb53 : HasBody Try.prog 53 := hasBody_of Try.func53 (by kernel_rfl)
theorem enter53 (x0 : Value) : Ent 53 B53 #[(.tmp 2)] [x0] := ent code53 hb53 Try.func53 rfl rfl
@[push_cast] def vr53_0 := vR r53_0.eq_1
@[push_cast] def vr53_1 := vR r53_1.eq_1
@[push_cast] def vr53_2 := vR r53_2.eq_1
@[push_cast] def vr53_4 := vR r53_4.eq_1
@[push_cast] def vr53_5 := vR r53_5.eq_1
@[push_cast] def vr53_3 := vR r53_3.eq_1
@[push_cast] def vr53_6 := vR r53_6.eq_1
/-! 55 columbary/columbaryref10.Right (params #[24], results #[(.tmp 2)], 57 slots) -/
def W55_0 : List Nat := [2, 4, 5, 6, 14, 15, 16, 17, 18, 19, 20, 21, 22, 23, 24, 25, 26, 27, 28, 29, 30, 31, 32, 33, 34, 35, 36, 37, 38, 39, 40]
@[push_cast] theorem W55_0_def : W55_0 = [2, 4, 5, 6, 14, 15, 16, 17, 18, 19, 20, 21, 22, 23, 24, 25, 26, 27, 28, 29, 30, 31, 32, 33, 34, 35, 36, 37, 38, 39, 40] := mk_eq rfl
def W55_1 : List Nat := [2, 6, 27, 28, 29, 30, 31, 32, 33, 34, 35, 36, 37, 38, 39, 40]
@[push_cast] theorem W55_1_def : W55_1 = [2, 6, 27, 28, 29, 30, 31, 32, 33, 34, 35, 36, 37, 38, 39, 40] := mk_eq rfl
def r55_0 : List VOp :=
  [⟨some 1, .box 24 (.tmp 0), 0, none⟩,
   ⟨some 2, .assign (.const (.bool false)), 4, none⟩]
def r55_1 : List VOp :=
  [⟨some 7, .buildSlice 22 0 #[], 22, none⟩,
   fad 8 24 1 0,
   lda 9 22 8,
   ⟨some 10, .call ⟨.builtin .append, #[.tmp 7, .tmp 9], #[22, 22]⟩, 22, none⟩,
   fad 11 24 1 1,
   lda 12 22 11,
   ⟨some 13, .call ⟨.builtin .append, #[.tmp 10, .tmp 12], #[22, 22]⟩, 22, none⟩,
   asg 3 13 22]
def r55_2 : List VOp :=
  [⟨some 4, .assign (.const (.int .i64 0)), 3, none⟩]
def r55_3 : List VOp :=
  [mv 14 4 3,
   mv 15 3 22,
   ⟨some 16, .call ⟨.builtin .len, #[.tmp 15], #[22]⟩, 3, none⟩,
   ⟨some 17, .binOp .lss 3 (.tmp 14) (.tmp 16) 3, 4, none⟩]
def r55_5 : List VOp :=
  [mv 20 3 22,
   mv 21 4 3,
   iad 22 22 20 21,
   lda 23 9 22,
   ⟨some 24, .call ⟨.value (.func 87), #[.tmp 23], #[9]⟩, 4, none⟩,
   asg 5 24 4]
def r55_6 : List VOp :=
  [mv 25 5 4,
   ⟨some 26, .unOp .not 4 (.tmp 25), 4, none⟩]
def r55_7 : List VOp :=
  [⟨some 2, .assign (.const (.bool false)), 4, none⟩]
def r55_8 : List VOp :=
  [⟨some 6, .assign (.const (.int .i64 0)), 3, none⟩]
def r55_9 : List VOp :=
  [mv 27 6 3,
   mv 28 4 3,
   ⟨some 29, .binOp .lss 3 (.tmp 27) (.tmp 28) 3, 4, none⟩]
def r55_11 : List VOp :=
  [mv 32 3 22,
   mv 33 6 3,
   iad 34 22 32 33,
   lda 35 9 34,
   mv 36 3 22,
   mv 37 4 3,
   iad 38 22 36 37,
   lda 39 9 38,
   ⟨some 40, .binOp .eql 9 (.tmp 35) (.tmp 39) 9, 4, none⟩]
def r55_12 : List VOp :=
  [⟨some 2, .assign (.const (.bool false)), 4, none⟩]
def r55_10 : List VOp :=
  [mv 30 6 3,
   ⟨some 31, .binOp .add 3 (.tmp 30) (.const (.int .i64 1)) 3, 3, none⟩,
   asg 6 31 3]
def r55_4 : List VOp :=
  [mv 18 4 3,
   ⟨some 19, .binOp .add 3 (.tmp 18) (.const (.int .i64 1)) 3, 3, none⟩,
   asg 4 19 3]
def r55_13 : List VOp :=
  [fad 41 24 1 0,
   lda 42 22 41,
   ⟨some 43, .call ⟨.builtin .len, #[.tmp 42], #[22]⟩, 3, none⟩,
   ⟨some 44, .binOp .geq 3 (.tmp 43) (.const (.int .i64 1)) 3, 4, none⟩,
   mv 45 44 4,
   ⟨some 46, .fieldAddr 24 (.tmp 1) 0, 0, some (45, true)⟩,
   ⟨some 47, .load 22 (.tmp 46), 22, some (45, true)⟩,
   ⟨some 48, .call ⟨.builtin .len, #[.tmp 47], #[22]⟩, 3, some (45, true)⟩,
   ⟨some 49, .binOp .leq 3 (.tmp 48) (.const (.int .i64 6)) 3, 4, some (45, true)⟩,
   ⟨some 50, .pick (.tmp 45) (.tmp 49) (.const (.bool false)), 4, none⟩,
   mv 51 50 4,
   ⟨some 52, .fieldAddr 24 (.tmp 1) 1, 0, some (51, true)⟩,
   ⟨some 53, .load 22 (.tmp 52), 22, some (51, true)⟩,
   ⟨some 54, .call ⟨.builtin .len, #[.tmp 53], #[22]⟩, 3, some (51, true)⟩,
   ⟨some 55, .binOp .leq 3 (.tmp 54) (.const (.int .i64 4)) 3, 4, some (51, true)⟩,
   ⟨some 56, .pick (.tmp 51) (.tmp 55) (.const (.bool false)), 4, none⟩,
   asg 2 56 4]
def B55 : VC :=
  (.seq (.region r55_0) (.seq (.draw r55_1 3) (.seq (.seq (.region r55_2) (.block 0 (.loop (.seq (.seq (.region r55_3) (.cond (.tmp 17) .skip (.exit 0))) (.seq (.block 1 (.seq (.region r55_5) (.seq (.seq (.region r55_6) (.cond (.tmp 26) (.seq (.region r55_7) .ret) .skip)) (.seq (.region r55_8) (.block 2 (.loop (.seq (.seq (.region r55_9) (.cond (.tmp 29) .skip (.exit 2))) (.seq (.block 3 (.seq (.draw r55_11 2) (.cond (.tmp 40) (.seq (.region r55_12) .ret) .skip))) (.region r55_10))))))))) (.region r55_4)))))) (.seq (.region r55_13) .ret))))
theorem code55 : ∃ c, Try.f55.body = some c ∧ abs Try.f55.ntmps c = B55 := ⟨_, rfl, by kernel_rfl⟩
theorem hb55 : HasBody Try.prog 55 := hasBody_of Try.func55 (by kernel_rfl)
theorem enter55 (x0 : Value) : Ent 55 B55 #[(.tmp 2)] [x0] := ent code55 hb55 Try.func55 rfl rfl
@[push_cast] def vr55_0 := vR r55_0.eq_1
@[push_cast] theorem vr55_1 : vc Try.prog (.draw r55_1 3) Q ds σ w = drawn Try.prog [(⟨some 7, .buildSlice 22 0 #[], 22, none⟩, []), (⟨some 8, .fieldAddr 24 (.tmp 1) 0, 0, none⟩, [1]), (⟨some 9, .load 22 (.tmp 8), 22, none⟩, [8]), (⟨some 10, .call ⟨.builtin .append, #[.tmp 7, .tmp 9], #[22, 22]⟩, 22, none⟩, [7, 9]), (⟨some 11, .fieldAddr 24 (.tmp 1) 1, 0, none⟩, [1]), (⟨some 12, .load 22 (.tmp 11), 22, none⟩, [11]), (⟨some 13, .call ⟨.builtin .append, #[.tmp 10, .tmp 12], #[22, 22]⟩, 22, none⟩, [10, 12]), (⟨some 3, .assign (.tmp 13), 22, none⟩, [13])] 3 (Q .normal ds) σ w := mk_eq rfl
@[push_cast] def vr55_2 := vR r55_2.eq_1
@[push_cast] def vr55_3 := vR r55_3.eq_1
@[push_cast] def vr55_5 := vR r55_5.eq_1
@[push_cast] def vr55_6 := vR r55_6.eq_1
@[push_cast] def vr55_7 := vR r55_7.eq_1
@[push_cast] def vr55_8 := vR r55_8.eq_1
@[push_cast] def vr55_9 := vR r55_9.eq_1
@[push_cast] theorem vr55_11 : vc Try.prog (.draw r55_11 2) Q ds σ w = drawn Try.prog [(⟨some 32, .move (.tmp 3), 22, none⟩, [3]), (⟨some 33, .move (.tmp 6), 3, none⟩, [6]), (⟨some 34, .indexAddr 22 (.tmp 32) (.tmp 33), 0, none⟩, [32, 33]), (⟨some 35, .load 9 (.tmp 34), 9, none⟩, [34]), (⟨some 36, .move (.tmp 3), 22, none⟩, [3]), (⟨some 37, .move (.tmp 4), 3, none⟩, [4]), (⟨some 38, .indexAddr 22 (.tmp 36) (.tmp 37), 0, none⟩, [36, 37]), (⟨some 39, .load 9 (.tmp 38), 9, none⟩, [38]), (⟨some 40, .binOp .eql 9 (.tmp 35) (.tmp 39) 9, 4, none⟩, [35, 39])] 2 (Q .normal ds) σ w := mk_eq rfl
@[push_cast] def vr55_12 := vR r55_12.eq_1
@[push_cast] def vr55_10 := vR r55_10.eq_1
@[push_cast] def vr55_4 := vR r55_4.eq_1
@[push_cast] def vr55_13 := vR r55_13.eq_1
/-! 69 columbary/columbarylaw23.parts (params #[39, 3], results #[(.tmp 4)], 40 slots) -/
def W69_0 : List Nat := [5, 6, 16, 17, 18, 19, 20, 21, 22, 23, 24, 25, 26, 27, 28, 29, 30, 31, 32, 33, 34, 35, 36, 37, 38]
@[push_cast] theorem W69_0_def : W69_0 = [5, 6, 16, 17, 18, 19, 20, 21, 22, 23, 24, 25, 26, 27, 28, 29, 30, 31, 32, 33, 34, 35, 36, 37, 38] := mk_eq rfl
def r69_0 : List VOp :=
  [⟨some 2, .box 39 (.tmp 0), 0, none⟩,
   ⟨some 4, .assign (.const (.int .i64 0)), 3, none⟩]
def r69_1 : List VOp :=
  [fad 7 39 2 1,
   lda 8 9 7,
   ⟨some 9, .call ⟨.builtin .len, #[.tmp 8], #[9]⟩, 3, none⟩,
   fad 10 39 2 2,
   lda 11 9 10,
   ⟨some 12, .call ⟨.builtin .len, #[.tmp 11], #[9]⟩, 3, none⟩,
   ⟨some 13, .binOp .add 3 (.tmp 9) (.tmp 12) 3, 3, none⟩,
   ⟨some 14, .binOp .quo 3 (.tmp 13) (.const (.int .i64 100)) 3, 3, none⟩,
   ⟨some 15, .binOp .add 3 (.const (.int .i64 1)) (.tmp 14) 3, 3, none⟩,
   asg 5 15 3]
def r69_2 : List VOp :=
  [⟨some 6, .assign (.const (.int .i64 0)), 3, none⟩]
def r69_3 : List VOp :=
  [mv 16 6 3,
   fad 17 39 2 3,
   lda 18 37 17,
   ⟨some 19, .call ⟨.builtin .len, #[.tmp 18], #[37]⟩, 3, none⟩,
   ⟨some 20, .binOp .lss 3 (.tmp 16) (.tmp 19) 3, 4, none⟩,
   mv 21 20 4,
   ⟨some 22, .move (.tmp 5), 3, some (21, true)⟩,
   ⟨some 23, .move (.tmp 1), 3, some (21, true)⟩,
   ⟨some 24, .binOp .lss 3 (.tmp 22) (.tmp 23) 3, 4, some (21, true)⟩,
   ⟨some 25, .pick (.tmp 21) (.tmp 24) (.const (.bool false)), 4, none⟩]
def r69_5 : List VOp :=
  [mv 28 5 3,
   fad 29 39 2 3,
   lda 30 37 29,
   mv 31 6 3,
   iad 32 37 30 31,
   lda 33 39 32,
   mv 34 1 3,
   mv 35 5 3,
   ⟨some 36, .binOp .sub 3 (.tmp 34) (.tmp 35) 3, 3, none⟩,
   ⟨some 37, .call ⟨.value (.func 69), #[.tmp 33, .tmp 36], #[39, 3]⟩, 3, none⟩,
   ⟨some 38, .binOp .add 3 (.tmp 28) (.tmp 37) 3, 3, none⟩,
   asg 5 38 3]
def r69_4 : List VOp :=
  [mv 26 6 3,
   ⟨some 27, .binOp .add 3 (.tmp 26) (.const (.int .i64 1)) 3, 3, none⟩,
   asg 6 27 3]
def r69_6 : List VOp :=
  [mv 39 5 3,
   asg 4 39 3]
def B69 : VC :=
  (.seq (.region r69_0) (.seq (.region r69_1) (.seq (.seq (.region r69_2) (.block 0 (.loop (.seq (.seq (.region r69_3) (.cond (.tmp 25) .skip (.exit 0))) (.seq (.block 1 (.region r69_5)) (.region r69_4)))))) (.seq (.region r69_6) .ret))))
theorem code69 : ∃ c, Try.f69.body = some c ∧ abs Try.f69.ntmps c = B69 := ⟨_, rfl, by kernel_rfl⟩
theorem hb69 : HasBody Try.prog 69 := hasBody_of Try.func69 (by kernel_rfl)
theorem enter69 (x0 x1 : Value) : Ent 69 B69 #[(.tmp 4)] [x0, x1] := ent code69 hb69 Try.func69 rfl rfl
@[push_cast] def vr69_0 := vR r69_0.eq_1
@[push_cast] def vr69_1 := vR r69_1.eq_1
@[push_cast] def vr69_2 := vR r69_2.eq_1
@[push_cast] def vr69_3 := vR r69_3.eq_1
@[push_cast] def vr69_5 := vR r69_5.eq_1
@[push_cast] def vr69_4 := vR r69_4.eq_1
@[push_cast] def vr69_6 := vR r69_6.eq_1
/-! 77 columbary/columbaryref23.shape (params #[42], results #[(.tmp 2)], 106 slots) -/
def W77_0 : List Nat := [2, 3, 4, 30, 31, 32, 33, 34, 35, 36, 37, 38, 39, 40, 41, 42, 43, 44]
@[push_cast] theorem W77_0_def : W77_0 = [2, 3, 4, 30, 31, 32, 33, 34, 35, 36, 37, 38, 39, 40, 41, 42, 43, 44] := mk_eq rfl
def W77_1 : List Nat := [2, 5, 6, 7, 45, 46, 47, 48, 49, 50, 51, 52, 53, 54, 55, 56, 57, 58, 59, 60, 61, 62, 63, 64, 65, 66, 67, 68, 69, 70, 71, 72, 73, 74, 75, 76, 77, 78, 79, 80, 81]
@[push_cast] theorem W77_1_def : W77_1 = [2, 5, 6, 7, 45, 46, 47, 48, 49, 50, 51, 52, 53, 54, 55, 56, 57, 58, 59, 60, 61, 62, 63, 64, 65, 66, 67, 68, 69, 70, 71, 72, 73, 74, 75, 76, 77, 78, 79, 80, 81] := mk_eq rfl
def r77_0 : List VOp :=
  [⟨some 1, .box 42 (.tmp 0), 0, none⟩,
   ⟨some 2, .assign (.const (.bool false)), 4, none⟩]
def r77_1 : List VOp :=
  [fad 8 42 1 0,
   lda 9 35 8,
   ⟨some 10, .call ⟨.builtin .len, #[.tmp 9], #[35]⟩, 3, none⟩,
   ⟨some 11, .binOp .lss 3 (.tmp 10) (.const (.int .i64 1)) 3, 4, none⟩,
   mv 12 11 4,
   ⟨some 13, .fieldAddr 42 (.tmp 1) 0, 0, some (12, false)⟩,
   ⟨some 14, .load 35 (.tmp 13), 35, some (12, false)⟩,
   ⟨some 15, .call ⟨.builtin .len, #[.tmp 14], #[35]⟩, 3, some (12, false)⟩,
   ⟨some 16, .binOp .gtr 3 (.tmp 15) (.const (.int .i64 8)) 3, 4, some (12, false)⟩,
   ⟨some 17, .pick (.tmp 12) (.const (.bool true)) (.tmp 16), 4, none⟩,
   mv 18 17 4,
   ⟨some 19, .fieldAddr 42 (.tmp 1) 4, 0, some (18, false)⟩,
   ⟨some 20, .load 22 (.tmp 19), 22, some (18, false)⟩,
   ⟨some 21, .call ⟨.builtin .len, #[.tmp 20], #[22]⟩, 3, some (18, false)⟩,
   ⟨some 22, .binOp .gtr 3 (.tmp 21) (.const (.int .i64 6)) 3, 4, some (18, false)⟩,
   ⟨some 23, .pick (.tmp 18) (.const (.bool true)) (.tmp 22), 4, none⟩,
   mv 24 23 4,
   ⟨some 25, .fieldAddr 42 (.tmp 1) 6, 0, some (24, false)⟩,
   ⟨some 26, .load 40 (.tmp 25), 40, some (24, false)⟩,
   ⟨some 27, .call ⟨.builtin .len, #[.tmp 26], #[40]⟩, 3, some (24, false)⟩,
   ⟨some 28, .binOp .gtr 3 (.tmp 27) (.const (.int .i64 8)) 3, 4, some (24, false)⟩,
   ⟨some 29, .pick (.tmp 24) (.const (.bool true)) (.tmp 28), 4, none⟩]
def r77_2 : List VOp :=
  [⟨some 2, .assign (.const (.bool false)), 4, none⟩]
def r77_3 : List VOp :=
  [⟨some 3, .assign (.const (.int .i64 0)), 3, none⟩]
def r77_4 : List VOp :=
  [mv 30 3 3,
   fad 31 42 1 0,
   lda 32 35 31,
   ⟨some 33, .call ⟨.builtin .len, #[.tmp 32], #[35]⟩, 3, none⟩,
   ⟨some 34, .binOp .lss 3 (.tmp 30) (.tmp 33) 3, 4, none⟩]
def r77_6 : List VOp :=
  [fad 37 42 1 0,
   lda 38 35 37,
   mv 39 3 3,
   iad 40 35 38 39,
   lda 41 63 40,
   ⟨some 42, .call ⟨.value (.func 122), #[.tmp 41], #[63]⟩, 4, none⟩,
   asg 4 42 4]
def r77_7 : List VOp :=
  [mv 43 4 4,
   ⟨some 44, .unOp .not 4 (.tmp 43), 4, none⟩]
def r77_8 : List VOp :=
  [⟨some 2, .assign (.const (.bool false)), 4, none⟩]
def r77_5 : List VOp :=
  [mv 35 3 3,
   ⟨some 36, .binOp .add 3 (.tmp 35) (.const (.int .i64 1)) 3, 3, none⟩,
   asg 3 36 3]
def r77_9 : List VOp :=
  [⟨some 5, .assign (.const (.int .i64 0)), 3, none⟩]
def r77_10 : List VOp :=
  [mv 45 5 3,
   fad 46 42 1 6,
   lda 47 40 46,
   ⟨some 48, .call ⟨.builtin .len, #[.tmp 47], #[40]⟩, 3, none⟩,
   ⟨some 49, .binOp .lss 3 (.tmp 45) (.tmp 48) 3, 4, none⟩]
def r77_12 : List VOp :=
  [fad 52 42 1 6,
   lda 53 40 52,
   mv 54 5 3,
   iad 55 40 53 54,
   lda 56 146 55,
   ⟨some 6, .alloc 146, 0, none⟩,
   ⟨none, .store 146 (.tmp 6) (.tmp 56), 0, none⟩]
def r77_13 : List VOp :=
  [fad 57 146 6 0,
   lda 58 63 57,
   ⟨some 59, .call ⟨.value (.func 122), #[.tmp 58], #[63]⟩, 4, none⟩,
   asg 7 59 4]
def r77_14 : List VOp :=
  [mv 60 7 4,
   ⟨some 61, .unOp .not 4 (.tmp 60), 4, none⟩,
   mv 62 61 4,
   ⟨some 63, .fieldAddr 146 (.tmp 6) 1, 0, some (62, false)⟩,
   ⟨some 64, .load 3 (.tmp 63), 3, some (62, false)⟩,
   ⟨some 65, .binOp .lss 3 (.tmp 64) (.const (.int .i64 (-1))) 3, 4, some (62, false)⟩,
   ⟨some 66, .pick (.tmp 62) (.const (.bool true)) (.tmp 65), 4, none⟩,
   mv 67 66 4,
   ⟨some 68, .fieldAddr 146 (.tmp 6) 1, 0, some (67, false)⟩,
   ⟨some 69, .load 3 (.tmp 68), 3, some (67, false)⟩,
   ⟨some 70, .binOp .gtr 3 (.tmp 69) (.const (.int .i64 1)) 3, 4, some (67, false)⟩,
   ⟨some 71, .pick (.tmp 67) (.const (.bool true)) (.tmp 70), 4, none⟩,
   mv 72 71 4,
   ⟨some 73, .fieldAddr 146 (.tmp 6) 2, 0, some (72, false)⟩,
   ⟨some 74, .load 3 (.tmp 73), 3, some (72, false)⟩,
   ⟨some 75, .binOp .lss 3 (.tmp 74) (.const (.int .i64 (-4611686018427387904))) 3, 4, some (72, false)⟩,
   ⟨some 76, .pick (.tmp 72) (.const (.bool true)) (.tmp 75), 4, none⟩,
   mv 77 76 4,
   ⟨some 78, .fieldAddr 146 (.tmp 6) 2, 0, some (77, false)⟩,
   ⟨some 79, .load 3 (.tmp 78), 3, some (77, false)⟩,
   ⟨some 80, .binOp .gtr 3 (.tmp 79) (.const (.int .i64 4611686018427387904)) 3, 4, some (77, false)⟩,
   ⟨some 81, .pick (.tmp 77) (.const (.bool true)) (.tmp 80), 4, none⟩]
def r77_15 : List VOp :=
  [⟨some 2, .assign (.const (.bool false)), 4, none⟩]
def r77_11 : List VOp :=
  [mv 50 5 3,
   ⟨some 51, .binOp .add 3 (.tmp 50) (.const (.int .i64 1)) 3, 3, none⟩,
   asg 5 51 3]
def r77_16 : List VOp :=
  [fad 82 42 1 5,
   fad 83 39 82 0,
   lda 84 36 83,
   ⟨some 85, .binOp .eql 36 (.tmp 84) (.const (.int .i64 0)) 36, 4, none⟩]
def r77_17 : List VOp :=
  [fad 86 42 1 5,
   fad 87 39 86 3,
   lda 88 37 87,
   ⟨some 89, .call ⟨.builtin .len, #[.tmp 88], #[37]⟩, 3, none⟩,
   ⟨some 90, .binOp .eql 3 (.tmp 89) (.const (.int .i64 0)) 3, 4, none⟩,
   mv 91 90 4,
   ⟨some 92, .fieldAddr 42 (.tmp 1) 5, 0, some (91, true)⟩,
   ⟨some 93, .fieldAddr 39 (.tmp 92) 1, 0, some (91, true)⟩,
   ⟨some 94, .load 9 (.tmp 93), 9, some (91, true)⟩,
   ⟨some 95, .binOp .eql 9 (.tmp 94) (.const (.string { data := #[] })) 9, 4, some (91, true)⟩,
   ⟨some 96, .pick (.tmp 91) (.tmp 95) (.const (.bool false)), 4, none⟩,
   mv 97 96 4,
   ⟨some 98, .fieldAddr 42 (.tmp 1) 5, 0, some (97, true)⟩,
   ⟨some 99, .fieldAddr 39 (.tmp 98) 2, 0, some (97, true)⟩,
   ⟨some 100, .load 9 (.tmp 99), 9, some (97, true)⟩,
   ⟨some 101, .binOp .eql 9 (.tmp 100) (.const (.string { data := #[] })) 9, 4, some (97, true)⟩,
   ⟨some 102, .pick (.tmp 97) (.tmp 101) (.const (.bool false)), 4, none⟩,
   asg 2 102 4]
def r77_18 : List VOp :=
  [fad 103 42 1 5,
   lda 104 39 103,
   ⟨some 105, .call ⟨.value (.func 123), #[(.tmp 104), (.const (.int .i64 30))], #[39, 3]⟩, 4, none⟩,
   asg 2 105 4]
def B77 : VC :=
  (.seq (.region r77_0) (.seq (.seq (.region r77_1) (.cond (.tmp 29) (.seq (.region r77_2) .ret) .skip)) (.seq (.seq (.region r77_3) (.block 0 (.loop (.seq (.seq (.region r77_4) (.cond (.tmp 34) .skip (.exit 0))) (.seq (.block 1 (.seq (.region r77_6) (.seq (.region r77_7) (.cond (.tmp 44) (.seq (.region r77_8) .ret) .skip)))) (.region r77_5)))))) (.seq (.seq (.region r77_9) (.block 2 (.loop (.seq (.seq (.region r77_10) (.cond (.tmp 49) .skip (.exit 2))) (.seq (.block 3 (.seq (.region r77_12) (.seq (.region r77_13) (.seq (.region r77_14) (.cond (.tmp 81) (.seq (.region r77_15) .ret) .skip))))) (.region r77_11)))))) (.seq (.seq (.region r77_16) (.cond (.tmp 85) (.seq (.region r77_17) .ret) .skip)) (.seq (.region r77_18) .ret))))))
theorem code77 : ∃ c, Try.f77.body = some c ∧ abs Try.f77.ntmps c = B77 := ⟨_, rfl, by kernel_rfl⟩
theorem hb77 : HasBody Try.prog 77 := hasBody_of Try.func77 (by kernel_rfl)
theorem enter77 (x0 : Value) : Ent 77 B77 #[(.tmp 2)] [x0] := ent code77 hb77 Try.func77 rfl rfl
@[push_cast] def vr77_0 := vR r77_0.eq_1
@[push_cast] def vr77_1 := vR r77_1.eq_1
@[push_cast] def vr77_2 := vR r77_2.eq_1
@[push_cast] def vr77_3 := vR r77_3.eq_1
@[push_cast] def vr77_4 := vR r77_4.eq_1
@[push_cast] def vr77_6 := vR r77_6.eq_1
@[push_cast] def vr77_7 := vR r77_7.eq_1
@[push_cast] def vr77_8 := vR r77_8.eq_1
@[push_cast] def vr77_5 := vR r77_5.eq_1
@[push_cast] def vr77_9 := vR r77_9.eq_1
@[push_cast] def vr77_10 := vR r77_10.eq_1
@[push_cast] def vr77_12 := vR r77_12.eq_1
@[push_cast] def vr77_13 := vR r77_13.eq_1
@[push_cast] def vr77_14 := vR r77_14.eq_1
@[push_cast] def vr77_15 := vR r77_15.eq_1
@[push_cast] def vr77_11 := vR r77_11.eq_1
@[push_cast] def vr77_16 := vR r77_16.eq_1
@[push_cast] def vr77_17 := vR r77_17.eq_1
@[push_cast] def vr77_18 := vR r77_18.eq_1
/-! 78 columbary/columbaryref23.names (params #[24, 42], results #[(.tmp 4)], 72 slots) -/
def W78_0 : List Nat := [4, 6, 7, 8, 21, 22, 23, 24, 25, 26, 27, 28, 29, 30, 31, 32, 33, 34, 35, 36, 37, 38]
@[push_cast] theorem W78_0_def : W78_0 = [4, 6, 7, 8, 21, 22, 23, 24, 25, 26, 27, 28, 29, 30, 31, 32, 33, 34, 35, 36, 37, 38] := mk_eq rfl
def W78_1 : List Nat := [4, 9, 10, 39, 40, 41, 42, 43, 44, 45, 46, 47, 48, 49, 50, 51, 52, 53, 54]
@[push_cast] theorem W78_1_def : W78_1 = [4, 9, 10, 39, 40, 41, 42, 43, 44, 45, 46, 47, 48, 49, 50, 51, 52, 53, 54] := mk_eq rfl
def W78_2 : List Nat := [4, 11, 12, 55, 56, 57, 58, 59, 60, 61, 62, 63, 64, 65, 66, 67, 68, 69, 70, 71]
@[push_cast] theorem W78_2_def : W78_2 = [4, 11, 12, 55, 56, 57, 58, 59, 60, 61, 62, 63, 64, 65, 66, 67, 68, 69, 70, 71] := mk_eq rfl
def r78_0 : List VOp :=
  [⟨some 2, .box 24 (.tmp 0), 0, none⟩,
   ⟨some 3, .box 42 (.tmp 1), 0, none⟩,
   ⟨some 4, .assign (.const (.bool false)), 4, none⟩]
def r78_1 : List VOp :=
  [⟨some 13, .buildSlice 22 0 #[], 22, none⟩,
   fad 14 42 3 4,
   lda 15 22 14,
   ⟨some 16, .call ⟨.builtin .append, #[.tmp 13, .tmp 15], #[22, 22]⟩, 22, none⟩,
   fad 17 42 3 5,
   lda 18 39 17,
   ⟨some 19, .call ⟨.value (.func 83), #[.tmp 18], #[39]⟩, 22, none⟩,
   ⟨some 20, .call ⟨.builtin .append, #[.tmp 16, .tmp 19], #[22, 22]⟩, 22, none⟩,
   asg 5 20 22]
def r78_2 : List VOp :=
  [⟨some 6, .assign (.const (.int .i64 0)), 3, none⟩]
def r78_3 : List VOp :=
  [mv 21 6 3,
   mv 22 5 22,
   ⟨some 23, .call ⟨.builtin .len, #[.tmp 22], #[22]⟩, 3, none⟩,
   ⟨some 24, .binOp .lss 3 (.tmp 21) (.tmp 23) 3, 4, none⟩]
def r78_5 : List VOp :=
  [fad 28 24 2 0,
   lda 29 22 28,
   mv 30 5 22,
   mv 31 6 3,
   iad 32 22 30 31,
   lda 33 9 32,
   ⟨some 34, .call ⟨.value (.func 43), #[.tmp 29, .tmp 33], #[22, 9]⟩, 94, none⟩,
   mv 27 34 94,
   ext 35 27 0 3,
   ext 36 27 1 4,
   asg 7 35 3,
   asg 8 36 4]
def r78_6 : List VOp :=
  [mv 37 8 4,
   ⟨some 38, .unOp .not 4 (.tmp 37), 4, none⟩]
def r78_7 : List VOp :=
  [⟨some 4, .assign (.const (.bool false)), 4, none⟩]
def r78_4 : List VOp :=
  [mv 25 6 3,
   ⟨some 26, .binOp .add 3 (.tmp 25) (.const (.int .i64 1)) 3, 3, none⟩,
   asg 6 26 3]
def r78_8 : List VOp :=
  [⟨some 9, .assign (.const (.int .i64 0)), 3, none⟩]
def r78_9 : List VOp :=
  [mv 39 9 3,
   fad 40 42 3 0,
   lda 41 35 40,
   ⟨some 42, .call ⟨.builtin .len, #[.tmp 41], #[35]⟩, 3, none⟩,
   ⟨some 43, .binOp .lss 3 (.tmp 39) (.tmp 42) 3, 4, none⟩]
def r78_11 : List VOp :=
  [lda 46 24 2,
   fad 47 42 3 0,
   lda 48 35 47,
   mv 49 9 3,
   iad 50 35 48 49,
   lda 51 63 50,
   ⟨some 52, .call ⟨.value (.func 124), #[.tmp 46, .tmp 51], #[24, 63]⟩, 4, none⟩,
   asg 10 52 4]
def r78_12 : List VOp :=
  [mv 53 10 4,
   ⟨some 54, .unOp .not 4 (.tmp 53), 4, none⟩]
def r78_13 : List VOp :=
  [⟨some 4, .assign (.const (.bool false)), 4, none⟩]
def r78_10 : List VOp :=
  [mv 44 9 3,
   ⟨some 45, .binOp .add 3 (.tmp 44) (.const (.int .i64 1)) 3, 3, none⟩,
   asg 9 45 3]
def r78_14 : List VOp :=
  [⟨some 11, .assign (.const (.int .i64 0)), 3, none⟩]
def r78_15 : List VOp :=
  [mv 55 11 3,
   fad 56 42 3 6,
   lda 57 40 56,
   ⟨some 58, .call ⟨.builtin .len, #[.tmp 57], #[40]⟩, 3, none⟩,
   ⟨some 59, .binOp .lss 3 (.tmp 55) (.tmp 58) 3, 4, none⟩]
def r78_17 : List VOp :=
  [lda 62 24 2,
   fad 63 42 3 6,
   lda 64 40 63,
   mv 65 11 3,
   iad 66 40 64 65,
   fad 67 146 66 0,
   lda 68 63 67,
   ⟨some 69, .call ⟨.value (.func 124), #[.tmp 62, .tmp 68], #[24, 63]⟩, 4, none⟩,
   asg 12 69 4]
def r78_18 : List VOp :=
  [mv 70 12 4,
   ⟨some 71, .unOp .not 4 (.tmp 70), 4, none⟩]
def r78_19 : List VOp :=
  [⟨some 4, .assign (.const (.bool false)), 4, none⟩]
def r78_16 : List VOp :=
  [mv 60 11 3,
   ⟨some 61, .binOp .add 3 (.tmp 60) (.const (.int .i64 1)) 3, 3, none⟩,
   asg 11 61 3]
def r78_20 : List VOp :=
  [⟨some 4, .assign (.const (.bool true)), 4, none⟩]
def B78 : VC :=
  (.seq (.region r78_0) (.seq (.draw r78_1 4) (.seq (.seq (.region r78_2) (.block 0 (.loop (.seq (.seq (.region r78_3) (.cond (.tmp 24) .skip (.exit 0))) (.seq (.block 1 (.seq (.draw r78_5 2) (.seq (.region r78_6) (.cond (.tmp 38) (.seq (.region r78_7) .ret) .skip)))) (.region r78_4)))))) (.seq (.seq (.region r78_8) (.block 2 (.loop (.seq (.seq (.region r78_9) (.cond (.tmp 43) .skip (.exit 2))) (.seq (.block 3 (.seq (.draw r78_11 3) (.seq (.region r78_12) (.cond (.tmp 54) (.seq (.region r78_13) .ret) .skip)))) (.region r78_10)))))) (.seq (.seq (.region r78_14) (.block 4 (.loop (.seq (.seq (.region r78_15) (.cond (.tmp 59) .skip (.exit 4))) (.seq (.block 5 (.seq (.draw r78_17 3) (.seq (.region r78_18) (.cond (.tmp 71) (.seq (.region r78_19) .ret) .skip)))) (.region r78_16)))))) (.seq (.region r78_20) .ret))))))
theorem code78 : ∃ c, Try.f78.body = some c ∧ abs Try.f78.ntmps c = B78 := ⟨_, rfl, by kernel_rfl⟩
theorem hb78 : HasBody Try.prog 78 := hasBody_of Try.func78 (by kernel_rfl)
theorem enter78 (x0 x1 : Value) : Ent 78 B78 #[(.tmp 4)] [x0, x1] := ent code78 hb78 Try.func78 rfl rfl
@[push_cast] def vr78_0 := vR r78_0.eq_1
@[push_cast] theorem vr78_1 : vc Try.prog (.draw r78_1 4) Q ds σ w = drawn Try.prog [(⟨some 13, .buildSlice 22 0 #[], 22, none⟩, []), (⟨some 14, .fieldAddr 42 (.tmp 3) 4, 0, none⟩, [3]), (⟨some 15, .load 22 (.tmp 14), 22, none⟩, [14]), (⟨some 16, .call ⟨.builtin .append, #[.tmp 13, .tmp 15], #[22, 22]⟩, 22, none⟩, [13, 15]), (⟨some 17, .fieldAddr 42 (.tmp 3) 5, 0, none⟩, [3]), (⟨some 18, .load 39 (.tmp 17), 39, none⟩, [17]), (⟨some 19, .call ⟨.value (.func 83), #[.tmp 18], #[39]⟩, 22, none⟩, [18]), (⟨some 20, .call ⟨.builtin .append, #[.tmp 16, .tmp 19], #[22, 22]⟩, 22, none⟩, [16, 19]), (⟨some 5, .assign (.tmp 20), 22, none⟩, [20])] 4 (Q .normal ds) σ w := mk_eq rfl
@[push_cast] def vr78_2 := vR r78_2.eq_1
@[push_cast] def vr78_3 := vR r78_3.eq_1
@[push_cast] theorem vr78_5 : vc Try.prog (.draw r78_5 2) Q ds σ w = drawn Try.prog [(⟨some 28, .fieldAddr 24 (.tmp 2) 0, 0, none⟩, [2]), (⟨some 29, .load 22 (.tmp 28), 22, none⟩, [28]), (⟨some 30, .move (.tmp 5), 22, none⟩, [5]), (⟨some 31, .move (.tmp 6), 3, none⟩, [6]), (⟨some 32, .indexAddr 22 (.tmp 30) (.tmp 31), 0, none⟩, [30, 31]), (⟨some 33, .load 9 (.tmp 32), 9, none⟩, [32]), (⟨some 34, .call ⟨.value (.func 43), #[.tmp 29, .tmp 33], #[22, 9]⟩, 94, none⟩, [29, 33]), (⟨some 27, .move (.tmp 34), 94, none⟩, [34]), (⟨some 35, .extract (.tmp 27) 0, 3, none⟩, [27]), (⟨some 36, .extract (.tmp 27) 1, 4, none⟩, [27]), (⟨some 7, .assign (.tmp 35), 3, none⟩, [35]), (⟨some 8, .assign (.tmp 36), 4, none⟩, [36])] 2 (Q .normal ds) σ w := mk_eq rfl
@[push_cast] def vr78_6 := vR r78_6.eq_1
@[push_cast] def vr78_7 := vR r78_7.eq_1
@[push_cast] def vr78_4 := vR r78_4.eq_1
@[push_cast] def vr78_8 := vR r78_8.eq_1
@[push_cast] def vr78_9 := vR r78_9.eq_1
@[push_cast] theorem vr78_11 : vc Try.prog (.draw r78_11 3) Q ds σ w = drawn Try.prog [(⟨some 46, .load 24 (.tmp 2), 24, none⟩, [2]), (⟨some 47, .fieldAddr 42 (.tmp 3) 0, 0, none⟩, [3]), (⟨some 48, .load 35 (.tmp 47), 35, none⟩, [47]), (⟨some 49, .move (.tmp 9), 3, none⟩, [9]), (⟨some 50, .indexAddr 35 (.tmp 48) (.tmp 49), 0, none⟩, [48, 49]), (⟨some 51, .load 63 (.tmp 50), 63, none⟩, [50]), (⟨some 52, .call ⟨.value (.func 124), #[.tmp 46, .tmp 51], #[24, 63]⟩, 4, none⟩, [46, 51]), (⟨some 10, .assign (.tmp 52), 4, none⟩, [52])] 3 (Q .normal ds) σ w := mk_eq rfl
@[push_cast] def vr78_12 := vR r78_12.eq_1
@[push_cast] def vr78_13 := vR r78_13.eq_1
@[push_cast] def vr78_10 := vR r78_10.eq_1
@[push_cast] def vr78_14 := vR r78_14.eq_1
@[push_cast] def vr78_15 := vR r78_15.eq_1
@[push_cast] theorem vr78_17 : vc Try.prog (.draw r78_17 3) Q ds σ w = drawn Try.prog [(⟨some 62, .load 24 (.tmp 2), 24, none⟩, [2]), (⟨some 63, .fieldAddr 42 (.tmp 3) 6, 0, none⟩, [3]), (⟨some 64, .load 40 (.tmp 63), 40, none⟩, [63]), (⟨some 65, .move (.tmp 11), 3, none⟩, [11]), (⟨some 66, .indexAddr 40 (.tmp 64) (.tmp 65), 0, none⟩, [64, 65]), (⟨some 67, .fieldAddr 146 (.tmp 66) 0, 0, none⟩, [66]), (⟨some 68, .load 63 (.tmp 67), 63, none⟩, [67]), (⟨some 69, .call ⟨.value (.func 124), #[.tmp 62, .tmp 68], #[24, 63]⟩, 4, none⟩, [62, 68]), (⟨some 12, .assign (.tmp 69), 4, none⟩, [69])] 3 (Q .normal ds) σ w := mk_eq rfl
@[push_cast] def vr78_18 := vR r78_18.eq_1
@[push_cast] def vr78_19 := vR r78_19.eq_1
@[push_cast] def vr78_16 := vR r78_16.eq_1
@[push_cast] def vr78_20 := vR r78_20.eq_1
/-! 79 columbary/columbaryref23.types (params #[42], results #[(.tmp 2)], 89 slots) -/
def W79_0 : List Nat := [2, 3, 4, 8, 9, 10, 11, 12, 13, 14, 15, 16, 17, 18, 19, 20, 21, 22, 23, 24, 25, 26, 27, 28, 29, 30]
@[push_cast] theorem W79_0_def : W79_0 = [2, 3, 4, 8, 9, 10, 11, 12, 13, 14, 15, 16, 17, 18, 19, 20, 21, 22, 23, 24, 25, 26, 27, 28, 29, 30] := mk_eq rfl
def W79_1 : List Nat := [2, 4, 15, 16, 17, 18, 19, 20, 21, 22, 23, 24, 25, 26, 27, 28, 29, 30]
@[push_cast] theorem W79_1_def : W79_1 = [2, 4, 15, 16, 17, 18, 19, 20, 21, 22, 23, 24, 25, 26, 27, 28, 29, 30] := mk_eq rfl
def r79_0 : List VOp :=
  [⟨some 1, .box 42 (.tmp 0), 0, none⟩,
   ⟨some 2, .assign (.const (.bool false)), 4, none⟩]
def r79_1 : List VOp :=
  [⟨some 3, .assign (.const (.int .i64 0)), 3, none⟩]
def r79_2 : List VOp :=
  [mv 8 3 3,
   fad 9 42 1 4,
   lda 10 22 9,
   ⟨some 11, .call ⟨.builtin .len, #[.tmp 10], #[22]⟩, 3, none⟩,
   ⟨some 12, .binOp .lss 3 (.tmp 8) (.tmp 11) 3, 4, none⟩]
def r79_4 : List VOp :=
  [⟨some 4, .assign (.const (.int .i64 0)), 3, none⟩]
def r79_5 : List VOp :=
  [mv 15 4 3,
   mv 16 3 3,
   ⟨some 17, .binOp .lss 3 (.tmp 15) (.tmp 16) 3, 4, none⟩]
def r79_7 : List VOp :=
  [fad 20 42 1 4,
   lda 21 22 20,
   mv 22 3 3,
   iad 23 22 21 22,
   lda 24 9 23,
   fad 25 42 1 4,
   lda 26 22 25,
   mv 27 4 3,
   iad 28 22 26 27,
   lda 29 9 28,
   ⟨some 30, .binOp .eql 9 (.tmp 24) (.tmp 29) 9, 4, none⟩]
def r79_8 : List VOp :=
  [⟨some 2, .assign (.const (.bool false)), 4, none⟩]
def r79_6 : List VOp :=
  [mv 18 4 3,
   ⟨some 19, .binOp .add 3 (.tmp 18) (.const (.int .i64 1)) 3, 3, none⟩,
   asg 4 19 3]
def r79_3 : List VOp :=
  [mv 13 3 3,
   ⟨some 14, .binOp .add 3 (.tmp 13) (.const (.int .i64 1)) 3, 3, none⟩,
   asg 3 14 3]
def r79_9 : List VOp :=
  [fad 31 42 1 5,
   lda 32 39 31,
   ⟨some 33, .call ⟨.value (.func 125), #[.tmp 32], #[39]⟩, 4, none⟩,
   asg 5 33 4]
def r79_10 : List VOp :=
  [fad 34 42 1 3,
   lda 35 3 34,
   ⟨some 36, .binOp .eql 3 (.tmp 35) (.const (.int .i64 0)) 3, 4, none⟩,
   mv 37 36 4,
   ⟨some 38, .fieldAddr 42 (.tmp 1) 3, 0, some (37, false)⟩,
   ⟨some 39, .load 3 (.tmp 38), 3, some (37, false)⟩,
   ⟨some 40, .call ⟨.value (.func 84), #[.tmp 39], #[3]⟩, 4, some (37, false)⟩,
   ⟨some 41, .pick (.tmp 37) (.const (.bool true)) (.tmp 40), 4, none⟩,
   asg 6 41 4]
def r79_11 : List VOp :=
  [fad 42 42 1 0,
   lda 43 35 42,
   ⟨some 44, .call ⟨.builtin .len, #[.tmp 43], #[35]⟩, 3, none⟩,
   asg 7 44 3]
def r79_12 : List VOp :=
  [mv 45 5 4,
   mv 46 45 4,
   ⟨some 47, .move (.tmp 6), 4, some (46, true)⟩,
   ⟨some 48, .pick (.tmp 46) (.tmp 47) (.const (.bool false)), 4, none⟩,
   mv 49 48 4,
   ⟨some 50, .fieldAddr 42 (.tmp 1) 1, 0, some (49, true)⟩,
   ⟨some 51, .load 3 (.tmp 50), 3, some (49, true)⟩,
   ⟨some 52, .binOp .geq 3 (.tmp 51) (.const (.int .i64 0)) 3, 4, some (49, true)⟩,
   ⟨some 53, .pick (.tmp 49) (.tmp 52) (.const (.bool false)), 4, none⟩,
   mv 54 53 4,
   ⟨some 55, .fieldAddr 42 (.tmp 1) 1, 0, some (54, true)⟩,
   ⟨some 56, .load 3 (.tmp 55), 3, some (54, true)⟩,
   ⟨some 57, .fieldAddr 42 (.tmp 1) 2, 0, some (54, true)⟩,
   ⟨some 58, .load 3 (.tmp 57), 3, some (54, true)⟩,
   ⟨some 59, .binOp .lss 3 (.tmp 56) (.tmp 58) 3, 4, some (54, true)⟩,
   ⟨some 60, .pick (.tmp 54) (.tmp 59) (.const (.bool false)), 4, none⟩,
   mv 61 60 4,
   ⟨some 62, .fieldAddr 42 (.tmp 1) 2, 0, some (61, true)⟩,
   ⟨some 63, .load 3 (.tmp 62), 3, some (61, true)⟩,
   ⟨some 64, .binOp .leq 3 (.tmp 63) (.const (.int .i64 1099511627776)) 3, 4, some (61, true)⟩,
   ⟨some 65, .pick (.tmp 61) (.tmp 64) (.const (.bool false)), 4, none⟩,
   mv 66 65 4,
   ⟨some 67, .fieldAddr 42 (.tmp 1) 7, 0, some (66, true)⟩,
   ⟨some 68, .load 3 (.tmp 67), 3, some (66, true)⟩,
   ⟨some 69, .move (.tmp 7), 3, some (66, true)⟩,
   ⟨some 70, .unOp .neg 3 (.tmp 69), 3, some (66, true)⟩,
   ⟨some 71, .binOp .geq 3 (.tmp 68) (.tmp 70) 3, 4, some (66, true)⟩,
   ⟨some 72, .pick (.tmp 66) (.tmp 71) (.const (.bool false)), 4, none⟩,
   mv 73 72 4,
   ⟨some 74, .fieldAddr 42 (.tmp 1) 7, 0, some (73, true)⟩,
   ⟨some 75, .load 3 (.tmp 74), 3, some (73, true)⟩,
   ⟨some 76, .move (.tmp 7), 3, some (73, true)⟩,
   ⟨some 77, .binOp .leq 3 (.tmp 75) (.tmp 76) 3, 4, some (73, true)⟩,
   ⟨some 78, .pick (.tmp 73) (.tmp 77) (.const (.bool false)), 4, none⟩,
   mv 79 78 4,
   ⟨some 80, .fieldAddr 42 (.tmp 1) 8, 0, some (79, true)⟩,
   ⟨some 81, .load 3 (.tmp 80), 3, some (79, true)⟩,
   ⟨some 82, .binOp .geq 3 (.tmp 81) (.const (.int .i64 0)) 3, 4, some (79, true)⟩,
   ⟨some 83, .pick (.tmp 79) (.tmp 82) (.const (.bool false)), 4, none⟩,
   mv 84 83 4,
   ⟨some 85, .fieldAddr 42 (.tmp 1) 8, 0, some (84, true)⟩,
   ⟨some 86, .load 3 (.tmp 85), 3, some (84, true)⟩,
   ⟨some 87, .binOp .leq 3 (.tmp 86) (.const (.int .i64 1000)) 3, 4, some (84, true)⟩,
   ⟨some 88, .pick (.tmp 84) (.tmp 87) (.const (.bool false)), 4, none⟩,
   asg 2 88 4]
def B79 : VC :=
  (.seq (.region r79_0) (.seq (.seq (.region r79_1) (.block 0 (.loop (.seq (.seq (.region r79_2) (.cond (.tmp 12) .skip (.exit 0))) (.seq (.block 1 (.seq (.region r79_4) (.block 2 (.loop (.seq (.seq (.region r79_5) (.cond (.tmp 17) .skip (.exit 2))) (.seq (.block 3 (.seq (.draw r79_7 2) (.cond (.tmp 30) (.seq (.region r79_8) .ret) .skip))) (.region r79_6))))))) (.region r79_3)))))) (.seq (.region r79_9) (.seq (.region r79_10) (.seq (.region r79_11) (.seq (.region r79_12) .ret))))))
theorem code79 : ∃ c, Try.f79.body = some c ∧ abs Try.f79.ntmps c = B79 := ⟨_, rfl, by kernel_rfl⟩
theorem hb79 : HasBody Try.prog 79 := hasBody_of Try.func79 (by kernel_rfl)
theorem enter79 (x0 : Value) : Ent 79 B79 #[(.tmp 2)] [x0] := ent code79 hb79 Try.func79 rfl rfl
@[push_cast] def vr79_0 := vR r79_0.eq_1
@[push_cast] def vr79_1 := vR r79_1.eq_1
@[push_cast] def vr79_2 := vR r79_2.eq_1
@[push_cast] def vr79_4 := vR r79_4.eq_1
@[push_cast] def vr79_5 := vR r79_5.eq_1
@[push_cast] theorem vr79_7 : vc Try.prog (.draw r79_7 2) Q ds σ w = drawn Try.prog [(⟨some 20, .fieldAddr 42 (.tmp 1) 4, 0, none⟩, [1]), (⟨some 21, .load 22 (.tmp 20), 22, none⟩, [20]), (⟨some 22, .move (.tmp 3), 3, none⟩, [3]), (⟨some 23, .indexAddr 22 (.tmp 21) (.tmp 22), 0, none⟩, [21, 22]), (⟨some 24, .load 9 (.tmp 23), 9, none⟩, [23]), (⟨some 25, .fieldAddr 42 (.tmp 1) 4, 0, none⟩, [1]), (⟨some 26, .load 22 (.tmp 25), 22, none⟩, [25]), (⟨some 27, .move (.tmp 4), 3, none⟩, [4]), (⟨some 28, .indexAddr 22 (.tmp 26) (.tmp 27), 0, none⟩, [26, 27]), (⟨some 29, .load 9 (.tmp 28), 9, none⟩, [28]), (⟨some 30, .binOp .eql 9 (.tmp 24) (.tmp 29) 9, 4, none⟩, [24, 29])] 2 (Q .normal ds) σ w := mk_eq rfl
@[push_cast] def vr79_8 := vR r79_8.eq_1
@[push_cast] def vr79_6 := vR r79_6.eq_1
@[push_cast] def vr79_3 := vR r79_3.eq_1
@[push_cast] def vr79_9 := vR r79_9.eq_1
@[push_cast] def vr79_10 := vR r79_10.eq_1
@[push_cast] def vr79_11 := vR r79_11.eq_1
@[push_cast] def vr79_12 := vR r79_12.eq_1
/-! 83 columbary/columbaryref23.dims (params #[39], results #[(.tmp 2)], 34 slots) -/
def W83_0 : List Nat := [3, 4, 18, 19, 20, 21, 22, 23, 24, 25, 26, 27, 28, 29, 30, 31, 32]
@[push_cast] theorem W83_0_def : W83_0 = [3, 4, 18, 19, 20, 21, 22, 23, 24, 25, 26, 27, 28, 29, 30, 31, 32] := mk_eq rfl
def r83_0 : List VOp :=
  [⟨some 1, .box 39 (.tmp 0), 0, none⟩,
   ⟨some 2, .assign (.const (.slice none 0 0)), 22, none⟩]
def r83_1 : List VOp :=
  [⟨some 3, .assign (.const (.slice none 0 0)), 22, none⟩]
def r83_2 : List VOp :=
  [fad 5 39 1 0,
   lda 6 36 5,
   ⟨some 7, .binOp .eql 36 (.tmp 6) (.const (.int .i64 1)) 36, 4, none⟩,
   mv 8 7 4,
   ⟨some 9, .fieldAddr 39 (.tmp 1) 0, 0, some (8, false)⟩,
   ⟨some 10, .load 36 (.tmp 9), 36, some (8, false)⟩,
   ⟨some 11, .binOp .eql 36 (.tmp 10) (.const (.int .i64 2)) 36, 4, some (8, false)⟩,
   ⟨some 12, .pick (.tmp 8) (.const (.bool true)) (.tmp 11), 4, none⟩]
def r83_3 : List VOp :=
  [mv 13 3 22,
   fad 14 39 1 1,
   lda 15 9 14,
   ⟨some 16, .buildSlice 22 1 #[(0, (.tmp 15))], 22, none⟩,
   ⟨some 17, .call ⟨.builtin .append, #[.tmp 13, .tmp 16], #[22, 22]⟩, 22, none⟩,
   asg 3 17 22]
def r83_4 : List VOp :=
  [⟨some 4, .assign (.const (.int .i64 0)), 3, none⟩]
def r83_5 : List VOp :=
  [mv 18 4 3,
   fad 19 39 1 3,
   lda 20 37 19,
   ⟨some 21, .call ⟨.builtin .len, #[.tmp 20], #[37]⟩, 3, none⟩,
   ⟨some 22, .binOp .lss 3 (.tmp 18) (.tmp 21) 3, 4, none⟩]
def r83_7 : List VOp :=
  [mv 25 3 22,
   fad 26 39 1 3,
   lda 27 37 26,
   mv 28 4 3,
   iad 29 37 27 28,
   lda 30 39 29,
   ⟨some 31, .call ⟨.value (.func 83), #[.tmp 30], #[39]⟩, 22, none⟩,
   ⟨some 32, .call ⟨.builtin .append, #[.tmp 25, .tmp 31], #[22, 22]⟩, 22, none⟩,
   asg 3 32 22]
def r83_6 : List VOp :=
  [mv 23 4 3,
   ⟨some 24, .binOp .add 3 (.tmp 23) (.const (.int .i64 1)) 3, 3, none⟩,
   asg 4 24 3]
def r83_8 : List VOp :=
  [mv 33 3 22,
   asg 2 33 22]
def B83 : VC :=
  (.seq (.region r83_0) (.seq (.region r83_1) (.seq (.seq (.region r83_2) (.cond (.tmp 12) (.region r83_3) .skip)) (.seq (.seq (.region r83_4) (.block 0 (.loop (.seq (.seq (.region r83_5) (.cond (.tmp 22) .skip (.exit 0))) (.seq (.block 1 (.region r83_7)) (.region r83_6)))))) (.seq (.region r83_8) .ret)))))
theorem code83 : ∃ c, Try.f83.body = some c ∧ abs Try.f83.ntmps c = B83 := ⟨_, rfl, by kernel_rfl⟩
theorem hb83 : HasBody Try.prog 83 := hasBody_of Try.func83 (by kernel_rfl)
theorem enter83 (x0 : Value) : Ent 83 B83 #[(.tmp 2)] [x0] := ent code83 hb83 Try.func83 rfl rfl
@[push_cast] def vr83_0 := vR r83_0.eq_1
@[push_cast] def vr83_1 := vR r83_1.eq_1
@[push_cast] def vr83_2 := vR r83_2.eq_1
@[push_cast] def vr83_3 := vR r83_3.eq_1
@[push_cast] def vr83_4 := vR r83_4.eq_1
@[push_cast] def vr83_5 := vR r83_5.eq_1
@[push_cast] def vr83_7 := vR r83_7.eq_1
@[push_cast] def vr83_6 := vR r83_6.eq_1
@[push_cast] def vr83_8 := vR r83_8.eq_1
/-! 84 columbary/columbaryref11.Right (params #[3], results #[(.tmp 2)], 9 slots) -/
def r84_0 : List VOp :=
  [⟨some 2, .assign (.const (.bool false)), 4, none⟩]
def r84_1 : List VOp :=
  [mv 3 0 3,
   ⟨some 4, .binOp .geq 3 (.tmp 3) (.const (.int .i64 1)) 3, 4, none⟩,
   mv 5 4 4,
   ⟨some 6, .move (.tmp 0), 3, some (5, true)⟩,
   ⟨some 7, .binOp .leq 3 (.tmp 6) (.const (.int .i64 1048576)) 3, 4, some (5, true)⟩,
   ⟨some 8, .pick (.tmp 5) (.tmp 7) (.const (.bool false)), 4, none⟩,
   asg 2 8 4]
def B84 : VC :=
  (.seq (.region r84_0) (.seq (.region r84_1) .ret))
theorem code84 : ∃ c, Try.f84.body = some c ∧ abs Try.f84.ntmps c = B84 := ⟨_, rfl, by kernel_rfl⟩
theorem hb84 : HasBody Try.prog 84 := hasBody_of Try.func84 (by kernel_rfl)
theorem enter84 (x0 : Value) : Ent 84 B84 #[(.tmp 2)] [x0] := ent code84 hb84 Try.func84 rfl rfl
@[push_cast] def vr84_0 := vR r84_0.eq_1
@[push_cast] def vr84_1 := vR r84_1.eq_1
/-! 86 cmp.isNaN[int] (params #[3], results #[(.tmp 2)], 6 slots) -/
def r86_0 : List VOp :=
  [⟨some 2, .assign (.const (.bool false)), 4, none⟩]
def r86_1 : List VOp :=
  [mv 3 0 3,
   mv 4 0 3,
   ⟨some 5, .binOp .neq 3 (.tmp 3) (.tmp 4) 3, 4, none⟩,
   asg 2 5 4]
def B86 : VC :=
  (.seq (.region r86_0) (.seq (.region r86_1) .ret))
theorem code86 : ∃ c, Try.f86.body = some c ∧ abs Try.f86.ntmps c = B86 := ⟨_, rfl, by kernel_rfl⟩
theorem hb86 : HasBody Try.prog 86 := hasBody_of Try.func86 (by kernel_rfl)
theorem enter86 (x0 : Value) : Ent 86 B86 #[(.tmp 2)] [x0] := ent code86 hb86 Try.func86 rfl rfl
@[push_cast] def vr86_0 := vR r86_0.eq_1
@[push_cast] def vr86_1 := vR r86_1.eq_1
/-! 87 columbary/columbaryref10.Name (params #[9], results #[(.tmp 2)], 71 slots) -/
def W87_0 : List Nat := [2, 4, 9, 10, 11, 12, 13, 14, 15, 16, 17, 18, 19, 20]
@[push_cast] theorem W87_0_def : W87_0 = [2, 4, 9, 10, 11, 12, 13, 14, 15, 16, 17, 18, 19, 20] := mk_eq rfl
def W87_1 : List Nat := [2, 5, 6, 7, 21, 22, 23, 24, 25, 26, 27, 28, 29, 30, 31, 32, 33, 34, 35, 36, 37, 38, 39, 40, 41, 42, 43, 44, 45, 46, 47, 48, 49, 50, 51, 52, 53, 54, 55, 56, 57, 58, 59, 60, 61, 62]
@[push_cast] theorem W87_1_def : W87_1 = [2, 5, 6, 7, 21, 22, 23, 24, 25, 26, 27, 28, 29, 30, 31, 32, 33, 34, 35, 36, 37, 38, 39, 40, 41, 42, 43, 44, 45, 46, 47, 48, 49, 50, 51, 52, 53, 54, 55, 56, 57, 58, 59, 60, 61, 62] := mk_eq rfl
def r87_0 : List VOp :=
  [⟨some 2, .assign (.const (.bool false)), 4, none⟩]
def r87_1 : List VOp :=
  [⟨some 8, .call ⟨.value (.func 126), #[], #[]⟩, 22, none⟩,
   asg 3 8 22]
def r87_2 : List VOp :=
  [⟨some 4, .assign (.const (.int .i64 0)), 3, none⟩]
def r87_3 : List VOp :=
  [mv 9 4 3,
   mv 10 3 22,
   ⟨some 11, .call ⟨.builtin .len, #[.tmp 10], #[22]⟩, 3, none⟩,
   ⟨some 12, .binOp .lss 3 (.tmp 9) (.tmp 11) 3, 4, none⟩]
def r87_5 : List VOp :=
  [mv 15 3 22,
   mv 16 4 3,
   iad 17 22 15 16,
   lda 18 9 17,
   mv 19 0 9,
   ⟨some 20, .binOp .eql 9 (.tmp 18) (.tmp 19) 9, 4, none⟩]
def r87_6 : List VOp :=
  [⟨some 2, .assign (.const (.bool false)), 4, none⟩]
def r87_4 : List VOp :=
  [mv 13 4 3,
   ⟨some 14, .binOp .add 3 (.tmp 13) (.const (.int .i64 1)) 3, 3, none⟩,
   asg 4 14 3]
def r87_7 : List VOp :=
  [⟨some 5, .assign (.const (.int .i64 0)), 3, none⟩]
def r87_8 : List VOp :=
  [mv 21 5 3,
   mv 22 0 9,
   ⟨some 23, .call ⟨.builtin .len, #[.tmp 22], #[9]⟩, 3, none⟩,
   ⟨some 24, .binOp .lss 3 (.tmp 21) (.tmp 23) 3, 4, none⟩]
def r87_10 : List VOp :=
  [mv 27 0 9,
   mv 28 5 3,
   ⟨some 29, .index 9 (.tmp 27) (.tmp 28), 5, none⟩,
   ⟨some 30, .binOp .geq 5 (.tmp 29) (.const (.int .u8 97)) 5, 4, none⟩,
   mv 31 30 4,
   ⟨some 32, .move (.tmp 0), 9, some (31, true)⟩,
   ⟨some 33, .move (.tmp 5), 3, some (31, true)⟩,
   ⟨some 34, .index 9 (.tmp 32) (.tmp 33), 5, some (31, true)⟩,
   ⟨some 35, .binOp .leq 5 (.tmp 34) (.const (.int .u8 122)) 5, 4, some (31, true)⟩,
   ⟨some 36, .pick (.tmp 31) (.tmp 35) (.const (.bool false)), 4, none⟩,
   asg 6 36 4]
def r87_11 : List VOp :=
  [mv 37 0 9,
   mv 38 5 3,
   ⟨some 39, .index 9 (.tmp 37) (.tmp 38), 5, none⟩,
   ⟨some 40, .binOp .geq 5 (.tmp 39) (.const (.int .u8 48)) 5, 4, none⟩,
   mv 41 40 4,
   ⟨some 42, .move (.tmp 0), 9, some (41, true)⟩,
   ⟨some 43, .move (.tmp 5), 3, some (41, true)⟩,
   ⟨some 44, .index 9 (.tmp 42) (.tmp 43), 5, some (41, true)⟩,
   ⟨some 45, .binOp .leq 5 (.tmp 44) (.const (.int .u8 57)) 5, 4, some (41, true)⟩,
   ⟨some 46, .pick (.tmp 41) (.tmp 45) (.const (.bool false)), 4, none⟩,
   mv 47 46 4,
   ⟨some 48, .move (.tmp 0), 9, some (47, false)⟩,
   ⟨some 49, .move (.tmp 5), 3, some (47, false)⟩,
   ⟨some 50, .index 9 (.tmp 48) (.tmp 49), 5, some (47, false)⟩,
   ⟨some 51, .binOp .eql 5 (.tmp 50) (.const (.int .u8 95)) 5, 4, some (47, false)⟩,
   ⟨some 52, .pick (.tmp 47) (.const (.bool true)) (.tmp 51), 4, none⟩,
   asg 7 52 4]
def r87_12 : List VOp :=
  [mv 53 6 4,
   ⟨some 54, .unOp .not 4 (.tmp 53), 4, none⟩,
   mv 55 54 4,
   ⟨some 56, .move (.tmp 7), 4, some (55, true)⟩,
   ⟨some 57, .unOp .not 4 (.tmp 56), 4, some (55, true)⟩,
   ⟨some 58, .move (.tmp 57), 4, some (55, true)⟩,
   ⟨some 59, .move (.tmp 5), 3, some (58, false)⟩,
   ⟨some 60, .binOp .eql 3 (.tmp 59) (.const (.int .i64 0)) 3, 4, some (58, false)⟩,
   ⟨some 61, .pick (.tmp 58) (.const (.bool true)) (.tmp 60), 4, some (55, true)⟩,
   ⟨some 62, .pick (.tmp 55) (.tmp 61) (.const (.bool false)), 4, none⟩]
def r87_13 : List VOp :=
  [⟨some 2, .assign (.const (.bool false)), 4, none⟩]
def r87_9 : List VOp :=
  [mv 25 5 3,
   ⟨some 26, .binOp .add 3 (.tmp 25) (.const (.int .i64 1)) 3, 3, none⟩,
   asg 5 26 3]
def r87_14 : List VOp :=
  [mv 63 0 9,
   ⟨some 64, .call ⟨.builtin .len, #[.tmp 63], #[9]⟩, 3, none⟩,
   ⟨some 65, .binOp .geq 3 (.tmp 64) (.const (.int .i64 1)) 3, 4, none⟩,
   mv 66 65 4,
   ⟨some 67, .move (.tmp 0), 9, some (66, true)⟩,
   ⟨some 68, .call ⟨.builtin .len, #[.tmp 67], #[9]⟩, 3, some (66, true)⟩,
   ⟨some 69, .binOp .leq 3 (.tmp 68) (.const (.int .i64 12)) 3, 4, some (66, true)⟩,
   ⟨some 70, .pick (.tmp 66) (.tmp 69) (.const (.bool false)), 4, none⟩,
   asg 2 70 4]
def B87 : VC :=
  (.seq (.region r87_0) (.seq (.region r87_1) (.seq (.seq (.region r87_2) (.block 0 (.loop (.seq (.seq (.region r87_3) (.cond (.tmp 12) .skip (.exit 0))) (.seq (.block 1 (.seq (.region r87_5) (.cond (.tmp 20) (.seq (.region r87_6) .ret) .skip))) (.region r87_4)))))) (.seq (.seq (.region r87_7) (.block 2 (.loop (.seq (.seq (.region r87_8) (.cond (.tmp 24) .skip (.exit 2))) (.seq (.block 3 (.seq (.region r87_10) (.seq (.region r87_11) (.seq (.region r87_12) (.cond (.tmp 62) (.seq (.region r87_13) .ret) .skip))))) (.region r87_9)))))) (.seq (.region r87_14) .ret)))))
theorem code87 : ∃ c, Try.f87.body = some c ∧ abs Try.f87.ntmps c = B87 := ⟨_, rfl, by kernel_rfl⟩
theorem hb87 : HasBody Try.prog 87 := hasBody_of Try.func87 (by kernel_rfl)
theorem enter87 (x0 : Value) : Ent 87 B87 #[(.tmp 2)] [x0] := ent code87 hb87 Try.func87 rfl rfl
@[push_cast] def vr87_0 := vR r87_0.eq_1
@[push_cast] def vr87_1 := vR r87_1.eq_1
@[push_cast] def vr87_2 := vR r87_2.eq_1
@[push_cast] def vr87_3 := vR r87_3.eq_1
@[push_cast] def vr87_5 := vR r87_5.eq_1
@[push_cast] def vr87_6 := vR r87_6.eq_1
@[push_cast] def vr87_4 := vR r87_4.eq_1
@[push_cast] def vr87_7 := vR r87_7.eq_1
@[push_cast] def vr87_8 := vR r87_8.eq_1
@[push_cast] def vr87_10 := vR r87_10.eq_1
@[push_cast] def vr87_11 := vR r87_11.eq_1
@[push_cast] def vr87_12 := vR r87_12.eq_1
@[push_cast] def vr87_13 := vR r87_13.eq_1
@[push_cast] def vr87_9 := vR r87_9.eq_1
@[push_cast] def vr87_14 := vR r87_14.eq_1
/-! 122 columbary/columbaryref23.term (params #[63], results #[(.tmp 2)], 20 slots) -/
def r122_0 : List VOp :=
  [⟨some 1, .box 63 (.tmp 0), 0, none⟩,
   ⟨some 2, .assign (.const (.bool false)), 4, none⟩]
def r122_1 : List VOp :=
  [fad 3 63 1 0,
   lda 4 61 3,
   ⟨some 5, .binOp .geq 61 (.tmp 4) (.const (.int .i64 0)) 61, 4, none⟩,
   mv 6 5 4,
   ⟨some 7, .fieldAddr 63 (.tmp 1) 0, 0, some (6, true)⟩,
   ⟨some 8, .load 61 (.tmp 7), 61, some (6, true)⟩,
   ⟨some 9, .binOp .leq 61 (.tmp 8) (.const (.int .i64 3)) 61, 4, some (6, true)⟩,
   ⟨some 10, .pick (.tmp 6) (.tmp 9) (.const (.bool false)), 4, none⟩,
   mv 11 10 4,
   ⟨some 12, .fieldAddr 63 (.tmp 1) 0, 0, some (11, true)⟩,
   ⟨some 13, .load 61 (.tmp 12), 61, some (11, true)⟩,
   ⟨some 14, .binOp .eql 61 (.tmp 13) (.const (.int .i64 0)) 61, 4, some (11, true)⟩,
   ⟨some 15, .fieldAddr 63 (.tmp 1) 1, 0, some (11, true)⟩,
   ⟨some 16, .load 9 (.tmp 15), 9, some (11, true)⟩,
   ⟨some 17, .binOp .eql 9 (.tmp 16) (.const (.string { data := #[] })) 9, 4, some (11, true)⟩,
   ⟨some 18, .binOp .eql 4 (.tmp 14) (.tmp 17) 4, 4, some (11, true)⟩,
   ⟨some 19, .pick (.tmp 11) (.tmp 18) (.const (.bool false)), 4, none⟩,
   asg 2 19 4]
def B122 : VC :=
  (.seq (.region r122_0) (.seq (.region r122_1) .ret))
theorem code122 : ∃ c, Try.f122.body = some c ∧ abs Try.f122.ntmps c = B122 := ⟨_, rfl, by kernel_rfl⟩
theorem hb122 : HasBody Try.prog 122 := hasBody_of Try.func122 (by kernel_rfl)
theorem enter122 (x0 : Value) : Ent 122 B122 #[(.tmp 2)] [x0] := ent code122 hb122 Try.func122 rfl rfl
@[push_cast] def vr122_0 := vR r122_0.eq_1
@[push_cast] def vr122_1 := vR r122_1.eq_1
/-! 123 columbary/columbaryref23.form (params #[39, 3], results #[(.tmp 4)], 72 slots) -/
def W123_0 : List Nat := [4, 6, 7, 13, 14, 15, 16, 17, 18, 19, 20, 21, 22, 23, 24, 25, 26, 27]
@[push_cast] theorem W123_0_def : W123_0 = [4, 6, 7, 13, 14, 15, 16, 17, 18, 19, 20, 21, 22, 23, 24, 25, 26, 27] := mk_eq rfl
def r123_0 : List VOp :=
  [⟨some 2, .box 39 (.tmp 0), 0, none⟩,
   ⟨some 4, .assign (.const (.bool false)), 4, none⟩]
def r123_1 : List VOp :=
  [fad 8 39 2 3,
   lda 9 37 8,
   ⟨some 10, .call ⟨.builtin .len, #[.tmp 9], #[37]⟩, 3, none⟩,
   asg 5 10 3]
def r123_2 : List VOp :=
  [mv 11 1 3,
   ⟨some 12, .binOp .eql 3 (.tmp 11) (.const (.int .i64 0)) 3, 4, none⟩]
def r123_3 : List VOp :=
  [⟨some 4, .assign (.const (.bool false)), 4, none⟩]
def r123_4 : List VOp :=
  [⟨some 6, .assign (.const (.int .i64 0)), 3, none⟩]
def r123_5 : List VOp :=
  [mv 13 6 3,
   mv 14 5 3,
   ⟨some 15, .binOp .lss 3 (.tmp 13) (.tmp 14) 3, 4, none⟩]
def r123_7 : List VOp :=
  [fad 18 39 2 3,
   lda 19 37 18,
   mv 20 6 3,
   iad 21 37 19 20,
   lda 22 39 21,
   mv 23 1 3,
   ⟨some 24, .binOp .sub 3 (.tmp 23) (.const (.int .i64 1)) 3, 3, none⟩,
   ⟨some 25, .call ⟨.value (.func 123), #[.tmp 22, .tmp 24], #[39, 3]⟩, 4, none⟩,
   asg 7 25 4]
def r123_8 : List VOp :=
  [mv 26 7 4,
   ⟨some 27, .unOp .not 4 (.tmp 26), 4, none⟩]
def r123_9 : List VOp :=
  [⟨some 4, .assign (.const (.bool false)), 4, none⟩]
def r123_6 : List VOp :=
  [mv 16 6 3,
   ⟨some 17, .binOp .add 3 (.tmp 16) (.const (.int .i64 1)) 3, 3, none⟩,
   asg 6 17 3]
def r123_10 : List VOp :=
  [fad 28 39 2 0,
   lda 29 36 28]
def r123_11 : List VOp :=
  [⟨some 31, .binOp .eql 36 (.tmp 29) (.const (.int .i64 1)) 36, 4, none⟩,
   asg 30 31 4]
def r123_12 : List VOp :=
  [mv 32 5 3,
   ⟨some 33, .binOp .eql 3 (.tmp 32) (.const (.int .i64 0)) 3, 4, none⟩,
   asg 4 33 4]
def r123_13 : List VOp :=
  [⟨some 35, .binOp .eql 36 (.tmp 29) (.const (.int .i64 2)) 36, 4, none⟩,
   asg 34 35 4]
def r123_14 : List VOp :=
  [mv 36 5 3,
   ⟨some 37, .binOp .eql 3 (.tmp 36) (.const (.int .i64 0)) 3, 4, none⟩,
   mv 38 37 4,
   ⟨some 39, .fieldAddr 39 (.tmp 2) 2, 0, some (38, true)⟩,
   ⟨some 40, .load 9 (.tmp 39), 9, some (38, true)⟩,
   ⟨some 41, .binOp .eql 9 (.tmp 40) (.const (.string { data := #[] })) 9, 4, some (38, true)⟩,
   ⟨some 42, .pick (.tmp 38) (.tmp 41) (.const (.bool false)), 4, none⟩,
   asg 4 42 4]
def r123_15 : List VOp :=
  [⟨some 44, .binOp .eql 36 (.tmp 29) (.const (.int .i64 3)) 36, 4, none⟩,
   asg 43 44 4]
def r123_16 : List VOp :=
  [mv 45 5 3,
   ⟨some 46, .binOp .eql 3 (.tmp 45) (.const (.int .i64 1)) 3, 4, none⟩,
   mv 47 46 4,
   ⟨some 48, .fieldAddr 39 (.tmp 2) 1, 0, some (47, true)⟩,
   ⟨some 49, .load 9 (.tmp 48), 9, some (47, true)⟩,
   ⟨some 50, .binOp .eql 9 (.tmp 49) (.const (.string { data := #[] })) 9, 4, some (47, true)⟩,
   ⟨some 51, .pick (.tmp 47) (.tmp 50) (.const (.bool false)), 4, none⟩,
   mv 52 51 4,
   ⟨some 53, .fieldAddr 39 (.tmp 2) 2, 0, some (52, true)⟩,
   ⟨some 54, .load 9 (.tmp 53), 9, some (52, true)⟩,
   ⟨some 55, .binOp .eql 9 (.tmp 54) (.const (.string { data := #[] })) 9, 4, some (52, true)⟩,
   ⟨some 56, .pick (.tmp 52) (.tmp 55) (.const (.bool false)), 4, none⟩,
   asg 4 56 4]
def r123_17 : List VOp :=
  [⟨some 58, .binOp .eql 36 (.tmp 29) (.const (.int .i64 4)) 36, 4, none⟩,
   asg 57 58 4]
def r123_18 : List VOp :=
  [⟨some 59, .binOp .eql 36 (.tmp 29) (.const (.int .i64 5)) 36, 4, none⟩,
   asg 57 59 4]
def r123_19 : List VOp :=
  [mv 60 5 3,
   ⟨some 61, .binOp .geq 3 (.tmp 60) (.const (.int .i64 2)) 3, 4, none⟩,
   mv 62 61 4,
   ⟨some 63, .fieldAddr 39 (.tmp 2) 1, 0, some (62, true)⟩,
   ⟨some 64, .load 9 (.tmp 63), 9, some (62, true)⟩,
   ⟨some 65, .binOp .eql 9 (.tmp 64) (.const (.string { data := #[] })) 9, 4, some (62, true)⟩,
   ⟨some 66, .pick (.tmp 62) (.tmp 65) (.const (.bool false)), 4, none⟩,
   mv 67 66 4,
   ⟨some 68, .fieldAddr 39 (.tmp 2) 2, 0, some (67, true)⟩,
   ⟨some 69, .load 9 (.tmp 68), 9, some (67, true)⟩,
   ⟨some 70, .binOp .eql 9 (.tmp 69) (.const (.string { data := #[] })) 9, 4, some (67, true)⟩,
   ⟨some 71, .pick (.tmp 67) (.tmp 70) (.const (.bool false)), 4, none⟩,
   asg 4 71 4]
def r123_20 : List VOp :=
  [⟨some 4, .assign (.const (.bool false)), 4, none⟩]
def B123 : VC :=
  (.seq (.region r123_0) (.seq (.region r123_1) (.seq (.seq (.region r123_2) (.cond (.tmp 12) (.seq (.region r123_3) .ret) .skip)) (.seq (.seq (.region r123_4) (.block 0 (.loop (.seq (.seq (.region r123_5) (.cond (.tmp 15) .skip (.exit 0))) (.seq (.block 1 (.seq (.region r123_7) (.seq (.region r123_8) (.cond (.tmp 27) (.seq (.region r123_9) .ret) .skip)))) (.region r123_6)))))) (.seq (.seq (.region r123_10) (.block 2 (.seq (.region r123_11) (.cond (.tmp 30) (.seq (.region r123_12) .ret) (.seq (.region r123_13) (.cond (.tmp 34) (.seq (.region r123_14) .ret) (.seq (.region r123_15) (.cond (.tmp 43) (.seq (.region r123_16) .ret) (.seq (.seq (.region r123_17) (.cond (.tmp 57) .skip (.region r123_18))) (.cond (.tmp 57) (.seq (.region r123_19) .ret) .skip)))))))))) (.seq (.region r123_20) .ret))))))
theorem code123 : ∃ c, Try.f123.body = some c ∧ abs Try.f123.ntmps c = B123 := ⟨_, rfl, by kernel_rfl⟩
theorem hb123 : HasBody Try.prog 123 := hasBody_of Try.func123 (by kernel_rfl)
theorem enter123 (x0 x1 : Value) : Ent 123 B123 #[(.tmp 4)] [x0, x1] := ent code123 hb123 Try.func123 rfl rfl
@[push_cast] def vr123_0 := vR r123_0.eq_1
@[push_cast] def vr123_1 := vR r123_1.eq_1
@[push_cast] def vr123_2 := vR r123_2.eq_1
@[push_cast] def vr123_3 := vR r123_3.eq_1
@[push_cast] def vr123_4 := vR r123_4.eq_1
@[push_cast] def vr123_5 := vR r123_5.eq_1
@[push_cast] def vr123_7 := vR r123_7.eq_1
@[push_cast] def vr123_8 := vR r123_8.eq_1
@[push_cast] def vr123_9 := vR r123_9.eq_1
@[push_cast] def vr123_6 := vR r123_6.eq_1
@[push_cast] def vr123_10 := vR r123_10.eq_1
@[push_cast] def vr123_11 := vR r123_11.eq_1
@[push_cast] def vr123_12 := vR r123_12.eq_1
@[push_cast] def vr123_13 := vR r123_13.eq_1
@[push_cast] def vr123_14 := vR r123_14.eq_1
@[push_cast] def vr123_15 := vR r123_15.eq_1
@[push_cast] def vr123_16 := vR r123_16.eq_1
@[push_cast] def vr123_17 := vR r123_17.eq_1
@[push_cast] def vr123_18 := vR r123_18.eq_1
@[push_cast] def vr123_19 := vR r123_19.eq_1
@[push_cast] def vr123_20 := vR r123_20.eq_1
/-! 124 columbary/columbaryref23.metric (params #[24, 63], results #[(.tmp 4)], 21 slots) -/
def r124_0 : List VOp :=
  [⟨some 2, .box 24 (.tmp 0), 0, none⟩,
   ⟨some 3, .box 63 (.tmp 1), 0, none⟩,
   ⟨some 4, .assign (.const (.bool false)), 4, none⟩]
def r124_1 : List VOp :=
  [fad 8 24 2 1,
   lda 9 22 8,
   fad 10 63 3 1,
   lda 11 9 10,
   ⟨some 12, .call ⟨.value (.func 43), #[.tmp 9, .tmp 11], #[22, 9]⟩, 94, none⟩,
   mv 7 12 94,
   ext 13 7 0 3,
   ext 14 7 1 4,
   asg 5 13 3,
   asg 6 14 4]
def r124_2 : List VOp :=
  [fad 15 63 3 0,
   lda 16 61 15,
   ⟨some 17, .binOp .eql 61 (.tmp 16) (.const (.int .i64 0)) 61, 4, none⟩,
   mv 18 17 4,
   ⟨some 19, .move (.tmp 6), 4, some (18, false)⟩,
   ⟨some 20, .pick (.tmp 18) (.const (.bool true)) (.tmp 19), 4, none⟩,
   asg 4 20 4]
def B124 : VC :=
  (.seq (.region r124_0) (.seq (.region r124_1) (.seq (.region r124_2) .ret)))
theorem code124 : ∃ c, Try.f124.body = some c ∧ abs Try.f124.ntmps c = B124 := ⟨_, rfl, by kernel_rfl⟩
theorem hb124 : HasBody Try.prog 124 := hasBody_of Try.func124 (by kernel_rfl)
theorem enter124 (x0 x1 : Value) : Ent 124 B124 #[(.tmp 4)] [x0, x1] := ent code124 hb124 Try.func124 rfl rfl
@[push_cast] def vr124_0 := vR r124_0.eq_1
@[push_cast] def vr124_1 := vR r124_1.eq_1
@[push_cast] def vr124_2 := vR r124_2.eq_1
/-! 125 columbary/columbaryref23.values (params #[39], results #[(.tmp 2)], 27 slots) -/
def W125_0 : List Nat := [3, 4, 5, 9, 10, 11, 12, 13, 14, 15, 16, 17, 18, 19, 20, 21, 22, 23, 24, 25]
@[push_cast] theorem W125_0_def : W125_0 = [3, 4, 5, 9, 10, 11, 12, 13, 14, 15, 16, 17, 18, 19, 20, 21, 22, 23, 24, 25] := mk_eq rfl
def r125_0 : List VOp :=
  [⟨some 1, .box 39 (.tmp 0), 0, none⟩,
   ⟨some 2, .assign (.const (.bool false)), 4, none⟩]
def r125_1 : List VOp :=
  [fad 6 39 1 2,
   lda 7 9 6,
   ⟨some 8, .call ⟨.value (.func 127), #[.tmp 7], #[9]⟩, 4, none⟩,
   asg 3 8 4]
def r125_2 : List VOp :=
  [⟨some 4, .assign (.const (.int .i64 0)), 3, none⟩]
def r125_3 : List VOp :=
  [mv 9 4 3,
   fad 10 39 1 3,
   lda 11 37 10,
   ⟨some 12, .call ⟨.builtin .len, #[.tmp 11], #[37]⟩, 3, none⟩,
   ⟨some 13, .binOp .lss 3 (.tmp 9) (.tmp 12) 3, 4, none⟩]
def r125_5 : List VOp :=
  [fad 16 39 1 3,
   lda 17 37 16,
   mv 18 4 3,
   iad 19 37 17 18,
   lda 20 39 19,
   ⟨some 21, .call ⟨.value (.func 125), #[.tmp 20], #[39]⟩, 4, none⟩,
   asg 5 21 4]
def r125_6 : List VOp :=
  [mv 22 3 4,
   mv 23 22 4,
   ⟨some 24, .move (.tmp 5), 4, some (23, true)⟩,
   ⟨some 25, .pick (.tmp 23) (.tmp 24) (.const (.bool false)), 4, none⟩,
   asg 3 25 4]
def r125_4 : List VOp :=
  [mv 14 4 3,
   ⟨some 15, .binOp .add 3 (.tmp 14) (.const (.int .i64 1)) 3, 3, none⟩,
   asg 4 15 3]
def r125_7 : List VOp :=
  [mv 26 3 4,
   asg 2 26 4]
def B125 : VC :=
  (.seq (.region r125_0) (.seq (.region r125_1) (.seq (.seq (.region r125_2) (.block 0 (.loop (.seq (.seq (.region r125_3) (.cond (.tmp 13) .skip (.exit 0))) (.seq (.block 1 (.seq (.region r125_5) (.region r125_6))) (.region r125_4)))))) (.seq (.region r125_7) .ret))))
theorem code125 : ∃ c, Try.f125.body = some c ∧ abs Try.f125.ntmps c = B125 := ⟨_, rfl, by kernel_rfl⟩
theorem hb125 : HasBody Try.prog 125 := hasBody_of Try.func125 (by kernel_rfl)
theorem enter125 (x0 : Value) : Ent 125 B125 #[(.tmp 2)] [x0] := ent code125 hb125 Try.func125 rfl rfl
@[push_cast] def vr125_0 := vR r125_0.eq_1
@[push_cast] def vr125_1 := vR r125_1.eq_1
@[push_cast] def vr125_2 := vR r125_2.eq_1
@[push_cast] def vr125_3 := vR r125_3.eq_1
@[push_cast] def vr125_5 := vR r125_5.eq_1
@[push_cast] def vr125_6 := vR r125_6.eq_1
@[push_cast] def vr125_4 := vR r125_4.eq_1
@[push_cast] def vr125_7 := vR r125_7.eq_1
/-! 126 columbary/columbaryref10.words (params #[], results #[(.tmp 0)], 2 slots) -/
def r126_0 : List VOp :=
  [⟨some 0, .assign (.const (.slice none 0 0)), 22, none⟩]
def r126_1 : List VOp :=
  [⟨some 1, .buildSlice 22 20 #[(0, (.const (.string { data := #[99, 111, 117, 110, 116] }))), (1, (.const (.string { data := #[115, 117, 109] }))), (2, (.const (.string { data := #[109, 105, 110] }))), (3, (.const (.string { data := #[109, 97, 120] }))), (4, (.const (.string { data := #[102, 114, 111, 109] }))), (5, (.const (.string { data := #[116, 111] }))), (6, (.const (.string { data := #[98, 121] }))), (7, (.const (.string { data := #[101, 118, 101, 114, 121] }))), (8, (.const (.string { data := #[119, 104, 101, 114, 101] }))), (9, (.const (.string { data := #[104, 97, 118, 105, 110, 103] }))), (10, (.const (.string { data := #[111, 114, 100, 101, 114] }))), (11, (.const (.string { data := #[108, 105, 109, 105, 116] }))), (12, (.const (.string { data := #[97, 110, 100] }))), (13, (.const (.string { data := #[111, 114] }))), (14, (.const (.string { data := #[110, 111, 116] }))), (15, (.const (.string { data := #[105, 115] }))), (16, (.const (.string { data := #[110, 117, 108, 108] }))), (17, (.const (.string { data := #[97, 115, 99] }))), (18, (.const (.string { data := #[100, 101, 115, 99] }))), (19, (.const (.string { data := #[115, 101, 108, 101, 99, 116] })))], 22, none⟩,
   asg 0 1 22]
def B126 : VC :=
  (.seq (.region r126_0) (.seq (.region r126_1) .ret))
theorem code126 : ∃ c, Try.f126.body = some c ∧ abs Try.f126.ntmps c = B126 := ⟨_, rfl, by kernel_rfl⟩
theorem hb126 : HasBody Try.prog 126 := hasBody_of Try.func126 (by kernel_rfl)
theorem enter126 : Ent 126 B126 #[(.tmp 0)] [] := ent code126 hb126 Try.func126 rfl rfl
@[push_cast] def vr126_0 := vR r126_0.eq_1
@[push_cast] def vr126_1 := vR r126_1.eq_1
/-! 127 columbary/columbaryref10.Value (params #[9], results #[(.tmp 2)], 35 slots) -/
def W127_0 : List Nat := [2, 3, 4, 5, 6, 7, 8, 9, 10, 11, 12, 13, 14, 15, 16, 17, 18, 19, 20, 21, 22, 23, 24, 25, 26, 27, 28, 29, 30, 31]
@[push_cast] theorem W127_0_def : W127_0 = [2, 3, 4, 5, 6, 7, 8, 9, 10, 11, 12, 13, 14, 15, 16, 17, 18, 19, 20, 21, 22, 23, 24, 25, 26, 27, 28, 29, 30, 31] := mk_eq rfl
def r127_0 : List VOp :=
  [⟨some 2, .assign (.const (.bool false)), 4, none⟩]
def r127_1 : List VOp :=
  [⟨some 3, .assign (.const (.int .i64 0)), 3, none⟩]
def r127_2 : List VOp :=
  [mv 4 3 3,
   mv 5 0 9,
   ⟨some 6, .call ⟨.builtin .len, #[.tmp 5], #[9]⟩, 3, none⟩,
   ⟨some 7, .binOp .lss 3 (.tmp 4) (.tmp 6) 3, 4, none⟩]
def r127_4 : List VOp :=
  [mv 10 0 9,
   mv 11 3 3,
   ⟨some 12, .index 9 (.tmp 10) (.tmp 11), 5, none⟩,
   ⟨some 13, .binOp .lss 5 (.tmp 12) (.const (.int .u8 32)) 5, 4, none⟩,
   mv 14 13 4,
   ⟨some 15, .move (.tmp 0), 9, some (14, false)⟩,
   ⟨some 16, .move (.tmp 3), 3, some (14, false)⟩,
   ⟨some 17, .index 9 (.tmp 15) (.tmp 16), 5, some (14, false)⟩,
   ⟨some 18, .binOp .gtr 5 (.tmp 17) (.const (.int .u8 126)) 5, 4, some (14, false)⟩,
   ⟨some 19, .pick (.tmp 14) (.const (.bool true)) (.tmp 18), 4, none⟩,
   mv 20 19 4,
   ⟨some 21, .move (.tmp 0), 9, some (20, false)⟩,
   ⟨some 22, .move (.tmp 3), 3, some (20, false)⟩,
   ⟨some 23, .index 9 (.tmp 21) (.tmp 22), 5, some (20, false)⟩,
   ⟨some 24, .binOp .eql 5 (.tmp 23) (.const (.int .u8 34)) 5, 4, some (20, false)⟩,
   ⟨some 25, .pick (.tmp 20) (.const (.bool true)) (.tmp 24), 4, none⟩,
   mv 26 25 4,
   ⟨some 27, .move (.tmp 0), 9, some (26, false)⟩,
   ⟨some 28, .move (.tmp 3), 3, some (26, false)⟩,
   ⟨some 29, .index 9 (.tmp 27) (.tmp 28), 5, some (26, false)⟩,
   ⟨some 30, .binOp .eql 5 (.tmp 29) (.const (.int .u8 92)) 5, 4, some (26, false)⟩,
   ⟨some 31, .pick (.tmp 26) (.const (.bool true)) (.tmp 30), 4, none⟩]
def r127_5 : List VOp :=
  [⟨some 2, .assign (.const (.bool false)), 4, none⟩]
def r127_3 : List VOp :=
  [mv 8 3 3,
   ⟨some 9, .binOp .add 3 (.tmp 8) (.const (.int .i64 1)) 3, 3, none⟩,
   asg 3 9 3]
def r127_6 : List VOp :=
  [mv 32 0 9,
   ⟨some 33, .call ⟨.builtin .len, #[.tmp 32], #[9]⟩, 3, none⟩,
   ⟨some 34, .binOp .leq 3 (.tmp 33) (.const (.int .i64 24)) 3, 4, none⟩,
   asg 2 34 4]
def B127 : VC :=
  (.seq (.region r127_0) (.seq (.seq (.region r127_1) (.block 0 (.loop (.seq (.seq (.region r127_2) (.cond (.tmp 7) .skip (.exit 0))) (.seq (.block 1 (.seq (.region r127_4) (.cond (.tmp 31) (.seq (.region r127_5) .ret) .skip))) (.region r127_3)))))) (.seq (.region r127_6) .ret)))
theorem code127 : ∃ c, Try.f127.body = some c ∧ abs Try.f127.ntmps c = B127 := ⟨_, rfl, by kernel_rfl⟩
theorem hb127 : HasBody Try.prog 127 := hasBody_of Try.func127 (by kernel_rfl)
theorem enter127 (x0 : Value) : Ent 127 B127 #[(.tmp 2)] [x0] := ent code127 hb127 Try.func127 rfl rfl
@[push_cast] def vr127_0 := vR r127_0.eq_1
@[push_cast] def vr127_1 := vR r127_1.eq_1
@[push_cast] def vr127_2 := vR r127_2.eq_1
@[push_cast] def vr127_4 := vR r127_4.eq_1
@[push_cast] def vr127_5 := vR r127_5.eq_1
@[push_cast] def vr127_3 := vR r127_3.eq_1
@[push_cast] def vr127_6 := vR r127_6.eq_1
/-! 135 slices.Compare[[]string,string] (params #[22, 22], results #[(.tmp 4)], 36 slots) -/
def W135_0 : List Nat := [4, 5, 6, 7, 8, 11, 12, 13, 14, 15, 16, 17, 18, 19, 20, 21, 22, 23, 24, 25, 26, 27, 28, 29, 30]
@[push_cast] theorem W135_0_def : W135_0 = [4, 5, 6, 7, 8, 11, 12, 13, 14, 15, 16, 17, 18, 19, 20, 21, 22, 23, 24, 25, 26, 27, 28, 29, 30] := mk_eq rfl
def r135_0 : List VOp :=
  [⟨some 4, .assign (.const (.int .i64 0)), 3, none⟩]
def r135_1 : List VOp :=
  [mv 9 0 22,
   ⟨some 10, .call ⟨.builtin .len, #[.tmp 9], #[22]⟩, 3, none⟩,
   ⟨some 11, .move (.const (.int .i64 0)), 3, none⟩]
def r135_2 : List VOp :=
  [⟨some 12, .binOp .lss 3 (.tmp 11) (.tmp 10) 3, 0, none⟩]
def r135_3 : List VOp :=
  [mv 13 11 3,
   iad 14 22 9 11,
   lda 15 9 14,
   asg 5 13 3,
   asg 6 15 9]
def r135_4 : List VOp :=
  [mv 16 5 3,
   mv 17 1 22,
   ⟨some 18, .call ⟨.builtin .len, #[.tmp 17], #[22]⟩, 3, none⟩,
   ⟨some 19, .binOp .geq 3 (.tmp 16) (.tmp 18) 3, 4, none⟩]
def r135_5 : List VOp :=
  [⟨some 4, .assign (.const (.int .i64 1)), 3, none⟩]
def r135_6 : List VOp :=
  [mv 20 1 22,
   mv 21 5 3,
   iad 22 22 20 21,
   lda 23 9 22,
   asg 7 23 9]
def r135_7 : List VOp :=
  [mv 24 6 9,
   mv 25 7 9,
   ⟨some 26, .call ⟨.value (.func 158), #[.tmp 24, .tmp 25], #[9, 9]⟩, 3, none⟩,
   asg 8 26 3]
def r135_8 : List VOp :=
  [mv 27 8 3,
   ⟨some 28, .binOp .neq 3 (.tmp 27) (.const (.int .i64 0)) 3, 4, none⟩]
def r135_9 : List VOp :=
  [mv 29 8 3,
   asg 4 29 3]
def r135_10 : List VOp :=
  [⟨some 30, .binOp .add 3 (.tmp 11) (.const (.int .i64 1)) 3, 3, none⟩,
   mv 11 30 3]
def r135_11 : List VOp :=
  [mv 31 0 22,
   ⟨some 32, .call ⟨.builtin .len, #[.tmp 31], #[22]⟩, 3, none⟩,
   mv 33 1 22,
   ⟨some 34, .call ⟨.builtin .len, #[.tmp 33], #[22]⟩, 3, none⟩,
   ⟨some 35, .binOp .lss 3 (.tmp 32) (.tmp 34) 3, 4, none⟩]
def r135_12 : List VOp :=
  [⟨some 4, .assign (.const (.int .i64 (-1))), 3, none⟩]
def r135_13 : List VOp :=
  [⟨some 4, .assign (.const (.int .i64 0)), 3, none⟩]
def B135 : VC :=
  (.seq (.region r135_0) (.seq (.seq (.region r135_1) (.block 0 (.loop (.seq (.region r135_2) (.seq (.cond (.tmp 12) .skip (.exit 0)) (.seq (.block 1 (.seq (.region r135_3) (.seq (.seq (.region r135_4) (.cond (.tmp 19) (.seq (.region r135_5) .ret) .skip)) (.seq (.region r135_6) (.seq (.region r135_7) (.seq (.region r135_8) (.cond (.tmp 28) (.seq (.region r135_9) .ret) .skip))))))) (.region r135_10))))))) (.seq (.seq (.region r135_11) (.cond (.tmp 35) (.seq (.region r135_12) .ret) .skip)) (.seq (.region r135_13) .ret))))
theorem code135 : ∃ c, Try.f135.body = some c ∧ abs Try.f135.ntmps c = B135 := ⟨_, rfl, by kernel_rfl⟩
theorem hb135 : HasBody Try.prog 135 := hasBody_of Try.func135 (by kernel_rfl)
theorem enter135 (x0 x1 : Value) : Ent 135 B135 #[(.tmp 4)] [x0, x1] := ent code135 hb135 Try.func135 rfl rfl
@[push_cast] def vr135_0 := vR r135_0.eq_1
@[push_cast] def vr135_1 := vR r135_1.eq_1
@[push_cast] def vr135_2 := vR r135_2.eq_1
@[push_cast] def vr135_3 := vR r135_3.eq_1
@[push_cast] def vr135_4 := vR r135_4.eq_1
@[push_cast] def vr135_5 := vR r135_5.eq_1
@[push_cast] def vr135_6 := vR r135_6.eq_1
@[push_cast] def vr135_7 := vR r135_7.eq_1
@[push_cast] def vr135_8 := vR r135_8.eq_1
@[push_cast] def vr135_9 := vR r135_9.eq_1
@[push_cast] def vr135_10 := vR r135_10.eq_1
@[push_cast] def vr135_11 := vR r135_11.eq_1
@[push_cast] def vr135_12 := vR r135_12.eq_1
@[push_cast] def vr135_13 := vR r135_13.eq_1
/-! 158 cmp.Compare[string] (params #[9, 9], results #[(.tmp 4)], 20 slots) -/
def r158_0 : List VOp :=
  [⟨some 4, .assign (.const (.int .i64 0)), 3, none⟩]
def r158_1 : List VOp :=
  [mv 7 0 9,
   ⟨some 8, .call ⟨.value (.func 167), #[.tmp 7], #[9]⟩, 4, none⟩,
   asg 5 8 4]
def r158_2 : List VOp :=
  [mv 9 1 9,
   ⟨some 10, .call ⟨.value (.func 167), #[.tmp 9], #[9]⟩, 4, none⟩,
   asg 6 10 4]
def r158_3 : List VOp :=
  [mv 11 5 4]
def r158_4 : List VOp :=
  [mv 12 6 4]
def r158_5 : List VOp :=
  [⟨some 4, .assign (.const (.int .i64 0)), 3, none⟩]
def r158_6 : List VOp :=
  [⟨some 4, .assign (.const (.int .i64 (-1))), 3, none⟩]
def r158_7 : List VOp :=
  [mv 13 6 4]
def r158_8 : List VOp :=
  [⟨some 4, .assign (.const (.int .i64 1)), 3, none⟩]
def r158_9 : List VOp :=
  [mv 14 0 9,
   mv 15 1 9,
   ⟨some 16, .binOp .lss 9 (.tmp 14) (.tmp 15) 9, 4, none⟩]
def r158_10 : List VOp :=
  [⟨some 4, .assign (.const (.int .i64 (-1))), 3, none⟩]
def r158_11 : List VOp :=
  [mv 17 0 9,
   mv 18 1 9,
   ⟨some 19, .binOp .gtr 9 (.tmp 17) (.tmp 18) 9, 4, none⟩]
def r158_12 : List VOp :=
  [⟨some 4, .assign (.const (.int .i64 1)), 3, none⟩]
def r158_13 : List VOp :=
  [⟨some 4, .assign (.const (.int .i64 0)), 3, none⟩]
def B158 : VC :=
  (.seq (.region r158_0) (.seq (.region r158_1) (.seq (.region r158_2) (.seq (.seq (.region r158_3) (.cond (.tmp 11) (.seq (.seq (.region r158_4) (.cond (.tmp 12) (.seq (.region r158_5) .ret) .skip)) (.seq (.region r158_6) .ret)) .skip)) (.seq (.seq (.region r158_7) (.cond (.tmp 13) (.seq (.region r158_8) .ret) .skip)) (.seq (.seq (.region r158_9) (.cond (.tmp 16) (.seq (.region r158_10) .ret) .skip)) (.seq (.seq (.region r158_11) (.cond (.tmp 19) (.seq (.region r158_12) .ret) .skip)) (.seq (.region r158_13) .ret))))))))
theorem code158 : ∃ c, Try.f158.body = some c ∧ abs Try.f158.ntmps c = B158 := ⟨_, rfl, by kernel_rfl⟩
theorem hb158 : HasBody Try.prog 158 := hasBody_of Try.func158 (by kernel_rfl)
theorem enter158 (x0 x1 : Value) : Ent 158 B158 #[(.tmp 4)] [x0, x1] := ent code158 hb158 Try.func158 rfl rfl
@[push_cast] def vr158_0 := vR r158_0.eq_1
@[push_cast] def vr158_1 := vR r158_1.eq_1
@[push_cast] def vr158_2 := vR r158_2.eq_1
@[push_cast] def vr158_3 := vR r158_3.eq_1
@[push_cast] def vr158_4 := vR r158_4.eq_1
@[push_cast] def vr158_5 := vR r158_5.eq_1
@[push_cast] def vr158_6 := vR r158_6.eq_1
@[push_cast] def vr158_7 := vR r158_7.eq_1
@[push_cast] def vr158_8 := vR r158_8.eq_1
@[push_cast] def vr158_9 := vR r158_9.eq_1
@[push_cast] def vr158_10 := vR r158_10.eq_1
@[push_cast] def vr158_11 := vR r158_11.eq_1
@[push_cast] def vr158_12 := vR r158_12.eq_1
@[push_cast] def vr158_13 := vR r158_13.eq_1
/-! 167 cmp.isNaN[string] (params #[9], results #[(.tmp 2)], 6 slots) -/
def r167_0 : List VOp :=
  [⟨some 2, .assign (.const (.bool false)), 4, none⟩]
def r167_1 : List VOp :=
  [mv 3 0 9,
   mv 4 0 9,
   ⟨some 5, .binOp .neq 9 (.tmp 3) (.tmp 4) 9, 4, none⟩,
   asg 2 5 4]
def B167 : VC :=
  (.seq (.region r167_0) (.seq (.region r167_1) .ret))
theorem code167 : ∃ c, Try.f167.body = some c ∧ abs Try.f167.ntmps c = B167 := ⟨_, rfl, by kernel_rfl⟩
theorem hb167 : HasBody Try.prog 167 := hasBody_of Try.func167 (by kernel_rfl)
theorem enter167 (x0 : Value) : Ent 167 B167 #[(.tmp 2)] [x0] := ent code167 hb167 Try.func167 rfl rfl
@[push_cast] def vr167_0 := vR r167_0.eq_1
@[push_cast] def vr167_1 := vR r167_1.eq_1
@[push_cast] theorem bsl22_0_Codes7B {K : Value → World → Prop} {w : World}  : vBuildSlice Try.prog 22 0 #[] K w = K (.slice (some ⟨w.heap.size, 0, none⟩) 0 0) (w.alloc (.cells #[] 9)) :=
  vBuildSlice_ok Try.underlying22 ti9 (by kernel_rfl) (by decide)
@[push_cast] theorem bsl22_1_Codes7B {K : Value → World → Prop} {w : World} (x0 : ByteArray) : vBuildSlice Try.prog 22 1 #[(0, (.string x0))] K w = K (.slice (some ⟨w.heap.size, 0, none⟩) 1 1) (w.alloc (.cells #[(.string x0)] 9)) :=
  vBuildSlice_ok Try.underlying22 ti9 (by kernel_rfl) (by decide)
@[push_cast] theorem bsl22_20_Codes7B {K : Value → World → Prop} {w : World} (x0 : ByteArray) (x1 : ByteArray) (x2 : ByteArray) (x3 : ByteArray) (x4 : ByteArray) (x5 : ByteArray) (x6 : ByteArray) (x7 : ByteArray) (x8 : ByteArray) (x9 : ByteArray) (x10 : ByteArray) (x11 : ByteArray) (x12 : ByteArray) (x13 : ByteArray) (x14 : ByteArray) (x15 : ByteArray) (x16 : ByteArray) (x17 : ByteArray) (x18 : ByteArray) (x19 : ByteArray) : vBuildSlice Try.prog 22 20 #[(0, (.string x0)), (1, (.string x1)), (2, (.string x2)), (3, (.string x3)), (4, (.string x4)), (5, (.string x5)), (6, (.string x6)), (7, (.string x7)), (8, (.string x8)), (9, (.string x9)), (10, (.string x10)), (11, (.string x11)), (12, (.string x12)), (13, (.string x13)), (14, (.string x14)), (15, (.string x15)), (16, (.string x16)), (17, (.string x17)), (18, (.string x18)), (19, (.string x19))] K w = K (.slice (some ⟨w.heap.size, 0, none⟩) 20 20) (w.alloc (.cells #[(.string x0), (.string x1), (.string x2), (.string x3), (.string x4), (.string x5), (.string x6), (.string x7), (.string x8), (.string x9), (.string x10), (.string x11), (.string x12), (.string x13), (.string x14), (.string x15), (.string x16), (.string x17), (.string x18), (.string x19)] 9)) :=
  vBuildSlice_ok Try.underlying22 ti9 (by kernel_rfl) (by decide)
end Go.Proofs.Ytnofalhkapmcnaa
end
section
set_option linter.unusedSimpArgs false
namespace Go.Vc
mutual
def FT.cnt : FT → Nat
  | .mk _ _ _ _ l => FT.cntL l + 1
def FT.cntL : List FT → Nat
  | [] => 0
  | k :: l => k.cnt + FT.cntL l
end

mutual
def FT.prt : FT → Int → Int
  | .mk _ d v _ l, left => FT.prtL l (1 + ((d.size : Int) + (v.size : Int)) / 100) left
def FT.prtL : List FT → Int → Int → Int
  | [], n, _ => n
  | k :: l, n, left => if n < left then FT.prtL l (n + k.prt (left - n)) left else n
end
def FT.len0 (f : FT) : Int := 1 + ((f.dim.size : Int) + (f.value.size : Int)) / 100
theorem FT.prt_is (f : FT) (left : Int) : f.prt left = FT.prtL f.kids f.len0 left := by cases f; rfl
theorem FT.cnt_is (f : FT) : f.cnt = FT.cntL f.kids + 1 := by cases f; rfl
theorem FT.prtL_stop {l : List FT} {n left : Int} (h : ¬ n < left) : FT.prtL l n left = n := by
  cases l with
  | nil => rfl
  | cons k l => show (if n < left then _ else n) = n; rw [if_neg h]
theorem FT.prtL_go {k : FT} {l : List FT} {n left : Int} (h : n < left) : FT.prtL (k :: l) n left = FT.prtL l (n + k.prt (left - n)) left := by
  show (if n < left then _ else n) = _; rw [if_pos h]
theorem FT.prt_rng {w : World} : ∀ f : FT, f.Ok w → ∀ left : Int, 0 ≤ left → 1 ≤ f.prt left ∧ f.prt left ≤ left + 3000000000000 := by
  intro f
  induction f using FT.ind with
  | h f ih =>
    intro hf left hl
    obtain ⟨_, h2, h3, _, h5⟩ := FT.ok_iff.1 hf
    rw [FT.prt_is]
    have aux : ∀ (l : List FT), (∀ k ∈ l, k.Ok w ∧ ∀ left : Int, 0 ≤ left → 1 ≤ k.prt left ∧ k.prt left ≤ left + 3000000000000) → ∀ n : Int, 1 ≤ n → n ≤ left + 3000000000000 → 1 ≤ FT.prtL l n left ∧ FT.prtL l n left ≤ left + 3000000000000 := by
      intro l
      induction l with
      | nil => intro _ n h1 h2; exact ⟨h1, h2⟩
      | cons k l ihl =>
        intro hk n h1 h2
        by_cases hn : n < left
        · rw [FT.prtL_go hn]
          have := (hk k (by simp)).2 (left - n) (by omega)
          exact ihl (fun x hx => hk x (by simp [hx])) _ (by omega) (by omega)
        · rw [FT.prtL_stop hn]; exact ⟨h1, h2⟩
    have : 1 ≤ f.len0 ∧ f.len0 ≤ 3000000000000 := by unfold FT.len0; omega
    exact aux f.kids (fun k hk => ⟨h5 k hk, ih k hk (h5 k hk)⟩) f.len0 (by omega) (by omega)
theorem FT.cnt_prt : ∀ f : FT, ∀ left : Int, f.prt left < left → (f.cnt : Int) ≤ f.prt left := by
  intro f
  induction f using FT.ind with
  | h f ih =>
    intro left hl
    rw [FT.prt_is] at hl ⊢
    rw [FT.cnt_is]
    have aux : ∀ (l : List FT), (∀ k ∈ l, ∀ left : Int, k.prt left < left → (k.cnt : Int) ≤ k.prt left) → ∀ n : Int, FT.prtL l n left < left → n + (FT.cntL l : Int) ≤ FT.prtL l n left := by
      intro l
      induction l with
      | nil => intro _ n _; show n + 0 ≤ n; omega
      | cons k l ihl =>
        intro hk n h2
        have e : FT.cntL (k :: l) = k.cnt + FT.cntL l := rfl
        by_cases hn : n < left
        · rw [FT.prtL_go hn] at h2 ⊢
          have h3 := ihl (fun x hx => hk x (by simp [hx])) _ h2
          have h4 := hk k (by simp) (left - n) (by omega)
          omega
        · rw [FT.prtL_stop hn] at h2; exact absurd h2 hn
    have h3 := aux f.kids ih f.len0 hl
    have : 1 ≤ f.len0 := by unfold FT.len0; omega
    omega
theorem FT.cntL_mem {k : FT} : ∀ {l : List FT}, k ∈ l → k.cnt ≤ FT.cntL l
  | x :: l, h => by
    have e : FT.cntL (x :: l) = x.cnt + FT.cntL l := rfl
    rcases List.mem_cons.1 h with rfl | h
    · omega
    · have := FT.cntL_mem h; omega
theorem FT.cntL_len : ∀ l : List FT, l.length ≤ FT.cntL l
  | [] => Nat.le_refl _
  | k :: l => by
    have e : FT.cntL (k :: l) = k.cnt + FT.cntL l := rfl
    have := FT.cntL_len l
    have := FT.cnt_is k
    simp only [List.length_cons]; omega
theorem FT.deep_cnt : ∀ f : FT, f.deep ≤ f.cnt := by
  intro f
  induction f using FT.ind with
  | h f ih =>
    obtain ⟨op, d, v, kv, l⟩ := f
    show FT.deepL l + 1 ≤ FT.cntL l + 1
    replace ih : ∀ k ∈ l, k.deep ≤ k.cnt := ih
    induction l with
    | nil => exact Nat.le_refl _
    | cons k l ihl =>
      have h1 := ih k (by simp)
      have h2 := ihl (fun x hx => ih x (by simp [hx]))
      show max k.deep (FT.deepL l) + 1 ≤ k.cnt + FT.cntL l + 1
      omega
theorem FT.dims_cnt : ∀ f : FT, f.dims.length ≤ f.cnt := by
  intro f
  induction f using FT.ind with
  | h f ih =>
    obtain ⟨op, d, v, kv, l⟩ := f
    show (_ ++ FT.dimsL l).length ≤ FT.cntL l + 1
    replace ih : ∀ k ∈ l, k.dims.length ≤ k.cnt := ih
    have h0 : (FT.dimsL l).length ≤ FT.cntL l := by
      induction l with
      | nil => exact Nat.le_refl _
      | cons k l ihl =>
        have h1 := ih k (by simp)
        have h2 := ihl (fun x hx => ih x (by simp [hx]))
        show (k.dims ++ FT.dimsL l).length ≤ k.cnt + FT.cntL l
        rw [List.length_append]; omega
    rw [List.length_append]
    split <;> simp <;> omega
end Go.Vc
namespace Go.Proofs.Ytnofalhkapmcnaa
open Go.Vc
set_option maxRecDepth 100000
theorem ftBox (w : World) (f : FT) : Later w (w.alloc (.cells (ftC f).toArray 39)) ∧ (w.alloc (.cells (ftC f).toArray 39)).heap.size = w.heap.size + 1 ∧ Blk (w.alloc (.cells (ftC f).toArray 39)) w.heap.size (ftC f).toArray 39 := ⟨later_alloc _ _, World.size_alloc _ _, Blk.new _ _ _⟩
theorem ftAt {w : World} {k : Nat} {f : FT} (h : Blk w k (ftC f).toArray 39) : w.cell? ⟨k, 0, none⟩ = some (.int .i64 f.op) ∧ w.cell? ⟨k, 1, none⟩ = some (.string f.dim) ∧ w.cell? ⟨k, 2, none⟩ = some (.string f.value) ∧ w.cell? ⟨k, 3, none⟩ = some f.kv :=
  ⟨h.cell 0, h.cell 1, h.cell 2, h.cell 3⟩
theorem ftLater {w w' : World} {k : Nat} {f : FT} (h : Blk w k (ftC f).toArray 39) (hl : Later w w') : Blk w' k (ftC f).toArray 39 := h.chg (Chg.of_later (ks := []) hl) (by simp)
theorem parts_c : ∀ (f : FT) (left : Int) (w : World), 0 ≤ left → left ≤ 300 → f.Ok w → FnC Try.prog 69 #[.agg (ftC f).toArray, .int .i64 left] w fun v w' => v = .int .i64 (f.prt left) ∧ Later w w' := by
  intro f
  induction f using FT.ind with
  | h f ih =>
  intro left w hl0 hl1 hf
  obtain ⟨h1, h2, h3, h4, h5⟩ := FT.ok_iff.1 hf
  obtain ⟨o, c, hkv, hc1, hc2⟩ := RecS.slice h4
  refine enter69 _ _ ?_
  unfold B69
  have eca : (Value.agg (ftC f).toArray).cells = (ftC f).toArray := rfl
  obtain ⟨l1, s1, B1⟩ := ftBox w f
  repeat' (first | (simp (disch := omega) only [push_cast, ↓reduceIte, zA, zG, zB, zH, zI, zC, zJ, zK, zL, zD, zE, zF, zM, zN, zO, zP, zQ, reduceCtorEq, eca]) | refine iX ?_ ?_ <;> intro _ | refine And.intro (by omega) ?_ | refine dq ?_)
  generalize w.alloc (.cells (ftC f).toArray 39) = w1 at *
  generalize w.heap.size = kf at *
  obtain ⟨a0, a1, a2, a3⟩ := ftAt B1
  repeat' (first | (simp (disch := omega) only [push_cast, ↓reduceIte, zA, zG, zB, zH, zI, zC, zJ, zK, zL, zD, zE, zF, zM, zN, zO, zP, zQ, reduceCtorEq, a0, a1, a2, a3, addr_add_eq, Nat.zero_add]) | refine iX ?_ ?_ <;> intro _ | refine And.intro (by omega) ?_ | refine dq ?_)
  have hrng := FT.prt_rng f hf left hl0
  have hl00 : 1 ≤ f.len0 ∧ f.len0 ≤ 3000000000000 := by unfold FT.len0; omega
  refine vc_loop W69_0 (fun p : Nat × Int => [(5, .int .i64 p.2), (6, .int .i64 (p.1 : Int))]) (fun p w' => p.1 ≤ f.kids.length ∧ Later w1 w' ∧ 1 ≤ p.2 ∧ p.2 ≤ left + 3000000000000 ∧ FT.prtL (f.kids.drop p.1) p.2 left = f.prt left) (fun p => f.kids.length - p.1) (0, f.len0) (by decide) ?_ ?_ ?_
  · simp (disch := omega) only [push_cast, ↓reduceIte, zA, zG, zB, zH, zI, zC, zJ, zK, zL, zD, zE, zF, zM, zN, zO, zP, zQ, reduceCtorEq]
    try rfl
  · exact ⟨Nat.zero_le _, Later.refl _, hl00.1, by dsimp only; omega, by rw [FT.prt_is]; rfl⟩
  rintro ⟨i, n⟩ uu w2 ⟨hi, l2, hn1, hn2, he⟩
  dsimp only at hi hn1 hn2 he ⊢
  obtain ⟨b0, b1, b2, b3⟩ := ftAt (ftLater B1 l2)
  rw [hkv] at b3
  by_cases hik : i < f.kids.length
  case neg =>
    have hd : decide ((i : Int) < (f.kids.length : Int)) = false := decide_eq_false (by omega)
    rw [List.drop_of_length_le (by omega)] at he
    have he : n = f.prt left := he
    repeat' (first | (simp (disch := omega) only [push_cast, ↓reduceIte, zA, zG, zB, zH, zI, zC, zJ, zK, zL, zD, zE, zF, zM, zN, zO, zP, zQ, reduceCtorEq, b3, hd, addr_add_eq, Nat.zero_add]) | refine iX ?_ ?_ <;> intro _ | refine And.intro (by omega) ?_ | refine dq ?_)
    first | exact ⟨(by rw [he]), (l1.trans l2)⟩ | exact (l1.trans l2)
  have hd : decide ((i : Int) < (f.kids.length : Int)) = true := decide_eq_true (by omega)
  rw [List.drop_eq_getElem_cons hik] at he
  by_cases hnl : n < left
  case neg =>
    have hd2 := decide_eq_false hnl
    rw [FT.prtL_stop hnl] at he
    repeat' (first | (simp (disch := omega) only [push_cast, ↓reduceIte, zA, zG, zB, zH, zI, zC, zJ, zK, zL, zD, zE, zF, zM, zN, zO, zP, zQ, reduceCtorEq, b3, hd, hd2, addr_add_eq, Nat.zero_add]) | refine iX ?_ ?_ <;> intro _ | refine And.intro (by omega) ?_ | refine dq ?_)
    first | exact ⟨(by rw [he]), (l1.trans l2)⟩ | exact (l1.trans l2)
  have hd2 := decide_eq_true hnl
  rw [FT.prtL_go hnl] at he
  rw [hkv] at h4
  obtain ⟨a, rfl, fa⟩ := RecS.at ftC_len (h4.later (l1.trans l2)) hik
  have hk := h5 _ (List.getElem_mem hik)
  have hpr := FT.prt_rng _ hk (left - n) (by omega)
  repeat' (first | (simp (disch := omega) only [push_cast, ↓reduceIte, zA, zG, zB, zH, zI, zC, zJ, zK, zL, zD, zE, zF, zM, zN, zO, zP, zQ, reduceCtorEq, b3, hd, hd2, fa, addr_add_eq, Nat.zero_add]) | refine iX ?_ ?_ <;> intro _ | refine And.intro (by omega) ?_ | refine dq ?_)
  refine (ih _ (List.getElem_mem hik) (left - n) w2 (by omega) (by omega) (hk.later (l1.trans l2))).mono ?_
  rintro _ w3 ⟨rfl, l3⟩
  repeat' (first | (simp (disch := omega) only [push_cast, ↓reduceIte, zA, zG, zB, zH, zI, zC, zJ, zK, zL, zD, zE, zF, zM, zN, zO, zP, zQ, reduceCtorEq]) | refine iX ?_ ?_ <;> intro _ | refine And.intro (by omega) ?_ | refine dq ?_)
  exact ⟨rfl, (i + 1, n + (f.kids[i]).prt (left - n)), by simp (disch := omega) only [push_cast, ↓reduceIte, zA, zG, zB, zH, zI, zC, zJ, zK, zL, zD, zE, zF, zM, zN, zO, zP, zQ, reduceCtorEq], ⟨by dsimp only; omega, l2.trans l3, by dsimp only; omega, by dsimp only; omega, he⟩, by dsimp only; omega⟩
theorem depth_c : ∀ (f : FT) (w : World), f.cnt ≤ 1000000 → f.Ok w → FnC Try.prog 31 #[.agg (ftC f).toArray] w fun v w' => v = .int .i64 (f.deep : Int) ∧ Later w w' := by
  intro f
  induction f using FT.ind with
  | h f ih =>
  intro w hcn hf
  obtain ⟨h1, h2, h3, h4, h5⟩ := FT.ok_iff.1 hf
  obtain ⟨o, c, hkv, hc1, hc2⟩ := RecS.slice h4
  refine enter31 _ ?_
  unfold B31
  have eca : (Value.agg (ftC f).toArray).cells = (ftC f).toArray := rfl
  obtain ⟨l1, s1, B1⟩ := ftBox w f
  repeat' (first | (simp (disch := omega) only [push_cast, ↓reduceIte, zA, zG, zB, zH, zI, zC, zJ, zK, zL, zD, zE, zF, zM, zN, zO, zP, zQ, reduceCtorEq, eca]) | refine iX ?_ ?_ <;> intro _ | refine And.intro (by omega) ?_ | refine dq ?_)
  generalize w.alloc (.cells (ftC f).toArray 39) = w1 at *
  generalize w.heap.size = kf at *
  have hcl := FT.cntL_len f.kids
  have hci := FT.cnt_is f
  have hmx : ∀ i, i ≤ f.kids.length → (f.kids.take i).foldl (fun n k => max n k.deep) 0 ≤ 1000000 := by
    intro i _
    have : ∀ (l : List FT) (n : Nat), n ≤ 1000000 → (∀ k ∈ l, k.deep ≤ 1000000) → l.foldl (fun n k => max n k.deep) n ≤ 1000000 := by
      intro l
      induction l with
      | nil => intro n h _; exact h
      | cons k l ihl =>
        intro n h hk
        have := hk k (by simp)
        exact ihl _ (by show max n k.deep ≤ _; omega) (fun x hx => hk x (by simp [hx]))
    refine this _ _ (by omega) fun k hk => ?_
    have := FT.deep_cnt k
    have := FT.cntL_mem (List.mem_of_mem_take hk)
    omega
  refine vc_loop W31_0 (fun i : Nat => [(3, .int .i64 (((f.kids.take i).foldl (fun n k => max n k.deep) 0 : Nat) : Int)), (4, .int .i64 (i : Int))]) (fun i w' => i ≤ f.kids.length ∧ Later w1 w') (fun i => f.kids.length - i) 0 (by decide) ?_ ?_ ?_
  · simp (disch := omega) only [push_cast, ↓reduceIte, zA, zG, zB, zH, zI, zC, zJ, zK, zL, zD, zE, zF, zM, zN, zO, zP, zQ, reduceCtorEq]
    try rfl
  · exact ⟨Nat.zero_le _, Later.refl _⟩
  rintro i uu w2 ⟨hi, l2⟩
  obtain ⟨b0, b1, b2, b3⟩ := ftAt (ftLater B1 l2)
  rw [hkv] at b3
  by_cases hik : i < f.kids.length
  case neg =>
    have hd : decide ((i : Int) < (f.kids.length : Int)) = false := decide_eq_false (by omega)
    have hm := hmx i hi
    have hdp := FT.deep_is f
    rw [List.take_of_length_le (by omega)] at hm ⊢
    have hdp' : ((f.kids.foldl (fun n k => max n k.deep) 0 : Nat) : Int) + 1 = (f.deep : Int) := by omega
    repeat' (first | (simp (disch := omega) only [push_cast, ↓reduceIte, zA, zG, zB, zH, zI, zC, zJ, zK, zL, zD, zE, zF, zM, zN, zO, zP, zQ, reduceCtorEq, b3, hd, addr_add_eq, Nat.zero_add]) | refine iX ?_ ?_ <;> intro _ | refine And.intro (by omega) ?_ | refine dq ?_)
    first | exact ⟨(by rw [hdp']), (l1.trans l2)⟩ | exact (l1.trans l2)
  have hd : decide ((i : Int) < (f.kids.length : Int)) = true := decide_eq_true (by omega)
  rw [hkv] at h4
  obtain ⟨a, rfl, fa⟩ := RecS.at ftC_len (h4.later (l1.trans l2)) hik
  have hk := h5 _ (List.getElem_mem hik)
  have hkc := FT.cntL_mem (List.getElem_mem hik)
  have hkd := FT.deep_cnt (f.kids[i])
  have hm := hmx i hi
  have hst : (f.kids.take (i + 1)).foldl (fun n k => max n k.deep) 0 = max ((f.kids.take i).foldl (fun n k => max n k.deep) 0) (f.kids[i]).deep := by
    rw [List.take_succ_eq_append_getElem hik, List.foldl_append]; rfl
  repeat' (first | (simp (disch := omega) only [push_cast, ↓reduceIte, zA, zG, zB, zH, zI, zC, zJ, zK, zL, zD, zE, zF, zM, zN, zO, zP, zQ, reduceCtorEq, b3, hd, fa, addr_add_eq, Nat.zero_add]) | refine iX ?_ ?_ <;> intro _ | refine And.intro (by omega) ?_ | refine dq ?_)
  refine (ih _ (List.getElem_mem hik) w2 (by omega) (hk.later (l1.trans l2))).mono ?_
  rintro _ w3 ⟨rfl, l3⟩
  repeat' (first | (simp (disch := omega) only [push_cast, ↓reduceIte, zA, zG, zB, zH, zI, zC, zJ, zK, zL, zD, zE, zF, zM, zN, zO, zP, zQ, reduceCtorEq]) | refine iX ?_ ?_ <;> intro _ | refine And.intro (by omega) ?_ | refine dq ?_)
  have hst' : ((List.foldl (fun n k => max n k.deep) 0 (List.take (i + 1) f.kids) : Nat) : Int) = max ((List.foldl (fun n k => max n k.deep) 0 (List.take i f.kids) : Nat) : Int) ((f.kids[i]).deep : Int) := by rw [hst]; omega
  exact ⟨rfl, i + 1, by simp (disch := omega) only [push_cast, ↓reduceIte, zA, zG, zB, zH, zI, zC, zJ, zK, zL, zD, zE, zF, zM, zN, zO, zP, zQ, reduceCtorEq, hst'], ⟨by omega, l2.trans l3⟩, by dsimp only; omega⟩
end Go.Proofs.Ytnofalhkapmcnaa
end
section
namespace Go.Key
open Go.Stab
theorem bl_tri : ∀ (a b : List UInt8), (Op.bytesLess a b = true ∧ Op.bytesLess b a = false ∧ a ≠ b) ∨ (a = b ∧ Op.bytesLess a b = false) ∨ (Op.bytesLess a b = false ∧ Op.bytesLess b a = true ∧ a ≠ b)
  | [], [] => .inr (.inl ⟨rfl, rfl⟩)
  | [], _ :: _ => .inl ⟨rfl, rfl, by simp⟩
  | _ :: _, [] => .inr (.inr ⟨rfl, rfl, by simp⟩)
  | x :: a, y :: b => by
    rcases UInt8.lt_or_lt_of_ne (a := x) (b := y) |> fun h => (Decidable.em (x = y)).imp id h with e | e | e
    · subst e
      have hx : ¬ x < x := UInt8.lt_irrefl x
      rcases bl_tri a b with ⟨h1, h2, h3⟩ | ⟨h1, h2⟩ | ⟨h1, h2, h3⟩
      · exact .inl ⟨by simp [Op.bytesLess, h1], by simp [Op.bytesLess, h2, hx], by simpa using h3⟩
      · exact .inr (.inl ⟨by rw [h1], by simp [Op.bytesLess, h2, hx]⟩)
      · exact .inr (.inr ⟨by simp [Op.bytesLess, h1, hx], by simp [Op.bytesLess, h2], by simpa using h3⟩)
    · have n : ¬ y < x := fun h => UInt8.lt_irrefl _ (UInt8.lt_trans h e)
      have ne : x ≠ y := fun h => by subst h; exact UInt8.lt_irrefl _ e
      exact .inl ⟨by simp [Op.bytesLess, e], by simp [Op.bytesLess, n, Ne.symm ne], by simp [ne]⟩
    · have n : ¬ x < y := fun h => UInt8.lt_irrefl _ (UInt8.lt_trans h e)
      have ne : x ≠ y := fun h => by subst h; exact UInt8.lt_irrefl _ e
      exact .inr (.inr ⟨by simp [Op.bytesLess, n, ne], by simp [Op.bytesLess, e], by simp [ne]⟩)
theorem bl_trans : ∀ (a b c : List UInt8), Op.bytesLess a b = true → Op.bytesLess b c = true → Op.bytesLess a c = true
  | _, [], _, h, _ => by simp [Op.bytesLess] at h
  | _, _ :: _, [], _, h => by simp [Op.bytesLess] at h
  | [], _ :: _, _ :: _, _, _ => rfl
  | x :: a, y :: b, z :: c, h, g => by
    simp only [Op.bytesLess, Bool.or_eq_true, decide_eq_true_eq, Bool.and_eq_true, beq_iff_eq] at h g ⊢
    rcases h with h | ⟨rfl, h⟩ <;> rcases g with g | ⟨rfl, g⟩
    · exact .inl (UInt8.lt_trans h g)
    · exact .inl h
    · exact .inl g
    · exact .inr ⟨rfl, bl_trans a b c h g⟩
def blt (a b : ByteArray) : Bool := Op.bytesLess a.data.toList b.data.toList
theorem ba_ext {a b : ByteArray} (h : a.data.toList = b.data.toList) : a = b := by
  cases a; cases b
  congr
  exact Array.ext' h
theorem blt_tri (a b : ByteArray) : (blt a b = true ∧ blt b a = false ∧ a ≠ b) ∨ (a = b ∧ blt a b = false) ∨ (blt a b = false ∧ blt b a = true ∧ a ≠ b) := by
  rcases bl_tri a.data.toList b.data.toList with ⟨h1, h2, h3⟩ | ⟨h1, h2⟩ | ⟨h1, h2, h3⟩
  · exact .inl ⟨h1, h2, fun e => h3 (by rw [e])⟩
  · exact .inr (.inl ⟨ba_ext h1, h2⟩)
  · exact .inr (.inr ⟨h1, h2, fun e => h3 (by rw [e])⟩)
def cstr (a b : ByteArray) : Int := if blt a b = true then -1 else if a = b then 0 else 1
theorem cstr_is (a b : ByteArray) : (cstr a b = -1 ∧ cstr b a = 1 ∧ blt a b = true) ∨ (cstr a b = 0 ∧ cstr b a = 0 ∧ a = b) ∨ (cstr a b = 1 ∧ cstr b a = -1 ∧ blt b a = true) := by
  rcases blt_tri a b with ⟨h1, h2, h3⟩ | ⟨h1, h2⟩ | ⟨h1, h2, h3⟩
  · exact .inl ⟨by simp [cstr, h1], by simp [cstr, h2, Ne.symm h3], h1⟩
  · subst h1; exact .inr (.inl ⟨by simp [cstr, h2], by simp [cstr, h2], rfl⟩)
  · exact .inr (.inr ⟨by simp [cstr, h1, h3], by simp [cstr, h2], h2⟩)
def clist : List ByteArray → List ByteArray → Int
  | [], [] => 0
  | [], _ :: _ => -1
  | _ :: _, [] => 1
  | a :: x, b :: y => if cstr a b = 0 then clist x y else cstr a b
theorem clist_is : ∀ (a b : List ByteArray), (clist a b = -1 ∧ clist b a = 1 ∧ a ≠ b) ∨ (clist a b = 0 ∧ clist b a = 0 ∧ a = b) ∨ (clist a b = 1 ∧ clist b a = -1 ∧ a ≠ b)
  | [], [] => .inr (.inl ⟨rfl, rfl, rfl⟩)
  | [], _ :: _ => .inl ⟨rfl, rfl, by simp⟩
  | _ :: _, [] => .inr (.inr ⟨rfl, rfl, by simp⟩)
  | x :: a, y :: b => by
    rcases cstr_is x y with ⟨h1, h2, h3⟩ | ⟨h1, h2, h3⟩ | ⟨h1, h2, h3⟩
    · refine .inl ⟨by simp [clist, h1], by simp [clist, h2], fun e => ?_⟩
      obtain ⟨rfl, _⟩ := List.cons.inj e
      rw [h1] at h2; cases h2
    · subst h3
      rcases clist_is a b with ⟨g1, g2, g3⟩ | ⟨g1, g2, g3⟩ | ⟨g1, g2, g3⟩
      · exact .inl ⟨by simp [clist, h1, g1], by simp [clist, h1, g2], by simp [g3]⟩
      · exact .inr (.inl ⟨by simp [clist, h1, g1], by simp [clist, h1, g2], by simp [g3]⟩)
      · exact .inr (.inr ⟨by simp [clist, h1, g1], by simp [clist, h1, g2], by simp [g3]⟩)
    · refine .inr (.inr ⟨by simp [clist, h1], by simp [clist, h2], fun e => ?_⟩)
      obtain ⟨rfl, _⟩ := List.cons.inj e
      rw [h1] at h2; cases h2
theorem cstr_trans {a b c : ByteArray} (h : cstr a b = -1) (g : cstr b c = -1) : cstr a c = -1 := by
  have h1 : blt a b = true := by
    rcases cstr_is a b with h' | h' | h'
    · exact h'.2.2
    · rw [h] at h'; cases h'.1
    · rw [h] at h'; cases h'.1
  have h2 : blt b c = true := by
    rcases cstr_is b c with h' | h' | h'
    · exact h'.2.2
    · rw [g] at h'; cases h'.1
    · rw [g] at h'; cases h'.1
  have : blt a c = true := bl_trans _ _ _ h1 h2
  simp [cstr, this]
theorem clist_trans : ∀ (a b c : List ByteArray), clist a b = -1 → clist b c = -1 → clist a c = -1
  | [], [], _, h, _ => by simp [clist] at h
  | _ :: _, [], _, h, _ => by simp [clist] at h
  | _, _ :: _, [], _, h => by simp [clist] at h
  | [], _ :: _, _ :: _, _, _ => rfl
  | x :: a, y :: b, z :: c, h, g => by
    simp only [clist] at h g ⊢
    by_cases e1 : cstr x y = 0
    · have exy : x = y := by
        rcases cstr_is x y with h' | h' | h'
        · rw [e1] at h'; cases h'.1
        · exact h'.2.2
        · rw [e1] at h'; cases h'.1
      subst exy
      rw [if_pos e1] at h
      by_cases e2 : cstr x z = 0
      · rw [if_pos e2] at g ⊢
        exact clist_trans a b c h g
      · rw [if_neg e2] at g ⊢
        exact g
    · rw [if_neg e1] at h
      by_cases e2 : cstr y z = 0
      · have eyz : y = z := by
          rcases cstr_is y z with h' | h' | h'
          · rw [e2] at h'; cases h'.1
          · exact h'.2.2
          · rw [e2] at h'; cases h'.1
        subst eyz
        rw [if_neg (by rw [h]; decide), h]
      · rw [if_neg e2] at g
        have := cstr_trans h g
        rw [if_neg (by rw [this]; decide), this]
def ckey (t : Int) (d : List ByteArray) (t' : Int) (d' : List ByteArray) : Int := if t < t' then -1 else if t' < t then 1 else clist d d'
theorem ckey_is (t : Int) (d : List ByteArray) (t' : Int) (d' : List ByteArray) : (ckey t d t' d' = -1 ∧ ckey t' d' t d = 1 ∧ ¬ (t = t' ∧ d = d')) ∨ (ckey t d t' d' = 0 ∧ ckey t' d' t d = 0 ∧ t = t' ∧ d = d') ∨ (ckey t d t' d' = 1 ∧ ckey t' d' t d = -1 ∧ ¬ (t = t' ∧ d = d')) := by
  unfold ckey
  by_cases h1 : t < t'
  · exact .inl ⟨if_pos h1, by rw [if_neg (by omega), if_pos h1], by omega⟩
  · by_cases h2 : t' < t
    · exact .inr (.inr ⟨by rw [if_neg h1, if_pos h2], if_pos h2, by omega⟩)
    · have e : t = t' := by omega
      subst e
      rw [if_neg h1, if_neg h1, if_neg h1, if_neg h1]
      rcases clist_is d d' with ⟨g1, g2, g3⟩ | ⟨g1, g2, g3⟩ | ⟨g1, g2, g3⟩
      · exact .inl ⟨g1, g2, fun h => g3 h.2⟩
      · exact .inr (.inl ⟨g1, g2, rfl, g3⟩)
      · exact .inr (.inr ⟨g1, g2, fun h => g3 h.2⟩)
theorem ckey_trans {t t' t'' : Int} {d d' d'' : List ByteArray} (h : ckey t d t' d' = -1) (g : ckey t' d' t'' d'' = -1) : ckey t d t'' d'' = -1 := by
  unfold ckey at *
  split at h
  · split at g
    · rw [if_pos (by omega)]
    · split at g
      · cases g
      · rw [if_pos (by omega)]
  · split at h
    · cases h
    · split at g
      · rw [if_pos (by omega)]
      · split at g
        · cases g
        · rw [if_neg (by omega), if_neg (by omega)]
          exact clist_trans _ _ _ h g
theorem swo_key {α : Type} (t : α → Int) (d : α → List ByteArray) : Swo (fun a b : α => decide (ckey (t a) (d a) (t b) (d b) < 0)) where
  asym a b h := by
    have h : ckey (t a) (d a) (t b) (d b) < 0 := of_decide_eq_true h
    rcases ckey_is (t a) (d a) (t b) (d b) with h' | h' | h' <;> exact decide_eq_false (by omega)
  ntr a b c h g := by
    have h : ¬ ckey (t b) (d b) (t a) (d a) < 0 := of_decide_eq_false h
    have g : ¬ ckey (t c) (d c) (t b) (d b) < 0 := of_decide_eq_false g
    refine decide_eq_false ?_
    rcases ckey_is (t a) (d a) (t b) (d b) with h1 | h1 | h1
    · rcases ckey_is (t b) (d b) (t c) (d c) with h2 | h2 | h2
      · have := ckey_trans h1.1 h2.1
        rcases ckey_is (t a) (d a) (t c) (d c) with h3 | h3 | h3 <;> omega
      · rw [← h2.2.2.1, ← h2.2.2.2]; exact h
      · omega
    · rw [h1.2.2.1, h1.2.2.2]; exact g
    · omega
end Go.Key
end
section
set_option linter.unusedSimpArgs false
namespace Go.Proofs.Ytnofalhkapmcnaa
open Go.Vc Go.Key
set_option maxRecDepth 100000
abbrev StS (w : World) (v : Value) (l : List ByteArray) : Prop := Sl w v (l.map Value.string)
theorem StS.atS {w : World} {a : Addr} {l : List ByteArray} {n c : Nat} (h : StS w (.slice (some a) n c) l) {i : Nat} (hi : i < l.length) : w.cell? (a.add i) = some (.string l[i]) := Sl.at h (by simp [hi])
@[push_cast] theorem vBinS_gtr {P : Program} {t : TypeId} {x y : Operand} {m n : ByteArray} {K : Value → World → Prop} {w : World} : vBin P .gtr t x y (.string m) (.string n) K w = K (.bool (!(Op.bytesLess m.data.toList n.data.toList || decide (m = n)))) w := mk_eq rfl
theorem nanS_c (s : ByteArray) (w : World) : FnC Try.prog 167 #[.string s] w fun r w' => r = .bool false ∧ w' = w := by
  refine enter167 _ ?_
  unfold B167
  repeat' (first | (simp (disch := omega) only [push_cast, ↓reduceIte, zA, zG, zB, zH, zI, zC, zJ, zK, zL, zD, zE, zF, zM, zN, zO, zP, zQ, reduceCtorEq, decide_true, Bool.not_true]) | refine iX ?_ ?_ <;> intro _ | refine And.intro (by omega) ?_ | refine dq ?_)
  all_goals simp
theorem nanI_c (n : Int) (w : World) : FnC Try.prog 86 #[.int .i64 n] w fun r w' => r = .bool false ∧ w' = w := by
  refine enter86 _ ?_
  unfold B86
  repeat' (first | (simp (disch := omega) only [push_cast, ↓reduceIte, zA, zG, zB, zH, zI, zC, zJ, zK, zL, zD, zE, zF, zM, zN, zO, zP, zQ, reduceCtorEq, decide_true, Bool.not_true]) | refine iX ?_ ?_ <;> intro _ | refine And.intro (by omega) ?_ | refine dq ?_)
  all_goals simp
theorem cmpS_c (a b : ByteArray) (w : World) : FnC Try.prog 158 #[.string a, .string b] w fun r w' => r = .int .i64 (cstr a b) ∧ w' = w := by
  refine enter158 _ _ ?_
  unfold B158
  repeat' (first | (simp (disch := omega) only [push_cast, ↓reduceIte, zA, zG, zB, zH, zI, zC, zJ, zK, zL, zD, zE, zF, zM, zN, zO, zP, zQ, reduceCtorEq]) | refine iX ?_ ?_ <;> intro _ | refine And.intro (by omega) ?_ | refine dq ?_)
  refine (nanS_c a w).mono ?_
  rintro _ w0 ⟨rfl, h0⟩; obtain rfl := h0.symm
  repeat' (first | (simp (disch := omega) only [push_cast, ↓reduceIte, zA, zG, zB, zH, zI, zC, zJ, zK, zL, zD, zE, zF, zM, zN, zO, zP, zQ, reduceCtorEq]) | refine iX ?_ ?_ <;> intro _ | refine And.intro (by omega) ?_ | refine dq ?_)
  refine (nanS_c b w).mono ?_
  rintro _ w0 ⟨rfl, h0⟩; obtain rfl := h0.symm
  rcases blt_tri a b with ⟨h1, h2, h3⟩ | ⟨h1, h2⟩ | ⟨h1, h2, h3⟩
  · have h1' : Op.bytesLess a.data.toList b.data.toList = true := h1
    have e : cstr a b = -1 := by simp [cstr, h1]
    repeat' (first | (simp (disch := omega) only [push_cast, ↓reduceIte, zA, zG, zB, zH, zI, zC, zJ, zK, zL, zD, zE, zF, zM, zN, zO, zP, zQ, reduceCtorEq, h1']) | refine iX ?_ ?_ <;> intro _ | refine And.intro (by omega) ?_ | refine dq ?_)
    simp [e]
  · subst h1
    have h2' : Op.bytesLess a.data.toList a.data.toList = false := h2
    have e : cstr a a = 0 := by simp [cstr, h2]
    repeat' (first | (simp (disch := omega) only [push_cast, ↓reduceIte, zA, zG, zB, zH, zI, zC, zJ, zK, zL, zD, zE, zF, zM, zN, zO, zP, zQ, reduceCtorEq, h2', decide_true, Bool.or_true, Bool.false_or, Bool.not_true]) | refine iX ?_ ?_ <;> intro _ | refine And.intro (by omega) ?_ | refine dq ?_)
    simp [e]
  · have h1' : Op.bytesLess a.data.toList b.data.toList = false := h1
    have h4 : decide (a = b) = false := decide_eq_false h3
    have e : cstr a b = 1 := by simp [cstr, h1, h3]
    repeat' (first | (simp (disch := omega) only [push_cast, ↓reduceIte, zA, zG, zB, zH, zI, zC, zJ, zK, zL, zD, zE, zF, zM, zN, zO, zP, zQ, reduceCtorEq, h1', h4, Bool.or_false, Bool.false_or, Bool.not_false]) | refine iX ?_ ?_ <;> intro _ | refine And.intro (by omega) ?_ | refine dq ?_)
    simp [e]
theorem cmpI_c (a b : Int) (w : World) : FnC Try.prog 51 #[.int .i64 a, .int .i64 b] w fun r w' => r = .int .i64 (if a < b then -1 else if b < a then 1 else 0) ∧ w' = w := by
  refine enter51 _ _ ?_
  unfold B51
  repeat' (first | (simp (disch := omega) only [push_cast, ↓reduceIte, zA, zG, zB, zH, zI, zC, zJ, zK, zL, zD, zE, zF, zM, zN, zO, zP, zQ, reduceCtorEq]) | refine iX ?_ ?_ <;> intro _ | refine And.intro (by omega) ?_ | refine dq ?_)
  refine (nanI_c a w).mono ?_
  rintro _ w0 ⟨rfl, h0⟩; obtain rfl := h0.symm
  repeat' (first | (simp (disch := omega) only [push_cast, ↓reduceIte, zA, zG, zB, zH, zI, zC, zJ, zK, zL, zD, zE, zF, zM, zN, zO, zP, zQ, reduceCtorEq]) | refine iX ?_ ?_ <;> intro _ | refine And.intro (by omega) ?_ | refine dq ?_)
  refine (nanI_c b w).mono ?_
  rintro _ w0 ⟨rfl, h0⟩; obtain rfl := h0.symm
  by_cases h1 : a < b
  · repeat' (first | (simp (disch := omega) only [push_cast, ↓reduceIte, zA, zG, zB, zH, zI, zC, zJ, zK, zL, zD, zE, zF, zM, zN, zO, zP, zQ, reduceCtorEq]) | refine iX ?_ ?_ <;> intro _ | refine And.intro (by omega) ?_ | refine dq ?_)
    simp [h1]
  · by_cases h2 : b < a
    · repeat' (first | (simp (disch := omega) only [push_cast, ↓reduceIte, zA, zG, zB, zH, zI, zC, zJ, zK, zL, zD, zE, zF, zM, zN, zO, zP, zQ, reduceCtorEq]) | refine iX ?_ ?_ <;> intro _ | refine And.intro (by omega) ?_ | refine dq ?_)
      simp [h1, h2]
    · repeat' (first | (simp (disch := omega) only [push_cast, ↓reduceIte, zA, zG, zB, zH, zI, zC, zJ, zK, zL, zD, zE, zF, zM, zN, zO, zP, zQ, reduceCtorEq]) | refine iX ?_ ?_ <;> intro _ | refine And.intro (by omega) ?_ | refine dq ?_)
      simp [h1, h2]
theorem cmpOr_c (x y : Int) (v : Value) (w : World) (h : Sl w v (([x, y] : List Int).map i64v)) : FnC Try.prog 50 #[v] w fun r w' => r = .int .i64 (if x = 0 then y else x) ∧ w' = w := by
  obtain ⟨o, c, rfl, g1, g2, h, g3⟩ := h.openM
  have hL : ([x, y] : List Int).length = 2 := rfl
  rw [hL] at h g1
  obtain ⟨a, rfl⟩ := h.some (i := 0) (by simp)
  have c0 : w.cell? a = some (.int .i64 x) := by simpa [addr_add_zero] using h.atI (i := 0) (by simp)
  have c1 : w.cell? (a.add 1) = some (.int .i64 y) := h.atI (i := 1) (by simp)
  rw [hL]
  clear hL
  refine enter50 _ ?_
  unfold B50
  repeat' (first | (simp (disch := omega) only [push_cast, ↓reduceIte, zA, zG, zB, zH, zI, zC, zJ, zK, zL, zD, zE, zF, zM, zN, zO, zP, zQ, reduceCtorEq]) | refine iX ?_ ?_ <;> intro _ | refine And.intro (by omega) ?_ | refine dq ?_)
  refine vc_loop W50_0 (fun i : Nat => [(2, .int .i64 0), (8, .int .i64 (i : Int))]) (fun i w' => i ≤ 2 ∧ w' = w ∧ (1 ≤ i → x = 0) ∧ (2 ≤ i → y = 0)) (fun i => 2 - i) 0 (by decide) ?_ ?_ ?_
  · simp (disch := omega) only [push_cast, ↓reduceIte, zA, zG, zB, zH, zI, zC, zJ, zK, zL, zD, zE, zF, zM, zN, zO, zP, zQ, reduceCtorEq]
  · exact ⟨by omega, rfl, by omega, by omega⟩
  rintro i uu w1 ⟨hi, hw, hx, hy⟩
  obtain rfl := hw.symm
  match i, hi with
  | 0, _ =>
    by_cases h0 : x = 0
    · subst h0
      repeat' (first | (simp (disch := omega) only [push_cast, ↓reduceIte, zA, zG, zB, zH, zI, zC, zJ, zK, zL, zD, zE, zF, zM, zN, zO, zP, zQ, reduceCtorEq, c0]) | refine iX ?_ ?_ <;> intro _ | refine And.intro (by omega) ?_ | refine dq ?_)
      exact ⟨rfl, 1, by simp (disch := omega) only [push_cast, ↓reduceIte, zA, zG, zB, zH, zI, zC, zJ, zK, zL, zD, zE, zF, zM, zN, zO, zP, zQ, reduceCtorEq], ⟨by omega, rfl, by simp, by simp⟩, by dsimp only; omega⟩
    · repeat' (first | (simp (disch := omega) only [push_cast, ↓reduceIte, zA, zG, zB, zH, zI, zC, zJ, zK, zL, zD, zE, zF, zM, zN, zO, zP, zQ, reduceCtorEq, c0]) | refine iX ?_ ?_ <;> intro _ | refine And.intro (by omega) ?_ | refine dq ?_)
      simp [h0]
  | 1, _ =>
    have hx := hx (by omega)
    subst hx
    by_cases h0 : y = 0
    · subst h0
      repeat' (first | (simp (disch := omega) only [push_cast, ↓reduceIte, zA, zG, zB, zH, zI, zC, zJ, zK, zL, zD, zE, zF, zM, zN, zO, zP, zQ, reduceCtorEq, c1]) | refine iX ?_ ?_ <;> intro _ | refine And.intro (by omega) ?_ | refine dq ?_)
      exact ⟨rfl, 2, by simp (disch := omega) only [push_cast, ↓reduceIte, zA, zG, zB, zH, zI, zC, zJ, zK, zL, zD, zE, zF, zM, zN, zO, zP, zQ, reduceCtorEq], ⟨by omega, rfl, by simp, by simp⟩, by dsimp only; omega⟩
    · repeat' (first | (simp (disch := omega) only [push_cast, ↓reduceIte, zA, zG, zB, zH, zI, zC, zJ, zK, zL, zD, zE, zF, zM, zN, zO, zP, zQ, reduceCtorEq, c1]) | refine iX ?_ ?_ <;> intro _ | refine And.intro (by omega) ?_ | refine dq ?_)
      all_goals simp
  | 2, _ =>
    have hx := hx (by omega)
    have hy := hy (by omega)
    subst hx
    subst hy
    repeat' (first | (simp (disch := omega) only [push_cast, ↓reduceIte, zA, zG, zB, zH, zI, zC, zJ, zK, zL, zD, zE, zF, zM, zN, zO, zP, zQ, reduceCtorEq]) | refine iX ?_ ?_ <;> intro _ | refine And.intro (by omega) ?_ | refine dq ?_)
    all_goals simp
theorem clist_step {a b : List ByteArray} {i : Nat} (ha : i < a.length) (hb : i < b.length) : clist (a.drop i) (b.drop i) = if cstr a[i] b[i] = 0 then clist (a.drop (i + 1)) (b.drop (i + 1)) else cstr a[i] b[i] := by
  rw [List.drop_eq_getElem_cons ha, List.drop_eq_getElem_cons hb, clist]
theorem clist_l {a b : List ByteArray} {i : Nat} (ha : i < a.length) (hb : b.length ≤ i) : clist (a.drop i) (b.drop i) = 1 := by
  rw [List.drop_eq_getElem_cons ha, List.drop_eq_nil_of_le hb, clist]
theorem clist_r {a b : List ByteArray} {i : Nat} (ha : a.length ≤ i) (hb : i < b.length) : clist (a.drop i) (b.drop i) = -1 := by
  rw [List.drop_eq_getElem_cons hb, List.drop_eq_nil_of_le ha, clist]
theorem clist_n {a b : List ByteArray} {i : Nat} (ha : a.length ≤ i) (hb : b.length ≤ i) : clist (a.drop i) (b.drop i) = 0 := by
  rw [List.drop_eq_nil_of_le hb, List.drop_eq_nil_of_le ha, clist]
theorem scmp_c (u v : Value) (a b : List ByteArray) (w : World) (hu : StS w u a) (hv : StS w v b) : FnC Try.prog 135 #[u, v] w fun r w' => r = .int .i64 (clist a b) ∧ w' = w := by
  obtain ⟨oa, ca, rfl, g1, g2, hu, g3⟩ := hu.openM
  obtain ⟨ob, cb, rfl, k1, k2, hv, k3⟩ := hv.openM
  refine enter135 _ _ ?_
  unfold B135
  repeat' (first | (simp (disch := omega) only [push_cast, ↓reduceIte, zA, zG, zB, zH, zI, zC, zJ, zK, zL, zD, zE, zF, zM, zN, zO, zP, zQ, reduceCtorEq]) | refine iX ?_ ?_ <;> intro _ | refine And.intro (by omega) ?_ | refine dq ?_)
  refine vc_loop W135_0 (fun i : Nat => [(4, .int .i64 0), (11, .int .i64 (i : Int))])
    (fun i w' => i ≤ a.length ∧ i ≤ b.length ∧ w' = w ∧ clist (a.drop i) (b.drop i) = clist a b) (fun i => a.length - i) 0 (by decide) ?_ ?_ ?_
  · simp (disch := omega) only [push_cast, ↓reduceIte, zA, zG, zB, zH, zI, zC, zJ, zK, zL, zD, zE, zF, zM, zN, zO, zP, zQ, reduceCtorEq]
  · exact ⟨by omega, by omega, rfl, by simp⟩
  rintro i uu w0 ⟨hi, hib, hw, he⟩
  obtain rfl := hw.symm
  by_cases ha : i < a.length
  · obtain ⟨aa, rfl⟩ := hu.some ha
    have c1 := StS.atS hu ha
    by_cases hb : i < b.length
    · obtain ⟨bb, rfl⟩ := hv.some hb
      have c2 := StS.atS hv hb
      rw [clist_step ha hb] at he
      repeat' (first | (simp (disch := omega) only [push_cast, ↓reduceIte, zA, zG, zB, zH, zI, zC, zJ, zK, zL, zD, zE, zF, zM, zN, zO, zP, zQ, reduceCtorEq, c1, c2]) | refine iX ?_ ?_ <;> intro _ | refine And.intro (by omega) ?_ | refine dq ?_)
      refine (cmpS_c _ _ w).mono ?_
      rintro _ w0 ⟨rfl, h0⟩; obtain rfl := h0.symm
      by_cases h0 : cstr a[i] b[i] = 0
      · rw [if_pos h0] at he
        repeat' (first | (simp (disch := omega) only [push_cast, ↓reduceIte, zA, zG, zB, zH, zI, zC, zJ, zK, zL, zD, zE, zF, zM, zN, zO, zP, zQ, reduceCtorEq, h0]) | refine iX ?_ ?_ <;> intro _ | refine And.intro (by omega) ?_ | refine dq ?_)
        exact ⟨rfl, i + 1, by simp (disch := omega) only [push_cast, ↓reduceIte, zA, zG, zB, zH, zI, zC, zJ, zK, zL, zD, zE, zF, zM, zN, zO, zP, zQ, reduceCtorEq], ⟨by omega, by omega, rfl, he⟩, by dsimp only; omega⟩
      · rw [if_neg h0] at he
        repeat' (first | (simp (disch := omega) only [push_cast, ↓reduceIte, zA, zG, zB, zH, zI, zC, zJ, zK, zL, zD, zE, zF, zM, zN, zO, zP, zQ, reduceCtorEq]) | refine iX ?_ ?_ <;> intro _ | refine And.intro (by omega) ?_ | refine dq ?_)
        simp [he]
    · have hb' : b.length ≤ i := by omega
      rw [clist_l ha hb'] at he
      repeat' (first | (simp (disch := omega) only [push_cast, ↓reduceIte, zA, zG, zB, zH, zI, zC, zJ, zK, zL, zD, zE, zF, zM, zN, zO, zP, zQ, reduceCtorEq, c1]) | refine iX ?_ ?_ <;> intro _ | refine And.intro (by omega) ?_ | refine dq ?_)
      simp [← he]
  · by_cases hb : i < b.length
    · rw [clist_r (by omega) hb] at he
      repeat' (first | (simp (disch := omega) only [push_cast, ↓reduceIte, zA, zG, zB, zH, zI, zC, zJ, zK, zL, zD, zE, zF, zM, zN, zO, zP, zQ, reduceCtorEq]) | refine iX ?_ ?_ <;> intro _ | refine And.intro (by omega) ?_ | refine dq ?_)
      simp [← he]
    · rw [clist_n (by omega) (by omega)] at he
      repeat' (first | (simp (disch := omega) only [push_cast, ↓reduceIte, zA, zG, zB, zH, zI, zC, zJ, zK, zL, zD, zE, zF, zM, zN, zO, zP, zQ, reduceCtorEq]) | refine iX ?_ ?_ <;> intro _ | refine And.intro (by omega) ?_ | refine dq ?_)
      simp [← he]
theorem texts_c (u v : Value) (a b : List ByteArray) (w : World) (hu : StS w u a) (hv : StS w v b) : FnC Try.prog 32 #[u, v] w fun r w' => r = .bool (decide (a = b)) ∧ Later w w' := by
  obtain ⟨oa, ca, rfl, g1, g2, hu, g3⟩ := hu.openM
  obtain ⟨ob, cb, rfl, k1, k2, hv, k3⟩ := hv.openM
  refine enter32 _ _ ?_
  unfold B32
  by_cases hlen : a.length = b.length
  · repeat' (first | (simp (disch := omega) only [push_cast, ↓reduceIte, zA, zG, zB, zH, zI, zC, zJ, zK, zL, zD, zE, zF, zM, zN, zO, zP, zQ, reduceCtorEq]) | refine iX ?_ ?_ <;> intro _ | refine And.intro (by omega) ?_ | refine dq ?_)
    refine vc_loop W32_0 (fun i : Nat => [(4, .bool false), (5, .int .i64 (i : Int))])
      (fun i w' => i ≤ a.length ∧ Later w w' ∧ a.take i = b.take i) (fun i => a.length - i) 0 (by decide) ?_ ?_ ?_
    · simp (disch := omega) only [push_cast, ↓reduceIte, zA, zG, zB, zH, zI, zC, zJ, zK, zL, zD, zE, zF, zM, zN, zO, zP, zQ, reduceCtorEq]
    · exact ⟨by omega, Later.refl _, by simp⟩
    rintro i uu w0 ⟨hi, hl, he⟩
    by_cases ha : i < a.length
    · have hb : i < b.length := by omega
      obtain ⟨aa, rfl⟩ := hu.some ha
      obtain ⟨bb, rfl⟩ := hv.some hb
      have c1 := StS.atS (hu.later hl) ha
      have c2 := StS.atS (hv.later hl) hb
      by_cases hab : a[i] = b[i]
      · repeat' (first | (simp (disch := omega) only [push_cast, ↓reduceIte, zA, zG, zB, zH, zI, zC, zJ, zK, zL, zD, zE, zF, zM, zN, zO, zP, zQ, reduceCtorEq, c1, c2, hab, decide_true, Bool.not_true]) | refine iX ?_ ?_ <;> intro _ | refine And.intro (by omega) ?_ | refine dq ?_)
        intro w1 hl1
        repeat' (first | (simp (disch := omega) only [push_cast, ↓reduceIte, zA, zG, zB, zH, zI, zC, zJ, zK, zL, zD, zE, zF, zM, zN, zO, zP, zQ, reduceCtorEq]) | refine iX ?_ ?_ <;> intro _ | refine And.intro (by omega) ?_ | refine dq ?_)
        refine ⟨rfl, i + 1, by simp (disch := omega) only [push_cast, ↓reduceIte, zA, zG, zB, zH, zI, zC, zJ, zK, zL, zD, zE, zF, zM, zN, zO, zP, zQ, reduceCtorEq], ⟨by omega, hl.trans hl1, ?_⟩, by simp; omega⟩
        rw [take_snoc a i ha, take_snoc b i hb, he, hab]
      · have hne : a ≠ b := fun e => by subst e; exact hab rfl
        repeat' (first | (simp (disch := omega) only [push_cast, ↓reduceIte, zA, zG, zB, zH, zI, zC, zJ, zK, zL, zD, zE, zF, zM, zN, zO, zP, zQ, reduceCtorEq, c1, c2, hab, decide_false, Bool.not_false]) | refine iX ?_ ?_ <;> intro _ | refine And.intro (by omega) ?_ | refine dq ?_)
        intro w1 hl1
        repeat' (first | (simp (disch := omega) only [push_cast, ↓reduceIte, zA, zG, zB, zH, zI, zC, zJ, zK, zL, zD, zE, zF, zM, zN, zO, zP, zQ, reduceCtorEq]) | refine iX ?_ ?_ <;> intro _ | refine And.intro (by omega) ?_ | refine dq ?_)
        simp [hne, hl.trans hl1]
    · have e : i = a.length := by omega
      subst e
      rw [List.take_length, hlen, List.take_length] at he
      repeat' (first | (simp (disch := omega) only [push_cast, ↓reduceIte, zA, zG, zB, zH, zI, zC, zJ, zK, zL, zD, zE, zF, zM, zN, zO, zP, zQ, reduceCtorEq]) | refine iX ?_ ?_ <;> intro _ | refine And.intro (by omega) ?_ | refine dq ?_)
      simp [he, hl]
  · have hne : a ≠ b := fun e => by subst e; exact hlen rfl
    repeat' (first | (simp (disch := omega) only [push_cast, ↓reduceIte, zA, zG, zB, zH, zI, zC, zJ, zK, zL, zD, zE, zF, zM, zN, zO, zP, zQ, reduceCtorEq]) | refine iX ?_ ?_ <;> intro _ | refine And.intro (by omega) ?_ | refine dq ?_)
    simp [hne, Later.refl]
end Go.Proofs.Ytnofalhkapmcnaa
end
section
set_option linter.unusedSimpArgs false
namespace Go.Proofs.Ytnofalhkapmcnaa
open Go.Vc Go.Key
set_option maxRecDepth 100000
def vlB (b : UInt8) : Bool := decide (32 ≤ b.toNat) && decide (b.toNat ≤ 126) && !decide (b.toNat = 34) && !decide (b.toNat = 92)
def VlOk (s : ByteArray) : Prop := (∀ i (h : i < s.size), vlB s[i] = true) ∧ s.size ≤ 24
instance (s : ByteArray) : Decidable (VlOk s) := inferInstanceAs (Decidable ((∀ i (h : i < s.size), vlB s[i] = true) ∧ s.size ≤ 24))
theorem dvalue_c (s : ByteArray) (w : World) (hs : s.size ≤ 9223372036854775807) : FnC Try.prog 127 #[.string s] w fun r w' => r = .bool (decide (VlOk s)) ∧ w' = w := by
  refine enter127 _ ?_
  unfold B127
  repeat' (first | (simp (disch := omega) only [push_cast, ↓reduceIte, zA, zG, zB, zH, zI, zC, zJ, zK, zL, zD, zE, zF, zM, zN, zO, zP, zQ, reduceCtorEq]) | refine iX ?_ ?_ <;> intro _ | refine And.intro (by omega) ?_ | refine dq ?_)
  refine vc_loop W127_0 (fun i : Nat => [(2, .bool false), (3, .int .i64 (i : Int))])
    (fun i w' => i ≤ s.size ∧ w' = w ∧ ∀ j (h : j < s.size), j < i → vlB s[j] = true) (fun i => s.size - i) 0 (by decide) ?_ ?_ ?_
  · simp (disch := omega) only [push_cast, ↓reduceIte, zA, zG, zB, zH, zI, zC, zJ, zK, zL, zD, zE, zF, zM, zN, zO, zP, zQ, reduceCtorEq]
  · exact ⟨by omega, rfl, fun j _ hj => absurd hj (Nat.not_lt_zero _)⟩
  rintro i uu w0 ⟨hi, h0, hA⟩
  obtain rfl := h0.symm
  by_cases hlt : i < s.size
  · have hg : s[i]? = some s[i] := getElem?_pos s i hlt
    by_cases hv : vlB s[i] = true
    · have hv' := hv
      simp only [vlB, Bool.and_eq_true, decide_eq_true_eq, Bool.not_eq_true', decide_eq_false_iff_not] at hv'
      repeat' (first | (simp (disch := omega) only [push_cast, ↓reduceIte, zA, zG, zB, zH, zI, zC, zJ, zK, zL, zD, zE, zF, zM, zN, zO, zP, zQ, reduceCtorEq, hg]) | refine iX ?_ ?_ <;> intro _ | refine And.intro (by omega) ?_ | refine dq ?_)
      refine ⟨rfl, i + 1, by simp (disch := omega) only [push_cast, ↓reduceIte, zA, zG, zB, zH, zI, zC, zJ, zK, zL, zD, zE, zF, zM, zN, zO, zP, zQ, reduceCtorEq], ⟨by omega, rfl, fun j hj hji => ?_⟩, by dsimp only; omega⟩
      by_cases h : j < i
      · exact hA j hj h
      · have : j = i := by omega
        subst this
        exact hv
    · have hno : decide (VlOk s) = false := decide_eq_false fun h => hv (h.1 i hlt)
      have hv' : ¬ (32 ≤ s[i].toNat ∧ s[i].toNat ≤ 126 ∧ ¬ s[i].toNat = 34 ∧ ¬ s[i].toNat = 92) := by
        intro hh
        apply hv
        simp only [vlB, Bool.and_eq_true, decide_eq_true_eq, Bool.not_eq_true', decide_eq_false_iff_not]
        exact ⟨⟨⟨hh.1, hh.2.1⟩, hh.2.2.1⟩, hh.2.2.2⟩
      repeat' (first | (simp (disch := omega) only [push_cast, ↓reduceIte, zA, zG, zB, zH, zI, zC, zJ, zK, zL, zD, zE, zF, zM, zN, zO, zP, zQ, reduceCtorEq, hg]) | refine iX ?_ ?_ <;> intro _ | refine And.intro (by omega) ?_ | refine dq ?_)
      all_goals first
        | exact ⟨by rw [hno], trivial⟩
        | exact ⟨by rw [hno], rfl⟩
        | (rw [hno])
        | (exfalso; omega)
  · by_cases h24 : s.size ≤ 24
    · have hyes : decide (VlOk s) = true := decide_eq_true ⟨fun j hj => hA j hj (by omega), h24⟩
      repeat' (first | (simp (disch := omega) only [push_cast, ↓reduceIte, zA, zG, zB, zH, zI, zC, zJ, zK, zL, zD, zE, zF, zM, zN, zO, zP, zQ, reduceCtorEq]) | refine iX ?_ ?_ <;> intro _ | refine And.intro (by omega) ?_ | refine dq ?_)
      rw [hyes]
      exact congrArg Value.bool (decide_eq_true (by omega))
    · have hno : decide (VlOk s) = false := decide_eq_false fun h => h24 h.2
      repeat' (first | (simp (disch := omega) only [push_cast, ↓reduceIte, zA, zG, zB, zH, zI, zC, zJ, zK, zL, zD, zE, zF, zM, zN, zO, zP, zQ, reduceCtorEq]) | refine iX ?_ ?_ <;> intro _ | refine And.intro (by omega) ?_ | refine dq ?_)
      rw [hno]
      exact congrArg Value.bool (decide_eq_false (by omega))
def wordsL : List ByteArray := [⟨#[99, 111, 117, 110, 116]⟩, ⟨#[115, 117, 109]⟩, ⟨#[109, 105, 110]⟩, ⟨#[109, 97, 120]⟩, ⟨#[102, 114, 111, 109]⟩, ⟨#[116, 111]⟩, ⟨#[98, 121]⟩, ⟨#[101, 118, 101, 114, 121]⟩, ⟨#[119, 104, 101, 114, 101]⟩, ⟨#[104, 97, 118, 105, 110, 103]⟩, ⟨#[111, 114, 100, 101, 114]⟩, ⟨#[108, 105, 109, 105, 116]⟩, ⟨#[97, 110, 100]⟩, ⟨#[111, 114]⟩, ⟨#[110, 111, 116]⟩, ⟨#[105, 115]⟩, ⟨#[110, 117, 108, 108]⟩, ⟨#[97, 115, 99]⟩, ⟨#[100, 101, 115, 99]⟩, ⟨#[115, 101, 108, 101, 99, 116]⟩]
theorem words_c (w : World) : FnC Try.prog 126 #[] w fun r w' => StS w' r wordsL ∧ Later w w' := by
  refine enter126 ?_
  unfold B126
  repeat' (first | (simp (disch := omega) only [push_cast, ↓reduceIte, zA, zG, zB, zH, zI, zC, zJ, zK, zL, zD, zE, zF, zM, zN, zO, zP, zQ, reduceCtorEq]) | refine iX ?_ ?_ <;> intro _ | refine And.intro (by omega) ?_ | refine dq ?_)
  exact ⟨Sl.of_blk (xs := wordsL.map Value.string) (Blk.new w _ _) rfl (by unfold maxLen; omega), later_alloc _ _⟩
def nmB (i : Nat) (b : UInt8) : Prop := (97 ≤ b.toNat ∧ b.toNat ≤ 122) ∨ (i ≠ 0 ∧ ((48 ≤ b.toNat ∧ b.toNat ≤ 57) ∨ b.toNat = 95))
instance (i : Nat) (b : UInt8) : Decidable (nmB i b) := inferInstanceAs (Decidable (_ ∨ _))
def NmOk (s : ByteArray) : Prop := (∀ x ∈ wordsL, x ≠ s) ∧ (∀ i (h : i < s.size), nmB i s[i]) ∧ 1 ≤ s.size ∧ s.size ≤ 12
instance (s : ByteArray) : Decidable (NmOk s) := inferInstanceAs (Decidable ((∀ x ∈ wordsL, x ≠ s) ∧ (∀ i (h : i < s.size), nmB i s[i]) ∧ 1 ≤ s.size ∧ s.size ≤ 12))
theorem dname_c (s : ByteArray) (w : World) (hs : s.size ≤ 9223372036854775807) : FnC Try.prog 87 #[.string s] w fun r w' => r = .bool (decide (NmOk s)) ∧ Later w w' := by
  refine enter87 _ ?_
  unfold B87
  repeat' (first | (simp (disch := omega) only [push_cast, ↓reduceIte, zA, zG, zB, zH, zI, zC, zJ, zK, zL, zD, zE, zF, zM, zN, zO, zP, zQ, reduceCtorEq]) | refine iX ?_ ?_ <;> intro _ | refine And.intro (by omega) ?_ | refine dq ?_)
  refine (words_c w).mono ?_
  rintro v w1 ⟨hW, l1⟩
  obtain ⟨o, c, rfl⟩ := Sl.slice hW
  have hl : (wordsL.map Value.string).length = 20 := rfl
  rw [hl]
  rw [hl] at hW
  repeat' (first | (simp (disch := omega) only [push_cast, ↓reduceIte, zA, zG, zB, zH, zI, zC, zJ, zK, zL, zD, zE, zF, zM, zN, zO, zP, zQ, reduceCtorEq]) | refine iX ?_ ?_ <;> intro _ | refine And.intro (by omega) ?_ | refine dq ?_)
  refine vc_loop W87_0 (fun i : Nat => [(2, .bool false), (4, .int .i64 (i : Int))])
    (fun i w' => i ≤ 20 ∧ Later w1 w' ∧ ∀ j (h : j < wordsL.length), j < i → wordsL[j] ≠ s) (fun i => 20 - i) 0 (by decide) ?_ ?_ ?_
  · simp (disch := omega) only [push_cast, ↓reduceIte, zA, zG, zB, zH, zI, zC, zJ, zK, zL, zD, zE, zF, zM, zN, zO, zP, zQ, reduceCtorEq]
  · exact ⟨by omega, Later.refl _, fun j _ hj => absurd hj (Nat.not_lt_zero _)⟩
  rintro i uu w2 ⟨hi, l2, hA⟩
  by_cases hlt : i < wordsL.length
  · have hlt' : i < 20 := hlt
    cases o with
    | none => have := Sl.len hW; simp [wordsL] at this
    | some a =>
    have hc := StS.atS (Sl.later hW l2) hlt
    by_cases hv : wordsL[i] = s
    · have hno : decide (NmOk s) = false := decide_eq_false fun h => h.1 _ (List.getElem_mem hlt) hv
      repeat' (first | (simp (disch := omega) only [push_cast, ↓reduceIte, zA, zG, zB, zH, zI, zC, zJ, zK, zL, zD, zE, zF, zM, zN, zO, zP, zQ, reduceCtorEq, hc, hv, decide_true]) | refine iX ?_ ?_ <;> intro _ | refine And.intro (by omega) ?_ | refine dq ?_)
      first | exact ⟨by rw [hno], (l1.trans l2)⟩ | exact (l1.trans l2)
    · repeat' (first | (simp (disch := omega) only [push_cast, ↓reduceIte, zA, zG, zB, zH, zI, zC, zJ, zK, zL, zD, zE, zF, zM, zN, zO, zP, zQ, reduceCtorEq, hc, hv, decide_false]) | refine iX ?_ ?_ <;> intro _ | refine And.intro (by omega) ?_ | refine dq ?_)
      refine ⟨rfl, i + 1, by simp (disch := omega) only [push_cast, ↓reduceIte, zA, zG, zB, zH, zI, zC, zJ, zK, zL, zD, zE, zF, zM, zN, zO, zP, zQ, reduceCtorEq], ⟨by omega, l2, fun j hj hji => ?_⟩, by dsimp only; omega⟩
      by_cases h : j < i
      · exact hA j hj h
      · have : j = i := by omega
        subst this
        exact hv
  have hi20 : i = 20 := by have : wordsL.length = 20 := rfl; omega
  subst hi20
  have hmem : ∀ x ∈ wordsL, x ≠ s := by
    intro x hm
    obtain ⟨j, hj, rfl⟩ := List.getElem_of_mem hm
    exact hA j hj hj
  have l12 := l1.trans l2
  repeat' (first | (simp (disch := omega) only [push_cast, ↓reduceIte, zA, zG, zB, zH, zI, zC, zJ, zK, zL, zD, zE, zF, zM, zN, zO, zP, zQ, reduceCtorEq]) | refine iX ?_ ?_ <;> intro _ | refine And.intro (by omega) ?_ | refine dq ?_)
  refine vc_loop W87_1 (fun i : Nat => [(2, .bool false), (5, .int .i64 (i : Int))])
    (fun i w' => i ≤ s.size ∧ w' = w2 ∧ ∀ j (h : j < s.size), j < i → nmB j s[j]) (fun i => s.size - i) 0 (by decide) ?_ ?_ ?_
  · simp (disch := omega) only [push_cast, ↓reduceIte, zA, zG, zB, zH, zI, zC, zJ, zK, zL, zD, zE, zF, zM, zN, zO, zP, zQ, reduceCtorEq]
  · exact ⟨by omega, rfl, fun j _ hj => absurd hj (Nat.not_lt_zero _)⟩
  rintro i uu2 w0 ⟨hi, h0, hB⟩
  obtain rfl := h0.symm
  by_cases hlt : i < s.size
  · have hg : s[i]? = some s[i] := getElem?_pos s i hlt
    have hno : ¬ nmB i s[i] → decide (NmOk s) = false := fun hv => decide_eq_false fun h => hv (h.2.1 i hlt)
    have hyes : nmB i s[i] → ∀ j (h : j < s.size), j < i + 1 → nmB j s[j] := by
      intro hv j hj hji
      by_cases h : j < i
      · exact hB j hj h
      · have : j = i := by omega
        subst this
        exact hv
    generalize hN : nmB i s[i] = N at hno hyes
    unfold nmB at hN
    generalize s[i] = ch at *
    repeat' (first | (simp (disch := omega) only [push_cast, ↓reduceIte, zA, zG, zB, zH, zI, zC, zJ, zK, zL, zD, zE, zF, zM, zN, zO, zP, zQ, reduceCtorEq, hg]) | refine iX ?_ ?_ <;> intro _ | refine And.intro (by omega) ?_ | refine dq ?_)
    all_goals first
      | (have hn : ¬ N := by rw [← hN]; omega
         first | exact ⟨by rw [hno hn], l12⟩ | (rw [hno hn]))
      | (have hn : N := by rw [← hN]; omega
         exact ⟨rfl, i + 1, by simp (disch := omega) only [push_cast, ↓reduceIte, zA, zG, zB, zH, zI, zC, zJ, zK, zL, zD, zE, zF, zM, zN, zO, zP, zQ, reduceCtorEq], ⟨by omega, rfl, hyes hn⟩, by dsimp only; omega⟩)
  · have hall : ∀ j (h : j < s.size), nmB j s[j] := fun j hj => hB j hj (by omega)
    have hd : decide (NmOk s) = (decide (1 ≤ s.size) && decide (s.size ≤ 12)) := by
      rw [← Bool.decide_and]
      exact decide_eq_decide.2 ⟨fun h => h.2.2, fun h => ⟨hmem, hall, h⟩⟩
    by_cases h1 : 1 ≤ s.size
    · by_cases h2 : s.size ≤ 12
      · rw [hd, decide_eq_true h1, decide_eq_true h2]
        repeat' (first | (simp (disch := omega) only [push_cast, ↓reduceIte, zA, zG, zB, zH, zI, zC, zJ, zK, zL, zD, zE, zF, zM, zN, zO, zP, zQ, reduceCtorEq]) | refine iX ?_ ?_ <;> intro _ | refine And.intro (by omega) ?_ | refine dq ?_)
        first | exact ⟨congrArg Value.bool (decide_eq_true (by omega)), l12⟩ | exact l12
      · rw [hd, decide_eq_true h1, decide_eq_false h2]
        repeat' (first | (simp (disch := omega) only [push_cast, ↓reduceIte, zA, zG, zB, zH, zI, zC, zJ, zK, zL, zD, zE, zF, zM, zN, zO, zP, zQ, reduceCtorEq]) | refine iX ?_ ?_ <;> intro _ | refine And.intro (by omega) ?_ | refine dq ?_)
        first | exact ⟨congrArg Value.bool (decide_eq_false (by omega)), l12⟩ | exact l12
    · rw [hd, decide_eq_false h1]
      repeat' (first | (simp (disch := omega) only [push_cast, ↓reduceIte, zA, zG, zB, zH, zI, zC, zJ, zK, zL, zD, zE, zF, zM, zN, zO, zP, zQ, reduceCtorEq]) | refine iX ?_ ?_ <;> intro _ | refine And.intro (by omega) ?_ | refine dq ?_)
      first | exact ⟨rfl, l12⟩ | exact l12
def F10 (l : List ByteArray) : Prop := l.length ≤ 20 ∧ ∀ s ∈ l, s.size ≤ 80
instance (l : List ByteArray) : Decidable (F10 l) := inferInstanceAs (Decidable (_ ∧ _))
theorem fits10_c (v : Value) (l : List ByteArray) (w : World) (h : StS w v l) (hs : ∀ s ∈ l, s.size ≤ 9223372036854775807) : FnC Try.prog 53 #[v] w fun r w' => r = .bool (decide (F10 l)) ∧ w' = w := by
  obtain ⟨o, c, rfl⟩ := Sl.slice h
  rw [List.length_map] at h ⊢
  refine enter53 _ ?_
  unfold B53
  have hbig := (Sl.len h).2.1
  have hbig2 := (Sl.len h).2.2.1
  unfold maxLen at hbig2
  repeat' (first | (simp (disch := omega) only [push_cast, ↓reduceIte, zA, zG, zB, zH, zI, zC, zJ, zK, zL, zD, zE, zF, zM, zN, zO, zP, zQ, reduceCtorEq]) | refine iX ?_ ?_ <;> intro _ | refine And.intro (by omega) ?_ | refine dq ?_)
  refine vc_loop W53_0 (fun i : Nat => [(2, .bool false), (3, .int .i64 (i : Int))])
    (fun i w' => i ≤ l.length ∧ i ≤ 20 ∧ w' = w ∧ ∀ j (h : j < l.length), j < i → l[j].size ≤ 80) (fun i => l.length - i) 0 (by decide) ?_ ?_ ?_
  · simp (disch := omega) only [push_cast, ↓reduceIte, zA, zG, zB, zH, zI, zC, zJ, zK, zL, zD, zE, zF, zM, zN, zO, zP, zQ, reduceCtorEq]
  · exact ⟨by omega, by omega, rfl, fun j _ hj => absurd hj (Nat.not_lt_zero _)⟩
  rintro i uu w0 ⟨hi, hi20, h0, hA⟩
  obtain rfl := h0.symm
  by_cases hlt : i < l.length
  · cases o with
    | none => have := (Sl.len h).2.2.2 rfl; simp at this; rw [this.1] at hlt; simp at hlt
    | some a =>
    have hc := StS.atS h hlt
    have hz := hs _ (List.getElem_mem hlt)
    by_cases h20 : i = 20
    · have hno : decide (F10 l) = false := decide_eq_false fun h => by have := h.1; omega
      subst h20
      repeat' (first | (simp (disch := omega) only [push_cast, ↓reduceIte, zA, zG, zB, zH, zI, zC, zJ, zK, zL, zD, zE, zF, zM, zN, zO, zP, zQ, reduceCtorEq, hc]) | refine iX ?_ ?_ <;> intro _ | refine And.intro (by omega) ?_ | refine dq ?_)
      first | exact ⟨by rw [hno], trivial⟩ | (rw [hno])
    · by_cases h80 : l[i].size ≤ 80
      · repeat' (first | (simp (disch := omega) only [push_cast, ↓reduceIte, zA, zG, zB, zH, zI, zC, zJ, zK, zL, zD, zE, zF, zM, zN, zO, zP, zQ, reduceCtorEq, hc]) | refine iX ?_ ?_ <;> intro _ | refine And.intro (by omega) ?_ | refine dq ?_)
        refine ⟨rfl, i + 1, by simp (disch := omega) only [push_cast, ↓reduceIte, zA, zG, zB, zH, zI, zC, zJ, zK, zL, zD, zE, zF, zM, zN, zO, zP, zQ, reduceCtorEq], ⟨by omega, by omega, rfl, fun j hj hji => ?_⟩, by dsimp only; omega⟩
        by_cases h : j < i
        · exact hA j hj h
        · have : j = i := by omega
          subst this
          exact h80
      · have hno : decide (F10 l) = false := decide_eq_false fun h => h80 (h.2 _ (List.getElem_mem _))
        repeat' (first | (simp (disch := omega) only [push_cast, ↓reduceIte, zA, zG, zB, zH, zI, zC, zJ, zK, zL, zD, zE, zF, zM, zN, zO, zP, zQ, reduceCtorEq, hc]) | refine iX ?_ ?_ <;> intro _ | refine And.intro (by omega) ?_ | refine dq ?_)
        first | exact ⟨by rw [hno], trivial⟩ | (rw [hno])
  · have hyes : decide (F10 l) = true := decide_eq_true ⟨by omega, fun s hs => by
      obtain ⟨j, hj, rfl⟩ := List.getElem_of_mem hs
      exact hA j hj (by omega)⟩
    repeat' (first | (simp (disch := omega) only [push_cast, ↓reduceIte, zA, zG, zB, zH, zI, zC, zJ, zK, zL, zD, zE, zF, zM, zN, zO, zP, zQ, reduceCtorEq]) | refine iX ?_ ?_ <;> intro _ | refine And.intro (by omega) ?_ | refine dq ?_)
    rw [hyes]
end Go.Proofs.Ytnofalhkapmcnaa
end
