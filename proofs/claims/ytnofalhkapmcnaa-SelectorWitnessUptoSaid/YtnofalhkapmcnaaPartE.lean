/- The functions' code in the generator's form. Written by a program (codes.py) out of Lean's own print of the loaded translation. -/
import Derived.Test.YtnofalhkapmcnaaPartD
set_option linter.all false
open Nat renaming reduceEqDiff → zA, reducePow → zB, reduceMul → zC, reduceAdd → zD, reduceSub → zE, reduceLeDiff → zF
open Int renaming reduceToNat → zG, reducePow → zH, reduceNeg → zI, reduceMul → zJ, reduceAdd → zK, reduceSub → zL, reduceLT → zM, reduceLE → zN, reduceEq → zO, reduceMod → zP, reduceDiv → zQ
section
namespace Go.Proofs.Ytnofalhkapmcnaa
open Go.Vc
set_option maxRecDepth 100000
variable (Q : Post) (ds : List Deferred) (σ : Env) (w : World)
abbrev VR (r l : List VOp) : Prop := ∀ (Q : Post) (ds : List Deferred) (σ : Env) (w : World), vc Try.prog (.region r) Q ds σ w = vcOps Try.prog l (Q .normal ds) σ w
theorem vR {r l : List VOp} (h : r = l) : VR r l := fun Q ds σ w => mk_eq (by subst h; rfl)
abbrev mv (d s t : Nat) : VOp := ⟨some d, .move (.tmp s), t, none⟩
abbrev lda (d t s : Nat) : VOp := ⟨some d, .load t (.tmp s), t, none⟩
abbrev asg (d s t : Nat) : VOp := ⟨some d, .assign (.tmp s), t, none⟩
abbrev ext (d s i t : Nat) : VOp := ⟨some d, .extract (.tmp s) i, t, none⟩
abbrev fad (d t s i : Nat) : VOp := ⟨some d, .fieldAddr t (.tmp s) i, 0, none⟩
abbrev iad (d t s i : Nat) : VOp := ⟨some d, .indexAddr t (.tmp s) (.tmp i), 0, none⟩
/-! 32 columbary/columbaryref03.Texts (params #[22, 22], results #[(.tmp 4)], 26 slots) -/
def W32_0 : List Nat := [4, 5, 11, 12, 13, 14, 15, 16, 17, 18, 19, 20, 21, 22, 23, 24, 25]
@[push_cast] theorem W32_0_def : W32_0 = [4, 5, 11, 12, 13, 14, 15, 16, 17, 18, 19, 20, 21, 22, 23, 24, 25] := mk_eq rfl
def r32_0 : List VOp :=
  [⟨some 4, .assign (.const (.bool false)), 4, none⟩]
def r32_1 : List VOp :=
  [mv 6 0 22,
   ⟨some 7, .call ⟨.builtin .len, #[.tmp 6], #[22]⟩, 3, none⟩,
   mv 8 1 22,
   ⟨some 9, .call ⟨.builtin .len, #[.tmp 8], #[22]⟩, 3, none⟩,
   ⟨some 10, .binOp .neq 3 (.tmp 7) (.tmp 9) 3, 4, none⟩]
def r32_2 : List VOp :=
  [⟨some 4, .assign (.const (.bool false)), 4, none⟩]
def r32_3 : List VOp :=
  [⟨some 5, .assign (.const (.int .i64 0)), 3, none⟩]
def r32_4 : List VOp :=
  [mv 11 5 3,
   mv 12 0 22,
   ⟨some 13, .call ⟨.builtin .len, #[.tmp 12], #[22]⟩, 3, none⟩,
   ⟨some 14, .binOp .lss 3 (.tmp 11) (.tmp 13) 3, 4, none⟩]
def r32_6 : List VOp :=
  [mv 17 0 22,
   mv 18 5 3,
   iad 19 22 17 18,
   lda 20 9 19,
   mv 21 1 22,
   mv 22 5 3,
   iad 23 22 21 22,
   lda 24 9 23,
   ⟨some 25, .binOp .neq 9 (.tmp 20) (.tmp 24) 9, 4, none⟩]
def r32_7 : List VOp :=
  [⟨some 4, .assign (.const (.bool false)), 4, none⟩]
def r32_5 : List VOp :=
  [mv 15 5 3,
   ⟨some 16, .binOp .add 3 (.tmp 15) (.const (.int .i64 1)) 3, 3, none⟩,
   asg 5 16 3]
def r32_8 : List VOp :=
  [⟨some 4, .assign (.const (.bool true)), 4, none⟩]
def B32 : VC :=
  (.seq (.region r32_0) (.seq (.seq (.region r32_1) (.cond (.tmp 10) (.seq (.region r32_2) .ret) .skip)) (.seq (.seq (.region r32_3) (.block 0 (.loop (.seq (.seq (.region r32_4) (.cond (.tmp 14) .skip (.exit 0))) (.seq (.block 1 (.seq (.draw r32_6 2) (.cond (.tmp 25) (.seq (.region r32_7) .ret) .skip))) (.region r32_5)))))) (.seq (.region r32_8) .ret))))
theorem code32 : ∃ c, Try.f32.body = some c ∧ abs Try.f32.ntmps c = B32 := ⟨_, rfl, by kernel_rfl⟩
theorem hb32 : HasBody Try.prog 32 := hasBody_of Try.func32 (by kernel_rfl)
theorem res32 : Try.f32.results = #[(.tmp 4)] := rfl
theorem enter32 {w : World} {R : Value → World → Prop} (x0 x1 : Value) (h : vc Try.prog B32 (retK Try.prog #[(.tmp 4)] R) [] (initEnv [x0, x1] 0) w) : FnC Try.prog 32 #[x0, x1] w R := by
  obtain ⟨c, h1, h2⟩ := code32
  exact hb32.fn (ret_of_vc mixed Try.func32 h1 (Nat.le_of_ble_eq_true rfl) B32 h2 h)
@[push_cast] theorem vr32_0 : VR r32_0 [⟨some 4, .assign (.const (.bool false)), 4, none⟩] := vR rfl
@[push_cast] theorem vr32_1 : VR r32_1 [⟨some 6, .move (.tmp 0), 22, none⟩, ⟨some 7, .call ⟨.builtin .len, #[.tmp 6], #[22]⟩, 3, none⟩, ⟨some 8, .move (.tmp 1), 22, none⟩, ⟨some 9, .call ⟨.builtin .len, #[.tmp 8], #[22]⟩, 3, none⟩, ⟨some 10, .binOp .neq 3 (.tmp 7) (.tmp 9) 3, 4, none⟩] := vR rfl
@[push_cast] theorem vr32_2 : VR r32_2 [⟨some 4, .assign (.const (.bool false)), 4, none⟩] := vR rfl
@[push_cast] theorem vr32_3 : VR r32_3 [⟨some 5, .assign (.const (.int .i64 0)), 3, none⟩] := vR rfl
@[push_cast] theorem vr32_4 : VR r32_4 [⟨some 11, .move (.tmp 5), 3, none⟩, ⟨some 12, .move (.tmp 0), 22, none⟩, ⟨some 13, .call ⟨.builtin .len, #[.tmp 12], #[22]⟩, 3, none⟩, ⟨some 14, .binOp .lss 3 (.tmp 11) (.tmp 13) 3, 4, none⟩] := vR rfl
@[push_cast] theorem vr32_6 : vc Try.prog (.draw r32_6 2) Q ds σ w = drawn Try.prog [(⟨some 17, .move (.tmp 0), 22, none⟩, [0]), (⟨some 18, .move (.tmp 5), 3, none⟩, [5]), (⟨some 19, .indexAddr 22 (.tmp 17) (.tmp 18), 0, none⟩, [17, 18]), (⟨some 20, .load 9 (.tmp 19), 9, none⟩, [19]), (⟨some 21, .move (.tmp 1), 22, none⟩, [1]), (⟨some 22, .move (.tmp 5), 3, none⟩, [5]), (⟨some 23, .indexAddr 22 (.tmp 21) (.tmp 22), 0, none⟩, [21, 22]), (⟨some 24, .load 9 (.tmp 23), 9, none⟩, [23]), (⟨some 25, .binOp .neq 9 (.tmp 20) (.tmp 24) 9, 4, none⟩, [20, 24])] 2 (Q .normal ds) σ w := mk_eq rfl
@[push_cast] theorem vr32_7 : VR r32_7 [⟨some 4, .assign (.const (.bool false)), 4, none⟩] := vR rfl
@[push_cast] theorem vr32_5 : VR r32_5 [⟨some 15, .move (.tmp 5), 3, none⟩, ⟨some 16, .binOp .add 3 (.tmp 15) (.const (.int .i64 1)) 3, 3, none⟩, ⟨some 5, .assign (.tmp 16), 3, none⟩] := vR rfl
@[push_cast] theorem vr32_8 : VR r32_8 [⟨some 4, .assign (.const (.bool true)), 4, none⟩] := vR rfl
/-! 43 columbary/columbaryref10.Find (params #[22, 9], results #[(.tmp 4), (.tmp 5)], 20 slots) -/
def W43_0 : List Nat := [4, 5, 6, 7, 8, 9, 10, 11, 12, 13, 14, 15, 16, 17, 18, 19]
@[push_cast] theorem W43_0_def : W43_0 = [4, 5, 6, 7, 8, 9, 10, 11, 12, 13, 14, 15, 16, 17, 18, 19] := mk_eq rfl
def r43_0 : List VOp :=
  [⟨some 4, .assign (.const (.int .i64 0)), 3, none⟩,
   ⟨some 5, .assign (.const (.bool false)), 4, none⟩]
def r43_1 : List VOp :=
  [⟨some 6, .assign (.const (.int .i64 0)), 3, none⟩]
def r43_2 : List VOp :=
  [mv 7 6 3,
   mv 8 0 22,
   ⟨some 9, .call ⟨.builtin .len, #[.tmp 8], #[22]⟩, 3, none⟩,
   ⟨some 10, .binOp .lss 3 (.tmp 7) (.tmp 9) 3, 4, none⟩]
def r43_4 : List VOp :=
  [mv 13 0 22,
   mv 14 6 3,
   iad 15 22 13 14,
   lda 16 9 15,
   mv 17 1 9,
   ⟨some 18, .binOp .eql 9 (.tmp 16) (.tmp 17) 9, 4, none⟩]
def r43_5 : List VOp :=
  [mv 19 6 3,
   asg 4 19 3,
   ⟨some 5, .assign (.const (.bool true)), 4, none⟩]
def r43_3 : List VOp :=
  [mv 11 6 3,
   ⟨some 12, .binOp .add 3 (.tmp 11) (.const (.int .i64 1)) 3, 3, none⟩,
   asg 6 12 3]
def r43_6 : List VOp :=
  [⟨some 4, .assign (.const (.int .i64 0)), 3, none⟩,
   ⟨some 5, .assign (.const (.bool false)), 4, none⟩]
def B43 : VC :=
  (.seq (.region r43_0) (.seq (.seq (.region r43_1) (.block 0 (.loop (.seq (.seq (.region r43_2) (.cond (.tmp 10) .skip (.exit 0))) (.seq (.block 1 (.seq (.region r43_4) (.cond (.tmp 18) (.seq (.region r43_5) .ret) .skip))) (.region r43_3)))))) (.seq (.region r43_6) .ret)))
theorem code43 : ∃ c, Try.f43.body = some c ∧ abs Try.f43.ntmps c = B43 := ⟨_, rfl, by kernel_rfl⟩
theorem hb43 : HasBody Try.prog 43 := hasBody_of Try.func43 (by kernel_rfl)
theorem res43 : Try.f43.results = #[(.tmp 4), (.tmp 5)] := rfl
theorem enter43 {w : World} {R : Value → World → Prop} (x0 x1 : Value) (h : vc Try.prog B43 (retK Try.prog #[(.tmp 4), (.tmp 5)] R) [] (initEnv [x0, x1] 0) w) : FnC Try.prog 43 #[x0, x1] w R := by
  obtain ⟨c, h1, h2⟩ := code43
  exact hb43.fn (ret_of_vc mixed Try.func43 h1 (Nat.le_of_ble_eq_true rfl) B43 h2 h)
@[push_cast] theorem vr43_0 : VR r43_0 [⟨some 4, .assign (.const (.int .i64 0)), 3, none⟩, ⟨some 5, .assign (.const (.bool false)), 4, none⟩] := vR rfl
@[push_cast] theorem vr43_1 : VR r43_1 [⟨some 6, .assign (.const (.int .i64 0)), 3, none⟩] := vR rfl
@[push_cast] theorem vr43_2 : VR r43_2 [⟨some 7, .move (.tmp 6), 3, none⟩, ⟨some 8, .move (.tmp 0), 22, none⟩, ⟨some 9, .call ⟨.builtin .len, #[.tmp 8], #[22]⟩, 3, none⟩, ⟨some 10, .binOp .lss 3 (.tmp 7) (.tmp 9) 3, 4, none⟩] := vR rfl
@[push_cast] theorem vr43_4 : VR r43_4 [⟨some 13, .move (.tmp 0), 22, none⟩, ⟨some 14, .move (.tmp 6), 3, none⟩, ⟨some 15, .indexAddr 22 (.tmp 13) (.tmp 14), 0, none⟩, ⟨some 16, .load 9 (.tmp 15), 9, none⟩, ⟨some 17, .move (.tmp 1), 9, none⟩, ⟨some 18, .binOp .eql 9 (.tmp 16) (.tmp 17) 9, 4, none⟩] := vR rfl
@[push_cast] theorem vr43_5 : VR r43_5 [⟨some 19, .move (.tmp 6), 3, none⟩, ⟨some 4, .assign (.tmp 19), 3, none⟩, ⟨some 5, .assign (.const (.bool true)), 4, none⟩] := vR rfl
@[push_cast] theorem vr43_3 : VR r43_3 [⟨some 11, .move (.tmp 6), 3, none⟩, ⟨some 12, .binOp .add 3 (.tmp 11) (.const (.int .i64 1)) 3, 3, none⟩, ⟨some 6, .assign (.tmp 12), 3, none⟩] := vR rfl
@[push_cast] theorem vr43_6 : VR r43_6 [⟨some 4, .assign (.const (.int .i64 0)), 3, none⟩, ⟨some 5, .assign (.const (.bool false)), 4, none⟩] := vR rfl
/-! 50 cmp.Or[int] (params #[29], results #[(.tmp 2)], 18 slots) -/
def W50_0 : List Nat := [2, 5, 8, 9, 10, 11, 12, 13, 14, 15, 16]
@[push_cast] theorem W50_0_def : W50_0 = [2, 5, 8, 9, 10, 11, 12, 13, 14, 15, 16] := mk_eq rfl
def r50_0 : List VOp :=
  [⟨some 2, .assign (.const (.int .i64 0)), 3, none⟩]
def r50_1 : List VOp :=
  [⟨some 3, .assign (.const (.int .i64 0)), 3, none⟩]
def r50_2 : List VOp :=
  [mv 6 0 29,
   ⟨some 7, .call ⟨.builtin .len, #[.tmp 6], #[29]⟩, 3, none⟩,
   ⟨some 8, .move (.const (.int .i64 0)), 3, none⟩]
def r50_3 : List VOp :=
  [⟨some 9, .binOp .lss 3 (.tmp 8) (.tmp 7) 3, 0, none⟩]
def r50_4 : List VOp :=
  [iad 10 29 6 8,
   lda 11 3 10,
   asg 5 11 3]
def r50_5 : List VOp :=
  [mv 12 5 3,
   mv 13 3 3,
   ⟨some 14, .binOp .neq 3 (.tmp 12) (.tmp 13) 3, 4, none⟩]
def r50_6 : List VOp :=
  [mv 15 5 3,
   asg 2 15 3]
def r50_7 : List VOp :=
  [⟨some 16, .binOp .add 3 (.tmp 8) (.const (.int .i64 1)) 3, 3, none⟩,
   mv 8 16 3]
def r50_8 : List VOp :=
  [mv 17 3 3,
   asg 2 17 3]
def B50 : VC :=
  (.seq (.region r50_0) (.seq (.region r50_1) (.seq (.seq (.region r50_2) (.block 0 (.loop (.seq (.region r50_3) (.seq (.cond (.tmp 9) .skip (.exit 0)) (.seq (.block 1 (.seq (.region r50_4) (.seq (.region r50_5) (.cond (.tmp 14) (.seq (.region r50_6) .ret) .skip)))) (.region r50_7))))))) (.seq (.region r50_8) .ret))))
theorem code50 : ∃ c, Try.f50.body = some c ∧ abs Try.f50.ntmps c = B50 := ⟨_, rfl, by kernel_rfl⟩
theorem hb50 : HasBody Try.prog 50 := hasBody_of Try.func50 (by kernel_rfl)
theorem res50 : Try.f50.results = #[(.tmp 2)] := rfl
theorem enter50 {w : World} {R : Value → World → Prop} (x0 : Value) (h : vc Try.prog B50 (retK Try.prog #[(.tmp 2)] R) [] (initEnv [x0] 0) w) : FnC Try.prog 50 #[x0] w R := by
  obtain ⟨c, h1, h2⟩ := code50
  exact hb50.fn (ret_of_vc mixed Try.func50 h1 (Nat.le_of_ble_eq_true rfl) B50 h2 h)
@[push_cast] theorem vr50_0 : VR r50_0 [⟨some 2, .assign (.const (.int .i64 0)), 3, none⟩] := vR rfl
@[push_cast] theorem vr50_1 : VR r50_1 [⟨some 3, .assign (.const (.int .i64 0)), 3, none⟩] := vR rfl
@[push_cast] theorem vr50_2 : VR r50_2 [⟨some 6, .move (.tmp 0), 29, none⟩, ⟨some 7, .call ⟨.builtin .len, #[.tmp 6], #[29]⟩, 3, none⟩, ⟨some 8, .move (.const (.int .i64 0)), 3, none⟩] := vR rfl
@[push_cast] theorem vr50_3 : VR r50_3 [⟨some 9, .binOp .lss 3 (.tmp 8) (.tmp 7) 3, 0, none⟩] := vR rfl
@[push_cast] theorem vr50_4 : VR r50_4 [⟨some 10, .indexAddr 29 (.tmp 6) (.tmp 8), 0, none⟩, ⟨some 11, .load 3 (.tmp 10), 3, none⟩, ⟨some 5, .assign (.tmp 11), 3, none⟩] := vR rfl
@[push_cast] theorem vr50_5 : VR r50_5 [⟨some 12, .move (.tmp 5), 3, none⟩, ⟨some 13, .move (.tmp 3), 3, none⟩, ⟨some 14, .binOp .neq 3 (.tmp 12) (.tmp 13) 3, 4, none⟩] := vR rfl
@[push_cast] theorem vr50_6 : VR r50_6 [⟨some 15, .move (.tmp 5), 3, none⟩, ⟨some 2, .assign (.tmp 15), 3, none⟩] := vR rfl
@[push_cast] theorem vr50_7 : VR r50_7 [⟨some 16, .binOp .add 3 (.tmp 8) (.const (.int .i64 1)) 3, 3, none⟩, ⟨some 8, .move (.tmp 16), 3, none⟩] := vR rfl
@[push_cast] theorem vr50_8 : VR r50_8 [⟨some 17, .move (.tmp 3), 3, none⟩, ⟨some 2, .assign (.tmp 17), 3, none⟩] := vR rfl
/-! 51 cmp.Compare[int] (params #[3, 3], results #[(.tmp 4)], 20 slots) -/
def r51_0 : List VOp :=
  [⟨some 4, .assign (.const (.int .i64 0)), 3, none⟩]
def r51_1 : List VOp :=
  [mv 7 0 3,
   ⟨some 8, .call ⟨.value (.func 86), #[.tmp 7], #[3]⟩, 4, none⟩,
   asg 5 8 4]
def r51_2 : List VOp :=
  [mv 9 1 3,
   ⟨some 10, .call ⟨.value (.func 86), #[.tmp 9], #[3]⟩, 4, none⟩,
   asg 6 10 4]
def r51_3 : List VOp :=
  [mv 11 5 4]
def r51_4 : List VOp :=
  [mv 12 6 4]
def r51_5 : List VOp :=
  [⟨some 4, .assign (.const (.int .i64 0)), 3, none⟩]
def r51_6 : List VOp :=
  [⟨some 4, .assign (.const (.int .i64 (-1))), 3, none⟩]
def r51_7 : List VOp :=
  [mv 13 6 4]
def r51_8 : List VOp :=
  [⟨some 4, .assign (.const (.int .i64 1)), 3, none⟩]
def r51_9 : List VOp :=
  [mv 14 0 3,
   mv 15 1 3,
   ⟨some 16, .binOp .lss 3 (.tmp 14) (.tmp 15) 3, 4, none⟩]
def r51_10 : List VOp :=
  [⟨some 4, .assign (.const (.int .i64 (-1))), 3, none⟩]
def r51_11 : List VOp :=
  [mv 17 0 3,
   mv 18 1 3,
   ⟨some 19, .binOp .gtr 3 (.tmp 17) (.tmp 18) 3, 4, none⟩]
def r51_12 : List VOp :=
  [⟨some 4, .assign (.const (.int .i64 1)), 3, none⟩]
def r51_13 : List VOp :=
  [⟨some 4, .assign (.const (.int .i64 0)), 3, none⟩]
def B51 : VC :=
  (.seq (.region r51_0) (.seq (.region r51_1) (.seq (.region r51_2) (.seq (.seq (.region r51_3) (.cond (.tmp 11) (.seq (.seq (.region r51_4) (.cond (.tmp 12) (.seq (.region r51_5) .ret) .skip)) (.seq (.region r51_6) .ret)) .skip)) (.seq (.seq (.region r51_7) (.cond (.tmp 13) (.seq (.region r51_8) .ret) .skip)) (.seq (.seq (.region r51_9) (.cond (.tmp 16) (.seq (.region r51_10) .ret) .skip)) (.seq (.seq (.region r51_11) (.cond (.tmp 19) (.seq (.region r51_12) .ret) .skip)) (.seq (.region r51_13) .ret))))))))
theorem code51 : ∃ c, Try.f51.body = some c ∧ abs Try.f51.ntmps c = B51 := ⟨_, rfl, by kernel_rfl⟩
theorem hb51 : HasBody Try.prog 51 := hasBody_of Try.func51 (by kernel_rfl)
theorem res51 : Try.f51.results = #[(.tmp 4)] := rfl
theorem enter51 {w : World} {R : Value → World → Prop} (x0 x1 : Value) (h : vc Try.prog B51 (retK Try.prog #[(.tmp 4)] R) [] (initEnv [x0, x1] 0) w) : FnC Try.prog 51 #[x0, x1] w R := by
  obtain ⟨c, h1, h2⟩ := code51
  exact hb51.fn (ret_of_vc mixed Try.func51 h1 (Nat.le_of_ble_eq_true rfl) B51 h2 h)
@[push_cast] theorem vr51_0 : VR r51_0 [⟨some 4, .assign (.const (.int .i64 0)), 3, none⟩] := vR rfl
@[push_cast] theorem vr51_1 : VR r51_1 [⟨some 7, .move (.tmp 0), 3, none⟩, ⟨some 8, .call ⟨.value (.func 86), #[.tmp 7], #[3]⟩, 4, none⟩, ⟨some 5, .assign (.tmp 8), 4, none⟩] := vR rfl
@[push_cast] theorem vr51_2 : VR r51_2 [⟨some 9, .move (.tmp 1), 3, none⟩, ⟨some 10, .call ⟨.value (.func 86), #[.tmp 9], #[3]⟩, 4, none⟩, ⟨some 6, .assign (.tmp 10), 4, none⟩] := vR rfl
@[push_cast] theorem vr51_3 : VR r51_3 [⟨some 11, .move (.tmp 5), 4, none⟩] := vR rfl
@[push_cast] theorem vr51_4 : VR r51_4 [⟨some 12, .move (.tmp 6), 4, none⟩] := vR rfl
@[push_cast] theorem vr51_5 : VR r51_5 [⟨some 4, .assign (.const (.int .i64 0)), 3, none⟩] := vR rfl
@[push_cast] theorem vr51_6 : VR r51_6 [⟨some 4, .assign (.const (.int .i64 (-1))), 3, none⟩] := vR rfl
@[push_cast] theorem vr51_7 : VR r51_7 [⟨some 13, .move (.tmp 6), 4, none⟩] := vR rfl
@[push_cast] theorem vr51_8 : VR r51_8 [⟨some 4, .assign (.const (.int .i64 1)), 3, none⟩] := vR rfl
@[push_cast] theorem vr51_9 : VR r51_9 [⟨some 14, .move (.tmp 0), 3, none⟩, ⟨some 15, .move (.tmp 1), 3, none⟩, ⟨some 16, .binOp .lss 3 (.tmp 14) (.tmp 15) 3, 4, none⟩] := vR rfl
@[push_cast] theorem vr51_10 : VR r51_10 [⟨some 4, .assign (.const (.int .i64 (-1))), 3, none⟩] := vR rfl
@[push_cast] theorem vr51_11 : VR r51_11 [⟨some 17, .move (.tmp 0), 3, none⟩, ⟨some 18, .move (.tmp 1), 3, none⟩, ⟨some 19, .binOp .gtr 3 (.tmp 17) (.tmp 18) 3, 4, none⟩] := vR rfl
@[push_cast] theorem vr51_12 : VR r51_12 [⟨some 4, .assign (.const (.int .i64 1)), 3, none⟩] := vR rfl
@[push_cast] theorem vr51_13 : VR r51_13 [⟨some 4, .assign (.const (.int .i64 0)), 3, none⟩] := vR rfl
/-! 53 columbary/columbarylaw10.Fits (params #[22], results #[(.tmp 2)], 20 slots) -/
def W53_0 : List Nat := [2, 3, 4, 5, 6, 7, 8, 9, 10, 11, 12, 13, 14, 15, 16, 17, 18, 19]
@[push_cast] theorem W53_0_def : W53_0 = [2, 3, 4, 5, 6, 7, 8, 9, 10, 11, 12, 13, 14, 15, 16, 17, 18, 19] := mk_eq rfl
def r53_0 : List VOp :=
  [⟨some 2, .assign (.const (.bool false)), 4, none⟩]
def r53_1 : List VOp :=
  [⟨some 3, .assign (.const (.int .i64 0)), 3, none⟩]
def r53_2 : List VOp :=
  [mv 4 3 3,
   mv 5 0 22,
   ⟨some 6, .call ⟨.builtin .len, #[.tmp 5], #[22]⟩, 3, none⟩,
   ⟨some 7, .binOp .lss 3 (.tmp 4) (.tmp 6) 3, 4, none⟩]
def r53_4 : List VOp :=
  [mv 10 3 3,
   ⟨some 11, .binOp .eql 3 (.tmp 10) (.const (.int .i64 20)) 3, 4, none⟩,
   mv 12 11 4,
   ⟨some 13, .move (.tmp 0), 22, some (12, false)⟩,
   ⟨some 14, .move (.tmp 3), 3, some (12, false)⟩,
   ⟨some 15, .indexAddr 22 (.tmp 13) (.tmp 14), 0, some (12, false)⟩,
   ⟨some 16, .load 9 (.tmp 15), 9, some (12, false)⟩,
   ⟨some 17, .call ⟨.builtin .len, #[.tmp 16], #[9]⟩, 3, some (12, false)⟩,
   ⟨some 18, .binOp .gtr 3 (.tmp 17) (.const (.int .i64 80)) 3, 4, some (12, false)⟩,
   ⟨some 19, .pick (.tmp 12) (.const (.bool true)) (.tmp 18), 4, none⟩]
def r53_5 : List VOp :=
  [⟨some 2, .assign (.const (.bool false)), 4, none⟩]
def r53_3 : List VOp :=
  [mv 8 3 3,
   ⟨some 9, .binOp .add 3 (.tmp 8) (.const (.int .i64 1)) 3, 3, none⟩,
   asg 3 9 3]
def r53_6 : List VOp :=
  [⟨some 2, .assign (.const (.bool true)), 4, none⟩]
def B53 : VC :=
  (.seq (.region r53_0) (.seq (.seq (.region r53_1) (.block 0 (.loop (.seq (.seq (.region r53_2) (.cond (.tmp 7) .skip (.exit 0))) (.seq (.block 1 (.seq (.region r53_4) (.cond (.tmp 19) (.seq (.region r53_5) .ret) .skip))) (.region r53_3)))))) (.seq (.region r53_6) .ret)))
theorem code53 : ∃ c, Try.f53.body = some c ∧ abs Try.f53.ntmps c = B53 := ⟨_, rfl, by kernel_rfl⟩
theorem hb53 : HasBody Try.prog 53 := hasBody_of Try.func53 (by kernel_rfl)
theorem res53 : Try.f53.results = #[(.tmp 2)] := rfl
theorem enter53 {w : World} {R : Value → World → Prop} (x0 : Value) (h : vc Try.prog B53 (retK Try.prog #[(.tmp 2)] R) [] (initEnv [x0] 0) w) : FnC Try.prog 53 #[x0] w R := by
  obtain ⟨c, h1, h2⟩ := code53
  exact hb53.fn (ret_of_vc mixed Try.func53 h1 (Nat.le_of_ble_eq_true rfl) B53 h2 h)
@[push_cast] theorem vr53_0 : VR r53_0 [⟨some 2, .assign (.const (.bool false)), 4, none⟩] := vR rfl
@[push_cast] theorem vr53_1 : VR r53_1 [⟨some 3, .assign (.const (.int .i64 0)), 3, none⟩] := vR rfl
@[push_cast] theorem vr53_2 : VR r53_2 [⟨some 4, .move (.tmp 3), 3, none⟩, ⟨some 5, .move (.tmp 0), 22, none⟩, ⟨some 6, .call ⟨.builtin .len, #[.tmp 5], #[22]⟩, 3, none⟩, ⟨some 7, .binOp .lss 3 (.tmp 4) (.tmp 6) 3, 4, none⟩] := vR rfl
@[push_cast] theorem vr53_4 : VR r53_4 [⟨some 10, .move (.tmp 3), 3, none⟩, ⟨some 11, .binOp .eql 3 (.tmp 10) (.const (.int .i64 20)) 3, 4, none⟩, ⟨some 12, .move (.tmp 11), 4, none⟩, ⟨some 13, .move (.tmp 0), 22, some (12, false)⟩, ⟨some 14, .move (.tmp 3), 3, some (12, false)⟩, ⟨some 15, .indexAddr 22 (.tmp 13) (.tmp 14), 0, some (12, false)⟩, ⟨some 16, .load 9 (.tmp 15), 9, some (12, false)⟩, ⟨some 17, .call ⟨.builtin .len, #[.tmp 16], #[9]⟩, 3, some (12, false)⟩, ⟨some 18, .binOp .gtr 3 (.tmp 17) (.const (.int .i64 80)) 3, 4, some (12, false)⟩, ⟨some 19, .pick (.tmp 12) (.const (.bool true)) (.tmp 18), 4, none⟩] := vR rfl
@[push_cast] theorem vr53_5 : VR r53_5 [⟨some 2, .assign (.const (.bool false)), 4, none⟩] := vR rfl
@[push_cast] theorem vr53_3 : VR r53_3 [⟨some 8, .move (.tmp 3), 3, none⟩, ⟨some 9, .binOp .add 3 (.tmp 8) (.const (.int .i64 1)) 3, 3, none⟩, ⟨some 3, .assign (.tmp 9), 3, none⟩] := vR rfl
@[push_cast] theorem vr53_6 : VR r53_6 [⟨some 2, .assign (.const (.bool true)), 4, none⟩] := vR rfl
/-! 55 columbary/columbaryref10.Right (params #[24], results #[(.tmp 2)], 57 slots) -/
def W55_0 : List Nat := [2, 4, 5, 6, 14, 15, 16, 17, 18, 19, 20, 21, 22, 23, 24, 25, 26, 27, 28, 29, 30, 31, 32, 33, 34, 35, 36, 37, 38, 39, 40]
@[push_cast] theorem W55_0_def : W55_0 = [2, 4, 5, 6, 14, 15, 16, 17, 18, 19, 20, 21, 22, 23, 24, 25, 26, 27, 28, 29, 30, 31, 32, 33, 34, 35, 36, 37, 38, 39, 40] := mk_eq rfl
def W55_1 : List Nat := [2, 6, 27, 28, 29, 30, 31, 32, 33, 34, 35, 36, 37, 38, 39, 40]
@[push_cast] theorem W55_1_def : W55_1 = [2, 6, 27, 28, 29, 30, 31, 32, 33, 34, 35, 36, 37, 38, 39, 40] := mk_eq rfl
def r55_0 : List VOp :=
  [⟨some 1, .box 24 (.tmp 0), 0, none⟩,
   ⟨some 2, .assign (.const (.bool false)), 4, none⟩]
def r55_1 : List VOp :=
  [⟨some 7, .buildSlice 22 0 #[], 22, none⟩,
   fad 8 24 1 0,
   lda 9 22 8,
   ⟨some 10, .call ⟨.builtin .append, #[.tmp 7, .tmp 9], #[22, 22]⟩, 22, none⟩,
   fad 11 24 1 1,
   lda 12 22 11,
   ⟨some 13, .call ⟨.builtin .append, #[.tmp 10, .tmp 12], #[22, 22]⟩, 22, none⟩,
   asg 3 13 22]
def r55_2 : List VOp :=
  [⟨some 4, .assign (.const (.int .i64 0)), 3, none⟩]
def r55_3 : List VOp :=
  [mv 14 4 3,
   mv 15 3 22,
   ⟨some 16, .call ⟨.builtin .len, #[.tmp 15], #[22]⟩, 3, none⟩,
   ⟨some 17, .binOp .lss 3 (.tmp 14) (.tmp 16) 3, 4, none⟩]
def r55_5 : List VOp :=
  [mv 20 3 22,
   mv 21 4 3,
   iad 22 22 20 21,
   lda 23 9 22,
   ⟨some 24, .call ⟨.value (.func 87), #[.tmp 23], #[9]⟩, 4, none⟩,
   asg 5 24 4]
def r55_6 : List VOp :=
  [mv 25 5 4,
   ⟨some 26, .unOp .not 4 (.tmp 25), 4, none⟩]
def r55_7 : List VOp :=
  [⟨some 2, .assign (.const (.bool false)), 4, none⟩]
def r55_8 : List VOp :=
  [⟨some 6, .assign (.const (.int .i64 0)), 3, none⟩]
def r55_9 : List VOp :=
  [mv 27 6 3,
   mv 28 4 3,
   ⟨some 29, .binOp .lss 3 (.tmp 27) (.tmp 28) 3, 4, none⟩]
def r55_11 : List VOp :=
  [mv 32 3 22,
   mv 33 6 3,
   iad 34 22 32 33,
   lda 35 9 34,
   mv 36 3 22,
   mv 37 4 3,
   iad 38 22 36 37,
   lda 39 9 38,
   ⟨some 40, .binOp .eql 9 (.tmp 35) (.tmp 39) 9, 4, none⟩]
def r55_12 : List VOp :=
  [⟨some 2, .assign (.const (.bool false)), 4, none⟩]
def r55_10 : List VOp :=
  [mv 30 6 3,
   ⟨some 31, .binOp .add 3 (.tmp 30) (.const (.int .i64 1)) 3, 3, none⟩,
   asg 6 31 3]
def r55_4 : List VOp :=
  [mv 18 4 3,
   ⟨some 19, .binOp .add 3 (.tmp 18) (.const (.int .i64 1)) 3, 3, none⟩,
   asg 4 19 3]
def r55_13 : List VOp :=
  [fad 41 24 1 0,
   lda 42 22 41,
   ⟨some 43, .call ⟨.builtin .len, #[.tmp 42], #[22]⟩, 3, none⟩,
   ⟨some 44, .binOp .geq 3 (.tmp 43) (.const (.int .i64 1)) 3, 4, none⟩,
   mv 45 44 4,
   ⟨some 46, .fieldAddr 24 (.tmp 1) 0, 0, some (45, true)⟩,
   ⟨some 47, .load 22 (.tmp 46), 22, some (45, true)⟩,
   ⟨some 48, .call ⟨.builtin .len, #[.tmp 47], #[22]⟩, 3, some (45, true)⟩,
   ⟨some 49, .binOp .leq 3 (.tmp 48) (.const (.int .i64 6)) 3, 4, some (45, true)⟩,
   ⟨some 50, .pick (.tmp 45) (.tmp 49) (.const (.bool false)), 4, none⟩,
   mv 51 50 4,
   ⟨some 52, .fieldAddr 24 (.tmp 1) 1, 0, some (51, true)⟩,
   ⟨some 53, .load 22 (.tmp 52), 22, some (51, true)⟩,
   ⟨some 54, .call ⟨.builtin .len, #[.tmp 53], #[22]⟩, 3, some (51, true)⟩,
   ⟨some 55, .binOp .leq 3 (.tmp 54) (.const (.int .i64 4)) 3, 4, some (51, true)⟩,
   ⟨some 56, .pick (.tmp 51) (.tmp 55) (.const (.bool false)), 4, none⟩,
   asg 2 56 4]
def B55 : VC :=
  (.seq (.region r55_0) (.seq (.draw r55_1 3) (.seq (.seq (.region r55_2) (.block 0 (.loop (.seq (.seq (.region r55_3) (.cond (.tmp 17) .skip (.exit 0))) (.seq (.block 1 (.seq (.region r55_5) (.seq (.seq (.region r55_6) (.cond (.tmp 26) (.seq (.region r55_7) .ret) .skip)) (.seq (.region r55_8) (.block 2 (.loop (.seq (.seq (.region r55_9) (.cond (.tmp 29) .skip (.exit 2))) (.seq (.block 3 (.seq (.draw r55_11 2) (.cond (.tmp 40) (.seq (.region r55_12) .ret) .skip))) (.region r55_10))))))))) (.region r55_4)))))) (.seq (.region r55_13) .ret))))
theorem code55 : ∃ c, Try.f55.body = some c ∧ abs Try.f55.ntmps c = B55 := ⟨_, rfl, by kernel_rfl⟩
theorem hb55 : HasBody Try.prog 55 := hasBody_of Try.func55 (by kernel_rfl)
theorem res55 : Try.f55.results = #[(.tmp 2)] := rfl
theorem enter55 {w : World} {R : Value → World → Prop} (x0 : Value) (h : vc Try.prog B55 (retK Try.prog #[(.tmp 2)] R) [] (initEnv [x0] 0) w) : FnC Try.prog 55 #[x0] w R := by
  obtain ⟨c, h1, h2⟩ := code55
  exact hb55.fn (ret_of_vc mixed Try.func55 h1 (Nat.le_of_ble_eq_true rfl) B55 h2 h)
@[push_cast] theorem vr55_0 : VR r55_0 [⟨some 1, .box 24 (.tmp 0), 0, none⟩, ⟨some 2, .assign (.const (.bool false)), 4, none⟩] := vR rfl
@[push_cast] theorem vr55_1 : vc Try.prog (.draw r55_1 3) Q ds σ w = drawn Try.prog [(⟨some 7, .buildSlice 22 0 #[], 22, none⟩, []), (⟨some 8, .fieldAddr 24 (.tmp 1) 0, 0, none⟩, [1]), (⟨some 9, .load 22 (.tmp 8), 22, none⟩, [8]), (⟨some 10, .call ⟨.builtin .append, #[.tmp 7, .tmp 9], #[22, 22]⟩, 22, none⟩, [7, 9]), (⟨some 11, .fieldAddr 24 (.tmp 1) 1, 0, none⟩, [1]), (⟨some 12, .load 22 (.tmp 11), 22, none⟩, [11]), (⟨some 13, .call ⟨.builtin .append, #[.tmp 10, .tmp 12], #[22, 22]⟩, 22, none⟩, [10, 12]), (⟨some 3, .assign (.tmp 13), 22, none⟩, [13])] 3 (Q .normal ds) σ w := mk_eq rfl
@[push_cast] theorem vr55_2 : VR r55_2 [⟨some 4, .assign (.const (.int .i64 0)), 3, none⟩] := vR rfl
@[push_cast] theorem vr55_3 : VR r55_3 [⟨some 14, .move (.tmp 4), 3, none⟩, ⟨some 15, .move (.tmp 3), 22, none⟩, ⟨some 16, .call ⟨.builtin .len, #[.tmp 15], #[22]⟩, 3, none⟩, ⟨some 17, .binOp .lss 3 (.tmp 14) (.tmp 16) 3, 4, none⟩] := vR rfl
@[push_cast] theorem vr55_5 : VR r55_5 [⟨some 20, .move (.tmp 3), 22, none⟩, ⟨some 21, .move (.tmp 4), 3, none⟩, ⟨some 22, .indexAddr 22 (.tmp 20) (.tmp 21), 0, none⟩, ⟨some 23, .load 9 (.tmp 22), 9, none⟩, ⟨some 24, .call ⟨.value (.func 87), #[.tmp 23], #[9]⟩, 4, none⟩, ⟨some 5, .assign (.tmp 24), 4, none⟩] := vR rfl
@[push_cast] theorem vr55_6 : VR r55_6 [⟨some 25, .move (.tmp 5), 4, none⟩, ⟨some 26, .unOp .not 4 (.tmp 25), 4, none⟩] := vR rfl
@[push_cast] theorem vr55_7 : VR r55_7 [⟨some 2, .assign (.const (.bool false)), 4, none⟩] := vR rfl
@[push_cast] theorem vr55_8 : VR r55_8 [⟨some 6, .assign (.const (.int .i64 0)), 3, none⟩] := vR rfl
@[push_cast] theorem vr55_9 : VR r55_9 [⟨some 27, .move (.tmp 6), 3, none⟩, ⟨some 28, .move (.tmp 4), 3, none⟩, ⟨some 29, .binOp .lss 3 (.tmp 27) (.tmp 28) 3, 4, none⟩] := vR rfl
@[push_cast] theorem vr55_11 : vc Try.prog (.draw r55_11 2) Q ds σ w = drawn Try.prog [(⟨some 32, .move (.tmp 3), 22, none⟩, [3]), (⟨some 33, .move (.tmp 6), 3, none⟩, [6]), (⟨some 34, .indexAddr 22 (.tmp 32) (.tmp 33), 0, none⟩, [32, 33]), (⟨some 35, .load 9 (.tmp 34), 9, none⟩, [34]), (⟨some 36, .move (.tmp 3), 22, none⟩, [3]), (⟨some 37, .move (.tmp 4), 3, none⟩, [4]), (⟨some 38, .indexAddr 22 (.tmp 36) (.tmp 37), 0, none⟩, [36, 37]), (⟨some 39, .load 9 (.tmp 38), 9, none⟩, [38]), (⟨some 40, .binOp .eql 9 (.tmp 35) (.tmp 39) 9, 4, none⟩, [35, 39])] 2 (Q .normal ds) σ w := mk_eq rfl
@[push_cast] theorem vr55_12 : VR r55_12 [⟨some 2, .assign (.const (.bool false)), 4, none⟩] := vR rfl
@[push_cast] theorem vr55_10 : VR r55_10 [⟨some 30, .move (.tmp 6), 3, none⟩, ⟨some 31, .binOp .add 3 (.tmp 30) (.const (.int .i64 1)) 3, 3, none⟩, ⟨some 6, .assign (.tmp 31), 3, none⟩] := vR rfl
@[push_cast] theorem vr55_4 : VR r55_4 [⟨some 18, .move (.tmp 4), 3, none⟩, ⟨some 19, .binOp .add 3 (.tmp 18) (.const (.int .i64 1)) 3, 3, none⟩, ⟨some 4, .assign (.tmp 19), 3, none⟩] := vR rfl
@[push_cast] theorem vr55_13 : VR r55_13 [⟨some 41, .fieldAddr 24 (.tmp 1) 0, 0, none⟩, ⟨some 42, .load 22 (.tmp 41), 22, none⟩, ⟨some 43, .call ⟨.builtin .len, #[.tmp 42], #[22]⟩, 3, none⟩, ⟨some 44, .binOp .geq 3 (.tmp 43) (.const (.int .i64 1)) 3, 4, none⟩, ⟨some 45, .move (.tmp 44), 4, none⟩, ⟨some 46, .fieldAddr 24 (.tmp 1) 0, 0, some (45, true)⟩, ⟨some 47, .load 22 (.tmp 46), 22, some (45, true)⟩, ⟨some 48, .call ⟨.builtin .len, #[.tmp 47], #[22]⟩, 3, some (45, true)⟩, ⟨some 49, .binOp .leq 3 (.tmp 48) (.const (.int .i64 6)) 3, 4, some (45, true)⟩, ⟨some 50, .pick (.tmp 45) (.tmp 49) (.const (.bool false)), 4, none⟩, ⟨some 51, .move (.tmp 50), 4, none⟩, ⟨some 52, .fieldAddr 24 (.tmp 1) 1, 0, some (51, true)⟩, ⟨some 53, .load 22 (.tmp 52), 22, some (51, true)⟩, ⟨some 54, .call ⟨.builtin .len, #[.tmp 53], #[22]⟩, 3, some (51, true)⟩, ⟨some 55, .binOp .leq 3 (.tmp 54) (.const (.int .i64 4)) 3, 4, some (51, true)⟩, ⟨some 56, .pick (.tmp 51) (.tmp 55) (.const (.bool false)), 4, none⟩, ⟨some 2, .assign (.tmp 56), 4, none⟩] := vR rfl
/-! 84 columbary/columbaryref11.Right (params #[3], results #[(.tmp 2)], 9 slots) -/
def r84_0 : List VOp :=
  [⟨some 2, .assign (.const (.bool false)), 4, none⟩]
def r84_1 : List VOp :=
  [mv 3 0 3,
   ⟨some 4, .binOp .geq 3 (.tmp 3) (.const (.int .i64 1)) 3, 4, none⟩,
   mv 5 4 4,
   ⟨some 6, .move (.tmp 0), 3, some (5, true)⟩,
   ⟨some 7, .binOp .leq 3 (.tmp 6) (.const (.int .i64 1048576)) 3, 4, some (5, true)⟩,
   ⟨some 8, .pick (.tmp 5) (.tmp 7) (.const (.bool false)), 4, none⟩,
   asg 2 8 4]
def B84 : VC :=
  (.seq (.region r84_0) (.seq (.region r84_1) .ret))
theorem code84 : ∃ c, Try.f84.body = some c ∧ abs Try.f84.ntmps c = B84 := ⟨_, rfl, by kernel_rfl⟩
theorem hb84 : HasBody Try.prog 84 := hasBody_of Try.func84 (by kernel_rfl)
theorem res84 : Try.f84.results = #[(.tmp 2)] := rfl
theorem enter84 {w : World} {R : Value → World → Prop} (x0 : Value) (h : vc Try.prog B84 (retK Try.prog #[(.tmp 2)] R) [] (initEnv [x0] 0) w) : FnC Try.prog 84 #[x0] w R := by
  obtain ⟨c, h1, h2⟩ := code84
  exact hb84.fn (ret_of_vc mixed Try.func84 h1 (Nat.le_of_ble_eq_true rfl) B84 h2 h)
@[push_cast] theorem vr84_0 : VR r84_0 [⟨some 2, .assign (.const (.bool false)), 4, none⟩] := vR rfl
@[push_cast] theorem vr84_1 : VR r84_1 [⟨some 3, .move (.tmp 0), 3, none⟩, ⟨some 4, .binOp .geq 3 (.tmp 3) (.const (.int .i64 1)) 3, 4, none⟩, ⟨some 5, .move (.tmp 4), 4, none⟩, ⟨some 6, .move (.tmp 0), 3, some (5, true)⟩, ⟨some 7, .binOp .leq 3 (.tmp 6) (.const (.int .i64 1048576)) 3, 4, some (5, true)⟩, ⟨some 8, .pick (.tmp 5) (.tmp 7) (.const (.bool false)), 4, none⟩, ⟨some 2, .assign (.tmp 8), 4, none⟩] := vR rfl
/-! 86 cmp.isNaN[int] (params #[3], results #[(.tmp 2)], 6 slots) -/
def r86_0 : List VOp :=
  [⟨some 2, .assign (.const (.bool false)), 4, none⟩]
def r86_1 : List VOp :=
  [mv 3 0 3,
   mv 4 0 3,
   ⟨some 5, .binOp .neq 3 (.tmp 3) (.tmp 4) 3, 4, none⟩,
   asg 2 5 4]
def B86 : VC :=
  (.seq (.region r86_0) (.seq (.region r86_1) .ret))
theorem code86 : ∃ c, Try.f86.body = some c ∧ abs Try.f86.ntmps c = B86 := ⟨_, rfl, by kernel_rfl⟩
theorem hb86 : HasBody Try.prog 86 := hasBody_of Try.func86 (by kernel_rfl)
theorem res86 : Try.f86.results = #[(.tmp 2)] := rfl
theorem enter86 {w : World} {R : Value → World → Prop} (x0 : Value) (h : vc Try.prog B86 (retK Try.prog #[(.tmp 2)] R) [] (initEnv [x0] 0) w) : FnC Try.prog 86 #[x0] w R := by
  obtain ⟨c, h1, h2⟩ := code86
  exact hb86.fn (ret_of_vc mixed Try.func86 h1 (Nat.le_of_ble_eq_true rfl) B86 h2 h)
@[push_cast] theorem vr86_0 : VR r86_0 [⟨some 2, .assign (.const (.bool false)), 4, none⟩] := vR rfl
@[push_cast] theorem vr86_1 : VR r86_1 [⟨some 3, .move (.tmp 0), 3, none⟩, ⟨some 4, .move (.tmp 0), 3, none⟩, ⟨some 5, .binOp .neq 3 (.tmp 3) (.tmp 4) 3, 4, none⟩, ⟨some 2, .assign (.tmp 5), 4, none⟩] := vR rfl
/-! 87 columbary/columbaryref10.Name (params #[9], results #[(.tmp 2)], 71 slots) -/
def W87_0 : List Nat := [2, 4, 9, 10, 11, 12, 13, 14, 15, 16, 17, 18, 19, 20]
@[push_cast] theorem W87_0_def : W87_0 = [2, 4, 9, 10, 11, 12, 13, 14, 15, 16, 17, 18, 19, 20] := mk_eq rfl
def W87_1 : List Nat := [2, 5, 6, 7, 21, 22, 23, 24, 25, 26, 27, 28, 29, 30, 31, 32, 33, 34, 35, 36, 37, 38, 39, 40, 41, 42, 43, 44, 45, 46, 47, 48, 49, 50, 51, 52, 53, 54, 55, 56, 57, 58, 59, 60, 61, 62]
@[push_cast] theorem W87_1_def : W87_1 = [2, 5, 6, 7, 21, 22, 23, 24, 25, 26, 27, 28, 29, 30, 31, 32, 33, 34, 35, 36, 37, 38, 39, 40, 41, 42, 43, 44, 45, 46, 47, 48, 49, 50, 51, 52, 53, 54, 55, 56, 57, 58, 59, 60, 61, 62] := mk_eq rfl
def r87_0 : List VOp :=
  [⟨some 2, .assign (.const (.bool false)), 4, none⟩]
def r87_1 : List VOp :=
  [⟨some 8, .call ⟨.value (.func 126), #[], #[]⟩, 22, none⟩,
   asg 3 8 22]
def r87_2 : List VOp :=
  [⟨some 4, .assign (.const (.int .i64 0)), 3, none⟩]
def r87_3 : List VOp :=
  [mv 9 4 3,
   mv 10 3 22,
   ⟨some 11, .call ⟨.builtin .len, #[.tmp 10], #[22]⟩, 3, none⟩,
   ⟨some 12, .binOp .lss 3 (.tmp 9) (.tmp 11) 3, 4, none⟩]
def r87_5 : List VOp :=
  [mv 15 3 22,
   mv 16 4 3,
   iad 17 22 15 16,
   lda 18 9 17,
   mv 19 0 9,
   ⟨some 20, .binOp .eql 9 (.tmp 18) (.tmp 19) 9, 4, none⟩]
def r87_6 : List VOp :=
  [⟨some 2, .assign (.const (.bool false)), 4, none⟩]
def r87_4 : List VOp :=
  [mv 13 4 3,
   ⟨some 14, .binOp .add 3 (.tmp 13) (.const (.int .i64 1)) 3, 3, none⟩,
   asg 4 14 3]
def r87_7 : List VOp :=
  [⟨some 5, .assign (.const (.int .i64 0)), 3, none⟩]
def r87_8 : List VOp :=
  [mv 21 5 3,
   mv 22 0 9,
   ⟨some 23, .call ⟨.builtin .len, #[.tmp 22], #[9]⟩, 3, none⟩,
   ⟨some 24, .binOp .lss 3 (.tmp 21) (.tmp 23) 3, 4, none⟩]
def r87_10 : List VOp :=
  [mv 27 0 9,
   mv 28 5 3,
   ⟨some 29, .index 9 (.tmp 27) (.tmp 28), 5, none⟩,
   ⟨some 30, .binOp .geq 5 (.tmp 29) (.const (.int .u8 97)) 5, 4, none⟩,
   mv 31 30 4,
   ⟨some 32, .move (.tmp 0), 9, some (31, true)⟩,
   ⟨some 33, .move (.tmp 5), 3, some (31, true)⟩,
   ⟨some 34, .index 9 (.tmp 32) (.tmp 33), 5, some (31, true)⟩,
   ⟨some 35, .binOp .leq 5 (.tmp 34) (.const (.int .u8 122)) 5, 4, some (31, true)⟩,
   ⟨some 36, .pick (.tmp 31) (.tmp 35) (.const (.bool false)), 4, none⟩,
   asg 6 36 4]
def r87_11 : List VOp :=
  [mv 37 0 9,
   mv 38 5 3,
   ⟨some 39, .index 9 (.tmp 37) (.tmp 38), 5, none⟩,
   ⟨some 40, .binOp .geq 5 (.tmp 39) (.const (.int .u8 48)) 5, 4, none⟩,
   mv 41 40 4,
   ⟨some 42, .move (.tmp 0), 9, some (41, true)⟩,
   ⟨some 43, .move (.tmp 5), 3, some (41, true)⟩,
   ⟨some 44, .index 9 (.tmp 42) (.tmp 43), 5, some (41, true)⟩,
   ⟨some 45, .binOp .leq 5 (.tmp 44) (.const (.int .u8 57)) 5, 4, some (41, true)⟩,
   ⟨some 46, .pick (.tmp 41) (.tmp 45) (.const (.bool false)), 4, none⟩,
   mv 47 46 4,
   ⟨some 48, .move (.tmp 0), 9, some (47, false)⟩,
   ⟨some 49, .move (.tmp 5), 3, some (47, false)⟩,
   ⟨some 50, .index 9 (.tmp 48) (.tmp 49), 5, some (47, false)⟩,
   ⟨some 51, .binOp .eql 5 (.tmp 50) (.const (.int .u8 95)) 5, 4, some (47, false)⟩,
   ⟨some 52, .pick (.tmp 47) (.const (.bool true)) (.tmp 51), 4, none⟩,
   asg 7 52 4]
def r87_12 : List VOp :=
  [mv 53 6 4,
   ⟨some 54, .unOp .not 4 (.tmp 53), 4, none⟩,
   mv 55 54 4,
   ⟨some 56, .move (.tmp 7), 4, some (55, true)⟩,
   ⟨some 57, .unOp .not 4 (.tmp 56), 4, some (55, true)⟩,
   ⟨some 58, .move (.tmp 57), 4, some (55, true)⟩,
   ⟨some 59, .move (.tmp 5), 3, some (58, false)⟩,
   ⟨some 60, .binOp .eql 3 (.tmp 59) (.const (.int .i64 0)) 3, 4, some (58, false)⟩,
   ⟨some 61, .pick (.tmp 58) (.const (.bool true)) (.tmp 60), 4, some (55, true)⟩,
   ⟨some 62, .pick (.tmp 55) (.tmp 61) (.const (.bool false)), 4, none⟩]
def r87_13 : List VOp :=
  [⟨some 2, .assign (.const (.bool false)), 4, none⟩]
def r87_9 : List VOp :=
  [mv 25 5 3,
   ⟨some 26, .binOp .add 3 (.tmp 25) (.const (.int .i64 1)) 3, 3, none⟩,
   asg 5 26 3]
def r87_14 : List VOp :=
  [mv 63 0 9,
   ⟨some 64, .call ⟨.builtin .len, #[.tmp 63], #[9]⟩, 3, none⟩,
   ⟨some 65, .binOp .geq 3 (.tmp 64) (.const (.int .i64 1)) 3, 4, none⟩,
   mv 66 65 4,
   ⟨some 67, .move (.tmp 0), 9, some (66, true)⟩,
   ⟨some 68, .call ⟨.builtin .len, #[.tmp 67], #[9]⟩, 3, some (66, true)⟩,
   ⟨some 69, .binOp .leq 3 (.tmp 68) (.const (.int .i64 12)) 3, 4, some (66, true)⟩,
   ⟨some 70, .pick (.tmp 66) (.tmp 69) (.const (.bool false)), 4, none⟩,
   asg 2 70 4]
def B87 : VC :=
  (.seq (.region r87_0) (.seq (.region r87_1) (.seq (.seq (.region r87_2) (.block 0 (.loop (.seq (.seq (.region r87_3) (.cond (.tmp 12) .skip (.exit 0))) (.seq (.block 1 (.seq (.region r87_5) (.cond (.tmp 20) (.seq (.region r87_6) .ret) .skip))) (.region r87_4)))))) (.seq (.seq (.region r87_7) (.block 2 (.loop (.seq (.seq (.region r87_8) (.cond (.tmp 24) .skip (.exit 2))) (.seq (.block 3 (.seq (.region r87_10) (.seq (.region r87_11) (.seq (.region r87_12) (.cond (.tmp 62) (.seq (.region r87_13) .ret) .skip))))) (.region r87_9)))))) (.seq (.region r87_14) .ret)))))
theorem code87 : ∃ c, Try.f87.body = some c ∧ abs Try.f87.ntmps c = B87 := ⟨_, rfl, by kernel_rfl⟩
theorem hb87 : HasBody Try.prog 87 := hasBody_of Try.func87 (by kernel_rfl)
theorem res87 : Try.f87.results = #[(.tmp 2)] := rfl
theorem enter87 {w : World} {R : Value → World → Prop} (x0 : Value) (h : vc Try.prog B87 (retK Try.prog #[(.tmp 2)] R) [] (initEnv [x0] 0) w) : FnC Try.prog 87 #[x0] w R := by
  obtain ⟨c, h1, h2⟩ := code87
  exact hb87.fn (ret_of_vc mixed Try.func87 h1 (Nat.le_of_ble_eq_true rfl) B87 h2 h)
@[push_cast] theorem vr87_0 : VR r87_0 [⟨some 2, .assign (.const (.bool false)), 4, none⟩] := vR rfl
@[push_cast] theorem vr87_1 : VR r87_1 [⟨some 8, .call ⟨.value (.func 126), #[], #[]⟩, 22, none⟩, ⟨some 3, .assign (.tmp 8), 22, none⟩] := vR rfl
@[push_cast] theorem vr87_2 : VR r87_2 [⟨some 4, .assign (.const (.int .i64 0)), 3, none⟩] := vR rfl
@[push_cast] theorem vr87_3 : VR r87_3 [⟨some 9, .move (.tmp 4), 3, none⟩, ⟨some 10, .move (.tmp 3), 22, none⟩, ⟨some 11, .call ⟨.builtin .len, #[.tmp 10], #[22]⟩, 3, none⟩, ⟨some 12, .binOp .lss 3 (.tmp 9) (.tmp 11) 3, 4, none⟩] := vR rfl
@[push_cast] theorem vr87_5 : VR r87_5 [⟨some 15, .move (.tmp 3), 22, none⟩, ⟨some 16, .move (.tmp 4), 3, none⟩, ⟨some 17, .indexAddr 22 (.tmp 15) (.tmp 16), 0, none⟩, ⟨some 18, .load 9 (.tmp 17), 9, none⟩, ⟨some 19, .move (.tmp 0), 9, none⟩, ⟨some 20, .binOp .eql 9 (.tmp 18) (.tmp 19) 9, 4, none⟩] := vR rfl
@[push_cast] theorem vr87_6 : VR r87_6 [⟨some 2, .assign (.const (.bool false)), 4, none⟩] := vR rfl
@[push_cast] theorem vr87_4 : VR r87_4 [⟨some 13, .move (.tmp 4), 3, none⟩, ⟨some 14, .binOp .add 3 (.tmp 13) (.const (.int .i64 1)) 3, 3, none⟩, ⟨some 4, .assign (.tmp 14), 3, none⟩] := vR rfl
@[push_cast] theorem vr87_7 : VR r87_7 [⟨some 5, .assign (.const (.int .i64 0)), 3, none⟩] := vR rfl
@[push_cast] theorem vr87_8 : VR r87_8 [⟨some 21, .move (.tmp 5), 3, none⟩, ⟨some 22, .move (.tmp 0), 9, none⟩, ⟨some 23, .call ⟨.builtin .len, #[.tmp 22], #[9]⟩, 3, none⟩, ⟨some 24, .binOp .lss 3 (.tmp 21) (.tmp 23) 3, 4, none⟩] := vR rfl
@[push_cast] theorem vr87_10 : VR r87_10 [⟨some 27, .move (.tmp 0), 9, none⟩, ⟨some 28, .move (.tmp 5), 3, none⟩, ⟨some 29, .index 9 (.tmp 27) (.tmp 28), 5, none⟩, ⟨some 30, .binOp .geq 5 (.tmp 29) (.const (.int .u8 97)) 5, 4, none⟩, ⟨some 31, .move (.tmp 30), 4, none⟩, ⟨some 32, .move (.tmp 0), 9, some (31, true)⟩, ⟨some 33, .move (.tmp 5), 3, some (31, true)⟩, ⟨some 34, .index 9 (.tmp 32) (.tmp 33), 5, some (31, true)⟩, ⟨some 35, .binOp .leq 5 (.tmp 34) (.const (.int .u8 122)) 5, 4, some (31, true)⟩, ⟨some 36, .pick (.tmp 31) (.tmp 35) (.const (.bool false)), 4, none⟩, ⟨some 6, .assign (.tmp 36), 4, none⟩] := vR rfl
@[push_cast] theorem vr87_11 : VR r87_11 [⟨some 37, .move (.tmp 0), 9, none⟩, ⟨some 38, .move (.tmp 5), 3, none⟩, ⟨some 39, .index 9 (.tmp 37) (.tmp 38), 5, none⟩, ⟨some 40, .binOp .geq 5 (.tmp 39) (.const (.int .u8 48)) 5, 4, none⟩, ⟨some 41, .move (.tmp 40), 4, none⟩, ⟨some 42, .move (.tmp 0), 9, some (41, true)⟩, ⟨some 43, .move (.tmp 5), 3, some (41, true)⟩, ⟨some 44, .index 9 (.tmp 42) (.tmp 43), 5, some (41, true)⟩, ⟨some 45, .binOp .leq 5 (.tmp 44) (.const (.int .u8 57)) 5, 4, some (41, true)⟩, ⟨some 46, .pick (.tmp 41) (.tmp 45) (.const (.bool false)), 4, none⟩, ⟨some 47, .move (.tmp 46), 4, none⟩, ⟨some 48, .move (.tmp 0), 9, some (47, false)⟩, ⟨some 49, .move (.tmp 5), 3, some (47, false)⟩, ⟨some 50, .index 9 (.tmp 48) (.tmp 49), 5, some (47, false)⟩, ⟨some 51, .binOp .eql 5 (.tmp 50) (.const (.int .u8 95)) 5, 4, some (47, false)⟩, ⟨some 52, .pick (.tmp 47) (.const (.bool true)) (.tmp 51), 4, none⟩, ⟨some 7, .assign (.tmp 52), 4, none⟩] := vR rfl
@[push_cast] theorem vr87_12 : VR r87_12 [⟨some 53, .move (.tmp 6), 4, none⟩, ⟨some 54, .unOp .not 4 (.tmp 53), 4, none⟩, ⟨some 55, .move (.tmp 54), 4, none⟩, ⟨some 56, .move (.tmp 7), 4, some (55, true)⟩, ⟨some 57, .unOp .not 4 (.tmp 56), 4, some (55, true)⟩, ⟨some 58, .move (.tmp 57), 4, some (55, true)⟩, ⟨some 59, .move (.tmp 5), 3, some (58, false)⟩, ⟨some 60, .binOp .eql 3 (.tmp 59) (.const (.int .i64 0)) 3, 4, some (58, false)⟩, ⟨some 61, .pick (.tmp 58) (.const (.bool true)) (.tmp 60), 4, some (55, true)⟩, ⟨some 62, .pick (.tmp 55) (.tmp 61) (.const (.bool false)), 4, none⟩] := vR rfl
@[push_cast] theorem vr87_13 : VR r87_13 [⟨some 2, .assign (.const (.bool false)), 4, none⟩] := vR rfl
@[push_cast] theorem vr87_9 : VR r87_9 [⟨some 25, .move (.tmp 5), 3, none⟩, ⟨some 26, .binOp .add 3 (.tmp 25) (.const (.int .i64 1)) 3, 3, none⟩, ⟨some 5, .assign (.tmp 26), 3, none⟩] := vR rfl
@[push_cast] theorem vr87_14 : VR r87_14 [⟨some 63, .move (.tmp 0), 9, none⟩, ⟨some 64, .call ⟨.builtin .len, #[.tmp 63], #[9]⟩, 3, none⟩, ⟨some 65, .binOp .geq 3 (.tmp 64) (.const (.int .i64 1)) 3, 4, none⟩, ⟨some 66, .move (.tmp 65), 4, none⟩, ⟨some 67, .move (.tmp 0), 9, some (66, true)⟩, ⟨some 68, .call ⟨.builtin .len, #[.tmp 67], #[9]⟩, 3, some (66, true)⟩, ⟨some 69, .binOp .leq 3 (.tmp 68) (.const (.int .i64 12)) 3, 4, some (66, true)⟩, ⟨some 70, .pick (.tmp 66) (.tmp 69) (.const (.bool false)), 4, none⟩, ⟨some 2, .assign (.tmp 70), 4, none⟩] := vR rfl
/-! 126 columbary/columbaryref10.words (params #[], results #[(.tmp 0)], 2 slots) -/
def r126_0 : List VOp :=
  [⟨some 0, .assign (.const (.slice none 0 0)), 22, none⟩]
def r126_1 : List VOp :=
  [⟨some 1, .buildSlice 22 20 #[(0, (.const (.string { data := #[99, 111, 117, 110, 116] }))), (1, (.const (.string { data := #[115, 117, 109] }))), (2, (.const (.string { data := #[109, 105, 110] }))), (3, (.const (.string { data := #[109, 97, 120] }))), (4, (.const (.string { data := #[102, 114, 111, 109] }))), (5, (.const (.string { data := #[116, 111] }))), (6, (.const (.string { data := #[98, 121] }))), (7, (.const (.string { data := #[101, 118, 101, 114, 121] }))), (8, (.const (.string { data := #[119, 104, 101, 114, 101] }))), (9, (.const (.string { data := #[104, 97, 118, 105, 110, 103] }))), (10, (.const (.string { data := #[111, 114, 100, 101, 114] }))), (11, (.const (.string { data := #[108, 105, 109, 105, 116] }))), (12, (.const (.string { data := #[97, 110, 100] }))), (13, (.const (.string { data := #[111, 114] }))), (14, (.const (.string { data := #[110, 111, 116] }))), (15, (.const (.string { data := #[105, 115] }))), (16, (.const (.string { data := #[110, 117, 108, 108] }))), (17, (.const (.string { data := #[97, 115, 99] }))), (18, (.const (.string { data := #[100, 101, 115, 99] }))), (19, (.const (.string { data := #[115, 101, 108, 101, 99, 116] })))], 22, none⟩,
   asg 0 1 22]
def B126 : VC :=
  (.seq (.region r126_0) (.seq (.region r126_1) .ret))
theorem code126 : ∃ c, Try.f126.body = some c ∧ abs Try.f126.ntmps c = B126 := ⟨_, rfl, by kernel_rfl⟩
theorem hb126 : HasBody Try.prog 126 := hasBody_of Try.func126 (by kernel_rfl)
theorem res126 : Try.f126.results = #[(.tmp 0)] := rfl
theorem enter126 {w : World} {R : Value → World → Prop} (h : vc Try.prog B126 (retK Try.prog #[(.tmp 0)] R) [] (initEnv [] 0) w) : FnC Try.prog 126 #[] w R := by
  obtain ⟨c, h1, h2⟩ := code126
  exact hb126.fn (ret_of_vc mixed Try.func126 h1 (Nat.le_of_ble_eq_true rfl) B126 h2 h)
@[push_cast] theorem vr126_0 : VR r126_0 [⟨some 0, .assign (.const (.slice none 0 0)), 22, none⟩] := vR rfl
@[push_cast] theorem vr126_1 : VR r126_1 [⟨some 1, .buildSlice 22 20 #[(0, (.const (.string { data := #[99, 111, 117, 110, 116] }))), (1, (.const (.string { data := #[115, 117, 109] }))), (2, (.const (.string { data := #[109, 105, 110] }))), (3, (.const (.string { data := #[109, 97, 120] }))), (4, (.const (.string { data := #[102, 114, 111, 109] }))), (5, (.const (.string { data := #[116, 111] }))), (6, (.const (.string { data := #[98, 121] }))), (7, (.const (.string { data := #[101, 118, 101, 114, 121] }))), (8, (.const (.string { data := #[119, 104, 101, 114, 101] }))), (9, (.const (.string { data := #[104, 97, 118, 105, 110, 103] }))), (10, (.const (.string { data := #[111, 114, 100, 101, 114] }))), (11, (.const (.string { data := #[108, 105, 109, 105, 116] }))), (12, (.const (.string { data := #[97, 110, 100] }))), (13, (.const (.string { data := #[111, 114] }))), (14, (.const (.string { data := #[110, 111, 116] }))), (15, (.const (.string { data := #[105, 115] }))), (16, (.const (.string { data := #[110, 117, 108, 108] }))), (17, (.const (.string { data := #[97, 115, 99] }))), (18, (.const (.string { data := #[100, 101, 115, 99] }))), (19, (.const (.string { data := #[115, 101, 108, 101, 99, 116] })))], 22, none⟩, ⟨some 0, .assign (.tmp 1), 22, none⟩] := vR rfl
@[push_cast] theorem bsl22_0_Codes7B {K : Value → World → Prop} {w : World}  : vBuildSlice Try.prog 22 0 #[] K w = K (.slice (some ⟨w.heap.size, 0, none⟩) 0 0) (w.alloc (.cells #[] 9)) :=
  vBuildSlice_ok Try.underlying22 ti9 (by kernel_rfl) (by decide)
@[push_cast] theorem bsl22_1_Codes7B {K : Value → World → Prop} {w : World} (x0 : ByteArray) : vBuildSlice Try.prog 22 1 #[(0, (.string x0))] K w = K (.slice (some ⟨w.heap.size, 0, none⟩) 1 1) (w.alloc (.cells #[(.string x0)] 9)) :=
  vBuildSlice_ok Try.underlying22 ti9 (by kernel_rfl) (by decide)
@[push_cast] theorem bsl22_20_Codes7B {K : Value → World → Prop} {w : World} (x0 : ByteArray) (x1 : ByteArray) (x2 : ByteArray) (x3 : ByteArray) (x4 : ByteArray) (x5 : ByteArray) (x6 : ByteArray) (x7 : ByteArray) (x8 : ByteArray) (x9 : ByteArray) (x10 : ByteArray) (x11 : ByteArray) (x12 : ByteArray) (x13 : ByteArray) (x14 : ByteArray) (x15 : ByteArray) (x16 : ByteArray) (x17 : ByteArray) (x18 : ByteArray) (x19 : ByteArray) : vBuildSlice Try.prog 22 20 #[(0, (.string x0)), (1, (.string x1)), (2, (.string x2)), (3, (.string x3)), (4, (.string x4)), (5, (.string x5)), (6, (.string x6)), (7, (.string x7)), (8, (.string x8)), (9, (.string x9)), (10, (.string x10)), (11, (.string x11)), (12, (.string x12)), (13, (.string x13)), (14, (.string x14)), (15, (.string x15)), (16, (.string x16)), (17, (.string x17)), (18, (.string x18)), (19, (.string x19))] K w = K (.slice (some ⟨w.heap.size, 0, none⟩) 20 20) (w.alloc (.cells #[(.string x0), (.string x1), (.string x2), (.string x3), (.string x4), (.string x5), (.string x6), (.string x7), (.string x8), (.string x9), (.string x10), (.string x11), (.string x12), (.string x13), (.string x14), (.string x15), (.string x16), (.string x17), (.string x18), (.string x19)] 9)) :=
  vBuildSlice_ok Try.underlying22 ti9 (by kernel_rfl) (by decide)
end Go.Proofs.Ytnofalhkapmcnaa
end
section
set_option linter.unusedSimpArgs false
namespace Go.Vc
mutual
def FT.cnt : FT → Nat
  | .mk _ _ _ _ l => FT.cntL l + 1
def FT.cntL : List FT → Nat
  | [] => 0
  | k :: l => k.cnt + FT.cntL l
end

mutual
def FT.prt : FT → Int → Int
  | .mk _ d v _ l, left => FT.prtL l (1 + ((d.size : Int) + (v.size : Int)) / 100) left
def FT.prtL : List FT → Int → Int → Int
  | [], n, _ => n
  | k :: l, n, left => if n < left then FT.prtL l (n + k.prt (left - n)) left else n
end
theorem FT.cnt_is (f : FT) : f.cnt = FT.cntL f.kids + 1 := by cases f; rfl
theorem FT.dims_cnt : ∀ f : FT, f.dims.length ≤ f.cnt := by
  intro f
  induction f using FT.ind with
  | h f ih =>
    obtain ⟨op, d, v, kv, l⟩ := f
    show (_ ++ FT.dimsL l).length ≤ FT.cntL l + 1
    replace ih : ∀ k ∈ l, k.dims.length ≤ k.cnt := ih
    have h0 : (FT.dimsL l).length ≤ FT.cntL l := by
      induction l with
      | nil => exact Nat.le_refl _
      | cons k l ihl =>
        have h1 := ih k (by simp)
        have h2 := ihl (fun x hx => ih x (by simp [hx]))
        show (k.dims ++ FT.dimsL l).length ≤ k.cnt + FT.cntL l
        rw [List.length_append]; omega
    rw [List.length_append]
    split <;> simp <;> omega
end Go.Vc
namespace Go.Proofs.Ytnofalhkapmcnaa
open Go.Vc
set_option maxRecDepth 100000
theorem ftBox (w : World) (f : FT) : Later w (w.alloc (.cells (ftC f).toArray 39)) ∧ (w.alloc (.cells (ftC f).toArray 39)).heap.size = w.heap.size + 1 ∧ Blk (w.alloc (.cells (ftC f).toArray 39)) w.heap.size (ftC f).toArray 39 := ⟨later_alloc _ _, World.size_alloc _ _, Blk.new _ _ _⟩
theorem ftAt {w : World} {k : Nat} {f : FT} (h : Blk w k (ftC f).toArray 39) : w.cell? ⟨k, 0, none⟩ = some (.int .i64 f.op) ∧ w.cell? ⟨k, 1, none⟩ = some (.string f.dim) ∧ w.cell? ⟨k, 2, none⟩ = some (.string f.value) ∧ w.cell? ⟨k, 3, none⟩ = some f.kv :=
  ⟨h.cell 0, h.cell 1, h.cell 2, h.cell 3⟩
theorem ftLater {w w' : World} {k : Nat} {f : FT} (h : Blk w k (ftC f).toArray 39) (hl : Later w w') : Blk w' k (ftC f).toArray 39 := h.chg (Chg.of_later (ks := []) hl) (by simp)
end Go.Proofs.Ytnofalhkapmcnaa
end
section
namespace Go.Key
open Go.Stab
end Go.Key
end
section
set_option linter.unusedSimpArgs false
namespace Go.Proofs.Ytnofalhkapmcnaa
open Go.Vc Go.Key
set_option maxRecDepth 100000
abbrev StS (w : World) (v : Value) (l : List ByteArray) : Prop := Sl w v (l.map Value.string)
theorem StS.atS {w : World} {a : Addr} {l : List ByteArray} {n c : Nat} (h : StS w (.slice (some a) n c) l) {i : Nat} (hi : i < l.length) : w.cell? (a.add i) = some (.string l[i]) := Sl.at h (by simp [hi])
@[push_cast] theorem vBinS_gtr {P : Program} {t : TypeId} {x y : Operand} {m n : ByteArray} {K : Value → World → Prop} {w : World} : vBin P .gtr t x y (.string m) (.string n) K w = K (.bool (!(Op.bytesLess m.data.toList n.data.toList || decide (m = n)))) w := mk_eq rfl
theorem nanI_c (n : Int) (w : World) : FnC Try.prog 86 #[.int .i64 n] w fun r w' => r = .bool false ∧ w' = w := by
  refine enter86 _ ?_
  unfold B86
  repeat' (first | (simp (disch := omega) only [push_cast, ↓reduceIte, zA, zG, zB, zH, zI, zC, zJ, zK, zL, zD, zE, zF, zM, zN, zO, zP, zQ, reduceCtorEq, not_true_eq_false, not_false_eq_true, decide_true, Bool.not_true]) | (first | refine iE ?_ ?_ | refine iD ?_ ?_ | refine iQ ?_ ?_ | refine iV ?_ ?_) <;> intro _ | refine And.intro (by omega) ?_ | refine drawn_q ?_ | fail)
  all_goals simp
theorem cmpI_c (a b : Int) (w : World) : FnC Try.prog 51 #[.int .i64 a, .int .i64 b] w fun r w' => r = .int .i64 (if a < b then -1 else if b < a then 1 else 0) ∧ w' = w := by
  refine enter51 _ _ ?_
  unfold B51
  repeat' (first | (simp (disch := omega) only [push_cast, ↓reduceIte, zA, zG, zB, zH, zI, zC, zJ, zK, zL, zD, zE, zF, zM, zN, zO, zP, zQ, reduceCtorEq, not_true_eq_false, not_false_eq_true]) | (first | refine iE ?_ ?_ | refine iD ?_ ?_ | refine iQ ?_ ?_ | refine iV ?_ ?_) <;> intro _ | refine And.intro (by omega) ?_ | refine drawn_q ?_ | fail)
  refine (nanI_c a w).mono ?_
  rintro _ w0 ⟨rfl, h0⟩; obtain rfl := h0.symm
  repeat' (first | (simp (disch := omega) only [push_cast, ↓reduceIte, zA, zG, zB, zH, zI, zC, zJ, zK, zL, zD, zE, zF, zM, zN, zO, zP, zQ, reduceCtorEq, not_true_eq_false, not_false_eq_true]) | (first | refine iE ?_ ?_ | refine iD ?_ ?_ | refine iQ ?_ ?_ | refine iV ?_ ?_) <;> intro _ | refine And.intro (by omega) ?_ | refine drawn_q ?_ | fail)
  refine (nanI_c b w).mono ?_
  rintro _ w0 ⟨rfl, h0⟩; obtain rfl := h0.symm
  by_cases h1 : a < b
  · repeat' (first | (simp (disch := omega) only [push_cast, ↓reduceIte, zA, zG, zB, zH, zI, zC, zJ, zK, zL, zD, zE, zF, zM, zN, zO, zP, zQ, reduceCtorEq, not_true_eq_false, not_false_eq_true]) | (first | refine iE ?_ ?_ | refine iD ?_ ?_ | refine iQ ?_ ?_ | refine iV ?_ ?_) <;> intro _ | refine And.intro (by omega) ?_ | refine drawn_q ?_ | fail)
    simp [h1]
  · by_cases h2 : b < a
    · repeat' (first | (simp (disch := omega) only [push_cast, ↓reduceIte, zA, zG, zB, zH, zI, zC, zJ, zK, zL, zD, zE, zF, zM, zN, zO, zP, zQ, reduceCtorEq, not_true_eq_false, not_false_eq_true]) | (first | refine iE ?_ ?_ | refine iD ?_ ?_ | refine iQ ?_ ?_ | refine iV ?_ ?_) <;> intro _ | refine And.intro (by omega) ?_ | refine drawn_q ?_ | fail)
      simp [h1, h2]
    · repeat' (first | (simp (disch := omega) only [push_cast, ↓reduceIte, zA, zG, zB, zH, zI, zC, zJ, zK, zL, zD, zE, zF, zM, zN, zO, zP, zQ, reduceCtorEq, not_true_eq_false, not_false_eq_true]) | (first | refine iE ?_ ?_ | refine iD ?_ ?_ | refine iQ ?_ ?_ | refine iV ?_ ?_) <;> intro _ | refine And.intro (by omega) ?_ | refine drawn_q ?_ | fail)
      simp [h1, h2]
theorem cmpOr_c (x y : Int) (v : Value) (w : World) (h : Sl w v (([x, y] : List Int).map i64v)) : FnC Try.prog 50 #[v] w fun r w' => r = .int .i64 (if x = 0 then y else x) ∧ w' = w := by
  obtain ⟨o, c, rfl, g1, g2, h, g3⟩ := h.openM
  have hL : ([x, y] : List Int).length = 2 := rfl
  rw [hL] at h g1
  obtain ⟨a, rfl⟩ := h.some (i := 0) (by simp)
  have c0 : w.cell? a = some (.int .i64 x) := by simpa [addr_add_zero] using h.atI (i := 0) (by simp)
  have c1 : w.cell? (a.add 1) = some (.int .i64 y) := h.atI (i := 1) (by simp)
  rw [hL]
  clear hL
  refine enter50 _ ?_
  unfold B50
  repeat' (first | (simp (disch := omega) only [push_cast, ↓reduceIte, zA, zG, zB, zH, zI, zC, zJ, zK, zL, zD, zE, zF, zM, zN, zO, zP, zQ, reduceCtorEq, not_true_eq_false, not_false_eq_true]) | (first | refine iE ?_ ?_ | refine iD ?_ ?_ | refine iQ ?_ ?_ | refine iV ?_ ?_) <;> intro _ | refine And.intro (by omega) ?_ | refine drawn_q ?_ | fail)
  refine vc_loop W50_0 (fun i : Nat => [(2, .int .i64 0), (8, .int .i64 (i : Int))]) (fun i w' => i ≤ 2 ∧ w' = w ∧ (1 ≤ i → x = 0) ∧ (2 ≤ i → y = 0)) (fun i => 2 - i) 0 (by decide) ?_ ?_ ?_
  · simp (disch := omega) only [push_cast, ↓reduceIte, zA, zG, zB, zH, zI, zC, zJ, zK, zL, zD, zE, zF, zM, zN, zO, zP, zQ, reduceCtorEq, not_true_eq_false, not_false_eq_true]
  · exact ⟨by omega, rfl, by omega, by omega⟩
  rintro i uu w1 ⟨hi, hw, hx, hy⟩
  obtain rfl := hw.symm
  match i, hi with
  | 0, _ =>
    by_cases h0 : x = 0
    · subst h0
      repeat' (first | (simp (disch := omega) only [push_cast, ↓reduceIte, zA, zG, zB, zH, zI, zC, zJ, zK, zL, zD, zE, zF, zM, zN, zO, zP, zQ, reduceCtorEq, not_true_eq_false, not_false_eq_true, c0]) | (first | refine iE ?_ ?_ | refine iD ?_ ?_ | refine iQ ?_ ?_ | refine iV ?_ ?_) <;> intro _ | refine And.intro (by omega) ?_ | refine drawn_q ?_ | fail)
      exact ⟨rfl, 1, by simp (disch := omega) only [push_cast, ↓reduceIte, zA, zG, zB, zH, zI, zC, zJ, zK, zL, zD, zE, zF, zM, zN, zO, zP, zQ, reduceCtorEq, not_true_eq_false, not_false_eq_true], ⟨by omega, rfl, by simp, by simp⟩, by dsimp only; omega⟩
    · repeat' (first | (simp (disch := omega) only [push_cast, ↓reduceIte, zA, zG, zB, zH, zI, zC, zJ, zK, zL, zD, zE, zF, zM, zN, zO, zP, zQ, reduceCtorEq, not_true_eq_false, not_false_eq_true, c0]) | (first | refine iE ?_ ?_ | refine iD ?_ ?_ | refine iQ ?_ ?_ | refine iV ?_ ?_) <;> intro _ | refine And.intro (by omega) ?_ | refine drawn_q ?_ | fail)
      simp [h0]
  | 1, _ =>
    have hx := hx (by omega)
    subst hx
    by_cases h0 : y = 0
    · subst h0
      repeat' (first | (simp (disch := omega) only [push_cast, ↓reduceIte, zA, zG, zB, zH, zI, zC, zJ, zK, zL, zD, zE, zF, zM, zN, zO, zP, zQ, reduceCtorEq, not_true_eq_false, not_false_eq_true, c1]) | (first | refine iE ?_ ?_ | refine iD ?_ ?_ | refine iQ ?_ ?_ | refine iV ?_ ?_) <;> intro _ | refine And.intro (by omega) ?_ | refine drawn_q ?_ | fail)
      exact ⟨rfl, 2, by simp (disch := omega) only [push_cast, ↓reduceIte, zA, zG, zB, zH, zI, zC, zJ, zK, zL, zD, zE, zF, zM, zN, zO, zP, zQ, reduceCtorEq, not_true_eq_false, not_false_eq_true], ⟨by omega, rfl, by simp, by simp⟩, by dsimp only; omega⟩
    · repeat' (first | (simp (disch := omega) only [push_cast, ↓reduceIte, zA, zG, zB, zH, zI, zC, zJ, zK, zL, zD, zE, zF, zM, zN, zO, zP, zQ, reduceCtorEq, not_true_eq_false, not_false_eq_true, c1]) | (first | refine iE ?_ ?_ | refine iD ?_ ?_ | refine iQ ?_ ?_ | refine iV ?_ ?_) <;> intro _ | refine And.intro (by omega) ?_ | refine drawn_q ?_ | fail)
      all_goals simp
  | 2, _ =>
    have hx := hx (by omega)
    have hy := hy (by omega)
    subst hx
    subst hy
    repeat' (first | (simp (disch := omega) only [push_cast, ↓reduceIte, zA, zG, zB, zH, zI, zC, zJ, zK, zL, zD, zE, zF, zM, zN, zO, zP, zQ, reduceCtorEq, not_true_eq_false, not_false_eq_true]) | (first | refine iE ?_ ?_ | refine iD ?_ ?_ | refine iQ ?_ ?_ | refine iV ?_ ?_) <;> intro _ | refine And.intro (by omega) ?_ | refine drawn_q ?_ | fail)
    all_goals simp
theorem texts_c (u v : Value) (a b : List ByteArray) (w : World) (hu : StS w u a) (hv : StS w v b) : FnC Try.prog 32 #[u, v] w fun r w' => r = .bool (decide (a = b)) ∧ Later w w' := by
  obtain ⟨oa, ca, rfl, g1, g2, hu, g3⟩ := hu.openM
  obtain ⟨ob, cb, rfl, k1, k2, hv, k3⟩ := hv.openM
  refine enter32 _ _ ?_
  unfold B32
  by_cases hlen : a.length = b.length
  · repeat' (first | (simp (disch := omega) only [push_cast, ↓reduceIte, zA, zG, zB, zH, zI, zC, zJ, zK, zL, zD, zE, zF, zM, zN, zO, zP, zQ, reduceCtorEq, not_true_eq_false, not_false_eq_true]) | (first | refine iE ?_ ?_ | refine iD ?_ ?_ | refine iQ ?_ ?_ | refine iV ?_ ?_) <;> intro _ | refine And.intro (by omega) ?_ | refine drawn_q ?_ | fail)
    refine vc_loop W32_0 (fun i : Nat => [(4, .bool false), (5, .int .i64 (i : Int))])
      (fun i w' => i ≤ a.length ∧ Later w w' ∧ a.take i = b.take i) (fun i => a.length - i) 0 (by decide) ?_ ?_ ?_
    · simp (disch := omega) only [push_cast, ↓reduceIte, zA, zG, zB, zH, zI, zC, zJ, zK, zL, zD, zE, zF, zM, zN, zO, zP, zQ, reduceCtorEq, not_true_eq_false, not_false_eq_true]
    · exact ⟨by omega, Later.refl _, by simp⟩
    rintro i uu w0 ⟨hi, hl, he⟩
    by_cases ha : i < a.length
    · have hb : i < b.length := by omega
      obtain ⟨aa, rfl⟩ := hu.some ha
      obtain ⟨bb, rfl⟩ := hv.some hb
      have c1 := StS.atS (hu.later hl) ha
      have c2 := StS.atS (hv.later hl) hb
      by_cases hab : a[i] = b[i]
      · repeat' (first | (simp (disch := omega) only [push_cast, ↓reduceIte, zA, zG, zB, zH, zI, zC, zJ, zK, zL, zD, zE, zF, zM, zN, zO, zP, zQ, reduceCtorEq, not_true_eq_false, not_false_eq_true, c1, c2, hab, decide_true, Bool.not_true]) | (first | refine iE ?_ ?_ | refine iD ?_ ?_ | refine iQ ?_ ?_ | refine iV ?_ ?_) <;> intro _ | refine And.intro (by omega) ?_ | refine drawn_q ?_ | fail)
        intro w1 hl1
        repeat' (first | (simp (disch := omega) only [push_cast, ↓reduceIte, zA, zG, zB, zH, zI, zC, zJ, zK, zL, zD, zE, zF, zM, zN, zO, zP, zQ, reduceCtorEq, not_true_eq_false, not_false_eq_true]) | (first | refine iE ?_ ?_ | refine iD ?_ ?_ | refine iQ ?_ ?_ | refine iV ?_ ?_) <;> intro _ | refine And.intro (by omega) ?_ | refine drawn_q ?_ | fail)
        refine ⟨rfl, i + 1, by simp (disch := omega) only [push_cast, ↓reduceIte, zA, zG, zB, zH, zI, zC, zJ, zK, zL, zD, zE, zF, zM, zN, zO, zP, zQ, reduceCtorEq, not_true_eq_false, not_false_eq_true], ⟨by omega, hl.trans hl1, ?_⟩, by simp; omega⟩
        rw [take_snoc a i ha, take_snoc b i hb, he, hab]
      · have hne : a ≠ b := fun e => by subst e; exact hab rfl
        repeat' (first | (simp (disch := omega) only [push_cast, ↓reduceIte, zA, zG, zB, zH, zI, zC, zJ, zK, zL, zD, zE, zF, zM, zN, zO, zP, zQ, reduceCtorEq, not_true_eq_false, not_false_eq_true, c1, c2, hab, decide_false, Bool.not_false]) | (first | refine iE ?_ ?_ | refine iD ?_ ?_ | refine iQ ?_ ?_ | refine iV ?_ ?_) <;> intro _ | refine And.intro (by omega) ?_ | refine drawn_q ?_ | fail)
        intro w1 hl1
        repeat' (first | (simp (disch := omega) only [push_cast, ↓reduceIte, zA, zG, zB, zH, zI, zC, zJ, zK, zL, zD, zE, zF, zM, zN, zO, zP, zQ, reduceCtorEq, not_true_eq_false, not_false_eq_true]) | (first | refine iE ?_ ?_ | refine iD ?_ ?_ | refine iQ ?_ ?_ | refine iV ?_ ?_) <;> intro _ | refine And.intro (by omega) ?_ | refine drawn_q ?_ | fail)
        simp [hne, hl.trans hl1]
    · have e : i = a.length := by omega
      subst e
      rw [List.take_length, hlen, List.take_length] at he
      repeat' (first | (simp (disch := omega) only [push_cast, ↓reduceIte, zA, zG, zB, zH, zI, zC, zJ, zK, zL, zD, zE, zF, zM, zN, zO, zP, zQ, reduceCtorEq, not_true_eq_false, not_false_eq_true]) | (first | refine iE ?_ ?_ | refine iD ?_ ?_ | refine iQ ?_ ?_ | refine iV ?_ ?_) <;> intro _ | refine And.intro (by omega) ?_ | refine drawn_q ?_ | fail)
      simp [he, hl]
  · have hne : a ≠ b := fun e => by subst e; exact hlen rfl
    repeat' (first | (simp (disch := omega) only [push_cast, ↓reduceIte, zA, zG, zB, zH, zI, zC, zJ, zK, zL, zD, zE, zF, zM, zN, zO, zP, zQ, reduceCtorEq, not_true_eq_false, not_false_eq_true]) | (first | refine iE ?_ ?_ | refine iD ?_ ?_ | refine iQ ?_ ?_ | refine iV ?_ ?_) <;> intro _ | refine And.intro (by omega) ?_ | refine drawn_q ?_ | fail)
    simp [hne, Later.refl]
end Go.Proofs.Ytnofalhkapmcnaa
end
section
set_option linter.unusedSimpArgs false
namespace Go.Proofs.Ytnofalhkapmcnaa
open Go.Vc Go.Key
set_option maxRecDepth 100000
def vlB (b : UInt8) : Bool := decide (32 ≤ b.toNat) && decide (b.toNat ≤ 126) && !decide (b.toNat = 34) && !decide (b.toNat = 92)
def VlOk (s : ByteArray) : Prop := (∀ i (h : i < s.size), vlB s[i] = true) ∧ s.size ≤ 24
instance (s : ByteArray) : Decidable (VlOk s) := inferInstanceAs (Decidable ((∀ i (h : i < s.size), vlB s[i] = true) ∧ s.size ≤ 24))
def wordsL : List ByteArray := [⟨#[99, 111, 117, 110, 116]⟩, ⟨#[115, 117, 109]⟩, ⟨#[109, 105, 110]⟩, ⟨#[109, 97, 120]⟩, ⟨#[102, 114, 111, 109]⟩, ⟨#[116, 111]⟩, ⟨#[98, 121]⟩, ⟨#[101, 118, 101, 114, 121]⟩, ⟨#[119, 104, 101, 114, 101]⟩, ⟨#[104, 97, 118, 105, 110, 103]⟩, ⟨#[111, 114, 100, 101, 114]⟩, ⟨#[108, 105, 109, 105, 116]⟩, ⟨#[97, 110, 100]⟩, ⟨#[111, 114]⟩, ⟨#[110, 111, 116]⟩, ⟨#[105, 115]⟩, ⟨#[110, 117, 108, 108]⟩, ⟨#[97, 115, 99]⟩, ⟨#[100, 101, 115, 99]⟩, ⟨#[115, 101, 108, 101, 99, 116]⟩]
theorem words_c (w : World) : FnC Try.prog 126 #[] w fun r w' => StS w' r wordsL ∧ Later w w' := by
  refine enter126 ?_
  unfold B126
  repeat' (first | (simp (disch := omega) only [push_cast, ↓reduceIte, zA, zG, zB, zH, zI, zC, zJ, zK, zL, zD, zE, zF, zM, zN, zO, zP, zQ, reduceCtorEq, not_true_eq_false, not_false_eq_true]) | (first | refine iE ?_ ?_ | refine iD ?_ ?_ | refine iQ ?_ ?_ | refine iV ?_ ?_) <;> intro _ | refine And.intro (by omega) ?_ | refine drawn_q ?_ | fail)
  exact ⟨Sl.of_blk (xs := wordsL.map Value.string) (Blk.new w _ _) rfl (by unfold maxLen; omega), later_alloc _ _⟩
def nmB (i : Nat) (b : UInt8) : Prop := (97 ≤ b.toNat ∧ b.toNat ≤ 122) ∨ (i ≠ 0 ∧ ((48 ≤ b.toNat ∧ b.toNat ≤ 57) ∨ b.toNat = 95))
instance (i : Nat) (b : UInt8) : Decidable (nmB i b) := inferInstanceAs (Decidable (_ ∨ _))
def NmOk (s : ByteArray) : Prop := (∀ x ∈ wordsL, x ≠ s) ∧ (∀ i (h : i < s.size), nmB i s[i]) ∧ 1 ≤ s.size ∧ s.size ≤ 12
instance (s : ByteArray) : Decidable (NmOk s) := inferInstanceAs (Decidable ((∀ x ∈ wordsL, x ≠ s) ∧ (∀ i (h : i < s.size), nmB i s[i]) ∧ 1 ≤ s.size ∧ s.size ≤ 12))
theorem dname_c (s : ByteArray) (w : World) (hs : s.size ≤ 9223372036854775807) : FnC Try.prog 87 #[.string s] w fun r w' => r = .bool (decide (NmOk s)) ∧ Later w w' := by
  refine enter87 _ ?_
  unfold B87
  repeat' (first | (simp (disch := omega) only [push_cast, ↓reduceIte, zA, zG, zB, zH, zI, zC, zJ, zK, zL, zD, zE, zF, zM, zN, zO, zP, zQ, reduceCtorEq, not_true_eq_false, not_false_eq_true]) | (first | refine iE ?_ ?_ | refine iD ?_ ?_ | refine iQ ?_ ?_ | refine iV ?_ ?_) <;> intro _ | refine And.intro (by omega) ?_ | refine drawn_q ?_ | fail)
  refine (words_c w).mono ?_
  rintro v w1 ⟨hW, l1⟩
  obtain ⟨o, c, rfl⟩ := Sl.slice hW
  have hl : (wordsL.map Value.string).length = 20 := rfl
  rw [hl]
  rw [hl] at hW
  repeat' (first | (simp (disch := omega) only [push_cast, ↓reduceIte, zA, zG, zB, zH, zI, zC, zJ, zK, zL, zD, zE, zF, zM, zN, zO, zP, zQ, reduceCtorEq, not_true_eq_false, not_false_eq_true]) | (first | refine iE ?_ ?_ | refine iD ?_ ?_ | refine iQ ?_ ?_ | refine iV ?_ ?_) <;> intro _ | refine And.intro (by omega) ?_ | refine drawn_q ?_ | fail)
  refine vc_loop W87_0 (fun i : Nat => [(2, .bool false), (4, .int .i64 (i : Int))])
    (fun i w' => i ≤ 20 ∧ Later w1 w' ∧ ∀ j (h : j < wordsL.length), j < i → wordsL[j] ≠ s) (fun i => 20 - i) 0 (by decide) ?_ ?_ ?_
  · simp (disch := omega) only [push_cast, ↓reduceIte, zA, zG, zB, zH, zI, zC, zJ, zK, zL, zD, zE, zF, zM, zN, zO, zP, zQ, reduceCtorEq, not_true_eq_false, not_false_eq_true]
  · exact ⟨by omega, Later.refl _, fun j _ hj => absurd hj (Nat.not_lt_zero _)⟩
  rintro i uu w2 ⟨hi, l2, hA⟩
  by_cases hlt : i < wordsL.length
  · have hlt' : i < 20 := hlt
    cases o with
    | none => have := Sl.len hW; simp [wordsL] at this
    | some a =>
    have hc := StS.atS (Sl.later hW l2) hlt
    by_cases hv : wordsL[i] = s
    · have hno : decide (NmOk s) = false := decide_eq_false fun h => h.1 _ (List.getElem_mem hlt) hv
      repeat' (first | (simp (disch := omega) only [push_cast, ↓reduceIte, zA, zG, zB, zH, zI, zC, zJ, zK, zL, zD, zE, zF, zM, zN, zO, zP, zQ, reduceCtorEq, not_true_eq_false, not_false_eq_true, hc, hv, decide_true]) | (first | refine iE ?_ ?_ | refine iD ?_ ?_ | refine iQ ?_ ?_ | refine iV ?_ ?_) <;> intro _ | refine And.intro (by omega) ?_ | refine drawn_q ?_ | fail)
      first | exact ⟨by rw [hno], (l1.trans l2)⟩ | exact (l1.trans l2)
    · repeat' (first | (simp (disch := omega) only [push_cast, ↓reduceIte, zA, zG, zB, zH, zI, zC, zJ, zK, zL, zD, zE, zF, zM, zN, zO, zP, zQ, reduceCtorEq, not_true_eq_false, not_false_eq_true, hc, hv, decide_false]) | (first | refine iE ?_ ?_ | refine iD ?_ ?_ | refine iQ ?_ ?_ | refine iV ?_ ?_) <;> intro _ | refine And.intro (by omega) ?_ | refine drawn_q ?_ | fail)
      refine ⟨rfl, i + 1, by simp (disch := omega) only [push_cast, ↓reduceIte, zA, zG, zB, zH, zI, zC, zJ, zK, zL, zD, zE, zF, zM, zN, zO, zP, zQ, reduceCtorEq, not_true_eq_false, not_false_eq_true], ⟨by omega, l2, fun j hj hji => ?_⟩, by dsimp only; omega⟩
      by_cases h : j < i
      · exact hA j hj h
      · have : j = i := by omega
        subst this
        exact hv
  have hi20 : i = 20 := by have : wordsL.length = 20 := rfl; omega
  subst hi20
  have hmem : ∀ x ∈ wordsL, x ≠ s := by
    intro x hm
    obtain ⟨j, hj, rfl⟩ := List.getElem_of_mem hm
    exact hA j hj hj
  have l12 := l1.trans l2
  repeat' (first | (simp (disch := omega) only [push_cast, ↓reduceIte, zA, zG, zB, zH, zI, zC, zJ, zK, zL, zD, zE, zF, zM, zN, zO, zP, zQ, reduceCtorEq, not_true_eq_false, not_false_eq_true]) | (first | refine iE ?_ ?_ | refine iD ?_ ?_ | refine iQ ?_ ?_ | refine iV ?_ ?_) <;> intro _ | refine And.intro (by omega) ?_ | refine drawn_q ?_ | fail)
  refine vc_loop W87_1 (fun i : Nat => [(2, .bool false), (5, .int .i64 (i : Int))])
    (fun i w' => i ≤ s.size ∧ w' = w2 ∧ ∀ j (h : j < s.size), j < i → nmB j s[j]) (fun i => s.size - i) 0 (by decide) ?_ ?_ ?_
  · simp (disch := omega) only [push_cast, ↓reduceIte, zA, zG, zB, zH, zI, zC, zJ, zK, zL, zD, zE, zF, zM, zN, zO, zP, zQ, reduceCtorEq, not_true_eq_false, not_false_eq_true]
  · exact ⟨by omega, rfl, fun j _ hj => absurd hj (Nat.not_lt_zero _)⟩
  rintro i uu2 w0 ⟨hi, h0, hB⟩
  obtain rfl := h0.symm
  by_cases hlt : i < s.size
  · have hg : s[i]? = some s[i] := getElem?_pos s i hlt
    have hno : ¬ nmB i s[i] → decide (NmOk s) = false := fun hv => decide_eq_false fun h => hv (h.2.1 i hlt)
    have hyes : nmB i s[i] → ∀ j (h : j < s.size), j < i + 1 → nmB j s[j] := by
      intro hv j hj hji
      by_cases h : j < i
      · exact hB j hj h
      · have : j = i := by omega
        subst this
        exact hv
    generalize hN : nmB i s[i] = N at hno hyes
    unfold nmB at hN
    generalize s[i] = ch at *
    repeat' (first | (simp (disch := omega) only [push_cast, ↓reduceIte, zA, zG, zB, zH, zI, zC, zJ, zK, zL, zD, zE, zF, zM, zN, zO, zP, zQ, reduceCtorEq, not_true_eq_false, not_false_eq_true, hg]) | (first | refine iE ?_ ?_ | refine iD ?_ ?_ | refine iQ ?_ ?_ | refine iV ?_ ?_) <;> intro _ | refine And.intro (by omega) ?_ | refine drawn_q ?_ | fail)
    all_goals first
      | (have hn : ¬ N := by rw [← hN]; omega
         first | exact ⟨by rw [hno hn], l12⟩ | (rw [hno hn]))
      | (have hn : N := by rw [← hN]; omega
         exact ⟨rfl, i + 1, by simp (disch := omega) only [push_cast, ↓reduceIte, zA, zG, zB, zH, zI, zC, zJ, zK, zL, zD, zE, zF, zM, zN, zO, zP, zQ, reduceCtorEq, not_true_eq_false, not_false_eq_true], ⟨by omega, rfl, hyes hn⟩, by dsimp only; omega⟩)
  · have hall : ∀ j (h : j < s.size), nmB j s[j] := fun j hj => hB j hj (by omega)
    have hd : decide (NmOk s) = (decide (1 ≤ s.size) && decide (s.size ≤ 12)) := by
      rw [← Bool.decide_and]
      exact decide_eq_decide.2 ⟨fun h => h.2.2, fun h => ⟨hmem, hall, h⟩⟩
    by_cases h1 : 1 ≤ s.size
    · by_cases h2 : s.size ≤ 12
      · rw [hd, decide_eq_true h1, decide_eq_true h2]
        repeat' (first | (simp (disch := omega) only [push_cast, ↓reduceIte, zA, zG, zB, zH, zI, zC, zJ, zK, zL, zD, zE, zF, zM, zN, zO, zP, zQ, reduceCtorEq, not_true_eq_false, not_false_eq_true]) | (first | refine iE ?_ ?_ | refine iD ?_ ?_ | refine iQ ?_ ?_ | refine iV ?_ ?_) <;> intro _ | refine And.intro (by omega) ?_ | refine drawn_q ?_ | fail)
        first | exact ⟨congrArg Value.bool (decide_eq_true (by omega)), l12⟩ | exact l12
      · rw [hd, decide_eq_true h1, decide_eq_false h2]
        repeat' (first | (simp (disch := omega) only [push_cast, ↓reduceIte, zA, zG, zB, zH, zI, zC, zJ, zK, zL, zD, zE, zF, zM, zN, zO, zP, zQ, reduceCtorEq, not_true_eq_false, not_false_eq_true]) | (first | refine iE ?_ ?_ | refine iD ?_ ?_ | refine iQ ?_ ?_ | refine iV ?_ ?_) <;> intro _ | refine And.intro (by omega) ?_ | refine drawn_q ?_ | fail)
        first | exact ⟨congrArg Value.bool (decide_eq_false (by omega)), l12⟩ | exact l12
    · rw [hd, decide_eq_false h1]
      repeat' (first | (simp (disch := omega) only [push_cast, ↓reduceIte, zA, zG, zB, zH, zI, zC, zJ, zK, zL, zD, zE, zF, zM, zN, zO, zP, zQ, reduceCtorEq, not_true_eq_false, not_false_eq_true]) | (first | refine iE ?_ ?_ | refine iD ?_ ?_ | refine iQ ?_ ?_ | refine iV ?_ ?_) <;> intro _ | refine And.intro (by omega) ?_ | refine drawn_q ?_ | fail)
      first | exact ⟨rfl, l12⟩ | exact l12
/-- Texts that are gone through. -/
def F10 (l : List ByteArray) : Prop := l.length ≤ 20 ∧ ∀ s ∈ l, s.size ≤ 80
instance (l : List ByteArray) : Decidable (F10 l) := inferInstanceAs (Decidable (_ ∧ _))
theorem fits10_c (v : Value) (l : List ByteArray) (w : World) (h : StS w v l) (hs : ∀ s ∈ l, s.size ≤ 9223372036854775807) : FnC Try.prog 53 #[v] w fun r w' => r = .bool (decide (F10 l)) ∧ w' = w := by
  obtain ⟨o, c, rfl⟩ := Sl.slice h
  rw [List.length_map] at h ⊢
  refine enter53 _ ?_
  unfold B53
  have hbig := (Sl.len h).2.1
  have hbig2 := (Sl.len h).2.2.1
  unfold maxLen at hbig2
  repeat' (first | (simp (disch := omega) only [push_cast, ↓reduceIte, zA, zG, zB, zH, zI, zC, zJ, zK, zL, zD, zE, zF, zM, zN, zO, zP, zQ, reduceCtorEq, not_true_eq_false, not_false_eq_true]) | (first | refine iE ?_ ?_ | refine iD ?_ ?_ | refine iQ ?_ ?_ | refine iV ?_ ?_) <;> intro _ | refine And.intro (by omega) ?_ | refine drawn_q ?_ | fail)
  refine vc_loop W53_0 (fun i : Nat => [(2, .bool false), (3, .int .i64 (i : Int))])
    (fun i w' => i ≤ l.length ∧ i ≤ 20 ∧ w' = w ∧ ∀ j (h : j < l.length), j < i → l[j].size ≤ 80) (fun i => l.length - i) 0 (by decide) ?_ ?_ ?_
  · simp (disch := omega) only [push_cast, ↓reduceIte, zA, zG, zB, zH, zI, zC, zJ, zK, zL, zD, zE, zF, zM, zN, zO, zP, zQ, reduceCtorEq, not_true_eq_false, not_false_eq_true]
  · exact ⟨by omega, by omega, rfl, fun j _ hj => absurd hj (Nat.not_lt_zero _)⟩
  rintro i uu w0 ⟨hi, hi20, h0, hA⟩
  obtain rfl := h0.symm
  by_cases hlt : i < l.length
  · cases o with
    | none => have := (Sl.len h).2.2.2 rfl; simp at this; rw [this.1] at hlt; simp at hlt
    | some a =>
    have hc := StS.atS h hlt
    have hz := hs _ (List.getElem_mem hlt)
    by_cases h20 : i = 20
    · have hno : decide (F10 l) = false := decide_eq_false fun h => by have := h.1; omega
      subst h20
      repeat' (first | (simp (disch := omega) only [push_cast, ↓reduceIte, zA, zG, zB, zH, zI, zC, zJ, zK, zL, zD, zE, zF, zM, zN, zO, zP, zQ, reduceCtorEq, not_true_eq_false, not_false_eq_true, hc]) | (first | refine iE ?_ ?_ | refine iD ?_ ?_ | refine iQ ?_ ?_ | refine iV ?_ ?_) <;> intro _ | refine And.intro (by omega) ?_ | refine drawn_q ?_ | fail)
      first | exact ⟨by rw [hno], trivial⟩ | (rw [hno])
    · by_cases h80 : l[i].size ≤ 80
      · repeat' (first | (simp (disch := omega) only [push_cast, ↓reduceIte, zA, zG, zB, zH, zI, zC, zJ, zK, zL, zD, zE, zF, zM, zN, zO, zP, zQ, reduceCtorEq, not_true_eq_false, not_false_eq_true, hc]) | (first | refine iE ?_ ?_ | refine iD ?_ ?_ | refine iQ ?_ ?_ | refine iV ?_ ?_) <;> intro _ | refine And.intro (by omega) ?_ | refine drawn_q ?_ | fail)
        refine ⟨rfl, i + 1, by simp (disch := omega) only [push_cast, ↓reduceIte, zA, zG, zB, zH, zI, zC, zJ, zK, zL, zD, zE, zF, zM, zN, zO, zP, zQ, reduceCtorEq, not_true_eq_false, not_false_eq_true], ⟨by omega, by omega, rfl, fun j hj hji => ?_⟩, by dsimp only; omega⟩
        by_cases h : j < i
        · exact hA j hj h
        · have : j = i := by omega
          subst this
          exact h80
      · have hno : decide (F10 l) = false := decide_eq_false fun h => h80 (h.2 _ (List.getElem_mem _))
        repeat' (first | (simp (disch := omega) only [push_cast, ↓reduceIte, zA, zG, zB, zH, zI, zC, zJ, zK, zL, zD, zE, zF, zM, zN, zO, zP, zQ, reduceCtorEq, not_true_eq_false, not_false_eq_true, hc]) | (first | refine iE ?_ ?_ | refine iD ?_ ?_ | refine iQ ?_ ?_ | refine iV ?_ ?_) <;> intro _ | refine And.intro (by omega) ?_ | refine drawn_q ?_ | fail)
        first | exact ⟨by rw [hno], trivial⟩ | (rw [hno])
  · have hyes : decide (F10 l) = true := decide_eq_true ⟨by omega, fun s hs => by
      obtain ⟨j, hj, rfl⟩ := List.getElem_of_mem hs
      exact hA j hj (by omega)⟩
    repeat' (first | (simp (disch := omega) only [push_cast, ↓reduceIte, zA, zG, zB, zH, zI, zC, zJ, zK, zL, zD, zE, zF, zM, zN, zO, zP, zQ, reduceCtorEq, not_true_eq_false, not_false_eq_true]) | (first | refine iE ?_ ?_ | refine iD ?_ ?_ | refine iQ ?_ ?_ | refine iV ?_ ?_) <;> intro _ | refine And.intro (by omega) ?_ | refine drawn_q ?_ | fail)
    rw [hyes]
end Go.Proofs.Ytnofalhkapmcnaa
end
section
set_option linter.unusedSimpArgs false
namespace Go.Proofs.Ytnofalhkapmcnaa
open Go.Vc Go.Key
set_option maxRecDepth 100000
end Go.Proofs.Ytnofalhkapmcnaa
end
section
set_option linter.unusedSimpArgs false
namespace Go.Vc
open Go.RowKit in
/-- An append to an empty literal. -/
theorem vAppend_fresh {P : Program} {w : World} {K : Value → World → Prop} {t e ty : TypeId} {z : Value} {s b : Nat} (ht : P.underlying t = some (.slice e)) (hi : (P.info? e).map (fun i => (i.zero, i.size, i.bytes)) = some (some z, s, b)) (hzs : z.cells.size = s) (hsz : 0 < s)
    {db : Nat} {x : Value} {m : Nat} {news : List Value} (hx : SlN w s x m news) (h63 : m ≤ maxLen) (hb : m * b ≤ 140737488355328)
    (hK : ∀ v' w', (m = 0 → v' = .slice (some ⟨db, 0, none⟩) 0 0 ∧ w' = w) → (0 < m → w'.ownsRow w.heap.size e s v' m news ∧ Later w w') → K v' w') : vAppend P #[t, t] ty #[.slice (some ⟨db, 0, none⟩) 0 0, x] K w := by
  obtain ⟨i, hi1, hz, hsi, hbi⟩ := info_parts hi
  unfold vAppend
  obtain ⟨hl, hr⟩ := hx
  rcases hr with ⟨rfl, rfl⟩ | ⟨ad, c, rfl, hc1, hc2, hc3⟩
  · rw [run_val_pure (run_append_nil_src ht hi (some ⟨db, 0, none⟩) 0 0 (Nat.le_refl _) (fun ho => by cases ho))]
    exact hK _ _ (fun _ => ⟨rfl, rfl⟩) (fun h => absurd h (Nat.lt_irrefl _))
  · by_cases hm : m = 0
    · subst hm
      have hn : news = [] := List.eq_nil_of_length_eq_zero (by simpa using hl)
      subst hn
      have hrun := run_append_room_cells (P := P) w t ty e i ht hi1 db 0 0 0 ad 0 c [] (by simp) (fun j u h => by simp at h) (fun u h => by simp at h) (by omega) (fun j h => by simp at h) (fun j h => by simp at h)
      rw [run_val_pure hrun]
      exact hK _ _ (fun _ => ⟨rfl, rfl⟩) (fun h => absurd h (Nat.lt_irrefl _))
    · obtain ⟨v', w', hrun, ho, hg⟩ := run_append_arg_grows (P := P) w t ty e i z s b ht hi1 hz hsi hbi hzs hsz ⟨db, 0, none⟩ 0 0 [] (by simp) (fun j u h => by simp at h) ad m c news hl hc3 (by omega) (by omega) (by simpa using hb)
      rw [run_val_pure hrun]
      refine hK _ _ (fun h => absurd h hm) (fun _ => ⟨by simpa using ho, hg.os, hg.tape, hg.output, hg.size, fun k hk => hg.block k hk (by simp)⟩)
/-- An append to what hangs on the world. -/
theorem nR_app {P : Program} {args : Array Operand} {ts : Array TypeId} {ty : TypeId} {rs : List Nat} {Ns : NS} {σ : Env} {w : World} {Kv : Value → Prop} {Kn : (Value → World → Prop) → Prop} (V' : Value → World → Prop) (hV' : Stb w V')
    (h : ∀ σ' w', Later w w' → psis Ns σ w' σ' rs → vAppend P ts ty (args.map (ev σ')) (fun v w'' => Later w' w'' ∧ V' v w'') w') (hk : Kn V') : nR P (.call ⟨.builtin .append, args, ts⟩) ty rs Ns σ w Kv Kn :=
  .inr ⟨V', hV', fun σ' w' hl hp => nUp_val (h σ' w' hl hp), hk⟩
end Go.Vc
namespace Go.Proofs.Ytnofalhkapmcnaa
open Go.Vc Go.Key
set_option maxRecDepth 100000
abbrev OwnS (w : World) (B : Nat) (v : Value) (l : List ByteArray) : Prop := w.ownsRow B 9 1 v l.length (l.map Value.string)
theorem stb_ownS (w0 : World) (B : Nat) (l : List ByteArray) : Stb w0 (fun v w => OwnS w B v l) := fun _ _ _ _ hl h => own_later h hl
def Lit0 (B : Nat) (v : Value) (w : World) : Prop := (∃ b, v = .slice (some ⟨b, 0, none⟩) 0 0) ∧ OwnS w B v []
theorem stb_lit0 (w0 : World) (B : Nat) : Stb w0 (Lit0 B) := fun _ _ _ _ hl h => ⟨h.1, own_later h.2 hl⟩
theorem box2 (w : World) (a b : Value) (e : TypeId) : Later w (w.alloc (.cells #[a, b] e)) ∧ (w.alloc (.cells #[a, b] e)).heap.size = w.heap.size + 1 ∧ ∀ w', Later (w.alloc (.cells #[a, b] e)) w' → w'.cell? ⟨w.heap.size, 0, none⟩ = some a ∧ w'.cell? ⟨w.heap.size, 1, none⟩ = some b ∧ cellsAt w' ⟨w.heap.size, 0, none⟩ 2 = some [a, b] := by
  refine ⟨later_alloc _ _, World.size_alloc _ _, fun w' hl => ?_⟩
  have := (Blk.new w #[a, b] e).chg (Chg.of_later (ks := []) hl) (by simp)
  exact ⟨this.cell 0, this.cell 1, Blk.cellsAt (l := [a, b]) this⟩
/-- Texts, whose lengths are numbers. -/
def StZ (l : List ByteArray) : Prop := ∀ s ∈ l, s.size ≤ 9223372036854775807
structure ScIs (w : World) (dv mv : Value) (d m : List ByteArray) : Prop where
  dS : StS w dv d
  mS : StS w mv m
  dZ : StZ d
  mZ : StZ m
theorem ScIs.later {w w' : World} {dv mv : Value} {d m : List ByteArray} (h : ScIs w dv mv d m) (hl : Later w w') : ScIs w' dv mv d m := ⟨Sl.later h.dS hl, Sl.later h.mS hl, h.dZ, h.mZ⟩
def scV (dv mv : Value) : Value := .agg #[dv, mv]
def ScOk (d m : List ByteArray) : Prop := (∀ x ∈ d ++ m, NmOk x) ∧ (d ++ m).Pairwise (fun x y => x ≠ y) ∧ 1 ≤ d.length ∧ d.length ≤ 6 ∧ m.length ≤ 4
instance (d m : List ByteArray) : Decidable (ScOk d m) := inferInstanceAs (Decidable ((∀ x ∈ d ++ m, NmOk x) ∧ (d ++ m).Pairwise (fun x y => x ≠ y) ∧ 1 ≤ d.length ∧ d.length ≤ 6 ∧ m.length ≤ 4))
theorem StS.n {w : World} {v : Value} {l : List ByteArray} (h : StS w v l) : SlN w 1 v l.length (l.map Value.string) := by
  have := h
  unfold StS Sl at this
  rwa [List.length_map] at this
/-- Texts behind texts of the call's own. -/
theorem vAppend_ss {w : World} {K : Value → World → Prop} {ty : TypeId} {B : Nat} {v x : Value} {l r : List ByteArray} (hown : OwnS w B v l) (hx : StS w x r) (h63 : l.length + r.length ≤ 100000000) (hbase : B ≤ w.heap.size)
    (hK : ∀ v' w', OwnS w' B v' (l ++ r) → w.grownBy w' v.ownBlock → (v'.ownBlock = v.ownBlock ∨ v'.ownBlock = some w.heap.size) → K v' w') : vAppend Try.prog #[22, 22] ty #[v, x] K w := by
  refine vAppend_at Try.underlying22 ti9 rfl (by decide) hown hx.n ?_ (by unfold maxLen; omega) (by omega) hbase ?_
  · intro u hu
    obtain ⟨p, hp, rfl⟩ := List.mem_map.1 hu
    rfl
  · intro v' w' ho hg hs
    refine hK v' w' ?_ hg hs
    unfold OwnS
    simpa using ho
theorem ok_step {L : List ByteArray} {i : Nat} (hi : i < L.length) (hd : (L.take i).Pairwise (fun x y => x ≠ y)) (hn : ∀ j (h : j < L.length), j < i → L[j] ≠ L[i]) : (L.take (i + 1)).Pairwise (fun x y => x ≠ y) := by
  rw [take_snoc L i hi, List.pairwise_append]
  refine ⟨hd, by simp, fun a ha b hb => ?_⟩
  rw [List.mem_singleton.1 hb]
  obtain ⟨j, hj, rfl⟩ := List.getElem_of_mem ha
  rw [List.length_take] at hj
  rw [List.getElem_take]
  exact hn j (by omega) (by omega)
theorem dschema_c (dv mv : Value) (d m : List ByteArray) (w : World) (h : ScIs w dv mv d m) (fd : d.length ≤ 2000000) (fm : m.length ≤ 2000000) : FnC Try.prog 55 #[scV dv mv] w fun r w' => r = .bool (decide (ScOk d m)) ∧ Later w w' := by
  unfold scV
  obtain ⟨od, cd, hdv⟩ := Sl.slice h.dS
  obtain ⟨om, cm, hmv⟩ := Sl.slice h.mS
  rw [List.length_map] at hdv hmv
  refine enter55 _ ?_
  unfold B55
  obtain ⟨l1, s1, F⟩ := box2 w dv mv 24
  have eca : (Value.agg #[dv, mv]).cells = #[dv, mv] := rfl
  repeat' (first | (simp (disch := omega) only [push_cast, ↓reduceIte, zA, zG, zB, zH, zI, zC, zJ, zK, zL, zD, zE, zF, zM, zN, zO, zP, zQ, reduceCtorEq, not_true_eq_false, not_false_eq_true, eca, s1]) | (first | refine iE ?_ ?_ | refine iD ?_ ?_ | refine iQ ?_ ?_ | refine iV ?_ ?_) <;> intro _ | refine And.intro (by omega) ?_ | fail)
  generalize w.alloc (.cells #[dv, mv] 24) = w1 at *
  obtain ⟨a0, a1, _⟩ := F w1 (Later.refl _)
  have h1 := h.later l1
  refine drawn_k 6 ?_
  repeat' (first | (simp (disch := omega) only [push_cast, ↓reduceIte, zA, zG, zB, zH, zI, zC, zJ, zK, zL, zD, zE, zF, zM, zN, zO, zP, zQ, reduceCtorEq, not_true_eq_false, not_false_eq_true, a0, a1, addr_add_eq, Nat.zero_add]) | (first | refine iE ?_ ?_ | refine iD ?_ ?_ | refine iQ ?_ ?_ | refine iV ?_ ?_) <;> intro _ | refine And.intro (by omega) ?_ | fail)
  refine nB_of _ (Lit0 w1.heap.size) (stb_lit0 _ _) (fun w' hl => ?_) ?_
  · repeat' (first | (simp (disch := omega) only [push_cast, ↓reduceIte, zA, zG, zB, zH, zI, zC, zJ, zK, zL, zD, zE, zF, zM, zN, zO, zP, zQ, reduceCtorEq, not_true_eq_false, not_false_eq_true]) | (first | refine iE ?_ ?_ | refine iD ?_ ?_ | refine iQ ?_ ?_ | refine iV ?_ ?_) <;> intro _ | refine And.intro (by omega) ?_ | fail)
    exact ⟨later_alloc _ _, ⟨_, rfl⟩, own_lit w' [] _ 1 0 rfl (by unfold maxLen; omega) hl.size⟩
  repeat' (first | (simp (disch := omega) only [push_cast, ↓reduceIte, zA, zG, zB, zH, zI, zC, zJ, zK, zL, zD, zE, zF, zM, zN, zO, zP, zQ, reduceCtorEq, not_true_eq_false, not_false_eq_true, a0, a1, addr_add_eq, Nat.zero_add]) | (first | refine iE ?_ ?_ | refine iD ?_ ?_ | refine iQ ?_ ?_ | refine iV ?_ ?_) <;> intro _ | refine And.intro (by omega) ?_ | fail)
  refine nR_app (fun v w' => OwnS w' w1.heap.size v d) (stb_ownS _ _ _) (fun σ' w' hl hp => ?_) ?_
  · obtain ⟨hp26, hp28, _⟩ := hp
    obtain ⟨⟨lb, h26⟩, h26o⟩ : Lit0 w1.heap.size (σ' 7) w' := hp26
    have h28 : σ' 9 = dv := hp28
    have hsn := (h1.later hl).dS.n
    rw [h26] at h26o
    repeat' (first | (simp (disch := omega) only [push_cast, ↓reduceIte, zA, zG, zB, zH, zI, zC, zJ, zK, zL, zD, zE, zF, zM, zN, zO, zP, zQ, reduceCtorEq, not_true_eq_false, not_false_eq_true, h28, h26]) | (first | refine iE ?_ ?_ | refine iD ?_ ?_ | refine iQ ?_ ?_ | refine iV ?_ ?_) <;> intro _ | refine And.intro (by omega) ?_ | fail)
    refine vAppend_fresh Try.underlying22 ti9 rfl (by decide) hsn (by unfold maxLen; omega) (by omega) ?_
    intro v' w'' h0 h1
    rcases Nat.eq_zero_or_pos d.length with hz | hz
    · obtain ⟨rfl, rfl⟩ := h0 hz
      have : d = [] := List.length_eq_zero_iff.1 hz
      rw [this]
      exact ⟨Later.refl _, h26o⟩
    · obtain ⟨ho, hll⟩ := h1 hz
      exact ⟨hll, own_base ho hl.size⟩
  repeat' (first | (simp (disch := omega) only [push_cast, ↓reduceIte, zA, zG, zB, zH, zI, zC, zJ, zK, zL, zD, zE, zF, zM, zN, zO, zP, zQ, reduceCtorEq, not_true_eq_false, not_false_eq_true, a0, a1, addr_add_eq, Nat.zero_add]) | (first | refine iE ?_ ?_ | refine iD ?_ ?_ | refine iQ ?_ ?_ | refine iV ?_ ?_) <;> intro _ | refine And.intro (by omega) ?_ | fail)
  rintro w2 l2 X hX _ _
  refine vAppend_ss hX (h1.later l2).mS (by omega) l2.size ?_
  intro v3 w3 ho3 hg3 _
  have l13 := l2.appended hX (Nat.le_refl _) hg3
  have hL := Sl.of_own ho3
  have hLn : (d ++ m).length = d.length + m.length := List.length_append
  have hZ : StZ (d ++ m) := fun s hs => by
    rcases List.mem_append.1 hs with hs | hs
    · exact h.dZ s hs
    · exact h.mZ s hs
  have hL : StS w3 v3 (d ++ m) := hL
  have hOk : ScOk d m = ((∀ x ∈ d ++ m, NmOk x) ∧ (d ++ m).Pairwise (fun x y => x ≠ y) ∧ 1 ≤ d.length ∧ d.length ≤ 6 ∧ m.length ≤ 4) := rfl
  generalize d ++ m = L at *
  obtain ⟨o3, c3, rfl⟩ := Sl.slice hL
  rw [List.length_map] at hL ⊢
  clear hX ho3 hg3
  repeat' (first | (simp (disch := omega) only [push_cast, ↓reduceIte, zA, zG, zB, zH, zI, zC, zJ, zK, zL, zD, zE, zF, zM, zN, zO, zP, zQ, reduceCtorEq, not_true_eq_false, not_false_eq_true]) | (first | refine iE ?_ ?_ | refine iD ?_ ?_ | refine iQ ?_ ?_ | refine iV ?_ ?_) <;> intro _ | refine And.intro (by omega) ?_ | refine drawn_q ?_ | fail)
  refine vc_loop W55_0 (fun i : Nat => [(2, .bool false), (4, .int .i64 (i : Int))])
    (fun i w' => i ≤ L.length ∧ Later w3 w' ∧ (∀ j (h : j < L.length), j < i → NmOk L[j]) ∧ (L.take i).Pairwise (fun x y => x ≠ y)) (fun i => L.length - i) 0 (by decide) ?_ ?_ ?_
  · simp (disch := omega) only [push_cast, ↓reduceIte, zA, zG, zB, zH, zI, zC, zJ, zK, zL, zD, zE, zF, zM, zN, zO, zP, zQ, reduceCtorEq, not_true_eq_false, not_false_eq_true]
  · exact ⟨by omega, Later.refl _, fun j _ hj => absurd hj (Nat.not_lt_zero _), by simp⟩
  rintro i uu w4 ⟨hi, l4, hA, hP⟩
  have l04 := (l1.trans l13).trans l4
  by_cases hlt : i < L.length
  · cases o3 with
    | none => have := (Sl.len hL).2.2.2 rfl; simp at this; rw [this.1] at hlt; simp at hlt
    | some a =>
    have hc := StS.atS (Sl.later hL l4) hlt
    repeat' (first | (simp (disch := omega) only [push_cast, ↓reduceIte, zA, zG, zB, zH, zI, zC, zJ, zK, zL, zD, zE, zF, zM, zN, zO, zP, zQ, reduceCtorEq, not_true_eq_false, not_false_eq_true, hc]) | (first | refine iE ?_ ?_ | refine iD ?_ ?_ | refine iQ ?_ ?_ | refine iV ?_ ?_) <;> intro _ | refine And.intro (by omega) ?_ | refine drawn_q ?_ | fail)
    refine (dname_c L[i] w4 (hZ _ (List.getElem_mem _))).mono ?_
    rintro _ w5 ⟨rfl, l5⟩
    by_cases hn : NmOk L[i]
    · rw [decide_eq_true hn]
      repeat' (first | (simp (disch := omega) only [push_cast, ↓reduceIte, zA, zG, zB, zH, zI, zC, zJ, zK, zL, zD, zE, zF, zM, zN, zO, zP, zQ, reduceCtorEq, not_true_eq_false, not_false_eq_true]) | (first | refine iE ?_ ?_ | refine iD ?_ ?_ | refine iQ ?_ ?_ | refine iV ?_ ?_) <;> intro _ | refine And.intro (by omega) ?_ | refine drawn_q ?_ | fail)
      refine vc_loop W55_1 (fun i : Nat => [(2, .bool false), (6, .int .i64 (i : Int))])
        (fun k w' => k ≤ i ∧ Later w5 w' ∧ (∀ j (h : j < L.length), j < k → L[j] ≠ L[i])) (fun k => i - k) 0 (by decide) ?_ ?_ ?_
      · simp (disch := omega) only [push_cast, ↓reduceIte, zA, zG, zB, zH, zI, zC, zJ, zK, zL, zD, zE, zF, zM, zN, zO, zP, zQ, reduceCtorEq, not_true_eq_false, not_false_eq_true]
      · exact ⟨by omega, Later.refl _, fun j _ hj => absurd hj (Nat.not_lt_zero _)⟩
      rintro k uu2 w6 ⟨hk, l6, hB⟩
      have l46 := l5.trans l6
      by_cases hki : k < i
      · have c1 := StS.atS (Sl.later hL (l4.trans l46)) (show k < L.length by omega)
        have c2 := StS.atS (Sl.later hL (l4.trans l46)) hlt
        by_cases he : L[k] = L[i]
        · have hno : decide (ScOk d m) = false := decide_eq_false fun h => by
            rw [hOk] at h
            exact List.pairwise_iff_getElem.1 h.2.1 k i (by omega) hlt hki he
          repeat' (first | (simp (disch := omega) only [push_cast, ↓reduceIte, zA, zG, zB, zH, zI, zC, zJ, zK, zL, zD, zE, zF, zM, zN, zO, zP, zQ, reduceCtorEq, not_true_eq_false, not_false_eq_true, c1, c2, he, decide_true]) | (first | refine iE ?_ ?_ | refine iD ?_ ?_ | refine iQ ?_ ?_ | refine iV ?_ ?_) <;> intro _ | refine And.intro (by omega) ?_ | refine drawn_q ?_ | fail)
          intro w7 l7
          repeat' (first | (simp (disch := omega) only [push_cast, ↓reduceIte, zA, zG, zB, zH, zI, zC, zJ, zK, zL, zD, zE, zF, zM, zN, zO, zP, zQ, reduceCtorEq, not_true_eq_false, not_false_eq_true]) | (first | refine iE ?_ ?_ | refine iD ?_ ?_ | refine iQ ?_ ?_ | refine iV ?_ ?_) <;> intro _ | refine And.intro (by omega) ?_ | refine drawn_q ?_ | fail)
          first | exact ⟨by rw [hno], ((l04.trans l46).trans l7)⟩ | exact ((l04.trans l46).trans l7)
        · repeat' (first | (simp (disch := omega) only [push_cast, ↓reduceIte, zA, zG, zB, zH, zI, zC, zJ, zK, zL, zD, zE, zF, zM, zN, zO, zP, zQ, reduceCtorEq, not_true_eq_false, not_false_eq_true, c1, c2, he, decide_false]) | (first | refine iE ?_ ?_ | refine iD ?_ ?_ | refine iQ ?_ ?_ | refine iV ?_ ?_) <;> intro _ | refine And.intro (by omega) ?_ | refine drawn_q ?_ | fail)
          intro w7 l7
          repeat' (first | (simp (disch := omega) only [push_cast, ↓reduceIte, zA, zG, zB, zH, zI, zC, zJ, zK, zL, zD, zE, zF, zM, zN, zO, zP, zQ, reduceCtorEq, not_true_eq_false, not_false_eq_true]) | (first | refine iE ?_ ?_ | refine iD ?_ ?_ | refine iQ ?_ ?_ | refine iV ?_ ?_) <;> intro _ | refine And.intro (by omega) ?_ | refine drawn_q ?_ | fail)
          refine ⟨rfl, k + 1, by simp (disch := omega) only [push_cast, ↓reduceIte, zA, zG, zB, zH, zI, zC, zJ, zK, zL, zD, zE, zF, zM, zN, zO, zP, zQ, reduceCtorEq, not_true_eq_false, not_false_eq_true], ⟨by omega, l6.trans l7, fun j hj hjk => ?_⟩, by dsimp only; omega⟩
          by_cases h : j < k
          · exact hB j hj h
          · have : j = k := by omega
            subst this
            exact he
      · have hki' : k = i := by omega
        subst hki'
        repeat' (first | (simp (disch := omega) only [push_cast, ↓reduceIte, zA, zG, zB, zH, zI, zC, zJ, zK, zL, zD, zE, zF, zM, zN, zO, zP, zQ, reduceCtorEq, not_true_eq_false, not_false_eq_true]) | (first | refine iE ?_ ?_ | refine iD ?_ ?_ | refine iQ ?_ ?_ | refine iV ?_ ?_) <;> intro _ | refine And.intro (by omega) ?_ | refine drawn_q ?_ | fail)
        refine ⟨rfl, k + 1, by simp (disch := omega) only [push_cast, ↓reduceIte, zA, zG, zB, zH, zI, zC, zJ, zK, zL, zD, zE, zF, zM, zN, zO, zP, zQ, reduceCtorEq, not_true_eq_false, not_false_eq_true], ⟨by omega, l4.trans l46, fun j hj hjk => ?_, ok_step hlt hP hB⟩, by dsimp only; omega⟩
        by_cases h : j < k
        · exact hA j hj h
        · have : j = k := by omega
          subst this
          exact hn
    · have hno : decide (ScOk d m) = false := decide_eq_false fun h => by
        rw [hOk] at h
        exact hn (h.1 _ (List.getElem_mem _))
      rw [decide_eq_false hn]
      repeat' (first | (simp (disch := omega) only [push_cast, ↓reduceIte, zA, zG, zB, zH, zI, zC, zJ, zK, zL, zD, zE, zF, zM, zN, zO, zP, zQ, reduceCtorEq, not_true_eq_false, not_false_eq_true]) | (first | refine iE ?_ ?_ | refine iD ?_ ?_ | refine iQ ?_ ?_ | refine iV ?_ ?_) <;> intro _ | refine And.intro (by omega) ?_ | refine drawn_q ?_ | fail)
      first | exact ⟨by rw [hno], (l04.trans l5)⟩ | exact (l04.trans l5)
  · have hd : decide (ScOk d m) = decide (1 ≤ d.length ∧ d.length ≤ 6 ∧ m.length ≤ 4) := by
      refine decide_eq_decide.2 ?_
      rw [hOk]
      refine ⟨fun h => h.2.2, fun h => ⟨fun x hx => ?_, ?_, h⟩⟩
      · obtain ⟨j, hj, rfl⟩ := List.getElem_of_mem hx
        exact hA j hj (by omega)
      · rw [List.take_of_length_le (by omega)] at hP
        exact hP
    obtain ⟨a0, a1, _⟩ := F w4 (l13.trans l4)
    rw [hdv] at a0
    rw [hmv] at a1
    rw [hd]
    by_cases h1 : 1 ≤ d.length
    · by_cases h2 : d.length ≤ 6
      · by_cases h3 : m.length ≤ 4
        · repeat' (first | (simp (disch := omega) only [push_cast, ↓reduceIte, zA, zG, zB, zH, zI, zC, zJ, zK, zL, zD, zE, zF, zM, zN, zO, zP, zQ, reduceCtorEq, not_true_eq_false, not_false_eq_true, a0, a1, addr_add_eq, Nat.zero_add]) | (first | refine iE ?_ ?_ | refine iD ?_ ?_ | refine iQ ?_ ?_ | refine iV ?_ ?_) <;> intro _ | refine And.intro (by omega) ?_ | refine drawn_q ?_ | fail)
          first | exact ⟨congrArg Value.bool ((decide_eq_true (by omega)).trans (decide_eq_true (by omega)).symm), l04⟩ | exact l04
        · repeat' (first | (simp (disch := omega) only [push_cast, ↓reduceIte, zA, zG, zB, zH, zI, zC, zJ, zK, zL, zD, zE, zF, zM, zN, zO, zP, zQ, reduceCtorEq, not_true_eq_false, not_false_eq_true, a0, a1, addr_add_eq, Nat.zero_add]) | (first | refine iE ?_ ?_ | refine iD ?_ ?_ | refine iQ ?_ ?_ | refine iV ?_ ?_) <;> intro _ | refine And.intro (by omega) ?_ | refine drawn_q ?_ | fail)
          first | exact ⟨congrArg Value.bool ((decide_eq_false (by omega)).trans (decide_eq_false (by omega)).symm), l04⟩ | exact l04
      · repeat' (first | (simp (disch := omega) only [push_cast, ↓reduceIte, zA, zG, zB, zH, zI, zC, zJ, zK, zL, zD, zE, zF, zM, zN, zO, zP, zQ, reduceCtorEq, not_true_eq_false, not_false_eq_true, a0, a1, addr_add_eq, Nat.zero_add]) | (first | refine iE ?_ ?_ | refine iD ?_ ?_ | refine iQ ?_ ?_ | refine iV ?_ ?_) <;> intro _ | refine And.intro (by omega) ?_ | refine drawn_q ?_ | fail)
        first | exact ⟨congrArg Value.bool ((decide_eq_false (by omega)).trans (decide_eq_false (by omega)).symm), congrArg Value.bool (decide_eq_false (by omega)).symm, l04⟩ | exact ⟨congrArg Value.bool (decide_eq_false (by omega)).symm, l04⟩ | exact l04
    · repeat' (first | (simp (disch := omega) only [push_cast, ↓reduceIte, zA, zG, zB, zH, zI, zC, zJ, zK, zL, zD, zE, zF, zM, zN, zO, zP, zQ, reduceCtorEq, not_true_eq_false, not_false_eq_true, a0, a1, addr_add_eq, Nat.zero_add]) | (first | refine iE ?_ ?_ | refine iD ?_ ?_ | refine iQ ?_ ?_ | refine iV ?_ ?_) <;> intro _ | refine And.intro (by omega) ?_ | refine drawn_q ?_ | fail)
      first | exact ⟨congrArg Value.bool ((decide_eq_false (by omega)).trans (decide_eq_false (by omega)).symm), l04⟩ | exact ⟨congrArg Value.bool (decide_eq_false (by omega)).symm, l04⟩ | trace_state
end Go.Proofs.Ytnofalhkapmcnaa
end
section
set_option linter.unusedSimpArgs false
namespace Go.Proofs.Ytnofalhkapmcnaa
open Go.Vc Go.Key
set_option maxRecDepth 100000
theorem OwnS.st {w : World} {B : Nat} {v : Value} {l : List ByteArray} (h : OwnS w B v l) : StS w v l := by
  have := SlN.of_own h
  unfold StS Sl
  rw [List.length_map]
  exact this
end Go.Proofs.Ytnofalhkapmcnaa
end
section
namespace Go.Vc
open Go Go.Key
abbrev I64 (n : Int) : Prop := -9223372036854775808 ≤ n ∧ n ≤ 9223372036854775807
abbrev Bz : Nat := 140737488351232
/-- A term. -/
structure TD where
  f : Int
  m : ByteArray
def tdC (t : TD) : List Value := [.int .i64 t.f, .string t.m]
structure TD.Ok (t : TD) : Prop where
  f : I64 t.f
  m : t.m.size ≤ Bz
/-- A condition on a term. -/
structure HD where
  t : TD
  sign : Int
  value : Int
def hdC (h : HD) : List Value := [.int .i64 h.t.f, .string h.t.m, .int .i64 h.sign, .int .i64 h.value]
structure HD.Ok (h : HD) : Prop where
  t : h.t.Ok
  sign : I64 h.sign
  value : I64 h.value
/-- A query, and where its lists lie. -/
structure QD where
  tv : Value
  tl : List TD
  fr : Int
  to : Int
  ev : Int
  bv : Value
  bl : List ByteArray
  wh : FT
  hv : Value
  hl : List HD
  od : Int
  lm : Int
def qdC (q : QD) : List Value := [q.tv, .int .i64 q.fr, .int .i64 q.to, .int .i64 q.ev, q.bv, .int .i64 q.wh.op, .string q.wh.dim, .string q.wh.value, q.wh.kv, q.hv, .int .i64 q.od, .int .i64 q.lm]
structure QD.Ok (w : World) (q : QD) : Prop where
  tv : RecS tdC 2 w q.tv q.tl
  tl : ∀ t ∈ q.tl, t.Ok
  fr : I64 q.fr
  to : I64 q.to
  ev : I64 q.ev
  bv : Sl w q.bv (q.bl.map Value.string)
  bl : ∀ s ∈ q.bl, s.size ≤ Bz
  wh : q.wh.Ok w
  hv : RecS hdC 4 w q.hv q.hl
  hl : ∀ h ∈ q.hl, h.Ok
  od : I64 q.od
  lm : I64 q.lm
theorem QD.Ok.later {w w' : World} {q : QD} (h : q.Ok w) (hl : Later w w') : q.Ok w' := ⟨h.tv.later hl, h.tl, h.fr, h.to, h.ev, Sl.later h.bv hl, h.bl, h.wh.later hl, h.hv.later hl, h.hl, h.od, h.lm⟩
/-- A tier, or a projection: two numbers and dimensions. -/
structure CD where
  a : Int
  g : Int
  dv : Value
  dl : List ByteArray
def cdC (c : CD) : List Value := [.int .i64 c.a, .int .i64 c.g, c.dv]
structure CD.Ok (w : World) (c : CD) : Prop where
  a : I64 c.a
  g : I64 c.g
  dv : Sl w c.dv (c.dl.map Value.string)
  dl : ∀ s ∈ c.dl, s.size ≤ Bz
theorem CD.Ok.later {w w' : World} {c : CD} (h : c.Ok w) (hl : Later w w') : c.Ok w' := ⟨h.a, h.g, Sl.later h.dv hl, h.dl⟩
/-- A policy. -/
structure PD where
  tv : Value
  tl : List CD
  pv : Value
  pl : List CD
  hz : Int
def pdC (p : PD) : List Value := [p.tv, p.pv, .int .i64 p.hz]
structure PD.Ok (w : World) (p : PD) : Prop where
  tv : RecS cdC 3 w p.tv p.tl
  tl : ∀ c ∈ p.tl, c.Ok w
  pv : RecS cdC 3 w p.pv p.pl
  pl : ∀ c ∈ p.pl, c.Ok w
  hz : I64 p.hz
theorem PD.Ok.later {w w' : World} {p : PD} (h : p.Ok w) (hl : Later w w') : p.Ok w' := ⟨h.tv.later hl, fun c hc => (h.tl c hc).later hl, h.pv.later hl, fun c hc => (h.pl c hc).later hl, h.hz⟩
/-- A file of rows. -/
structure SD where
  name : ByteArray
  tier : Int
  proj : Int
  rows : Int
def sdC (s : SD) : List Value := [.string s.name, .int .i64 s.tier, .int .i64 s.proj, .int .i64 s.rows]
structure SD.Ok (s : SD) : Prop where
  name : s.name.size ≤ Bz
  tier : I64 s.tier
  proj : I64 s.proj
  rows : I64 s.rows
/-- A manifest. -/
structure MD where
  dv : Value
  dl : List ByteArray
  mv : Value
  ml : List ByteArray
  p : PD
  now : Int
  ev : Value
  el : List Int
  cnt : Int
  sv : Value
  sl : List Int
  fv : Value
  fl : List SD
  jn : ByteArray
  nx : Int
def mdC (m : MD) : List Value := [m.dv, m.mv, m.p.tv, m.p.pv, .int .i64 m.p.hz, .int .i64 m.now, m.ev, .int .i64 m.cnt, m.sv, m.fv, .string m.jn, .int .i64 m.nx]
structure MD.Ok (w : World) (m : MD) : Prop where
  dv : Sl w m.dv (m.dl.map Value.string)
  dl : ∀ s ∈ m.dl, s.size ≤ Bz
  mv : Sl w m.mv (m.ml.map Value.string)
  ml : ∀ s ∈ m.ml, s.size ≤ Bz
  p : m.p.Ok w
  now : I64 m.now
  ev : Sl w m.ev (m.el.map (Value.int .i64))
  el : ∀ n ∈ m.el, I64 n
  cnt : I64 m.cnt
  sv : Sl w m.sv (m.sl.map (Value.int .i64))
  sl : ∀ n ∈ m.sl, I64 n
  fv : RecS sdC 4 w m.fv m.fl
  fl : ∀ s ∈ m.fl, s.Ok
  jn : m.jn.size ≤ Bz
  nx : I64 m.nx
theorem MD.Ok.later {w w' : World} {m : MD} (h : m.Ok w) (hl : Later w w') : m.Ok w' := ⟨Sl.later h.dv hl, h.dl, Sl.later h.mv hl, h.ml, h.p.later hl, h.now, Sl.later h.ev hl, h.el, h.cnt, Sl.later h.sv hl, h.sl, h.fv.later hl, h.fl, h.jn, h.nx⟩
end Go.Vc
namespace Go.Proofs.Ytnofalhkapmcnaa
open Go.Vc Go.RowKit Go.ChangeShapes Go.Key
set_option maxRecDepth 100000
section
variable {H : Type} {enc : TypeId × Value → H} {w : World} {sp : Nat → Bool} {hd : Bool} {M : Nat}
theorem z_int : OZ M enc Try.prog w sp hd 3 (fun cs => ∃ n : Int, cs = [.int .i64 n] ∧ I64 n) := oz_i64 Try.underlying3
theorem z_str : OZ M enc Try.prog w sp hd 9 (fun cs => ∃ s : ByteArray, cs = [.string s] ∧ s.size ≤ Bz) := oz_string Try.underlying9
theorem z_strs : OZ M enc Try.prog w sp hd 22 (fun cs => ∃ (v : Value) (l : List ByteArray), cs = [v] ∧ StS w v l ∧ ∀ s ∈ l, s.size ≤ Bz) :=
  (oz_slice (en := fun s => [Value.string s]) (Q := fun s => s.size ≤ Bz) Try.underlying22 (by kernel_rfl) z_str).mono fun cs ⟨v, l, h1, h2, h3, _⟩ => ⟨v, l, h1, sl_of_rec h2, h3⟩
theorem z_ints : OZ M enc Try.prog w sp hd 29 (fun cs => ∃ (v : Value) (l : List Int), cs = [v] ∧ Sl w v (l.map (Value.int .i64)) ∧ ∀ n ∈ l, I64 n) :=
  (oz_slice (en := fun n => [Value.int .i64 n]) (Q := fun n => I64 n) Try.underlying29 (by kernel_rfl) z_int).mono fun cs ⟨v, l, h1, h2, h3, _⟩ => ⟨v, l, h1, sl_of_rec h2, h3⟩
theorem z_cd {t : TypeId} {fs : Array Field} (ht : Try.prog.underlying t = some (.struct fs)) (hc : Try.prog.cellsOf t = 3) (hs : fs.toList.map (fun f => (f.type, f.offset)) = [(3, 0), (3, 1), (22, 2)]) : OZ M enc Try.prog w sp hd t (fun cs => ∃ x : CD, cs = cdC x ∧ x.Ok w) :=
  (oz_struct (S := 3) ht hc).mono fun cs ⟨hl, hf⟩ => by
    obtain ⟨fl⟩ := fs
    replace hs : fl.map (fun f => (f.type, f.offset)) = [(3, 0), (3, 1), (22, 2)] := hs
    have hlen : fl.length = 3 := by
      have := congrArg List.length hs
      simpa using this
    clear ht
    obtain ⟨f0, f1, f2, rfl⟩ : ∃ f0 f1 f2, fl = [f0, f1, f2] := by
      match fl, hlen with
      | [f0, f1, f2], _ => exact ⟨f0, f1, f2, rfl⟩
    simp only [List.map_cons, List.map_nil, List.cons.injEq, Prod.mk.injEq, and_true] at hs
    obtain ⟨⟨t0, o0⟩, ⟨t1, o1⟩, ⟨t2, o2⟩⟩ := hs
    match cs, hl with
    | [c0, c1, c2], _ =>
      obtain ⟨a, ha, wa⟩ := hf 0 f0 1 _ rfl (by rw [t0]; kernel_rfl) (fun _ => by rw [t0]; exact z_int)
      obtain ⟨g, hg, wg⟩ := hf 1 f1 1 _ rfl (by rw [t1]; kernel_rfl) (fun _ => by rw [t1]; exact z_int)
      obtain ⟨v, l, hv, wv, wl⟩ := hf 2 f2 1 _ rfl (by rw [t2]; kernel_rfl) (fun _ => by rw [t2]; exact z_strs)
      rw [o0] at ha
      rw [o1] at hg
      rw [o2] at hv
      obtain rfl : c0 = _ := (List.cons.inj ha).1
      obtain rfl : c1 = _ := (List.cons.inj hg).1
      obtain rfl : c2 = _ := (List.cons.inj hv).1
      exact ⟨⟨a, g, c2, l⟩, rfl, wa, wg, wv, wl⟩
theorem z_tier : OZ M enc Try.prog w sp hd 60 (fun cs => ∃ x : CD, cs = cdC x ∧ x.Ok w) := z_cd Try.underlying60 (by kernel_rfl) rfl
theorem z_proj : OZ M enc Try.prog w sp hd 51 (fun cs => ∃ x : CD, cs = cdC x ∧ x.Ok w) := z_cd Try.underlying51 (by kernel_rfl) rfl
theorem z_policy : OZ M enc Try.prog w sp hd 28 (fun cs => ∃ p : PD, cs = pdC p ∧ p.Ok w) :=
  (oz_struct (S := 3) Try.underlying28 (by kernel_rfl)).mono fun cs ⟨hl, hf⟩ => by
    match cs, hl with
    | [c0, c1, c2], _ =>
      obtain ⟨tv, tl, h0, w0, v0, _⟩ := hf 0 _ 1 _ rfl (by kernel_rfl) (fun _ => oz_slice (en := cdC) (Q := fun x => x.Ok w) (s := 3) Try.underlying25 (by kernel_rfl) z_tier)
      obtain ⟨pv, pl, h1, w1, v1, _⟩ := hf 1 _ 1 _ rfl (by kernel_rfl) (fun _ => oz_slice (en := cdC) (Q := fun x => x.Ok w) (s := 3) Try.underlying26 (by kernel_rfl) z_proj)
      obtain ⟨hz, h2, w2⟩ := hf 2 _ 1 _ rfl (by kernel_rfl) (fun _ => z_int)
      obtain rfl : c0 = _ := (List.cons.inj h0).1
      obtain rfl : c1 = _ := (List.cons.inj h1).1
      obtain rfl : c2 = _ := (List.cons.inj h2).1
      exact ⟨⟨c0, tl, c1, pl, hz⟩, rfl, w0, v0, w1, v1, w2⟩
theorem z_stored : OZ M enc Try.prog w sp hd 57 (fun cs => ∃ x : SD, cs = sdC x ∧ x.Ok) :=
  (oz_struct (S := 4) Try.underlying57 (by kernel_rfl)).mono fun cs ⟨hl, hf⟩ => by
    match cs, hl with
    | [c0, c1, c2, c3], _ =>
      obtain ⟨n, h0, w0⟩ := hf 0 _ 1 _ rfl (by kernel_rfl) (fun _ => z_str)
      obtain ⟨t, h1, w1⟩ := hf 1 _ 1 _ rfl (by kernel_rfl) (fun _ => z_int)
      obtain ⟨p, h2, w2⟩ := hf 2 _ 1 _ rfl (by kernel_rfl) (fun _ => z_int)
      obtain ⟨r, h3, w3⟩ := hf 3 _ 1 _ rfl (by kernel_rfl) (fun _ => z_int)
      obtain rfl : c0 = _ := (List.cons.inj h0).1
      obtain rfl : c1 = _ := (List.cons.inj h1).1
      obtain rfl : c2 = _ := (List.cons.inj h2).1
      obtain rfl : c3 = _ := (List.cons.inj h3).1
      exact ⟨⟨n, t, p, r⟩, rfl, w0, w1, w2, w3⟩
theorem z_schema : OZ M enc Try.prog w sp hd 24 (fun cs => ∃ (dv mv : Value) (d m : List ByteArray), cs = [dv, mv] ∧ StS w dv d ∧ (∀ s ∈ d, s.size ≤ Bz) ∧ StS w mv m ∧ ∀ s ∈ m, s.size ≤ Bz) :=
  (oz_struct (S := 2) Try.underlying24 (by kernel_rfl)).mono fun cs ⟨hl, hf⟩ => by
    match cs, hl with
    | [c0, c1], _ =>
      obtain ⟨v, l, h0, w0, v0⟩ := hf 0 _ 1 _ rfl (by kernel_rfl) (fun _ => z_strs)
      obtain ⟨v', l', h1, w1, v1⟩ := hf 1 _ 1 _ rfl (by kernel_rfl) (fun _ => z_strs)
      obtain rfl : c0 = _ := (List.cons.inj h0).1
      obtain rfl : c1 = _ := (List.cons.inj h1).1
      exact ⟨c0, c1, l, l', rfl, w0, v0, w1, v1⟩
theorem z_budget : OZ M enc Try.prog w sp hd 31 (fun cs => ∃ (n : Int) (v : Value) (l : List Int), cs = [.int .i64 n, v] ∧ I64 n ∧ Sl w v (l.map (Value.int .i64)) ∧ ∀ n ∈ l, I64 n) :=
  (oz_struct (S := 2) Try.underlying31 (by kernel_rfl)).mono fun cs ⟨hl, hf⟩ => by
    match cs, hl with
    | [c0, c1], _ =>
      obtain ⟨n, h0, w0⟩ := hf 0 _ 1 _ rfl (by kernel_rfl) (fun _ => z_int)
      obtain ⟨v', l', h1, w1, v1⟩ := hf 1 _ 1 _ rfl (by kernel_rfl) (fun _ => z_ints)
      obtain rfl : c0 = _ := (List.cons.inj h0).1
      obtain rfl : c1 = _ := (List.cons.inj h1).1
      exact ⟨n, c1, l', rfl, w0, w1, v1⟩
theorem z_manifest : OZ M enc Try.prog w sp hd 34 (fun cs => ∃ m : MD, cs = mdC m ∧ m.Ok w) :=
  (oz_struct (S := 12) Try.underlying34 (by kernel_rfl)).mono fun cs ⟨hl, hf⟩ => by
    match cs, hl with
    | [c0, c1, c2, c3, c4, c5, c6, c7, c8, c9, c10, c11], _ =>
      obtain ⟨dv, mv, d, m, h0, w0, v0, x0, y0⟩ := hf 0 _ 2 _ rfl (by kernel_rfl) (fun _ => z_schema)
      obtain ⟨p, h1, w1⟩ := hf 1 _ 3 _ rfl (by kernel_rfl) (fun _ => z_policy)
      obtain ⟨now, h2, w2⟩ := hf 2 _ 1 _ rfl (by kernel_rfl) (fun _ => z_int)
      obtain ⟨ev, el, h3, w3, v3⟩ := hf 3 _ 1 _ rfl (by kernel_rfl) (fun _ => z_ints)
      obtain ⟨cnt, sv, sl, h4, w4, v4, x4⟩ := hf 4 _ 2 _ rfl (by kernel_rfl) (fun _ => z_budget)
      obtain ⟨fv, fl, h5, w5, v5, _⟩ := hf 5 _ 1 _ rfl (by kernel_rfl) (fun _ => oz_slice (en := sdC) (Q := fun x => x.Ok) (s := 4) Try.underlying32 (by kernel_rfl) z_stored)
      obtain ⟨jn, h6, w6⟩ := hf 6 _ 1 _ rfl (by kernel_rfl) (fun _ => z_str)
      obtain ⟨nx, h7, w7⟩ := hf 7 _ 1 _ rfl (by kernel_rfl) (fun _ => z_int)
      have h0 : [c0, c1] = [dv, mv] := h0
      have h1 : [c2, c3, c4] = pdC p := h1
      have h4 : [c7, c8] = [Value.int .i64 cnt, sv] := h4
      obtain rfl : c0 = _ := (List.cons.inj h0).1
      obtain rfl : c1 = _ := (List.cons.inj (List.cons.inj h0).2).1
      obtain rfl : c2 = _ := (List.cons.inj h1).1
      obtain rfl : c3 = _ := (List.cons.inj (List.cons.inj h1).2).1
      obtain rfl : c4 = _ := (List.cons.inj (List.cons.inj (List.cons.inj h1).2).2).1
      obtain rfl : c5 = _ := (List.cons.inj h2).1
      obtain rfl : c6 = _ := (List.cons.inj h3).1
      obtain rfl : c7 = _ := (List.cons.inj h4).1
      obtain rfl : c8 = _ := (List.cons.inj (List.cons.inj h4).2).1
      obtain rfl : c9 = _ := (List.cons.inj h5).1
      obtain rfl : c10 = _ := (List.cons.inj h6).1
      obtain rfl : c11 = _ := (List.cons.inj h7).1
      exact ⟨⟨_, d, _, m, p, now, _, el, cnt, _, sl, _, fl, jn, nx⟩, rfl, w0, v0, x0, y0, w1, w2, w3, v3, w4, v4, x4, w5, v5, w6, w7⟩
end
end Go.Proofs.Ytnofalhkapmcnaa
end
section
set_option linter.unusedSimpArgs false
namespace Go.Proofs.Ytnofalhkapmcnaa
open Go.Vc Go.Key
set_option maxRecDepth 100000
/-- Is a name in a list? -/
def inL (x : ByteArray) (l : List ByteArray) : Bool := l.any fun y => decide (y = x)
theorem inL_iff {x : ByteArray} {l : List ByteArray} : inL x l = true ↔ x ∈ l := by
  unfold inL
  rw [List.any_eq_true]
  constructor
  · rintro ⟨y, hy, h⟩
    rw [decide_eq_true_eq] at h
    exact h ▸ hy
  · intro h; exact ⟨x, h, decide_eq_true rfl⟩
/-- Where. -/
def fndV (x : ByteArray) (l : List ByteArray) : Value := .tuple #[.int .i64 (if inL x l then ((l.findIdx (fun y => decide (y = x)) : Nat) : Int) else 0), .bool (inL x l)]
theorem fndV_at {x : ByteArray} {l : List ByteArray} {i : Nat} (hi : i < l.length) (hx : l[i] = x) (hno : inL x (l.take i) = false) : fndV x l = .tuple #[.int .i64 (i : Int), .bool true] := by
  have hin : inL x l = true := inL_iff.2 (hx ▸ List.getElem_mem hi)
  have hf : l.findIdx (fun y => decide (y = x)) = i := by
    rw [List.findIdx_eq hi]
    refine ⟨decide_eq_true hx, fun j hj => decide_eq_false fun hjx => ?_⟩
    have : inL x (l.take i) = true := inL_iff.2 (by
      rw [← hjx]
      exact List.mem_take_iff_getElem.2 ⟨j, by omega, rfl⟩)
    rw [hno] at this; cases this
  unfold fndV
  rw [hin, hf]; rfl
theorem dfind_c (v : Value) (l : List ByteArray) (x : ByteArray) (w : World) (h : StS w v l) : FnC Try.prog 43 #[v, .string x] w fun r w' => r = fndV x l ∧ w' = w := by
  obtain ⟨o, c, rfl, g1, g2, hm, g3⟩ := h.openM
  refine enter43 _ _ ?_
  unfold B43
  repeat' (first | (simp (disch := omega) only [push_cast, ↓reduceIte, zA, zG, zB, zH, zI, zC, zJ, zK, zL, zD, zE, zF, zM, zN, zO, zP, zQ, reduceCtorEq, not_true_eq_false, not_false_eq_true]) | (first | refine iE ?_ ?_ | refine iD ?_ ?_ | refine iQ ?_ ?_ | refine iV ?_ ?_) <;> intro _ | refine And.intro (by omega) ?_ | refine drawn_q ?_ | fail)
  refine vc_loop W43_0 (fun i : Nat => [(4, .int .i64 0), (5, .bool false), (6, .int .i64 (i : Int))]) (fun i w' => i ≤ l.length ∧ w' = w ∧ inL x (l.take i) = false) (fun i => l.length - i) 0 (by decide) ?_ ?_ ?_
  · simp (disch := omega) only [push_cast, ↓reduceIte, zA, zG, zB, zH, zI, zC, zJ, zK, zL, zD, zE, zF, zM, zN, zO, zP, zQ, reduceCtorEq, not_true_eq_false, not_false_eq_true]
    try rfl
  · exact ⟨Nat.zero_le _, rfl, by simp [inL]⟩
  rintro i uu _ ⟨hi, rfl, hno⟩
  by_cases hil : i < l.length
  · have hd : decide ((i : Int) < (l.length : Int)) = true := decide_eq_true (by omega)
    cases o with
    | none => have := (g3 rfl).1; rw [this] at hil; simp at hil
    | some la =>
    have hc := StS.atS hm hil
    by_cases hx : l[i] = x
    · have hd2 : decide (l[i] = x) = true := decide_eq_true hx
      rw [fndV_at hil hx hno]
      repeat' (first | (simp (disch := omega) only [push_cast, ↓reduceIte, zA, zG, zB, zH, zI, zC, zJ, zK, zL, zD, zE, zF, zM, zN, zO, zP, zQ, reduceCtorEq, not_true_eq_false, not_false_eq_true, hd, hc, hd2]) | (first | refine iE ?_ ?_ | refine iD ?_ ?_ | refine iQ ?_ ?_ | refine iV ?_ ?_) <;> intro _ | refine And.intro (by omega) ?_ | refine drawn_q ?_ | fail)
      first | done | exact ⟨rfl, rfl⟩ | rfl | omega
    · have hd2 : decide (l[i] = x) = false := decide_eq_false hx
      repeat' (first | (simp (disch := omega) only [push_cast, ↓reduceIte, zA, zG, zB, zH, zI, zC, zJ, zK, zL, zD, zE, zF, zM, zN, zO, zP, zQ, reduceCtorEq, not_true_eq_false, not_false_eq_true, hd, hc, hd2]) | (first | refine iE ?_ ?_ | refine iD ?_ ?_ | refine iQ ?_ ?_ | refine iV ?_ ?_) <;> intro _ | refine And.intro (by omega) ?_ | refine drawn_q ?_ | fail)
      refine ⟨rfl, i + 1, by simp (disch := omega) only [push_cast, ↓reduceIte, zA, zG, zB, zH, zI, zC, zJ, zK, zL, zD, zE, zF, zM, zN, zO, zP, zQ, reduceCtorEq, not_true_eq_false, not_false_eq_true], ⟨by omega, rfl, ?_⟩, by dsimp only; omega⟩
      unfold inL at hno ⊢
      rw [List.take_succ_eq_append_getElem hil, List.any_append, hno]
      simp [hx]
  · have hd : decide ((i : Int) < (l.length : Int)) = false := decide_eq_false (by omega)
    rw [List.take_of_length_le (by omega)] at hno
    unfold fndV
    rw [hno]
    repeat' (first | (simp (disch := omega) only [push_cast, ↓reduceIte, zA, zG, zB, zH, zI, zC, zJ, zK, zL, zD, zE, zF, zM, zN, zO, zP, zQ, reduceCtorEq, not_true_eq_false, not_false_eq_true, hd]) | (first | refine iE ?_ ?_ | refine iD ?_ ?_ | refine iQ ?_ ?_ | refine iV ?_ ?_) <;> intro _ | refine And.intro (by omega) ?_ | refine drawn_q ?_ | fail)
    first | done | exact ⟨rfl, rfl⟩ | rfl | omega
end Go.Proofs.Ytnofalhkapmcnaa
end
section
set_option linter.unusedSimpArgs false
namespace Go.Proofs.Ytnofalhkapmcnaa
open Go.Vc Go.Key
set_option maxRecDepth 100000
theorem qdAt {w : World} {k : Nat} {q : QD} (h : Blk w k (qdC q).toArray 42) : w.cell? ⟨k, 0, none⟩ = some q.tv ∧ w.cell? ⟨k, 1, none⟩ = some (.int .i64 q.fr) ∧ w.cell? ⟨k, 2, none⟩ = some (.int .i64 q.to) ∧ w.cell? ⟨k, 3, none⟩ = some (.int .i64 q.ev) ∧ w.cell? ⟨k, 4, none⟩ = some q.bv ∧ w.cell? ⟨k, 5, none⟩ = some (.int .i64 q.wh.op) ∧ w.cell? ⟨k, 6, none⟩ = some (.string q.wh.dim) ∧ w.cell? ⟨k, 7, none⟩ = some (.string q.wh.value) ∧ w.cell? ⟨k, 8, none⟩ = some q.wh.kv ∧ w.cell? ⟨k, 9, none⟩ = some q.hv ∧ w.cell? ⟨k, 10, none⟩ = some (.int .i64 q.od) ∧ w.cell? ⟨k, 11, none⟩ = some (.int .i64 q.lm) :=
  ⟨h.cell 0, h.cell 1, h.cell 2, h.cell 3, h.cell 4, h.cell 5, h.cell 6, h.cell 7, h.cell 8, h.cell 9, h.cell 10, h.cell 11⟩
theorem qdLater {w w' : World} {k : Nat} {q : QD} (h : Blk w k (qdC q).toArray 42) (hl : Later w w') : Blk w' k (qdC q).toArray 42 := h.chg (Chg.of_later (ks := []) hl) (by simp)
end Go.Proofs.Ytnofalhkapmcnaa
end
section
set_option linter.unusedSimpArgs false
namespace Go.Proofs.Ytnofalhkapmcnaa
open Go.Vc Go.Key
set_option maxRecDepth 100000
end Go.Proofs.Ytnofalhkapmcnaa
end
section
set_option linter.unusedSimpArgs false
namespace Go.Proofs.Ytnofalhkapmcnaa
open Go.Vc Go.Key
set_option maxRecDepth 100000
def grOk (g : Int) : Bool := decide (1 ≤ g) && decide (g ≤ 1048576)
theorem dgright_c (g : Int) (w : World) : FnC Try.prog 84 #[.int .i64 g] w fun r w' => r = .bool (grOk g) ∧ w' = w := by
  refine enter84 _ ?_
  unfold B84
  unfold grOk
  by_cases h1 : 1 ≤ g
  · have e1 : decide (1 ≤ g) = true := decide_eq_true h1
    repeat' (first | (simp (disch := omega) only [push_cast, ↓reduceIte, zA, zG, zB, zH, zI, zC, zJ, zK, zL, zD, zE, zF, zM, zN, zO, zP, zQ, reduceCtorEq, not_true_eq_false, not_false_eq_true, e1]) | (first | refine iE ?_ ?_ | refine iD ?_ ?_ | refine iQ ?_ ?_ | refine iV ?_ ?_) <;> intro _ | refine And.intro (by omega) ?_ | refine drawn_q ?_ | fail)
    first | done | exact ⟨by simp, rfl⟩ | simp
  · have e1 : decide (1 ≤ g) = false := decide_eq_false h1
    repeat' (first | (simp (disch := omega) only [push_cast, ↓reduceIte, zA, zG, zB, zH, zI, zC, zJ, zK, zL, zD, zE, zF, zM, zN, zO, zP, zQ, reduceCtorEq, not_true_eq_false, not_false_eq_true, e1]) | (first | refine iE ?_ ?_ | refine iD ?_ ?_ | refine iQ ?_ ?_ | refine iV ?_ ?_) <;> intro _ | refine And.intro (by omega) ?_ | refine drawn_q ?_ | fail)
    first | done | exact ⟨by simp, rfl⟩ | simp
def tyNum (q : QD) : Prop := 0 ≤ q.fr ∧ q.fr < q.to ∧ q.to ≤ 1099511627776 ∧ -(q.tl.length : Int) ≤ q.od ∧ q.od ≤ (q.tl.length : Int) ∧ 0 ≤ q.lm ∧ q.lm ≤ 1000
instance (q : QD) : Decidable (tyNum q) := inferInstanceAs (Decidable (_ ∧ _))
end Go.Proofs.Ytnofalhkapmcnaa
end
section
set_option linter.unusedSimpArgs false
namespace Go.Proofs.Ytnofalhkapmcnaa
open Go.Vc Go.Key
set_option maxRecDepth 100000
end Go.Proofs.Ytnofalhkapmcnaa
end
section
set_option linter.unusedSimpArgs false
namespace Go.Proofs.Ytnofalhkapmcnaa
open Go.Vc Go.Key
set_option maxRecDepth 100000
end Go.Proofs.Ytnofalhkapmcnaa
end
section
set_option linter.unusedSimpArgs false
namespace Go.Proofs.Ytnofalhkapmcnaa
open Go.Vc Go.Key
set_option maxRecDepth 100000
def usedL (d : List ByteArray) (q : QD) : List ByteArray := d.filter fun s => inL s (q.bl ++ q.wh.dims)
end Go.Proofs.Ytnofalhkapmcnaa
end
