/- The functions' code in the generator's form. Written by a program (codes.py) out of Lean's own print of the loaded translation. -/
import Derived.Test.YthihbgpaoldbjaaPartL
set_option linter.all false
open Nat renaming reduceEqDiff → zA, reducePow → zB, reduceMul → zC, reduceAdd → zD, reduceSub → zE, reduceLeDiff → zF
open Int renaming reduceToNat → zG, reducePow → zH, reduceNeg → zI, reduceMul → zJ, reduceAdd → zK, reduceSub → zL, reduceLT → zM, reduceLE → zN, reduceEq → zO, reduceMod → zP, reduceDiv → zQ
section
namespace Go.Proofs.Ythihbgpaoldbjaa
open Go.Vc
set_option maxRecDepth 100000
variable (Q : Post) (ds : List Deferred) (σ : Env) (w : World)
/-! 42 columbary/bucket.Right (params #[3], results #[(.tmp 2)], 9 slots) -/
def r42_0 : List VOp :=
  [⟨some 2, .assign (.const (.bool false)), 4, none⟩]
def r42_1 : List VOp :=
  [mv 3 0 3,
   ⟨some 4, .binOp .geq 3 (.tmp 3) (.const (.int .i64 1)) 3, 4, none⟩,
   mv 5 4 4,
   ⟨some 6, .move (.tmp 0), 3, some (5, true)⟩,
   ⟨some 7, .binOp .leq 3 (.tmp 6) (.const (.int .i64 1048576)) 3, 4, some (5, true)⟩,
   ⟨some 8, .pick (.tmp 5) (.tmp 7) (.const (.bool false)), 4, none⟩,
   asg 2 8 4]
def B42 : VC :=
  (.seq (.region r42_0) (.seq (.region r42_1) .ret))
theorem code42 : ∃ c, Try.f42.body = some c ∧ abs Try.f42.ntmps c = B42 := ⟨_, rfl, by kernel_rfl⟩
theorem hb42 : HasBody Try.prog 42 := hasBody_of Try.func42 (by kernel_rfl)
theorem res42 : Try.f42.results = #[(.tmp 2)] := rfl
theorem enter42 {w : World} {R : Value → World → Prop} (x0 : Value) (h : vc Try.prog B42 (retK Try.prog #[(.tmp 2)] R) [] (initEnv [x0] 0) w) : FnC Try.prog 42 #[x0] w R := by
  obtain ⟨c, h1, h2⟩ := code42
  exact hb42.fn (ret_of_vc mixed Try.func42 h1 (Nat.le_of_ble_eq_true rfl) B42 h2 h)
@[push_cast] theorem vr42_0 : VR r42_0 [⟨some 2, .assign (.const (.bool false)), 4, none⟩] := vR rfl
@[push_cast] theorem vr42_1 : VR r42_1 [⟨some 3, .move (.tmp 0), 3, none⟩, ⟨some 4, .binOp .geq 3 (.tmp 3) (.const (.int .i64 1)) 3, 4, none⟩, ⟨some 5, .move (.tmp 4), 4, none⟩, ⟨some 6, .move (.tmp 0), 3, some (5, true)⟩, ⟨some 7, .binOp .leq 3 (.tmp 6) (.const (.int .i64 1048576)) 3, 4, some (5, true)⟩, ⟨some 8, .pick (.tmp 5) (.tmp 7) (.const (.bool false)), 4, none⟩, ⟨some 2, .assign (.tmp 8), 4, none⟩] := vR rfl
/-! 44 columbary/bucket.Floor (params #[3, 3], results #[(.tmp 4), (.tmp 5)], 19 slots) -/
def r44_0 : List VOp :=
  [⟨some 4, .assign (.const (.int .i64 0)), 3, none⟩,
   ⟨some 5, .assign (.const (.int .i64 0)), 28, none⟩]
def r44_1 : List VOp :=
  [mv 6 1 3,
   ⟨some 7, .call ⟨.value (.func 42), #[.tmp 6], #[3]⟩, 4, none⟩,
   ⟨some 8, .unOp .not 4 (.tmp 7), 4, none⟩,
   mv 9 8 4,
   ⟨some 10, .move (.tmp 0), 3, some (9, false)⟩,
   ⟨some 11, .call ⟨.value (.func 82), #[.tmp 10], #[3]⟩, 4, some (9, false)⟩,
   ⟨some 12, .unOp .not 4 (.tmp 11), 4, some (9, false)⟩,
   ⟨some 13, .pick (.tmp 9) (.const (.bool true)) (.tmp 12), 4, none⟩]
def r44_2 : List VOp :=
  [⟨some 4, .assign (.const (.int .i64 0)), 3, none⟩,
   ⟨some 5, .assign (.const (.int .i64 111)), 28, none⟩]
def r44_3 : List VOp :=
  [mv 14 0 3,
   mv 15 0 3,
   mv 16 1 3,
   ⟨some 17, .call ⟨.value (.func 83), #[.tmp 15, .tmp 16], #[3, 3]⟩, 3, none⟩,
   ⟨some 18, .binOp .sub 3 (.tmp 14) (.tmp 17) 3, 3, none⟩,
   asg 4 18 3,
   ⟨some 5, .assign (.const (.int .i64 0)), 28, none⟩]
def B44 : VC :=
  (.seq (.region r44_0) (.seq (.seq (.region r44_1) (.cond (.tmp 13) (.seq (.region r44_2) .ret) .skip)) (.seq (.region r44_3) .ret)))
theorem code44 : ∃ c, Try.f44.body = some c ∧ abs Try.f44.ntmps c = B44 := ⟨_, rfl, by kernel_rfl⟩
theorem hb44 : HasBody Try.prog 44 := hasBody_of Try.func44 (by kernel_rfl)
theorem res44 : Try.f44.results = #[(.tmp 4), (.tmp 5)] := rfl
theorem enter44 {w : World} {R : Value → World → Prop} (x0 x1 : Value) (h : vc Try.prog B44 (retK Try.prog #[(.tmp 4), (.tmp 5)] R) [] (initEnv [x0, x1] 0) w) : FnC Try.prog 44 #[x0, x1] w R := by
  obtain ⟨c, h1, h2⟩ := code44
  exact hb44.fn (ret_of_vc mixed Try.func44 h1 (Nat.le_of_ble_eq_true rfl) B44 h2 h)
@[push_cast] theorem vr44_0 : VR r44_0 [⟨some 4, .assign (.const (.int .i64 0)), 3, none⟩, ⟨some 5, .assign (.const (.int .i64 0)), 28, none⟩] := vR rfl
@[push_cast] theorem vr44_1 : VR r44_1 [⟨some 6, .move (.tmp 1), 3, none⟩, ⟨some 7, .call ⟨.value (.func 42), #[.tmp 6], #[3]⟩, 4, none⟩, ⟨some 8, .unOp .not 4 (.tmp 7), 4, none⟩, ⟨some 9, .move (.tmp 8), 4, none⟩, ⟨some 10, .move (.tmp 0), 3, some (9, false)⟩, ⟨some 11, .call ⟨.value (.func 82), #[.tmp 10], #[3]⟩, 4, some (9, false)⟩, ⟨some 12, .unOp .not 4 (.tmp 11), 4, some (9, false)⟩, ⟨some 13, .pick (.tmp 9) (.const (.bool true)) (.tmp 12), 4, none⟩] := vR rfl
@[push_cast] theorem vr44_2 : VR r44_2 [⟨some 4, .assign (.const (.int .i64 0)), 3, none⟩, ⟨some 5, .assign (.const (.int .i64 111)), 28, none⟩] := vR rfl
@[push_cast] theorem vr44_3 : VR r44_3 [⟨some 14, .move (.tmp 0), 3, none⟩, ⟨some 15, .move (.tmp 0), 3, none⟩, ⟨some 16, .move (.tmp 1), 3, none⟩, ⟨some 17, .call ⟨.value (.func 83), #[.tmp 15, .tmp 16], #[3, 3]⟩, 3, none⟩, ⟨some 18, .binOp .sub 3 (.tmp 14) (.tmp 17) 3, 3, none⟩, ⟨some 4, .assign (.tmp 18), 3, none⟩, ⟨some 5, .assign (.const (.int .i64 0)), 28, none⟩] := vR rfl
/-! 50 columbary/columbaryref11.Right (params #[3], results #[(.tmp 2)], 9 slots) -/
def r50_0 : List VOp :=
  [⟨some 2, .assign (.const (.bool false)), 4, none⟩]
def r50_1 : List VOp :=
  [mv 3 0 3,
   ⟨some 4, .binOp .geq 3 (.tmp 3) (.const (.int .i64 1)) 3, 4, none⟩,
   mv 5 4 4,
   ⟨some 6, .move (.tmp 0), 3, some (5, true)⟩,
   ⟨some 7, .binOp .leq 3 (.tmp 6) (.const (.int .i64 1048576)) 3, 4, some (5, true)⟩,
   ⟨some 8, .pick (.tmp 5) (.tmp 7) (.const (.bool false)), 4, none⟩,
   asg 2 8 4]
def B50 : VC :=
  (.seq (.region r50_0) (.seq (.region r50_1) .ret))
theorem code50 : ∃ c, Try.f50.body = some c ∧ abs Try.f50.ntmps c = B50 := ⟨_, rfl, by kernel_rfl⟩
theorem hb50 : HasBody Try.prog 50 := hasBody_of Try.func50 (by kernel_rfl)
theorem res50 : Try.f50.results = #[(.tmp 2)] := rfl
theorem enter50 {w : World} {R : Value → World → Prop} (x0 : Value) (h : vc Try.prog B50 (retK Try.prog #[(.tmp 2)] R) [] (initEnv [x0] 0) w) : FnC Try.prog 50 #[x0] w R := by
  obtain ⟨c, h1, h2⟩ := code50
  exact hb50.fn (ret_of_vc mixed Try.func50 h1 (Nat.le_of_ble_eq_true rfl) B50 h2 h)
@[push_cast] theorem vr50_0 : VR r50_0 [⟨some 2, .assign (.const (.bool false)), 4, none⟩] := vR rfl
@[push_cast] theorem vr50_1 : VR r50_1 [⟨some 3, .move (.tmp 0), 3, none⟩, ⟨some 4, .binOp .geq 3 (.tmp 3) (.const (.int .i64 1)) 3, 4, none⟩, ⟨some 5, .move (.tmp 4), 4, none⟩, ⟨some 6, .move (.tmp 0), 3, some (5, true)⟩, ⟨some 7, .binOp .leq 3 (.tmp 6) (.const (.int .i64 1048576)) 3, 4, some (5, true)⟩, ⟨some 8, .pick (.tmp 5) (.tmp 7) (.const (.bool false)), 4, none⟩, ⟨some 2, .assign (.tmp 8), 4, none⟩] := vR rfl
/-! 82 columbary/bucket.fits (params #[3], results #[(.tmp 2)], 9 slots) -/
def r82_0 : List VOp :=
  [⟨some 2, .assign (.const (.bool false)), 4, none⟩]
def r82_1 : List VOp :=
  [mv 3 0 3,
   ⟨some 4, .binOp .geq 3 (.tmp 3) (.const (.int .i64 (-1099511627776))) 3, 4, none⟩,
   mv 5 4 4,
   ⟨some 6, .move (.tmp 0), 3, some (5, true)⟩,
   ⟨some 7, .binOp .leq 3 (.tmp 6) (.const (.int .i64 1099511627776)) 3, 4, some (5, true)⟩,
   ⟨some 8, .pick (.tmp 5) (.tmp 7) (.const (.bool false)), 4, none⟩,
   asg 2 8 4]
def B82 : VC :=
  (.seq (.region r82_0) (.seq (.region r82_1) .ret))
theorem code82 : ∃ c, Try.f82.body = some c ∧ abs Try.f82.ntmps c = B82 := ⟨_, rfl, by kernel_rfl⟩
theorem hb82 : HasBody Try.prog 82 := hasBody_of Try.func82 (by kernel_rfl)
theorem res82 : Try.f82.results = #[(.tmp 2)] := rfl
theorem enter82 {w : World} {R : Value → World → Prop} (x0 : Value) (h : vc Try.prog B82 (retK Try.prog #[(.tmp 2)] R) [] (initEnv [x0] 0) w) : FnC Try.prog 82 #[x0] w R := by
  obtain ⟨c, h1, h2⟩ := code82
  exact hb82.fn (ret_of_vc mixed Try.func82 h1 (Nat.le_of_ble_eq_true rfl) B82 h2 h)
@[push_cast] theorem vr82_0 : VR r82_0 [⟨some 2, .assign (.const (.bool false)), 4, none⟩] := vR rfl
@[push_cast] theorem vr82_1 : VR r82_1 [⟨some 3, .move (.tmp 0), 3, none⟩, ⟨some 4, .binOp .geq 3 (.tmp 3) (.const (.int .i64 (-1099511627776))) 3, 4, none⟩, ⟨some 5, .move (.tmp 4), 4, none⟩, ⟨some 6, .move (.tmp 0), 3, some (5, true)⟩, ⟨some 7, .binOp .leq 3 (.tmp 6) (.const (.int .i64 1099511627776)) 3, 4, some (5, true)⟩, ⟨some 8, .pick (.tmp 5) (.tmp 7) (.const (.bool false)), 4, none⟩, ⟨some 2, .assign (.tmp 8), 4, none⟩] := vR rfl
/-! 83 columbary/bucket.rest (params #[3, 3], results #[(.tmp 4)], 12 slots) -/
def r83_0 : List VOp :=
  [⟨some 4, .assign (.const (.int .i64 0)), 3, none⟩]
def r83_1 : List VOp :=
  [mv 5 0 3,
   mv 6 1 3,
   ⟨some 7, .binOp .rem 3 (.tmp 5) (.tmp 6) 3, 3, none⟩,
   mv 8 1 3,
   ⟨some 9, .binOp .add 3 (.tmp 7) (.tmp 8) 3, 3, none⟩,
   mv 10 1 3,
   ⟨some 11, .binOp .rem 3 (.tmp 9) (.tmp 10) 3, 3, none⟩,
   asg 4 11 3]
def B83 : VC :=
  (.seq (.region r83_0) (.seq (.region r83_1) .ret))
theorem code83 : ∃ c, Try.f83.body = some c ∧ abs Try.f83.ntmps c = B83 := ⟨_, rfl, by kernel_rfl⟩
theorem hb83 : HasBody Try.prog 83 := hasBody_of Try.func83 (by kernel_rfl)
theorem res83 : Try.f83.results = #[(.tmp 4)] := rfl
theorem enter83 {w : World} {R : Value → World → Prop} (x0 x1 : Value) (h : vc Try.prog B83 (retK Try.prog #[(.tmp 4)] R) [] (initEnv [x0, x1] 0) w) : FnC Try.prog 83 #[x0, x1] w R := by
  obtain ⟨c, h1, h2⟩ := code83
  exact hb83.fn (ret_of_vc mixed Try.func83 h1 (Nat.le_of_ble_eq_true rfl) B83 h2 h)
@[push_cast] theorem vr83_0 : VR r83_0 [⟨some 4, .assign (.const (.int .i64 0)), 3, none⟩] := vR rfl
@[push_cast] theorem vr83_1 : VR r83_1 [⟨some 5, .move (.tmp 0), 3, none⟩, ⟨some 6, .move (.tmp 1), 3, none⟩, ⟨some 7, .binOp .rem 3 (.tmp 5) (.tmp 6) 3, 3, none⟩, ⟨some 8, .move (.tmp 1), 3, none⟩, ⟨some 9, .binOp .add 3 (.tmp 7) (.tmp 8) 3, 3, none⟩, ⟨some 10, .move (.tmp 1), 3, none⟩, ⟨some 11, .binOp .rem 3 (.tmp 9) (.tmp 10) 3, 3, none⟩, ⟨some 4, .assign (.tmp 11), 3, none⟩] := vR rfl
/-! 87 columbary/columbaryref11.Floor (params #[3, 3], results #[(.tmp 4), (.tmp 5)], 25 slots) -/
def r87_0 : List VOp :=
  [⟨some 4, .assign (.const (.int .i64 0)), 3, none⟩,
   ⟨some 5, .assign (.const (.int .i64 0)), 28, none⟩]
def r87_1 : List VOp :=
  [mv 8 0 3,
   mv 9 1 3,
   ⟨some 10, .call ⟨.value (.func 105), #[.tmp 8, .tmp 9], #[3, 3]⟩, 4, none⟩,
   asg 6 10 4]
def r87_2 : List VOp :=
  [mv 11 6 4,
   ⟨some 12, .unOp .not 4 (.tmp 11), 4, none⟩]
def r87_3 : List VOp :=
  [⟨some 4, .assign (.const (.int .i64 0)), 3, none⟩,
   ⟨some 5, .assign (.const (.int .i64 111)), 28, none⟩]
def r87_4 : List VOp :=
  [mv 13 0 3,
   mv 14 1 3,
   ⟨some 15, .binOp .quo 3 (.tmp 13) (.tmp 14) 3, 3, none⟩,
   mv 16 1 3,
   ⟨some 17, .binOp .mul 3 (.tmp 15) (.tmp 16) 3, 3, none⟩,
   asg 7 17 3]
def r87_5 : List VOp :=
  [mv 18 7 3,
   mv 19 0 3,
   ⟨some 20, .binOp .gtr 3 (.tmp 18) (.tmp 19) 3, 4, none⟩]
def r87_6 : List VOp :=
  [mv 21 7 3,
   mv 22 1 3,
   ⟨some 23, .binOp .sub 3 (.tmp 21) (.tmp 22) 3, 3, none⟩,
   asg 7 23 3]
def r87_7 : List VOp :=
  [mv 24 7 3,
   asg 4 24 3,
   ⟨some 5, .assign (.const (.int .i64 0)), 28, none⟩]
def B87 : VC :=
  (.seq (.region r87_0) (.seq (.region r87_1) (.seq (.seq (.region r87_2) (.cond (.tmp 12) (.seq (.region r87_3) .ret) .skip)) (.seq (.region r87_4) (.seq (.seq (.region r87_5) (.cond (.tmp 20) (.region r87_6) .skip)) (.seq (.region r87_7) .ret))))))
theorem code87 : ∃ c, Try.f87.body = some c ∧ abs Try.f87.ntmps c = B87 := ⟨_, rfl, by kernel_rfl⟩
theorem hb87 : HasBody Try.prog 87 := hasBody_of Try.func87 (by kernel_rfl)
theorem res87 : Try.f87.results = #[(.tmp 4), (.tmp 5)] := rfl
theorem enter87 {w : World} {R : Value → World → Prop} (x0 x1 : Value) (h : vc Try.prog B87 (retK Try.prog #[(.tmp 4), (.tmp 5)] R) [] (initEnv [x0, x1] 0) w) : FnC Try.prog 87 #[x0, x1] w R := by
  obtain ⟨c, h1, h2⟩ := code87
  exact hb87.fn (ret_of_vc mixed Try.func87 h1 (Nat.le_of_ble_eq_true rfl) B87 h2 h)
@[push_cast] theorem vr87_0 : VR r87_0 [⟨some 4, .assign (.const (.int .i64 0)), 3, none⟩, ⟨some 5, .assign (.const (.int .i64 0)), 28, none⟩] := vR rfl
@[push_cast] theorem vr87_1 : VR r87_1 [⟨some 8, .move (.tmp 0), 3, none⟩, ⟨some 9, .move (.tmp 1), 3, none⟩, ⟨some 10, .call ⟨.value (.func 105), #[.tmp 8, .tmp 9], #[3, 3]⟩, 4, none⟩, ⟨some 6, .assign (.tmp 10), 4, none⟩] := vR rfl
@[push_cast] theorem vr87_2 : VR r87_2 [⟨some 11, .move (.tmp 6), 4, none⟩, ⟨some 12, .unOp .not 4 (.tmp 11), 4, none⟩] := vR rfl
@[push_cast] theorem vr87_3 : VR r87_3 [⟨some 4, .assign (.const (.int .i64 0)), 3, none⟩, ⟨some 5, .assign (.const (.int .i64 111)), 28, none⟩] := vR rfl
@[push_cast] theorem vr87_4 : VR r87_4 [⟨some 13, .move (.tmp 0), 3, none⟩, ⟨some 14, .move (.tmp 1), 3, none⟩, ⟨some 15, .binOp .quo 3 (.tmp 13) (.tmp 14) 3, 3, none⟩, ⟨some 16, .move (.tmp 1), 3, none⟩, ⟨some 17, .binOp .mul 3 (.tmp 15) (.tmp 16) 3, 3, none⟩, ⟨some 7, .assign (.tmp 17), 3, none⟩] := vR rfl
@[push_cast] theorem vr87_5 : VR r87_5 [⟨some 18, .move (.tmp 7), 3, none⟩, ⟨some 19, .move (.tmp 0), 3, none⟩, ⟨some 20, .binOp .gtr 3 (.tmp 18) (.tmp 19) 3, 4, none⟩] := vR rfl
@[push_cast] theorem vr87_6 : VR r87_6 [⟨some 21, .move (.tmp 7), 3, none⟩, ⟨some 22, .move (.tmp 1), 3, none⟩, ⟨some 23, .binOp .sub 3 (.tmp 21) (.tmp 22) 3, 3, none⟩, ⟨some 7, .assign (.tmp 23), 3, none⟩] := vR rfl
@[push_cast] theorem vr87_7 : VR r87_7 [⟨some 24, .move (.tmp 7), 3, none⟩, ⟨some 4, .assign (.tmp 24), 3, none⟩, ⟨some 5, .assign (.const (.int .i64 0)), 28, none⟩] := vR rfl
/-! 105 columbary/columbaryref11.fits (params #[3, 3], results #[(.tmp 4)], 17 slots) -/
def r105_0 : List VOp :=
  [⟨some 4, .assign (.const (.bool false)), 4, none⟩]
def r105_1 : List VOp :=
  [mv 6 1 3,
   ⟨some 7, .call ⟨.value (.func 50), #[.tmp 6], #[3]⟩, 4, none⟩,
   asg 5 7 4]
def r105_2 : List VOp :=
  [mv 8 5 4,
   mv 9 8 4,
   ⟨some 10, .move (.tmp 0), 3, some (9, true)⟩,
   ⟨some 11, .binOp .geq 3 (.tmp 10) (.const (.int .i64 (-1099511627776))) 3, 4, some (9, true)⟩,
   ⟨some 12, .pick (.tmp 9) (.tmp 11) (.const (.bool false)), 4, none⟩,
   mv 13 12 4,
   ⟨some 14, .move (.tmp 0), 3, some (13, true)⟩,
   ⟨some 15, .binOp .leq 3 (.tmp 14) (.const (.int .i64 1099511627776)) 3, 4, some (13, true)⟩,
   ⟨some 16, .pick (.tmp 13) (.tmp 15) (.const (.bool false)), 4, none⟩,
   asg 4 16 4]
def B105 : VC :=
  (.seq (.region r105_0) (.seq (.region r105_1) (.seq (.region r105_2) .ret)))
theorem code105 : ∃ c, Try.f105.body = some c ∧ abs Try.f105.ntmps c = B105 := ⟨_, rfl, by kernel_rfl⟩
theorem hb105 : HasBody Try.prog 105 := hasBody_of Try.func105 (by kernel_rfl)
theorem res105 : Try.f105.results = #[(.tmp 4)] := rfl
theorem enter105 {w : World} {R : Value → World → Prop} (x0 x1 : Value) (h : vc Try.prog B105 (retK Try.prog #[(.tmp 4)] R) [] (initEnv [x0, x1] 0) w) : FnC Try.prog 105 #[x0, x1] w R := by
  obtain ⟨c, h1, h2⟩ := code105
  exact hb105.fn (ret_of_vc mixed Try.func105 h1 (Nat.le_of_ble_eq_true rfl) B105 h2 h)
@[push_cast] theorem vr105_0 : VR r105_0 [⟨some 4, .assign (.const (.bool false)), 4, none⟩] := vR rfl
@[push_cast] theorem vr105_1 : VR r105_1 [⟨some 6, .move (.tmp 1), 3, none⟩, ⟨some 7, .call ⟨.value (.func 50), #[.tmp 6], #[3]⟩, 4, none⟩, ⟨some 5, .assign (.tmp 7), 4, none⟩] := vR rfl
@[push_cast] theorem vr105_2 : VR r105_2 [⟨some 8, .move (.tmp 5), 4, none⟩, ⟨some 9, .move (.tmp 8), 4, none⟩, ⟨some 10, .move (.tmp 0), 3, some (9, true)⟩, ⟨some 11, .binOp .geq 3 (.tmp 10) (.const (.int .i64 (-1099511627776))) 3, 4, some (9, true)⟩, ⟨some 12, .pick (.tmp 9) (.tmp 11) (.const (.bool false)), 4, none⟩, ⟨some 13, .move (.tmp 12), 4, none⟩, ⟨some 14, .move (.tmp 0), 3, some (13, true)⟩, ⟨some 15, .binOp .leq 3 (.tmp 14) (.const (.int .i64 1099511627776)) 3, 4, some (13, true)⟩, ⟨some 16, .pick (.tmp 13) (.tmp 15) (.const (.bool false)), 4, none⟩, ⟨some 4, .assign (.tmp 16), 4, none⟩] := vR rfl
end Go.Proofs.Ythihbgpaoldbjaa
end
section
namespace Go.Vc
end Go.Vc
end
section
namespace Go.Bkt
theorem tdiv_b {t g M : Int} (hg : 0 < g) (ht : -M ≤ t ∧ t ≤ M) : t.tdiv g ≤ M ∧ -M ≤ t.tdiv g := by
  have h := Int.natAbs_tdiv_le_natAbs t g
  omega
def flr (t g : Int) : Int := t - t % g
/-- Go's remainder, and where a bucket begins. -/
theorem tm (t g : Int) (hg : 0 < g) : -g < t.tmod g ∧ t.tmod g < g ∧ t % g = (if t.tmod g < 0 then t.tmod g + g else t.tmod g) ∧ t.tdiv g * g = t - t.tmod g := by
  have h1 := Int.tmod_lt_of_pos t hg
  have h2 := Int.lt_tmod_of_pos t hg
  have h3 := Int.tdiv_mul_add_tmod t g
  have h4 : t % g = (t.tmod g) % g := by
    conv => lhs; rw [← h3]
    rw [Int.add_comm, Int.add_mul_emod_self_right]
  refine ⟨h2, h1, ?_, by omega⟩
  rw [h4]
  split
  · rename_i h
    have e : t.tmod g % g = (t.tmod g + g) % g := by rw [Int.add_emod_right]
    rw [e]; exact Int.emod_eq_of_lt (by omega) (by omega)
  · exact Int.emod_eq_of_lt (by omega) h1
theorem tmod_pos (t g : Int) (h : 0 ≤ t) : t.tmod g = t % g := Int.tmod_eq_emod_of_nonneg h
theorem tmod_emod (t g : Int) : t.tmod g % g = t % g := by
  have h3 := Int.tdiv_mul_add_tmod t g
  conv => rhs; rw [← h3]
  rw [Int.add_comm, Int.add_mul_emod_self_right]
theorem em (t g : Int) (hg : 0 < g) : 0 ≤ t % g ∧ t % g < g := ⟨Int.emod_nonneg _ (by omega), Int.emod_lt_of_pos _ hg⟩
/-- Where a stretch ends. -/
def nxt (at_ to_ g : Int) : Int := min (flr at_ g + g) to_
end Go.Bkt
end
section
set_option linter.unusedSimpArgs false
namespace Go.Proofs.Ythihbgpaoldbjaa
set_option maxRecDepth 100000
open Go.Vc Go.Bkt
abbrev Rt (g : Int) : Prop := 1 ≤ g ∧ g ≤ 1048576
abbrev Ft (t : Int) : Prop := -1099511627776 ≤ t ∧ t ≤ 1099511627776
abbrev I6 (t : Int) : Prop := -9223372036854775808 ≤ t ∧ t ≤ 9223372036854775807
theorem bright_c (g : Int) (w : World) (h : I6 g) : FnC Try.prog 42 #[.int .i64 g] w fun v w' => v = .bool (decide (Rt g)) ∧ w' = w := by
  refine enter42 _ ?_
  unfold B42
  by_cases h1 : 1 ≤ g <;> by_cases h2 : g ≤ 1048576
  all_goals
    repeat' (first | (simp (disch := omega) only [push_cast, ↓reduceIte, zA, zG, zB, zH, zI, zC, zJ, zK, zL, zD, zE, zF, zM, zN, zO, zP, zQ, reduceCtorEq, not_true_eq_false, not_false_eq_true]) | (first | refine vIfE_of ?_ ?_ | refine vIfD_of ?_ ?_ | refine vIfQ_of ?_ ?_ | refine vIfV_of ?_ ?_) <;> intro _ | refine And.intro (by omega) ?_ | refine drawn_q ?_ | fail)
    all_goals simp [h1, h2]
theorem bfits_c (t : Int) (w : World) (h : I6 t) : FnC Try.prog 82 #[.int .i64 t] w fun v w' => v = .bool (decide (Ft t)) ∧ w' = w := by
  refine enter82 _ ?_
  unfold B82
  by_cases h1 : -1099511627776 ≤ t <;> by_cases h2 : t ≤ 1099511627776
  all_goals
    repeat' (first | (simp (disch := omega) only [push_cast, ↓reduceIte, zA, zG, zB, zH, zI, zC, zJ, zK, zL, zD, zE, zF, zM, zN, zO, zP, zQ, reduceCtorEq, not_true_eq_false, not_false_eq_true]) | (first | refine vIfE_of ?_ ?_ | refine vIfD_of ?_ ?_ | refine vIfQ_of ?_ ?_ | refine vIfV_of ?_ ?_) <;> intro _ | refine And.intro (by omega) ?_ | refine drawn_q ?_ | fail)
    all_goals simp [h1, h2]
theorem rright_c (g : Int) (w : World) (h : I6 g) : FnC Try.prog 50 #[.int .i64 g] w fun v w' => v = .bool (decide (Rt g)) ∧ w' = w := by
  refine enter50 _ ?_
  unfold B50
  by_cases h1 : 1 ≤ g <;> by_cases h2 : g ≤ 1048576
  all_goals
    repeat' (first | (simp (disch := omega) only [push_cast, ↓reduceIte, zA, zG, zB, zH, zI, zC, zJ, zK, zL, zD, zE, zF, zM, zN, zO, zP, zQ, reduceCtorEq, not_true_eq_false, not_false_eq_true]) | (first | refine vIfE_of ?_ ?_ | refine vIfD_of ?_ ?_ | refine vIfQ_of ?_ ?_ | refine vIfV_of ?_ ?_) <;> intro _ | refine And.intro (by omega) ?_ | refine drawn_q ?_ | fail)
    all_goals simp [h1, h2]
theorem rfits_c (t g : Int) (w : World) (h : I6 t) (hg : I6 g) : FnC Try.prog 105 #[.int .i64 t, .int .i64 g] w fun v w' => v = .bool (decide (Rt g ∧ Ft t)) ∧ w' = w := by
  refine enter105 _ _ ?_
  unfold B105
  repeat' (first | (simp (disch := omega) only [push_cast, ↓reduceIte, zA, zG, zB, zH, zI, zC, zJ, zK, zL, zD, zE, zF, zM, zN, zO, zP, zQ, reduceCtorEq, not_true_eq_false, not_false_eq_true]) | (first | refine vIfE_of ?_ ?_ | refine vIfD_of ?_ ?_ | refine vIfQ_of ?_ ?_ | refine vIfV_of ?_ ?_) <;> intro _ | refine And.intro (by omega) ?_ | refine drawn_q ?_ | fail)
  refine (rright_c g w hg).mono ?_
  rintro _ w0 ⟨rfl, hw⟩
  obtain rfl := hw.symm
  by_cases h0 : Rt g <;> by_cases h1 : -1099511627776 ≤ t <;> by_cases h2 : t ≤ 1099511627776
  all_goals
    repeat' (first | (simp (disch := omega) only [push_cast, ↓reduceIte, zA, zG, zB, zH, zI, zC, zJ, zK, zL, zD, zE, zF, zM, zN, zO, zP, zQ, reduceCtorEq, not_true_eq_false, not_false_eq_true, h0, decide_true, decide_false]) | (first | refine vIfE_of ?_ ?_ | refine vIfD_of ?_ ?_ | refine vIfQ_of ?_ ?_ | refine vIfV_of ?_ ?_) <;> intro _ | refine And.intro (by omega) ?_ | refine drawn_q ?_ | fail)
    all_goals simp [h0, h1, h2]
theorem rest_c (t g : Int) (w : World) (ht : Ft t) (hg : Rt g) : FnC Try.prog 83 #[.int .i64 t, .int .i64 g] w fun v w' => v = .int .i64 (t % g) ∧ w' = w := by
  obtain ⟨h1, h2, h3, _⟩ := tm t g (by omega)
  have h4 : (t.tmod g + g).tmod g = t % g := by
    obtain ⟨h5, h6, h7, _⟩ := tm (t.tmod g + g) g (by omega)
    have h8 := tmod_pos (t.tmod g + g) g (by omega)
    have h9 : (t.tmod g + g) % g = t % g := by
      rw [Int.add_emod_right]
      exact tmod_emod t g
    rw [h8, h9]
  refine enter83 _ _ ?_
  unfold B83
  generalize hm : t.tmod g = m at *
  repeat' (first | (simp (disch := omega) only [push_cast, ↓reduceIte, zA, zG, zB, zH, zI, zC, zJ, zK, zL, zD, zE, zF, zM, zN, zO, zP, zQ, reduceCtorEq, not_true_eq_false, not_false_eq_true, hm, h4]) | (first | refine vIfE_of ?_ ?_ | refine vIfD_of ?_ ?_ | refine vIfQ_of ?_ ?_ | refine vIfV_of ?_ ?_) <;> intro _ | refine And.intro (by omega) ?_ | refine drawn_q ?_ | fail)
  all_goals omega
/-- What Floor and Ceil answer. -/
def flrR (t g : Int) : Int × Int := if Rt g ∧ Ft t then (flr t g, 0) else (0, 111)
def tupF (p : Int × Int) : Value := .tuple #[.int .i64 p.1, .int .i64 p.2]
theorem bfloor_c (t g : Int) (w : World) (ht : I6 t) (hg : I6 g) : FnC Try.prog 44 #[.int .i64 t, .int .i64 g] w fun v w' => v = tupF (flrR t g) ∧ w' = w := by
  refine enter44 _ _ ?_
  unfold B44 tupF flrR
  repeat' (first | (simp (disch := omega) only [push_cast, ↓reduceIte, zA, zG, zB, zH, zI, zC, zJ, zK, zL, zD, zE, zF, zM, zN, zO, zP, zQ, reduceCtorEq, not_true_eq_false, not_false_eq_true]) | (first | refine vIfE_of ?_ ?_ | refine vIfD_of ?_ ?_ | refine vIfQ_of ?_ ?_ | refine vIfV_of ?_ ?_) <;> intro _ | refine And.intro (by omega) ?_ | refine drawn_q ?_ | fail)
  refine (bright_c g w hg).mono ?_
  rintro _ w0 ⟨rfl, hw⟩
  obtain rfl := hw.symm
  by_cases h0 : Rt g
  · repeat' (first | (simp (disch := omega) only [push_cast, ↓reduceIte, zA, zG, zB, zH, zI, zC, zJ, zK, zL, zD, zE, zF, zM, zN, zO, zP, zQ, reduceCtorEq, not_true_eq_false, not_false_eq_true, h0, decide_true, decide_false]) | (first | refine vIfE_of ?_ ?_ | refine vIfD_of ?_ ?_ | refine vIfQ_of ?_ ?_ | refine vIfV_of ?_ ?_) <;> intro _ | refine And.intro (by omega) ?_ | refine drawn_q ?_ | fail)
    refine (bfits_c t w ht).mono ?_
    rintro _ w0 ⟨rfl, hw⟩
    obtain rfl := hw.symm
    by_cases h1 : Ft t
    · rw [if_pos ⟨h0, h1⟩]
      have he := em t g (by omega)
      repeat' (first | (simp (disch := omega) only [push_cast, ↓reduceIte, zA, zG, zB, zH, zI, zC, zJ, zK, zL, zD, zE, zF, zM, zN, zO, zP, zQ, reduceCtorEq, not_true_eq_false, not_false_eq_true, h1, decide_true, decide_false]) | (first | refine vIfE_of ?_ ?_ | refine vIfD_of ?_ ?_ | refine vIfQ_of ?_ ?_ | refine vIfV_of ?_ ?_) <;> intro _ | refine And.intro (by omega) ?_ | refine drawn_q ?_ | fail)
      refine (rest_c t g w h1 h0).mono ?_
      rintro _ w0 ⟨rfl, hw⟩
      obtain rfl := hw.symm
      unfold flr
      generalize t % g = m at *
      repeat' (first | (simp (disch := omega) only [push_cast, ↓reduceIte, zA, zG, zB, zH, zI, zC, zJ, zK, zL, zD, zE, zF, zM, zN, zO, zP, zQ, reduceCtorEq, not_true_eq_false, not_false_eq_true]) | (first | refine vIfE_of ?_ ?_ | refine vIfD_of ?_ ?_ | refine vIfQ_of ?_ ?_ | refine vIfV_of ?_ ?_) <;> intro _ | refine And.intro (by omega) ?_ | refine drawn_q ?_ | fail)
    · rw [if_neg (fun h => h1 h.2)]
      repeat' (first | (simp (disch := omega) only [push_cast, ↓reduceIte, zA, zG, zB, zH, zI, zC, zJ, zK, zL, zD, zE, zF, zM, zN, zO, zP, zQ, reduceCtorEq, not_true_eq_false, not_false_eq_true, h1, decide_true, decide_false]) | (first | refine vIfE_of ?_ ?_ | refine vIfD_of ?_ ?_ | refine vIfQ_of ?_ ?_ | refine vIfV_of ?_ ?_) <;> intro _ | refine And.intro (by omega) ?_ | refine drawn_q ?_ | fail)
  · rw [if_neg (fun h => h0 h.1)]
    repeat' (first | (simp (disch := omega) only [push_cast, ↓reduceIte, zA, zG, zB, zH, zI, zC, zJ, zK, zL, zD, zE, zF, zM, zN, zO, zP, zQ, reduceCtorEq, not_true_eq_false, not_false_eq_true, h0, decide_true, decide_false]) | (first | refine vIfE_of ?_ ?_ | refine vIfD_of ?_ ?_ | refine vIfQ_of ?_ ?_ | refine vIfV_of ?_ ?_) <;> intro _ | refine And.intro (by omega) ?_ | refine drawn_q ?_ | fail)
theorem rfloor_c (t g : Int) (w : World) (ht : I6 t) (hg : I6 g) : FnC Try.prog 87 #[.int .i64 t, .int .i64 g] w fun v w' => v = tupF (flrR t g) ∧ w' = w := by
  refine enter87 _ _ ?_
  unfold B87 tupF flrR
  repeat' (first | (simp (disch := omega) only [push_cast, ↓reduceIte, zA, zG, zB, zH, zI, zC, zJ, zK, zL, zD, zE, zF, zM, zN, zO, zP, zQ, reduceCtorEq, not_true_eq_false, not_false_eq_true]) | (first | refine vIfE_of ?_ ?_ | refine vIfD_of ?_ ?_ | refine vIfQ_of ?_ ?_ | refine vIfV_of ?_ ?_) <;> intro _ | refine And.intro (by omega) ?_ | refine drawn_q ?_ | fail)
  refine (rfits_c t g w ht hg).mono ?_
  rintro _ w0 ⟨rfl, hw⟩
  obtain rfl := hw.symm
  by_cases h0 : Rt g ∧ Ft t
  · rw [if_pos h0]
    obtain ⟨h1, h2, h3, h4⟩ := tm t g (by omega)
    have h5 : t.tdiv g ≤ 1099511627776 ∧ -1099511627776 ≤ t.tdiv g := tdiv_b (M := 1099511627776) (by omega) (by omega)
    generalize hmm : t.tmod g = m at *
    generalize hq : t.tdiv g = q at *
    have hf : flr t g = if m < 0 then q * g - g else q * g := by
      unfold flr; rw [h3]; split <;> omega
    rw [hf]
    by_cases hm : m < 0
    · rw [if_pos hm]
      repeat' (first | (simp (disch := omega) only [push_cast, ↓reduceIte, zA, zG, zB, zH, zI, zC, zJ, zK, zL, zD, zE, zF, zM, zN, zO, zP, zQ, reduceCtorEq, not_true_eq_false, not_false_eq_true, h0, hq, decide_true, decide_false]) | (first | refine vIfE_of ?_ ?_ | refine vIfD_of ?_ ?_ | refine vIfQ_of ?_ ?_ | refine vIfV_of ?_ ?_) <;> intro _ | refine And.intro (by omega) ?_ | refine drawn_q ?_ | fail)
      all_goals omega
    · rw [if_neg hm]
      repeat' (first | (simp (disch := omega) only [push_cast, ↓reduceIte, zA, zG, zB, zH, zI, zC, zJ, zK, zL, zD, zE, zF, zM, zN, zO, zP, zQ, reduceCtorEq, not_true_eq_false, not_false_eq_true, h0, hq, decide_true, decide_false]) | (first | refine vIfE_of ?_ ?_ | refine vIfD_of ?_ ?_ | refine vIfQ_of ?_ ?_ | refine vIfV_of ?_ ?_) <;> intro _ | refine And.intro (by omega) ?_ | refine drawn_q ?_ | fail)
      all_goals omega
  · rw [if_neg h0]
    repeat' (first | (simp (disch := omega) only [push_cast, ↓reduceIte, zA, zG, zB, zH, zI, zC, zJ, zK, zL, zD, zE, zF, zM, zN, zO, zP, zQ, reduceCtorEq, not_true_eq_false, not_false_eq_true, h0, decide_true, decide_false]) | (first | refine vIfE_of ?_ ?_ | refine vIfD_of ?_ ?_ | refine vIfQ_of ?_ ?_ | refine vIfV_of ?_ ?_) <;> intro _ | refine And.intro (by omega) ?_ | refine drawn_q ?_ | fail)
end Go.Proofs.Ythihbgpaoldbjaa
end
section
set_option linter.unusedSimpArgs false
namespace Go.Vc
open Go.RowKit
/-- make([]T, 0, n) of any records. -/
theorem vMake_own {α : Type} {enc : α → List Value} {P : Program} {w : World} {K : Value → World → Prop} {t e : TypeId} {z : Value} {s b : Nat} (ht : P.underlying t = some (.slice e)) (hi : (P.info? e).map (fun i => (i.zero, i.size, i.bytes)) = some (some z, s, b)) {n : Nat} (hb : b * n ≤ 281474976710656) (h63 : n ≤ maxLen)
    (hK : ∀ cs, OwnR enc s (w.alloc (.cells cs e)) w.heap.size e (.slice (some ⟨w.heap.size, 0, none⟩) 0 n) [] → K (.slice (some ⟨w.heap.size, 0, none⟩) 0 n) (w.alloc (.cells cs e))) : vMakeSlice P t (.int .i64 0) (.int .i64 n) K w := by
  obtain ⟨i, hi1, hz1, hsi, hbi⟩ := info_parts hi
  have h63' := h63
  unfold maxLen at h63'
  have hb' : (i.bytes : Int) * (n : Int) ≤ 281474976710656 := by
    have h : ((i.bytes * n : Nat) : Int) ≤ 281474976710656 := by rw [hbi]; omega
    rwa [Int.natCast_mul] at h
  have hr := run_make (P := P) w t e i z ht hi1 hz1 .i64 .i64 0 (n : Int) (by omega) (by omega) hb' (by omega)
  rw [hsi] at hr
  simp only [Int.toNat_natCast, Int.toNat_zero] at hr
  unfold vMakeSlice
  rw [run_val_pure hr]
  refine hK _ ⟨by simp, .inr ⟨w.heap.size, n, _, rfl, Nat.le_refl _, heap_new w _, Nat.zero_le _, h63, size_madeCells _ _, by simp⟩⟩
end Go.Vc
namespace Go.Proofs.Ythihbgpaoldbjaa
open Go.Vc Go.Key Go.Cub Go.Fold Go.Stab
set_option maxRecDepth 100000
/-- A row that is being made: its values so far are the call's own. -/
structure PS (w0 w : World) (b B : Nat) (t n : Int) (av : Value) (ds : List ByteArray) : Prop where
  later : Later w0 w
  cur : ∃ dv, Blk w b #[.int .i64 t, dv, .int .i64 n, av] 35 ∧ OwnS w B dv ds
theorem PS.step {w0 w w' : World} {b B : Nat} {t n : Int} {av : Value} {ds : List ByteArray} (h : PS w0 w b B t n av ds) (hl : Later w w') : PS w0 w' b B t n av ds := by
  obtain ⟨h1, dv, h2, h3⟩ := h
  exact ⟨h1.trans hl, dv, h2.chg (Chg.of_later (ks := []) hl) (by simp), own_later h3 hl⟩
/-- One value more. -/
theorem PS.snoc {w0 w8 w9 : World} {b B : Nat} {t n : Int} {av dv v' : Value} {ds : List ByteArray} {s : ByteArray} (l : Later w0 w8) (hb : w0.heap.size ≤ b) (hB : w0.heap.size ≤ B) (h : Blk w8 b #[.int .i64 t, dv, .int .i64 n, av] 35) (ho : OwnS w8 B dv ds) (ho' : OwnS w9 B v' (ds ++ [s])) (hg : w8.grownBy w9 dv.ownBlock) :
    w9.frozen? ⟨b, 1, none⟩ = false ∧ (∃ y, w9.cell? ⟨b, 1, none⟩ = some y) ∧ PS w0 (w9.setCell ⟨b, 1, none⟩ v') b B t n av (ds ++ [s]) := by
  have q4 : Blk w9 b _ 35 := grown_obj ho hg h (fun cs h => by simp at h)
  have q5 := l.appended ho hB hg
  have gc := chg_setCell (i := 1) w9 (ks := [b]) (k := b) (by simp) v'
  exact ⟨q4.frozen 1, ⟨_, q4.cell 1⟩, gc.later q5 (by intro j hj; rw [List.mem_singleton.1 hj]; omega), v', q4.set 1 v', own_chg_ty ho' q4 (by decide) gc⟩
theorem PS.el {w0 w : World} {b B : Nat} {t n : Int} {av : Value} {ds : List ByteArray} {a : List Ag} (h : PS w0 w b B t n av ds) (ha : AgS w av a) : ∃ z : El, z.abs = (t, ds, n, a) ∧ EIs w z ∧ cellsAt w ⟨b, 0, none⟩ 4 = some (elC z) ∧ OwnS w B z.dv z.d ∧ z.av = av ∧ z.a = a := by
  obtain ⟨_, dv, h2, h3⟩ := h
  exact ⟨⟨t, ds, n, a, dv, av⟩, rfl, ⟨Sl.of_own h3, ha⟩, Blk.cellsAt (l := elC ⟨t, ds, n, a, dv, av⟩) h2, h3, rfl, rfl⟩
/-- The values of a row that dimensions name. -/
def vals (d dims : List ByteArray) (x : List ByteArray) : List ByteArray := dims.map fun n => x[(fi d n).getD 0]!
theorem vals_take {d dims x : List ByteArray} {i : Nat} (hi : i < dims.length) {k : Nat} (hk : fi d dims[i] = some k) (hx : k < x.length) : vals d (dims.take (i + 1)) x = vals d (dims.take i) x ++ [x[k]] := by
  unfold vals
  rw [take_snoc dims i hi, List.map_append, List.map_singleton, hk, Option.getD_some, getElem!_pos x k hx]
/-- A row made out of another one: values of its own, the aggs of the other. -/
def Pz (w : World) (x : El) (q : R) (z : El) : Prop := z.abs = q ∧ z.av = x.av ∧ z.a = x.a ∧ ∃ B, OwnS w B z.dv z.d
theorem Pz.is {w : World} {x z : El} {q : R} (h : Pz w x q z) (hx : EIs w x) : EIs w z := by
  obtain ⟨_, h2, h3, B, h4⟩ := h
  exact ⟨Sl.of_own h4, by rw [h2, h3]; exact hx.2⟩
theorem Pz.later {w w' : World} {x z : El} {q : R} (h : Pz w x q z) (hl : Later w w') : Pz w' x q z := by
  obtain ⟨h1, h2, h3, B, h4⟩ := h
  exact ⟨h1, h2, h3, B, own_later h4 hl⟩
theorem Pz.grown {w w' : World} {x z : El} {q : R} {B : Nat} {v : Value} {es : List El} (h : Pz w x q z) (hv : OwnE w B v es) (g : w.grownBy w' v.ownBlock) : Pz w' x q z := by
  obtain ⟨h1, h2, h3, B', h4⟩ := h
  refine ⟨h1, h2, h3, B', ?_⟩
  have gc := Chg.of_grown g
  obtain ⟨o, c, rfl, _⟩ := RecS.slice (OwnR.s hv)
  cases o with
  | none => exact own_later h4 ⟨gc.os, gc.tape, gc.output, gc.size, fun k hk => gc.block k hk (by simp [Value.ownBlock])⟩
  | some a =>
    obtain ⟨k, rfl, _, _, ⟨cs, hb⟩, _⟩ := own_writes hv
    exact own_chg_ty h4 hb (by decide) gc
set_option maxHeartbeats 1000000 in
theorem row_c (dv mv u : Value) (d m dims : List ByteArray) (e : El) (g : Int) (w : World) (h : ScIs w dv mv d m) (he : EIs w e) (hu : StS w u dims) (hel : e.d.length = d.length) (hin : ∀ n ∈ dims, ∃ k, fi d n = some k ∧ k < d.length) (ht : 0 ≤ e.t ∧ e.t ≤ 1099511627776) (hg : Rt g) (hdl : dims.length ≤ 1000) :
    FnC Try.prog 51 #[scV dv mv, elV e, u, .int .i64 g] w fun r w' => (∃ z, r = elV z ∧ Pz w' e (prj d dims g e.abs) z) ∧ Later w w' := by
  unfold scV elV
  obtain ⟨ou, cu, rfl, hu, gu1, gu2, gu3⟩ := StS.opn hu
  obtain ⟨oe, ce, hedv, hes, ge1, ge2, ge3⟩ := StS.opn he.1
  obtain ⟨oa, ca, heav, _⟩ := RecS.slice he.2
  refine enter51 _ _ _ _ ?_
  unfold B51
  obtain ⟨l2, s2, F⟩ := boxSR w dv mv e
  have s1 := World.size_alloc w (.cells #[dv, mv] 24)
  have eca : (Value.agg #[dv, mv]).cells = #[dv, mv] := rfl
  have ecb : (Value.agg #[.int .i64 e.t, e.dv, .int .i64 e.n, e.av]).cells = #[.int .i64 e.t, e.dv, .int .i64 e.n, e.av] := rfl
  repeat' (first | (simp (disch := omega) only [push_cast, ↓reduceIte, zA, zG, zB, zH, zI, zC, zJ, zK, zL, zD, zE, zF, zM, zN, zO, zP, zQ, reduceCtorEq, not_true_eq_false, not_false_eq_true, eca, ecb, s1, s2]) | (first | refine vIfE_of ?_ ?_ | refine vIfD_of ?_ ?_ | refine vIfQ_of ?_ ?_ | refine vIfV_of ?_ ?_) <;> intro _ | refine And.intro (by omega) ?_ | fail)
  generalize ((w.alloc (.cells #[dv, mv] 24)).alloc (.cells #[.int .i64 e.t, e.dv, .int .i64 e.n, e.av] 35)) = w2 at *
  have l3 := later_alloc w2 (.cells #[.int .i64 0, .slice none 0 0, .int .i64 0, .slice none 0 0] 35)
  have B3 := Blk.new w2 #[.int .i64 0, .slice none 0 0, .int .i64 0, .slice none 0 0] 35
  rw [s2] at B3
  have hsz3 := World.size_alloc w2 (.cells #[.int .i64 0, .slice none 0 0, .int .i64 0, .slice none 0 0] 35)
  generalize w2.alloc (.cells #[.int .i64 0, .slice none 0 0, .int .i64 0, .slice none 0 0] 35) = w3 at *
  have G := fun w' (hl : Later w3 w') => F w' (l3.trans hl)
  have l03 := l2.trans l3
  clear F eca ecb s1
  obtain ⟨a0, _, _, b0, b1, b2, b3, _⟩ := G w3 (Later.refl _)
  repeat' (first | (simp (disch := omega) only [push_cast, ↓reduceIte, zA, zG, zB, zH, zI, zC, zJ, zK, zL, zD, zE, zF, zM, zN, zO, zP, zQ, reduceCtorEq, not_true_eq_false, not_false_eq_true, b0, addr_add_eq, Nat.zero_add]) | (first | refine vIfE_of ?_ ?_ | refine vIfD_of ?_ ?_ | refine vIfQ_of ?_ ?_ | refine vIfV_of ?_ ?_) <;> intro _ | refine And.intro (by omega) ?_ | refine drawn_q ?_ | fail)
  have hI : I6 e.t ∧ I6 g := ⟨⟨by omega, by omega⟩, ⟨by have := hg.1; omega, by have := hg.2; omega⟩⟩
  refine (rfloor_c e.t g w3 hI.1 hI.2).mono ?_
  rintro _ w0 ⟨rfl, h0⟩
  obtain rfl := h0.symm
  have hfl : flrR e.t g = (e.t - e.t % g, 0) := by unfold flrR; rw [if_pos ⟨hg, by constructor <;> omega⟩]; rfl
  rw [hfl]
  unfold tupF
  repeat' (first | (simp (disch := omega) only [push_cast, ↓reduceIte, zA, zG, zB, zH, zI, zC, zJ, zK, zL, zD, zE, zF, zM, zN, zO, zP, zQ, reduceCtorEq, not_true_eq_false, not_false_eq_true, b2, b3, heav, addr_add_eq, Nat.zero_add]) | (first | refine vIfE_of ?_ ?_ | refine vIfD_of ?_ ?_ | refine vIfQ_of ?_ ?_ | refine vIfV_of ?_ ?_) <;> intro _ | refine And.intro (by omega) ?_ | refine drawn_q ?_ | fail)
  rw [heav] at b3
  have hone : ∀ x ∈ (#[.int .i64 (e.t - e.t % g), .slice none 0 0, .int .i64 e.n, .slice oa e.a.length ca] : Array Value).toList, x.oneCell' = true := by
    intro x hx
    simp at hx
    rcases hx with rfl | rfl | rfl | rfl <;> rfl
  refine vStore_new rfl rfl hone ?_
  have l4 := later_alloc w3 (.cells #[.int .i64 (e.t - e.t % g), .slice none 0 0, .int .i64 e.n, .slice oa e.a.length ca] 35)
  have B4 := Blk.new w3 #[.int .i64 (e.t - e.t % g), .slice none 0 0, .int .i64 e.n, .slice oa e.a.length ca] 35
  have hs4 := World.size_alloc w3 (.cells #[.int .i64 (e.t - e.t % g), .slice none 0 0, .int .i64 e.n, .slice oa e.a.length ca] 35)
  generalize w3.alloc (.cells #[.int .i64 (e.t - e.t % g), .slice none 0 0, .int .i64 e.n, .slice oa e.a.length ca] 35) = w4 at *
  have P0 : PS w3 w4 w3.heap.size w3.heap.size (e.t - e.t % g) e.n (.slice oa e.a.length ca) [] := ⟨l4, _, B4, own_nil _ _ _ _⟩
  generalize hb : w3.heap.size = b at P0 ⊢
  clear B4
  repeat' (first | (simp (disch := omega) only [push_cast, ↓reduceIte, zA, zG, zB, zH, zI, zC, zJ, zK, zL, zD, zE, zF, zM, zN, zO, zP, zQ, reduceCtorEq, not_true_eq_false, not_false_eq_true]) | (first | refine vIfE_of ?_ ?_ | refine vIfD_of ?_ ?_ | refine vIfQ_of ?_ ?_ | refine vIfV_of ?_ ?_) <;> intro _ | refine And.intro (by omega) ?_ | refine drawn_q ?_ | fail)
  refine vc_loop W51_0 (fun i : Nat => [(12, .int .i64 (i : Int))])
    (fun i w' => i ≤ dims.length ∧ PS w3 w' b b (e.t - e.t % g) e.n (.slice oa e.a.length ca) (vals d (dims.take i) e.d)) (fun i => dims.length - i) 0 (by decide) ?_ ?_ ?_
  · simp (disch := omega) only [push_cast, ↓reduceIte, zA, zG, zB, zH, zI, zC, zJ, zK, zL, zD, zE, zF, zM, zN, zO, zP, zQ, reduceCtorEq, not_true_eq_false, not_false_eq_true]
  · exact ⟨by omega, by simpa [vals] using P0⟩
  rintro i uu w5 ⟨hi, P5⟩
  have l35 := P5.later
  obtain ⟨a0, _, _, _, b1, _, b3', _⟩ := G w5 l35
  rw [hedv] at b1
  by_cases hlt : i < dims.length
  · obtain ⟨k, hk, hkd⟩ := hin dims[i] (List.getElem_mem _)
    have hvt := vals_take (x := e.d) hlt hk (by omega)
    cases ou with
    | none => have := gu3 rfl; rw [this] at hlt; simp at hlt
    | some au =>
    have hc := StS.atS (Sl.later hu ((l2.trans l3).trans l35)) hlt
    generalize dims[i] = n at *
    repeat' (first | (simp (disch := omega) only [push_cast, ↓reduceIte, zA, zG, zB, zH, zI, zC, zJ, zK, zL, zD, zE, zF, zM, zN, zO, zP, zQ, reduceCtorEq, not_true_eq_false, not_false_eq_true, a0, addr_add_eq, Nat.zero_add]) | (first | refine vIfE_of ?_ ?_ | refine vIfD_of ?_ ?_ | refine vIfQ_of ?_ ?_ | refine vIfV_of ?_ ?_) <;> intro _ | refine And.intro (by omega) ?_ | fail)
    refine drawn_q ?_
    repeat' (first | (simp (disch := omega) only [push_cast, ↓reduceIte, zA, zG, zB, zH, zI, zC, zJ, zK, zL, zD, zE, zF, zM, zN, zO, zP, zQ, reduceCtorEq, not_true_eq_false, not_false_eq_true, a0, hc, addr_add_eq, Nat.zero_add]) | (first | refine vIfE_of ?_ ?_ | refine vIfD_of ?_ ?_ | refine vIfQ_of ?_ ?_ | refine vIfV_of ?_ ?_) <;> intro _ | refine And.intro (by omega) ?_ | fail)
    refine QFn.of hb86 (v := fiT (fi d n)) (fun w' hl => (dfind_c dv d n w' (Sl.later h.dS ((l03.trans l35).trans hl))).mono fun r w'' hr => ⟨hr.1, hr.2 ▸ Later.refl _⟩) ?_
    rw [hk]
    unfold fiT
    simp only [Option.getD_some, Option.isSome_some]
    repeat' (first | (simp (disch := omega) only [push_cast, ↓reduceIte, zA, zG, zB, zH, zI, zC, zJ, zK, zL, zD, zE, zF, zM, zN, zO, zP, zQ, reduceCtorEq, not_true_eq_false, not_false_eq_true]) | (first | refine vIfE_of ?_ ?_ | refine vIfD_of ?_ ?_ | refine vIfQ_of ?_ ?_ | refine vIfV_of ?_ ?_) <;> intro _ | refine And.intro (by omega) ?_ | refine drawn_q ?_ | fail)
    intro w6 l6
    have P6 := P5.step l6
    have l36 := P6.later
    obtain ⟨a0, _, _, _, b1, _, b3', _⟩ := G w6 l36
    rw [hedv] at b1
    obtain ⟨_, dvc, Bc, hOc⟩ := P6
    obtain ⟨oc, cc, hdvc, _⟩ := StS.opn (Sl.of_own hOc)
    subst hdvc
    have f1 : w6.cell? ⟨b, 1, none⟩ = some (.slice oc (vals d (dims.take i) e.d).length cc) := Bc.cell 1
    cases oe with
    | none => have := ge3 rfl; rw [this] at hel; simp at hel; omega
    | some ae =>
    have hkx : k < e.d.length := by omega
    have fk := StS.atS (Sl.later hes (l03.trans l36)) hkx
    have hvl : (vals d (dims.take i) e.d).length = i := by simp [vals]; omega
    generalize vals d (dims.take i) e.d = ds at *
    generalize e.d[k] = s at *
    repeat' (first | (simp (disch := omega) only [push_cast, ↓reduceIte, zA, zG, zB, zH, zI, zC, zJ, zK, zL, zD, zE, zF, zM, zN, zO, zP, zQ, reduceCtorEq, not_true_eq_false, not_false_eq_true, f1, b1]) | (first | refine vIfE_of ?_ ?_ | refine vIfD_of ?_ ?_ | refine vIfQ_of ?_ ?_ | refine vIfV_of ?_ ?_) <;> intro _ | refine And.intro (by omega) ?_ | fail)
    refine drawn_k 8 ?_
    repeat' (first | (simp (disch := omega) only [push_cast, ↓reduceIte, zA, zG, zB, zH, zI, zC, zJ, zK, zL, zD, zE, zF, zM, zN, zO, zP, zQ, reduceCtorEq, not_true_eq_false, not_false_eq_true, f1, b1, fk, addr_add_eq, Nat.zero_add]) | (first | refine vIfE_of ?_ ?_ | refine vIfD_of ?_ ?_ | refine vIfQ_of ?_ ?_ | refine vIfV_of ?_ ?_) <;> intro _ | refine And.intro (by omega) ?_ | fail)
    refine nB_of _ (RowV w6 9 #[.string s] 1) (stb_row _ _ _ _) (fun w' hl => ?_) ?_
    · repeat' (first | (simp (disch := omega) only [push_cast, ↓reduceIte, zA, zG, zB, zH, zI, zC, zJ, zK, zL, zD, zE, zF, zM, zN, zO, zP, zQ, reduceCtorEq, not_true_eq_false, not_false_eq_true]) | (first | refine vIfE_of ?_ ?_ | refine vIfD_of ?_ ?_ | refine vIfQ_of ?_ ?_ | refine vIfV_of ?_ ?_) <;> intro _ | refine And.intro (by omega) ?_ | fail)
      exact RowV.new hl _ _ _
    repeat' (first | (simp (disch := omega) only [push_cast, ↓reduceIte, zA, zG, zB, zH, zI, zC, zJ, zK, zL, zD, zE, zF, zM, zN, zO, zP, zQ, reduceCtorEq, not_true_eq_false, not_false_eq_true]) | (first | refine vIfE_of ?_ ?_ | refine vIfD_of ?_ ?_ | refine vIfQ_of ?_ ?_ | refine vIfV_of ?_ ?_) <;> intro _ | refine And.intro (by omega) ?_ | fail)
    rintro w7 l7 _ ⟨kb, rfl, hkb, Bk⟩
    have hsl : StS w7 (.slice (some ⟨kb, 0, none⟩) 1 1) [s] := Sl.of_blk (xs := [.string s]) Bk rfl (by unfold maxLen; omega)
    have Bc7 := Bc.chg (Chg.of_later (ks := []) l7) (by simp)
    have hO7 := own_later hOc l7
    refine vAppend_ss hO7 hsl (by simp only [List.length_cons, List.length_nil]; omega) (by rw [← hb]; exact (l36.trans l7).size) ?_
    intro v' w8 ho8 hg8 _
    obtain ⟨q1, q2, q3⟩ := PS.snoc (l36.trans l7) (by omega) (by omega) Bc7 hO7 ho8 hg8
    obtain ⟨o8, c8, hv8, _⟩ := StS.opn (Sl.of_own ho8)
    subst hv8
    repeat' (first | (simp (disch := omega) only [push_cast, ↓reduceIte, zA, zG, zB, zH, zI, zC, zJ, zK, zL, zD, zE, zF, zM, zN, zO, zP, zQ, reduceCtorEq, not_true_eq_false, not_false_eq_true, q1, q2, addr_add_eq, Nat.zero_add]) | (first | refine vIfE_of ?_ ?_ | refine vIfD_of ?_ ?_ | refine vIfQ_of ?_ ?_ | refine vIfV_of ?_ ?_) <;> intro _ | refine And.intro (by omega) ?_ | refine drawn_q ?_ | fail)
    refine ⟨rfl, i + 1, by simp (disch := omega) only [push_cast, ↓reduceIte, zA, zG, zB, zH, zI, zC, zJ, zK, zL, zD, zE, zF, zM, zN, zO, zP, zQ, reduceCtorEq, not_true_eq_false, not_false_eq_true], ⟨by omega, ?_⟩, by dsimp only; omega⟩
    rw [hvt]
    exact q3
  · have e0 : i = dims.length := by omega
    subst e0
    rw [List.take_length] at P5
    have ha5 : AgS w5 (.slice oa e.a.length ca) e.a := by
      have := (he.later (l03.trans l35)).2
      rwa [heav] at this
    obtain ⟨z, hz, hzE, hzf, hzo, hzav, hza⟩ := P5.el ha5
    have B5 := B3.chg (Chg.of_later (ks := []) l35) (by simp)
    repeat' (first | (simp (disch := omega) only [push_cast, ↓reduceIte, zA, zG, zB, zH, zI, zC, zJ, zK, zL, zD, zE, zF, zM, zN, zO, zP, zQ, reduceCtorEq, not_true_eq_false, not_false_eq_true, hzf]) | (first | refine vIfE_of ?_ ?_ | refine vIfD_of ?_ ?_ | refine vIfQ_of ?_ ?_ | refine vIfV_of ?_ ?_) <;> intro _ | refine And.intro (by omega) ?_ | refine drawn_q ?_ | fail)
    refine vStore_blk (l := [.int .i64 0, .slice none 0 0, .int .i64 0, .slice none 0 0]) (xs := elC z) B5 rfl rfl (elC_one hzE) ?_
    intro w11 B11 c11
    repeat' (first | (simp (disch := omega) only [push_cast, ↓reduceIte, zA, zG, zB, zH, zI, zC, zJ, zK, zL, zD, zE, zF, zM, zN, zO, zP, zQ, reduceCtorEq, not_true_eq_false, not_false_eq_true]) | (first | refine vIfE_of ?_ ?_ | refine vIfD_of ?_ ?_ | refine vIfQ_of ?_ ?_ | refine vIfV_of ?_ ?_) <;> intro _ | refine And.intro (by omega) ?_ | refine drawn_q ?_ | fail)
    refine resK_cells (s := 4) (by simp (disch := omega) only [push_cast, ↓reduceIte, zA, zG, zB, zH, zI, zC, zJ, zK, zL, zD, zE, zF, zM, zN, zO, zP, zQ, reduceCtorEq, not_true_eq_false, not_false_eq_true]) (by rw [Try.underlying35]; exact sz35) (Blk.cellsAt (l := elC z) B11) ?_
    repeat' (first | (simp (disch := omega) only [push_cast, ↓reduceIte, zA, zG, zB, zH, zI, zC, zJ, zK, zL, zD, zE, zF, zM, zN, zO, zP, zQ, reduceCtorEq, not_true_eq_false, not_false_eq_true]) | (first | refine vIfE_of ?_ ?_ | refine vIfD_of ?_ ?_ | refine vIfQ_of ?_ ?_ | refine vIfV_of ?_ ?_) <;> intro _ | refine And.intro (by omega) ?_ | refine drawn_q ?_ | fail)
    have l11 : Later w w11 := Chg.later (l03.trans l35) c11 (by intro j hj; rw [List.mem_singleton.1 hj]; omega)
    have hr : ∃ z', Value.agg (elC z).toArray = elV z' ∧ Pz w11 e (prj d dims g e.abs) z' := ⟨z, rfl, hz, by rw [hzav, heav], hza, _, own_chg_ty hzo B5 (by decide) c11⟩
    first | exact ⟨hr, l11⟩ | exact l11
/-- A row right enough to be put into a cuboid. -/
def Cr (D A : Nat) (e : El) : Prop := Gd D A e.abs ∧ 0 ≤ e.t ∧ e.t ≤ 1099511627776
theorem prj_gd {d dims : List ByteArray} {A : Nat} {g : Int} {q : R} (h : Gd d.length A q) (hd : dims.length ≤ 1000) : Gd dims.length A (prj d dims g q) :=
  ⟨h.1, h.2.1, h.2.2.1, by show (vals d dims q.2.1).length = _; simp [vals], h.2.2.2.2.1, hd, h.2.2.2.2.2.2⟩
/-- What either Project answers; X: what the Folds say. -/
def PrjR (r : Value) (d dims : List ByteArray) (g : Int) (X : Value → Int → Prop) : Prop := ∃ vv e, r = .tuple #[vv, .int .i64 e] ∧ ((e = 141 ∧ vv = .slice none 0 0 ∧ sub d 0 dims = false) ∨ (e = 111 ∧ vv = .slice none 0 0 ∧ sub d 0 dims = true ∧ ¬ Rt g) ∨ (sub d 0 dims = true ∧ Rt g ∧ X vv e))
def RowPV (x : El) (q : R) (v : Value) (w : World) : Prop := ∃ z : El, v = elV z ∧ Pz w x q z
theorem stb_rowp (w0 : World) (x : El) (q : R) : Stb w0 (RowPV x q) := fun _ _ _ _ hl ⟨z, h1, h2⟩ => ⟨z, h1, h2.later hl⟩
def RowLV (x : El) (q : R) (v : Value) (w : World) : Prop := ∃ z : El, (∃ b, v = .slice (some ⟨b, 0, none⟩) 1 1) ∧ RecS elC 4 w v [z] ∧ Pz w x q z
theorem stb_rowl (w0 : World) (x : El) (q : R) : Stb w0 (RowLV x q) := fun _ _ _ _ hl ⟨z, h1, h2, h3⟩ => ⟨z, h1, RecS.later h2 hl, h3.later hl⟩
set_option maxHeartbeats 1000000 in
theorem dproject_c (A : Nat) (dv mv v u : Value) (d m dims : List ByteArray) (l : List El) (g : Int) (w : World) (h : ScIs w dv mv d m) (hl : RecS elC 4 w v l) (hu : StS w u dims) (hes : ∀ e ∈ l, EIs w e ∧ Cr d.length A e) (hdl : dims.length ≤ 1000) (h63 : l.length ≤ 100000) (hg : I6 g) :
    FnC Try.prog 18 #[scV dv mv, v, u, .int .i64 g] w fun r w' => PrjR r d dims g (fun vv e => FoldD dims.length A w' vv e ((l.map El.abs).map (prj d dims g))) ∧ Later w w' := by
  unfold scV
  obtain ⟨o, c, rfl, g1, g2⟩ := hl.slice
  obtain ⟨ou, cu, rfl, hu, gu1, gu2, gu3⟩ := StS.opn hu
  refine enter18 _ _ _ _ ?_
  unfold B18
  obtain ⟨l1, s1, F⟩ := box2 w dv mv 24
  have eca : (Value.agg #[dv, mv]).cells = #[dv, mv] := rfl
  repeat' (first | (simp (disch := omega) only [push_cast, ↓reduceIte, zA, zG, zB, zH, zI, zC, zJ, zK, zL, zD, zE, zF, zM, zN, zO, zP, zQ, reduceCtorEq, not_true_eq_false, not_false_eq_true, eca, s1]) | (first | refine vIfE_of ?_ ?_ | refine vIfD_of ?_ ?_ | refine vIfQ_of ?_ ?_ | refine vIfV_of ?_ ?_) <;> intro _ | refine And.intro (by omega) ?_ | fail)
  generalize w.alloc (.cells #[dv, mv] 24) = w1 at *
  obtain ⟨a0, _, _⟩ := F w1 (Later.refl _)
  repeat' (first | (simp (disch := omega) only [push_cast, ↓reduceIte, zA, zG, zB, zH, zI, zC, zJ, zK, zL, zD, zE, zF, zM, zN, zO, zP, zQ, reduceCtorEq, not_true_eq_false, not_false_eq_true, a0, addr_add_eq, Nat.zero_add]) | (first | refine vIfE_of ?_ ?_ | refine vIfD_of ?_ ?_ | refine vIfQ_of ?_ ?_ | refine vIfV_of ?_ ?_) <;> intro _ | refine And.intro (by omega) ?_ | refine drawn_q ?_ | fail)
  refine (dsubset_c _ dv dims d w1 (Sl.later hu l1) (Sl.later h.dS l1)).mono ?_
  rintro _ w0 ⟨rfl, h0⟩
  obtain rfl := h0.symm
  cases hsub : sub d 0 dims with
  | false =>
    repeat' (first | (simp (disch := omega) only [push_cast, ↓reduceIte, zA, zG, zB, zH, zI, zC, zJ, zK, zL, zD, zE, zF, zM, zN, zO, zP, zQ, reduceCtorEq, not_true_eq_false, not_false_eq_true]) | (first | refine vIfE_of ?_ ?_ | refine vIfD_of ?_ ?_ | refine vIfQ_of ?_ ?_ | refine vIfV_of ?_ ?_) <;> intro _ | refine And.intro (by omega) ?_ | refine drawn_q ?_ | fail)
    have hr : PrjR (.tuple #[.slice none 0 0, .int .i64 141]) d dims g (fun vv e => FoldD dims.length A w1 vv e ((l.map El.abs).map (prj d dims g))) := ⟨_, _, rfl, .inl ⟨rfl, rfl, hsub⟩⟩
    first | exact ⟨hr, l1⟩ | exact l1
  | true =>
  repeat' (first | (simp (disch := omega) only [push_cast, ↓reduceIte, zA, zG, zB, zH, zI, zC, zJ, zK, zL, zD, zE, zF, zM, zN, zO, zP, zQ, reduceCtorEq, not_true_eq_false, not_false_eq_true]) | (first | refine vIfE_of ?_ ?_ | refine vIfD_of ?_ ?_ | refine vIfQ_of ?_ ?_ | refine vIfV_of ?_ ?_) <;> intro _ | refine And.intro (by omega) ?_ | refine drawn_q ?_ | fail)
  refine (rright_c g w1 hg).mono ?_
  rintro _ w0 ⟨rfl, h0⟩
  obtain rfl := h0.symm
  by_cases hrt : Rt g
  case neg =>
    rw [decide_eq_false hrt]
    repeat' (first | (simp (disch := omega) only [push_cast, ↓reduceIte, zA, zG, zB, zH, zI, zC, zJ, zK, zL, zD, zE, zF, zM, zN, zO, zP, zQ, reduceCtorEq, not_true_eq_false, not_false_eq_true]) | (first | refine vIfE_of ?_ ?_ | refine vIfD_of ?_ ?_ | refine vIfQ_of ?_ ?_ | refine vIfV_of ?_ ?_) <;> intro _ | refine And.intro (by omega) ?_ | refine drawn_q ?_ | fail)
    have hr : PrjR (.tuple #[.slice none 0 0, .int .i64 111]) d dims g (fun vv e => FoldD dims.length A w1 vv e ((l.map El.abs).map (prj d dims g))) := ⟨_, _, rfl, .inr (.inl ⟨rfl, rfl, hsub, hrt⟩)⟩
    first | exact ⟨hr, l1⟩ | exact l1
  rw [decide_eq_true hrt]
  repeat' (first | (simp (disch := omega) only [push_cast, ↓reduceIte, zA, zG, zB, zH, zI, zC, zJ, zK, zL, zD, zE, zF, zM, zN, zO, zP, zQ, reduceCtorEq, not_true_eq_false, not_false_eq_true]) | (first | refine vIfE_of ?_ ?_ | refine vIfD_of ?_ ?_ | refine vIfQ_of ?_ ?_ | refine vIfV_of ?_ ?_) <;> intro _ | refine And.intro (by omega) ?_ | refine drawn_q ?_ | fail)
  refine vc_loop W18_0 (fun p : Nat × Value => [(12, p.2), (13, .int .i64 (p.1 : Int))])
    (fun p w' => p.1 ≤ l.length ∧ Later w1 w' ∧ ∃ os, OwnE w' w1.heap.size p.2 os ∧ os.map El.abs = ((l.take p.1).map El.abs).map (prj d dims g) ∧ ∀ z ∈ os, ∃ x ∈ l, Pz w' x (prj d dims g x.abs) z) (fun p => l.length - p.1) (0, .slice none 0 0) (by decide) ?_ ?_ ?_
  · simp (disch := omega) only [push_cast, ↓reduceIte, zA, zG, zB, zH, zI, zC, zJ, zK, zL, zD, zE, zF, zM, zN, zO, zP, zQ, reduceCtorEq, not_true_eq_false, not_false_eq_true]
  · exact ⟨by omega, Later.refl _, [], OwnR.nil _ _ _, by simp, by simp⟩
  rintro ⟨i, ov⟩ uu w2 ⟨hi, l2, os, hO, hos, hZ⟩
  dsimp only at hi hO hos
  have hosl : os.length = i := by have := congrArg List.length hos; simp at this; omega
  by_cases hlt : i < l.length
  · obtain ⟨ad, rfl, f1⟩ := RecS.at elC_len (hl.later (l1.trans l2)) hlt
    have hE := (hes l[i] (List.getElem_mem _)).1
    have hC := (hes l[i] (List.getElem_mem _)).2
    have hxm : l[i] ∈ l := List.getElem_mem _
    have htk : ((l.take (i + 1)).map El.abs).map (prj d dims g) = ((l.take i).map El.abs).map (prj d dims g) ++ [prj d dims g l[i].abs] := by rw [take_snoc l i hlt, List.map_append, List.map_append]; rfl
    generalize l[i] = x at *
    obtain ⟨_, _, a2⟩ := F w2 l2
    obtain ⟨oo, oc, rfl, _⟩ := RecS.slice (OwnR.s hO)
    unfold elC at f1
    repeat' (first | (simp (disch := omega) only [push_cast, ↓reduceIte, zA, zG, zB, zH, zI, zC, zJ, zK, zL, zD, zE, zF, zM, zN, zO, zP, zQ, reduceCtorEq, not_true_eq_false, not_false_eq_true]) | (first | refine vIfE_of ?_ ?_ | refine vIfD_of ?_ ?_ | refine vIfQ_of ?_ ?_ | refine vIfV_of ?_ ?_) <;> intro _ | refine And.intro (by omega) ?_ | fail)
    refine drawn_k 10 ?_
    repeat' (first | (simp (disch := omega) only [push_cast, ↓reduceIte, zA, zG, zB, zH, zI, zC, zJ, zK, zL, zD, zE, zF, zM, zN, zO, zP, zQ, reduceCtorEq, not_true_eq_false, not_false_eq_true, a2, f1]) | (first | refine vIfE_of ?_ ?_ | refine vIfD_of ?_ ?_ | refine vIfQ_of ?_ ?_ | refine vIfV_of ?_ ?_) <;> intro _ | refine And.intro (by omega) ?_ | fail)
    refine NFn.of hb51 (RowPV x (prj d dims g x.abs)) (stb_rowp _ _ _) (fun w' hl' => (row_c dv mv _ d m dims x g w' (h.later ((l1.trans l2).trans hl')) (hE.later ((l1.trans l2).trans hl')) (Sl.later hu ((l1.trans l2).trans hl')) hC.1.rr.2.1 (sub_mem hsub) ⟨hC.2.1, hC.2.2⟩ hrt hdl).mono ?_) ?_
    · rintro r w'' ⟨⟨z, rfl, hz⟩, hl''⟩
      exact ⟨⟨z, rfl, hz⟩, hl''⟩
    repeat' (first | (simp (disch := omega) only [push_cast, ↓reduceIte, zA, zG, zB, zH, zI, zC, zJ, zK, zL, zD, zE, zF, zM, zN, zO, zP, zQ, reduceCtorEq, not_true_eq_false, not_false_eq_true]) | (first | refine vIfE_of ?_ ?_ | refine vIfD_of ?_ ?_ | refine vIfQ_of ?_ ?_ | refine vIfV_of ?_ ?_) <;> intro _ | refine And.intro (by omega) ?_ | fail)
    refine nR_build (RowLV x (prj d dims g x.abs)) (stb_rowl _ _ _) (fun σ' w' hl' hp => ?_) ?_
    · obtain ⟨hp1, _⟩ := hp
      obtain ⟨z, hv, hz⟩ : RowPV x (prj d dims g x.abs) (σ' 38) w' := hp1
      unfold elV at hv
      repeat' (first | (simp (disch := omega) only [push_cast, ↓reduceIte, zA, zG, zB, zH, zI, zC, zJ, zK, zL, zD, zE, zF, zM, zN, zO, zP, zQ, reduceCtorEq, not_true_eq_false, not_false_eq_true, hv]) | (first | refine vIfE_of ?_ ?_ | refine vIfD_of ?_ ?_ | refine vIfQ_of ?_ ?_ | refine vIfV_of ?_ ?_) <;> intro _ | refine And.intro (by omega) ?_ | fail)
      exact ⟨later_alloc _ _, z, ⟨_, rfl⟩, RecS.lit1 (elC_len z) (Blk.new w' _ _), hz.later (later_alloc _ _)⟩
    repeat' (first | (simp (disch := omega) only [push_cast, ↓reduceIte, zA, zG, zB, zH, zI, zC, zJ, zK, zL, zD, zE, zF, zM, zN, zO, zP, zQ, reduceCtorEq, not_true_eq_false, not_false_eq_true]) | (first | refine vIfE_of ?_ ?_ | refine vIfD_of ?_ ?_ | refine vIfQ_of ?_ ?_ | refine vIfV_of ?_ ?_) <;> intro _ | refine And.intro (by omega) ?_ | fail)
    rintro w3 l3 _ ⟨z, ⟨bz, rfl⟩, hzr, hzP⟩ _ _
    have hO3 := hO.later l3
    refine vAppend_e (r := [z]) hO3 hzr (by intro q hq; rw [List.mem_singleton.1 hq]; exact hzP.is (hE.later ((l1.trans l2).trans l3))) (by simp only [List.length_cons, List.length_nil]; omega) (l2.trans l3).size ?_
    intro v' w6 ho6 hg6 _
    have l6 := (l2.trans l3).appended hO3 (Nat.le_refl _) hg6
    repeat' (first | (simp (disch := omega) only [push_cast, ↓reduceIte, zA, zG, zB, zH, zI, zC, zJ, zK, zL, zD, zE, zF, zM, zN, zO, zP, zQ, reduceCtorEq, not_true_eq_false, not_false_eq_true]) | (first | refine vIfE_of ?_ ?_ | refine vIfD_of ?_ ?_ | refine vIfQ_of ?_ ?_ | refine vIfV_of ?_ ?_) <;> intro _ | refine And.intro (by omega) ?_ | refine drawn_q ?_ | fail)
    refine ⟨rfl, (i + 1, v'), by simp (disch := omega) only [push_cast, ↓reduceIte, zA, zG, zB, zH, zI, zC, zJ, zK, zL, zD, zE, zF, zM, zN, zO, zP, zQ, reduceCtorEq, not_true_eq_false, not_false_eq_true], ⟨by dsimp only; omega, l6, os ++ [z], ho6, by dsimp only; rw [htk, List.map_append, hos, List.map_singleton, hzP.1], fun q hq => ?_⟩, by dsimp only; omega⟩
    rcases List.mem_append.1 hq with hq | hq
    · obtain ⟨y, hy, hP⟩ := hZ q hq
      exact ⟨y, hy, (hP.later l3).grown hO3 hg6⟩
    · rw [List.mem_singleton.1 hq]
      exact ⟨x, hxm, hzP.grown hO3 hg6⟩
  · have e0 : i = l.length := by omega
    subst e0
    rw [List.take_length] at hos
    have hgd : ∀ z ∈ os, EIs w2 z ∧ Gd dims.length A z.abs := fun z hz => by
      obtain ⟨y, hy, hP⟩ := hZ z hz
      refine ⟨hP.is ((hes y hy).1.later (l1.trans l2)), ?_⟩
      have : z.abs ∈ (l.map El.abs).map (prj d dims g) := by rw [← hos]; exact List.mem_map_of_mem hz
      obtain ⟨q, hq, hqe⟩ := List.mem_map.1 this
      obtain ⟨x, hx, rfl⟩ := List.mem_map.1 hq
      rw [← hqe]
      exact prj_gd (hes x hx).2.1 hdl
    repeat' (first | (simp (disch := omega) only [push_cast, ↓reduceIte, zA, zG, zB, zH, zI, zC, zJ, zK, zL, zD, zE, zF, zM, zN, zO, zP, zQ, reduceCtorEq, not_true_eq_false, not_false_eq_true]) | (first | refine vIfE_of ?_ ?_ | refine vIfD_of ?_ ?_ | refine vIfQ_of ?_ ?_ | refine vIfV_of ?_ ?_) <;> intro _ | refine And.intro (by omega) ?_ | refine drawn_q ?_ | fail)
    refine (dfold_c dims.length A _ os w2 (OwnR.s hO) hgd (by omega)).mono ?_
    rintro _ w3 ⟨vv, e, rfl, hf, l3⟩
    rw [hos] at hf
    have hr : PrjR (.tuple #[vv, .int .i64 e]) d dims g (fun vv e => FoldD dims.length A w3 vv e ((l.map El.abs).map (prj d dims g))) := ⟨_, _, rfl, .inr (.inr ⟨hsub, hrt, hf⟩)⟩
    repeat' (first | (simp (disch := omega) only [push_cast, ↓reduceIte, zA, zG, zB, zH, zI, zC, zJ, zK, zL, zD, zE, zF, zM, zN, zO, zP, zQ, reduceCtorEq, not_true_eq_false, not_false_eq_true]) | (first | refine vIfE_of ?_ ?_ | refine vIfD_of ?_ ?_ | refine vIfQ_of ?_ ?_ | refine vIfV_of ?_ ?_) <;> intro _ | refine And.intro (by omega) ?_ | refine drawn_q ?_ | fail)
    first | exact ⟨hr, ((l1.trans l2).trans l3)⟩ | exact ((l1.trans l2).trans l3)
/-- Where dimensions stand, as whole numbers. -/
def plc (d dims : List ByteArray) : List Int := dims.map fun n => (((fi d n).getD 0 : Nat) : Int)
theorem plc_snoc {d dims : List ByteArray} {i : Nat} (hi : i < dims.length) : plc d (dims.take (i + 1)) = plc d (dims.take i) ++ [(((fi d dims[i]).getD 0 : Nat) : Int)] := by
  unfold plc; rw [take_snoc dims i hi, List.map_append]; rfl
set_option maxHeartbeats 2000000 in
theorem project_c (A : Nat) (dv mv v u : Value) (d m dims : List ByteArray) (l : List El) (g : Int) (w : World) (h : ScIs w dv mv d m) (hap : Ap d) (hl : RecS elC 4 w v l) (hu : StS w u dims) (hes : ∀ e ∈ l, EIs w e ∧ Cr d.length A e) (hdl : dims.length ≤ 1000) (h63 : l.length ≤ 100000) (hg : I6 g) :
    FnC Try.prog 13 #[scV dv mv, v, u, .int .i64 g] w fun r w' => PrjR r d dims g (fun vv e => FoldR dims.length A w' w.heap.size vv e ((l.map El.abs).map (prj d dims g))) ∧ Later w w' := by
  unfold scV
  obtain ⟨o, c, rfl, g1, g2⟩ := hl.slice
  obtain ⟨ou, cu, rfl, hu, gu1, gu2, gu3⟩ := StS.opn hu
  refine enter13 _ _ _ _ ?_
  unfold B13
  obtain ⟨l1, s1, F⟩ := box2 w dv mv 24
  have eca : (Value.agg #[dv, mv]).cells = #[dv, mv] := rfl
  repeat' (first | (simp (disch := omega) only [push_cast, ↓reduceIte, zA, zG, zB, zH, zI, zC, zJ, zK, zL, zD, zE, zF, zM, zN, zO, zP, zQ, reduceCtorEq, not_true_eq_false, not_false_eq_true, eca, s1]) | (first | refine vIfE_of ?_ ?_ | refine vIfD_of ?_ ?_ | refine vIfQ_of ?_ ?_ | refine vIfV_of ?_ ?_) <;> intro _ | refine And.intro (by omega) ?_ | fail)
  generalize w.alloc (.cells #[dv, mv] 24) = w1 at *
  obtain ⟨a0, _, _⟩ := F w1 (Later.refl _)
  repeat' (first | (simp (disch := omega) only [push_cast, ↓reduceIte, zA, zG, zB, zH, zI, zC, zJ, zK, zL, zD, zE, zF, zM, zN, zO, zP, zQ, reduceCtorEq, not_true_eq_false, not_false_eq_true, a0, addr_add_eq, Nat.zero_add]) | (first | refine vIfE_of ?_ ?_ | refine vIfD_of ?_ ?_ | refine vIfQ_of ?_ ?_ | refine vIfV_of ?_ ?_) <;> intro _ | refine And.intro (by omega) ?_ | refine drawn_q ?_ | fail)
  refine (subset_c _ dv dims d w1 (Sl.later hu l1) (Sl.later h.dS l1) hap).mono ?_
  rintro _ w0 ⟨rfl, h0⟩
  obtain rfl := h0.symm
  cases hsub : sub d 0 dims with
  | false =>
    repeat' (first | (simp (disch := omega) only [push_cast, ↓reduceIte, zA, zG, zB, zH, zI, zC, zJ, zK, zL, zD, zE, zF, zM, zN, zO, zP, zQ, reduceCtorEq, not_true_eq_false, not_false_eq_true]) | (first | refine vIfE_of ?_ ?_ | refine vIfD_of ?_ ?_ | refine vIfQ_of ?_ ?_ | refine vIfV_of ?_ ?_) <;> intro _ | refine And.intro (by omega) ?_ | refine drawn_q ?_ | fail)
    have hr : PrjR (.tuple #[.slice none 0 0, .int .i64 141]) d dims g (fun vv e => FoldR dims.length A w1 w.heap.size vv e ((l.map El.abs).map (prj d dims g))) := ⟨_, _, rfl, .inl ⟨rfl, rfl, hsub⟩⟩
    first | exact ⟨hr, l1⟩ | exact l1
  | true =>
  repeat' (first | (simp (disch := omega) only [push_cast, ↓reduceIte, zA, zG, zB, zH, zI, zC, zJ, zK, zL, zD, zE, zF, zM, zN, zO, zP, zQ, reduceCtorEq, not_true_eq_false, not_false_eq_true]) | (first | refine vIfE_of ?_ ?_ | refine vIfD_of ?_ ?_ | refine vIfQ_of ?_ ?_ | refine vIfV_of ?_ ?_) <;> intro _ | refine And.intro (by omega) ?_ | refine drawn_q ?_ | fail)
  refine (bright_c g w1 hg).mono ?_
  rintro _ w0 ⟨rfl, h0⟩
  obtain rfl := h0.symm
  by_cases hrt : Rt g
  case neg =>
    rw [decide_eq_false hrt]
    repeat' (first | (simp (disch := omega) only [push_cast, ↓reduceIte, zA, zG, zB, zH, zI, zC, zJ, zK, zL, zD, zE, zF, zM, zN, zO, zP, zQ, reduceCtorEq, not_true_eq_false, not_false_eq_true]) | (first | refine vIfE_of ?_ ?_ | refine vIfD_of ?_ ?_ | refine vIfQ_of ?_ ?_ | refine vIfV_of ?_ ?_) <;> intro _ | refine And.intro (by omega) ?_ | refine drawn_q ?_ | fail)
    have hr : PrjR (.tuple #[.slice none 0 0, .int .i64 111]) d dims g (fun vv e => FoldR dims.length A w1 w.heap.size vv e ((l.map El.abs).map (prj d dims g))) := ⟨_, _, rfl, .inr (.inl ⟨rfl, rfl, hsub, hrt⟩)⟩
    first | exact ⟨hr, l1⟩ | exact l1
  rw [decide_eq_true hrt]
  repeat' (first | (simp (disch := omega) only [push_cast, ↓reduceIte, zA, zG, zB, zH, zI, zC, zJ, zK, zL, zD, zE, zF, zM, zN, zO, zP, zQ, reduceCtorEq, not_true_eq_false, not_false_eq_true]) | (first | refine vIfE_of ?_ ?_ | refine vIfD_of ?_ ?_ | refine vIfQ_of ?_ ?_ | refine vIfV_of ?_ ?_) <;> intro _ | refine And.intro (by omega) ?_ | refine drawn_q ?_ | fail)
  refine vc_loop W13_0 (fun p : Nat × Value => [(10, p.2), (33, .int .i64 (p.1 : Int))])
    (fun p w' => p.1 ≤ dims.length ∧ Later w1 w' ∧ OwnI w' w1.heap.size 3 p.2 (plc d (dims.take p.1))) (fun p => dims.length - p.1) (0, .slice none 0 0) (by decide) ?_ ?_ ?_
  · simp (disch := omega) only [push_cast, ↓reduceIte, zA, zG, zB, zH, zI, zC, zJ, zK, zL, zD, zE, zF, zM, zN, zO, zP, zQ, reduceCtorEq, not_true_eq_false, not_false_eq_true]
  · exact ⟨by omega, Later.refl _, by simpa [plc] using OwnI.nil w1 w1.heap.size 3⟩
  rintro ⟨i, pv⟩ uu w2 ⟨hi, l2, hP⟩
  dsimp only at hi hP
  by_cases hlt : i < dims.length
  · cases ou with
    | none => have := gu3 rfl; rw [this] at hlt; simp at hlt
    | some au =>
    have hc := StS.atS (Sl.later hu (l1.trans l2)) hlt
    have hsn := plc_snoc (d := d) hlt
    have hpl : (plc d (dims.take i)).length = i := by simp [plc]; omega
    generalize dims[i] = n at *
    obtain ⟨_, _, a2⟩ := F w2 l2
    repeat' (first | (simp (disch := omega) only [push_cast, ↓reduceIte, zA, zG, zB, zH, zI, zC, zJ, zK, zL, zD, zE, zF, zM, zN, zO, zP, zQ, reduceCtorEq, not_true_eq_false, not_false_eq_true, hc, a2]) | (first | refine vIfE_of ?_ ?_ | refine vIfD_of ?_ ?_ | refine vIfQ_of ?_ ?_ | refine vIfV_of ?_ ?_) <;> intro _ | refine And.intro (by omega) ?_ | refine drawn_q ?_ | fail)
    refine (dim_c dv mv d m n w2 (h.later (l1.trans l2))).mono ?_
    rintro _ w3 ⟨rfl, l3⟩
    obtain ⟨op, cp, rfl⟩ := hP.slice
    unfold fiT
    repeat' (first | (simp (disch := omega) only [push_cast, ↓reduceIte, zA, zG, zB, zH, zI, zC, zJ, zK, zL, zD, zE, zF, zM, zN, zO, zP, zQ, reduceCtorEq, not_true_eq_false, not_false_eq_true]) | (first | refine vIfE_of ?_ ?_ | refine vIfD_of ?_ ?_ | refine vIfQ_of ?_ ?_ | refine vIfV_of ?_ ?_) <;> intro _ | refine And.intro (by omega) ?_ | refine drawn_q ?_ | fail)
    have la := later_alloc w3 (.cells #[.int .i64 (((fi d n).getD 0 : Nat) : Int)] 3)
    have hPa : OwnI _ w1.heap.size 3 (.slice op (plc d (dims.take i)).length cp) (plc d (dims.take i)) := own_later hP (l3.trans la)
    refine vAppend_i Try.underlying47 ti3 rfl hPa (lit_i w3 _ _) (by omega) (by omega) ((l2.trans l3).trans la).size ?_
    intro v' w5 ho5 hg5 _ hlat
    have l5 := hlat w1 ((l2.trans l3).trans la) (Nat.le_refl _)
    repeat' (first | (simp (disch := omega) only [push_cast, ↓reduceIte, zA, zG, zB, zH, zI, zC, zJ, zK, zL, zD, zE, zF, zM, zN, zO, zP, zQ, reduceCtorEq, not_true_eq_false, not_false_eq_true]) | (first | refine vIfE_of ?_ ?_ | refine vIfD_of ?_ ?_ | refine vIfQ_of ?_ ?_ | refine vIfV_of ?_ ?_) <;> intro _ | refine And.intro (by omega) ?_ | refine drawn_q ?_ | fail)
    refine ⟨rfl, (i + 1, v'), by simp (disch := omega) only [push_cast, ↓reduceIte, zA, zG, zB, zH, zI, zC, zJ, zK, zL, zD, zE, zF, zM, zN, zO, zP, zQ, reduceCtorEq, not_true_eq_false, not_false_eq_true], ⟨by dsimp only; omega, l5, ?_⟩, by dsimp only; omega⟩
    dsimp only
    rw [hsn]
    exact ho5
  have hie : i = dims.length := by omega
  subst hie
  rw [List.take_length] at hP
  have l02 := l1.trans l2
  obtain ⟨op, cp, hpv⟩ := hP.slice
  subst hpv
  have hpS : Sl w2 (.slice op (plc d dims).length cp) ((plc d dims).map i64v) := Sl.of_own hP
  have hpln : (plc d dims).length = dims.length := by simp [plc]
  repeat' (first | (simp (disch := omega) only [push_cast, ↓reduceIte, zA, zG, zB, zH, zI, zC, zJ, zK, zL, zD, zE, zF, zM, zN, zO, zP, zQ, reduceCtorEq, not_true_eq_false, not_false_eq_true]) | (first | refine vIfE_of ?_ ?_ | refine vIfD_of ?_ ?_ | refine vIfQ_of ?_ ?_ | refine vIfV_of ?_ ?_) <;> intro _ | refine And.intro (by omega) ?_ | refine drawn_q ?_ | fail)
  refine vMake_own (enc := elC) Try.underlying25 ti35 (by omega) (by unfold maxLen; omega) ?_
  intro cs hO0
  have l3 := later_alloc w2 (.cells cs 35)
  generalize w2.alloc (.cells cs 35) = w3 at *
  have l03 := l02.trans l3
  repeat' (first | (simp (disch := omega) only [push_cast, ↓reduceIte, zA, zG, zB, zH, zI, zC, zJ, zK, zL, zD, zE, zF, zM, zN, zO, zP, zQ, reduceCtorEq, not_true_eq_false, not_false_eq_true]) | (first | refine vIfE_of ?_ ?_ | refine vIfD_of ?_ ?_ | refine vIfQ_of ?_ ?_ | refine vIfV_of ?_ ?_) <;> intro _ | refine And.intro (by omega) ?_ | refine drawn_q ?_ | fail)
  refine vc_loop W13_1 (fun p : Nat × Value => [(15, p.2), (53, .int .i64 (p.1 : Int))])
    (fun p w' => p.1 ≤ l.length ∧ Later w2 w' ∧ ∃ os, OwnE w' w2.heap.size p.2 os ∧ os.map El.abs = ((l.take p.1).map El.abs).map (prj d dims g) ∧ ∀ z ∈ os, ∃ x ∈ l, Pz w' x (prj d dims g x.abs) z) (fun p => l.length - p.1) (0, .slice (some ⟨w2.heap.size, 0, none⟩) 0 l.length) (by decide) ?_ ?_ ?_
  · simp (disch := omega) only [push_cast, ↓reduceIte, zA, zG, zB, zH, zI, zC, zJ, zK, zL, zD, zE, zF, zM, zN, zO, zP, zQ, reduceCtorEq, not_true_eq_false, not_false_eq_true]
  · exact ⟨by omega, l3, [], hO0, by simp, by simp⟩
  rintro ⟨i, ov⟩ uu2 w4 ⟨hi, l4, os, hO, hos, hZ⟩
  dsimp only at hi hO hos
  have hosl : os.length = i := by have := congrArg List.length hos; simp at this; omega
  have l04 := l02.trans l4
  by_cases hlt : i < l.length
  · obtain ⟨ad, rfl, f1⟩ := RecS.at elC_len (hl.later l04) hlt
    have hE := (hes l[i] (List.getElem_mem _)).1
    have hC := (hes l[i] (List.getElem_mem _)).2
    have hxm : l[i] ∈ l := List.getElem_mem _
    have htk : ((l.take (i + 1)).map El.abs).map (prj d dims g) = ((l.take i).map El.abs).map (prj d dims g) ++ [prj d dims g l[i].abs] := by rw [take_snoc l i hlt, List.map_append, List.map_append]; rfl
    generalize l[i] = x at *
    obtain ⟨oo, oc, rfl, _⟩ := RecS.slice (OwnR.s hO)
    obtain ⟨ox, cx, hxdv, hxs, ge1, ge2, ge3⟩ := StS.opn hE.1
    obtain ⟨oa, ca, hxav, _⟩ := RecS.slice hE.2
    unfold elC at f1
    repeat' (first | (simp (disch := omega) only [push_cast, ↓reduceIte, zA, zG, zB, zH, zI, zC, zJ, zK, zL, zD, zE, zF, zM, zN, zO, zP, zQ, reduceCtorEq, not_true_eq_false, not_false_eq_true, f1]) | (first | refine vIfE_of ?_ ?_ | refine vIfD_of ?_ ?_ | refine vIfQ_of ?_ ?_ | refine vIfV_of ?_ ?_) <;> intro _ | refine And.intro (by omega) ?_ | refine drawn_q ?_ | fail)
    refine vStore_new rfl rfl (by intro u hu; exact elC_one (hE.later l04) u (by simpa [elC] using hu)) ?_
    have l5 := later_alloc w4 (.cells #[.int .i64 x.t, x.dv, .int .i64 x.n, x.av] 35)
    obtain ⟨b0, b1, b2, b3, _⟩ := box4 w4 (.int .i64 x.t) x.dv (.int .i64 x.n) x.av 35
    generalize w4.alloc (.cells #[.int .i64 x.t, x.dv, .int .i64 x.n, x.av] 35) = w5 at *
    generalize w4.heap.size = k5 at *
    rw [hxdv] at b1
    rw [hxav] at b3
    repeat' (first | (simp (disch := omega) only [push_cast, ↓reduceIte, zA, zG, zB, zH, zI, zC, zJ, zK, zL, zD, zE, zF, zM, zN, zO, zP, zQ, reduceCtorEq, not_true_eq_false, not_false_eq_true, b2, b3, addr_add_eq, Nat.zero_add]) | (first | refine vIfE_of ?_ ?_ | refine vIfD_of ?_ ?_ | refine vIfQ_of ?_ ?_ | refine vIfV_of ?_ ?_) <;> intro _ | refine And.intro (by omega) ?_ | refine drawn_q ?_ | fail)
    have hone : ∀ u ∈ (#[.int .i64 0, .slice none 0 0, .int .i64 x.n, .slice oa x.a.length ca] : Array Value).toList, u.oneCell' = true := by
      intro u hu
      simp at hu
      rcases hu with rfl | rfl | rfl | rfl <;> rfl
    refine vStore_new rfl rfl hone ?_
    have l6 := later_alloc w5 (.cells #[.int .i64 0, .slice none 0 0, .int .i64 x.n, .slice oa x.a.length ca] 35)
    have B6 := Blk.new w5 #[.int .i64 0, .slice none 0 0, .int .i64 x.n, .slice oa x.a.length ca] 35
    generalize w5.alloc (.cells #[.int .i64 0, .slice none 0 0, .int .i64 x.n, .slice oa x.a.length ca] 35) = w6 at *
    have b06 := l6.cell b0
    have hI : I6 x.t ∧ I6 g := ⟨⟨by have := hC.2.1; omega, by have := hC.2.2; omega⟩, hg⟩
    have hfl : flrR x.t g = (x.t - x.t % g, 0) := by unfold flrR; rw [if_pos ⟨hrt, by have := hC.2; constructor <;> omega⟩]; rfl
    repeat' (first | (simp (disch := omega) only [push_cast, ↓reduceIte, zA, zG, zB, zH, zI, zC, zJ, zK, zL, zD, zE, zF, zM, zN, zO, zP, zQ, reduceCtorEq, not_true_eq_false, not_false_eq_true, b06, addr_add_eq, Nat.zero_add]) | (first | refine vIfE_of ?_ ?_ | refine vIfD_of ?_ ?_ | refine vIfQ_of ?_ ?_ | refine vIfV_of ?_ ?_) <;> intro _ | refine And.intro (by omega) ?_ | refine drawn_q ?_ | fail)
    refine (bfloor_c x.t g w6 hI.1 hI.2).mono ?_
    rintro _ w0 ⟨rfl, h0⟩
    obtain rfl := h0.symm
    rw [hfl]
    unfold tupF
    have hfz := B6.frozen 0
    have hce : ∃ y, w6.cell? ⟨w5.heap.size, 0, none⟩ = some y := ⟨_, B6.cell 0⟩
    repeat' (first | (simp (disch := omega) only [push_cast, ↓reduceIte, zA, zG, zB, zH, zI, zC, zJ, zK, zL, zD, zE, zF, zM, zN, zO, zP, zQ, reduceCtorEq, not_true_eq_false, not_false_eq_true, hfz, hce, addr_add_eq, Nat.zero_add]) | (first | refine vIfE_of ?_ ?_ | refine vIfD_of ?_ ?_ | refine vIfQ_of ?_ ?_ | refine vIfV_of ?_ ?_) <;> intro _ | refine And.intro (by omega) ?_ | refine drawn_q ?_ | fail)
    have B7 := B6.set 0 (.int .i64 (x.t - x.t % g))
    have c7 := chg_setCell (i := 0) w6 (ks := [w5.heap.size]) (k := w5.heap.size) (by simp) (.int .i64 (x.t - x.t % g))
    have P7 : PS w5 (w6.setCell ⟨w5.heap.size, 0, none⟩ (.int .i64 (x.t - x.t % g))) w5.heap.size w5.heap.size (x.t - x.t % g) x.n (.slice oa x.a.length ca) [] := ⟨c7.later l6 (by intro j hj; rw [List.mem_singleton.1 hj]; omega), _, B7, own_nil _ _ _ _⟩
    generalize w6.setCell ⟨w5.heap.size, 0, none⟩ (.int .i64 (x.t - x.t % g)) = w7 at *
    generalize hb : w5.heap.size = b at *
    clear B6 B7 c7 hfz hce b06 b0 b2 b3 f1
    refine vc_loop W13_2 (fun k : Nat => [(72, .int .i64 (k : Int))])
      (fun k w' => k ≤ dims.length ∧ PS w5 w' b b (x.t - x.t % g) x.n (.slice oa x.a.length ca) (vals d (dims.take k) x.d)) (fun k => dims.length - k) 0 (by decide) ?_ ?_ ?_
    · simp (disch := omega) only [push_cast, ↓reduceIte, zA, zG, zB, zH, zI, zC, zJ, zK, zL, zD, zE, zF, zM, zN, zO, zP, zQ, reduceCtorEq, not_true_eq_false, not_false_eq_true]
    · exact ⟨by omega, by simpa [vals] using P7⟩
    rintro k uu3 w8 ⟨hk, P8⟩
    have l58 := P8.later
    have l48 := l5.trans l58
    have b18 := l58.cell b1
    by_cases hkl : k < dims.length
    · obtain ⟨j, hj, hjd⟩ := sub_mem hsub dims[k] (List.getElem_mem _)
      have hxl : x.d.length = d.length := hC.1.rr.2.1
      have hvt := vals_take (x := x.d) hkl hj (by omega)
      obtain ⟨ap, rfl⟩ : ∃ ap, op = some ap := by
        cases op with
        | some ap => exact ⟨ap, rfl⟩
        | none => have := (Sl.len hpS).2.2.2 rfl; simp [plc] at this; rw [this.1] at hkl; simp at hkl
      have hpk : (plc d dims)[k]'(by rw [hpln]; exact hkl) = (j : Int) := by simp [plc, hj]
      have fp := (Sl.later hpS (l4.trans l48)).atI (i := k) (by rw [hpln]; exact hkl)
      rw [hpk] at fp
      obtain ⟨_, dvc, Bc, hOc⟩ := P8
      obtain ⟨oc2, cc2, hdvc, _⟩ := StS.opn (Sl.of_own hOc)
      subst hdvc
      have f1 : w8.cell? ⟨b, 1, none⟩ = some (.slice oc2 (vals d (dims.take k) x.d).length cc2) := Bc.cell 1
      obtain ⟨ae, rfl⟩ : ∃ ae, ox = some ae := by
        cases ox with
        | some ae => exact ⟨ae, rfl⟩
        | none => have := ge3 rfl; rw [this] at hxl; simp at hxl; omega
      have hjx : j < x.d.length := by omega
      have fk := StS.atS (Sl.later hxs (l04.trans l48)) hjx
      have hvl : (vals d (dims.take k) x.d).length = k := by simp [vals]; omega
      generalize vals d (dims.take k) x.d = ds at *
      generalize x.d[j] = s at *
      repeat' (first | (simp (disch := omega) only [push_cast, ↓reduceIte, zA, zG, zB, zH, zI, zC, zJ, zK, zL, zD, zE, zF, zM, zN, zO, zP, zQ, reduceCtorEq, not_true_eq_false, not_false_eq_true, fp, f1, b18]) | (first | refine vIfE_of ?_ ?_ | refine vIfD_of ?_ ?_ | refine vIfQ_of ?_ ?_ | refine vIfV_of ?_ ?_) <;> intro _ | refine And.intro (by omega) ?_ | fail)
      refine drawn_k 8 ?_
      repeat' (first | (simp (disch := omega) only [push_cast, ↓reduceIte, zA, zG, zB, zH, zI, zC, zJ, zK, zL, zD, zE, zF, zM, zN, zO, zP, zQ, reduceCtorEq, not_true_eq_false, not_false_eq_true, f1, b18, fk, addr_add_eq, Nat.zero_add]) | (first | refine vIfE_of ?_ ?_ | refine vIfD_of ?_ ?_ | refine vIfQ_of ?_ ?_ | refine vIfV_of ?_ ?_) <;> intro _ | refine And.intro (by omega) ?_ | fail)
      refine nB_of _ (RowV w8 9 #[.string s] 1) (stb_row _ _ _ _) (fun w' hl => ?_) ?_
      · repeat' (first | (simp (disch := omega) only [push_cast, ↓reduceIte, zA, zG, zB, zH, zI, zC, zJ, zK, zL, zD, zE, zF, zM, zN, zO, zP, zQ, reduceCtorEq, not_true_eq_false, not_false_eq_true]) | (first | refine vIfE_of ?_ ?_ | refine vIfD_of ?_ ?_ | refine vIfQ_of ?_ ?_ | refine vIfV_of ?_ ?_) <;> intro _ | refine And.intro (by omega) ?_ | fail)
        exact RowV.new hl _ _ _
      repeat' (first | (simp (disch := omega) only [push_cast, ↓reduceIte, zA, zG, zB, zH, zI, zC, zJ, zK, zL, zD, zE, zF, zM, zN, zO, zP, zQ, reduceCtorEq, not_true_eq_false, not_false_eq_true]) | (first | refine vIfE_of ?_ ?_ | refine vIfD_of ?_ ?_ | refine vIfQ_of ?_ ?_ | refine vIfV_of ?_ ?_) <;> intro _ | refine And.intro (by omega) ?_ | fail)
      rintro w9 l9 _ ⟨kb, rfl, hkb, Bk⟩
      have hsl : StS w9 (.slice (some ⟨kb, 0, none⟩) 1 1) [s] := Sl.of_blk (xs := [.string s]) Bk rfl (by unfold maxLen; omega)
      have Bc9 := Bc.chg (Chg.of_later (ks := []) l9) (by simp)
      have hO9 := own_later hOc l9
      refine vAppend_ss hO9 hsl (by simp only [List.length_cons, List.length_nil]; omega) (by rw [← hb]; exact (l58.trans l9).size) ?_
      intro v' w10 ho10 hg10 _
      obtain ⟨q1, q2, q3⟩ := PS.snoc (l58.trans l9) (by omega) (by omega) Bc9 hO9 ho10 hg10
      obtain ⟨o8, c8, hv8, _⟩ := StS.opn (Sl.of_own ho10)
      subst hv8
      repeat' (first | (simp (disch := omega) only [push_cast, ↓reduceIte, zA, zG, zB, zH, zI, zC, zJ, zK, zL, zD, zE, zF, zM, zN, zO, zP, zQ, reduceCtorEq, not_true_eq_false, not_false_eq_true, q1, q2, addr_add_eq, Nat.zero_add]) | (first | refine vIfE_of ?_ ?_ | refine vIfD_of ?_ ?_ | refine vIfQ_of ?_ ?_ | refine vIfV_of ?_ ?_) <;> intro _ | refine And.intro (by omega) ?_ | refine drawn_q ?_ | fail)
      refine ⟨rfl, k + 1, by simp (disch := omega) only [push_cast, ↓reduceIte, zA, zG, zB, zH, zI, zC, zJ, zK, zL, zD, zE, zF, zM, zN, zO, zP, zQ, reduceCtorEq, not_true_eq_false, not_false_eq_true], ⟨by omega, ?_⟩, by dsimp only; omega⟩
      rw [hvt]
      exact q3
    · have e0 : k = dims.length := by omega
      subst e0
      rw [List.take_length] at P8
      have ha8 : AgS w8 (.slice oa x.a.length ca) x.a := by
        have := (hE.later (l04.trans l48)).2
        rwa [hxav] at this
      obtain ⟨z, hz, hzE, hzf, hzo, hzav, hza⟩ := P8.el ha8
      have hPz : Pz w8 x (prj d dims g x.abs) z := ⟨hz, by rw [hzav, hxav], hza, _, hzo⟩
      unfold elC at hzf
      repeat' (first | (simp (disch := omega) only [push_cast, ↓reduceIte, zA, zG, zB, zH, zI, zC, zJ, zK, zL, zD, zE, zF, zM, zN, zO, zP, zQ, reduceCtorEq, not_true_eq_false, not_false_eq_true, hzf]) | (first | refine vIfE_of ?_ ?_ | refine vIfD_of ?_ ?_ | refine vIfQ_of ?_ ?_ | refine vIfV_of ?_ ?_) <;> intro _ | refine And.intro (by omega) ?_ | refine drawn_q ?_ | fail)
      have la := later_alloc w8 (.cells #[.int .i64 z.t, z.dv, .int .i64 z.n, z.av] 35)
      have Bl := Blk.new w8 #[.int .i64 z.t, z.dv, .int .i64 z.n, z.av] 35
      have l4a := l48.trans la
      have hO8 := hO.later l4a
      refine vAppend_e (r := [z]) hO8 (RecS.lit1 (elC_len z) Bl) (by intro q hq; rw [List.mem_singleton.1 hq]; exact hzE.later la) (by simp only [List.length_cons, List.length_nil]; omega) (l4.trans l4a).size ?_
      intro v' w10 ho10 hg10 _
      have l10 := (l4.trans l4a).appended hO8 (Nat.le_refl _) hg10
      repeat' (first | (simp (disch := omega) only [push_cast, ↓reduceIte, zA, zG, zB, zH, zI, zC, zJ, zK, zL, zD, zE, zF, zM, zN, zO, zP, zQ, reduceCtorEq, not_true_eq_false, not_false_eq_true]) | (first | refine vIfE_of ?_ ?_ | refine vIfD_of ?_ ?_ | refine vIfQ_of ?_ ?_ | refine vIfV_of ?_ ?_) <;> intro _ | refine And.intro (by omega) ?_ | refine drawn_q ?_ | fail)
      refine ⟨rfl, (i + 1, v'), by simp (disch := omega) only [push_cast, ↓reduceIte, zA, zG, zB, zH, zI, zC, zJ, zK, zL, zD, zE, zF, zM, zN, zO, zP, zQ, reduceCtorEq, not_true_eq_false, not_false_eq_true], ⟨by dsimp only; omega, l10, os ++ [z], ho10, by dsimp only; rw [htk, List.map_append, hos, List.map_singleton, hz]; rfl, fun q hq => ?_⟩, by dsimp only; omega⟩
      rcases List.mem_append.1 hq with hq | hq
      · obtain ⟨y, hy, hP'⟩ := hZ q hq
        exact ⟨y, hy, (hP'.later l4a).grown hO8 hg10⟩
      · rw [List.mem_singleton.1 hq]
        exact ⟨x, hxm, (hPz.later la).grown hO8 hg10⟩
  · have e0 : i = l.length := by omega
    subst e0
    rw [List.take_length] at hos
    have hgd : ∀ z ∈ os, EIs w4 z ∧ Gd dims.length A z.abs := fun z hz => by
      obtain ⟨y, hy, hP'⟩ := hZ z hz
      refine ⟨hP'.is ((hes y hy).1.later l04), ?_⟩
      have : z.abs ∈ (l.map El.abs).map (prj d dims g) := by rw [← hos]; exact List.mem_map_of_mem hz
      obtain ⟨q, hq, hqe⟩ := List.mem_map.1 this
      obtain ⟨x, hx, rfl⟩ := List.mem_map.1 hq
      rw [← hqe]
      exact prj_gd (hes x hx).2.1 hdl
    repeat' (first | (simp (disch := omega) only [push_cast, ↓reduceIte, zA, zG, zB, zH, zI, zC, zJ, zK, zL, zD, zE, zF, zM, zN, zO, zP, zQ, reduceCtorEq, not_true_eq_false, not_false_eq_true]) | (first | refine vIfE_of ?_ ?_ | refine vIfD_of ?_ ?_ | refine vIfQ_of ?_ ?_ | refine vIfV_of ?_ ?_) <;> intro _ | refine And.intro (by omega) ?_ | refine drawn_q ?_ | fail)
    refine (rfold_c dims.length A _ os w4 (OwnR.s hO) hgd (by omega)).mono ?_
    rintro _ w5 ⟨vv, e, rfl, hf, l5⟩
    rw [hos] at hf
    have hf' : FoldR dims.length A w5 w.heap.size vv e ((l.map El.abs).map (prj d dims g)) := by
      rcases hf with hf | ⟨h1, es, h2, h3, h4⟩
      · exact .inl hf
      · exact .inr ⟨h1, es, OwnR.base h2 l04.size, h3, fun z hz => ⟨(h4 z hz).1.base l04.size, (h4 z hz).2⟩⟩
    have hr : PrjR (.tuple #[vv, .int .i64 e]) d dims g (fun vv e => FoldR dims.length A w5 w.heap.size vv e ((l.map El.abs).map (prj d dims g))) := ⟨_, _, rfl, .inr (.inr ⟨hsub, hrt, hf'⟩)⟩
    repeat' (first | (simp (disch := omega) only [push_cast, ↓reduceIte, zA, zG, zB, zH, zI, zC, zJ, zK, zL, zD, zE, zF, zM, zN, zO, zP, zQ, reduceCtorEq, not_true_eq_false, not_false_eq_true]) | (first | refine vIfE_of ?_ ?_ | refine vIfD_of ?_ ?_ | refine vIfQ_of ?_ ?_ | refine vIfV_of ?_ ?_) <;> intro _ | refine And.intro (by omega) ?_ | refine drawn_q ?_ | fail)
    first | exact ⟨hr, (l04.trans l5)⟩ | exact (l04.trans l5)
end Go.Proofs.Ythihbgpaoldbjaa
end
section
namespace Go.Proofs.Ythihbgpaoldbjaa
open Go.Vc
set_option maxRecDepth 100000
variable (Q : Post) (ds : List Deferred) (σ : Env) (w : World)
/-! 3 columbary/columbarylaw14.CuboidSame (params #[24, 25, 3], results #[(.tmp 6)], 83 slots) -/
def W3_0 : List Nat := [6, 15, 55, 56, 57, 58, 59, 60, 61, 62, 63, 64, 65, 66, 67, 68, 69, 70, 71, 72, 73, 74]
@[push_cast] theorem W3_0_def : W3_0 = [6, 15, 55, 56, 57, 58, 59, 60, 61, 62, 63, 64, 65, 66, 67, 68, 69, 70, 71, 72, 73, 74] := mk_eq rfl
def r3_0 : List VOp :=
  [⟨some 3, .box 24 (.tmp 0), 0, none⟩,
   ⟨some 6, .assign (.const (.bool false)), 4, none⟩]
def r3_1 : List VOp :=
  [lda 16 24 3,
   mv 17 1 25,
   ⟨some 18, .call ⟨.value (.func 11), #[.tmp 16, .tmp 17], #[24, 25]⟩, 4, none⟩,
   asg 7 18 4]
def r3_2 : List VOp :=
  [mv 19 7 4,
   ⟨some 20, .unOp .not 4 (.tmp 19), 4, none⟩]
def r3_3 : List VOp :=
  [⟨some 21, .call ⟨.value (.func 12), #[], #[]⟩, 4, none⟩,
   asg 6 21 4]
def r3_4 : List VOp :=
  [lda 23 24 3,
   mv 24 1 25,
   fad 25 24 3 0,
   lda 26 22 25,
   ⟨some 27, .call ⟨.value (.func 13), #[(.tmp 23), (.tmp 24), (.tmp 26), (.const (.int .i64 1))], #[24, 25, 22, 3]⟩, 29, none⟩,
   mv 22 27 29,
   ext 28 22 0 25,
   ext 29 22 1 28,
   asg 8 28 25,
   asg 9 29 28]
def r3_5 : List VOp :=
  [mv 31 1 25,
   ⟨some 32, .call ⟨.value (.func 14), #[.tmp 31], #[25]⟩, 29, none⟩,
   mv 30 32 29,
   ext 33 30 0 25,
   ext 34 30 1 28,
   asg 10 33 25,
   asg 11 34 28]
def r3_6 : List VOp :=
  [mv 35 8 25,
   mv 36 10 25,
   ⟨some 37, .call ⟨.value (.func 15), #[.tmp 35, .tmp 36], #[25, 25]⟩, 4, none⟩,
   asg 12 37 4]
def r3_7 : List VOp :=
  [mv 38 9 28,
   mv 39 11 28,
   ⟨some 40, .binOp .neq 28 (.tmp 38) (.tmp 39) 28, 4, none⟩,
   mv 41 40 4,
   ⟨some 42, .move (.tmp 12), 4, some (41, false)⟩,
   ⟨some 43, .unOp .not 4 (.tmp 42), 4, some (41, false)⟩,
   ⟨some 44, .pick (.tmp 41) (.const (.bool true)) (.tmp 43), 4, none⟩]
def r3_8 : List VOp :=
  [⟨some 6, .assign (.const (.bool false)), 4, none⟩]
def r3_9 : List VOp :=
  [lda 46 24 3,
   mv 47 1 25,
   mv 48 2 3,
   ⟨some 49, .call ⟨.value (.func 13), #[(.tmp 46), (.tmp 47), (.const (.slice none 0 0)), .tmp 48], #[24, 25, 22, 3]⟩, 29, none⟩,
   mv 45 49 29,
   ext 50 45 0 25,
   ext 51 45 1 28,
   asg 13 50 25,
   asg 14 51 28]
def r3_10 : List VOp :=
  [mv 52 14 28,
   ⟨some 53, .binOp .neq 28 (.tmp 52) (.const (.int .i64 0)) 28, 4, none⟩]
def r3_11 : List VOp :=
  [⟨some 54, .call ⟨.value (.func 12), #[], #[]⟩, 4, none⟩,
   asg 6 54 4]
def r3_12 : List VOp :=
  [⟨some 15, .assign (.const (.int .i64 1)), 3, none⟩]
def r3_13 : List VOp :=
  [mv 55 15 3,
   mv 56 13 25,
   ⟨some 57, .call ⟨.builtin .len, #[.tmp 56], #[25]⟩, 3, none⟩,
   ⟨some 58, .binOp .lss 3 (.tmp 55) (.tmp 57) 3, 4, none⟩]
def r3_15 : List VOp :=
  [mv 61 13 25,
   mv 62 15 3,
   iad 63 25 61 62,
   fad 64 35 63 0,
   lda 65 3 64,
   mv 66 13 25,
   mv 67 15 3,
   ⟨some 68, .binOp .sub 3 (.tmp 67) (.const (.int .i64 1)) 3, 3, none⟩,
   iad 69 25 66 68,
   fad 70 35 69 0,
   lda 71 3 70,
   mv 72 2 3,
   ⟨some 73, .binOp .add 3 (.tmp 71) (.tmp 72) 3, 3, none⟩,
   ⟨some 74, .binOp .lss 3 (.tmp 65) (.tmp 73) 3, 4, none⟩]
def r3_16 : List VOp :=
  [⟨some 6, .assign (.const (.bool false)), 4, none⟩]
def r3_14 : List VOp :=
  [mv 59 15 3,
   ⟨some 60, .binOp .add 3 (.tmp 59) (.const (.int .i64 1)) 3, 3, none⟩,
   asg 15 60 3]
def r3_17 : List VOp :=
  [⟨some 75, .call ⟨.value (.func 12), #[], #[]⟩, 4, none⟩,
   mv 76 75 4,
   ⟨some 77, .move (.tmp 13), 25, some (76, true)⟩,
   ⟨some 78, .call ⟨.builtin .len, #[.tmp 77], #[25]⟩, 3, some (76, true)⟩,
   ⟨some 79, .move (.tmp 1), 25, some (76, true)⟩,
   ⟨some 80, .call ⟨.builtin .len, #[.tmp 79], #[25]⟩, 3, some (76, true)⟩,
   ⟨some 81, .binOp .leq 3 (.tmp 78) (.tmp 80) 3, 4, some (76, true)⟩,
   ⟨some 82, .pick (.tmp 76) (.tmp 81) (.const (.bool false)), 4, none⟩,
   asg 6 82 4]
def B3 : VC :=
  (.seq (.region r3_0) (.seq (.region r3_1) (.seq (.seq (.region r3_2) (.cond (.tmp 20) (.seq (.region r3_3) .ret) .skip)) (.seq (.region r3_4) (.seq (.region r3_5) (.seq (.region r3_6) (.seq (.seq (.region r3_7) (.cond (.tmp 44) (.seq (.region r3_8) .ret) .skip)) (.seq (.region r3_9) (.seq (.seq (.region r3_10) (.cond (.tmp 53) (.seq (.region r3_11) .ret) .skip)) (.seq (.seq (.region r3_12) (.block 0 (.loop (.seq (.seq (.region r3_13) (.cond (.tmp 58) .skip (.exit 0))) (.seq (.block 1 (.seq (.draw r3_15 2) (.cond (.tmp 74) (.seq (.region r3_16) .ret) .skip))) (.region r3_14)))))) (.seq (.region r3_17) .ret)))))))))))
theorem code3 : ∃ c, Try.f3.body = some c ∧ abs Try.f3.ntmps c = B3 := ⟨_, rfl, by kernel_rfl⟩
theorem hb3 : HasBody Try.prog 3 := hasBody_of Try.func3 (by kernel_rfl)
theorem res3 : Try.f3.results = #[(.tmp 6)] := rfl
theorem enter3 {w : World} {R : Value → World → Prop} (x0 x1 x2 : Value) (h : vc Try.prog B3 (retK Try.prog #[(.tmp 6)] R) [] (initEnv [x0, x1, x2] 0) w) : FnC Try.prog 3 #[x0, x1, x2] w R := by
  obtain ⟨c, h1, h2⟩ := code3
  exact hb3.fn (ret_of_vc mixed Try.func3 h1 (Nat.le_of_ble_eq_true rfl) B3 h2 h)
@[push_cast] theorem vr3_0 : VR r3_0 [⟨some 3, .box 24 (.tmp 0), 0, none⟩, ⟨some 6, .assign (.const (.bool false)), 4, none⟩] := vR rfl
@[push_cast] theorem vr3_1 : VR r3_1 [⟨some 16, .load 24 (.tmp 3), 24, none⟩, ⟨some 17, .move (.tmp 1), 25, none⟩, ⟨some 18, .call ⟨.value (.func 11), #[.tmp 16, .tmp 17], #[24, 25]⟩, 4, none⟩, ⟨some 7, .assign (.tmp 18), 4, none⟩] := vR rfl
@[push_cast] theorem vr3_2 : VR r3_2 [⟨some 19, .move (.tmp 7), 4, none⟩, ⟨some 20, .unOp .not 4 (.tmp 19), 4, none⟩] := vR rfl
@[push_cast] theorem vr3_3 : VR r3_3 [⟨some 21, .call ⟨.value (.func 12), #[], #[]⟩, 4, none⟩, ⟨some 6, .assign (.tmp 21), 4, none⟩] := vR rfl
@[push_cast] theorem vr3_4 : VR r3_4 [⟨some 23, .load 24 (.tmp 3), 24, none⟩, ⟨some 24, .move (.tmp 1), 25, none⟩, ⟨some 25, .fieldAddr 24 (.tmp 3) 0, 0, none⟩, ⟨some 26, .load 22 (.tmp 25), 22, none⟩, ⟨some 27, .call ⟨.value (.func 13), #[(.tmp 23), (.tmp 24), (.tmp 26), (.const (.int .i64 1))], #[24, 25, 22, 3]⟩, 29, none⟩, ⟨some 22, .move (.tmp 27), 29, none⟩, ⟨some 28, .extract (.tmp 22) 0, 25, none⟩, ⟨some 29, .extract (.tmp 22) 1, 28, none⟩, ⟨some 8, .assign (.tmp 28), 25, none⟩, ⟨some 9, .assign (.tmp 29), 28, none⟩] := vR rfl
@[push_cast] theorem vr3_5 : VR r3_5 [⟨some 31, .move (.tmp 1), 25, none⟩, ⟨some 32, .call ⟨.value (.func 14), #[.tmp 31], #[25]⟩, 29, none⟩, ⟨some 30, .move (.tmp 32), 29, none⟩, ⟨some 33, .extract (.tmp 30) 0, 25, none⟩, ⟨some 34, .extract (.tmp 30) 1, 28, none⟩, ⟨some 10, .assign (.tmp 33), 25, none⟩, ⟨some 11, .assign (.tmp 34), 28, none⟩] := vR rfl
@[push_cast] theorem vr3_6 : VR r3_6 [⟨some 35, .move (.tmp 8), 25, none⟩, ⟨some 36, .move (.tmp 10), 25, none⟩, ⟨some 37, .call ⟨.value (.func 15), #[.tmp 35, .tmp 36], #[25, 25]⟩, 4, none⟩, ⟨some 12, .assign (.tmp 37), 4, none⟩] := vR rfl
@[push_cast] theorem vr3_7 : VR r3_7 [⟨some 38, .move (.tmp 9), 28, none⟩, ⟨some 39, .move (.tmp 11), 28, none⟩, ⟨some 40, .binOp .neq 28 (.tmp 38) (.tmp 39) 28, 4, none⟩, ⟨some 41, .move (.tmp 40), 4, none⟩, ⟨some 42, .move (.tmp 12), 4, some (41, false)⟩, ⟨some 43, .unOp .not 4 (.tmp 42), 4, some (41, false)⟩, ⟨some 44, .pick (.tmp 41) (.const (.bool true)) (.tmp 43), 4, none⟩] := vR rfl
@[push_cast] theorem vr3_8 : VR r3_8 [⟨some 6, .assign (.const (.bool false)), 4, none⟩] := vR rfl
@[push_cast] theorem vr3_9 : VR r3_9 [⟨some 46, .load 24 (.tmp 3), 24, none⟩, ⟨some 47, .move (.tmp 1), 25, none⟩, ⟨some 48, .move (.tmp 2), 3, none⟩, ⟨some 49, .call ⟨.value (.func 13), #[(.tmp 46), (.tmp 47), (.const (.slice none 0 0)), .tmp 48], #[24, 25, 22, 3]⟩, 29, none⟩, ⟨some 45, .move (.tmp 49), 29, none⟩, ⟨some 50, .extract (.tmp 45) 0, 25, none⟩, ⟨some 51, .extract (.tmp 45) 1, 28, none⟩, ⟨some 13, .assign (.tmp 50), 25, none⟩, ⟨some 14, .assign (.tmp 51), 28, none⟩] := vR rfl
@[push_cast] theorem vr3_10 : VR r3_10 [⟨some 52, .move (.tmp 14), 28, none⟩, ⟨some 53, .binOp .neq 28 (.tmp 52) (.const (.int .i64 0)) 28, 4, none⟩] := vR rfl
@[push_cast] theorem vr3_11 : VR r3_11 [⟨some 54, .call ⟨.value (.func 12), #[], #[]⟩, 4, none⟩, ⟨some 6, .assign (.tmp 54), 4, none⟩] := vR rfl
@[push_cast] theorem vr3_12 : VR r3_12 [⟨some 15, .assign (.const (.int .i64 1)), 3, none⟩] := vR rfl
@[push_cast] theorem vr3_13 : VR r3_13 [⟨some 55, .move (.tmp 15), 3, none⟩, ⟨some 56, .move (.tmp 13), 25, none⟩, ⟨some 57, .call ⟨.builtin .len, #[.tmp 56], #[25]⟩, 3, none⟩, ⟨some 58, .binOp .lss 3 (.tmp 55) (.tmp 57) 3, 4, none⟩] := vR rfl
@[push_cast] theorem vr3_15 : vc Try.prog (.draw r3_15 2) Q ds σ w = drawn Try.prog [(⟨some 61, .move (.tmp 13), 25, none⟩, [13]), (⟨some 62, .move (.tmp 15), 3, none⟩, [15]), (⟨some 63, .indexAddr 25 (.tmp 61) (.tmp 62), 0, none⟩, [61, 62]), (⟨some 64, .fieldAddr 35 (.tmp 63) 0, 0, none⟩, [63]), (⟨some 65, .load 3 (.tmp 64), 3, none⟩, [64]), (⟨some 66, .move (.tmp 13), 25, none⟩, [13]), (⟨some 67, .move (.tmp 15), 3, none⟩, [15]), (⟨some 68, .binOp .sub 3 (.tmp 67) (.const (.int .i64 1)) 3, 3, none⟩, [67]), (⟨some 69, .indexAddr 25 (.tmp 66) (.tmp 68), 0, none⟩, [66, 68]), (⟨some 70, .fieldAddr 35 (.tmp 69) 0, 0, none⟩, [69]), (⟨some 71, .load 3 (.tmp 70), 3, none⟩, [70]), (⟨some 72, .move (.tmp 2), 3, none⟩, [2]), (⟨some 73, .binOp .add 3 (.tmp 71) (.tmp 72) 3, 3, none⟩, [71, 72]), (⟨some 74, .binOp .lss 3 (.tmp 65) (.tmp 73) 3, 4, none⟩, [65, 73])] 2 (Q .normal ds) σ w := mk_eq rfl
@[push_cast] theorem vr3_16 : VR r3_16 [⟨some 6, .assign (.const (.bool false)), 4, none⟩] := vR rfl
@[push_cast] theorem vr3_14 : VR r3_14 [⟨some 59, .move (.tmp 15), 3, none⟩, ⟨some 60, .binOp .add 3 (.tmp 59) (.const (.int .i64 1)) 3, 3, none⟩, ⟨some 15, .assign (.tmp 60), 3, none⟩] := vR rfl
@[push_cast] theorem vr3_17 : VR r3_17 [⟨some 75, .call ⟨.value (.func 12), #[], #[]⟩, 4, none⟩, ⟨some 76, .move (.tmp 75), 4, none⟩, ⟨some 77, .move (.tmp 13), 25, some (76, true)⟩, ⟨some 78, .call ⟨.builtin .len, #[.tmp 77], #[25]⟩, 3, some (76, true)⟩, ⟨some 79, .move (.tmp 1), 25, some (76, true)⟩, ⟨some 80, .call ⟨.builtin .len, #[.tmp 79], #[25]⟩, 3, some (76, true)⟩, ⟨some 81, .binOp .leq 3 (.tmp 78) (.tmp 80) 3, 4, some (76, true)⟩, ⟨some 82, .pick (.tmp 76) (.tmp 81) (.const (.bool false)), 4, none⟩, ⟨some 6, .assign (.tmp 82), 4, none⟩] := vR rfl
/-! 4 columbary/columbarylaw14.CuboidParts (params #[24, 25, 38], results #[(.tmp 6)], 117 slots) -/
def r4_0 : List VOp :=
  [⟨some 3, .box 24 (.tmp 0), 0, none⟩,
   ⟨some 5, .box 38 (.tmp 2), 0, none⟩,
   ⟨some 6, .assign (.const (.bool false)), 4, none⟩]
def r4_1 : List VOp :=
  [lda 19 24 3,
   mv 20 1 25,
   ⟨some 21, .call ⟨.value (.func 11), #[.tmp 19, .tmp 20], #[24, 25]⟩, 4, none⟩,
   asg 7 21 4]
def r4_2 : List VOp :=
  [fad 22 38 5 0,
   lda 23 22 22,
   ⟨some 24, .call ⟨.value (.func 16), #[.tmp 23], #[22]⟩, 4, none⟩,
   asg 8 24 4]
def r4_3 : List VOp :=
  [mv 25 7 4,
   ⟨some 26, .unOp .not 4 (.tmp 25), 4, none⟩,
   mv 27 26 4,
   ⟨some 28, .move (.tmp 8), 4, some (27, false)⟩,
   ⟨some 29, .unOp .not 4 (.tmp 28), 4, some (27, false)⟩,
   ⟨some 30, .pick (.tmp 27) (.const (.bool true)) (.tmp 29), 4, none⟩,
   mv 31 30 4,
   ⟨some 32, .fieldAddr 38 (.tmp 5) 1, 0, some (31, false)⟩,
   ⟨some 33, .load 3 (.tmp 32), 3, some (31, false)⟩,
   ⟨some 34, .binOp .lss 3 (.tmp 33) (.const (.int .i64 1)) 3, 4, some (31, false)⟩,
   ⟨some 35, .pick (.tmp 31) (.const (.bool true)) (.tmp 34), 4, none⟩,
   mv 36 35 4,
   ⟨some 37, .fieldAddr 38 (.tmp 5) 1, 0, some (36, false)⟩,
   ⟨some 38, .load 3 (.tmp 37), 3, some (36, false)⟩,
   ⟨some 39, .binOp .gtr 3 (.tmp 38) (.const (.int .i64 1000)) 3, 4, some (36, false)⟩,
   ⟨some 40, .pick (.tmp 36) (.const (.bool true)) (.tmp 39), 4, none⟩]
def r4_4 : List VOp :=
  [⟨some 41, .call ⟨.value (.func 12), #[], #[]⟩, 4, none⟩,
   asg 6 41 4]
def r4_5 : List VOp :=
  [fad 42 38 5 1,
   lda 43 3 42,
   fad 44 38 5 2,
   lda 45 3 44,
   ⟨some 46, .binOp .and 3 (.tmp 45) (.const (.int .i64 1023)) 3, 3, none⟩,
   ⟨some 47, .binOp .mul 3 (.tmp 43) (.tmp 46) 3, 3, none⟩,
   asg 9 47 3]
def r4_6 : List VOp :=
  [mv 49 1 25,
   mv 50 9 3,
   ⟨some 51, .call ⟨.value (.func 17), #[.tmp 49, .tmp 50], #[25, 3]⟩, 40, none⟩,
   mv 48 51 40,
   ext 52 48 0 25,
   ext 53 48 1 25,
   asg 10 52 25,
   asg 11 53 25]
def r4_7 : List VOp :=
  [lda 55 24 3,
   mv 56 10 25,
   fad 57 38 5 0,
   lda 58 22 57,
   fad 59 38 5 1,
   lda 60 3 59,
   ⟨some 61, .call ⟨.value (.func 13), #[.tmp 55, .tmp 56, .tmp 58, .tmp 60], #[24, 25, 22, 3]⟩, 29, none⟩,
   mv 54 61 29,
   ext 62 54 0 25,
   ext 63 54 1 28,
   asg 12 62 25,
   asg 13 63 28]
def r4_8 : List VOp :=
  [lda 65 24 3,
   mv 66 11 25,
   fad 67 38 5 0,
   lda 68 22 67,
   fad 69 38 5 1,
   lda 70 3 69,
   ⟨some 71, .call ⟨.value (.func 13), #[.tmp 65, .tmp 66, .tmp 68, .tmp 70], #[24, 25, 22, 3]⟩, 29, none⟩,
   mv 64 71 29,
   ext 72 64 0 25,
   ext 73 64 1 28,
   asg 14 72 25,
   asg 15 73 28]
def r4_9 : List VOp :=
  [lda 75 24 3,
   mv 76 1 25,
   fad 77 38 5 0,
   lda 78 22 77,
   fad 79 38 5 1,
   lda 80 3 79,
   ⟨some 81, .call ⟨.value (.func 13), #[.tmp 75, .tmp 76, .tmp 78, .tmp 80], #[24, 25, 22, 3]⟩, 29, none⟩,
   mv 74 81 29,
   ext 82 74 0 25,
   ext 83 74 1 28,
   asg 16 82 25,
   asg 17 83 28]
def r4_10 : List VOp :=
  [mv 84 13 28,
   ⟨some 85, .binOp .neq 28 (.tmp 84) (.const (.int .i64 0)) 28, 4, none⟩,
   mv 86 85 4,
   ⟨some 87, .move (.tmp 15), 28, some (86, false)⟩,
   ⟨some 88, .binOp .neq 28 (.tmp 87) (.const (.int .i64 0)) 28, 4, some (86, false)⟩,
   ⟨some 89, .pick (.tmp 86) (.const (.bool true)) (.tmp 88), 4, none⟩,
   mv 90 89 4,
   ⟨some 91, .move (.tmp 17), 28, some (90, false)⟩,
   ⟨some 92, .binOp .neq 28 (.tmp 91) (.const (.int .i64 0)) 28, 4, some (90, false)⟩,
   ⟨some 93, .pick (.tmp 90) (.const (.bool true)) (.tmp 92), 4, none⟩]
def r4_11 : List VOp :=
  [⟨some 94, .call ⟨.value (.func 12), #[], #[]⟩, 4, none⟩,
   mv 95 94 4,
   ⟨some 96, .move (.tmp 17), 28, some (95, true)⟩,
   ⟨some 97, .binOp .neq 28 (.tmp 96) (.const (.int .i64 0)) 28, 4, some (95, true)⟩,
   ⟨some 98, .move (.tmp 13), 28, some (95, true)⟩,
   ⟨some 99, .binOp .neq 28 (.tmp 98) (.const (.int .i64 0)) 28, 4, some (95, true)⟩,
   ⟨some 100, .move (.tmp 99), 4, some (95, true)⟩,
   ⟨some 101, .move (.tmp 15), 28, some (100, false)⟩,
   ⟨some 102, .binOp .neq 28 (.tmp 101) (.const (.int .i64 0)) 28, 4, some (100, false)⟩,
   ⟨some 103, .pick (.tmp 100) (.const (.bool true)) (.tmp 102), 4, some (95, true)⟩,
   ⟨some 104, .binOp .eql 4 (.tmp 97) (.tmp 103) 4, 4, some (95, true)⟩,
   ⟨some 105, .pick (.tmp 95) (.tmp 104) (.const (.bool false)), 4, none⟩,
   asg 6 105 4]
def r4_12 : List VOp :=
  [⟨some 106, .buildSlice 25 0 #[], 25, none⟩,
   mv 107 12 25,
   ⟨some 108, .call ⟨.builtin .append, #[.tmp 106, .tmp 107], #[25, 25]⟩, 25, none⟩,
   mv 109 14 25,
   ⟨some 110, .call ⟨.builtin .append, #[.tmp 108, .tmp 109], #[25, 25]⟩, 25, none⟩,
   mv 111 16 25,
   ⟨some 112, .call ⟨.value (.func 15), #[.tmp 110, .tmp 111], #[25, 25]⟩, 4, none⟩,
   asg 18 112 4]
def r4_13 : List VOp :=
  [⟨some 113, .call ⟨.value (.func 12), #[], #[]⟩, 4, none⟩,
   mv 114 113 4,
   ⟨some 115, .move (.tmp 18), 4, some (114, true)⟩,
   ⟨some 116, .pick (.tmp 114) (.tmp 115) (.const (.bool false)), 4, none⟩,
   asg 6 116 4]
def B4 : VC :=
  (.seq (.region r4_0) (.seq (.region r4_1) (.seq (.region r4_2) (.seq (.seq (.region r4_3) (.cond (.tmp 40) (.seq (.region r4_4) .ret) .skip)) (.seq (.region r4_5) (.seq (.region r4_6) (.seq (.region r4_7) (.seq (.region r4_8) (.seq (.region r4_9) (.seq (.seq (.region r4_10) (.cond (.tmp 93) (.seq (.region r4_11) .ret) .skip)) (.seq (.region r4_12) (.seq (.region r4_13) .ret))))))))))))
theorem code4 : ∃ c, Try.f4.body = some c ∧ abs Try.f4.ntmps c = B4 := ⟨_, rfl, by kernel_rfl⟩
theorem hb4 : HasBody Try.prog 4 := hasBody_of Try.func4 (by kernel_rfl)
theorem res4 : Try.f4.results = #[(.tmp 6)] := rfl
theorem enter4 {w : World} {R : Value → World → Prop} (x0 x1 x2 : Value) (h : vc Try.prog B4 (retK Try.prog #[(.tmp 6)] R) [] (initEnv [x0, x1, x2] 0) w) : FnC Try.prog 4 #[x0, x1, x2] w R := by
  obtain ⟨c, h1, h2⟩ := code4
  exact hb4.fn (ret_of_vc mixed Try.func4 h1 (Nat.le_of_ble_eq_true rfl) B4 h2 h)
@[push_cast] theorem vr4_0 : VR r4_0 [⟨some 3, .box 24 (.tmp 0), 0, none⟩, ⟨some 5, .box 38 (.tmp 2), 0, none⟩, ⟨some 6, .assign (.const (.bool false)), 4, none⟩] := vR rfl
@[push_cast] theorem vr4_1 : VR r4_1 [⟨some 19, .load 24 (.tmp 3), 24, none⟩, ⟨some 20, .move (.tmp 1), 25, none⟩, ⟨some 21, .call ⟨.value (.func 11), #[.tmp 19, .tmp 20], #[24, 25]⟩, 4, none⟩, ⟨some 7, .assign (.tmp 21), 4, none⟩] := vR rfl
@[push_cast] theorem vr4_2 : VR r4_2 [⟨some 22, .fieldAddr 38 (.tmp 5) 0, 0, none⟩, ⟨some 23, .load 22 (.tmp 22), 22, none⟩, ⟨some 24, .call ⟨.value (.func 16), #[.tmp 23], #[22]⟩, 4, none⟩, ⟨some 8, .assign (.tmp 24), 4, none⟩] := vR rfl
@[push_cast] theorem vr4_3 : VR r4_3 [⟨some 25, .move (.tmp 7), 4, none⟩, ⟨some 26, .unOp .not 4 (.tmp 25), 4, none⟩, ⟨some 27, .move (.tmp 26), 4, none⟩, ⟨some 28, .move (.tmp 8), 4, some (27, false)⟩, ⟨some 29, .unOp .not 4 (.tmp 28), 4, some (27, false)⟩, ⟨some 30, .pick (.tmp 27) (.const (.bool true)) (.tmp 29), 4, none⟩, ⟨some 31, .move (.tmp 30), 4, none⟩, ⟨some 32, .fieldAddr 38 (.tmp 5) 1, 0, some (31, false)⟩, ⟨some 33, .load 3 (.tmp 32), 3, some (31, false)⟩, ⟨some 34, .binOp .lss 3 (.tmp 33) (.const (.int .i64 1)) 3, 4, some (31, false)⟩, ⟨some 35, .pick (.tmp 31) (.const (.bool true)) (.tmp 34), 4, none⟩, ⟨some 36, .move (.tmp 35), 4, none⟩, ⟨some 37, .fieldAddr 38 (.tmp 5) 1, 0, some (36, false)⟩, ⟨some 38, .load 3 (.tmp 37), 3, some (36, false)⟩, ⟨some 39, .binOp .gtr 3 (.tmp 38) (.const (.int .i64 1000)) 3, 4, some (36, false)⟩, ⟨some 40, .pick (.tmp 36) (.const (.bool true)) (.tmp 39), 4, none⟩] := vR rfl
@[push_cast] theorem vr4_4 : VR r4_4 [⟨some 41, .call ⟨.value (.func 12), #[], #[]⟩, 4, none⟩, ⟨some 6, .assign (.tmp 41), 4, none⟩] := vR rfl
@[push_cast] theorem vr4_5 : VR r4_5 [⟨some 42, .fieldAddr 38 (.tmp 5) 1, 0, none⟩, ⟨some 43, .load 3 (.tmp 42), 3, none⟩, ⟨some 44, .fieldAddr 38 (.tmp 5) 2, 0, none⟩, ⟨some 45, .load 3 (.tmp 44), 3, none⟩, ⟨some 46, .binOp .and 3 (.tmp 45) (.const (.int .i64 1023)) 3, 3, none⟩, ⟨some 47, .binOp .mul 3 (.tmp 43) (.tmp 46) 3, 3, none⟩, ⟨some 9, .assign (.tmp 47), 3, none⟩] := vR rfl
@[push_cast] theorem vr4_6 : VR r4_6 [⟨some 49, .move (.tmp 1), 25, none⟩, ⟨some 50, .move (.tmp 9), 3, none⟩, ⟨some 51, .call ⟨.value (.func 17), #[.tmp 49, .tmp 50], #[25, 3]⟩, 40, none⟩, ⟨some 48, .move (.tmp 51), 40, none⟩, ⟨some 52, .extract (.tmp 48) 0, 25, none⟩, ⟨some 53, .extract (.tmp 48) 1, 25, none⟩, ⟨some 10, .assign (.tmp 52), 25, none⟩, ⟨some 11, .assign (.tmp 53), 25, none⟩] := vR rfl
@[push_cast] theorem vr4_7 : VR r4_7 [⟨some 55, .load 24 (.tmp 3), 24, none⟩, ⟨some 56, .move (.tmp 10), 25, none⟩, ⟨some 57, .fieldAddr 38 (.tmp 5) 0, 0, none⟩, ⟨some 58, .load 22 (.tmp 57), 22, none⟩, ⟨some 59, .fieldAddr 38 (.tmp 5) 1, 0, none⟩, ⟨some 60, .load 3 (.tmp 59), 3, none⟩, ⟨some 61, .call ⟨.value (.func 13), #[.tmp 55, .tmp 56, .tmp 58, .tmp 60], #[24, 25, 22, 3]⟩, 29, none⟩, ⟨some 54, .move (.tmp 61), 29, none⟩, ⟨some 62, .extract (.tmp 54) 0, 25, none⟩, ⟨some 63, .extract (.tmp 54) 1, 28, none⟩, ⟨some 12, .assign (.tmp 62), 25, none⟩, ⟨some 13, .assign (.tmp 63), 28, none⟩] := vR rfl
@[push_cast] theorem vr4_8 : VR r4_8 [⟨some 65, .load 24 (.tmp 3), 24, none⟩, ⟨some 66, .move (.tmp 11), 25, none⟩, ⟨some 67, .fieldAddr 38 (.tmp 5) 0, 0, none⟩, ⟨some 68, .load 22 (.tmp 67), 22, none⟩, ⟨some 69, .fieldAddr 38 (.tmp 5) 1, 0, none⟩, ⟨some 70, .load 3 (.tmp 69), 3, none⟩, ⟨some 71, .call ⟨.value (.func 13), #[.tmp 65, .tmp 66, .tmp 68, .tmp 70], #[24, 25, 22, 3]⟩, 29, none⟩, ⟨some 64, .move (.tmp 71), 29, none⟩, ⟨some 72, .extract (.tmp 64) 0, 25, none⟩, ⟨some 73, .extract (.tmp 64) 1, 28, none⟩, ⟨some 14, .assign (.tmp 72), 25, none⟩, ⟨some 15, .assign (.tmp 73), 28, none⟩] := vR rfl
@[push_cast] theorem vr4_9 : VR r4_9 [⟨some 75, .load 24 (.tmp 3), 24, none⟩, ⟨some 76, .move (.tmp 1), 25, none⟩, ⟨some 77, .fieldAddr 38 (.tmp 5) 0, 0, none⟩, ⟨some 78, .load 22 (.tmp 77), 22, none⟩, ⟨some 79, .fieldAddr 38 (.tmp 5) 1, 0, none⟩, ⟨some 80, .load 3 (.tmp 79), 3, none⟩, ⟨some 81, .call ⟨.value (.func 13), #[.tmp 75, .tmp 76, .tmp 78, .tmp 80], #[24, 25, 22, 3]⟩, 29, none⟩, ⟨some 74, .move (.tmp 81), 29, none⟩, ⟨some 82, .extract (.tmp 74) 0, 25, none⟩, ⟨some 83, .extract (.tmp 74) 1, 28, none⟩, ⟨some 16, .assign (.tmp 82), 25, none⟩, ⟨some 17, .assign (.tmp 83), 28, none⟩] := vR rfl
@[push_cast] theorem vr4_10 : VR r4_10 [⟨some 84, .move (.tmp 13), 28, none⟩, ⟨some 85, .binOp .neq 28 (.tmp 84) (.const (.int .i64 0)) 28, 4, none⟩, ⟨some 86, .move (.tmp 85), 4, none⟩, ⟨some 87, .move (.tmp 15), 28, some (86, false)⟩, ⟨some 88, .binOp .neq 28 (.tmp 87) (.const (.int .i64 0)) 28, 4, some (86, false)⟩, ⟨some 89, .pick (.tmp 86) (.const (.bool true)) (.tmp 88), 4, none⟩, ⟨some 90, .move (.tmp 89), 4, none⟩, ⟨some 91, .move (.tmp 17), 28, some (90, false)⟩, ⟨some 92, .binOp .neq 28 (.tmp 91) (.const (.int .i64 0)) 28, 4, some (90, false)⟩, ⟨some 93, .pick (.tmp 90) (.const (.bool true)) (.tmp 92), 4, none⟩] := vR rfl
@[push_cast] theorem vr4_11 : VR r4_11 [⟨some 94, .call ⟨.value (.func 12), #[], #[]⟩, 4, none⟩, ⟨some 95, .move (.tmp 94), 4, none⟩, ⟨some 96, .move (.tmp 17), 28, some (95, true)⟩, ⟨some 97, .binOp .neq 28 (.tmp 96) (.const (.int .i64 0)) 28, 4, some (95, true)⟩, ⟨some 98, .move (.tmp 13), 28, some (95, true)⟩, ⟨some 99, .binOp .neq 28 (.tmp 98) (.const (.int .i64 0)) 28, 4, some (95, true)⟩, ⟨some 100, .move (.tmp 99), 4, some (95, true)⟩, ⟨some 101, .move (.tmp 15), 28, some (100, false)⟩, ⟨some 102, .binOp .neq 28 (.tmp 101) (.const (.int .i64 0)) 28, 4, some (100, false)⟩, ⟨some 103, .pick (.tmp 100) (.const (.bool true)) (.tmp 102), 4, some (95, true)⟩, ⟨some 104, .binOp .eql 4 (.tmp 97) (.tmp 103) 4, 4, some (95, true)⟩, ⟨some 105, .pick (.tmp 95) (.tmp 104) (.const (.bool false)), 4, none⟩, ⟨some 6, .assign (.tmp 105), 4, none⟩] := vR rfl
@[push_cast] theorem vr4_12 : VR r4_12 [⟨some 106, .buildSlice 25 0 #[], 25, none⟩, ⟨some 107, .move (.tmp 12), 25, none⟩, ⟨some 108, .call ⟨.builtin .append, #[.tmp 106, .tmp 107], #[25, 25]⟩, 25, none⟩, ⟨some 109, .move (.tmp 14), 25, none⟩, ⟨some 110, .call ⟨.builtin .append, #[.tmp 108, .tmp 109], #[25, 25]⟩, 25, none⟩, ⟨some 111, .move (.tmp 16), 25, none⟩, ⟨some 112, .call ⟨.value (.func 15), #[.tmp 110, .tmp 111], #[25, 25]⟩, 4, none⟩, ⟨some 18, .assign (.tmp 112), 4, none⟩] := vR rfl
@[push_cast] theorem vr4_13 : VR r4_13 [⟨some 113, .call ⟨.value (.func 12), #[], #[]⟩, 4, none⟩, ⟨some 114, .move (.tmp 113), 4, none⟩, ⟨some 115, .move (.tmp 18), 4, some (114, true)⟩, ⟨some 116, .pick (.tmp 114) (.tmp 115) (.const (.bool false)), 4, none⟩, ⟨some 6, .assign (.tmp 116), 4, none⟩] := vR rfl
/-! 5 columbary/columbarylaw14.CuboidTells (params #[24, 25, 38], results #[(.tmp 6)], 148 slots) -/
def r5_0 : List VOp :=
  [⟨some 3, .box 24 (.tmp 0), 0, none⟩,
   ⟨some 5, .box 38 (.tmp 2), 0, none⟩,
   ⟨some 6, .assign (.const (.bool false)), 4, none⟩]
def r5_1 : List VOp :=
  [lda 25 24 3,
   mv 26 1 25,
   ⟨some 27, .call ⟨.value (.func 11), #[.tmp 25, .tmp 26], #[24, 25]⟩, 4, none⟩,
   asg 7 27 4]
def r5_2 : List VOp :=
  [fad 28 38 5 0,
   lda 29 22 28,
   ⟨some 30, .call ⟨.value (.func 16), #[.tmp 29], #[22]⟩, 4, none⟩,
   asg 8 30 4]
def r5_3 : List VOp :=
  [mv 31 7 4,
   ⟨some 32, .unOp .not 4 (.tmp 31), 4, none⟩,
   mv 33 32 4,
   ⟨some 34, .move (.tmp 8), 4, some (33, false)⟩,
   ⟨some 35, .unOp .not 4 (.tmp 34), 4, some (33, false)⟩,
   ⟨some 36, .pick (.tmp 33) (.const (.bool true)) (.tmp 35), 4, none⟩]
def r5_4 : List VOp :=
  [⟨some 37, .call ⟨.value (.func 12), #[], #[]⟩, 4, none⟩,
   asg 6 37 4]
def r5_5 : List VOp :=
  [lda 39 24 3,
   mv 40 1 25,
   fad 41 38 5 0,
   lda 42 22 41,
   fad 43 38 5 1,
   lda 44 3 43,
   ⟨some 45, .call ⟨.value (.func 13), #[.tmp 39, .tmp 40, .tmp 42, .tmp 44], #[24, 25, 22, 3]⟩, 29, none⟩,
   mv 38 45 29,
   ext 46 38 0 25,
   ext 47 38 1 28,
   asg 9 46 25,
   asg 10 47 28]
def r5_6 : List VOp :=
  [lda 49 24 3,
   mv 50 1 25,
   fad 51 38 5 0,
   lda 52 22 51,
   fad 53 38 5 1,
   lda 54 3 53,
   ⟨some 55, .call ⟨.value (.func 18), #[.tmp 49, .tmp 50, .tmp 52, .tmp 54], #[24, 25, 22, 3]⟩, 29, none⟩,
   mv 48 55 29,
   ext 56 48 0 25,
   ext 57 48 1 28,
   asg 11 56 25,
   asg 12 57 28]
def r5_7 : List VOp :=
  [lda 59 24 3,
   fad 60 38 5 0,
   lda 61 22 60,
   ⟨some 62, .call ⟨.value (.func 19), #[.tmp 59, .tmp 61], #[24, 22]⟩, 43, none⟩,
   mv 58 62 43,
   ext 63 58 0 24,
   ext 64 58 1 28,
   ⟨some 13, .alloc 24, 0, none⟩,
   ⟨none, .store 24 (.tmp 13) (.tmp 63), 0, none⟩,
   asg 14 64 28]
def r5_8 : List VOp :=
  [lda 66 24 3,
   fad 67 38 5 0,
   lda 68 22 67,
   ⟨some 69, .call ⟨.value (.func 20), #[.tmp 66, .tmp 68], #[24, 22]⟩, 43, none⟩,
   mv 65 69 43,
   ext 70 65 0 24,
   ext 71 65 1 28,
   ⟨some 15, .alloc 24, 0, none⟩,
   ⟨none, .store 24 (.tmp 15) (.tmp 70), 0, none⟩,
   asg 16 71 28]
def r5_9 : List VOp :=
  [fad 72 24 13 0,
   lda 73 22 72,
   fad 74 24 15 0,
   lda 75 22 74,
   ⟨some 76, .call ⟨.value (.func 21), #[.tmp 73, .tmp 75], #[22, 22]⟩, 4, none⟩,
   asg 17 76 4]
def r5_10 : List VOp :=
  [fad 77 24 13 1,
   lda 78 22 77,
   fad 79 24 15 1,
   lda 80 22 79,
   ⟨some 81, .call ⟨.value (.func 21), #[.tmp 78, .tmp 80], #[22, 22]⟩, 4, none⟩,
   asg 18 81 4]
def r5_11 : List VOp :=
  [mv 82 1 25,
   fad 83 38 5 2,
   lda 84 3 83,
   fad 85 38 5 3,
   lda 86 3 85,
   ⟨some 87, .call ⟨.value (.func 22), #[.tmp 82, .tmp 84, .tmp 86], #[25, 3, 3]⟩, 25, none⟩,
   mv 88 1 25,
   fad 89 38 5 2,
   lda 90 3 89,
   fad 91 38 5 3,
   lda 92 3 91,
   ⟨some 93, .call ⟨.value (.func 23), #[.tmp 88, .tmp 90, .tmp 92], #[25, 3, 3]⟩, 25, none⟩,
   ⟨some 94, .call ⟨.value (.func 15), #[.tmp 87, .tmp 93], #[25, 25]⟩, 4, none⟩,
   asg 19 94 4]
def r5_12 : List VOp :=
  [mv 96 1 25,
   fad 97 38 5 2,
   lda 98 3 97,
   ⟨some 99, .call ⟨.value (.func 17), #[.tmp 96, .tmp 98], #[25, 3]⟩, 40, none⟩,
   mv 95 99 40,
   ext 100 95 0 25,
   ext 101 95 1 25,
   asg 20 100 25,
   asg 21 101 25]
def r5_13 : List VOp :=
  [mv 102 20 25,
   mv 103 1 25,
   fad 104 38 5 2,
   lda 105 3 104,
   ⟨some 106, .call ⟨.value (.func 23), #[(.tmp 103), (.const (.int .i64 (-9223372036854775808))), .tmp 105], #[25, 3, 3]⟩, 25, none⟩,
   ⟨some 107, .call ⟨.value (.func 15), #[.tmp 102, .tmp 106], #[25, 25]⟩, 4, none⟩,
   asg 22 107 4]
def r5_14 : List VOp :=
  [mv 108 20 25,
   ⟨some 109, .call ⟨.builtin .len, #[.tmp 108], #[25]⟩, 3, none⟩,
   mv 110 21 25,
   ⟨some 111, .call ⟨.builtin .len, #[.tmp 110], #[25]⟩, 3, none⟩,
   ⟨some 112, .binOp .add 3 (.tmp 109) (.tmp 111) 3, 3, none⟩,
   asg 23 112 3]
def r5_15 : List VOp :=
  [mv 113 9 25,
   mv 114 11 25,
   ⟨some 115, .call ⟨.value (.func 15), #[.tmp 113, .tmp 114], #[25, 25]⟩, 4, none⟩,
   asg 24 115 4]
def r5_16 : List VOp :=
  [⟨some 116, .call ⟨.value (.func 12), #[], #[]⟩, 4, none⟩,
   mv 117 116 4,
   ⟨some 118, .move (.tmp 24), 4, some (117, true)⟩,
   ⟨some 119, .pick (.tmp 117) (.tmp 118) (.const (.bool false)), 4, none⟩,
   mv 120 119 4,
   ⟨some 121, .move (.tmp 10), 28, some (120, true)⟩,
   ⟨some 122, .move (.tmp 12), 28, some (120, true)⟩,
   ⟨some 123, .binOp .eql 28 (.tmp 121) (.tmp 122) 28, 4, some (120, true)⟩,
   ⟨some 124, .pick (.tmp 120) (.tmp 123) (.const (.bool false)), 4, none⟩,
   mv 125 124 4,
   ⟨some 126, .move (.tmp 14), 28, some (125, true)⟩,
   ⟨some 127, .move (.tmp 16), 28, some (125, true)⟩,
   ⟨some 128, .binOp .eql 28 (.tmp 126) (.tmp 127) 28, 4, some (125, true)⟩,
   ⟨some 129, .pick (.tmp 125) (.tmp 128) (.const (.bool false)), 4, none⟩,
   mv 130 129 4,
   ⟨some 131, .move (.tmp 17), 4, some (130, true)⟩,
   ⟨some 132, .pick (.tmp 130) (.tmp 131) (.const (.bool false)), 4, none⟩,
   mv 133 132 4,
   ⟨some 134, .move (.tmp 18), 4, some (133, true)⟩,
   ⟨some 135, .pick (.tmp 133) (.tmp 134) (.const (.bool false)), 4, none⟩,
   mv 136 135 4,
   ⟨some 137, .move (.tmp 19), 4, some (136, true)⟩,
   ⟨some 138, .pick (.tmp 136) (.tmp 137) (.const (.bool false)), 4, none⟩,
   mv 139 138 4,
   ⟨some 140, .move (.tmp 22), 4, some (139, true)⟩,
   ⟨some 141, .pick (.tmp 139) (.tmp 140) (.const (.bool false)), 4, none⟩,
   mv 142 141 4,
   ⟨some 143, .move (.tmp 23), 3, some (142, true)⟩,
   ⟨some 144, .move (.tmp 1), 25, some (142, true)⟩,
   ⟨some 145, .call ⟨.builtin .len, #[.tmp 144], #[25]⟩, 3, some (142, true)⟩,
   ⟨some 146, .binOp .eql 3 (.tmp 143) (.tmp 145) 3, 4, some (142, true)⟩,
   ⟨some 147, .pick (.tmp 142) (.tmp 146) (.const (.bool false)), 4, none⟩,
   asg 6 147 4]
def B5 : VC :=
  (.seq (.region r5_0) (.seq (.region r5_1) (.seq (.region r5_2) (.seq (.seq (.region r5_3) (.cond (.tmp 36) (.seq (.region r5_4) .ret) .skip)) (.seq (.region r5_5) (.seq (.region r5_6) (.seq (.region r5_7) (.seq (.region r5_8) (.seq (.region r5_9) (.seq (.region r5_10) (.seq (.draw r5_11 4) (.seq (.region r5_12) (.seq (.region r5_13) (.seq (.region r5_14) (.seq (.region r5_15) (.seq (.region r5_16) .ret))))))))))))))))
theorem code5 : ∃ c, Try.f5.body = some c ∧ abs Try.f5.ntmps c = B5 := ⟨_, rfl, by kernel_rfl⟩
theorem hb5 : HasBody Try.prog 5 := hasBody_of Try.func5 (by kernel_rfl)
theorem res5 : Try.f5.results = #[(.tmp 6)] := rfl
theorem enter5 {w : World} {R : Value → World → Prop} (x0 x1 x2 : Value) (h : vc Try.prog B5 (retK Try.prog #[(.tmp 6)] R) [] (initEnv [x0, x1, x2] 0) w) : FnC Try.prog 5 #[x0, x1, x2] w R := by
  obtain ⟨c, h1, h2⟩ := code5
  exact hb5.fn (ret_of_vc mixed Try.func5 h1 (Nat.le_of_ble_eq_true rfl) B5 h2 h)
@[push_cast] theorem vr5_0 : VR r5_0 [⟨some 3, .box 24 (.tmp 0), 0, none⟩, ⟨some 5, .box 38 (.tmp 2), 0, none⟩, ⟨some 6, .assign (.const (.bool false)), 4, none⟩] := vR rfl
@[push_cast] theorem vr5_1 : VR r5_1 [⟨some 25, .load 24 (.tmp 3), 24, none⟩, ⟨some 26, .move (.tmp 1), 25, none⟩, ⟨some 27, .call ⟨.value (.func 11), #[.tmp 25, .tmp 26], #[24, 25]⟩, 4, none⟩, ⟨some 7, .assign (.tmp 27), 4, none⟩] := vR rfl
@[push_cast] theorem vr5_2 : VR r5_2 [⟨some 28, .fieldAddr 38 (.tmp 5) 0, 0, none⟩, ⟨some 29, .load 22 (.tmp 28), 22, none⟩, ⟨some 30, .call ⟨.value (.func 16), #[.tmp 29], #[22]⟩, 4, none⟩, ⟨some 8, .assign (.tmp 30), 4, none⟩] := vR rfl
@[push_cast] theorem vr5_3 : VR r5_3 [⟨some 31, .move (.tmp 7), 4, none⟩, ⟨some 32, .unOp .not 4 (.tmp 31), 4, none⟩, ⟨some 33, .move (.tmp 32), 4, none⟩, ⟨some 34, .move (.tmp 8), 4, some (33, false)⟩, ⟨some 35, .unOp .not 4 (.tmp 34), 4, some (33, false)⟩, ⟨some 36, .pick (.tmp 33) (.const (.bool true)) (.tmp 35), 4, none⟩] := vR rfl
@[push_cast] theorem vr5_4 : VR r5_4 [⟨some 37, .call ⟨.value (.func 12), #[], #[]⟩, 4, none⟩, ⟨some 6, .assign (.tmp 37), 4, none⟩] := vR rfl
@[push_cast] theorem vr5_5 : VR r5_5 [⟨some 39, .load 24 (.tmp 3), 24, none⟩, ⟨some 40, .move (.tmp 1), 25, none⟩, ⟨some 41, .fieldAddr 38 (.tmp 5) 0, 0, none⟩, ⟨some 42, .load 22 (.tmp 41), 22, none⟩, ⟨some 43, .fieldAddr 38 (.tmp 5) 1, 0, none⟩, ⟨some 44, .load 3 (.tmp 43), 3, none⟩, ⟨some 45, .call ⟨.value (.func 13), #[.tmp 39, .tmp 40, .tmp 42, .tmp 44], #[24, 25, 22, 3]⟩, 29, none⟩, ⟨some 38, .move (.tmp 45), 29, none⟩, ⟨some 46, .extract (.tmp 38) 0, 25, none⟩, ⟨some 47, .extract (.tmp 38) 1, 28, none⟩, ⟨some 9, .assign (.tmp 46), 25, none⟩, ⟨some 10, .assign (.tmp 47), 28, none⟩] := vR rfl
@[push_cast] theorem vr5_6 : VR r5_6 [⟨some 49, .load 24 (.tmp 3), 24, none⟩, ⟨some 50, .move (.tmp 1), 25, none⟩, ⟨some 51, .fieldAddr 38 (.tmp 5) 0, 0, none⟩, ⟨some 52, .load 22 (.tmp 51), 22, none⟩, ⟨some 53, .fieldAddr 38 (.tmp 5) 1, 0, none⟩, ⟨some 54, .load 3 (.tmp 53), 3, none⟩, ⟨some 55, .call ⟨.value (.func 18), #[.tmp 49, .tmp 50, .tmp 52, .tmp 54], #[24, 25, 22, 3]⟩, 29, none⟩, ⟨some 48, .move (.tmp 55), 29, none⟩, ⟨some 56, .extract (.tmp 48) 0, 25, none⟩, ⟨some 57, .extract (.tmp 48) 1, 28, none⟩, ⟨some 11, .assign (.tmp 56), 25, none⟩, ⟨some 12, .assign (.tmp 57), 28, none⟩] := vR rfl
@[push_cast] theorem vr5_7 : VR r5_7 [⟨some 59, .load 24 (.tmp 3), 24, none⟩, ⟨some 60, .fieldAddr 38 (.tmp 5) 0, 0, none⟩, ⟨some 61, .load 22 (.tmp 60), 22, none⟩, ⟨some 62, .call ⟨.value (.func 19), #[.tmp 59, .tmp 61], #[24, 22]⟩, 43, none⟩, ⟨some 58, .move (.tmp 62), 43, none⟩, ⟨some 63, .extract (.tmp 58) 0, 24, none⟩, ⟨some 64, .extract (.tmp 58) 1, 28, none⟩, ⟨some 13, .alloc 24, 0, none⟩, ⟨none, .store 24 (.tmp 13) (.tmp 63), 0, none⟩, ⟨some 14, .assign (.tmp 64), 28, none⟩] := vR rfl
@[push_cast] theorem vr5_8 : VR r5_8 [⟨some 66, .load 24 (.tmp 3), 24, none⟩, ⟨some 67, .fieldAddr 38 (.tmp 5) 0, 0, none⟩, ⟨some 68, .load 22 (.tmp 67), 22, none⟩, ⟨some 69, .call ⟨.value (.func 20), #[.tmp 66, .tmp 68], #[24, 22]⟩, 43, none⟩, ⟨some 65, .move (.tmp 69), 43, none⟩, ⟨some 70, .extract (.tmp 65) 0, 24, none⟩, ⟨some 71, .extract (.tmp 65) 1, 28, none⟩, ⟨some 15, .alloc 24, 0, none⟩, ⟨none, .store 24 (.tmp 15) (.tmp 70), 0, none⟩, ⟨some 16, .assign (.tmp 71), 28, none⟩] := vR rfl
@[push_cast] theorem vr5_9 : VR r5_9 [⟨some 72, .fieldAddr 24 (.tmp 13) 0, 0, none⟩, ⟨some 73, .load 22 (.tmp 72), 22, none⟩, ⟨some 74, .fieldAddr 24 (.tmp 15) 0, 0, none⟩, ⟨some 75, .load 22 (.tmp 74), 22, none⟩, ⟨some 76, .call ⟨.value (.func 21), #[.tmp 73, .tmp 75], #[22, 22]⟩, 4, none⟩, ⟨some 17, .assign (.tmp 76), 4, none⟩] := vR rfl
@[push_cast] theorem vr5_10 : VR r5_10 [⟨some 77, .fieldAddr 24 (.tmp 13) 1, 0, none⟩, ⟨some 78, .load 22 (.tmp 77), 22, none⟩, ⟨some 79, .fieldAddr 24 (.tmp 15) 1, 0, none⟩, ⟨some 80, .load 22 (.tmp 79), 22, none⟩, ⟨some 81, .call ⟨.value (.func 21), #[.tmp 78, .tmp 80], #[22, 22]⟩, 4, none⟩, ⟨some 18, .assign (.tmp 81), 4, none⟩] := vR rfl
@[push_cast] theorem vr5_11 : vc Try.prog (.draw r5_11 4) Q ds σ w = drawn Try.prog [(⟨some 82, .move (.tmp 1), 25, none⟩, [1]), (⟨some 83, .fieldAddr 38 (.tmp 5) 2, 0, none⟩, [5]), (⟨some 84, .load 3 (.tmp 83), 3, none⟩, [83]), (⟨some 85, .fieldAddr 38 (.tmp 5) 3, 0, none⟩, [5]), (⟨some 86, .load 3 (.tmp 85), 3, none⟩, [85]), (⟨some 87, .call ⟨.value (.func 22), #[.tmp 82, .tmp 84, .tmp 86], #[25, 3, 3]⟩, 25, none⟩, [82, 84, 86]), (⟨some 88, .move (.tmp 1), 25, none⟩, [1]), (⟨some 89, .fieldAddr 38 (.tmp 5) 2, 0, none⟩, [5]), (⟨some 90, .load 3 (.tmp 89), 3, none⟩, [89]), (⟨some 91, .fieldAddr 38 (.tmp 5) 3, 0, none⟩, [5]), (⟨some 92, .load 3 (.tmp 91), 3, none⟩, [91]), (⟨some 93, .call ⟨.value (.func 23), #[.tmp 88, .tmp 90, .tmp 92], #[25, 3, 3]⟩, 25, none⟩, [88, 90, 92]), (⟨some 94, .call ⟨.value (.func 15), #[.tmp 87, .tmp 93], #[25, 25]⟩, 4, none⟩, [87, 93]), (⟨some 19, .assign (.tmp 94), 4, none⟩, [94])] 4 (Q .normal ds) σ w := mk_eq rfl
@[push_cast] theorem vr5_12 : VR r5_12 [⟨some 96, .move (.tmp 1), 25, none⟩, ⟨some 97, .fieldAddr 38 (.tmp 5) 2, 0, none⟩, ⟨some 98, .load 3 (.tmp 97), 3, none⟩, ⟨some 99, .call ⟨.value (.func 17), #[.tmp 96, .tmp 98], #[25, 3]⟩, 40, none⟩, ⟨some 95, .move (.tmp 99), 40, none⟩, ⟨some 100, .extract (.tmp 95) 0, 25, none⟩, ⟨some 101, .extract (.tmp 95) 1, 25, none⟩, ⟨some 20, .assign (.tmp 100), 25, none⟩, ⟨some 21, .assign (.tmp 101), 25, none⟩] := vR rfl
@[push_cast] theorem vr5_13 : VR r5_13 [⟨some 102, .move (.tmp 20), 25, none⟩, ⟨some 103, .move (.tmp 1), 25, none⟩, ⟨some 104, .fieldAddr 38 (.tmp 5) 2, 0, none⟩, ⟨some 105, .load 3 (.tmp 104), 3, none⟩, ⟨some 106, .call ⟨.value (.func 23), #[(.tmp 103), (.const (.int .i64 (-9223372036854775808))), .tmp 105], #[25, 3, 3]⟩, 25, none⟩, ⟨some 107, .call ⟨.value (.func 15), #[.tmp 102, .tmp 106], #[25, 25]⟩, 4, none⟩, ⟨some 22, .assign (.tmp 107), 4, none⟩] := vR rfl
@[push_cast] theorem vr5_14 : VR r5_14 [⟨some 108, .move (.tmp 20), 25, none⟩, ⟨some 109, .call ⟨.builtin .len, #[.tmp 108], #[25]⟩, 3, none⟩, ⟨some 110, .move (.tmp 21), 25, none⟩, ⟨some 111, .call ⟨.builtin .len, #[.tmp 110], #[25]⟩, 3, none⟩, ⟨some 112, .binOp .add 3 (.tmp 109) (.tmp 111) 3, 3, none⟩, ⟨some 23, .assign (.tmp 112), 3, none⟩] := vR rfl
@[push_cast] theorem vr5_15 : VR r5_15 [⟨some 113, .move (.tmp 9), 25, none⟩, ⟨some 114, .move (.tmp 11), 25, none⟩, ⟨some 115, .call ⟨.value (.func 15), #[.tmp 113, .tmp 114], #[25, 25]⟩, 4, none⟩, ⟨some 24, .assign (.tmp 115), 4, none⟩] := vR rfl
@[push_cast] theorem vr5_16 : VR r5_16 [⟨some 116, .call ⟨.value (.func 12), #[], #[]⟩, 4, none⟩, ⟨some 117, .move (.tmp 116), 4, none⟩, ⟨some 118, .move (.tmp 24), 4, some (117, true)⟩, ⟨some 119, .pick (.tmp 117) (.tmp 118) (.const (.bool false)), 4, none⟩, ⟨some 120, .move (.tmp 119), 4, none⟩, ⟨some 121, .move (.tmp 10), 28, some (120, true)⟩, ⟨some 122, .move (.tmp 12), 28, some (120, true)⟩, ⟨some 123, .binOp .eql 28 (.tmp 121) (.tmp 122) 28, 4, some (120, true)⟩, ⟨some 124, .pick (.tmp 120) (.tmp 123) (.const (.bool false)), 4, none⟩, ⟨some 125, .move (.tmp 124), 4, none⟩, ⟨some 126, .move (.tmp 14), 28, some (125, true)⟩, ⟨some 127, .move (.tmp 16), 28, some (125, true)⟩, ⟨some 128, .binOp .eql 28 (.tmp 126) (.tmp 127) 28, 4, some (125, true)⟩, ⟨some 129, .pick (.tmp 125) (.tmp 128) (.const (.bool false)), 4, none⟩, ⟨some 130, .move (.tmp 129), 4, none⟩, ⟨some 131, .move (.tmp 17), 4, some (130, true)⟩, ⟨some 132, .pick (.tmp 130) (.tmp 131) (.const (.bool false)), 4, none⟩, ⟨some 133, .move (.tmp 132), 4, none⟩, ⟨some 134, .move (.tmp 18), 4, some (133, true)⟩, ⟨some 135, .pick (.tmp 133) (.tmp 134) (.const (.bool false)), 4, none⟩, ⟨some 136, .move (.tmp 135), 4, none⟩, ⟨some 137, .move (.tmp 19), 4, some (136, true)⟩, ⟨some 138, .pick (.tmp 136) (.tmp 137) (.const (.bool false)), 4, none⟩, ⟨some 139, .move (.tmp 138), 4, none⟩, ⟨some 140, .move (.tmp 22), 4, some (139, true)⟩, ⟨some 141, .pick (.tmp 139) (.tmp 140) (.const (.bool false)), 4, none⟩, ⟨some 142, .move (.tmp 141), 4, none⟩, ⟨some 143, .move (.tmp 23), 3, some (142, true)⟩, ⟨some 144, .move (.tmp 1), 25, some (142, true)⟩, ⟨some 145, .call ⟨.builtin .len, #[.tmp 144], #[25]⟩, 3, some (142, true)⟩, ⟨some 146, .binOp .eql 3 (.tmp 143) (.tmp 145) 3, 4, some (142, true)⟩, ⟨some 147, .pick (.tmp 142) (.tmp 146) (.const (.bool false)), 4, none⟩, ⟨some 6, .assign (.tmp 147), 4, none⟩] := vR rfl
/-! 12 columbary/columbarylaw14.alive (params #[], results #[(.tmp 0)], 75 slots) -/
def r12_0 : List VOp :=
  [⟨some 0, .assign (.const (.bool false)), 4, none⟩]
def r12_1 : List VOp :=
  [⟨some 10, .call ⟨.value (.func 40), #[], #[]⟩, 66, none⟩,
   mv 9 10 66,
   ext 11 9 0 24,
   ext 12 9 1 25,
   ⟨some 1, .alloc 24, 0, none⟩,
   ⟨none, .store 24 (.tmp 1) (.tmp 11), 0, none⟩,
   asg 2 12 25]
def r12_2 : List VOp :=
  [lda 14 24 1,
   mv 15 2 25,
   ⟨some 16, .buildSlice 22 1 #[(0, (.const (.string { data := #[97] })))], 22, none⟩,
   ⟨some 17, .call ⟨.value (.func 13), #[(.tmp 14), (.tmp 15), (.tmp 16), (.const (.int .i64 5))], #[24, 25, 22, 3]⟩, 29, none⟩,
   mv 13 17 29,
   ext 18 13 0 25,
   ext 19 13 1 28,
   asg 3 18 25,
   asg 4 19 28]
def r12_3 : List VOp :=
  [lda 21 24 1,
   mv 22 2 25,
   ⟨some 23, .buildSlice 22 2 #[(0, (.const (.string { data := #[98] }))), (1, (.const (.string { data := #[97] })))], 22, none⟩,
   ⟨some 24, .call ⟨.value (.func 13), #[(.tmp 21), (.tmp 22), (.tmp 23), (.const (.int .i64 5))], #[24, 25, 22, 3]⟩, 29, none⟩,
   mv 20 24 29,
   ext 25 20 0 25,
   ext 26 20 1 28,
   asg 5 25 25,
   asg 6 26 28]
def r12_4 : List VOp :=
  [mv 28 2 25,
   ⟨some 29, .call ⟨.value (.func 17), #[(.tmp 28), (.const (.int .i64 4))], #[25, 3]⟩, 40, none⟩,
   mv 27 29 40,
   ext 30 27 0 25,
   ext 31 27 1 25,
   asg 7 30 25,
   asg 8 31 25]
def r12_5 : List VOp :=
  [mv 32 4 28,
   ⟨some 33, .binOp .eql 28 (.tmp 32) (.const (.int .i64 0)) 28, 4, none⟩,
   mv 34 33 4,
   ⟨some 35, .move (.tmp 6), 28, some (34, true)⟩,
   ⟨some 36, .binOp .eql 28 (.tmp 35) (.const (.int .i64 141)) 28, 4, some (34, true)⟩,
   ⟨some 37, .pick (.tmp 34) (.tmp 36) (.const (.bool false)), 4, none⟩,
   mv 38 37 4,
   ⟨some 39, .move (.tmp 3), 25, some (38, true)⟩,
   ⟨some 40, .call ⟨.builtin .len, #[.tmp 39], #[25]⟩, 3, some (38, true)⟩,
   ⟨some 41, .binOp .eql 3 (.tmp 40) (.const (.int .i64 1)) 3, 4, some (38, true)⟩,
   ⟨some 42, .pick (.tmp 38) (.tmp 41) (.const (.bool false)), 4, none⟩,
   mv 43 42 4,
   ⟨some 44, .move (.tmp 3), 25, some (43, true)⟩,
   ⟨some 45, .indexAddr 25 (.tmp 44) (.const (.int .i64 0)), 0, some (43, true)⟩,
   ⟨some 46, .fieldAddr 35 (.tmp 45) 0, 0, some (43, true)⟩,
   ⟨some 47, .load 3 (.tmp 46), 3, some (43, true)⟩,
   ⟨some 48, .binOp .eql 3 (.tmp 47) (.const (.int .i64 0)) 3, 4, some (43, true)⟩,
   ⟨some 49, .pick (.tmp 43) (.tmp 48) (.const (.bool false)), 4, none⟩,
   mv 50 49 4,
   ⟨some 51, .move (.tmp 3), 25, some (50, true)⟩,
   ⟨some 52, .indexAddr 25 (.tmp 51) (.const (.int .i64 0)), 0, some (50, true)⟩,
   ⟨some 53, .fieldAddr 35 (.tmp 52) 2, 0, some (50, true)⟩,
   ⟨some 54, .load 3 (.tmp 53), 3, some (50, true)⟩,
   ⟨some 55, .binOp .eql 3 (.tmp 54) (.const (.int .i64 3)) 3, 4, some (50, true)⟩,
   ⟨some 56, .pick (.tmp 50) (.tmp 55) (.const (.bool false)), 4, none⟩,
   mv 57 56 4,
   ⟨some 58, .move (.tmp 3), 25, some (57, true)⟩,
   ⟨some 59, .indexAddr 25 (.tmp 58) (.const (.int .i64 0)), 0, some (57, true)⟩,
   ⟨some 60, .fieldAddr 35 (.tmp 59) 1, 0, some (57, true)⟩,
   ⟨some 61, .load 22 (.tmp 60), 22, some (57, true)⟩,
   ⟨some 62, .call ⟨.builtin .len, #[.tmp 61], #[22]⟩, 3, some (57, true)⟩,
   ⟨some 63, .binOp .eql 3 (.tmp 62) (.const (.int .i64 1)) 3, 4, some (57, true)⟩,
   ⟨some 64, .pick (.tmp 57) (.tmp 63) (.const (.bool false)), 4, none⟩,
   mv 65 64 4,
   ⟨some 66, .move (.tmp 7), 25, some (65, true)⟩,
   ⟨some 67, .call ⟨.builtin .len, #[.tmp 66], #[25]⟩, 3, some (65, true)⟩,
   ⟨some 68, .binOp .eql 3 (.tmp 67) (.const (.int .i64 1)) 3, 4, some (65, true)⟩,
   ⟨some 69, .pick (.tmp 65) (.tmp 68) (.const (.bool false)), 4, none⟩,
   mv 70 69 4,
   ⟨some 71, .move (.tmp 8), 25, some (70, true)⟩,
   ⟨some 72, .call ⟨.builtin .len, #[.tmp 71], #[25]⟩, 3, some (70, true)⟩,
   ⟨some 73, .binOp .eql 3 (.tmp 72) (.const (.int .i64 1)) 3, 4, some (70, true)⟩,
   ⟨some 74, .pick (.tmp 70) (.tmp 73) (.const (.bool false)), 4, none⟩,
   asg 0 74 4]
def B12 : VC :=
  (.seq (.region r12_0) (.seq (.region r12_1) (.seq (.region r12_2) (.seq (.region r12_3) (.seq (.region r12_4) (.seq (.region r12_5) .ret))))))
theorem code12 : ∃ c, Try.f12.body = some c ∧ abs Try.f12.ntmps c = B12 := ⟨_, rfl, by kernel_rfl⟩
theorem hb12 : HasBody Try.prog 12 := hasBody_of Try.func12 (by kernel_rfl)
theorem res12 : Try.f12.results = #[(.tmp 0)] := rfl
theorem enter12 {w : World} {R : Value → World → Prop} (h : vc Try.prog B12 (retK Try.prog #[(.tmp 0)] R) [] (initEnv [] 0) w) : FnC Try.prog 12 #[] w R := by
  obtain ⟨c, h1, h2⟩ := code12
  exact hb12.fn (ret_of_vc mixed Try.func12 h1 (Nat.le_of_ble_eq_true rfl) B12 h2 h)
@[push_cast] theorem vr12_0 : VR r12_0 [⟨some 0, .assign (.const (.bool false)), 4, none⟩] := vR rfl
@[push_cast] theorem vr12_1 : VR r12_1 [⟨some 10, .call ⟨.value (.func 40), #[], #[]⟩, 66, none⟩, ⟨some 9, .move (.tmp 10), 66, none⟩, ⟨some 11, .extract (.tmp 9) 0, 24, none⟩, ⟨some 12, .extract (.tmp 9) 1, 25, none⟩, ⟨some 1, .alloc 24, 0, none⟩, ⟨none, .store 24 (.tmp 1) (.tmp 11), 0, none⟩, ⟨some 2, .assign (.tmp 12), 25, none⟩] := vR rfl
@[push_cast] theorem vr12_2 : VR r12_2 [⟨some 14, .load 24 (.tmp 1), 24, none⟩, ⟨some 15, .move (.tmp 2), 25, none⟩, ⟨some 16, .buildSlice 22 1 #[(0, (.const (.string { data := #[97] })))], 22, none⟩, ⟨some 17, .call ⟨.value (.func 13), #[(.tmp 14), (.tmp 15), (.tmp 16), (.const (.int .i64 5))], #[24, 25, 22, 3]⟩, 29, none⟩, ⟨some 13, .move (.tmp 17), 29, none⟩, ⟨some 18, .extract (.tmp 13) 0, 25, none⟩, ⟨some 19, .extract (.tmp 13) 1, 28, none⟩, ⟨some 3, .assign (.tmp 18), 25, none⟩, ⟨some 4, .assign (.tmp 19), 28, none⟩] := vR rfl
@[push_cast] theorem vr12_3 : VR r12_3 [⟨some 21, .load 24 (.tmp 1), 24, none⟩, ⟨some 22, .move (.tmp 2), 25, none⟩, ⟨some 23, .buildSlice 22 2 #[(0, (.const (.string { data := #[98] }))), (1, (.const (.string { data := #[97] })))], 22, none⟩, ⟨some 24, .call ⟨.value (.func 13), #[(.tmp 21), (.tmp 22), (.tmp 23), (.const (.int .i64 5))], #[24, 25, 22, 3]⟩, 29, none⟩, ⟨some 20, .move (.tmp 24), 29, none⟩, ⟨some 25, .extract (.tmp 20) 0, 25, none⟩, ⟨some 26, .extract (.tmp 20) 1, 28, none⟩, ⟨some 5, .assign (.tmp 25), 25, none⟩, ⟨some 6, .assign (.tmp 26), 28, none⟩] := vR rfl
@[push_cast] theorem vr12_4 : VR r12_4 [⟨some 28, .move (.tmp 2), 25, none⟩, ⟨some 29, .call ⟨.value (.func 17), #[(.tmp 28), (.const (.int .i64 4))], #[25, 3]⟩, 40, none⟩, ⟨some 27, .move (.tmp 29), 40, none⟩, ⟨some 30, .extract (.tmp 27) 0, 25, none⟩, ⟨some 31, .extract (.tmp 27) 1, 25, none⟩, ⟨some 7, .assign (.tmp 30), 25, none⟩, ⟨some 8, .assign (.tmp 31), 25, none⟩] := vR rfl
@[push_cast] theorem vr12_5 : VR r12_5 [⟨some 32, .move (.tmp 4), 28, none⟩, ⟨some 33, .binOp .eql 28 (.tmp 32) (.const (.int .i64 0)) 28, 4, none⟩, ⟨some 34, .move (.tmp 33), 4, none⟩, ⟨some 35, .move (.tmp 6), 28, some (34, true)⟩, ⟨some 36, .binOp .eql 28 (.tmp 35) (.const (.int .i64 141)) 28, 4, some (34, true)⟩, ⟨some 37, .pick (.tmp 34) (.tmp 36) (.const (.bool false)), 4, none⟩, ⟨some 38, .move (.tmp 37), 4, none⟩, ⟨some 39, .move (.tmp 3), 25, some (38, true)⟩, ⟨some 40, .call ⟨.builtin .len, #[.tmp 39], #[25]⟩, 3, some (38, true)⟩, ⟨some 41, .binOp .eql 3 (.tmp 40) (.const (.int .i64 1)) 3, 4, some (38, true)⟩, ⟨some 42, .pick (.tmp 38) (.tmp 41) (.const (.bool false)), 4, none⟩, ⟨some 43, .move (.tmp 42), 4, none⟩, ⟨some 44, .move (.tmp 3), 25, some (43, true)⟩, ⟨some 45, .indexAddr 25 (.tmp 44) (.const (.int .i64 0)), 0, some (43, true)⟩, ⟨some 46, .fieldAddr 35 (.tmp 45) 0, 0, some (43, true)⟩, ⟨some 47, .load 3 (.tmp 46), 3, some (43, true)⟩, ⟨some 48, .binOp .eql 3 (.tmp 47) (.const (.int .i64 0)) 3, 4, some (43, true)⟩, ⟨some 49, .pick (.tmp 43) (.tmp 48) (.const (.bool false)), 4, none⟩, ⟨some 50, .move (.tmp 49), 4, none⟩, ⟨some 51, .move (.tmp 3), 25, some (50, true)⟩, ⟨some 52, .indexAddr 25 (.tmp 51) (.const (.int .i64 0)), 0, some (50, true)⟩, ⟨some 53, .fieldAddr 35 (.tmp 52) 2, 0, some (50, true)⟩, ⟨some 54, .load 3 (.tmp 53), 3, some (50, true)⟩, ⟨some 55, .binOp .eql 3 (.tmp 54) (.const (.int .i64 3)) 3, 4, some (50, true)⟩, ⟨some 56, .pick (.tmp 50) (.tmp 55) (.const (.bool false)), 4, none⟩, ⟨some 57, .move (.tmp 56), 4, none⟩, ⟨some 58, .move (.tmp 3), 25, some (57, true)⟩, ⟨some 59, .indexAddr 25 (.tmp 58) (.const (.int .i64 0)), 0, some (57, true)⟩, ⟨some 60, .fieldAddr 35 (.tmp 59) 1, 0, some (57, true)⟩, ⟨some 61, .load 22 (.tmp 60), 22, some (57, true)⟩, ⟨some 62, .call ⟨.builtin .len, #[.tmp 61], #[22]⟩, 3, some (57, true)⟩, ⟨some 63, .binOp .eql 3 (.tmp 62) (.const (.int .i64 1)) 3, 4, some (57, true)⟩, ⟨some 64, .pick (.tmp 57) (.tmp 63) (.const (.bool false)), 4, none⟩, ⟨some 65, .move (.tmp 64), 4, none⟩, ⟨some 66, .move (.tmp 7), 25, some (65, true)⟩, ⟨some 67, .call ⟨.builtin .len, #[.tmp 66], #[25]⟩, 3, some (65, true)⟩, ⟨some 68, .binOp .eql 3 (.tmp 67) (.const (.int .i64 1)) 3, 4, some (65, true)⟩, ⟨some 69, .pick (.tmp 65) (.tmp 68) (.const (.bool false)), 4, none⟩, ⟨some 70, .move (.tmp 69), 4, none⟩, ⟨some 71, .move (.tmp 8), 25, some (70, true)⟩, ⟨some 72, .call ⟨.builtin .len, #[.tmp 71], #[25]⟩, 3, some (70, true)⟩, ⟨some 73, .binOp .eql 3 (.tmp 72) (.const (.int .i64 1)) 3, 4, some (70, true)⟩, ⟨some 74, .pick (.tmp 70) (.tmp 73) (.const (.bool false)), 4, none⟩, ⟨some 0, .assign (.tmp 74), 4, none⟩] := vR rfl
@[push_cast] theorem bsl22_1_CodesCL {K : Value → World → Prop} {w : World} (x0 : ByteArray) : vBuildSlice Try.prog 22 1 #[(0, (.string x0))] K w = K (.slice (some ⟨w.heap.size, 0, none⟩) 1 1) (w.alloc (.cells #[(.string x0)] 9)) :=
  vBuildSlice_ok Try.underlying22 ti9 (by kernel_rfl) (by decide)
@[push_cast] theorem bsl22_2_CodesCL {K : Value → World → Prop} {w : World} (x0 : ByteArray) (x1 : ByteArray) : vBuildSlice Try.prog 22 2 #[(0, (.string x0)), (1, (.string x1))] K w = K (.slice (some ⟨w.heap.size, 0, none⟩) 2 2) (w.alloc (.cells #[(.string x0), (.string x1)] 9)) :=
  vBuildSlice_ok Try.underlying22 ti9 (by kernel_rfl) (by decide)
@[push_cast] theorem bsl25_0_CodesCL {K : Value → World → Prop} {w : World}  : vBuildSlice Try.prog 25 0 #[] K w = K (.slice (some ⟨w.heap.size, 0, none⟩) 0 0) (w.alloc (.cells #[] 35)) :=
  vBuildSlice_ok Try.underlying25 ti35 (by kernel_rfl) (by decide)
end Go.Proofs.Ythihbgpaoldbjaa
end
