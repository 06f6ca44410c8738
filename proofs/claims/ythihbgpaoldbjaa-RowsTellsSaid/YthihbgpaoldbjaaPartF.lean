/- The functions' code in the generator's form. Written by a program (codes.py) out of Lean's own print of the loaded translation. -/
import Derived.Test.YthihbgpaoldbjaaPartE
set_option linter.all false
open Nat renaming reduceEqDiff → zA, reducePow → zB, reduceMul → zC, reduceAdd → zD, reduceSub → zE, reduceLeDiff → zF
open Int renaming reduceToNat → zG, reducePow → zH, reduceNeg → zI, reduceMul → zJ, reduceAdd → zK, reduceSub → zL, reduceLT → zM, reduceLE → zN, reduceEq → zO, reduceMod → zP, reduceDiv → zQ
section
namespace Go.Proofs.Ythihbgpaoldbjaa
open Go.Vc
set_option maxRecDepth 100000
variable (Q : Post) (ds : List Deferred) (σ : Env) (w : World)
/-! 88 columbary/schema.Check$1 (params #[9], results #[(.tmp 2)], 6 slots) -/
def r88_0 : List VOp :=
  [⟨some 2, .assign (.const (.bool false)), 4, none⟩]
def r88_1 : List VOp :=
  [mv 3 0 9,
   ⟨some 4, .call ⟨.value (.func 61), #[.tmp 3], #[9]⟩, 4, none⟩,
   ⟨some 5, .unOp .not 4 (.tmp 4), 4, none⟩,
   asg 2 5 4]
def B88 : VC :=
  (.seq (.region r88_0) (.seq (.region r88_1) .ret))
theorem code88 : ∃ c, Try.f88.body = some c ∧ abs Try.f88.ntmps c = B88 := ⟨_, rfl, by kernel_rfl⟩
theorem hb88 : HasBody Try.prog 88 := hasBody_of Try.func88 (by kernel_rfl)
theorem res88 : Try.f88.results = #[(.tmp 2)] := rfl
theorem enter88 {w : World} {R : Value → World → Prop} (x0 : Value) (h : vc Try.prog B88 (retK Try.prog #[(.tmp 2)] R) [] (initEnv [x0] 0) w) : FnC Try.prog 88 #[x0] w R := by
  obtain ⟨c, h1, h2⟩ := code88
  exact hb88.fn (ret_of_vc mixed Try.func88 h1 (Nat.le_of_ble_eq_true rfl) B88 h2 h)
@[push_cast] theorem vr88_0 : VR r88_0 [⟨some 2, .assign (.const (.bool false)), 4, none⟩] := vR rfl
@[push_cast] theorem vr88_1 : VR r88_1 [⟨some 3, .move (.tmp 0), 9, none⟩, ⟨some 4, .call ⟨.value (.func 61), #[.tmp 3], #[9]⟩, 4, none⟩, ⟨some 5, .unOp .not 4 (.tmp 4), 4, none⟩, ⟨some 2, .assign (.tmp 5), 4, none⟩] := vR rfl
/-! 89 slices.ContainsFunc[[]int,int] (params #[47, 68], results #[(.tmp 4)], 9 slots) -/
def r89_0 : List VOp :=
  [⟨some 4, .assign (.const (.bool false)), 4, none⟩]
def r89_1 : List VOp :=
  [mv 5 0 47,
   mv 6 1 68,
   ⟨some 7, .call ⟨.value (.func 106), #[.tmp 5, .tmp 6], #[47, 68]⟩, 3, none⟩,
   ⟨some 8, .binOp .geq 3 (.tmp 7) (.const (.int .i64 0)) 3, 4, none⟩,
   asg 4 8 4]
def B89 : VC :=
  (.seq (.region r89_0) (.seq (.region r89_1) .ret))
theorem code89 : ∃ c, Try.f89.body = some c ∧ abs Try.f89.ntmps c = B89 := ⟨_, rfl, by kernel_rfl⟩
theorem hb89 : HasBody Try.prog 89 := hasBody_of Try.func89 (by kernel_rfl)
theorem res89 : Try.f89.results = #[(.tmp 4)] := rfl
theorem enter89 {w : World} {R : Value → World → Prop} (x0 x1 : Value) (h : vc Try.prog B89 (retK Try.prog #[(.tmp 4)] R) [] (initEnv [x0, x1] 0) w) : FnC Try.prog 89 #[x0, x1] w R := by
  obtain ⟨c, h1, h2⟩ := code89
  exact hb89.fn (ret_of_vc mixed Try.func89 h1 (Nat.le_of_ble_eq_true rfl) B89 h2 h)
@[push_cast] theorem vr89_0 : VR r89_0 [⟨some 4, .assign (.const (.bool false)), 4, none⟩] := vR rfl
@[push_cast] theorem vr89_1 : VR r89_1 [⟨some 5, .move (.tmp 0), 47, none⟩, ⟨some 6, .move (.tmp 1), 68, none⟩, ⟨some 7, .call ⟨.value (.func 106), #[.tmp 5, .tmp 6], #[47, 68]⟩, 3, none⟩, ⟨some 8, .binOp .geq 3 (.tmp 7) (.const (.int .i64 0)) 3, 4, none⟩, ⟨some 4, .assign (.tmp 8), 4, none⟩] := vR rfl
/-! 90 columbary/schema.Check$2 (params #[3], results #[(.tmp 2)], 9 slots) -/
def r90_0 : List VOp :=
  [⟨some 2, .assign (.const (.bool false)), 4, none⟩]
def r90_1 : List VOp :=
  [mv 3 0 3,
   ⟨some 4, .binOp .lss 3 (.tmp 3) (.const (.int .i64 (-4611686018427387904))) 3, 4, none⟩,
   mv 5 4 4,
   ⟨some 6, .move (.tmp 0), 3, some (5, false)⟩,
   ⟨some 7, .binOp .gtr 3 (.tmp 6) (.const (.int .i64 4611686018427387904)) 3, 4, some (5, false)⟩,
   ⟨some 8, .pick (.tmp 5) (.const (.bool true)) (.tmp 7), 4, none⟩,
   asg 2 8 4]
def B90 : VC :=
  (.seq (.region r90_0) (.seq (.region r90_1) .ret))
theorem code90 : ∃ c, Try.f90.body = some c ∧ abs Try.f90.ntmps c = B90 := ⟨_, rfl, by kernel_rfl⟩
theorem hb90 : HasBody Try.prog 90 := hasBody_of Try.func90 (by kernel_rfl)
theorem res90 : Try.f90.results = #[(.tmp 2)] := rfl
theorem enter90 {w : World} {R : Value → World → Prop} (x0 : Value) (h : vc Try.prog B90 (retK Try.prog #[(.tmp 2)] R) [] (initEnv [x0] 0) w) : FnC Try.prog 90 #[x0] w R := by
  obtain ⟨c, h1, h2⟩ := code90
  exact hb90.fn (ret_of_vc mixed Try.func90 h1 (Nat.le_of_ble_eq_true rfl) B90 h2 h)
@[push_cast] theorem vr90_0 : VR r90_0 [⟨some 2, .assign (.const (.bool false)), 4, none⟩] := vR rfl
@[push_cast] theorem vr90_1 : VR r90_1 [⟨some 3, .move (.tmp 0), 3, none⟩, ⟨some 4, .binOp .lss 3 (.tmp 3) (.const (.int .i64 (-4611686018427387904))) 3, 4, none⟩, ⟨some 5, .move (.tmp 4), 4, none⟩, ⟨some 6, .move (.tmp 0), 3, some (5, false)⟩, ⟨some 7, .binOp .gtr 3 (.tmp 6) (.const (.int .i64 4611686018427387904)) 3, 4, some (5, false)⟩, ⟨some 8, .pick (.tmp 5) (.const (.bool true)) (.tmp 7), 4, none⟩, ⟨some 2, .assign (.tmp 8), 4, none⟩] := vR rfl
/-! 91 columbary/agg.fits (params #[47], results #[(.tmp 2)], 18 slots) -/
def W91_0 : List Nat := [2, 4, 7, 8, 9, 10, 11, 12, 13, 14, 15, 16, 17]
@[push_cast] theorem W91_0_def : W91_0 = [2, 4, 7, 8, 9, 10, 11, 12, 13, 14, 15, 16, 17] := mk_eq rfl
def r91_0 : List VOp :=
  [⟨some 2, .assign (.const (.bool false)), 4, none⟩]
def r91_1 : List VOp :=
  [mv 5 0 47,
   ⟨some 6, .call ⟨.builtin .len, #[.tmp 5], #[47]⟩, 3, none⟩,
   ⟨some 7, .move (.const (.int .i64 0)), 3, none⟩]
def r91_2 : List VOp :=
  [⟨some 8, .binOp .lss 3 (.tmp 7) (.tmp 6) 3, 0, none⟩]
def r91_3 : List VOp :=
  [iad 9 47 5 7,
   lda 10 3 9,
   asg 4 10 3]
def r91_4 : List VOp :=
  [mv 11 4 3,
   ⟨some 12, .binOp .lss 3 (.tmp 11) (.const (.int .i64 (-4611686018427387904))) 3, 4, none⟩,
   mv 13 12 4,
   ⟨some 14, .move (.tmp 4), 3, some (13, false)⟩,
   ⟨some 15, .binOp .gtr 3 (.tmp 14) (.const (.int .i64 4611686018427387904)) 3, 4, some (13, false)⟩,
   ⟨some 16, .pick (.tmp 13) (.const (.bool true)) (.tmp 15), 4, none⟩]
def r91_5 : List VOp :=
  [⟨some 2, .assign (.const (.bool false)), 4, none⟩]
def r91_6 : List VOp :=
  [⟨some 17, .binOp .add 3 (.tmp 7) (.const (.int .i64 1)) 3, 3, none⟩,
   mv 7 17 3]
def r91_7 : List VOp :=
  [⟨some 2, .assign (.const (.bool true)), 4, none⟩]
def B91 : VC :=
  (.seq (.region r91_0) (.seq (.seq (.region r91_1) (.block 0 (.loop (.seq (.region r91_2) (.seq (.cond (.tmp 8) .skip (.exit 0)) (.seq (.block 1 (.seq (.region r91_3) (.seq (.region r91_4) (.cond (.tmp 16) (.seq (.region r91_5) .ret) .skip)))) (.region r91_6))))))) (.seq (.region r91_7) .ret)))
theorem code91 : ∃ c, Try.f91.body = some c ∧ abs Try.f91.ntmps c = B91 := ⟨_, rfl, by kernel_rfl⟩
theorem hb91 : HasBody Try.prog 91 := hasBody_of Try.func91 (by kernel_rfl)
theorem res91 : Try.f91.results = #[(.tmp 2)] := rfl
theorem enter91 {w : World} {R : Value → World → Prop} (x0 : Value) (h : vc Try.prog B91 (retK Try.prog #[(.tmp 2)] R) [] (initEnv [x0] 0) w) : FnC Try.prog 91 #[x0] w R := by
  obtain ⟨c, h1, h2⟩ := code91
  exact hb91.fn (ret_of_vc mixed Try.func91 h1 (Nat.le_of_ble_eq_true rfl) B91 h2 h)
@[push_cast] theorem vr91_0 : VR r91_0 [⟨some 2, .assign (.const (.bool false)), 4, none⟩] := vR rfl
@[push_cast] theorem vr91_1 : VR r91_1 [⟨some 5, .move (.tmp 0), 47, none⟩, ⟨some 6, .call ⟨.builtin .len, #[.tmp 5], #[47]⟩, 3, none⟩, ⟨some 7, .move (.const (.int .i64 0)), 3, none⟩] := vR rfl
@[push_cast] theorem vr91_2 : VR r91_2 [⟨some 8, .binOp .lss 3 (.tmp 7) (.tmp 6) 3, 0, none⟩] := vR rfl
@[push_cast] theorem vr91_3 : VR r91_3 [⟨some 9, .indexAddr 47 (.tmp 5) (.tmp 7), 0, none⟩, ⟨some 10, .load 3 (.tmp 9), 3, none⟩, ⟨some 4, .assign (.tmp 10), 3, none⟩] := vR rfl
@[push_cast] theorem vr91_4 : VR r91_4 [⟨some 11, .move (.tmp 4), 3, none⟩, ⟨some 12, .binOp .lss 3 (.tmp 11) (.const (.int .i64 (-4611686018427387904))) 3, 4, none⟩, ⟨some 13, .move (.tmp 12), 4, none⟩, ⟨some 14, .move (.tmp 4), 3, some (13, false)⟩, ⟨some 15, .binOp .gtr 3 (.tmp 14) (.const (.int .i64 4611686018427387904)) 3, 4, some (13, false)⟩, ⟨some 16, .pick (.tmp 13) (.const (.bool true)) (.tmp 15), 4, none⟩] := vR rfl
@[push_cast] theorem vr91_5 : VR r91_5 [⟨some 2, .assign (.const (.bool false)), 4, none⟩] := vR rfl
@[push_cast] theorem vr91_6 : VR r91_6 [⟨some 17, .binOp .add 3 (.tmp 7) (.const (.int .i64 1)) 3, 3, none⟩, ⟨some 7, .move (.tmp 17), 3, none⟩] := vR rfl
@[push_cast] theorem vr91_7 : VR r91_7 [⟨some 2, .assign (.const (.bool true)), 4, none⟩] := vR rfl
/-! 92 columbary/columbaryref12.fits (params #[3], results #[(.tmp 2)], 9 slots) -/
def r92_0 : List VOp :=
  [⟨some 2, .assign (.const (.bool false)), 4, none⟩]
def r92_1 : List VOp :=
  [mv 3 0 3,
   ⟨some 4, .binOp .geq 3 (.tmp 3) (.const (.int .i64 (-4611686018427387904))) 3, 4, none⟩,
   mv 5 4 4,
   ⟨some 6, .move (.tmp 0), 3, some (5, true)⟩,
   ⟨some 7, .binOp .leq 3 (.tmp 6) (.const (.int .i64 4611686018427387904)) 3, 4, some (5, true)⟩,
   ⟨some 8, .pick (.tmp 5) (.tmp 7) (.const (.bool false)), 4, none⟩,
   asg 2 8 4]
def B92 : VC :=
  (.seq (.region r92_0) (.seq (.region r92_1) .ret))
theorem code92 : ∃ c, Try.f92.body = some c ∧ abs Try.f92.ntmps c = B92 := ⟨_, rfl, by kernel_rfl⟩
theorem hb92 : HasBody Try.prog 92 := hasBody_of Try.func92 (by kernel_rfl)
theorem res92 : Try.f92.results = #[(.tmp 2)] := rfl
theorem enter92 {w : World} {R : Value → World → Prop} (x0 : Value) (h : vc Try.prog B92 (retK Try.prog #[(.tmp 2)] R) [] (initEnv [x0] 0) w) : FnC Try.prog 92 #[x0] w R := by
  obtain ⟨c, h1, h2⟩ := code92
  exact hb92.fn (ret_of_vc mixed Try.func92 h1 (Nat.le_of_ble_eq_true rfl) B92 h2 h)
@[push_cast] theorem vr92_0 : VR r92_0 [⟨some 2, .assign (.const (.bool false)), 4, none⟩] := vR rfl
@[push_cast] theorem vr92_1 : VR r92_1 [⟨some 3, .move (.tmp 0), 3, none⟩, ⟨some 4, .binOp .geq 3 (.tmp 3) (.const (.int .i64 (-4611686018427387904))) 3, 4, none⟩, ⟨some 5, .move (.tmp 4), 4, none⟩, ⟨some 6, .move (.tmp 0), 3, some (5, true)⟩, ⟨some 7, .binOp .leq 3 (.tmp 6) (.const (.int .i64 4611686018427387904)) 3, 4, some (5, true)⟩, ⟨some 8, .pick (.tmp 5) (.tmp 7) (.const (.bool false)), 4, none⟩, ⟨some 2, .assign (.tmp 8), 4, none⟩] := vR rfl
/-! 93 slices.IndexFunc[[]string,string] (params #[22, 81], results #[(.tmp 4)], 19 slots) -/
def W93_0 : List Nat := [4, 5, 8, 9, 10, 11, 12, 13, 14, 15, 16, 17, 18]
@[push_cast] theorem W93_0_def : W93_0 = [4, 5, 8, 9, 10, 11, 12, 13, 14, 15, 16, 17, 18] := mk_eq rfl
def r93_0 : List VOp :=
  [⟨some 4, .assign (.const (.int .i64 0)), 3, none⟩]
def r93_1 : List VOp :=
  [mv 6 0 22,
   ⟨some 7, .call ⟨.builtin .len, #[.tmp 6], #[22]⟩, 3, none⟩,
   ⟨some 8, .move (.const (.int .i64 0)), 3, none⟩]
def r93_2 : List VOp :=
  [⟨some 9, .binOp .lss 3 (.tmp 8) (.tmp 7) 3, 0, none⟩]
def r93_3 : List VOp :=
  [mv 10 8 3,
   asg 5 10 3]
def r93_4 : List VOp :=
  [mv 11 1 81,
   mv 12 0 22,
   mv 13 5 3,
   iad 14 22 12 13,
   lda 15 9 14,
   ⟨some 16, .call ⟨.value (.tmp 11), #[.tmp 15], #[9]⟩, 4, none⟩]
def r93_5 : List VOp :=
  [mv 17 5 3,
   asg 4 17 3]
def r93_6 : List VOp :=
  [⟨some 18, .binOp .add 3 (.tmp 8) (.const (.int .i64 1)) 3, 3, none⟩,
   mv 8 18 3]
def r93_7 : List VOp :=
  [⟨some 4, .assign (.const (.int .i64 (-1))), 3, none⟩]
def B93 : VC :=
  (.seq (.region r93_0) (.seq (.seq (.region r93_1) (.block 0 (.loop (.seq (.region r93_2) (.seq (.cond (.tmp 9) .skip (.exit 0)) (.seq (.block 1 (.seq (.region r93_3) (.seq (.region r93_4) (.cond (.tmp 16) (.seq (.region r93_5) .ret) .skip)))) (.region r93_6))))))) (.seq (.region r93_7) .ret)))
theorem code93 : ∃ c, Try.f93.body = some c ∧ abs Try.f93.ntmps c = B93 := ⟨_, rfl, by kernel_rfl⟩
theorem hb93 : HasBody Try.prog 93 := hasBody_of Try.func93 (by kernel_rfl)
theorem res93 : Try.f93.results = #[(.tmp 4)] := rfl
theorem enter93 {w : World} {R : Value → World → Prop} (x0 x1 : Value) (h : vc Try.prog B93 (retK Try.prog #[(.tmp 4)] R) [] (initEnv [x0, x1] 0) w) : FnC Try.prog 93 #[x0, x1] w R := by
  obtain ⟨c, h1, h2⟩ := code93
  exact hb93.fn (ret_of_vc mixed Try.func93 h1 (Nat.le_of_ble_eq_true rfl) B93 h2 h)
@[push_cast] theorem vr93_0 : VR r93_0 [⟨some 4, .assign (.const (.int .i64 0)), 3, none⟩] := vR rfl
@[push_cast] theorem vr93_1 : VR r93_1 [⟨some 6, .move (.tmp 0), 22, none⟩, ⟨some 7, .call ⟨.builtin .len, #[.tmp 6], #[22]⟩, 3, none⟩, ⟨some 8, .move (.const (.int .i64 0)), 3, none⟩] := vR rfl
@[push_cast] theorem vr93_2 : VR r93_2 [⟨some 9, .binOp .lss 3 (.tmp 8) (.tmp 7) 3, 0, none⟩] := vR rfl
@[push_cast] theorem vr93_3 : VR r93_3 [⟨some 10, .move (.tmp 8), 3, none⟩, ⟨some 5, .assign (.tmp 10), 3, none⟩] := vR rfl
@[push_cast] theorem vr93_4 : VR r93_4 [⟨some 11, .move (.tmp 1), 81, none⟩, ⟨some 12, .move (.tmp 0), 22, none⟩, ⟨some 13, .move (.tmp 5), 3, none⟩, ⟨some 14, .indexAddr 22 (.tmp 12) (.tmp 13), 0, none⟩, ⟨some 15, .load 9 (.tmp 14), 9, none⟩, ⟨some 16, .call ⟨.value (.tmp 11), #[.tmp 15], #[9]⟩, 4, none⟩] := vR rfl
@[push_cast] theorem vr93_5 : VR r93_5 [⟨some 17, .move (.tmp 5), 3, none⟩, ⟨some 4, .assign (.tmp 17), 3, none⟩] := vR rfl
@[push_cast] theorem vr93_6 : VR r93_6 [⟨some 18, .binOp .add 3 (.tmp 8) (.const (.int .i64 1)) 3, 3, none⟩, ⟨some 8, .move (.tmp 18), 3, none⟩] := vR rfl
@[push_cast] theorem vr93_7 : VR r93_7 [⟨some 4, .assign (.const (.int .i64 (-1))), 3, none⟩] := vR rfl
/-! 96 columbary/schema.Value$1 (params #[21], results #[(.tmp 2)], 9 slots) -/
def r96_0 : List VOp :=
  [⟨some 2, .assign (.const (.bool false)), 4, none⟩]
def r96_1 : List VOp :=
  [mv 3 0 21,
   ⟨some 4, .binOp .lss 21 (.tmp 3) (.const (.int .i32 32)) 21, 4, none⟩,
   mv 5 4 4,
   ⟨some 6, .move (.tmp 0), 21, some (5, false)⟩,
   ⟨some 7, .binOp .gtr 21 (.tmp 6) (.const (.int .i32 126)) 21, 4, some (5, false)⟩,
   ⟨some 8, .pick (.tmp 5) (.const (.bool true)) (.tmp 7), 4, none⟩,
   asg 2 8 4]
def B96 : VC :=
  (.seq (.region r96_0) (.seq (.region r96_1) .ret))
theorem code96 : ∃ c, Try.f96.body = some c ∧ abs Try.f96.ntmps c = B96 := ⟨_, rfl, by kernel_rfl⟩
theorem hb96 : HasBody Try.prog 96 := hasBody_of Try.func96 (by kernel_rfl)
theorem res96 : Try.f96.results = #[(.tmp 2)] := rfl
theorem enter96 {w : World} {R : Value → World → Prop} (x0 : Value) (h : vc Try.prog B96 (retK Try.prog #[(.tmp 2)] R) [] (initEnv [x0] 0) w) : FnC Try.prog 96 #[x0] w R := by
  obtain ⟨c, h1, h2⟩ := code96
  exact hb96.fn (ret_of_vc mixed Try.func96 h1 (Nat.le_of_ble_eq_true rfl) B96 h2 h)
@[push_cast] theorem vr96_0 : VR r96_0 [⟨some 2, .assign (.const (.bool false)), 4, none⟩] := vR rfl
@[push_cast] theorem vr96_1 : VR r96_1 [⟨some 3, .move (.tmp 0), 21, none⟩, ⟨some 4, .binOp .lss 21 (.tmp 3) (.const (.int .i32 32)) 21, 4, none⟩, ⟨some 5, .move (.tmp 4), 4, none⟩, ⟨some 6, .move (.tmp 0), 21, some (5, false)⟩, ⟨some 7, .binOp .gtr 21 (.tmp 6) (.const (.int .i32 126)) 21, 4, some (5, false)⟩, ⟨some 8, .pick (.tmp 5) (.const (.bool true)) (.tmp 7), 4, none⟩, ⟨some 2, .assign (.tmp 8), 4, none⟩] := vR rfl
/-! 97 slices.IndexFunc[[]columbary/api.Agg,columbary/api.Agg] (params #[33, 83], results #[(.tmp 4)], 19 slots) -/
def W97_0 : List Nat := [4, 5, 8, 9, 10, 11, 12, 13, 14, 15, 16, 17, 18]
@[push_cast] theorem W97_0_def : W97_0 = [4, 5, 8, 9, 10, 11, 12, 13, 14, 15, 16, 17, 18] := mk_eq rfl
def r97_0 : List VOp :=
  [⟨some 4, .assign (.const (.int .i64 0)), 3, none⟩]
def r97_1 : List VOp :=
  [mv 6 0 33,
   ⟨some 7, .call ⟨.builtin .len, #[.tmp 6], #[33]⟩, 3, none⟩,
   ⟨some 8, .move (.const (.int .i64 0)), 3, none⟩]
def r97_2 : List VOp :=
  [⟨some 9, .binOp .lss 3 (.tmp 8) (.tmp 7) 3, 0, none⟩]
def r97_3 : List VOp :=
  [mv 10 8 3,
   asg 5 10 3]
def r97_4 : List VOp :=
  [mv 11 1 83,
   mv 12 0 33,
   mv 13 5 3,
   iad 14 33 12 13,
   lda 15 64 14,
   ⟨some 16, .call ⟨.value (.tmp 11), #[.tmp 15], #[64]⟩, 4, none⟩]
def r97_5 : List VOp :=
  [mv 17 5 3,
   asg 4 17 3]
def r97_6 : List VOp :=
  [⟨some 18, .binOp .add 3 (.tmp 8) (.const (.int .i64 1)) 3, 3, none⟩,
   mv 8 18 3]
def r97_7 : List VOp :=
  [⟨some 4, .assign (.const (.int .i64 (-1))), 3, none⟩]
def B97 : VC :=
  (.seq (.region r97_0) (.seq (.seq (.region r97_1) (.block 0 (.loop (.seq (.region r97_2) (.seq (.cond (.tmp 9) .skip (.exit 0)) (.seq (.block 1 (.seq (.region r97_3) (.seq (.region r97_4) (.cond (.tmp 16) (.seq (.region r97_5) .ret) .skip)))) (.region r97_6))))))) (.seq (.region r97_7) .ret)))
theorem code97 : ∃ c, Try.f97.body = some c ∧ abs Try.f97.ntmps c = B97 := ⟨_, rfl, by kernel_rfl⟩
theorem hb97 : HasBody Try.prog 97 := hasBody_of Try.func97 (by kernel_rfl)
theorem res97 : Try.f97.results = #[(.tmp 4)] := rfl
theorem enter97 {w : World} {R : Value → World → Prop} (x0 x1 : Value) (h : vc Try.prog B97 (retK Try.prog #[(.tmp 4)] R) [] (initEnv [x0, x1] 0) w) : FnC Try.prog 97 #[x0, x1] w R := by
  obtain ⟨c, h1, h2⟩ := code97
  exact hb97.fn (ret_of_vc mixed Try.func97 h1 (Nat.le_of_ble_eq_true rfl) B97 h2 h)
@[push_cast] theorem vr97_0 : VR r97_0 [⟨some 4, .assign (.const (.int .i64 0)), 3, none⟩] := vR rfl
@[push_cast] theorem vr97_1 : VR r97_1 [⟨some 6, .move (.tmp 0), 33, none⟩, ⟨some 7, .call ⟨.builtin .len, #[.tmp 6], #[33]⟩, 3, none⟩, ⟨some 8, .move (.const (.int .i64 0)), 3, none⟩] := vR rfl
@[push_cast] theorem vr97_2 : VR r97_2 [⟨some 9, .binOp .lss 3 (.tmp 8) (.tmp 7) 3, 0, none⟩] := vR rfl
@[push_cast] theorem vr97_3 : VR r97_3 [⟨some 10, .move (.tmp 8), 3, none⟩, ⟨some 5, .assign (.tmp 10), 3, none⟩] := vR rfl
@[push_cast] theorem vr97_4 : VR r97_4 [⟨some 11, .move (.tmp 1), 83, none⟩, ⟨some 12, .move (.tmp 0), 33, none⟩, ⟨some 13, .move (.tmp 5), 3, none⟩, ⟨some 14, .indexAddr 33 (.tmp 12) (.tmp 13), 0, none⟩, ⟨some 15, .load 64 (.tmp 14), 64, none⟩, ⟨some 16, .call ⟨.value (.tmp 11), #[.tmp 15], #[64]⟩, 4, none⟩] := vR rfl
@[push_cast] theorem vr97_5 : VR r97_5 [⟨some 17, .move (.tmp 5), 3, none⟩, ⟨some 4, .assign (.tmp 17), 3, none⟩] := vR rfl
@[push_cast] theorem vr97_6 : VR r97_6 [⟨some 18, .binOp .add 3 (.tmp 8) (.const (.int .i64 1)) 3, 3, none⟩, ⟨some 8, .move (.tmp 18), 3, none⟩] := vR rfl
@[push_cast] theorem vr97_7 : VR r97_7 [⟨some 4, .assign (.const (.int .i64 (-1))), 3, none⟩] := vR rfl
/-! 98 slices.Values[[]columbary/api.Row,columbary/api.Row]$1 (params #[98], results #[], 16 slots) -/
def W98_0 : List Nat := [4, 7, 8, 9, 10, 11, 12, 13, 14, 15]
@[push_cast] theorem W98_0_def : W98_0 = [4, 7, 8, 9, 10, 11, 12, 13, 14, 15] := mk_eq rfl
def r98_0 : List VOp :=
  [lda 5 25 1,
   ⟨some 6, .call ⟨.builtin .len, #[.tmp 5], #[25]⟩, 3, none⟩,
   ⟨some 7, .move (.const (.int .i64 0)), 3, none⟩]
def r98_1 : List VOp :=
  [⟨some 8, .binOp .lss 3 (.tmp 7) (.tmp 6) 3, 0, none⟩]
def r98_2 : List VOp :=
  [iad 9 25 5 7,
   lda 10 35 9,
   ⟨some 4, .alloc 35, 0, none⟩,
   ⟨none, .store 35 (.tmp 4) (.tmp 10), 0, none⟩]
def r98_3 : List VOp :=
  [mv 11 0 98,
   lda 12 35 4,
   ⟨some 13, .call ⟨.value (.tmp 11), #[.tmp 12], #[35]⟩, 4, none⟩,
   ⟨some 14, .unOp .not 4 (.tmp 13), 4, none⟩]
def r98_4 : List VOp :=
  [⟨some 15, .binOp .add 3 (.tmp 7) (.const (.int .i64 1)) 3, 3, none⟩,
   mv 7 15 3]
def B98 : VC :=
  (.seq (.region r98_0) (.block 0 (.loop (.seq (.region r98_1) (.seq (.cond (.tmp 8) .skip (.exit 0)) (.seq (.block 1 (.seq (.region r98_2) (.seq (.region r98_3) (.cond (.tmp 14) .ret .skip)))) (.region r98_4)))))))
theorem code98 : ∃ c, Try.f98.body = some c ∧ abs Try.f98.ntmps c = B98 := ⟨_, rfl, by kernel_rfl⟩
theorem hb98 : HasBody Try.prog 98 := hasBody_of Try.func98 (by kernel_rfl)
theorem res98 : Try.f98.results = #[] := rfl
theorem enter98 {w : World} {R : Value → World → Prop} (x0 x1 : Value) (h : vc Try.prog B98 (retK Try.prog #[] R) [] (initEnv [x0, x1] 0) w) : FnC Try.prog 98 #[x0, x1] w R := by
  obtain ⟨c, h1, h2⟩ := code98
  exact hb98.fn (ret_of_vc mixed Try.func98 h1 (Nat.le_of_ble_eq_true rfl) B98 h2 h)
@[push_cast] theorem vr98_0 : VR r98_0 [⟨some 5, .load 25 (.tmp 1), 25, none⟩, ⟨some 6, .call ⟨.builtin .len, #[.tmp 5], #[25]⟩, 3, none⟩, ⟨some 7, .move (.const (.int .i64 0)), 3, none⟩] := vR rfl
@[push_cast] theorem vr98_1 : VR r98_1 [⟨some 8, .binOp .lss 3 (.tmp 7) (.tmp 6) 3, 0, none⟩] := vR rfl
@[push_cast] theorem vr98_2 : VR r98_2 [⟨some 9, .indexAddr 25 (.tmp 5) (.tmp 7), 0, none⟩, ⟨some 10, .load 35 (.tmp 9), 35, none⟩, ⟨some 4, .alloc 35, 0, none⟩, ⟨none, .store 35 (.tmp 4) (.tmp 10), 0, none⟩] := vR rfl
@[push_cast] theorem vr98_3 : VR r98_3 [⟨some 11, .move (.tmp 0), 98, none⟩, ⟨some 12, .load 35 (.tmp 4), 35, none⟩, ⟨some 13, .call ⟨.value (.tmp 11), #[.tmp 12], #[35]⟩, 4, none⟩, ⟨some 14, .unOp .not 4 (.tmp 13), 4, none⟩] := vR rfl
@[push_cast] theorem vr98_4 : VR r98_4 [⟨some 15, .binOp .add 3 (.tmp 7) (.const (.int .i64 1)) 3, 3, none⟩, ⟨some 7, .move (.tmp 15), 3, none⟩] := vR rfl
/-! 99 slices.Clone[[]columbary/api.Agg,columbary/api.Agg] (params #[33], results #[(.tmp 2)], 8 slots) -/
def r99_0 : List VOp :=
  [⟨some 2, .assign (.const (.slice none 0 0)), 33, none⟩]
def r99_1 : List VOp :=
  [mv 3 0 33,
   ⟨some 4, .binOp .eql 33 (.tmp 3) (.const (.slice none 0 0)) 33, 4, none⟩]
def r99_2 : List VOp :=
  [⟨some 2, .assign (.const (.slice none 0 0)), 33, none⟩]
def r99_3 : List VOp :=
  [⟨some 5, .buildSlice 33 0 #[], 33, none⟩,
   mv 6 0 33,
   ⟨some 7, .call ⟨.builtin .append, #[.tmp 5, .tmp 6], #[33, 33]⟩, 33, none⟩,
   asg 2 7 33]
def B99 : VC :=
  (.seq (.region r99_0) (.seq (.seq (.region r99_1) (.cond (.tmp 4) (.seq (.region r99_2) .ret) .skip)) (.seq (.region r99_3) .ret)))
theorem code99 : ∃ c, Try.f99.body = some c ∧ abs Try.f99.ntmps c = B99 := ⟨_, rfl, by kernel_rfl⟩
theorem hb99 : HasBody Try.prog 99 := hasBody_of Try.func99 (by kernel_rfl)
theorem res99 : Try.f99.results = #[(.tmp 2)] := rfl
theorem enter99 {w : World} {R : Value → World → Prop} (x0 : Value) (h : vc Try.prog B99 (retK Try.prog #[(.tmp 2)] R) [] (initEnv [x0] 0) w) : FnC Try.prog 99 #[x0] w R := by
  obtain ⟨c, h1, h2⟩ := code99
  exact hb99.fn (ret_of_vc mixed Try.func99 h1 (Nat.le_of_ble_eq_true rfl) B99 h2 h)
@[push_cast] theorem vr99_0 : VR r99_0 [⟨some 2, .assign (.const (.slice none 0 0)), 33, none⟩] := vR rfl
@[push_cast] theorem vr99_1 : VR r99_1 [⟨some 3, .move (.tmp 0), 33, none⟩, ⟨some 4, .binOp .eql 33 (.tmp 3) (.const (.slice none 0 0)) 33, 4, none⟩] := vR rfl
@[push_cast] theorem vr99_2 : VR r99_2 [⟨some 2, .assign (.const (.slice none 0 0)), 33, none⟩] := vR rfl
@[push_cast] theorem vr99_3 : VR r99_3 [⟨some 5, .buildSlice 33 0 #[], 33, none⟩, ⟨some 6, .move (.tmp 0), 33, none⟩, ⟨some 7, .call ⟨.builtin .append, #[.tmp 5, .tmp 6], #[33, 33]⟩, 33, none⟩, ⟨some 2, .assign (.tmp 7), 33, none⟩] := vR rfl
/-! 100 slices.stableCmpFunc[columbary/api.Row] (params #[25, 3, 58], results #[], 63 slots) -/
def W100_0 : List Nat := [7, 8, 11, 12, 13, 14, 15, 16, 17, 18, 19, 20, 21, 22]
@[push_cast] theorem W100_0_def : W100_0 = [7, 8, 11, 12, 13, 14, 15, 16, 17, 18, 19, 20, 21, 22] := mk_eq rfl
def W100_1 : List Nat := [6, 7, 8, 9, 28, 29, 30, 31, 32, 33, 34, 35, 36, 37, 38, 39, 40, 41, 42, 43, 44, 45, 46, 47, 48, 49, 50, 51, 52, 53, 54, 55, 56, 57, 58, 59, 60, 61, 62]
@[push_cast] theorem W100_1_def : W100_1 = [6, 7, 8, 9, 28, 29, 30, 31, 32, 33, 34, 35, 36, 37, 38, 39, 40, 41, 42, 43, 44, 45, 46, 47, 48, 49, 50, 51, 52, 53, 54, 55, 56, 57, 58, 59, 60, 61, 62] := mk_eq rfl
def W100_2 : List Nat := [7, 8, 33, 34, 35, 36, 37, 38, 39, 40, 41, 42, 43, 44, 45, 46, 47, 48]
@[push_cast] theorem W100_2_def : W100_2 = [7, 8, 33, 34, 35, 36, 37, 38, 39, 40, 41, 42, 43, 44, 45, 46, 47, 48] := mk_eq rfl
def r100_0 : List VOp :=
  [⟨some 6, .assign (.const (.int .i64 20)), 3, none⟩]
def r100_1 : List VOp :=
  [mv 10 6 3,
   ⟨some 7, .assign (.const (.int .i64 0)), 3, none⟩,
   asg 8 10 3]
def r100_2 : List VOp :=
  [mv 11 8 3,
   mv 12 1 3,
   ⟨some 13, .binOp .leq 3 (.tmp 11) (.tmp 12) 3, 4, none⟩]
def r100_3 : List VOp :=
  [mv 14 0 25,
   mv 15 7 3,
   mv 16 8 3,
   mv 17 2 58,
   ⟨some 18, .call ⟨.value (.func 109), #[.tmp 14, .tmp 15, .tmp 16, .tmp 17], #[25, 3, 3, 58]⟩, 0, none⟩]
def r100_4 : List VOp :=
  [mv 19 8 3,
   asg 7 19 3]
def r100_5 : List VOp :=
  [mv 20 8 3,
   mv 21 6 3,
   ⟨some 22, .binOp .add 3 (.tmp 20) (.tmp 21) 3, 3, none⟩,
   asg 8 22 3]
def r100_6 : List VOp :=
  [mv 23 0 25,
   mv 24 7 3,
   mv 25 1 3,
   mv 26 2 58,
   ⟨some 27, .call ⟨.value (.func 109), #[.tmp 23, .tmp 24, .tmp 25, .tmp 26], #[25, 3, 3, 58]⟩, 0, none⟩]
def r100_7 : List VOp :=
  [mv 28 6 3,
   mv 29 1 3,
   ⟨some 30, .binOp .lss 3 (.tmp 28) (.tmp 29) 3, 4, none⟩]
def r100_8 : List VOp :=
  [mv 31 6 3,
   ⟨some 32, .binOp .mul 3 (.const (.int .i64 2)) (.tmp 31) 3, 3, none⟩,
   ⟨some 7, .assign (.const (.int .i64 0)), 3, none⟩,
   asg 8 32 3]
def r100_9 : List VOp :=
  [mv 33 8 3,
   mv 34 1 3,
   ⟨some 35, .binOp .leq 3 (.tmp 33) (.tmp 34) 3, 4, none⟩]
def r100_10 : List VOp :=
  [mv 36 0 25,
   mv 37 7 3,
   mv 38 7 3,
   mv 39 6 3,
   ⟨some 40, .binOp .add 3 (.tmp 38) (.tmp 39) 3, 3, none⟩,
   mv 41 8 3,
   mv 42 2 58,
   ⟨some 43, .call ⟨.value (.func 110), #[.tmp 36, .tmp 37, .tmp 40, .tmp 41, .tmp 42], #[25, 3, 3, 3, 58]⟩, 0, none⟩]
def r100_11 : List VOp :=
  [mv 44 8 3,
   asg 7 44 3]
def r100_12 : List VOp :=
  [mv 45 8 3,
   mv 46 6 3,
   ⟨some 47, .binOp .mul 3 (.const (.int .i64 2)) (.tmp 46) 3, 3, none⟩,
   ⟨some 48, .binOp .add 3 (.tmp 45) (.tmp 47) 3, 3, none⟩,
   asg 8 48 3]
def r100_13 : List VOp :=
  [mv 49 7 3,
   mv 50 6 3,
   ⟨some 51, .binOp .add 3 (.tmp 49) (.tmp 50) 3, 3, none⟩,
   asg 9 51 3]
def r100_14 : List VOp :=
  [mv 52 9 3,
   mv 53 1 3,
   ⟨some 54, .binOp .lss 3 (.tmp 52) (.tmp 53) 3, 4, none⟩]
def r100_15 : List VOp :=
  [mv 55 0 25,
   mv 56 7 3,
   mv 57 9 3,
   mv 58 1 3,
   mv 59 2 58,
   ⟨some 60, .call ⟨.value (.func 110), #[.tmp 55, .tmp 56, .tmp 57, .tmp 58, .tmp 59], #[25, 3, 3, 3, 58]⟩, 0, none⟩]
def r100_16 : List VOp :=
  [mv 61 6 3,
   ⟨some 62, .binOp .mul 3 (.tmp 61) (.const (.int .i64 2)) 3, 3, none⟩,
   asg 6 62 3]
def B100 : VC :=
  (.seq (.region r100_0) (.seq (.region r100_1) (.seq (.block 0 (.loop (.seq (.seq (.region r100_2) (.cond (.tmp 13) .skip (.exit 0))) (.block 1 (.seq (.region r100_3) (.seq (.region r100_4) (.region r100_5))))))) (.seq (.region r100_6) (.block 2 (.loop (.seq (.seq (.region r100_7) (.cond (.tmp 30) .skip (.exit 2))) (.block 3 (.seq (.region r100_8) (.seq (.block 4 (.loop (.seq (.seq (.region r100_9) (.cond (.tmp 35) .skip (.exit 4))) (.block 5 (.seq (.region r100_10) (.seq (.region r100_11) (.region r100_12))))))) (.seq (.seq (.region r100_13) (.seq (.region r100_14) (.cond (.tmp 54) (.region r100_15) .skip))) (.region r100_16))))))))))))
theorem code100 : ∃ c, Try.f100.body = some c ∧ abs Try.f100.ntmps c = B100 := ⟨_, rfl, by kernel_rfl⟩
theorem hb100 : HasBody Try.prog 100 := hasBody_of Try.func100 (by kernel_rfl)
theorem res100 : Try.f100.results = #[] := rfl
theorem enter100 {w : World} {R : Value → World → Prop} (x0 x1 x2 : Value) (h : vc Try.prog B100 (retK Try.prog #[] R) [] (initEnv [x0, x1, x2] 0) w) : FnC Try.prog 100 #[x0, x1, x2] w R := by
  obtain ⟨c, h1, h2⟩ := code100
  exact hb100.fn (ret_of_vc mixed Try.func100 h1 (Nat.le_of_ble_eq_true rfl) B100 h2 h)
@[push_cast] theorem vr100_0 : VR r100_0 [⟨some 6, .assign (.const (.int .i64 20)), 3, none⟩] := vR rfl
@[push_cast] theorem vr100_1 : VR r100_1 [⟨some 10, .move (.tmp 6), 3, none⟩, ⟨some 7, .assign (.const (.int .i64 0)), 3, none⟩, ⟨some 8, .assign (.tmp 10), 3, none⟩] := vR rfl
@[push_cast] theorem vr100_2 : VR r100_2 [⟨some 11, .move (.tmp 8), 3, none⟩, ⟨some 12, .move (.tmp 1), 3, none⟩, ⟨some 13, .binOp .leq 3 (.tmp 11) (.tmp 12) 3, 4, none⟩] := vR rfl
@[push_cast] theorem vr100_3 : VR r100_3 [⟨some 14, .move (.tmp 0), 25, none⟩, ⟨some 15, .move (.tmp 7), 3, none⟩, ⟨some 16, .move (.tmp 8), 3, none⟩, ⟨some 17, .move (.tmp 2), 58, none⟩, ⟨some 18, .call ⟨.value (.func 109), #[.tmp 14, .tmp 15, .tmp 16, .tmp 17], #[25, 3, 3, 58]⟩, 0, none⟩] := vR rfl
@[push_cast] theorem vr100_4 : VR r100_4 [⟨some 19, .move (.tmp 8), 3, none⟩, ⟨some 7, .assign (.tmp 19), 3, none⟩] := vR rfl
@[push_cast] theorem vr100_5 : VR r100_5 [⟨some 20, .move (.tmp 8), 3, none⟩, ⟨some 21, .move (.tmp 6), 3, none⟩, ⟨some 22, .binOp .add 3 (.tmp 20) (.tmp 21) 3, 3, none⟩, ⟨some 8, .assign (.tmp 22), 3, none⟩] := vR rfl
@[push_cast] theorem vr100_6 : VR r100_6 [⟨some 23, .move (.tmp 0), 25, none⟩, ⟨some 24, .move (.tmp 7), 3, none⟩, ⟨some 25, .move (.tmp 1), 3, none⟩, ⟨some 26, .move (.tmp 2), 58, none⟩, ⟨some 27, .call ⟨.value (.func 109), #[.tmp 23, .tmp 24, .tmp 25, .tmp 26], #[25, 3, 3, 58]⟩, 0, none⟩] := vR rfl
@[push_cast] theorem vr100_7 : VR r100_7 [⟨some 28, .move (.tmp 6), 3, none⟩, ⟨some 29, .move (.tmp 1), 3, none⟩, ⟨some 30, .binOp .lss 3 (.tmp 28) (.tmp 29) 3, 4, none⟩] := vR rfl
@[push_cast] theorem vr100_8 : VR r100_8 [⟨some 31, .move (.tmp 6), 3, none⟩, ⟨some 32, .binOp .mul 3 (.const (.int .i64 2)) (.tmp 31) 3, 3, none⟩, ⟨some 7, .assign (.const (.int .i64 0)), 3, none⟩, ⟨some 8, .assign (.tmp 32), 3, none⟩] := vR rfl
@[push_cast] theorem vr100_9 : VR r100_9 [⟨some 33, .move (.tmp 8), 3, none⟩, ⟨some 34, .move (.tmp 1), 3, none⟩, ⟨some 35, .binOp .leq 3 (.tmp 33) (.tmp 34) 3, 4, none⟩] := vR rfl
@[push_cast] theorem vr100_10 : VR r100_10 [⟨some 36, .move (.tmp 0), 25, none⟩, ⟨some 37, .move (.tmp 7), 3, none⟩, ⟨some 38, .move (.tmp 7), 3, none⟩, ⟨some 39, .move (.tmp 6), 3, none⟩, ⟨some 40, .binOp .add 3 (.tmp 38) (.tmp 39) 3, 3, none⟩, ⟨some 41, .move (.tmp 8), 3, none⟩, ⟨some 42, .move (.tmp 2), 58, none⟩, ⟨some 43, .call ⟨.value (.func 110), #[.tmp 36, .tmp 37, .tmp 40, .tmp 41, .tmp 42], #[25, 3, 3, 3, 58]⟩, 0, none⟩] := vR rfl
@[push_cast] theorem vr100_11 : VR r100_11 [⟨some 44, .move (.tmp 8), 3, none⟩, ⟨some 7, .assign (.tmp 44), 3, none⟩] := vR rfl
@[push_cast] theorem vr100_12 : VR r100_12 [⟨some 45, .move (.tmp 8), 3, none⟩, ⟨some 46, .move (.tmp 6), 3, none⟩, ⟨some 47, .binOp .mul 3 (.const (.int .i64 2)) (.tmp 46) 3, 3, none⟩, ⟨some 48, .binOp .add 3 (.tmp 45) (.tmp 47) 3, 3, none⟩, ⟨some 8, .assign (.tmp 48), 3, none⟩] := vR rfl
@[push_cast] theorem vr100_13 : VR r100_13 [⟨some 49, .move (.tmp 7), 3, none⟩, ⟨some 50, .move (.tmp 6), 3, none⟩, ⟨some 51, .binOp .add 3 (.tmp 49) (.tmp 50) 3, 3, none⟩, ⟨some 9, .assign (.tmp 51), 3, none⟩] := vR rfl
@[push_cast] theorem vr100_14 : VR r100_14 [⟨some 52, .move (.tmp 9), 3, none⟩, ⟨some 53, .move (.tmp 1), 3, none⟩, ⟨some 54, .binOp .lss 3 (.tmp 52) (.tmp 53) 3, 4, none⟩] := vR rfl
@[push_cast] theorem vr100_15 : VR r100_15 [⟨some 55, .move (.tmp 0), 25, none⟩, ⟨some 56, .move (.tmp 7), 3, none⟩, ⟨some 57, .move (.tmp 9), 3, none⟩, ⟨some 58, .move (.tmp 1), 3, none⟩, ⟨some 59, .move (.tmp 2), 58, none⟩, ⟨some 60, .call ⟨.value (.func 110), #[.tmp 55, .tmp 56, .tmp 57, .tmp 58, .tmp 59], #[25, 3, 3, 3, 58]⟩, 0, none⟩] := vR rfl
@[push_cast] theorem vr100_16 : VR r100_16 [⟨some 61, .move (.tmp 6), 3, none⟩, ⟨some 62, .binOp .mul 3 (.tmp 61) (.const (.int .i64 2)) 3, 3, none⟩, ⟨some 6, .assign (.tmp 62), 3, none⟩] := vR rfl
/-! 101 cmp.isNaN[int] (params #[3], results #[(.tmp 2)], 6 slots) -/
def r101_0 : List VOp :=
  [⟨some 2, .assign (.const (.bool false)), 4, none⟩]
def r101_1 : List VOp :=
  [mv 3 0 3,
   mv 4 0 3,
   ⟨some 5, .binOp .neq 3 (.tmp 3) (.tmp 4) 3, 4, none⟩,
   asg 2 5 4]
def B101 : VC :=
  (.seq (.region r101_0) (.seq (.region r101_1) .ret))
theorem code101 : ∃ c, Try.f101.body = some c ∧ abs Try.f101.ntmps c = B101 := ⟨_, rfl, by kernel_rfl⟩
theorem hb101 : HasBody Try.prog 101 := hasBody_of Try.func101 (by kernel_rfl)
theorem res101 : Try.f101.results = #[(.tmp 2)] := rfl
theorem enter101 {w : World} {R : Value → World → Prop} (x0 : Value) (h : vc Try.prog B101 (retK Try.prog #[(.tmp 2)] R) [] (initEnv [x0] 0) w) : FnC Try.prog 101 #[x0] w R := by
  obtain ⟨c, h1, h2⟩ := code101
  exact hb101.fn (ret_of_vc mixed Try.func101 h1 (Nat.le_of_ble_eq_true rfl) B101 h2 h)
@[push_cast] theorem vr101_0 : VR r101_0 [⟨some 2, .assign (.const (.bool false)), 4, none⟩] := vR rfl
@[push_cast] theorem vr101_1 : VR r101_1 [⟨some 3, .move (.tmp 0), 3, none⟩, ⟨some 4, .move (.tmp 0), 3, none⟩, ⟨some 5, .binOp .neq 3 (.tmp 3) (.tmp 4) 3, 4, none⟩, ⟨some 2, .assign (.tmp 5), 4, none⟩] := vR rfl
/-! 102 cmp.Compare[string] (params #[9, 9], results #[(.tmp 4)], 20 slots) -/
def r102_0 : List VOp :=
  [⟨some 4, .assign (.const (.int .i64 0)), 3, none⟩]
def r102_1 : List VOp :=
  [mv 7 0 9,
   ⟨some 8, .call ⟨.value (.func 111), #[.tmp 7], #[9]⟩, 4, none⟩,
   asg 5 8 4]
def r102_2 : List VOp :=
  [mv 9 1 9,
   ⟨some 10, .call ⟨.value (.func 111), #[.tmp 9], #[9]⟩, 4, none⟩,
   asg 6 10 4]
def r102_3 : List VOp :=
  [mv 11 5 4]
def r102_4 : List VOp :=
  [mv 12 6 4]
def r102_5 : List VOp :=
  [⟨some 4, .assign (.const (.int .i64 0)), 3, none⟩]
def r102_6 : List VOp :=
  [⟨some 4, .assign (.const (.int .i64 (-1))), 3, none⟩]
def r102_7 : List VOp :=
  [mv 13 6 4]
def r102_8 : List VOp :=
  [⟨some 4, .assign (.const (.int .i64 1)), 3, none⟩]
def r102_9 : List VOp :=
  [mv 14 0 9,
   mv 15 1 9,
   ⟨some 16, .binOp .lss 9 (.tmp 14) (.tmp 15) 9, 4, none⟩]
def r102_10 : List VOp :=
  [⟨some 4, .assign (.const (.int .i64 (-1))), 3, none⟩]
def r102_11 : List VOp :=
  [mv 17 0 9,
   mv 18 1 9,
   ⟨some 19, .binOp .gtr 9 (.tmp 17) (.tmp 18) 9, 4, none⟩]
def r102_12 : List VOp :=
  [⟨some 4, .assign (.const (.int .i64 1)), 3, none⟩]
def r102_13 : List VOp :=
  [⟨some 4, .assign (.const (.int .i64 0)), 3, none⟩]
def B102 : VC :=
  (.seq (.region r102_0) (.seq (.region r102_1) (.seq (.region r102_2) (.seq (.seq (.region r102_3) (.cond (.tmp 11) (.seq (.seq (.region r102_4) (.cond (.tmp 12) (.seq (.region r102_5) .ret) .skip)) (.seq (.region r102_6) .ret)) .skip)) (.seq (.seq (.region r102_7) (.cond (.tmp 13) (.seq (.region r102_8) .ret) .skip)) (.seq (.seq (.region r102_9) (.cond (.tmp 16) (.seq (.region r102_10) .ret) .skip)) (.seq (.seq (.region r102_11) (.cond (.tmp 19) (.seq (.region r102_12) .ret) .skip)) (.seq (.region r102_13) .ret))))))))
theorem code102 : ∃ c, Try.f102.body = some c ∧ abs Try.f102.ntmps c = B102 := ⟨_, rfl, by kernel_rfl⟩
theorem hb102 : HasBody Try.prog 102 := hasBody_of Try.func102 (by kernel_rfl)
theorem res102 : Try.f102.results = #[(.tmp 4)] := rfl
theorem enter102 {w : World} {R : Value → World → Prop} (x0 x1 : Value) (h : vc Try.prog B102 (retK Try.prog #[(.tmp 4)] R) [] (initEnv [x0, x1] 0) w) : FnC Try.prog 102 #[x0, x1] w R := by
  obtain ⟨c, h1, h2⟩ := code102
  exact hb102.fn (ret_of_vc mixed Try.func102 h1 (Nat.le_of_ble_eq_true rfl) B102 h2 h)
@[push_cast] theorem vr102_0 : VR r102_0 [⟨some 4, .assign (.const (.int .i64 0)), 3, none⟩] := vR rfl
@[push_cast] theorem vr102_1 : VR r102_1 [⟨some 7, .move (.tmp 0), 9, none⟩, ⟨some 8, .call ⟨.value (.func 111), #[.tmp 7], #[9]⟩, 4, none⟩, ⟨some 5, .assign (.tmp 8), 4, none⟩] := vR rfl
@[push_cast] theorem vr102_2 : VR r102_2 [⟨some 9, .move (.tmp 1), 9, none⟩, ⟨some 10, .call ⟨.value (.func 111), #[.tmp 9], #[9]⟩, 4, none⟩, ⟨some 6, .assign (.tmp 10), 4, none⟩] := vR rfl
@[push_cast] theorem vr102_3 : VR r102_3 [⟨some 11, .move (.tmp 5), 4, none⟩] := vR rfl
@[push_cast] theorem vr102_4 : VR r102_4 [⟨some 12, .move (.tmp 6), 4, none⟩] := vR rfl
@[push_cast] theorem vr102_5 : VR r102_5 [⟨some 4, .assign (.const (.int .i64 0)), 3, none⟩] := vR rfl
@[push_cast] theorem vr102_6 : VR r102_6 [⟨some 4, .assign (.const (.int .i64 (-1))), 3, none⟩] := vR rfl
@[push_cast] theorem vr102_7 : VR r102_7 [⟨some 13, .move (.tmp 6), 4, none⟩] := vR rfl
@[push_cast] theorem vr102_8 : VR r102_8 [⟨some 4, .assign (.const (.int .i64 1)), 3, none⟩] := vR rfl
@[push_cast] theorem vr102_9 : VR r102_9 [⟨some 14, .move (.tmp 0), 9, none⟩, ⟨some 15, .move (.tmp 1), 9, none⟩, ⟨some 16, .binOp .lss 9 (.tmp 14) (.tmp 15) 9, 4, none⟩] := vR rfl
@[push_cast] theorem vr102_10 : VR r102_10 [⟨some 4, .assign (.const (.int .i64 (-1))), 3, none⟩] := vR rfl
@[push_cast] theorem vr102_11 : VR r102_11 [⟨some 17, .move (.tmp 0), 9, none⟩, ⟨some 18, .move (.tmp 1), 9, none⟩, ⟨some 19, .binOp .gtr 9 (.tmp 17) (.tmp 18) 9, 4, none⟩] := vR rfl
@[push_cast] theorem vr102_12 : VR r102_12 [⟨some 4, .assign (.const (.int .i64 1)), 3, none⟩] := vR rfl
@[push_cast] theorem vr102_13 : VR r102_13 [⟨some 4, .assign (.const (.int .i64 0)), 3, none⟩] := vR rfl
/-! 103 columbary/columbaryref10.words (params #[], results #[(.tmp 0)], 2 slots) -/
def r103_0 : List VOp :=
  [⟨some 0, .assign (.const (.slice none 0 0)), 22, none⟩]
def r103_1 : List VOp :=
  [⟨some 1, .buildSlice 22 20 #[(0, (.const (.string { data := #[99, 111, 117, 110, 116] }))), (1, (.const (.string { data := #[115, 117, 109] }))), (2, (.const (.string { data := #[109, 105, 110] }))), (3, (.const (.string { data := #[109, 97, 120] }))), (4, (.const (.string { data := #[102, 114, 111, 109] }))), (5, (.const (.string { data := #[116, 111] }))), (6, (.const (.string { data := #[98, 121] }))), (7, (.const (.string { data := #[101, 118, 101, 114, 121] }))), (8, (.const (.string { data := #[119, 104, 101, 114, 101] }))), (9, (.const (.string { data := #[104, 97, 118, 105, 110, 103] }))), (10, (.const (.string { data := #[111, 114, 100, 101, 114] }))), (11, (.const (.string { data := #[108, 105, 109, 105, 116] }))), (12, (.const (.string { data := #[97, 110, 100] }))), (13, (.const (.string { data := #[111, 114] }))), (14, (.const (.string { data := #[110, 111, 116] }))), (15, (.const (.string { data := #[105, 115] }))), (16, (.const (.string { data := #[110, 117, 108, 108] }))), (17, (.const (.string { data := #[97, 115, 99] }))), (18, (.const (.string { data := #[100, 101, 115, 99] }))), (19, (.const (.string { data := #[115, 101, 108, 101, 99, 116] })))], 22, none⟩,
   asg 0 1 22]
def B103 : VC :=
  (.seq (.region r103_0) (.seq (.region r103_1) .ret))
theorem code103 : ∃ c, Try.f103.body = some c ∧ abs Try.f103.ntmps c = B103 := ⟨_, rfl, by kernel_rfl⟩
theorem hb103 : HasBody Try.prog 103 := hasBody_of Try.func103 (by kernel_rfl)
theorem res103 : Try.f103.results = #[(.tmp 0)] := rfl
theorem enter103 {w : World} {R : Value → World → Prop} (h : vc Try.prog B103 (retK Try.prog #[(.tmp 0)] R) [] (initEnv [] 0) w) : FnC Try.prog 103 #[] w R := by
  obtain ⟨c, h1, h2⟩ := code103
  exact hb103.fn (ret_of_vc mixed Try.func103 h1 (Nat.le_of_ble_eq_true rfl) B103 h2 h)
@[push_cast] theorem vr103_0 : VR r103_0 [⟨some 0, .assign (.const (.slice none 0 0)), 22, none⟩] := vR rfl
@[push_cast] theorem vr103_1 : VR r103_1 [⟨some 1, .buildSlice 22 20 #[(0, (.const (.string { data := #[99, 111, 117, 110, 116] }))), (1, (.const (.string { data := #[115, 117, 109] }))), (2, (.const (.string { data := #[109, 105, 110] }))), (3, (.const (.string { data := #[109, 97, 120] }))), (4, (.const (.string { data := #[102, 114, 111, 109] }))), (5, (.const (.string { data := #[116, 111] }))), (6, (.const (.string { data := #[98, 121] }))), (7, (.const (.string { data := #[101, 118, 101, 114, 121] }))), (8, (.const (.string { data := #[119, 104, 101, 114, 101] }))), (9, (.const (.string { data := #[104, 97, 118, 105, 110, 103] }))), (10, (.const (.string { data := #[111, 114, 100, 101, 114] }))), (11, (.const (.string { data := #[108, 105, 109, 105, 116] }))), (12, (.const (.string { data := #[97, 110, 100] }))), (13, (.const (.string { data := #[111, 114] }))), (14, (.const (.string { data := #[110, 111, 116] }))), (15, (.const (.string { data := #[105, 115] }))), (16, (.const (.string { data := #[110, 117, 108, 108] }))), (17, (.const (.string { data := #[97, 115, 99] }))), (18, (.const (.string { data := #[100, 101, 115, 99] }))), (19, (.const (.string { data := #[115, 101, 108, 101, 99, 116] })))], 22, none⟩, ⟨some 0, .assign (.tmp 1), 22, none⟩] := vR rfl
/-! 106 slices.IndexFunc[[]int,int] (params #[47, 68], results #[(.tmp 4)], 19 slots) -/
def W106_0 : List Nat := [4, 5, 8, 9, 10, 11, 12, 13, 14, 15, 16, 17, 18]
@[push_cast] theorem W106_0_def : W106_0 = [4, 5, 8, 9, 10, 11, 12, 13, 14, 15, 16, 17, 18] := mk_eq rfl
def r106_0 : List VOp :=
  [⟨some 4, .assign (.const (.int .i64 0)), 3, none⟩]
def r106_1 : List VOp :=
  [mv 6 0 47,
   ⟨some 7, .call ⟨.builtin .len, #[.tmp 6], #[47]⟩, 3, none⟩,
   ⟨some 8, .move (.const (.int .i64 0)), 3, none⟩]
def r106_2 : List VOp :=
  [⟨some 9, .binOp .lss 3 (.tmp 8) (.tmp 7) 3, 0, none⟩]
def r106_3 : List VOp :=
  [mv 10 8 3,
   asg 5 10 3]
def r106_4 : List VOp :=
  [mv 11 1 68,
   mv 12 0 47,
   mv 13 5 3,
   iad 14 47 12 13,
   lda 15 3 14,
   ⟨some 16, .call ⟨.value (.tmp 11), #[.tmp 15], #[3]⟩, 4, none⟩]
def r106_5 : List VOp :=
  [mv 17 5 3,
   asg 4 17 3]
def r106_6 : List VOp :=
  [⟨some 18, .binOp .add 3 (.tmp 8) (.const (.int .i64 1)) 3, 3, none⟩,
   mv 8 18 3]
def r106_7 : List VOp :=
  [⟨some 4, .assign (.const (.int .i64 (-1))), 3, none⟩]
def B106 : VC :=
  (.seq (.region r106_0) (.seq (.seq (.region r106_1) (.block 0 (.loop (.seq (.region r106_2) (.seq (.cond (.tmp 9) .skip (.exit 0)) (.seq (.block 1 (.seq (.region r106_3) (.seq (.region r106_4) (.cond (.tmp 16) (.seq (.region r106_5) .ret) .skip)))) (.region r106_6))))))) (.seq (.region r106_7) .ret)))
theorem code106 : ∃ c, Try.f106.body = some c ∧ abs Try.f106.ntmps c = B106 := ⟨_, rfl, by kernel_rfl⟩
theorem hb106 : HasBody Try.prog 106 := hasBody_of Try.func106 (by kernel_rfl)
theorem res106 : Try.f106.results = #[(.tmp 4)] := rfl
theorem enter106 {w : World} {R : Value → World → Prop} (x0 x1 : Value) (h : vc Try.prog B106 (retK Try.prog #[(.tmp 4)] R) [] (initEnv [x0, x1] 0) w) : FnC Try.prog 106 #[x0, x1] w R := by
  obtain ⟨c, h1, h2⟩ := code106
  exact hb106.fn (ret_of_vc mixed Try.func106 h1 (Nat.le_of_ble_eq_true rfl) B106 h2 h)
@[push_cast] theorem vr106_0 : VR r106_0 [⟨some 4, .assign (.const (.int .i64 0)), 3, none⟩] := vR rfl
@[push_cast] theorem vr106_1 : VR r106_1 [⟨some 6, .move (.tmp 0), 47, none⟩, ⟨some 7, .call ⟨.builtin .len, #[.tmp 6], #[47]⟩, 3, none⟩, ⟨some 8, .move (.const (.int .i64 0)), 3, none⟩] := vR rfl
@[push_cast] theorem vr106_2 : VR r106_2 [⟨some 9, .binOp .lss 3 (.tmp 8) (.tmp 7) 3, 0, none⟩] := vR rfl
@[push_cast] theorem vr106_3 : VR r106_3 [⟨some 10, .move (.tmp 8), 3, none⟩, ⟨some 5, .assign (.tmp 10), 3, none⟩] := vR rfl
@[push_cast] theorem vr106_4 : VR r106_4 [⟨some 11, .move (.tmp 1), 68, none⟩, ⟨some 12, .move (.tmp 0), 47, none⟩, ⟨some 13, .move (.tmp 5), 3, none⟩, ⟨some 14, .indexAddr 47 (.tmp 12) (.tmp 13), 0, none⟩, ⟨some 15, .load 3 (.tmp 14), 3, none⟩, ⟨some 16, .call ⟨.value (.tmp 11), #[.tmp 15], #[3]⟩, 4, none⟩] := vR rfl
@[push_cast] theorem vr106_5 : VR r106_5 [⟨some 17, .move (.tmp 5), 3, none⟩, ⟨some 4, .assign (.tmp 17), 3, none⟩] := vR rfl
@[push_cast] theorem vr106_6 : VR r106_6 [⟨some 18, .binOp .add 3 (.tmp 8) (.const (.int .i64 1)) 3, 3, none⟩, ⟨some 8, .move (.tmp 18), 3, none⟩] := vR rfl
@[push_cast] theorem vr106_7 : VR r106_7 [⟨some 4, .assign (.const (.int .i64 (-1))), 3, none⟩] := vR rfl
/-! 109 slices.insertionSortCmpFunc[columbary/api.Row] (params #[25, 3, 3, 58], results #[], 53 slots) -/
def W109_0 : List Nat := [8, 9, 12, 13, 14, 15, 16, 17, 18, 19, 20, 21, 22, 23, 24, 25, 26, 27, 28, 29, 30, 31, 32, 33, 34, 35, 36, 37, 38, 39, 40, 41, 42, 43, 44, 45, 46, 47, 48, 49, 50, 51, 52]
@[push_cast] theorem W109_0_def : W109_0 = [8, 9, 12, 13, 14, 15, 16, 17, 18, 19, 20, 21, 22, 23, 24, 25, 26, 27, 28, 29, 30, 31, 32, 33, 34, 35, 36, 37, 38, 39, 40, 41, 42, 43, 44, 45, 46, 47, 48, 49, 50, 51, 52] := mk_eq rfl
def W109_1 : List Nat := [9, 18, 19, 20, 21, 22, 23, 24, 25, 26, 27, 28, 29, 30, 31, 32, 33, 34, 35, 36, 37, 38, 39, 40, 41, 42, 43, 44, 45, 46, 47, 48, 49, 50, 51, 52]
@[push_cast] theorem W109_1_def : W109_1 = [9, 18, 19, 20, 21, 22, 23, 24, 25, 26, 27, 28, 29, 30, 31, 32, 33, 34, 35, 36, 37, 38, 39, 40, 41, 42, 43, 44, 45, 46, 47, 48, 49, 50, 51, 52] := mk_eq rfl
def r109_0 : List VOp :=
  [mv 10 1 3,
   ⟨some 11, .binOp .add 3 (.tmp 10) (.const (.int .i64 1)) 3, 3, none⟩,
   asg 8 11 3]
def r109_1 : List VOp :=
  [mv 12 8 3,
   mv 13 2 3,
   ⟨some 14, .binOp .lss 3 (.tmp 12) (.tmp 13) 3, 4, none⟩]
def r109_3 : List VOp :=
  [mv 17 8 3,
   asg 9 17 3]
def r109_4 : List VOp :=
  [mv 18 9 3,
   mv 19 1 3,
   ⟨some 20, .binOp .gtr 3 (.tmp 18) (.tmp 19) 3, 4, none⟩,
   mv 21 20 4,
   ⟨some 22, .move (.tmp 3), 58, some (21, true)⟩,
   ⟨some 23, .move (.tmp 0), 25, some (21, true)⟩,
   ⟨some 24, .move (.tmp 9), 3, some (21, true)⟩,
   ⟨some 25, .indexAddr 25 (.tmp 23) (.tmp 24), 0, some (21, true)⟩,
   ⟨some 26, .load 35 (.tmp 25), 35, some (21, true)⟩,
   ⟨some 27, .move (.tmp 0), 25, some (21, true)⟩,
   ⟨some 28, .move (.tmp 9), 3, some (21, true)⟩,
   ⟨some 29, .binOp .sub 3 (.tmp 28) (.const (.int .i64 1)) 3, 3, some (21, true)⟩,
   ⟨some 30, .indexAddr 25 (.tmp 27) (.tmp 29), 0, some (21, true)⟩,
   ⟨some 31, .load 35 (.tmp 30), 35, some (21, true)⟩,
   ⟨some 32, .call ⟨.value (.tmp 22), #[.tmp 26, .tmp 31], #[35, 35]⟩, 3, some (21, true)⟩,
   ⟨some 33, .binOp .lss 3 (.tmp 32) (.const (.int .i64 0)) 3, 4, some (21, true)⟩,
   ⟨some 34, .pick (.tmp 21) (.tmp 33) (.const (.bool false)), 4, none⟩]
def r109_6 : List VOp :=
  [mv 37 0 25,
   mv 38 9 3,
   mv 39 0 25,
   mv 40 9 3,
   ⟨some 41, .binOp .sub 3 (.tmp 40) (.const (.int .i64 1)) 3, 3, none⟩,
   mv 42 0 25,
   mv 43 9 3,
   ⟨some 44, .binOp .sub 3 (.tmp 43) (.const (.int .i64 1)) 3, 3, none⟩,
   iad 45 25 42 44,
   lda 46 35 45,
   mv 47 0 25,
   mv 48 9 3,
   iad 49 25 47 48,
   lda 50 35 49,
   iad 51 25 37 38,
   ⟨none, .store 35 (.tmp 51) (.tmp 46), 0, none⟩,
   iad 52 25 39 41,
   ⟨none, .store 35 (.tmp 52) (.tmp 50), 0, none⟩]
def r109_5 : List VOp :=
  [mv 35 9 3,
   ⟨some 36, .binOp .sub 3 (.tmp 35) (.const (.int .i64 1)) 3, 3, none⟩,
   asg 9 36 3]
def r109_2 : List VOp :=
  [mv 15 8 3,
   ⟨some 16, .binOp .add 3 (.tmp 15) (.const (.int .i64 1)) 3, 3, none⟩,
   asg 8 16 3]
def B109 : VC :=
  (.seq (.region r109_0) (.block 0 (.loop (.seq (.seq (.region r109_1) (.cond (.tmp 14) .skip (.exit 0))) (.seq (.block 1 (.seq (.region r109_3) (.block 2 (.loop (.seq (.seq (.draw r109_4 4) (.cond (.tmp 34) .skip (.exit 2))) (.seq (.block 3 (.drawS r109_6 3 [39, 40, 41])) (.region r109_5))))))) (.region r109_2))))))
theorem code109 : ∃ c, Try.f109.body = some c ∧ abs Try.f109.ntmps c = B109 := ⟨_, rfl, by kernel_rfl⟩
theorem hb109 : HasBody Try.prog 109 := hasBody_of Try.func109 (by kernel_rfl)
theorem res109 : Try.f109.results = #[] := rfl
theorem enter109 {w : World} {R : Value → World → Prop} (x0 x1 x2 x3 : Value) (h : vc Try.prog B109 (retK Try.prog #[] R) [] (initEnv [x0, x1, x2, x3] 0) w) : FnC Try.prog 109 #[x0, x1, x2, x3] w R := by
  obtain ⟨c, h1, h2⟩ := code109
  exact hb109.fn (ret_of_vc mixed Try.func109 h1 (Nat.le_of_ble_eq_true rfl) B109 h2 h)
@[push_cast] theorem vr109_0 : VR r109_0 [⟨some 10, .move (.tmp 1), 3, none⟩, ⟨some 11, .binOp .add 3 (.tmp 10) (.const (.int .i64 1)) 3, 3, none⟩, ⟨some 8, .assign (.tmp 11), 3, none⟩] := vR rfl
@[push_cast] theorem vr109_1 : VR r109_1 [⟨some 12, .move (.tmp 8), 3, none⟩, ⟨some 13, .move (.tmp 2), 3, none⟩, ⟨some 14, .binOp .lss 3 (.tmp 12) (.tmp 13) 3, 4, none⟩] := vR rfl
@[push_cast] theorem vr109_3 : VR r109_3 [⟨some 17, .move (.tmp 8), 3, none⟩, ⟨some 9, .assign (.tmp 17), 3, none⟩] := vR rfl
@[push_cast] theorem vr109_4 : vc Try.prog (.draw r109_4 4) Q ds σ w = drawn Try.prog [(⟨some 18, .move (.tmp 9), 3, none⟩, [9]), (⟨some 19, .move (.tmp 1), 3, none⟩, [1]), (⟨some 20, .binOp .gtr 3 (.tmp 18) (.tmp 19) 3, 4, none⟩, [18, 19]), (⟨some 21, .move (.tmp 20), 4, none⟩, [20]), (⟨some 22, .move (.tmp 3), 58, some (21, true)⟩, [3, 21]), (⟨some 23, .move (.tmp 0), 25, some (21, true)⟩, [0, 21]), (⟨some 24, .move (.tmp 9), 3, some (21, true)⟩, [9, 21]), (⟨some 25, .indexAddr 25 (.tmp 23) (.tmp 24), 0, some (21, true)⟩, [23, 24, 21]), (⟨some 26, .load 35 (.tmp 25), 35, some (21, true)⟩, [25, 21]), (⟨some 27, .move (.tmp 0), 25, some (21, true)⟩, [0, 21]), (⟨some 28, .move (.tmp 9), 3, some (21, true)⟩, [9, 21]), (⟨some 29, .binOp .sub 3 (.tmp 28) (.const (.int .i64 1)) 3, 3, some (21, true)⟩, [28, 21]), (⟨some 30, .indexAddr 25 (.tmp 27) (.tmp 29), 0, some (21, true)⟩, [27, 29, 21]), (⟨some 31, .load 35 (.tmp 30), 35, some (21, true)⟩, [30, 21]), (⟨some 32, .call ⟨.value (.tmp 22), #[.tmp 26, .tmp 31], #[35, 35]⟩, 3, some (21, true)⟩, [22, 26, 31, 21]), (⟨some 33, .binOp .lss 3 (.tmp 32) (.const (.int .i64 0)) 3, 4, some (21, true)⟩, [32, 21]), (⟨some 34, .pick (.tmp 21) (.tmp 33) (.const (.bool false)), 4, none⟩, [21, 33])] 4 (Q .normal ds) σ w := mk_eq rfl
@[push_cast] theorem vr109_6 : vc Try.prog (.drawS r109_6 3 [39, 40, 41]) Q ds σ w = drawnS Try.prog [(⟨some 37, .move (.tmp 0), 25, none⟩, [0]), (⟨some 38, .move (.tmp 9), 3, none⟩, [9]), (⟨some 39, .move (.tmp 0), 25, none⟩, [0]), (⟨some 40, .move (.tmp 9), 3, none⟩, [9]), (⟨some 41, .binOp .sub 3 (.tmp 40) (.const (.int .i64 1)) 3, 3, none⟩, [40]), (⟨some 42, .move (.tmp 0), 25, none⟩, [0]), (⟨some 43, .move (.tmp 9), 3, none⟩, [9]), (⟨some 44, .binOp .sub 3 (.tmp 43) (.const (.int .i64 1)) 3, 3, none⟩, [43]), (⟨some 45, .indexAddr 25 (.tmp 42) (.tmp 44), 0, none⟩, [42, 44]), (⟨some 46, .load 35 (.tmp 45), 35, none⟩, [45]), (⟨some 47, .move (.tmp 0), 25, none⟩, [0]), (⟨some 48, .move (.tmp 9), 3, none⟩, [9]), (⟨some 49, .indexAddr 25 (.tmp 47) (.tmp 48), 0, none⟩, [47, 48]), (⟨some 50, .load 35 (.tmp 49), 35, none⟩, [49]), (⟨some 51, .indexAddr 25 (.tmp 37) (.tmp 38), 0, none⟩, [37, 38]), (⟨none, .store 35 (.tmp 51) (.tmp 46), 0, none⟩, [51, 46]), (⟨some 52, .indexAddr 25 (.tmp 39) (.tmp 41), 0, none⟩, [39, 41]), (⟨none, .store 35 (.tmp 52) (.tmp 50), 0, none⟩, [52, 50])] 3 [39, 40, 41] (Q .normal ds) σ w := mk_eq rfl
@[push_cast] theorem vr109_5 : VR r109_5 [⟨some 35, .move (.tmp 9), 3, none⟩, ⟨some 36, .binOp .sub 3 (.tmp 35) (.const (.int .i64 1)) 3, 3, none⟩, ⟨some 9, .assign (.tmp 36), 3, none⟩] := vR rfl
@[push_cast] theorem vr109_2 : VR r109_2 [⟨some 15, .move (.tmp 8), 3, none⟩, ⟨some 16, .binOp .add 3 (.tmp 15) (.const (.int .i64 1)) 3, 3, none⟩, ⟨some 8, .assign (.tmp 16), 3, none⟩] := vR rfl
/-! 110 slices.symMergeCmpFunc[columbary/api.Row] (params #[25, 3, 3, 3, 58], results #[], 220 slots) -/
def W110_0 : List Nat := [10, 11, 12, 31, 32, 33, 34, 35, 36, 37, 38, 39, 40, 41, 42, 43, 44, 45, 46, 47, 48, 49, 50, 51, 52, 53]
@[push_cast] theorem W110_0_def : W110_0 = [10, 11, 12, 31, 32, 33, 34, 35, 36, 37, 38, 39, 40, 41, 42, 43, 44, 45, 46, 47, 48, 49, 50, 51, 52, 53] := mk_eq rfl
def W110_1 : List Nat := [13, 55, 56, 57, 58, 59, 60, 61, 62, 63, 64, 65, 66, 67, 68, 69, 70, 71, 72, 73, 74, 75, 76]
@[push_cast] theorem W110_1_def : W110_1 = [13, 55, 56, 57, 58, 59, 60, 61, 62, 63, 64, 65, 66, 67, 68, 69, 70, 71, 72, 73, 74, 75, 76] := mk_eq rfl
def W110_2 : List Nat := [14, 15, 16, 83, 84, 85, 86, 87, 88, 89, 90, 91, 92, 93, 94, 95, 96, 97, 98, 99, 100, 101, 102, 103, 104, 105, 106]
@[push_cast] theorem W110_2_def : W110_2 = [14, 15, 16, 83, 84, 85, 86, 87, 88, 89, 90, 91, 92, 93, 94, 95, 96, 97, 98, 99, 100, 101, 102, 103, 104, 105, 106] := mk_eq rfl
def W110_3 : List Nat := [17, 108, 109, 110, 111, 112, 113, 114, 115, 116, 117, 118, 119, 120, 121, 122, 123, 124, 125, 126, 127, 128]
@[push_cast] theorem W110_3_def : W110_3 = [17, 108, 109, 110, 111, 112, 113, 114, 115, 116, 117, 118, 119, 120, 121, 122, 123, 124, 125, 126, 127, 128] := mk_eq rfl
def W110_4 : List Nat := [20, 21, 23, 149, 150, 151, 152, 153, 154, 155, 156, 157, 158, 159, 160, 161, 162, 163, 164, 165, 166, 167, 168, 169, 170, 171, 172, 173, 174]
@[push_cast] theorem W110_4_def : W110_4 = [20, 21, 23, 149, 150, 151, 152, 153, 154, 155, 156, 157, 158, 159, 160, 161, 162, 163, 164, 165, 166, 167, 168, 169, 170, 171, 172, 173, 174] := mk_eq rfl
def r110_0 : List VOp :=
  [mv 25 2 3,
   mv 26 1 3,
   ⟨some 27, .binOp .sub 3 (.tmp 25) (.tmp 26) 3, 3, none⟩,
   ⟨some 28, .binOp .eql 3 (.tmp 27) (.const (.int .i64 1)) 3, 4, none⟩]
def r110_1 : List VOp :=
  [mv 29 2 3,
   asg 10 29 3]
def r110_2 : List VOp :=
  [mv 30 3 3,
   asg 11 30 3]
def r110_3 : List VOp :=
  [mv 31 10 3,
   mv 32 11 3,
   ⟨some 33, .binOp .lss 3 (.tmp 31) (.tmp 32) 3, 4, none⟩]
def r110_4 : List VOp :=
  [mv 34 10 3,
   mv 35 11 3,
   ⟨some 36, .binOp .add 3 (.tmp 34) (.tmp 35) 3, 3, none⟩,
   ⟨some 37, .convert 3 123 (.tmp 36), 123, none⟩,
   ⟨some 38, .binOp .shr 123 (.tmp 37) (.const (.int .u64 1)) 123, 123, none⟩,
   ⟨some 39, .convert 123 3 (.tmp 38), 3, none⟩,
   asg 12 39 3]
def r110_5 : List VOp :=
  [mv 40 4 58,
   mv 41 0 25,
   mv 42 12 3,
   iad 43 25 41 42,
   lda 44 35 43,
   mv 45 0 25,
   mv 46 1 3,
   iad 47 25 45 46,
   lda 48 35 47,
   ⟨some 49, .call ⟨.value (.tmp 40), #[.tmp 44, .tmp 48], #[35, 35]⟩, 3, none⟩,
   ⟨some 50, .binOp .lss 3 (.tmp 49) (.const (.int .i64 0)) 3, 4, none⟩]
def r110_6 : List VOp :=
  [mv 51 12 3,
   ⟨some 52, .binOp .add 3 (.tmp 51) (.const (.int .i64 1)) 3, 3, none⟩,
   asg 10 52 3]
def r110_7 : List VOp :=
  [mv 53 12 3,
   asg 11 53 3]
def r110_8 : List VOp :=
  [mv 54 1 3,
   asg 13 54 3]
def r110_9 : List VOp :=
  [mv 55 13 3,
   mv 56 10 3,
   ⟨some 57, .binOp .sub 3 (.tmp 56) (.const (.int .i64 1)) 3, 3, none⟩,
   ⟨some 58, .binOp .lss 3 (.tmp 55) (.tmp 57) 3, 4, none⟩]
def r110_11 : List VOp :=
  [mv 61 0 25,
   mv 62 13 3,
   mv 63 0 25,
   mv 64 13 3,
   ⟨some 65, .binOp .add 3 (.tmp 64) (.const (.int .i64 1)) 3, 3, none⟩,
   mv 66 0 25,
   mv 67 13 3,
   ⟨some 68, .binOp .add 3 (.tmp 67) (.const (.int .i64 1)) 3, 3, none⟩,
   iad 69 25 66 68,
   lda 70 35 69,
   mv 71 0 25,
   mv 72 13 3,
   iad 73 25 71 72,
   lda 74 35 73,
   iad 75 25 61 62,
   ⟨none, .store 35 (.tmp 75) (.tmp 70), 0, none⟩,
   iad 76 25 63 65,
   ⟨none, .store 35 (.tmp 76) (.tmp 74), 0, none⟩]
def r110_10 : List VOp :=
  [mv 59 13 3,
   ⟨some 60, .binOp .add 3 (.tmp 59) (.const (.int .i64 1)) 3, 3, none⟩,
   asg 13 60 3]
def r110_12 : List VOp :=
  [mv 77 3 3,
   mv 78 2 3,
   ⟨some 79, .binOp .sub 3 (.tmp 77) (.tmp 78) 3, 3, none⟩,
   ⟨some 80, .binOp .eql 3 (.tmp 79) (.const (.int .i64 1)) 3, 4, none⟩]
def r110_13 : List VOp :=
  [mv 81 1 3,
   asg 14 81 3]
def r110_14 : List VOp :=
  [mv 82 2 3,
   asg 15 82 3]
def r110_15 : List VOp :=
  [mv 83 14 3,
   mv 84 15 3,
   ⟨some 85, .binOp .lss 3 (.tmp 83) (.tmp 84) 3, 4, none⟩]
def r110_16 : List VOp :=
  [mv 86 14 3,
   mv 87 15 3,
   ⟨some 88, .binOp .add 3 (.tmp 86) (.tmp 87) 3, 3, none⟩,
   ⟨some 89, .convert 3 123 (.tmp 88), 123, none⟩,
   ⟨some 90, .binOp .shr 123 (.tmp 89) (.const (.int .u64 1)) 123, 123, none⟩,
   ⟨some 91, .convert 123 3 (.tmp 90), 3, none⟩,
   asg 16 91 3]
def r110_17 : List VOp :=
  [mv 92 4 58,
   mv 93 0 25,
   mv 94 2 3,
   iad 95 25 93 94,
   lda 96 35 95,
   mv 97 0 25,
   mv 98 16 3,
   iad 99 25 97 98,
   lda 100 35 99,
   ⟨some 101, .call ⟨.value (.tmp 92), #[.tmp 96, .tmp 100], #[35, 35]⟩, 3, none⟩,
   ⟨some 102, .binOp .lss 3 (.tmp 101) (.const (.int .i64 0)) 3, 4, none⟩,
   ⟨some 103, .unOp .not 4 (.tmp 102), 4, none⟩]
def r110_18 : List VOp :=
  [mv 104 16 3,
   ⟨some 105, .binOp .add 3 (.tmp 104) (.const (.int .i64 1)) 3, 3, none⟩,
   asg 14 105 3]
def r110_19 : List VOp :=
  [mv 106 16 3,
   asg 15 106 3]
def r110_20 : List VOp :=
  [mv 107 2 3,
   asg 17 107 3]
def r110_21 : List VOp :=
  [mv 108 17 3,
   mv 109 14 3,
   ⟨some 110, .binOp .gtr 3 (.tmp 108) (.tmp 109) 3, 4, none⟩]
def r110_23 : List VOp :=
  [mv 113 0 25,
   mv 114 17 3,
   mv 115 0 25,
   mv 116 17 3,
   ⟨some 117, .binOp .sub 3 (.tmp 116) (.const (.int .i64 1)) 3, 3, none⟩,
   mv 118 0 25,
   mv 119 17 3,
   ⟨some 120, .binOp .sub 3 (.tmp 119) (.const (.int .i64 1)) 3, 3, none⟩,
   iad 121 25 118 120,
   lda 122 35 121,
   mv 123 0 25,
   mv 124 17 3,
   iad 125 25 123 124,
   lda 126 35 125,
   iad 127 25 113 114,
   ⟨none, .store 35 (.tmp 127) (.tmp 122), 0, none⟩,
   iad 128 25 115 117,
   ⟨none, .store 35 (.tmp 128) (.tmp 126), 0, none⟩]
def r110_22 : List VOp :=
  [mv 111 17 3,
   ⟨some 112, .binOp .sub 3 (.tmp 111) (.const (.int .i64 1)) 3, 3, none⟩,
   asg 17 112 3]
def r110_24 : List VOp :=
  [mv 129 1 3,
   mv 130 3 3,
   ⟨some 131, .binOp .add 3 (.tmp 129) (.tmp 130) 3, 3, none⟩,
   ⟨some 132, .convert 3 123 (.tmp 131), 123, none⟩,
   ⟨some 133, .binOp .shr 123 (.tmp 132) (.const (.int .u64 1)) 123, 123, none⟩,
   ⟨some 134, .convert 123 3 (.tmp 133), 3, none⟩,
   asg 18 134 3]
def r110_25 : List VOp :=
  [mv 135 18 3,
   mv 136 2 3,
   ⟨some 137, .binOp .add 3 (.tmp 135) (.tmp 136) 3, 3, none⟩,
   asg 19 137 3]
def r110_26 : List VOp :=
  [⟨some 20, .assign (.const (.int .i64 0)), 3, none⟩,
   ⟨some 21, .assign (.const (.int .i64 0)), 3, none⟩]
def r110_27 : List VOp :=
  [mv 138 2 3,
   mv 139 18 3,
   ⟨some 140, .binOp .gtr 3 (.tmp 138) (.tmp 139) 3, 4, none⟩]
def r110_28 : List VOp :=
  [mv 141 19 3,
   mv 142 3 3,
   ⟨some 143, .binOp .sub 3 (.tmp 141) (.tmp 142) 3, 3, none⟩,
   asg 20 143 3]
def r110_29 : List VOp :=
  [mv 144 18 3,
   asg 21 144 3]
def r110_30 : List VOp :=
  [mv 145 1 3,
   asg 20 145 3]
def r110_31 : List VOp :=
  [mv 146 2 3,
   asg 21 146 3]
def r110_32 : List VOp :=
  [mv 147 19 3,
   ⟨some 148, .binOp .sub 3 (.tmp 147) (.const (.int .i64 1)) 3, 3, none⟩,
   asg 22 148 3]
def r110_33 : List VOp :=
  [mv 149 20 3,
   mv 150 21 3,
   ⟨some 151, .binOp .lss 3 (.tmp 149) (.tmp 150) 3, 4, none⟩]
def r110_34 : List VOp :=
  [mv 152 20 3,
   mv 153 21 3,
   ⟨some 154, .binOp .add 3 (.tmp 152) (.tmp 153) 3, 3, none⟩,
   ⟨some 155, .convert 3 123 (.tmp 154), 123, none⟩,
   ⟨some 156, .binOp .shr 123 (.tmp 155) (.const (.int .u64 1)) 123, 123, none⟩,
   ⟨some 157, .convert 123 3 (.tmp 156), 3, none⟩,
   asg 23 157 3]
def r110_35 : List VOp :=
  [mv 158 4 58,
   mv 159 0 25,
   mv 160 22 3,
   mv 161 23 3,
   ⟨some 162, .binOp .sub 3 (.tmp 160) (.tmp 161) 3, 3, none⟩,
   iad 163 25 159 162,
   lda 164 35 163,
   mv 165 0 25,
   mv 166 23 3,
   iad 167 25 165 166,
   lda 168 35 167,
   ⟨some 169, .call ⟨.value (.tmp 158), #[.tmp 164, .tmp 168], #[35, 35]⟩, 3, none⟩,
   ⟨some 170, .binOp .lss 3 (.tmp 169) (.const (.int .i64 0)) 3, 4, none⟩,
   ⟨some 171, .unOp .not 4 (.tmp 170), 4, none⟩]
def r110_36 : List VOp :=
  [mv 172 23 3,
   ⟨some 173, .binOp .add 3 (.tmp 172) (.const (.int .i64 1)) 3, 3, none⟩,
   asg 20 173 3]
def r110_37 : List VOp :=
  [mv 174 23 3,
   asg 21 174 3]
def r110_38 : List VOp :=
  [mv 175 19 3,
   mv 176 20 3,
   ⟨some 177, .binOp .sub 3 (.tmp 175) (.tmp 176) 3, 3, none⟩,
   asg 24 177 3]
def r110_39 : List VOp :=
  [mv 178 20 3,
   mv 179 2 3,
   ⟨some 180, .binOp .lss 3 (.tmp 178) (.tmp 179) 3, 4, none⟩,
   mv 181 180 4,
   ⟨some 182, .move (.tmp 2), 3, some (181, true)⟩,
   ⟨some 183, .move (.tmp 24), 3, some (181, true)⟩,
   ⟨some 184, .binOp .lss 3 (.tmp 182) (.tmp 183) 3, 4, some (181, true)⟩,
   ⟨some 185, .pick (.tmp 181) (.tmp 184) (.const (.bool false)), 4, none⟩]
def r110_40 : List VOp :=
  [mv 186 0 25,
   mv 187 20 3,
   mv 188 2 3,
   mv 189 24 3,
   mv 190 4 58,
   ⟨some 191, .call ⟨.value (.func 117), #[.tmp 186, .tmp 187, .tmp 188, .tmp 189, .tmp 190], #[25, 3, 3, 3, 58]⟩, 0, none⟩]
def r110_41 : List VOp :=
  [mv 192 1 3,
   mv 193 20 3,
   ⟨some 194, .binOp .lss 3 (.tmp 192) (.tmp 193) 3, 4, none⟩,
   mv 195 194 4,
   ⟨some 196, .move (.tmp 20), 3, some (195, true)⟩,
   ⟨some 197, .move (.tmp 18), 3, some (195, true)⟩,
   ⟨some 198, .binOp .lss 3 (.tmp 196) (.tmp 197) 3, 4, some (195, true)⟩,
   ⟨some 199, .pick (.tmp 195) (.tmp 198) (.const (.bool false)), 4, none⟩]
def r110_42 : List VOp :=
  [mv 200 0 25,
   mv 201 1 3,
   mv 202 20 3,
   mv 203 18 3,
   mv 204 4 58,
   ⟨some 205, .call ⟨.value (.func 110), #[.tmp 200, .tmp 201, .tmp 202, .tmp 203, .tmp 204], #[25, 3, 3, 3, 58]⟩, 0, none⟩]
def r110_43 : List VOp :=
  [mv 206 18 3,
   mv 207 24 3,
   ⟨some 208, .binOp .lss 3 (.tmp 206) (.tmp 207) 3, 4, none⟩,
   mv 209 208 4,
   ⟨some 210, .move (.tmp 24), 3, some (209, true)⟩,
   ⟨some 211, .move (.tmp 3), 3, some (209, true)⟩,
   ⟨some 212, .binOp .lss 3 (.tmp 210) (.tmp 211) 3, 4, some (209, true)⟩,
   ⟨some 213, .pick (.tmp 209) (.tmp 212) (.const (.bool false)), 4, none⟩]
def r110_44 : List VOp :=
  [mv 214 0 25,
   mv 215 18 3,
   mv 216 24 3,
   mv 217 3 3,
   mv 218 4 58,
   ⟨some 219, .call ⟨.value (.func 110), #[.tmp 214, .tmp 215, .tmp 216, .tmp 217, .tmp 218], #[25, 3, 3, 3, 58]⟩, 0, none⟩]
def B110 : VC :=
  (.seq (.seq (.region r110_0) (.cond (.tmp 28) (.seq (.region r110_1) (.seq (.region r110_2) (.seq (.block 0 (.loop (.seq (.seq (.region r110_3) (.cond (.tmp 33) .skip (.exit 0))) (.block 1 (.seq (.region r110_4) (.seq (.draw r110_5 3) (.cond (.tmp 50) (.region r110_6) (.region r110_7)))))))) (.seq (.seq (.region r110_8) (.block 2 (.loop (.seq (.seq (.region r110_9) (.cond (.tmp 58) .skip (.exit 2))) (.seq (.block 3 (.drawS r110_11 3 [63, 64, 65])) (.region r110_10)))))) .ret)))) .skip)) (.seq (.seq (.region r110_12) (.cond (.tmp 80) (.seq (.region r110_13) (.seq (.region r110_14) (.seq (.block 4 (.loop (.seq (.seq (.region r110_15) (.cond (.tmp 85) .skip (.exit 4))) (.block 5 (.seq (.region r110_16) (.seq (.draw r110_17 4) (.cond (.tmp 103) (.region r110_18) (.region r110_19)))))))) (.seq (.seq (.region r110_20) (.block 6 (.loop (.seq (.seq (.region r110_21) (.cond (.tmp 110) .skip (.exit 6))) (.seq (.block 7 (.drawS r110_23 3 [115, 116, 117])) (.region r110_22)))))) .ret)))) .skip)) (.seq (.region r110_24) (.seq (.region r110_25) (.seq (.region r110_26) (.seq (.seq (.region r110_27) (.cond (.tmp 140) (.seq (.region r110_28) (.region r110_29)) (.seq (.region r110_30) (.region r110_31)))) (.seq (.region r110_32) (.seq (.block 8 (.loop (.seq (.seq (.region r110_33) (.cond (.tmp 151) .skip (.exit 8))) (.block 9 (.seq (.region r110_34) (.seq (.draw r110_35 4) (.cond (.tmp 171) (.region r110_36) (.region r110_37)))))))) (.seq (.region r110_38) (.seq (.seq (.region r110_39) (.cond (.tmp 185) (.region r110_40) .skip)) (.seq (.seq (.region r110_41) (.cond (.tmp 199) (.region r110_42) .skip)) (.seq (.region r110_43) (.cond (.tmp 213) (.region r110_44) .skip)))))))))))))
theorem code110 : ∃ c, Try.f110.body = some c ∧ abs Try.f110.ntmps c = B110 := ⟨_, rfl, by kernel_rfl⟩
theorem hb110 : HasBody Try.prog 110 := hasBody_of Try.func110 (by kernel_rfl)
theorem res110 : Try.f110.results = #[] := rfl
theorem enter110 {w : World} {R : Value → World → Prop} (x0 x1 x2 x3 x4 : Value) (h : vc Try.prog B110 (retK Try.prog #[] R) [] (initEnv [x0, x1, x2, x3, x4] 0) w) : FnC Try.prog 110 #[x0, x1, x2, x3, x4] w R := by
  obtain ⟨c, h1, h2⟩ := code110
  exact hb110.fn (ret_of_vc mixed Try.func110 h1 (Nat.le_of_ble_eq_true rfl) B110 h2 h)
@[push_cast] theorem vr110_0 : VR r110_0 [⟨some 25, .move (.tmp 2), 3, none⟩, ⟨some 26, .move (.tmp 1), 3, none⟩, ⟨some 27, .binOp .sub 3 (.tmp 25) (.tmp 26) 3, 3, none⟩, ⟨some 28, .binOp .eql 3 (.tmp 27) (.const (.int .i64 1)) 3, 4, none⟩] := vR rfl
@[push_cast] theorem vr110_1 : VR r110_1 [⟨some 29, .move (.tmp 2), 3, none⟩, ⟨some 10, .assign (.tmp 29), 3, none⟩] := vR rfl
@[push_cast] theorem vr110_2 : VR r110_2 [⟨some 30, .move (.tmp 3), 3, none⟩, ⟨some 11, .assign (.tmp 30), 3, none⟩] := vR rfl
@[push_cast] theorem vr110_3 : VR r110_3 [⟨some 31, .move (.tmp 10), 3, none⟩, ⟨some 32, .move (.tmp 11), 3, none⟩, ⟨some 33, .binOp .lss 3 (.tmp 31) (.tmp 32) 3, 4, none⟩] := vR rfl
@[push_cast] theorem vr110_4 : VR r110_4 [⟨some 34, .move (.tmp 10), 3, none⟩, ⟨some 35, .move (.tmp 11), 3, none⟩, ⟨some 36, .binOp .add 3 (.tmp 34) (.tmp 35) 3, 3, none⟩, ⟨some 37, .convert 3 123 (.tmp 36), 123, none⟩, ⟨some 38, .binOp .shr 123 (.tmp 37) (.const (.int .u64 1)) 123, 123, none⟩, ⟨some 39, .convert 123 3 (.tmp 38), 3, none⟩, ⟨some 12, .assign (.tmp 39), 3, none⟩] := vR rfl
@[push_cast] theorem vr110_5 : vc Try.prog (.draw r110_5 3) Q ds σ w = drawn Try.prog [(⟨some 40, .move (.tmp 4), 58, none⟩, [4]), (⟨some 41, .move (.tmp 0), 25, none⟩, [0]), (⟨some 42, .move (.tmp 12), 3, none⟩, [12]), (⟨some 43, .indexAddr 25 (.tmp 41) (.tmp 42), 0, none⟩, [41, 42]), (⟨some 44, .load 35 (.tmp 43), 35, none⟩, [43]), (⟨some 45, .move (.tmp 0), 25, none⟩, [0]), (⟨some 46, .move (.tmp 1), 3, none⟩, [1]), (⟨some 47, .indexAddr 25 (.tmp 45) (.tmp 46), 0, none⟩, [45, 46]), (⟨some 48, .load 35 (.tmp 47), 35, none⟩, [47]), (⟨some 49, .call ⟨.value (.tmp 40), #[.tmp 44, .tmp 48], #[35, 35]⟩, 3, none⟩, [40, 44, 48]), (⟨some 50, .binOp .lss 3 (.tmp 49) (.const (.int .i64 0)) 3, 4, none⟩, [49])] 3 (Q .normal ds) σ w := mk_eq rfl
@[push_cast] theorem vr110_6 : VR r110_6 [⟨some 51, .move (.tmp 12), 3, none⟩, ⟨some 52, .binOp .add 3 (.tmp 51) (.const (.int .i64 1)) 3, 3, none⟩, ⟨some 10, .assign (.tmp 52), 3, none⟩] := vR rfl
@[push_cast] theorem vr110_7 : VR r110_7 [⟨some 53, .move (.tmp 12), 3, none⟩, ⟨some 11, .assign (.tmp 53), 3, none⟩] := vR rfl
@[push_cast] theorem vr110_8 : VR r110_8 [⟨some 54, .move (.tmp 1), 3, none⟩, ⟨some 13, .assign (.tmp 54), 3, none⟩] := vR rfl
@[push_cast] theorem vr110_9 : VR r110_9 [⟨some 55, .move (.tmp 13), 3, none⟩, ⟨some 56, .move (.tmp 10), 3, none⟩, ⟨some 57, .binOp .sub 3 (.tmp 56) (.const (.int .i64 1)) 3, 3, none⟩, ⟨some 58, .binOp .lss 3 (.tmp 55) (.tmp 57) 3, 4, none⟩] := vR rfl
@[push_cast] theorem vr110_11 : vc Try.prog (.drawS r110_11 3 [63, 64, 65]) Q ds σ w = drawnS Try.prog [(⟨some 61, .move (.tmp 0), 25, none⟩, [0]), (⟨some 62, .move (.tmp 13), 3, none⟩, [13]), (⟨some 63, .move (.tmp 0), 25, none⟩, [0]), (⟨some 64, .move (.tmp 13), 3, none⟩, [13]), (⟨some 65, .binOp .add 3 (.tmp 64) (.const (.int .i64 1)) 3, 3, none⟩, [64]), (⟨some 66, .move (.tmp 0), 25, none⟩, [0]), (⟨some 67, .move (.tmp 13), 3, none⟩, [13]), (⟨some 68, .binOp .add 3 (.tmp 67) (.const (.int .i64 1)) 3, 3, none⟩, [67]), (⟨some 69, .indexAddr 25 (.tmp 66) (.tmp 68), 0, none⟩, [66, 68]), (⟨some 70, .load 35 (.tmp 69), 35, none⟩, [69]), (⟨some 71, .move (.tmp 0), 25, none⟩, [0]), (⟨some 72, .move (.tmp 13), 3, none⟩, [13]), (⟨some 73, .indexAddr 25 (.tmp 71) (.tmp 72), 0, none⟩, [71, 72]), (⟨some 74, .load 35 (.tmp 73), 35, none⟩, [73]), (⟨some 75, .indexAddr 25 (.tmp 61) (.tmp 62), 0, none⟩, [61, 62]), (⟨none, .store 35 (.tmp 75) (.tmp 70), 0, none⟩, [75, 70]), (⟨some 76, .indexAddr 25 (.tmp 63) (.tmp 65), 0, none⟩, [63, 65]), (⟨none, .store 35 (.tmp 76) (.tmp 74), 0, none⟩, [76, 74])] 3 [63, 64, 65] (Q .normal ds) σ w := mk_eq rfl
@[push_cast] theorem vr110_10 : VR r110_10 [⟨some 59, .move (.tmp 13), 3, none⟩, ⟨some 60, .binOp .add 3 (.tmp 59) (.const (.int .i64 1)) 3, 3, none⟩, ⟨some 13, .assign (.tmp 60), 3, none⟩] := vR rfl
@[push_cast] theorem vr110_12 : VR r110_12 [⟨some 77, .move (.tmp 3), 3, none⟩, ⟨some 78, .move (.tmp 2), 3, none⟩, ⟨some 79, .binOp .sub 3 (.tmp 77) (.tmp 78) 3, 3, none⟩, ⟨some 80, .binOp .eql 3 (.tmp 79) (.const (.int .i64 1)) 3, 4, none⟩] := vR rfl
@[push_cast] theorem vr110_13 : VR r110_13 [⟨some 81, .move (.tmp 1), 3, none⟩, ⟨some 14, .assign (.tmp 81), 3, none⟩] := vR rfl
@[push_cast] theorem vr110_14 : VR r110_14 [⟨some 82, .move (.tmp 2), 3, none⟩, ⟨some 15, .assign (.tmp 82), 3, none⟩] := vR rfl
@[push_cast] theorem vr110_15 : VR r110_15 [⟨some 83, .move (.tmp 14), 3, none⟩, ⟨some 84, .move (.tmp 15), 3, none⟩, ⟨some 85, .binOp .lss 3 (.tmp 83) (.tmp 84) 3, 4, none⟩] := vR rfl
@[push_cast] theorem vr110_16 : VR r110_16 [⟨some 86, .move (.tmp 14), 3, none⟩, ⟨some 87, .move (.tmp 15), 3, none⟩, ⟨some 88, .binOp .add 3 (.tmp 86) (.tmp 87) 3, 3, none⟩, ⟨some 89, .convert 3 123 (.tmp 88), 123, none⟩, ⟨some 90, .binOp .shr 123 (.tmp 89) (.const (.int .u64 1)) 123, 123, none⟩, ⟨some 91, .convert 123 3 (.tmp 90), 3, none⟩, ⟨some 16, .assign (.tmp 91), 3, none⟩] := vR rfl
@[push_cast] theorem vr110_17 : vc Try.prog (.draw r110_17 4) Q ds σ w = drawn Try.prog [(⟨some 92, .move (.tmp 4), 58, none⟩, [4]), (⟨some 93, .move (.tmp 0), 25, none⟩, [0]), (⟨some 94, .move (.tmp 2), 3, none⟩, [2]), (⟨some 95, .indexAddr 25 (.tmp 93) (.tmp 94), 0, none⟩, [93, 94]), (⟨some 96, .load 35 (.tmp 95), 35, none⟩, [95]), (⟨some 97, .move (.tmp 0), 25, none⟩, [0]), (⟨some 98, .move (.tmp 16), 3, none⟩, [16]), (⟨some 99, .indexAddr 25 (.tmp 97) (.tmp 98), 0, none⟩, [97, 98]), (⟨some 100, .load 35 (.tmp 99), 35, none⟩, [99]), (⟨some 101, .call ⟨.value (.tmp 92), #[.tmp 96, .tmp 100], #[35, 35]⟩, 3, none⟩, [92, 96, 100]), (⟨some 102, .binOp .lss 3 (.tmp 101) (.const (.int .i64 0)) 3, 4, none⟩, [101]), (⟨some 103, .unOp .not 4 (.tmp 102), 4, none⟩, [102])] 4 (Q .normal ds) σ w := mk_eq rfl
@[push_cast] theorem vr110_18 : VR r110_18 [⟨some 104, .move (.tmp 16), 3, none⟩, ⟨some 105, .binOp .add 3 (.tmp 104) (.const (.int .i64 1)) 3, 3, none⟩, ⟨some 14, .assign (.tmp 105), 3, none⟩] := vR rfl
@[push_cast] theorem vr110_19 : VR r110_19 [⟨some 106, .move (.tmp 16), 3, none⟩, ⟨some 15, .assign (.tmp 106), 3, none⟩] := vR rfl
@[push_cast] theorem vr110_20 : VR r110_20 [⟨some 107, .move (.tmp 2), 3, none⟩, ⟨some 17, .assign (.tmp 107), 3, none⟩] := vR rfl
@[push_cast] theorem vr110_21 : VR r110_21 [⟨some 108, .move (.tmp 17), 3, none⟩, ⟨some 109, .move (.tmp 14), 3, none⟩, ⟨some 110, .binOp .gtr 3 (.tmp 108) (.tmp 109) 3, 4, none⟩] := vR rfl
@[push_cast] theorem vr110_23 : vc Try.prog (.drawS r110_23 3 [115, 116, 117]) Q ds σ w = drawnS Try.prog [(⟨some 113, .move (.tmp 0), 25, none⟩, [0]), (⟨some 114, .move (.tmp 17), 3, none⟩, [17]), (⟨some 115, .move (.tmp 0), 25, none⟩, [0]), (⟨some 116, .move (.tmp 17), 3, none⟩, [17]), (⟨some 117, .binOp .sub 3 (.tmp 116) (.const (.int .i64 1)) 3, 3, none⟩, [116]), (⟨some 118, .move (.tmp 0), 25, none⟩, [0]), (⟨some 119, .move (.tmp 17), 3, none⟩, [17]), (⟨some 120, .binOp .sub 3 (.tmp 119) (.const (.int .i64 1)) 3, 3, none⟩, [119]), (⟨some 121, .indexAddr 25 (.tmp 118) (.tmp 120), 0, none⟩, [118, 120]), (⟨some 122, .load 35 (.tmp 121), 35, none⟩, [121]), (⟨some 123, .move (.tmp 0), 25, none⟩, [0]), (⟨some 124, .move (.tmp 17), 3, none⟩, [17]), (⟨some 125, .indexAddr 25 (.tmp 123) (.tmp 124), 0, none⟩, [123, 124]), (⟨some 126, .load 35 (.tmp 125), 35, none⟩, [125]), (⟨some 127, .indexAddr 25 (.tmp 113) (.tmp 114), 0, none⟩, [113, 114]), (⟨none, .store 35 (.tmp 127) (.tmp 122), 0, none⟩, [127, 122]), (⟨some 128, .indexAddr 25 (.tmp 115) (.tmp 117), 0, none⟩, [115, 117]), (⟨none, .store 35 (.tmp 128) (.tmp 126), 0, none⟩, [128, 126])] 3 [115, 116, 117] (Q .normal ds) σ w := mk_eq rfl
@[push_cast] theorem vr110_22 : VR r110_22 [⟨some 111, .move (.tmp 17), 3, none⟩, ⟨some 112, .binOp .sub 3 (.tmp 111) (.const (.int .i64 1)) 3, 3, none⟩, ⟨some 17, .assign (.tmp 112), 3, none⟩] := vR rfl
@[push_cast] theorem vr110_24 : VR r110_24 [⟨some 129, .move (.tmp 1), 3, none⟩, ⟨some 130, .move (.tmp 3), 3, none⟩, ⟨some 131, .binOp .add 3 (.tmp 129) (.tmp 130) 3, 3, none⟩, ⟨some 132, .convert 3 123 (.tmp 131), 123, none⟩, ⟨some 133, .binOp .shr 123 (.tmp 132) (.const (.int .u64 1)) 123, 123, none⟩, ⟨some 134, .convert 123 3 (.tmp 133), 3, none⟩, ⟨some 18, .assign (.tmp 134), 3, none⟩] := vR rfl
@[push_cast] theorem vr110_25 : VR r110_25 [⟨some 135, .move (.tmp 18), 3, none⟩, ⟨some 136, .move (.tmp 2), 3, none⟩, ⟨some 137, .binOp .add 3 (.tmp 135) (.tmp 136) 3, 3, none⟩, ⟨some 19, .assign (.tmp 137), 3, none⟩] := vR rfl
@[push_cast] theorem vr110_26 : VR r110_26 [⟨some 20, .assign (.const (.int .i64 0)), 3, none⟩, ⟨some 21, .assign (.const (.int .i64 0)), 3, none⟩] := vR rfl
@[push_cast] theorem vr110_27 : VR r110_27 [⟨some 138, .move (.tmp 2), 3, none⟩, ⟨some 139, .move (.tmp 18), 3, none⟩, ⟨some 140, .binOp .gtr 3 (.tmp 138) (.tmp 139) 3, 4, none⟩] := vR rfl
@[push_cast] theorem vr110_28 : VR r110_28 [⟨some 141, .move (.tmp 19), 3, none⟩, ⟨some 142, .move (.tmp 3), 3, none⟩, ⟨some 143, .binOp .sub 3 (.tmp 141) (.tmp 142) 3, 3, none⟩, ⟨some 20, .assign (.tmp 143), 3, none⟩] := vR rfl
@[push_cast] theorem vr110_29 : VR r110_29 [⟨some 144, .move (.tmp 18), 3, none⟩, ⟨some 21, .assign (.tmp 144), 3, none⟩] := vR rfl
@[push_cast] theorem vr110_30 : VR r110_30 [⟨some 145, .move (.tmp 1), 3, none⟩, ⟨some 20, .assign (.tmp 145), 3, none⟩] := vR rfl
@[push_cast] theorem vr110_31 : VR r110_31 [⟨some 146, .move (.tmp 2), 3, none⟩, ⟨some 21, .assign (.tmp 146), 3, none⟩] := vR rfl
@[push_cast] theorem vr110_32 : VR r110_32 [⟨some 147, .move (.tmp 19), 3, none⟩, ⟨some 148, .binOp .sub 3 (.tmp 147) (.const (.int .i64 1)) 3, 3, none⟩, ⟨some 22, .assign (.tmp 148), 3, none⟩] := vR rfl
@[push_cast] theorem vr110_33 : VR r110_33 [⟨some 149, .move (.tmp 20), 3, none⟩, ⟨some 150, .move (.tmp 21), 3, none⟩, ⟨some 151, .binOp .lss 3 (.tmp 149) (.tmp 150) 3, 4, none⟩] := vR rfl
@[push_cast] theorem vr110_34 : VR r110_34 [⟨some 152, .move (.tmp 20), 3, none⟩, ⟨some 153, .move (.tmp 21), 3, none⟩, ⟨some 154, .binOp .add 3 (.tmp 152) (.tmp 153) 3, 3, none⟩, ⟨some 155, .convert 3 123 (.tmp 154), 123, none⟩, ⟨some 156, .binOp .shr 123 (.tmp 155) (.const (.int .u64 1)) 123, 123, none⟩, ⟨some 157, .convert 123 3 (.tmp 156), 3, none⟩, ⟨some 23, .assign (.tmp 157), 3, none⟩] := vR rfl
@[push_cast] theorem vr110_35 : vc Try.prog (.draw r110_35 4) Q ds σ w = drawn Try.prog [(⟨some 158, .move (.tmp 4), 58, none⟩, [4]), (⟨some 159, .move (.tmp 0), 25, none⟩, [0]), (⟨some 160, .move (.tmp 22), 3, none⟩, [22]), (⟨some 161, .move (.tmp 23), 3, none⟩, [23]), (⟨some 162, .binOp .sub 3 (.tmp 160) (.tmp 161) 3, 3, none⟩, [160, 161]), (⟨some 163, .indexAddr 25 (.tmp 159) (.tmp 162), 0, none⟩, [159, 162]), (⟨some 164, .load 35 (.tmp 163), 35, none⟩, [163]), (⟨some 165, .move (.tmp 0), 25, none⟩, [0]), (⟨some 166, .move (.tmp 23), 3, none⟩, [23]), (⟨some 167, .indexAddr 25 (.tmp 165) (.tmp 166), 0, none⟩, [165, 166]), (⟨some 168, .load 35 (.tmp 167), 35, none⟩, [167]), (⟨some 169, .call ⟨.value (.tmp 158), #[.tmp 164, .tmp 168], #[35, 35]⟩, 3, none⟩, [158, 164, 168]), (⟨some 170, .binOp .lss 3 (.tmp 169) (.const (.int .i64 0)) 3, 4, none⟩, [169]), (⟨some 171, .unOp .not 4 (.tmp 170), 4, none⟩, [170])] 4 (Q .normal ds) σ w := mk_eq rfl
@[push_cast] theorem vr110_36 : VR r110_36 [⟨some 172, .move (.tmp 23), 3, none⟩, ⟨some 173, .binOp .add 3 (.tmp 172) (.const (.int .i64 1)) 3, 3, none⟩, ⟨some 20, .assign (.tmp 173), 3, none⟩] := vR rfl
@[push_cast] theorem vr110_37 : VR r110_37 [⟨some 174, .move (.tmp 23), 3, none⟩, ⟨some 21, .assign (.tmp 174), 3, none⟩] := vR rfl
@[push_cast] theorem vr110_38 : VR r110_38 [⟨some 175, .move (.tmp 19), 3, none⟩, ⟨some 176, .move (.tmp 20), 3, none⟩, ⟨some 177, .binOp .sub 3 (.tmp 175) (.tmp 176) 3, 3, none⟩, ⟨some 24, .assign (.tmp 177), 3, none⟩] := vR rfl
@[push_cast] theorem vr110_39 : VR r110_39 [⟨some 178, .move (.tmp 20), 3, none⟩, ⟨some 179, .move (.tmp 2), 3, none⟩, ⟨some 180, .binOp .lss 3 (.tmp 178) (.tmp 179) 3, 4, none⟩, ⟨some 181, .move (.tmp 180), 4, none⟩, ⟨some 182, .move (.tmp 2), 3, some (181, true)⟩, ⟨some 183, .move (.tmp 24), 3, some (181, true)⟩, ⟨some 184, .binOp .lss 3 (.tmp 182) (.tmp 183) 3, 4, some (181, true)⟩, ⟨some 185, .pick (.tmp 181) (.tmp 184) (.const (.bool false)), 4, none⟩] := vR rfl
@[push_cast] theorem vr110_40 : VR r110_40 [⟨some 186, .move (.tmp 0), 25, none⟩, ⟨some 187, .move (.tmp 20), 3, none⟩, ⟨some 188, .move (.tmp 2), 3, none⟩, ⟨some 189, .move (.tmp 24), 3, none⟩, ⟨some 190, .move (.tmp 4), 58, none⟩, ⟨some 191, .call ⟨.value (.func 117), #[.tmp 186, .tmp 187, .tmp 188, .tmp 189, .tmp 190], #[25, 3, 3, 3, 58]⟩, 0, none⟩] := vR rfl
@[push_cast] theorem vr110_41 : VR r110_41 [⟨some 192, .move (.tmp 1), 3, none⟩, ⟨some 193, .move (.tmp 20), 3, none⟩, ⟨some 194, .binOp .lss 3 (.tmp 192) (.tmp 193) 3, 4, none⟩, ⟨some 195, .move (.tmp 194), 4, none⟩, ⟨some 196, .move (.tmp 20), 3, some (195, true)⟩, ⟨some 197, .move (.tmp 18), 3, some (195, true)⟩, ⟨some 198, .binOp .lss 3 (.tmp 196) (.tmp 197) 3, 4, some (195, true)⟩, ⟨some 199, .pick (.tmp 195) (.tmp 198) (.const (.bool false)), 4, none⟩] := vR rfl
@[push_cast] theorem vr110_42 : VR r110_42 [⟨some 200, .move (.tmp 0), 25, none⟩, ⟨some 201, .move (.tmp 1), 3, none⟩, ⟨some 202, .move (.tmp 20), 3, none⟩, ⟨some 203, .move (.tmp 18), 3, none⟩, ⟨some 204, .move (.tmp 4), 58, none⟩, ⟨some 205, .call ⟨.value (.func 110), #[.tmp 200, .tmp 201, .tmp 202, .tmp 203, .tmp 204], #[25, 3, 3, 3, 58]⟩, 0, none⟩] := vR rfl
@[push_cast] theorem vr110_43 : VR r110_43 [⟨some 206, .move (.tmp 18), 3, none⟩, ⟨some 207, .move (.tmp 24), 3, none⟩, ⟨some 208, .binOp .lss 3 (.tmp 206) (.tmp 207) 3, 4, none⟩, ⟨some 209, .move (.tmp 208), 4, none⟩, ⟨some 210, .move (.tmp 24), 3, some (209, true)⟩, ⟨some 211, .move (.tmp 3), 3, some (209, true)⟩, ⟨some 212, .binOp .lss 3 (.tmp 210) (.tmp 211) 3, 4, some (209, true)⟩, ⟨some 213, .pick (.tmp 209) (.tmp 212) (.const (.bool false)), 4, none⟩] := vR rfl
@[push_cast] theorem vr110_44 : VR r110_44 [⟨some 214, .move (.tmp 0), 25, none⟩, ⟨some 215, .move (.tmp 18), 3, none⟩, ⟨some 216, .move (.tmp 24), 3, none⟩, ⟨some 217, .move (.tmp 3), 3, none⟩, ⟨some 218, .move (.tmp 4), 58, none⟩, ⟨some 219, .call ⟨.value (.func 110), #[.tmp 214, .tmp 215, .tmp 216, .tmp 217, .tmp 218], #[25, 3, 3, 3, 58]⟩, 0, none⟩] := vR rfl
/-! 111 cmp.isNaN[string] (params #[9], results #[(.tmp 2)], 6 slots) -/
def r111_0 : List VOp :=
  [⟨some 2, .assign (.const (.bool false)), 4, none⟩]
def r111_1 : List VOp :=
  [mv 3 0 9,
   mv 4 0 9,
   ⟨some 5, .binOp .neq 9 (.tmp 3) (.tmp 4) 9, 4, none⟩,
   asg 2 5 4]
def B111 : VC :=
  (.seq (.region r111_0) (.seq (.region r111_1) .ret))
theorem code111 : ∃ c, Try.f111.body = some c ∧ abs Try.f111.ntmps c = B111 := ⟨_, rfl, by kernel_rfl⟩
theorem hb111 : HasBody Try.prog 111 := hasBody_of Try.func111 (by kernel_rfl)
theorem res111 : Try.f111.results = #[(.tmp 2)] := rfl
theorem enter111 {w : World} {R : Value → World → Prop} (x0 : Value) (h : vc Try.prog B111 (retK Try.prog #[(.tmp 2)] R) [] (initEnv [x0] 0) w) : FnC Try.prog 111 #[x0] w R := by
  obtain ⟨c, h1, h2⟩ := code111
  exact hb111.fn (ret_of_vc mixed Try.func111 h1 (Nat.le_of_ble_eq_true rfl) B111 h2 h)
@[push_cast] theorem vr111_0 : VR r111_0 [⟨some 2, .assign (.const (.bool false)), 4, none⟩] := vR rfl
@[push_cast] theorem vr111_1 : VR r111_1 [⟨some 3, .move (.tmp 0), 9, none⟩, ⟨some 4, .move (.tmp 0), 9, none⟩, ⟨some 5, .binOp .neq 9 (.tmp 3) (.tmp 4) 9, 4, none⟩, ⟨some 2, .assign (.tmp 5), 4, none⟩] := vR rfl
/-! 117 slices.rotateCmpFunc[columbary/api.Row] (params #[25, 3, 3, 3, 58], results #[], 58 slots) -/
def W117_0 : List Nat := [10, 11, 18, 19, 20, 21, 22, 23, 24, 25, 26, 27, 28, 29, 30, 31, 32, 33, 34, 35, 36, 37, 38, 39, 40, 41, 42, 43, 44, 45, 46, 47, 48, 49]
@[push_cast] theorem W117_0_def : W117_0 = [10, 11, 18, 19, 20, 21, 22, 23, 24, 25, 26, 27, 28, 29, 30, 31, 32, 33, 34, 35, 36, 37, 38, 39, 40, 41, 42, 43, 44, 45, 46, 47, 48, 49] := mk_eq rfl
def r117_0 : List VOp :=
  [mv 12 2 3,
   mv 13 1 3,
   ⟨some 14, .binOp .sub 3 (.tmp 12) (.tmp 13) 3, 3, none⟩,
   asg 10 14 3]
def r117_1 : List VOp :=
  [mv 15 3 3,
   mv 16 2 3,
   ⟨some 17, .binOp .sub 3 (.tmp 15) (.tmp 16) 3, 3, none⟩,
   asg 11 17 3]
def r117_2 : List VOp :=
  [mv 18 10 3,
   mv 19 11 3,
   ⟨some 20, .binOp .neq 3 (.tmp 18) (.tmp 19) 3, 4, none⟩]
def r117_3 : List VOp :=
  [mv 21 10 3,
   mv 22 11 3,
   ⟨some 23, .binOp .gtr 3 (.tmp 21) (.tmp 22) 3, 4, none⟩]
def r117_4 : List VOp :=
  [mv 24 0 25,
   mv 25 2 3,
   mv 26 10 3,
   ⟨some 27, .binOp .sub 3 (.tmp 25) (.tmp 26) 3, 3, none⟩,
   mv 28 2 3,
   mv 29 11 3,
   mv 30 4 58,
   ⟨some 31, .call ⟨.value (.func 122), #[.tmp 24, .tmp 27, .tmp 28, .tmp 29, .tmp 30], #[25, 3, 3, 3, 58]⟩, 0, none⟩]
def r117_5 : List VOp :=
  [mv 32 10 3,
   mv 33 11 3,
   ⟨some 34, .binOp .sub 3 (.tmp 32) (.tmp 33) 3, 3, none⟩,
   asg 10 34 3]
def r117_6 : List VOp :=
  [mv 35 0 25,
   mv 36 2 3,
   mv 37 10 3,
   ⟨some 38, .binOp .sub 3 (.tmp 36) (.tmp 37) 3, 3, none⟩,
   mv 39 2 3,
   mv 40 11 3,
   ⟨some 41, .binOp .add 3 (.tmp 39) (.tmp 40) 3, 3, none⟩,
   mv 42 10 3,
   ⟨some 43, .binOp .sub 3 (.tmp 41) (.tmp 42) 3, 3, none⟩,
   mv 44 10 3,
   mv 45 4 58,
   ⟨some 46, .call ⟨.value (.func 122), #[.tmp 35, .tmp 38, .tmp 43, .tmp 44, .tmp 45], #[25, 3, 3, 3, 58]⟩, 0, none⟩]
def r117_7 : List VOp :=
  [mv 47 11 3,
   mv 48 10 3,
   ⟨some 49, .binOp .sub 3 (.tmp 47) (.tmp 48) 3, 3, none⟩,
   asg 11 49 3]
def r117_8 : List VOp :=
  [mv 50 0 25,
   mv 51 2 3,
   mv 52 10 3,
   ⟨some 53, .binOp .sub 3 (.tmp 51) (.tmp 52) 3, 3, none⟩,
   mv 54 2 3,
   mv 55 10 3,
   mv 56 4 58,
   ⟨some 57, .call ⟨.value (.func 122), #[.tmp 50, .tmp 53, .tmp 54, .tmp 55, .tmp 56], #[25, 3, 3, 3, 58]⟩, 0, none⟩]
def B117 : VC :=
  (.seq (.region r117_0) (.seq (.region r117_1) (.seq (.block 0 (.loop (.seq (.seq (.region r117_2) (.cond (.tmp 20) .skip (.exit 0))) (.block 1 (.seq (.region r117_3) (.cond (.tmp 23) (.seq (.region r117_4) (.region r117_5)) (.seq (.region r117_6) (.region r117_7)))))))) (.region r117_8))))
theorem code117 : ∃ c, Try.f117.body = some c ∧ abs Try.f117.ntmps c = B117 := ⟨_, rfl, by kernel_rfl⟩
theorem hb117 : HasBody Try.prog 117 := hasBody_of Try.func117 (by kernel_rfl)
theorem res117 : Try.f117.results = #[] := rfl
theorem enter117 {w : World} {R : Value → World → Prop} (x0 x1 x2 x3 x4 : Value) (h : vc Try.prog B117 (retK Try.prog #[] R) [] (initEnv [x0, x1, x2, x3, x4] 0) w) : FnC Try.prog 117 #[x0, x1, x2, x3, x4] w R := by
  obtain ⟨c, h1, h2⟩ := code117
  exact hb117.fn (ret_of_vc mixed Try.func117 h1 (Nat.le_of_ble_eq_true rfl) B117 h2 h)
@[push_cast] theorem vr117_0 : VR r117_0 [⟨some 12, .move (.tmp 2), 3, none⟩, ⟨some 13, .move (.tmp 1), 3, none⟩, ⟨some 14, .binOp .sub 3 (.tmp 12) (.tmp 13) 3, 3, none⟩, ⟨some 10, .assign (.tmp 14), 3, none⟩] := vR rfl
@[push_cast] theorem vr117_1 : VR r117_1 [⟨some 15, .move (.tmp 3), 3, none⟩, ⟨some 16, .move (.tmp 2), 3, none⟩, ⟨some 17, .binOp .sub 3 (.tmp 15) (.tmp 16) 3, 3, none⟩, ⟨some 11, .assign (.tmp 17), 3, none⟩] := vR rfl
@[push_cast] theorem vr117_2 : VR r117_2 [⟨some 18, .move (.tmp 10), 3, none⟩, ⟨some 19, .move (.tmp 11), 3, none⟩, ⟨some 20, .binOp .neq 3 (.tmp 18) (.tmp 19) 3, 4, none⟩] := vR rfl
@[push_cast] theorem vr117_3 : VR r117_3 [⟨some 21, .move (.tmp 10), 3, none⟩, ⟨some 22, .move (.tmp 11), 3, none⟩, ⟨some 23, .binOp .gtr 3 (.tmp 21) (.tmp 22) 3, 4, none⟩] := vR rfl
@[push_cast] theorem vr117_4 : VR r117_4 [⟨some 24, .move (.tmp 0), 25, none⟩, ⟨some 25, .move (.tmp 2), 3, none⟩, ⟨some 26, .move (.tmp 10), 3, none⟩, ⟨some 27, .binOp .sub 3 (.tmp 25) (.tmp 26) 3, 3, none⟩, ⟨some 28, .move (.tmp 2), 3, none⟩, ⟨some 29, .move (.tmp 11), 3, none⟩, ⟨some 30, .move (.tmp 4), 58, none⟩, ⟨some 31, .call ⟨.value (.func 122), #[.tmp 24, .tmp 27, .tmp 28, .tmp 29, .tmp 30], #[25, 3, 3, 3, 58]⟩, 0, none⟩] := vR rfl
@[push_cast] theorem vr117_5 : VR r117_5 [⟨some 32, .move (.tmp 10), 3, none⟩, ⟨some 33, .move (.tmp 11), 3, none⟩, ⟨some 34, .binOp .sub 3 (.tmp 32) (.tmp 33) 3, 3, none⟩, ⟨some 10, .assign (.tmp 34), 3, none⟩] := vR rfl
@[push_cast] theorem vr117_6 : VR r117_6 [⟨some 35, .move (.tmp 0), 25, none⟩, ⟨some 36, .move (.tmp 2), 3, none⟩, ⟨some 37, .move (.tmp 10), 3, none⟩, ⟨some 38, .binOp .sub 3 (.tmp 36) (.tmp 37) 3, 3, none⟩, ⟨some 39, .move (.tmp 2), 3, none⟩, ⟨some 40, .move (.tmp 11), 3, none⟩, ⟨some 41, .binOp .add 3 (.tmp 39) (.tmp 40) 3, 3, none⟩, ⟨some 42, .move (.tmp 10), 3, none⟩, ⟨some 43, .binOp .sub 3 (.tmp 41) (.tmp 42) 3, 3, none⟩, ⟨some 44, .move (.tmp 10), 3, none⟩, ⟨some 45, .move (.tmp 4), 58, none⟩, ⟨some 46, .call ⟨.value (.func 122), #[.tmp 35, .tmp 38, .tmp 43, .tmp 44, .tmp 45], #[25, 3, 3, 3, 58]⟩, 0, none⟩] := vR rfl
@[push_cast] theorem vr117_7 : VR r117_7 [⟨some 47, .move (.tmp 11), 3, none⟩, ⟨some 48, .move (.tmp 10), 3, none⟩, ⟨some 49, .binOp .sub 3 (.tmp 47) (.tmp 48) 3, 3, none⟩, ⟨some 11, .assign (.tmp 49), 3, none⟩] := vR rfl
@[push_cast] theorem vr117_8 : VR r117_8 [⟨some 50, .move (.tmp 0), 25, none⟩, ⟨some 51, .move (.tmp 2), 3, none⟩, ⟨some 52, .move (.tmp 10), 3, none⟩, ⟨some 53, .binOp .sub 3 (.tmp 51) (.tmp 52) 3, 3, none⟩, ⟨some 54, .move (.tmp 2), 3, none⟩, ⟨some 55, .move (.tmp 10), 3, none⟩, ⟨some 56, .move (.tmp 4), 58, none⟩, ⟨some 57, .call ⟨.value (.func 122), #[.tmp 50, .tmp 53, .tmp 54, .tmp 55, .tmp 56], #[25, 3, 3, 3, 58]⟩, 0, none⟩] := vR rfl
/-! 122 slices.swapRangeCmpFunc[columbary/api.Row] (params #[25, 3, 3, 3, 58], results #[], 38 slots) -/
def W122_0 : List Nat := [10, 11, 12, 13, 14, 15, 16, 17, 18, 19, 20, 21, 22, 23, 24, 25, 26, 27, 28, 29, 30, 31, 32, 33, 34, 35, 36, 37]
@[push_cast] theorem W122_0_def : W122_0 = [10, 11, 12, 13, 14, 15, 16, 17, 18, 19, 20, 21, 22, 23, 24, 25, 26, 27, 28, 29, 30, 31, 32, 33, 34, 35, 36, 37] := mk_eq rfl
def r122_0 : List VOp :=
  [⟨some 10, .assign (.const (.int .i64 0)), 3, none⟩]
def r122_1 : List VOp :=
  [mv 11 10 3,
   mv 12 3 3,
   ⟨some 13, .binOp .lss 3 (.tmp 11) (.tmp 12) 3, 4, none⟩]
def r122_3 : List VOp :=
  [mv 16 0 25,
   mv 17 1 3,
   mv 18 10 3,
   ⟨some 19, .binOp .add 3 (.tmp 17) (.tmp 18) 3, 3, none⟩,
   mv 20 0 25,
   mv 21 2 3,
   mv 22 10 3,
   ⟨some 23, .binOp .add 3 (.tmp 21) (.tmp 22) 3, 3, none⟩,
   mv 24 0 25,
   mv 25 2 3,
   mv 26 10 3,
   ⟨some 27, .binOp .add 3 (.tmp 25) (.tmp 26) 3, 3, none⟩,
   iad 28 25 24 27,
   lda 29 35 28,
   mv 30 0 25,
   mv 31 1 3,
   mv 32 10 3,
   ⟨some 33, .binOp .add 3 (.tmp 31) (.tmp 32) 3, 3, none⟩,
   iad 34 25 30 33,
   lda 35 35 34,
   iad 36 25 16 19,
   ⟨none, .store 35 (.tmp 36) (.tmp 29), 0, none⟩,
   iad 37 25 20 23,
   ⟨none, .store 35 (.tmp 37) (.tmp 35), 0, none⟩]
def r122_2 : List VOp :=
  [mv 14 10 3,
   ⟨some 15, .binOp .add 3 (.tmp 14) (.const (.int .i64 1)) 3, 3, none⟩,
   asg 10 15 3]
def B122 : VC :=
  (.seq (.region r122_0) (.block 0 (.loop (.seq (.seq (.region r122_1) (.cond (.tmp 13) .skip (.exit 0))) (.seq (.block 1 (.drawS r122_3 3 [20, 21, 22, 23])) (.region r122_2))))))
theorem code122 : ∃ c, Try.f122.body = some c ∧ abs Try.f122.ntmps c = B122 := ⟨_, rfl, by kernel_rfl⟩
theorem hb122 : HasBody Try.prog 122 := hasBody_of Try.func122 (by kernel_rfl)
theorem res122 : Try.f122.results = #[] := rfl
theorem enter122 {w : World} {R : Value → World → Prop} (x0 x1 x2 x3 x4 : Value) (h : vc Try.prog B122 (retK Try.prog #[] R) [] (initEnv [x0, x1, x2, x3, x4] 0) w) : FnC Try.prog 122 #[x0, x1, x2, x3, x4] w R := by
  obtain ⟨c, h1, h2⟩ := code122
  exact hb122.fn (ret_of_vc mixed Try.func122 h1 (Nat.le_of_ble_eq_true rfl) B122 h2 h)
@[push_cast] theorem vr122_0 : VR r122_0 [⟨some 10, .assign (.const (.int .i64 0)), 3, none⟩] := vR rfl
@[push_cast] theorem vr122_1 : VR r122_1 [⟨some 11, .move (.tmp 10), 3, none⟩, ⟨some 12, .move (.tmp 3), 3, none⟩, ⟨some 13, .binOp .lss 3 (.tmp 11) (.tmp 12) 3, 4, none⟩] := vR rfl
@[push_cast] theorem vr122_3 : vc Try.prog (.drawS r122_3 3 [20, 21, 22, 23]) Q ds σ w = drawnS Try.prog [(⟨some 16, .move (.tmp 0), 25, none⟩, [0]), (⟨some 17, .move (.tmp 1), 3, none⟩, [1]), (⟨some 18, .move (.tmp 10), 3, none⟩, [10]), (⟨some 19, .binOp .add 3 (.tmp 17) (.tmp 18) 3, 3, none⟩, [17, 18]), (⟨some 20, .move (.tmp 0), 25, none⟩, [0]), (⟨some 21, .move (.tmp 2), 3, none⟩, [2]), (⟨some 22, .move (.tmp 10), 3, none⟩, [10]), (⟨some 23, .binOp .add 3 (.tmp 21) (.tmp 22) 3, 3, none⟩, [21, 22]), (⟨some 24, .move (.tmp 0), 25, none⟩, [0]), (⟨some 25, .move (.tmp 2), 3, none⟩, [2]), (⟨some 26, .move (.tmp 10), 3, none⟩, [10]), (⟨some 27, .binOp .add 3 (.tmp 25) (.tmp 26) 3, 3, none⟩, [25, 26]), (⟨some 28, .indexAddr 25 (.tmp 24) (.tmp 27), 0, none⟩, [24, 27]), (⟨some 29, .load 35 (.tmp 28), 35, none⟩, [28]), (⟨some 30, .move (.tmp 0), 25, none⟩, [0]), (⟨some 31, .move (.tmp 1), 3, none⟩, [1]), (⟨some 32, .move (.tmp 10), 3, none⟩, [10]), (⟨some 33, .binOp .add 3 (.tmp 31) (.tmp 32) 3, 3, none⟩, [31, 32]), (⟨some 34, .indexAddr 25 (.tmp 30) (.tmp 33), 0, none⟩, [30, 33]), (⟨some 35, .load 35 (.tmp 34), 35, none⟩, [34]), (⟨some 36, .indexAddr 25 (.tmp 16) (.tmp 19), 0, none⟩, [16, 19]), (⟨none, .store 35 (.tmp 36) (.tmp 29), 0, none⟩, [36, 29]), (⟨some 37, .indexAddr 25 (.tmp 20) (.tmp 23), 0, none⟩, [20, 23]), (⟨none, .store 35 (.tmp 37) (.tmp 35), 0, none⟩, [37, 35])] 3 [20, 21, 22, 23] (Q .normal ds) σ w := mk_eq rfl
@[push_cast] theorem vr122_2 : VR r122_2 [⟨some 14, .move (.tmp 10), 3, none⟩, ⟨some 15, .binOp .add 3 (.tmp 14) (.const (.int .i64 1)) 3, 3, none⟩, ⟨some 10, .assign (.tmp 15), 3, none⟩] := vR rfl
@[push_cast] theorem bsl22_20_CodesY {K : Value → World → Prop} {w : World} (x0 : ByteArray) (x1 : ByteArray) (x2 : ByteArray) (x3 : ByteArray) (x4 : ByteArray) (x5 : ByteArray) (x6 : ByteArray) (x7 : ByteArray) (x8 : ByteArray) (x9 : ByteArray) (x10 : ByteArray) (x11 : ByteArray) (x12 : ByteArray) (x13 : ByteArray) (x14 : ByteArray) (x15 : ByteArray) (x16 : ByteArray) (x17 : ByteArray) (x18 : ByteArray) (x19 : ByteArray) : vBuildSlice Try.prog 22 20 #[(0, (.string x0)), (1, (.string x1)), (2, (.string x2)), (3, (.string x3)), (4, (.string x4)), (5, (.string x5)), (6, (.string x6)), (7, (.string x7)), (8, (.string x8)), (9, (.string x9)), (10, (.string x10)), (11, (.string x11)), (12, (.string x12)), (13, (.string x13)), (14, (.string x14)), (15, (.string x15)), (16, (.string x16)), (17, (.string x17)), (18, (.string x18)), (19, (.string x19))] K w = K (.slice (some ⟨w.heap.size, 0, none⟩) 20 20) (w.alloc (.cells #[(.string x0), (.string x1), (.string x2), (.string x3), (.string x4), (.string x5), (.string x6), (.string x7), (.string x8), (.string x9), (.string x10), (.string x11), (.string x12), (.string x13), (.string x14), (.string x15), (.string x16), (.string x17), (.string x18), (.string x19)] 9)) :=
  vBuildSlice_ok Try.underlying22 ti9 (by kernel_rfl) (by decide)
@[push_cast] theorem bsl33_0_CodesY {K : Value → World → Prop} {w : World}  : vBuildSlice Try.prog 33 0 #[] K w = K (.slice (some ⟨w.heap.size, 0, none⟩) 0 0) (w.alloc (.cells #[] 64)) :=
  vBuildSlice_ok Try.underlying33 ti64 (by kernel_rfl) (by decide)
end Go.Proofs.Ythihbgpaoldbjaa
end
section
set_option linter.unusedSimpArgs false
namespace Go.Vc
open Go.RowKit
/-- A result that lies in cells. -/
theorem resK_cells {P : Program} {R : Value → World → Prop} {σ : Env} {w : World} {a s : Nat} {t : TypeId} {rs : List ResultVar} {acc l : List Value} {ad : Addr} (ha : σ a = .pointer (some ad)) (hA : aggD P t (P.underlying t) = some s) (hl : cellsAt w ad s = some l)
    (hR : resK P rs (acc ++ [.agg l.toArray]) σ R w) : resK P (.cell a t :: rs) acc σ R w := by
  unfold resK
  rw [ha]
  obtain ⟨h1, h2⟩ := run_isAgg_yes hA w
  exact ⟨.agg l.toArray, by simp [loadVar, h1, run_sizeOf h2, run_loadCells' hl], hR⟩
theorem box3 (w : World) (a b c : Value) (e : TypeId) : (w.alloc (.cells #[a, b, c] e)).cell? ⟨w.heap.size, 0, none⟩ = some a ∧ (w.alloc (.cells #[a, b, c] e)).cell? ⟨w.heap.size, 1, none⟩ = some b ∧ (w.alloc (.cells #[a, b, c] e)).cell? ⟨w.heap.size, 2, none⟩ = some c ∧ cellsAt (w.alloc (.cells #[a, b, c] e)) ⟨w.heap.size, 0, none⟩ 3 = some [a, b, c] :=
  ⟨(Blk.new w #[a, b, c] e).cell 0, (Blk.new w #[a, b, c] e).cell 1, (Blk.new w #[a, b, c] e).cell 2, Blk.cellsAt (l := [a, b, c]) (Blk.new w #[a, b, c] e)⟩
/-- Three whole numbers in a struct, held against others. -/
theorem run_triple {P : Program} {t : TypeId} {f0 f1 f2 : Field} (ht : P.underlying t = some (.struct #[f0, f1, f2])) (h0 : P.underlying f0.type = some (.int .i64)) (h1 : P.underlying f1.type = some (.int .i64)) (h2 : P.underlying f2.type = some (.int .i64)) (o0 : f0.offset = 0) (o1 : f1.offset = 1) (o2 : f2.offset = 2)
    (n0 : f0.name ≠ "_") (n1 : f1.name ≠ "_") (n2 : f2.name ≠ "_") (hp : P.stoodInHeld t = false) (hm : P.eqGuardType P.depth t = false) (x y : Operand) (a b c d e f : Int) (w : World) :
    (do eqGuard .neq t x y (.agg #[.int .i64 a, .int .i64 b, .int .i64 c]) (.agg #[.int .i64 d, .int .i64 e, .int .i64 f]); binOp .neq t (.agg #[.int .i64 a, .int .i64 b, .int .i64 c]) (.agg #[.int .i64 d, .int .i64 e, .int .i64 f])).run P w = .ok (.bool (!decide ((a, b, c) = (d, e, f)))) w := by
  have hf : P.fieldsOf t = #[f0, f1, f2] := by unfold Program.fieldsOf; rw [ht]
  have hs : P.underlying t = some (.struct (P.fieldsOf t)) := by rw [hf]; exact ht
  have hd : (decide ((a, b, c) = (d, e, f))) = (a == d && (b == e && c == f)) := by
    rw [Bool.eq_iff_iff]; simp
  rw [hd]
  simp only [Sem.run_bind, run_eqGuard_agg w .neq t x y _ _ hm, Result.andThen_ok, run_neq_struct, run_equalIn_agg w 9999 t _ _ hs hp, hf]
  have i0 : ∀ w' : World, (isAgg f0.type).run P w' = .ok false w' := run_isAgg (by rw [h0]; rfl)
  have i1 : ∀ w' : World, (isAgg f1.type).run P w' = .ok false w' := run_isAgg (by rw [h1]; rfl)
  have i2 : ∀ w' : World, (isAgg f2.type).run P w' = .ok false w' := run_isAgg (by rw [h2]; rfl)
  by_cases e1 : a = d <;> by_cases e2 : b = e <;> by_cases e3 : c = f <;> simp [Op.eqFields, n0, n1, n2, part, i0, i1, i2, o0, o1, o2, run_equalIn_int _ _ _ _ _ _ _ h0, run_equalIn_int _ _ _ _ _ _ _ h1, run_equalIn_int _ _ _ _ _ _ _ h2, e1, e2, e3]
end Go.Vc
namespace Go.Proofs.Ythihbgpaoldbjaa
open Go.Vc
set_option maxRecDepth 100000
abbrev Ag := Int × Int × Int
def agC (a : Ag) : List Value := [.int .i64 a.1, .int .i64 a.2.1, .int .i64 a.2.2]
def agV (a : Ag) : Value := .agg #[.int .i64 a.1, .int .i64 a.2.1, .int .i64 a.2.2]
theorem agC_len (a : Ag) : (agC a).length = 3 := rfl
theorem agC_one (a : Ag) : ∀ u ∈ agC a, u.oneCell' = true := by
  intro u hu
  simp only [agC, List.mem_cons, List.not_mem_nil, or_false] at hu
  rcases hu with rfl | rfl | rfl <;> rfl
abbrev AgS (w : World) (v : Value) (l : List Ag) : Prop := RecS agC 3 w v l
abbrev OwnA (w : World) (B : Nat) (v : Value) (l : List Ag) : Prop := OwnR agC 3 w B 64 v l
abbrev Fi (n : Int) : Prop := -4611686018427387904 ≤ n ∧ n ≤ 4611686018427387904
abbrev ARt (a : Ag) : Prop := Fi a.1 ∧ Fi a.2.1 ∧ Fi a.2.2 ∧ a.2.1 ≤ a.2.2
def ajn (a b : Ag) : Ag := (a.1 + b.1, min a.2.1 b.2.1, max a.2.2 b.2.2)
theorem ajn_rt {a b : Ag} (ha : ARt a) (hb : ARt b) (h : Fi (a.1 + b.1)) : ARt (ajn a b) := by
  unfold ARt Fi ajn at *
  dsimp only
  omega
/-- What either Join answers. -/
def jnV (a b : Ag) : Value := if Fi (a.1 + b.1) then .tuple #[agV (ajn a b), .int .i64 0] else .tuple #[agV (0, 0, 0), .int .i64 121]
def fitb (n : Int) : Bool := decide (Fi n)
theorem afits_c (v : Value) (l : List Int) (w : World) (h : Sl w v (l.map i64v)) : FnC Try.prog 91 #[v] w fun r w' => r = .bool (l.all fitb) ∧ Later w w' := by
  obtain ⟨o, c, rfl, g1, g2, h, g3⟩ := h.openM
  refine enter91 _ ?_
  unfold B91
  repeat' (first | (simp (disch := omega) only [push_cast, ↓reduceIte, zA, zG, zB, zH, zI, zC, zJ, zK, zL, zD, zE, zF, zM, zN, zO, zP, zQ, reduceCtorEq, not_true_eq_false, not_false_eq_true]) | (first | refine vIfE_of ?_ ?_ | refine vIfD_of ?_ ?_ | refine vIfQ_of ?_ ?_ | refine vIfV_of ?_ ?_) <;> intro _ | refine And.intro (by omega) ?_ | refine drawn_q ?_ | fail)
  refine vc_loop W91_0 (fun i : Nat => [(2, .bool false), (7, .int .i64 (i : Int))]) (fun i w' => i ≤ l.length ∧ Later w w' ∧ (l.take i).all fitb = true) (fun i => l.length - i) 0 (by decide) ?_ ?_ ?_
  · simp (disch := omega) only [push_cast, ↓reduceIte, zA, zG, zB, zH, zI, zC, zJ, zK, zL, zD, zE, zF, zM, zN, zO, zP, zQ, reduceCtorEq, not_true_eq_false, not_false_eq_true]
  · exact ⟨by omega, Later.refl _, by simp⟩
  rintro i uu w1 ⟨hi, hl1, hall⟩
  by_cases hlt : i < l.length
  · obtain ⟨a, rfl⟩ := h.some hlt
    have c0 := (h.later hl1).atI hlt
    have hmem : l[i] ∈ l := List.getElem_mem _
    by_cases hf : Fi l[i]
    · have hsn : (l.take (i + 1)).all fitb = true := by rw [take_snoc l i hlt, List.all_append, hall, Bool.true_and]; simp only [List.all_cons, List.all_nil, Bool.and_true, fitb]; exact decide_eq_true hf
      generalize l[i] = x at *
      repeat' (first | (simp (disch := omega) only [push_cast, ↓reduceIte, zA, zG, zB, zH, zI, zC, zJ, zK, zL, zD, zE, zF, zM, zN, zO, zP, zQ, reduceCtorEq, not_true_eq_false, not_false_eq_true, c0]) | (first | refine vIfE_of ?_ ?_ | refine vIfD_of ?_ ?_ | refine vIfQ_of ?_ ?_ | refine vIfV_of ?_ ?_) <;> intro _ | refine And.intro (by omega) ?_ | refine drawn_q ?_ | fail)
      exact ⟨rfl, i + 1, by simp (disch := omega) only [push_cast, ↓reduceIte, zA, zG, zB, zH, zI, zC, zJ, zK, zL, zD, zE, zF, zM, zN, zO, zP, zQ, reduceCtorEq, not_true_eq_false, not_false_eq_true], ⟨by omega, hl1, hsn⟩, by dsimp only; omega⟩
    · have hno : l.all fitb = false := by
        rw [List.all_eq_false]
        exact ⟨_, hmem, by simp only [fitb, decide_eq_true_eq]; exact hf⟩
      generalize l[i] = x at *
      by_cases h1 : x < -4611686018427387904
      · repeat' (first | (simp (disch := omega) only [push_cast, ↓reduceIte, zA, zG, zB, zH, zI, zC, zJ, zK, zL, zD, zE, zF, zM, zN, zO, zP, zQ, reduceCtorEq, not_true_eq_false, not_false_eq_true, c0]) | (first | refine vIfE_of ?_ ?_ | refine vIfD_of ?_ ?_ | refine vIfQ_of ?_ ?_ | refine vIfV_of ?_ ?_) <;> intro _ | refine And.intro (by omega) ?_ | refine drawn_q ?_ | fail)
        simp [hno, hl1]
      · repeat' (first | (simp (disch := omega) only [push_cast, ↓reduceIte, zA, zG, zB, zH, zI, zC, zJ, zK, zL, zD, zE, zF, zM, zN, zO, zP, zQ, reduceCtorEq, not_true_eq_false, not_false_eq_true, c0]) | (first | refine vIfE_of ?_ ?_ | refine vIfD_of ?_ ?_ | refine vIfQ_of ?_ ?_ | refine vIfV_of ?_ ?_) <;> intro _ | refine And.intro (by omega) ?_ | refine drawn_q ?_ | fail)
        simp [hno, hl1]
  · have e : i = l.length := by omega
    subst e
    rw [List.take_length] at hall
    repeat' (first | (simp (disch := omega) only [push_cast, ↓reduceIte, zA, zG, zB, zH, zI, zC, zJ, zK, zL, zD, zE, zF, zM, zN, zO, zP, zQ, reduceCtorEq, not_true_eq_false, not_false_eq_true]) | (first | refine vIfE_of ?_ ?_ | refine vIfD_of ?_ ?_ | refine vIfQ_of ?_ ?_ | refine vIfV_of ?_ ?_) <;> intro _ | refine And.intro (by omega) ?_ | refine drawn_q ?_ | fail)
    simp [hall, hl1]
theorem cfits_c (n : Int) (w : World) : FnC Try.prog 92 #[.int .i64 n] w fun r w' => r = .bool (decide (Fi n)) ∧ Later w w' := by
  refine enter92 _ ?_
  unfold B92
  have := Later.refl w
  by_cases h1 : -4611686018427387904 ≤ n <;> by_cases h2 : n ≤ 4611686018427387904
  all_goals
    repeat' (first | (simp (disch := omega) only [push_cast, ↓reduceIte, zA, zG, zB, zH, zI, zC, zJ, zK, zL, zD, zE, zF, zM, zN, zO, zP, zQ, reduceCtorEq, not_true_eq_false, not_false_eq_true]) | (first | refine vIfE_of ?_ ?_ | refine vIfD_of ?_ ?_ | refine vIfQ_of ?_ ?_ | refine vIfV_of ?_ ?_) <;> intro _ | refine And.intro (by omega) ?_ | refine drawn_q ?_ | fail)
    all_goals simp [h1, h2, this]
theorem aright_c (a : Ag) (w : World) : FnC Try.prog 64 #[agV a] w fun r w' => r = .bool (decide (ARt a)) ∧ Later w w' := by
  unfold agV
  refine enter64 _ ?_
  unfold B64
  have ec : (Value.agg #[.int .i64 a.1, .int .i64 a.2.1, .int .i64 a.2.2]).cells = #[.int .i64 a.1, .int .i64 a.2.1, .int .i64 a.2.2] := rfl
  obtain ⟨c0, c1, c2, _⟩ := box3 w (.int .i64 a.1) (.int .i64 a.2.1) (.int .i64 a.2.2) 64
  have la := later_alloc w (.cells #[.int .i64 a.1, .int .i64 a.2.1, .int .i64 a.2.2] 64)
  repeat' (first | (simp (disch := omega) only [push_cast, ↓reduceIte, zA, zG, zB, zH, zI, zC, zJ, zK, zL, zD, zE, zF, zM, zN, zO, zP, zQ, reduceCtorEq, not_true_eq_false, not_false_eq_true, ec, c0, c1, c2, addr_add_eq, Nat.zero_add]) | (first | refine vIfE_of ?_ ?_ | refine vIfD_of ?_ ?_ | refine vIfQ_of ?_ ?_ | refine vIfV_of ?_ ?_) <;> intro _ | refine And.intro (by omega) ?_ | refine drawn_q ?_ | fail)
  generalize hw1 : w.alloc (.cells #[.int .i64 a.1, .int .i64 a.2.1, .int .i64 a.2.2] 64) = w1 at *
  generalize w.heap.size = k at *
  have lb := later_alloc w1 (.cells #[.int .i64 a.1, .int .i64 a.2.1, .int .i64 a.2.2] 3)
  have hsl : Sl (w1.alloc (.cells #[.int .i64 a.1, .int .i64 a.2.1, .int .i64 a.2.2] 3)) (.slice (some ⟨w1.heap.size, 0, none⟩) 3 3) (([a.1, a.2.1, a.2.2] : List Int).map i64v) :=
    Sl.of_blk (xs := [.int .i64 a.1, .int .i64 a.2.1, .int .i64 a.2.2]) (Blk.new w1 _ _) rfl (by unfold maxLen; omega)
  refine (afits_c _ _ _ hsl).mono ?_
  rintro _ w2 ⟨rfl, l2⟩
  have d1 := (lb.trans l2).cell c1
  have d2 := (lb.trans l2).cell c2
  have l02 := la.trans (lb.trans l2)
  have hv : (([a.1, a.2.1, a.2.2] : List Int).all fitb) = (decide (Fi a.1) && (decide (Fi a.2.1) && decide (Fi a.2.2))) := by simp [fitb]
  rw [hv]
  by_cases h1 : Fi a.1 ∧ Fi a.2.1 ∧ Fi a.2.2
  · obtain ⟨h1, h2, h3⟩ := h1
    rw [decide_eq_true h1, decide_eq_true h2, decide_eq_true h3, Bool.and_self, Bool.and_self]
    by_cases h4 : a.2.1 ≤ a.2.2
    · repeat' (first | (simp (disch := omega) only [push_cast, ↓reduceIte, zA, zG, zB, zH, zI, zC, zJ, zK, zL, zD, zE, zF, zM, zN, zO, zP, zQ, reduceCtorEq, not_true_eq_false, not_false_eq_true, d1, d2, addr_add_eq, Nat.zero_add]) | (first | refine vIfE_of ?_ ?_ | refine vIfD_of ?_ ?_ | refine vIfQ_of ?_ ?_ | refine vIfV_of ?_ ?_) <;> intro _ | refine And.intro (by omega) ?_ | refine drawn_q ?_ | fail)
      rw [decide_eq_true (show ARt a from ⟨h1, h2, h3, h4⟩), decide_eq_true h4]
      first | exact ⟨rfl, l02⟩ | exact l02
    · repeat' (first | (simp (disch := omega) only [push_cast, ↓reduceIte, zA, zG, zB, zH, zI, zC, zJ, zK, zL, zD, zE, zF, zM, zN, zO, zP, zQ, reduceCtorEq, not_true_eq_false, not_false_eq_true, d1, d2, addr_add_eq, Nat.zero_add]) | (first | refine vIfE_of ?_ ?_ | refine vIfD_of ?_ ?_ | refine vIfQ_of ?_ ?_ | refine vIfV_of ?_ ?_) <;> intro _ | refine And.intro (by omega) ?_ | refine drawn_q ?_ | fail)
      rw [decide_eq_false (show ¬ ARt a from fun h => h4 h.2.2.2), decide_eq_false h4]
      first | exact ⟨rfl, l02⟩ | exact l02
  · have : (decide (Fi a.1) && (decide (Fi a.2.1) && decide (Fi a.2.2))) = false := by
      rw [Bool.eq_false_iff]
      intro hh
      simp only [Bool.and_eq_true, decide_eq_true_eq] at hh
      exact h1 hh
    rw [this]
    have hno : ¬ ARt a := fun hh => h1 ⟨hh.1, hh.2.1, hh.2.2.1⟩
    repeat' (first | (simp (disch := omega) only [push_cast, ↓reduceIte, zA, zG, zB, zH, zI, zC, zJ, zK, zL, zD, zE, zF, zM, zN, zO, zP, zQ, reduceCtorEq, not_true_eq_false, not_false_eq_true, d1, d2, addr_add_eq, Nat.zero_add]) | (first | refine vIfE_of ?_ ?_ | refine vIfD_of ?_ ?_ | refine vIfQ_of ?_ ?_ | refine vIfV_of ?_ ?_) <;> intro _ | refine And.intro (by omega) ?_ | refine drawn_q ?_ | fail)
    simp [hno, l02]
theorem caright_c (a : Ag) (w : World) : FnC Try.prog 66 #[agV a] w fun r w' => r = .bool (decide (ARt a)) ∧ Later w w' := by
  unfold agV
  refine enter66 _ ?_
  unfold B66
  have ec : (Value.agg #[.int .i64 a.1, .int .i64 a.2.1, .int .i64 a.2.2]).cells = #[.int .i64 a.1, .int .i64 a.2.1, .int .i64 a.2.2] := rfl
  obtain ⟨c0, c1, c2, _⟩ := box3 w (.int .i64 a.1) (.int .i64 a.2.1) (.int .i64 a.2.2) 64
  have la := later_alloc w (.cells #[.int .i64 a.1, .int .i64 a.2.1, .int .i64 a.2.2] 64)
  repeat' (first | (simp (disch := omega) only [push_cast, ↓reduceIte, zA, zG, zB, zH, zI, zC, zJ, zK, zL, zD, zE, zF, zM, zN, zO, zP, zQ, reduceCtorEq, not_true_eq_false, not_false_eq_true, ec, c0, c1, c2, addr_add_eq, Nat.zero_add]) | (first | refine vIfE_of ?_ ?_ | refine vIfD_of ?_ ?_ | refine vIfQ_of ?_ ?_ | refine vIfV_of ?_ ?_) <;> intro _ | refine And.intro (by omega) ?_ | refine drawn_q ?_ | fail)
  generalize w.alloc (.cells #[.int .i64 a.1, .int .i64 a.2.1, .int .i64 a.2.2] 64) = w1 at *
  generalize w.heap.size = k at *
  refine (cfits_c _ _).mono ?_
  rintro _ w2 ⟨rfl, l2⟩
  have d1 := l2.cell c1
  have d2 := l2.cell c2
  repeat' (first | (simp (disch := omega) only [push_cast, ↓reduceIte, zA, zG, zB, zH, zI, zC, zJ, zK, zL, zD, zE, zF, zM, zN, zO, zP, zQ, reduceCtorEq, not_true_eq_false, not_false_eq_true, d1, d2, addr_add_eq, Nat.zero_add]) | (first | refine vIfE_of ?_ ?_ | refine vIfD_of ?_ ?_ | refine vIfQ_of ?_ ?_ | refine vIfV_of ?_ ?_) <;> intro _ | refine And.intro (by omega) ?_ | refine drawn_q ?_ | fail)
  refine (cfits_c _ _).mono ?_
  rintro _ w3 ⟨rfl, l3⟩
  have e1 := l3.cell d1
  have e2 := l3.cell d2
  repeat' (first | (simp (disch := omega) only [push_cast, ↓reduceIte, zA, zG, zB, zH, zI, zC, zJ, zK, zL, zD, zE, zF, zM, zN, zO, zP, zQ, reduceCtorEq, not_true_eq_false, not_false_eq_true, e1, e2, addr_add_eq, Nat.zero_add]) | (first | refine vIfE_of ?_ ?_ | refine vIfD_of ?_ ?_ | refine vIfQ_of ?_ ?_ | refine vIfV_of ?_ ?_) <;> intro _ | refine And.intro (by omega) ?_ | refine drawn_q ?_ | fail)
  refine (cfits_c _ _).mono ?_
  rintro _ w4 ⟨rfl, l4⟩
  have f1 := l4.cell e1
  have f2 := l4.cell e2
  have l04 := ((la.trans l2).trans l3).trans l4
  by_cases h1 : Fi a.1
  · by_cases h2 : Fi a.2.1
    · by_cases h3 : Fi a.2.2
      · rw [decide_eq_true h1, decide_eq_true h2, decide_eq_true h3]
        by_cases h4 : a.2.1 ≤ a.2.2
        · repeat' (first | (simp (disch := omega) only [push_cast, ↓reduceIte, zA, zG, zB, zH, zI, zC, zJ, zK, zL, zD, zE, zF, zM, zN, zO, zP, zQ, reduceCtorEq, not_true_eq_false, not_false_eq_true, f1, f2, addr_add_eq, Nat.zero_add]) | (first | refine vIfE_of ?_ ?_ | refine vIfD_of ?_ ?_ | refine vIfQ_of ?_ ?_ | refine vIfV_of ?_ ?_) <;> intro _ | refine And.intro (by omega) ?_ | refine drawn_q ?_ | fail)
          rw [decide_eq_true (show ARt a from ⟨h1, h2, h3, h4⟩), decide_eq_true h4]
          first | exact ⟨rfl, l04⟩ | exact l04
        · repeat' (first | (simp (disch := omega) only [push_cast, ↓reduceIte, zA, zG, zB, zH, zI, zC, zJ, zK, zL, zD, zE, zF, zM, zN, zO, zP, zQ, reduceCtorEq, not_true_eq_false, not_false_eq_true, f1, f2, addr_add_eq, Nat.zero_add]) | (first | refine vIfE_of ?_ ?_ | refine vIfD_of ?_ ?_ | refine vIfQ_of ?_ ?_ | refine vIfV_of ?_ ?_) <;> intro _ | refine And.intro (by omega) ?_ | refine drawn_q ?_ | fail)
          rw [decide_eq_false (show ¬ ARt a from fun h => h4 h.2.2.2), decide_eq_false h4]
          first | exact ⟨rfl, l04⟩ | exact l04
      · have hno : ¬ ARt a := fun hh => h3 hh.2.2.1
        rw [decide_eq_true h1, decide_eq_true h2, decide_eq_false h3]
        repeat' (first | (simp (disch := omega) only [push_cast, ↓reduceIte, zA, zG, zB, zH, zI, zC, zJ, zK, zL, zD, zE, zF, zM, zN, zO, zP, zQ, reduceCtorEq, not_true_eq_false, not_false_eq_true, f1, f2, addr_add_eq, Nat.zero_add]) | (first | refine vIfE_of ?_ ?_ | refine vIfD_of ?_ ?_ | refine vIfQ_of ?_ ?_ | refine vIfV_of ?_ ?_) <;> intro _ | refine And.intro (by omega) ?_ | refine drawn_q ?_ | fail)
        simp [hno, l04]
    · have hno : ¬ ARt a := fun hh => h2 hh.2.1
      rw [decide_eq_true h1, decide_eq_false h2]
      repeat' (first | (simp (disch := omega) only [push_cast, ↓reduceIte, zA, zG, zB, zH, zI, zC, zJ, zK, zL, zD, zE, zF, zM, zN, zO, zP, zQ, reduceCtorEq, not_true_eq_false, not_false_eq_true, f1, f2, addr_add_eq, Nat.zero_add]) | (first | refine vIfE_of ?_ ?_ | refine vIfD_of ?_ ?_ | refine vIfQ_of ?_ ?_ | refine vIfV_of ?_ ?_) <;> intro _ | refine And.intro (by omega) ?_ | refine drawn_q ?_ | fail)
      simp [hno, l04]
  · have hno : ¬ ARt a := fun hh => h1 hh.1
    rw [decide_eq_false h1]
    repeat' (first | (simp (disch := omega) only [push_cast, ↓reduceIte, zA, zG, zB, zH, zI, zC, zJ, zK, zL, zD, zE, zF, zM, zN, zO, zP, zQ, reduceCtorEq, not_true_eq_false, not_false_eq_true, f1, f2, addr_add_eq, Nat.zero_add]) | (first | refine vIfE_of ?_ ?_ | refine vIfD_of ?_ ?_ | refine vIfQ_of ?_ ?_ | refine vIfV_of ?_ ?_) <;> intro _ | refine And.intro (by omega) ?_ | refine drawn_q ?_ | fail)
    simp [hno, l04]
end Go.Proofs.Ythihbgpaoldbjaa
end
section
set_option linter.unusedSimpArgs false
namespace Go.Proofs.Ythihbgpaoldbjaa
open Go.Vc
set_option maxRecDepth 100000
theorem box3_later {w w' : World} {k : Nat} {a b c : Value} {e : TypeId} (h : Blk w k #[a, b, c] e) (hl : Later w w') : w'.cell? ⟨k, 0, none⟩ = some a ∧ w'.cell? ⟨k, 1, none⟩ = some b ∧ w'.cell? ⟨k, 2, none⟩ = some c ∧ cellsAt w' ⟨k, 0, none⟩ 3 = some [a, b, c] := by
  have := h.chg (Chg.of_later (ks := []) hl) (by simp)
  exact ⟨this.cell 0, this.cell 1, this.cell 2, Blk.cellsAt (l := [a, b, c]) this⟩
theorem ajoin_c (a b : Ag) (w : World) (ha : ARt a) (hb : ARt b) : FnC Try.prog 74 #[agV a, agV b] w fun r w' => r = jnV a b ∧ Later w w' := by
  have jt : Fi (a.1 + b.1) → jnV a b = .tuple #[agV (ajn a b), .int .i64 0] := fun h => if_pos h
  have jf : ¬ Fi (a.1 + b.1) → jnV a b = .tuple #[agV (0, 0, 0), .int .i64 121] := fun h => if_neg h
  unfold agV
  refine enter74 _ _ ?_
  unfold B74
  have eca : (Value.agg #[.int .i64 a.1, .int .i64 a.2.1, .int .i64 a.2.2]).cells = #[.int .i64 a.1, .int .i64 a.2.1, .int .i64 a.2.2] := rfl
  have ecb : (Value.agg #[.int .i64 b.1, .int .i64 b.2.1, .int .i64 b.2.2]).cells = #[.int .i64 b.1, .int .i64 b.2.1, .int .i64 b.2.2] := rfl
  have l1 := later_alloc w (.cells #[.int .i64 a.1, .int .i64 a.2.1, .int .i64 a.2.2] 64)
  have B1 := Blk.new w #[.int .i64 a.1, .int .i64 a.2.1, .int .i64 a.2.2] 64
  have s1 : (w.alloc (.cells #[.int .i64 a.1, .int .i64 a.2.1, .int .i64 a.2.2] 64)).heap.size = w.heap.size + 1 := World.size_alloc w _
  repeat' (first | (simp (disch := omega) only [push_cast, ↓reduceIte, zA, zG, zB, zH, zI, zC, zJ, zK, zL, zD, zE, zF, zM, zN, zO, zP, zQ, reduceCtorEq, not_true_eq_false, not_false_eq_true, eca, ecb]) | (first | refine vIfE_of ?_ ?_ | refine vIfD_of ?_ ?_ | refine vIfQ_of ?_ ?_ | refine vIfV_of ?_ ?_) <;> intro _ | refine And.intro (by omega) ?_ | refine drawn_q ?_ | fail)
  generalize w.alloc (.cells #[.int .i64 a.1, .int .i64 a.2.1, .int .i64 a.2.2] 64) = w1 at *
  have l2 := later_alloc w1 (.cells #[.int .i64 b.1, .int .i64 b.2.1, .int .i64 b.2.2] 64)
  have B2 := Blk.new w1 #[.int .i64 b.1, .int .i64 b.2.1, .int .i64 b.2.2] 64
  have s2 : (w1.alloc (.cells #[.int .i64 b.1, .int .i64 b.2.1, .int .i64 b.2.2] 64)).heap.size = w1.heap.size + 1 := World.size_alloc w1 _
  generalize w1.alloc (.cells #[.int .i64 b.1, .int .i64 b.2.1, .int .i64 b.2.2] 64) = w2 at *
  have l3 := later_alloc w2 (.cells #[.int .i64 0, .int .i64 0, .int .i64 0] 64)
  have B3 := Blk.new w2 #[.int .i64 0, .int .i64 0, .int .i64 0] 64
  generalize w2.alloc (.cells #[.int .i64 0, .int .i64 0, .int .i64 0] 64) = w3 at *
  have FA := fun w' (hl : Later w3 w') => box3_later B1 ((l2.trans l3).trans hl)
  have FB := fun w' (hl : Later w3 w') => box3_later B2 (l3.trans hl)
  have l03 := (l1.trans l2).trans l3
  clear l1 l2 l3 B1 B2
  obtain ⟨_, _, _, a3⟩ := FA w3 (Later.refl _)
  repeat' (first | (simp (disch := omega) only [push_cast, ↓reduceIte, zA, zG, zB, zH, zI, zC, zJ, zK, zL, zD, zE, zF, zM, zN, zO, zP, zQ, reduceCtorEq, not_true_eq_false, not_false_eq_true, a3]) | (first | refine vIfE_of ?_ ?_ | refine vIfD_of ?_ ?_ | refine vIfQ_of ?_ ?_ | refine vIfV_of ?_ ?_) <;> intro _ | refine And.intro (by omega) ?_ | refine drawn_q ?_ | fail)
  refine (aright_c a w3).mono ?_
  rintro _ w4 ⟨rfl, l4⟩
  rw [decide_eq_true ha]
  obtain ⟨_, _, _, b3⟩ := FB w4 l4
  repeat' (first | (simp (disch := omega) only [push_cast, ↓reduceIte, zA, zG, zB, zH, zI, zC, zJ, zK, zL, zD, zE, zF, zM, zN, zO, zP, zQ, reduceCtorEq, not_true_eq_false, not_false_eq_true, b3]) | (first | refine vIfE_of ?_ ?_ | refine vIfD_of ?_ ?_ | refine vIfQ_of ?_ ?_ | refine vIfV_of ?_ ?_) <;> intro _ | refine And.intro (by omega) ?_ | refine drawn_q ?_ | fail)
  refine (aright_c b w4).mono ?_
  rintro _ w5 ⟨rfl, l5⟩
  rw [decide_eq_true hb]
  have l35 := l4.trans l5
  obtain ⟨c0, c1, c2, _⟩ := FA w5 l35
  obtain ⟨d0, d1, d2, _⟩ := FB w5 l35
  have hB3 := B3.chg (Chg.of_later (ks := []) l35) (by simp)
  have hlE := l03.trans l35
  have hks : ∀ k ∈ [w2.heap.size], w.heap.size ≤ k := by intro k hk; rw [List.mem_singleton.1 hk]; omega
  clear FA FB B3 a3 b3 l4 l5 l03 l35
  obtain ⟨⟨ha1, ha2⟩, ⟨ha3, ha4⟩, ⟨ha5, ha6⟩, ha7⟩ := ha
  obtain ⟨⟨hb1, hb2⟩, ⟨hb3, hb4⟩, ⟨hb5, hb6⟩, hb7⟩ := hb
  have fin : ∀ (x : Ag) (e : Int) (w6 : World) (σ : Env), Blk w6 w2.heap.size (agC x).toArray 64 → Chg w5 w6 [w2.heap.size] → σ 4 = .pointer (some ⟨w2.heap.size, 0, none⟩) → σ 5 = .int .i64 e → jnV a b = .tuple #[agV x, .int .i64 e] →
      resK Try.prog [.cell 4 64, .tmp 5] [] σ (fun r w' => r = jnV a b ∧ Later w w') w6 := by
    intro x e w6 σ hb6 hc6 h4 h5 hj
    refine resK_cells (s := 3) h4 (by rw [Try.underlying64]; exact sz64) (Blk.cellsAt (l := agC x) hb6) ?_
    repeat' (first | (simp (disch := omega) only [push_cast, ↓reduceIte, zA, zG, zB, zH, zI, zC, zJ, zK, zL, zD, zE, zF, zM, zN, zO, zP, zQ, reduceCtorEq, not_true_eq_false, not_false_eq_true, h5]) | (first | refine vIfE_of ?_ ?_ | refine vIfD_of ?_ ?_ | refine vIfQ_of ?_ ?_ | refine vIfV_of ?_ ?_) <;> intro _ | refine And.intro (by omega) ?_ | refine drawn_q ?_ | fail)
    rw [hj]
    exact ⟨rfl, Chg.later hlE hc6 hks⟩
  by_cases hf : Fi (a.1 + b.1)
  · have := jt hf
    obtain ⟨hf1, hf2⟩ := hf
    repeat' (first | (simp (disch := omega) only [push_cast, ↓reduceIte, zA, zG, zB, zH, zI, zC, zJ, zK, zL, zD, zE, zF, zM, zN, zO, zP, zQ, reduceCtorEq, not_true_eq_false, not_false_eq_true, c0, c1, c2, d0, d1, d2, addr_add_eq, Nat.zero_add]) | (first | refine vIfE_of ?_ ?_ | refine vIfD_of ?_ ?_ | refine vIfQ_of ?_ ?_ | refine vIfV_of ?_ ?_) <;> intro _ | refine And.intro (by omega) ?_ | refine drawn_q ?_ | fail)
    all_goals
      refine vStore_blk (l := [.int .i64 0, .int .i64 0, .int .i64 0]) (xs := agC (ajn a b)) hB3 rfl rfl (agC_one _) ?_
      intro w6 hb6 hc6
      repeat' (first | (simp (disch := omega) only [push_cast, ↓reduceIte, zA, zG, zB, zH, zI, zC, zJ, zK, zL, zD, zE, zF, zM, zN, zO, zP, zQ, reduceCtorEq, not_true_eq_false, not_false_eq_true]) | (first | refine vIfE_of ?_ ?_ | refine vIfD_of ?_ ?_ | refine vIfQ_of ?_ ?_ | refine vIfV_of ?_ ?_) <;> intro _ | refine And.intro (by omega) ?_ | refine drawn_q ?_ | fail)
      exact fin _ _ w6 _ hb6 hc6 (by simp (disch := omega) only [push_cast, ↓reduceIte, zA, zG, zB, zH, zI, zC, zJ, zK, zL, zD, zE, zF, zM, zN, zO, zP, zQ, reduceCtorEq, not_true_eq_false, not_false_eq_true]) (by simp (disch := omega) only [push_cast, ↓reduceIte, zA, zG, zB, zH, zI, zC, zJ, zK, zL, zD, zE, zF, zM, zN, zO, zP, zQ, reduceCtorEq, not_true_eq_false, not_false_eq_true]) this
  · have := jf hf
    have hf' : a.1 + b.1 < -4611686018427387904 ∨ 4611686018427387904 < a.1 + b.1 := by unfold Fi at hf; omega
    clear hf
    repeat' (first | (simp (disch := omega) only [push_cast, ↓reduceIte, zA, zG, zB, zH, zI, zC, zJ, zK, zL, zD, zE, zF, zM, zN, zO, zP, zQ, reduceCtorEq, not_true_eq_false, not_false_eq_true, c0, c1, c2, d0, d1, d2, addr_add_eq, Nat.zero_add]) | (first | refine vIfE_of ?_ ?_ | refine vIfD_of ?_ ?_ | refine vIfQ_of ?_ ?_ | refine vIfV_of ?_ ?_) <;> intro _ | refine And.intro (by omega) ?_ | refine drawn_q ?_ | fail)
    all_goals
      refine vStore_blk (l := [.int .i64 0, .int .i64 0, .int .i64 0]) (xs := agC (0, 0, 0)) hB3 rfl rfl (agC_one _) ?_
      intro w6 hb6 hc6
      repeat' (first | (simp (disch := omega) only [push_cast, ↓reduceIte, zA, zG, zB, zH, zI, zC, zJ, zK, zL, zD, zE, zF, zM, zN, zO, zP, zQ, reduceCtorEq, not_true_eq_false, not_false_eq_true]) | (first | refine vIfE_of ?_ ?_ | refine vIfD_of ?_ ?_ | refine vIfQ_of ?_ ?_ | refine vIfV_of ?_ ?_) <;> intro _ | refine And.intro (by omega) ?_ | refine drawn_q ?_ | fail)
      exact fin _ _ w6 _ hb6 hc6 (by simp (disch := omega) only [push_cast, ↓reduceIte, zA, zG, zB, zH, zI, zC, zJ, zK, zL, zD, zE, zF, zM, zN, zO, zP, zQ, reduceCtorEq, not_true_eq_false, not_false_eq_true]) (by simp (disch := omega) only [push_cast, ↓reduceIte, zA, zG, zB, zH, zI, zC, zJ, zK, zL, zD, zE, zF, zM, zN, zO, zP, zQ, reduceCtorEq, not_true_eq_false, not_false_eq_true]) this
theorem aone_c (n : Int) (w : World) (hn : Fi n) : FnC Try.prog 56 #[.int .i64 n] w fun r w' => r = .tuple #[agV (n, n, n), .int .i64 0] ∧ Later w w' := by
  refine enter56 _ ?_
  unfold B56
  have l1 := later_alloc w (.cells #[.int .i64 0, .int .i64 0, .int .i64 0] 64)
  have B1 := Blk.new w #[.int .i64 0, .int .i64 0, .int .i64 0] 64
  repeat' (first | (simp (disch := omega) only [push_cast, ↓reduceIte, zA, zG, zB, zH, zI, zC, zJ, zK, zL, zD, zE, zF, zM, zN, zO, zP, zQ, reduceCtorEq, not_true_eq_false, not_false_eq_true]) | (first | refine vIfE_of ?_ ?_ | refine vIfD_of ?_ ?_ | refine vIfQ_of ?_ ?_ | refine vIfV_of ?_ ?_) <;> intro _ | refine And.intro (by omega) ?_ | refine drawn_q ?_ | fail)
  generalize w.alloc (.cells #[.int .i64 0, .int .i64 0, .int .i64 0] 64) = w1 at *
  have l2 := later_alloc w1 (.cells #[.int .i64 n] 3)
  have hsl : Sl (w1.alloc (.cells #[.int .i64 n] 3)) (.slice (some ⟨w1.heap.size, 0, none⟩) 1 1) (([n] : List Int).map i64v) :=
    Sl.of_blk (xs := [.int .i64 n]) (Blk.new w1 _ _) rfl (by unfold maxLen; omega)
  refine (afits_c _ _ _ hsl).mono ?_
  rintro _ w2 ⟨rfl, l3⟩
  have hv : ([n] : List Int).all fitb = true := by simp only [List.all_cons, List.all_nil, Bool.and_true, fitb]; exact decide_eq_true hn
  rw [hv]
  have l12 := l2.trans l3
  have hB := B1.chg (Chg.of_later (ks := []) l12) (by simp)
  repeat' (first | (simp (disch := omega) only [push_cast, ↓reduceIte, zA, zG, zB, zH, zI, zC, zJ, zK, zL, zD, zE, zF, zM, zN, zO, zP, zQ, reduceCtorEq, not_true_eq_false, not_false_eq_true]) | (first | refine vIfE_of ?_ ?_ | refine vIfD_of ?_ ?_ | refine vIfQ_of ?_ ?_ | refine vIfV_of ?_ ?_) <;> intro _ | refine And.intro (by omega) ?_ | refine drawn_q ?_ | fail)
  refine vStore_blk (l := [.int .i64 0, .int .i64 0, .int .i64 0]) (xs := agC (n, n, n)) hB rfl rfl (agC_one _) ?_
  intro w6 hb6 hc6
  repeat' (first | (simp (disch := omega) only [push_cast, ↓reduceIte, zA, zG, zB, zH, zI, zC, zJ, zK, zL, zD, zE, zF, zM, zN, zO, zP, zQ, reduceCtorEq, not_true_eq_false, not_false_eq_true]) | (first | refine vIfE_of ?_ ?_ | refine vIfD_of ?_ ?_ | refine vIfQ_of ?_ ?_ | refine vIfV_of ?_ ?_) <;> intro _ | refine And.intro (by omega) ?_ | refine drawn_q ?_ | fail)
  refine resK_cells (s := 3) (by simp (disch := omega) only [push_cast, ↓reduceIte, zA, zG, zB, zH, zI, zC, zJ, zK, zL, zD, zE, zF, zM, zN, zO, zP, zQ, reduceCtorEq, not_true_eq_false, not_false_eq_true]) (by rw [Try.underlying64]; exact sz64) (Blk.cellsAt (l := agC (n, n, n)) hb6) ?_
  repeat' (first | (simp (disch := omega) only [push_cast, ↓reduceIte, zA, zG, zB, zH, zI, zC, zJ, zK, zL, zD, zE, zF, zM, zN, zO, zP, zQ, reduceCtorEq, not_true_eq_false, not_false_eq_true]) | (first | refine vIfE_of ?_ ?_ | refine vIfD_of ?_ ?_ | refine vIfQ_of ?_ ?_ | refine vIfV_of ?_ ?_) <;> intro _ | refine And.intro (by omega) ?_ | refine drawn_q ?_ | fail)
  exact ⟨rfl, Chg.later (l1.trans l12) hc6 (by intro k hk; rw [List.mem_singleton.1 hk]; omega)⟩
theorem caone_c (n : Int) (w : World) (hn : Fi n) : FnC Try.prog 58 #[.int .i64 n] w fun r w' => r = .tuple #[agV (n, n, n), .int .i64 0] ∧ Later w w' := by
  refine enter58 _ ?_
  unfold B58
  have l1 := later_alloc w (.cells #[.int .i64 0, .int .i64 0, .int .i64 0] 64)
  have B1 := Blk.new w #[.int .i64 0, .int .i64 0, .int .i64 0] 64
  repeat' (first | (simp (disch := omega) only [push_cast, ↓reduceIte, zA, zG, zB, zH, zI, zC, zJ, zK, zL, zD, zE, zF, zM, zN, zO, zP, zQ, reduceCtorEq, not_true_eq_false, not_false_eq_true]) | (first | refine vIfE_of ?_ ?_ | refine vIfD_of ?_ ?_ | refine vIfQ_of ?_ ?_ | refine vIfV_of ?_ ?_) <;> intro _ | refine And.intro (by omega) ?_ | refine drawn_q ?_ | fail)
  generalize w.alloc (.cells #[.int .i64 0, .int .i64 0, .int .i64 0] 64) = w1 at *
  refine (cfits_c _ _).mono ?_
  rintro _ w2 ⟨rfl, l12⟩
  rw [decide_eq_true hn]
  have hB := B1.chg (Chg.of_later (ks := []) l12) (by simp)
  repeat' (first | (simp (disch := omega) only [push_cast, ↓reduceIte, zA, zG, zB, zH, zI, zC, zJ, zK, zL, zD, zE, zF, zM, zN, zO, zP, zQ, reduceCtorEq, not_true_eq_false, not_false_eq_true]) | (first | refine vIfE_of ?_ ?_ | refine vIfD_of ?_ ?_ | refine vIfQ_of ?_ ?_ | refine vIfV_of ?_ ?_) <;> intro _ | refine And.intro (by omega) ?_ | refine drawn_q ?_ | fail)
  refine vStore_blk (l := [.int .i64 0, .int .i64 0, .int .i64 0]) (xs := agC (n, n, n)) hB rfl rfl (agC_one _) ?_
  intro w6 hb6 hc6
  repeat' (first | (simp (disch := omega) only [push_cast, ↓reduceIte, zA, zG, zB, zH, zI, zC, zJ, zK, zL, zD, zE, zF, zM, zN, zO, zP, zQ, reduceCtorEq, not_true_eq_false, not_false_eq_true]) | (first | refine vIfE_of ?_ ?_ | refine vIfD_of ?_ ?_ | refine vIfQ_of ?_ ?_ | refine vIfV_of ?_ ?_) <;> intro _ | refine And.intro (by omega) ?_ | refine drawn_q ?_ | fail)
  refine resK_cells (s := 3) (by simp (disch := omega) only [push_cast, ↓reduceIte, zA, zG, zB, zH, zI, zC, zJ, zK, zL, zD, zE, zF, zM, zN, zO, zP, zQ, reduceCtorEq, not_true_eq_false, not_false_eq_true]) (by rw [Try.underlying64]; exact sz64) (Blk.cellsAt (l := agC (n, n, n)) hb6) ?_
  repeat' (first | (simp (disch := omega) only [push_cast, ↓reduceIte, zA, zG, zB, zH, zI, zC, zJ, zK, zL, zD, zE, zF, zM, zN, zO, zP, zQ, reduceCtorEq, not_true_eq_false, not_false_eq_true]) | (first | refine vIfE_of ?_ ?_ | refine vIfD_of ?_ ?_ | refine vIfQ_of ?_ ?_ | refine vIfV_of ?_ ?_) <;> intro _ | refine And.intro (by omega) ?_ | refine drawn_q ?_ | fail)
  exact ⟨rfl, Chg.later (l1.trans l12) hc6 (by intro k hk; rw [List.mem_singleton.1 hk]; omega)⟩
/-- Two aggs, held against one another, in an expression of two ways. -/
theorem qX_agg {x y : Operand} {u ty : TypeId} {σ : Env} {w : World} {K : Value → Prop} {a b : Ag} (hx : ev σ x = agV a) (hy : ev σ y = agV b) (hk : K (.bool (!decide (a = b)))) :
    qX Try.prog (.binOp .neq 64 x y u) ty σ w K := by
  refine pure_of_up (s := do eqGuard .neq 64 x y (ev σ x) (ev σ y); binOp .neq 64 (ev σ x) (ev σ y)) (fun w' => ?_) ⟨_, fun w' => ?_, hk⟩
  · unfold exe; simp only [execOp]; rfl
  · rw [hx, hy]
    exact run_triple Try.underlying64 Try.underlying3 Try.underlying3 Try.underlying3 rfl rfl rfl (by decide) (by decide) (by decide) (by kernel_rfl) (by kernel_rfl) _ _ _ _ _ _ _ _ _
theorem casame_c (u v : Value) (a b : List Ag) (w : World) (hu : AgS w u a) (hv : AgS w v b) : FnC Try.prog 67 #[u, v] w fun r w' => r = .bool (decide (a = b)) ∧ Later w w' := by
  obtain ⟨oa, ca, rfl, g1, g2⟩ := hu.slice
  obtain ⟨ob, cb, rfl, k1, k2⟩ := hv.slice
  refine enter67 _ _ ?_
  unfold B67
  by_cases hlen : a.length = b.length
  · repeat' (first | (simp (disch := omega) only [push_cast, ↓reduceIte, zA, zG, zB, zH, zI, zC, zJ, zK, zL, zD, zE, zF, zM, zN, zO, zP, zQ, reduceCtorEq, not_true_eq_false, not_false_eq_true]) | (first | refine vIfE_of ?_ ?_ | refine vIfD_of ?_ ?_ | refine vIfQ_of ?_ ?_ | refine vIfV_of ?_ ?_) <;> intro _ | refine And.intro (by omega) ?_ | refine drawn_q ?_ | fail)
    refine vc_loop W67_0 (fun i : Nat => [(4, .bool false), (5, .int .i64 (i : Int))])
      (fun i w' => i ≤ a.length ∧ Later w w' ∧ a.take i = b.take i) (fun i => a.length - i) 0 (by decide) ?_ ?_ ?_
    · simp (disch := omega) only [push_cast, ↓reduceIte, zA, zG, zB, zH, zI, zC, zJ, zK, zL, zD, zE, zF, zM, zN, zO, zP, zQ, reduceCtorEq, not_true_eq_false, not_false_eq_true]
    · exact ⟨by omega, Later.refl _, by simp⟩
    rintro i uu w0 ⟨hi, hl, he⟩
    by_cases ha : i < a.length
    · have hb : i < b.length := by omega
      obtain ⟨aa, rfl, c1⟩ := RecS.at agC_len (hu.later hl) ha
      obtain ⟨bb, rfl, c2⟩ := RecS.at agC_len (hv.later hl) hb
      unfold agC at c1 c2
      repeat' (first | (simp (disch := omega) only [push_cast, ↓reduceIte, zA, zG, zB, zH, zI, zC, zJ, zK, zL, zD, zE, zF, zM, zN, zO, zP, zQ, reduceCtorEq, not_true_eq_false, not_false_eq_true]) | (first | refine vIfE_of ?_ ?_ | refine vIfD_of ?_ ?_ | refine vIfQ_of ?_ ?_ | refine vIfV_of ?_ ?_) <;> intro _ | refine And.intro (by omega) ?_ | fail)
      refine drawn_q ?_
      repeat' (first | (simp (disch := omega) only [push_cast, ↓reduceIte, zA, zG, zB, zH, zI, zC, zJ, zK, zL, zD, zE, zF, zM, zN, zO, zP, zQ, reduceCtorEq, not_true_eq_false, not_false_eq_true, c1, c2]) | (first | refine vIfE_of ?_ ?_ | refine vIfD_of ?_ ?_ | refine vIfQ_of ?_ ?_ | refine vIfV_of ?_ ?_) <;> intro _ | refine And.intro (by omega) ?_ | refine drawn_q ?_ | fail)
      refine qX_agg (a := a[i]) (b := b[i]) (by simp (disch := omega) only [push_cast, ↓reduceIte, zA, zG, zB, zH, zI, zC, zJ, zK, zL, zD, zE, zF, zM, zN, zO, zP, zQ, reduceCtorEq, not_true_eq_false, not_false_eq_true]; rfl) (by simp (disch := omega) only [push_cast, ↓reduceIte, zA, zG, zB, zH, zI, zC, zJ, zK, zL, zD, zE, zF, zM, zN, zO, zP, zQ, reduceCtorEq, not_true_eq_false, not_false_eq_true]; rfl) ?_
      by_cases hab : a[i] = b[i]
      · repeat' (first | (simp (disch := omega) only [push_cast, ↓reduceIte, zA, zG, zB, zH, zI, zC, zJ, zK, zL, zD, zE, zF, zM, zN, zO, zP, zQ, reduceCtorEq, not_true_eq_false, not_false_eq_true, hab, decide_true]) | (first | refine vIfE_of ?_ ?_ | refine vIfD_of ?_ ?_ | refine vIfQ_of ?_ ?_ | refine vIfV_of ?_ ?_) <;> intro _ | refine And.intro (by omega) ?_ | refine drawn_q ?_ | fail)
        intro w1 hl1
        repeat' (first | (simp (disch := omega) only [push_cast, ↓reduceIte, zA, zG, zB, zH, zI, zC, zJ, zK, zL, zD, zE, zF, zM, zN, zO, zP, zQ, reduceCtorEq, not_true_eq_false, not_false_eq_true]) | (first | refine vIfE_of ?_ ?_ | refine vIfD_of ?_ ?_ | refine vIfQ_of ?_ ?_ | refine vIfV_of ?_ ?_) <;> intro _ | refine And.intro (by omega) ?_ | refine drawn_q ?_ | fail)
        refine ⟨rfl, i + 1, by simp (disch := omega) only [push_cast, ↓reduceIte, zA, zG, zB, zH, zI, zC, zJ, zK, zL, zD, zE, zF, zM, zN, zO, zP, zQ, reduceCtorEq, not_true_eq_false, not_false_eq_true], ⟨by omega, hl.trans hl1, ?_⟩, by simp; omega⟩
        rw [take_snoc a i ha, take_snoc b i hb, he, hab]
      · have hne : a ≠ b := fun e => by subst e; exact hab rfl
        repeat' (first | (simp (disch := omega) only [push_cast, ↓reduceIte, zA, zG, zB, zH, zI, zC, zJ, zK, zL, zD, zE, zF, zM, zN, zO, zP, zQ, reduceCtorEq, not_true_eq_false, not_false_eq_true, hab, decide_false]) | (first | refine vIfE_of ?_ ?_ | refine vIfD_of ?_ ?_ | refine vIfQ_of ?_ ?_ | refine vIfV_of ?_ ?_) <;> intro _ | refine And.intro (by omega) ?_ | refine drawn_q ?_ | fail)
        intro w1 hl1
        repeat' (first | (simp (disch := omega) only [push_cast, ↓reduceIte, zA, zG, zB, zH, zI, zC, zJ, zK, zL, zD, zE, zF, zM, zN, zO, zP, zQ, reduceCtorEq, not_true_eq_false, not_false_eq_true]) | (first | refine vIfE_of ?_ ?_ | refine vIfD_of ?_ ?_ | refine vIfQ_of ?_ ?_ | refine vIfV_of ?_ ?_) <;> intro _ | refine And.intro (by omega) ?_ | refine drawn_q ?_ | fail)
        simp [hne, hl.trans hl1]
    · have e : i = a.length := by omega
      subst e
      rw [List.take_length, hlen, List.take_length] at he
      repeat' (first | (simp (disch := omega) only [push_cast, ↓reduceIte, zA, zG, zB, zH, zI, zC, zJ, zK, zL, zD, zE, zF, zM, zN, zO, zP, zQ, reduceCtorEq, not_true_eq_false, not_false_eq_true]) | (first | refine vIfE_of ?_ ?_ | refine vIfD_of ?_ ?_ | refine vIfQ_of ?_ ?_ | refine vIfV_of ?_ ?_) <;> intro _ | refine And.intro (by omega) ?_ | refine drawn_q ?_ | fail)
      simp [he, hl]
  · have hne : a ≠ b := fun e => by subst e; exact hlen rfl
    repeat' (first | (simp (disch := omega) only [push_cast, ↓reduceIte, zA, zG, zB, zH, zI, zC, zJ, zK, zL, zD, zE, zF, zM, zN, zO, zP, zQ, reduceCtorEq, not_true_eq_false, not_false_eq_true]) | (first | refine vIfE_of ?_ ?_ | refine vIfD_of ?_ ?_ | refine vIfQ_of ?_ ?_ | refine vIfV_of ?_ ?_) <;> intro _ | refine And.intro (by omega) ?_ | refine drawn_q ?_ | fail)
    simp [hne, Later.refl]
end Go.Proofs.Ythihbgpaoldbjaa
end
section
namespace Go.Key
open Go.Stab
theorem bl_tri : ∀ (a b : List UInt8), (Op.bytesLess a b = true ∧ Op.bytesLess b a = false ∧ a ≠ b) ∨ (a = b ∧ Op.bytesLess a b = false) ∨ (Op.bytesLess a b = false ∧ Op.bytesLess b a = true ∧ a ≠ b)
  | [], [] => .inr (.inl ⟨rfl, rfl⟩)
  | [], _ :: _ => .inl ⟨rfl, rfl, by simp⟩
  | _ :: _, [] => .inr (.inr ⟨rfl, rfl, by simp⟩)
  | x :: a, y :: b => by
    rcases UInt8.lt_or_lt_of_ne (a := x) (b := y) |> fun h => (Decidable.em (x = y)).imp id h with e | e | e
    · subst e
      have hx : ¬ x < x := UInt8.lt_irrefl x
      rcases bl_tri a b with ⟨h1, h2, h3⟩ | ⟨h1, h2⟩ | ⟨h1, h2, h3⟩
      · exact .inl ⟨by simp [Op.bytesLess, h1], by simp [Op.bytesLess, h2, hx], by simpa using h3⟩
      · exact .inr (.inl ⟨by rw [h1], by simp [Op.bytesLess, h2, hx]⟩)
      · exact .inr (.inr ⟨by simp [Op.bytesLess, h1, hx], by simp [Op.bytesLess, h2], by simpa using h3⟩)
    · have n : ¬ y < x := fun h => UInt8.lt_irrefl _ (UInt8.lt_trans h e)
      have ne : x ≠ y := fun h => by subst h; exact UInt8.lt_irrefl _ e
      exact .inl ⟨by simp [Op.bytesLess, e], by simp [Op.bytesLess, n, Ne.symm ne], by simp [ne]⟩
    · have n : ¬ x < y := fun h => UInt8.lt_irrefl _ (UInt8.lt_trans h e)
      have ne : x ≠ y := fun h => by subst h; exact UInt8.lt_irrefl _ e
      exact .inr (.inr ⟨by simp [Op.bytesLess, n, ne], by simp [Op.bytesLess, e], by simp [ne]⟩)
theorem bl_trans : ∀ (a b c : List UInt8), Op.bytesLess a b = true → Op.bytesLess b c = true → Op.bytesLess a c = true
  | _, [], _, h, _ => by simp [Op.bytesLess] at h
  | _, _ :: _, [], _, h => by simp [Op.bytesLess] at h
  | [], _ :: _, _ :: _, _, _ => rfl
  | x :: a, y :: b, z :: c, h, g => by
    simp only [Op.bytesLess, Bool.or_eq_true, decide_eq_true_eq, Bool.and_eq_true, beq_iff_eq] at h g ⊢
    rcases h with h | ⟨rfl, h⟩ <;> rcases g with g | ⟨rfl, g⟩
    · exact .inl (UInt8.lt_trans h g)
    · exact .inl h
    · exact .inl g
    · exact .inr ⟨rfl, bl_trans a b c h g⟩
/-- Texts. -/
def blt (a b : ByteArray) : Bool := Op.bytesLess a.data.toList b.data.toList
theorem ba_ext {a b : ByteArray} (h : a.data.toList = b.data.toList) : a = b := by
  cases a; cases b
  congr
  exact Array.ext' h
theorem blt_tri (a b : ByteArray) : (blt a b = true ∧ blt b a = false ∧ a ≠ b) ∨ (a = b ∧ blt a b = false) ∨ (blt a b = false ∧ blt b a = true ∧ a ≠ b) := by
  rcases bl_tri a.data.toList b.data.toList with ⟨h1, h2, h3⟩ | ⟨h1, h2⟩ | ⟨h1, h2, h3⟩
  · exact .inl ⟨h1, h2, fun e => h3 (by rw [e])⟩
  · exact .inr (.inl ⟨ba_ext h1, h2⟩)
  · exact .inr (.inr ⟨h1, h2, fun e => h3 (by rw [e])⟩)
def cstr (a b : ByteArray) : Int := if blt a b = true then -1 else if a = b then 0 else 1
theorem cstr_is (a b : ByteArray) : (cstr a b = -1 ∧ cstr b a = 1 ∧ blt a b = true) ∨ (cstr a b = 0 ∧ cstr b a = 0 ∧ a = b) ∨ (cstr a b = 1 ∧ cstr b a = -1 ∧ blt b a = true) := by
  rcases blt_tri a b with ⟨h1, h2, h3⟩ | ⟨h1, h2⟩ | ⟨h1, h2, h3⟩
  · exact .inl ⟨by simp [cstr, h1], by simp [cstr, h2, Ne.symm h3], h1⟩
  · subst h1; exact .inr (.inl ⟨by simp [cstr, h2], by simp [cstr, h2], rfl⟩)
  · exact .inr (.inr ⟨by simp [cstr, h1, h3], by simp [cstr, h2], h2⟩)
/-- Lists of texts. -/
def clist : List ByteArray → List ByteArray → Int
  | [], [] => 0
  | [], _ :: _ => -1
  | _ :: _, [] => 1
  | a :: x, b :: y => if cstr a b = 0 then clist x y else cstr a b
theorem clist_is : ∀ (a b : List ByteArray), (clist a b = -1 ∧ clist b a = 1 ∧ a ≠ b) ∨ (clist a b = 0 ∧ clist b a = 0 ∧ a = b) ∨ (clist a b = 1 ∧ clist b a = -1 ∧ a ≠ b)
  | [], [] => .inr (.inl ⟨rfl, rfl, rfl⟩)
  | [], _ :: _ => .inl ⟨rfl, rfl, by simp⟩
  | _ :: _, [] => .inr (.inr ⟨rfl, rfl, by simp⟩)
  | x :: a, y :: b => by
    rcases cstr_is x y with ⟨h1, h2, h3⟩ | ⟨h1, h2, h3⟩ | ⟨h1, h2, h3⟩
    · refine .inl ⟨by simp [clist, h1], by simp [clist, h2], fun e => ?_⟩
      obtain ⟨rfl, _⟩ := List.cons.inj e
      rw [h1] at h2; cases h2
    · subst h3
      rcases clist_is a b with ⟨g1, g2, g3⟩ | ⟨g1, g2, g3⟩ | ⟨g1, g2, g3⟩
      · exact .inl ⟨by simp [clist, h1, g1], by simp [clist, h1, g2], by simp [g3]⟩
      · exact .inr (.inl ⟨by simp [clist, h1, g1], by simp [clist, h1, g2], by simp [g3]⟩)
      · exact .inr (.inr ⟨by simp [clist, h1, g1], by simp [clist, h1, g2], by simp [g3]⟩)
    · refine .inr (.inr ⟨by simp [clist, h1], by simp [clist, h2], fun e => ?_⟩)
      obtain ⟨rfl, _⟩ := List.cons.inj e
      rw [h1] at h2; cases h2
theorem cstr_trans {a b c : ByteArray} (h : cstr a b = -1) (g : cstr b c = -1) : cstr a c = -1 := by
  have h1 : blt a b = true := by
    rcases cstr_is a b with h' | h' | h'
    · exact h'.2.2
    · rw [h] at h'; cases h'.1
    · rw [h] at h'; cases h'.1
  have h2 : blt b c = true := by
    rcases cstr_is b c with h' | h' | h'
    · exact h'.2.2
    · rw [g] at h'; cases h'.1
    · rw [g] at h'; cases h'.1
  have : blt a c = true := bl_trans _ _ _ h1 h2
  simp [cstr, this]
theorem clist_trans : ∀ (a b c : List ByteArray), clist a b = -1 → clist b c = -1 → clist a c = -1
  | [], [], _, h, _ => by simp [clist] at h
  | _ :: _, [], _, h, _ => by simp [clist] at h
  | _, _ :: _, [], _, h => by simp [clist] at h
  | [], _ :: _, _ :: _, _, _ => rfl
  | x :: a, y :: b, z :: c, h, g => by
    simp only [clist] at h g ⊢
    by_cases e1 : cstr x y = 0
    · have exy : x = y := by
        rcases cstr_is x y with h' | h' | h'
        · rw [e1] at h'; cases h'.1
        · exact h'.2.2
        · rw [e1] at h'; cases h'.1
      subst exy
      rw [if_pos e1] at h
      by_cases e2 : cstr x z = 0
      · rw [if_pos e2] at g ⊢
        exact clist_trans a b c h g
      · rw [if_neg e2] at g ⊢
        exact g
    · rw [if_neg e1] at h
      by_cases e2 : cstr y z = 0
      · have eyz : y = z := by
          rcases cstr_is y z with h' | h' | h'
          · rw [e2] at h'; cases h'.1
          · exact h'.2.2
          · rw [e2] at h'; cases h'.1
        subst eyz
        rw [if_neg (by rw [h]; decide), h]
      · rw [if_neg e2] at g
        have := cstr_trans h g
        rw [if_neg (by rw [this]; decide), this]
/-- Keys. -/
def ckey (t : Int) (d : List ByteArray) (t' : Int) (d' : List ByteArray) : Int := if t < t' then -1 else if t' < t then 1 else clist d d'
theorem ckey_is (t : Int) (d : List ByteArray) (t' : Int) (d' : List ByteArray) : (ckey t d t' d' = -1 ∧ ckey t' d' t d = 1 ∧ ¬ (t = t' ∧ d = d')) ∨ (ckey t d t' d' = 0 ∧ ckey t' d' t d = 0 ∧ t = t' ∧ d = d') ∨ (ckey t d t' d' = 1 ∧ ckey t' d' t d = -1 ∧ ¬ (t = t' ∧ d = d')) := by
  unfold ckey
  by_cases h1 : t < t'
  · exact .inl ⟨if_pos h1, by rw [if_neg (by omega), if_pos h1], by omega⟩
  · by_cases h2 : t' < t
    · exact .inr (.inr ⟨by rw [if_neg h1, if_pos h2], if_pos h2, by omega⟩)
    · have e : t = t' := by omega
      subst e
      rw [if_neg h1, if_neg h1, if_neg h1, if_neg h1]
      rcases clist_is d d' with ⟨g1, g2, g3⟩ | ⟨g1, g2, g3⟩ | ⟨g1, g2, g3⟩
      · exact .inl ⟨g1, g2, fun h => g3 h.2⟩
      · exact .inr (.inl ⟨g1, g2, rfl, g3⟩)
      · exact .inr (.inr ⟨g1, g2, fun h => g3 h.2⟩)
theorem ckey_trans {t t' t'' : Int} {d d' d'' : List ByteArray} (h : ckey t d t' d' = -1) (g : ckey t' d' t'' d'' = -1) : ckey t d t'' d'' = -1 := by
  unfold ckey at *
  split at h
  · split at g
    · rw [if_pos (by omega)]
    · split at g
      · cases g
      · rw [if_pos (by omega)]
  · split at h
    · cases h
    · split at g
      · rw [if_pos (by omega)]
      · split at g
        · cases g
        · rw [if_neg (by omega), if_neg (by omega)]
          exact clist_trans _ _ _ h g
/-- An order out of keys. -/
theorem swo_key {α : Type} (t : α → Int) (d : α → List ByteArray) : Swo (fun a b : α => decide (ckey (t a) (d a) (t b) (d b) < 0)) where
  asym a b h := by
    have h : ckey (t a) (d a) (t b) (d b) < 0 := of_decide_eq_true h
    rcases ckey_is (t a) (d a) (t b) (d b) with h' | h' | h' <;> exact decide_eq_false (by omega)
  ntr a b c h g := by
    have h : ¬ ckey (t b) (d b) (t a) (d a) < 0 := of_decide_eq_false h
    have g : ¬ ckey (t c) (d c) (t b) (d b) < 0 := of_decide_eq_false g
    refine decide_eq_false ?_
    rcases ckey_is (t a) (d a) (t b) (d b) with h1 | h1 | h1
    · rcases ckey_is (t b) (d b) (t c) (d c) with h2 | h2 | h2
      · have := ckey_trans h1.1 h2.1
        rcases ckey_is (t a) (d a) (t c) (d c) with h3 | h3 | h3 <;> omega
      · rw [← h2.2.2.1, ← h2.2.2.2]; exact h
      · omega
    · rw [h1.2.2.1, h1.2.2.2]; exact g
    · omega
end Go.Key
end
