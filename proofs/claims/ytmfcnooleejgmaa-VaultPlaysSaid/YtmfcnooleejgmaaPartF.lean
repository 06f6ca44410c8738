/- The functions' code in the generator's form. Written by a program (codes.py) out of Lean's own print of the loaded translation. -/
import Derived.Laws.MakeOwn
import Derived.Lib.SlBytesConst
import Derived.Laws.StructEq
import Derived.Maps.AppendAt
import Derived.Test.YtmfcnooleejgmaaPartE
set_option linter.all false
open Nat renaming reduceEqDiff → zA, reducePow → zB, reduceMul → zC, reduceAdd → zD, reduceSub → zE, reduceLeDiff → zF
open Int renaming reduceToNat → zG, reducePow → zH, reduceNeg → zI, reduceMul → zJ, reduceAdd → zK, reduceSub → zL, reduceLT → zM, reduceLE → zN, reduceEq → zO, reduceMod → zP, reduceDiv → zQ
section
namespace Go.Proofs.Ytmfcnooleejgmaa
open Go.Vc
set_option maxRecDepth 100000
variable (Q : Post) (ds : List Deferred) (σ : Env) (w : World)
abbrev VR (r l : List VOp) : Prop := ∀ (Q : Post) (ds : List Deferred) (σ : Env) (w : World), vc Try.prog (.region r) Q ds σ w = vcOps Try.prog l (Q .normal ds) σ w
theorem vR {r l : List VOp} (h : r = l) : VR r l := fun Q ds σ w => mk_eq (by subst h; rfl)
abbrev mv (d s t : Nat) : VOp := ⟨some d, .move (.tmp s), t, none⟩
abbrev lda (d t s : Nat) : VOp := ⟨some d, .load t (.tmp s), t, none⟩
abbrev asg (d s t : Nat) : VOp := ⟨some d, .assign (.tmp s), t, none⟩
abbrev ext (d s i t : Nat) : VOp := ⟨some d, .extract (.tmp s) i, t, none⟩
abbrev fad (d t s i : Nat) : VOp := ⟨some d, .fieldAddr t (.tmp s) i, 0, none⟩
abbrev iad (d t s i : Nat) : VOp := ⟨some d, .indexAddr t (.tmp s) (.tmp i), 0, none⟩
/-! 9 columbary/vault.New (params #[3], results #[(.tmp 2), (.tmp 3)], 14 slots) -/
def r9_0 : List VOp :=
  [⟨some 2, .assign (.const (.pointer none)), 23, none⟩,
   ⟨some 3, .assign (.const (.int .i64 0)), 24, none⟩]
def r9_1 : List VOp :=
  [mv 4 0 3,
   ⟨some 5, .binOp .lss 3 (.tmp 4) (.const (.int .i64 0)) 3, 4, none⟩,
   mv 6 5 4,
   ⟨some 7, .move (.tmp 0), 3, some (6, false)⟩,
   ⟨some 8, .binOp .gtr 3 (.tmp 7) (.const (.int .i64 16777216)) 3, 4, some (6, false)⟩,
   ⟨some 9, .pick (.tmp 6) (.const (.bool true)) (.tmp 8), 4, none⟩]
def r9_2 : List VOp :=
  [⟨some 2, .assign (.const (.pointer none)), 23, none⟩,
   ⟨some 3, .assign (.const (.int .i64 1)), 24, none⟩]
def r9_3 : List VOp :=
  [mv 10 0 3,
   ⟨some 11, .makeMap 55 none, 55, none⟩,
   ⟨some 12, .build 57 #[(0, (.tmp 10)), (1, (.const (.int .i64 (-1)))), (2, (.tmp 11))], 57, none⟩,
   ⟨some 13, .box 57 (.tmp 12), 23, none⟩,
   asg 2 13 23,
   ⟨some 3, .assign (.const (.int .i64 0)), 24, none⟩]
def B9 : VC :=
  (.seq (.region r9_0) (.seq (.seq (.region r9_1) (.cond (.tmp 9) (.seq (.region r9_2) .ret) .skip)) (.seq (.region r9_3) .ret)))
theorem code9 : ∃ c, Try.f9.body = some c ∧ abs Try.f9.ntmps c = B9 := ⟨_, rfl, by kernel_rfl⟩
theorem hb9 : HasBody Try.prog 9 := hasBody_of Try.func9 (by kernel_rfl)
theorem res9 : Try.f9.results = #[(.tmp 2), (.tmp 3)] := rfl
theorem enter9 {w : World} {R : Value → World → Prop} (x0 : Value) (h : vc Try.prog B9 (retK Try.prog #[(.tmp 2), (.tmp 3)] R) [] (initEnv [x0] 0) w) : FnC Try.prog 9 #[x0] w R := by
  obtain ⟨c, h1, h2⟩ := code9
  exact hb9.fn (ret_of_vc mixed Try.func9 h1 (Nat.le_of_ble_eq_true rfl) B9 h2 h)
@[push_cast] theorem vr9_0 : VR r9_0 [⟨some 2, .assign (.const (.pointer none)), 23, none⟩, ⟨some 3, .assign (.const (.int .i64 0)), 24, none⟩] := vR rfl
@[push_cast] theorem vr9_1 : VR r9_1 [⟨some 4, .move (.tmp 0), 3, none⟩, ⟨some 5, .binOp .lss 3 (.tmp 4) (.const (.int .i64 0)) 3, 4, none⟩, ⟨some 6, .move (.tmp 5), 4, none⟩, ⟨some 7, .move (.tmp 0), 3, some (6, false)⟩, ⟨some 8, .binOp .gtr 3 (.tmp 7) (.const (.int .i64 16777216)) 3, 4, some (6, false)⟩, ⟨some 9, .pick (.tmp 6) (.const (.bool true)) (.tmp 8), 4, none⟩] := vR rfl
@[push_cast] theorem vr9_2 : VR r9_2 [⟨some 2, .assign (.const (.pointer none)), 23, none⟩, ⟨some 3, .assign (.const (.int .i64 1)), 24, none⟩] := vR rfl
@[push_cast] theorem vr9_3 : VR r9_3 [⟨some 10, .move (.tmp 0), 3, none⟩, ⟨some 11, .makeMap 55 none, 55, none⟩, ⟨some 12, .build 57 #[(0, (.tmp 10)), (1, (.const (.int .i64 (-1)))), (2, (.tmp 11))], 57, none⟩, ⟨some 13, .box 57 (.tmp 12), 23, none⟩, ⟨some 2, .assign (.tmp 13), 23, none⟩, ⟨some 3, .assign (.const (.int .i64 0)), 24, none⟩] := vR rfl
/-! 10 (*columbary/vault.Vault).Append (params #[23, 9, 22], results #[(.tmp 6)], 61 slots) -/
def r10_0 : List VOp :=
  [⟨some 6, .assign (.const (.int .i64 0)), 24, none⟩]
def r10_1 : List VOp :=
  [mv 11 0 23,
   mv 12 1 9,
   ⟨some 13, .call ⟨.value (.func 31), #[(.tmp 11), (.tmp 12), (.const (.bool false))], #[23, 9, 4]⟩, 24, none⟩,
   asg 7 13 24]
def r10_2 : List VOp :=
  [mv 14 7 24,
   ⟨some 15, .binOp .neq 24 (.tmp 14) (.const (.int .i64 0)) 24, 4, none⟩]
def r10_3 : List VOp :=
  [mv 16 7 24,
   asg 6 16 24]
def r10_4 : List VOp :=
  [mv 17 0 23,
   ⟨some 18, .call ⟨.value (.func 32), #[.tmp 17], #[23]⟩, 24, none⟩,
   asg 8 18 24]
def r10_5 : List VOp :=
  [mv 19 8 24,
   ⟨some 20, .binOp .neq 24 (.tmp 19) (.const (.int .i64 0)) 24, 4, none⟩]
def r10_6 : List VOp :=
  [mv 21 8 24,
   asg 6 21 24]
def r10_7 : List VOp :=
  [mv 23 0 23,
   ⟨some 24, .nilCheck (.tmp 23), 0, none⟩,
   fad 25 57 24 2,
   lda 26 55 25,
   mv 27 1 9,
   ⟨some 28, .lookup 55 (.tmp 26) (.tmp 27) true, 62, none⟩,
   mv 22 28 62,
   ext 29 22 0 61,
   ext 30 22 1 4,
   ⟨some 9, .alloc 61, 0, none⟩,
   ⟨none, .store 61 (.tmp 9) (.tmp 29), 0, none⟩,
   asg 10 30 4]
def r10_8 : List VOp :=
  [mv 31 2 22,
   ⟨some 32, .call ⟨.builtin .len, #[.tmp 31], #[22]⟩, 3, none⟩,
   mv 33 0 23,
   ⟨some 34, .call ⟨.value (.func 17), #[.tmp 33], #[23]⟩, 3, none⟩,
   ⟨some 35, .binOp .gtr 3 (.tmp 32) (.tmp 34) 3, 4, none⟩,
   mv 36 35 4,
   ⟨some 37, .move (.tmp 10), 4, some (36, false)⟩,
   ⟨some 38, .unOp .not 4 (.tmp 37), 4, some (36, false)⟩,
   ⟨some 39, .move (.tmp 38), 4, some (36, false)⟩,
   ⟨some 40, .move (.tmp 0), 23, some (39, true)⟩,
   ⟨some 41, .nilCheck (.tmp 40), 0, some (39, true)⟩,
   ⟨some 42, .fieldAddr 57 (.tmp 41) 2, 0, some (39, true)⟩,
   ⟨some 43, .load 55 (.tmp 42), 55, some (39, true)⟩,
   ⟨some 44, .call ⟨.builtin .len, #[.tmp 43], #[55]⟩, 3, some (39, true)⟩,
   ⟨some 45, .binOp .geq 3 (.tmp 44) (.const (.int .i64 200)) 3, 4, some (39, true)⟩,
   ⟨some 46, .pick (.tmp 39) (.tmp 45) (.const (.bool false)), 4, some (36, false)⟩,
   ⟨some 47, .pick (.tmp 36) (.const (.bool true)) (.tmp 46), 4, none⟩]
def r10_9 : List VOp :=
  [⟨some 6, .assign (.const (.int .i64 32)), 24, none⟩]
def r10_10 : List VOp :=
  [mv 48 0 23,
   ⟨some 49, .nilCheck (.tmp 48), 0, none⟩,
   fad 50 57 49 2,
   lda 51 55 50,
   mv 52 1 9,
   fad 53 61 9 0,
   lda 54 22 53,
   mv 55 2 22,
   ⟨some 56, .buildSlice 78 2 #[(0, (.tmp 54)), (1, (.tmp 55))], 78, none⟩,
   ⟨some 57, .call ⟨.value (.func 33), #[.tmp 56], #[78]⟩, 22, none⟩,
   fad 58 61 9 1,
   lda 59 3 58,
   ⟨some 60, .build 61 #[(0, (.tmp 57)), (1, (.tmp 59))], 61, none⟩,
   ⟨none, .mapUpdate 55 (.tmp 51) (.tmp 52) (.tmp 60), 0, none⟩]
def r10_11 : List VOp :=
  [⟨some 6, .assign (.const (.int .i64 0)), 24, none⟩]
def B10 : VC :=
  (.seq (.region r10_0) (.seq (.seq (.region r10_1) (.seq (.region r10_2) (.cond (.tmp 15) (.seq (.region r10_3) .ret) .skip))) (.seq (.seq (.region r10_4) (.seq (.region r10_5) (.cond (.tmp 20) (.seq (.region r10_6) .ret) .skip))) (.seq (.region r10_7) (.seq (.seq (.region r10_8) (.cond (.tmp 47) (.seq (.region r10_9) .ret) .skip)) (.seq (.draw r10_10 2) (.seq (.region r10_11) .ret)))))))
theorem code10 : ∃ c, Try.f10.body = some c ∧ abs Try.f10.ntmps c = B10 := ⟨_, rfl, by kernel_rfl⟩
theorem hb10 : HasBody Try.prog 10 := hasBody_of Try.func10 (by kernel_rfl)
theorem res10 : Try.f10.results = #[(.tmp 6)] := rfl
theorem enter10 {w : World} {R : Value → World → Prop} (x0 x1 x2 : Value) (h : vc Try.prog B10 (retK Try.prog #[(.tmp 6)] R) [] (initEnv [x0, x1, x2] 0) w) : FnC Try.prog 10 #[x0, x1, x2] w R := by
  obtain ⟨c, h1, h2⟩ := code10
  exact hb10.fn (ret_of_vc mixed Try.func10 h1 (Nat.le_of_ble_eq_true rfl) B10 h2 h)
@[push_cast] theorem vr10_0 : VR r10_0 [⟨some 6, .assign (.const (.int .i64 0)), 24, none⟩] := vR rfl
@[push_cast] theorem vr10_1 : VR r10_1 [⟨some 11, .move (.tmp 0), 23, none⟩, ⟨some 12, .move (.tmp 1), 9, none⟩, ⟨some 13, .call ⟨.value (.func 31), #[(.tmp 11), (.tmp 12), (.const (.bool false))], #[23, 9, 4]⟩, 24, none⟩, ⟨some 7, .assign (.tmp 13), 24, none⟩] := vR rfl
@[push_cast] theorem vr10_2 : VR r10_2 [⟨some 14, .move (.tmp 7), 24, none⟩, ⟨some 15, .binOp .neq 24 (.tmp 14) (.const (.int .i64 0)) 24, 4, none⟩] := vR rfl
@[push_cast] theorem vr10_3 : VR r10_3 [⟨some 16, .move (.tmp 7), 24, none⟩, ⟨some 6, .assign (.tmp 16), 24, none⟩] := vR rfl
@[push_cast] theorem vr10_4 : VR r10_4 [⟨some 17, .move (.tmp 0), 23, none⟩, ⟨some 18, .call ⟨.value (.func 32), #[.tmp 17], #[23]⟩, 24, none⟩, ⟨some 8, .assign (.tmp 18), 24, none⟩] := vR rfl
@[push_cast] theorem vr10_5 : VR r10_5 [⟨some 19, .move (.tmp 8), 24, none⟩, ⟨some 20, .binOp .neq 24 (.tmp 19) (.const (.int .i64 0)) 24, 4, none⟩] := vR rfl
@[push_cast] theorem vr10_6 : VR r10_6 [⟨some 21, .move (.tmp 8), 24, none⟩, ⟨some 6, .assign (.tmp 21), 24, none⟩] := vR rfl
@[push_cast] theorem vr10_7 : VR r10_7 [⟨some 23, .move (.tmp 0), 23, none⟩, ⟨some 24, .nilCheck (.tmp 23), 0, none⟩, ⟨some 25, .fieldAddr 57 (.tmp 24) 2, 0, none⟩, ⟨some 26, .load 55 (.tmp 25), 55, none⟩, ⟨some 27, .move (.tmp 1), 9, none⟩, ⟨some 28, .lookup 55 (.tmp 26) (.tmp 27) true, 62, none⟩, ⟨some 22, .move (.tmp 28), 62, none⟩, ⟨some 29, .extract (.tmp 22) 0, 61, none⟩, ⟨some 30, .extract (.tmp 22) 1, 4, none⟩, ⟨some 9, .alloc 61, 0, none⟩, ⟨none, .store 61 (.tmp 9) (.tmp 29), 0, none⟩, ⟨some 10, .assign (.tmp 30), 4, none⟩] := vR rfl
@[push_cast] theorem vr10_8 : VR r10_8 [⟨some 31, .move (.tmp 2), 22, none⟩, ⟨some 32, .call ⟨.builtin .len, #[.tmp 31], #[22]⟩, 3, none⟩, ⟨some 33, .move (.tmp 0), 23, none⟩, ⟨some 34, .call ⟨.value (.func 17), #[.tmp 33], #[23]⟩, 3, none⟩, ⟨some 35, .binOp .gtr 3 (.tmp 32) (.tmp 34) 3, 4, none⟩, ⟨some 36, .move (.tmp 35), 4, none⟩, ⟨some 37, .move (.tmp 10), 4, some (36, false)⟩, ⟨some 38, .unOp .not 4 (.tmp 37), 4, some (36, false)⟩, ⟨some 39, .move (.tmp 38), 4, some (36, false)⟩, ⟨some 40, .move (.tmp 0), 23, some (39, true)⟩, ⟨some 41, .nilCheck (.tmp 40), 0, some (39, true)⟩, ⟨some 42, .fieldAddr 57 (.tmp 41) 2, 0, some (39, true)⟩, ⟨some 43, .load 55 (.tmp 42), 55, some (39, true)⟩, ⟨some 44, .call ⟨.builtin .len, #[.tmp 43], #[55]⟩, 3, some (39, true)⟩, ⟨some 45, .binOp .geq 3 (.tmp 44) (.const (.int .i64 200)) 3, 4, some (39, true)⟩, ⟨some 46, .pick (.tmp 39) (.tmp 45) (.const (.bool false)), 4, some (36, false)⟩, ⟨some 47, .pick (.tmp 36) (.const (.bool true)) (.tmp 46), 4, none⟩] := vR rfl
@[push_cast] theorem vr10_9 : VR r10_9 [⟨some 6, .assign (.const (.int .i64 32)), 24, none⟩] := vR rfl
@[push_cast] theorem vr10_10 : vc Try.prog (.draw r10_10 2) Q ds σ w = drawn Try.prog [(⟨some 48, .move (.tmp 0), 23, none⟩, [0]), (⟨some 49, .nilCheck (.tmp 48), 0, none⟩, [48]), (⟨some 50, .fieldAddr 57 (.tmp 49) 2, 0, none⟩, [49]), (⟨some 51, .load 55 (.tmp 50), 55, none⟩, [50]), (⟨some 52, .move (.tmp 1), 9, none⟩, [1]), (⟨some 53, .fieldAddr 61 (.tmp 9) 0, 0, none⟩, [9]), (⟨some 54, .load 22 (.tmp 53), 22, none⟩, [53]), (⟨some 55, .move (.tmp 2), 22, none⟩, [2]), (⟨some 56, .buildSlice 78 2 #[(0, (.tmp 54)), (1, (.tmp 55))], 78, none⟩, [54, 55]), (⟨some 57, .call ⟨.value (.func 33), #[.tmp 56], #[78]⟩, 22, none⟩, [56]), (⟨some 58, .fieldAddr 61 (.tmp 9) 1, 0, none⟩, [9]), (⟨some 59, .load 3 (.tmp 58), 3, none⟩, [58]), (⟨some 60, .build 61 #[(0, (.tmp 57)), (1, (.tmp 59))], 61, none⟩, [57, 59]), (⟨none, .mapUpdate 55 (.tmp 51) (.tmp 52) (.tmp 60), 0, none⟩, [51, 52, 60])] 2 (Q .normal ds) σ w := mk_eq rfl
@[push_cast] theorem vr10_11 : VR r10_11 [⟨some 6, .assign (.const (.int .i64 0)), 24, none⟩] := vR rfl
/-! 11 (*columbary/vault.Vault).Sync (params #[23, 9], results #[(.tmp 4)], 36 slots) -/
def r11_0 : List VOp :=
  [⟨some 4, .assign (.const (.int .i64 0)), 24, none⟩]
def r11_1 : List VOp :=
  [mv 8 0 23,
   mv 9 1 9,
   ⟨some 10, .call ⟨.value (.func 31), #[(.tmp 8), (.tmp 9), (.const (.bool true))], #[23, 9, 4]⟩, 24, none⟩,
   asg 5 10 24]
def r11_2 : List VOp :=
  [mv 11 5 24,
   ⟨some 12, .binOp .neq 24 (.tmp 11) (.const (.int .i64 0)) 24, 4, none⟩]
def r11_3 : List VOp :=
  [mv 13 5 24,
   asg 4 13 24]
def r11_4 : List VOp :=
  [mv 14 0 23,
   ⟨some 15, .call ⟨.value (.func 32), #[.tmp 14], #[23]⟩, 24, none⟩,
   asg 6 15 24]
def r11_5 : List VOp :=
  [mv 16 6 24,
   ⟨some 17, .binOp .neq 24 (.tmp 16) (.const (.int .i64 0)) 24, 4, none⟩]
def r11_6 : List VOp :=
  [mv 18 6 24,
   asg 4 18 24]
def r11_7 : List VOp :=
  [mv 19 0 23,
   ⟨some 20, .nilCheck (.tmp 19), 0, none⟩,
   fad 21 57 20 2,
   lda 22 55 21,
   mv 23 1 9,
   ⟨some 24, .lookup 55 (.tmp 22) (.tmp 23) false, 61, none⟩,
   ⟨some 7, .alloc 61, 0, none⟩,
   ⟨none, .store 61 (.tmp 7) (.tmp 24), 0, none⟩]
def r11_8 : List VOp :=
  [mv 25 0 23,
   ⟨some 26, .nilCheck (.tmp 25), 0, none⟩,
   fad 27 57 26 2,
   lda 28 55 27,
   mv 29 1 9,
   fad 30 61 7 0,
   lda 31 22 30,
   fad 32 61 7 0,
   lda 33 22 32,
   ⟨some 34, .call ⟨.builtin .len, #[.tmp 33], #[22]⟩, 3, none⟩,
   ⟨some 35, .build 61 #[(0, (.tmp 31)), (1, (.tmp 34))], 61, none⟩,
   ⟨none, .mapUpdate 55 (.tmp 28) (.tmp 29) (.tmp 35), 0, none⟩]
def r11_9 : List VOp :=
  [⟨some 4, .assign (.const (.int .i64 0)), 24, none⟩]
def B11 : VC :=
  (.seq (.region r11_0) (.seq (.seq (.region r11_1) (.seq (.region r11_2) (.cond (.tmp 12) (.seq (.region r11_3) .ret) .skip))) (.seq (.seq (.region r11_4) (.seq (.region r11_5) (.cond (.tmp 17) (.seq (.region r11_6) .ret) .skip))) (.seq (.region r11_7) (.seq (.draw r11_8 2) (.seq (.region r11_9) .ret))))))
theorem code11 : ∃ c, Try.f11.body = some c ∧ abs Try.f11.ntmps c = B11 := ⟨_, rfl, by kernel_rfl⟩
theorem hb11 : HasBody Try.prog 11 := hasBody_of Try.func11 (by kernel_rfl)
theorem res11 : Try.f11.results = #[(.tmp 4)] := rfl
theorem enter11 {w : World} {R : Value → World → Prop} (x0 x1 : Value) (h : vc Try.prog B11 (retK Try.prog #[(.tmp 4)] R) [] (initEnv [x0, x1] 0) w) : FnC Try.prog 11 #[x0, x1] w R := by
  obtain ⟨c, h1, h2⟩ := code11
  exact hb11.fn (ret_of_vc mixed Try.func11 h1 (Nat.le_of_ble_eq_true rfl) B11 h2 h)
@[push_cast] theorem vr11_0 : VR r11_0 [⟨some 4, .assign (.const (.int .i64 0)), 24, none⟩] := vR rfl
@[push_cast] theorem vr11_1 : VR r11_1 [⟨some 8, .move (.tmp 0), 23, none⟩, ⟨some 9, .move (.tmp 1), 9, none⟩, ⟨some 10, .call ⟨.value (.func 31), #[(.tmp 8), (.tmp 9), (.const (.bool true))], #[23, 9, 4]⟩, 24, none⟩, ⟨some 5, .assign (.tmp 10), 24, none⟩] := vR rfl
@[push_cast] theorem vr11_2 : VR r11_2 [⟨some 11, .move (.tmp 5), 24, none⟩, ⟨some 12, .binOp .neq 24 (.tmp 11) (.const (.int .i64 0)) 24, 4, none⟩] := vR rfl
@[push_cast] theorem vr11_3 : VR r11_3 [⟨some 13, .move (.tmp 5), 24, none⟩, ⟨some 4, .assign (.tmp 13), 24, none⟩] := vR rfl
@[push_cast] theorem vr11_4 : VR r11_4 [⟨some 14, .move (.tmp 0), 23, none⟩, ⟨some 15, .call ⟨.value (.func 32), #[.tmp 14], #[23]⟩, 24, none⟩, ⟨some 6, .assign (.tmp 15), 24, none⟩] := vR rfl
@[push_cast] theorem vr11_5 : VR r11_5 [⟨some 16, .move (.tmp 6), 24, none⟩, ⟨some 17, .binOp .neq 24 (.tmp 16) (.const (.int .i64 0)) 24, 4, none⟩] := vR rfl
@[push_cast] theorem vr11_6 : VR r11_6 [⟨some 18, .move (.tmp 6), 24, none⟩, ⟨some 4, .assign (.tmp 18), 24, none⟩] := vR rfl
@[push_cast] theorem vr11_7 : VR r11_7 [⟨some 19, .move (.tmp 0), 23, none⟩, ⟨some 20, .nilCheck (.tmp 19), 0, none⟩, ⟨some 21, .fieldAddr 57 (.tmp 20) 2, 0, none⟩, ⟨some 22, .load 55 (.tmp 21), 55, none⟩, ⟨some 23, .move (.tmp 1), 9, none⟩, ⟨some 24, .lookup 55 (.tmp 22) (.tmp 23) false, 61, none⟩, ⟨some 7, .alloc 61, 0, none⟩, ⟨none, .store 61 (.tmp 7) (.tmp 24), 0, none⟩] := vR rfl
@[push_cast] theorem vr11_8 : vc Try.prog (.draw r11_8 2) Q ds σ w = drawn Try.prog [(⟨some 25, .move (.tmp 0), 23, none⟩, [0]), (⟨some 26, .nilCheck (.tmp 25), 0, none⟩, [25]), (⟨some 27, .fieldAddr 57 (.tmp 26) 2, 0, none⟩, [26]), (⟨some 28, .load 55 (.tmp 27), 55, none⟩, [27]), (⟨some 29, .move (.tmp 1), 9, none⟩, [1]), (⟨some 30, .fieldAddr 61 (.tmp 7) 0, 0, none⟩, [7]), (⟨some 31, .load 22 (.tmp 30), 22, none⟩, [30]), (⟨some 32, .fieldAddr 61 (.tmp 7) 0, 0, none⟩, [7]), (⟨some 33, .load 22 (.tmp 32), 22, none⟩, [32]), (⟨some 34, .call ⟨.builtin .len, #[.tmp 33], #[22]⟩, 3, none⟩, [33]), (⟨some 35, .build 61 #[(0, (.tmp 31)), (1, (.tmp 34))], 61, none⟩, [31, 34]), (⟨none, .mapUpdate 55 (.tmp 28) (.tmp 29) (.tmp 35), 0, none⟩, [28, 29, 35])] 2 (Q .normal ds) σ w := mk_eq rfl
@[push_cast] theorem vr11_9 : VR r11_9 [⟨some 4, .assign (.const (.int .i64 0)), 24, none⟩] := vR rfl
/-! 12 (*columbary/vault.Vault).Rename (params #[23, 9, 9], results #[(.tmp 6)], 45 slots) -/
def r12_0 : List VOp :=
  [⟨some 6, .assign (.const (.int .i64 0)), 24, none⟩]
def r12_1 : List VOp :=
  [mv 11 0 23,
   mv 12 1 9,
   ⟨some 13, .call ⟨.value (.func 31), #[(.tmp 11), (.tmp 12), (.const (.bool true))], #[23, 9, 4]⟩, 24, none⟩,
   asg 7 13 24]
def r12_2 : List VOp :=
  [mv 14 7 24,
   ⟨some 15, .binOp .neq 24 (.tmp 14) (.const (.int .i64 0)) 24, 4, none⟩]
def r12_3 : List VOp :=
  [mv 16 7 24,
   asg 6 16 24]
def r12_4 : List VOp :=
  [mv 17 0 23,
   mv 18 2 9,
   ⟨some 19, .call ⟨.value (.func 31), #[(.tmp 17), (.tmp 18), (.const (.bool false))], #[23, 9, 4]⟩, 24, none⟩,
   asg 8 19 24]
def r12_5 : List VOp :=
  [mv 20 8 24,
   ⟨some 21, .binOp .neq 24 (.tmp 20) (.const (.int .i64 0)) 24, 4, none⟩]
def r12_6 : List VOp :=
  [mv 22 8 24,
   asg 6 22 24]
def r12_7 : List VOp :=
  [mv 23 0 23,
   ⟨some 24, .call ⟨.value (.func 32), #[.tmp 23], #[23]⟩, 24, none⟩,
   asg 9 24 24]
def r12_8 : List VOp :=
  [mv 25 9 24,
   ⟨some 26, .binOp .neq 24 (.tmp 25) (.const (.int .i64 0)) 24, 4, none⟩]
def r12_9 : List VOp :=
  [mv 27 9 24,
   asg 6 27 24]
def r12_10 : List VOp :=
  [mv 28 0 23,
   ⟨some 29, .nilCheck (.tmp 28), 0, none⟩,
   fad 30 57 29 2,
   lda 31 55 30,
   mv 32 1 9,
   ⟨some 33, .lookup 55 (.tmp 31) (.tmp 32) false, 61, none⟩,
   ⟨some 10, .alloc 61, 0, none⟩,
   ⟨none, .store 61 (.tmp 10) (.tmp 33), 0, none⟩]
def r12_11 : List VOp :=
  [mv 34 0 23,
   ⟨some 35, .nilCheck (.tmp 34), 0, none⟩,
   fad 36 57 35 2,
   lda 37 55 36,
   mv 38 1 9,
   ⟨none, .call ⟨.builtin .delete, #[.tmp 37, .tmp 38], #[55, 9]⟩, 0, none⟩]
def r12_12 : List VOp :=
  [mv 39 0 23,
   ⟨some 40, .nilCheck (.tmp 39), 0, none⟩,
   fad 41 57 40 2,
   lda 42 55 41,
   mv 43 2 9,
   lda 44 61 10,
   ⟨none, .mapUpdate 55 (.tmp 42) (.tmp 43) (.tmp 44), 0, none⟩]
def r12_13 : List VOp :=
  [⟨some 6, .assign (.const (.int .i64 0)), 24, none⟩]
def B12 : VC :=
  (.seq (.region r12_0) (.seq (.seq (.region r12_1) (.seq (.region r12_2) (.cond (.tmp 15) (.seq (.region r12_3) .ret) .skip))) (.seq (.seq (.region r12_4) (.seq (.region r12_5) (.cond (.tmp 21) (.seq (.region r12_6) .ret) .skip))) (.seq (.seq (.region r12_7) (.seq (.region r12_8) (.cond (.tmp 26) (.seq (.region r12_9) .ret) .skip))) (.seq (.region r12_10) (.seq (.region r12_11) (.seq (.draw r12_12 2) (.seq (.region r12_13) .ret))))))))
theorem code12 : ∃ c, Try.f12.body = some c ∧ abs Try.f12.ntmps c = B12 := ⟨_, rfl, by kernel_rfl⟩
theorem hb12 : HasBody Try.prog 12 := hasBody_of Try.func12 (by kernel_rfl)
theorem res12 : Try.f12.results = #[(.tmp 6)] := rfl
theorem enter12 {w : World} {R : Value → World → Prop} (x0 x1 x2 : Value) (h : vc Try.prog B12 (retK Try.prog #[(.tmp 6)] R) [] (initEnv [x0, x1, x2] 0) w) : FnC Try.prog 12 #[x0, x1, x2] w R := by
  obtain ⟨c, h1, h2⟩ := code12
  exact hb12.fn (ret_of_vc mixed Try.func12 h1 (Nat.le_of_ble_eq_true rfl) B12 h2 h)
@[push_cast] theorem vr12_0 : VR r12_0 [⟨some 6, .assign (.const (.int .i64 0)), 24, none⟩] := vR rfl
@[push_cast] theorem vr12_1 : VR r12_1 [⟨some 11, .move (.tmp 0), 23, none⟩, ⟨some 12, .move (.tmp 1), 9, none⟩, ⟨some 13, .call ⟨.value (.func 31), #[(.tmp 11), (.tmp 12), (.const (.bool true))], #[23, 9, 4]⟩, 24, none⟩, ⟨some 7, .assign (.tmp 13), 24, none⟩] := vR rfl
@[push_cast] theorem vr12_2 : VR r12_2 [⟨some 14, .move (.tmp 7), 24, none⟩, ⟨some 15, .binOp .neq 24 (.tmp 14) (.const (.int .i64 0)) 24, 4, none⟩] := vR rfl
@[push_cast] theorem vr12_3 : VR r12_3 [⟨some 16, .move (.tmp 7), 24, none⟩, ⟨some 6, .assign (.tmp 16), 24, none⟩] := vR rfl
@[push_cast] theorem vr12_4 : VR r12_4 [⟨some 17, .move (.tmp 0), 23, none⟩, ⟨some 18, .move (.tmp 2), 9, none⟩, ⟨some 19, .call ⟨.value (.func 31), #[(.tmp 17), (.tmp 18), (.const (.bool false))], #[23, 9, 4]⟩, 24, none⟩, ⟨some 8, .assign (.tmp 19), 24, none⟩] := vR rfl
@[push_cast] theorem vr12_5 : VR r12_5 [⟨some 20, .move (.tmp 8), 24, none⟩, ⟨some 21, .binOp .neq 24 (.tmp 20) (.const (.int .i64 0)) 24, 4, none⟩] := vR rfl
@[push_cast] theorem vr12_6 : VR r12_6 [⟨some 22, .move (.tmp 8), 24, none⟩, ⟨some 6, .assign (.tmp 22), 24, none⟩] := vR rfl
@[push_cast] theorem vr12_7 : VR r12_7 [⟨some 23, .move (.tmp 0), 23, none⟩, ⟨some 24, .call ⟨.value (.func 32), #[.tmp 23], #[23]⟩, 24, none⟩, ⟨some 9, .assign (.tmp 24), 24, none⟩] := vR rfl
@[push_cast] theorem vr12_8 : VR r12_8 [⟨some 25, .move (.tmp 9), 24, none⟩, ⟨some 26, .binOp .neq 24 (.tmp 25) (.const (.int .i64 0)) 24, 4, none⟩] := vR rfl
@[push_cast] theorem vr12_9 : VR r12_9 [⟨some 27, .move (.tmp 9), 24, none⟩, ⟨some 6, .assign (.tmp 27), 24, none⟩] := vR rfl
@[push_cast] theorem vr12_10 : VR r12_10 [⟨some 28, .move (.tmp 0), 23, none⟩, ⟨some 29, .nilCheck (.tmp 28), 0, none⟩, ⟨some 30, .fieldAddr 57 (.tmp 29) 2, 0, none⟩, ⟨some 31, .load 55 (.tmp 30), 55, none⟩, ⟨some 32, .move (.tmp 1), 9, none⟩, ⟨some 33, .lookup 55 (.tmp 31) (.tmp 32) false, 61, none⟩, ⟨some 10, .alloc 61, 0, none⟩, ⟨none, .store 61 (.tmp 10) (.tmp 33), 0, none⟩] := vR rfl
@[push_cast] theorem vr12_11 : VR r12_11 [⟨some 34, .move (.tmp 0), 23, none⟩, ⟨some 35, .nilCheck (.tmp 34), 0, none⟩, ⟨some 36, .fieldAddr 57 (.tmp 35) 2, 0, none⟩, ⟨some 37, .load 55 (.tmp 36), 55, none⟩, ⟨some 38, .move (.tmp 1), 9, none⟩, ⟨none, .call ⟨.builtin .delete, #[.tmp 37, .tmp 38], #[55, 9]⟩, 0, none⟩] := vR rfl
@[push_cast] theorem vr12_12 : vc Try.prog (.draw r12_12 2) Q ds σ w = drawn Try.prog [(⟨some 39, .move (.tmp 0), 23, none⟩, [0]), (⟨some 40, .nilCheck (.tmp 39), 0, none⟩, [39]), (⟨some 41, .fieldAddr 57 (.tmp 40) 2, 0, none⟩, [40]), (⟨some 42, .load 55 (.tmp 41), 55, none⟩, [41]), (⟨some 43, .move (.tmp 2), 9, none⟩, [2]), (⟨some 44, .load 61 (.tmp 10), 61, none⟩, [10]), (⟨none, .mapUpdate 55 (.tmp 42) (.tmp 43) (.tmp 44), 0, none⟩, [42, 43, 44])] 2 (Q .normal ds) σ w := mk_eq rfl
@[push_cast] theorem vr12_13 : VR r12_13 [⟨some 6, .assign (.const (.int .i64 0)), 24, none⟩] := vR rfl
/-! 13 (*columbary/vault.Vault).Crash (params #[23, 3], results #[(.tmp 4)], 53 slots) -/
def W13_0 : List Nat := [6, 7, 8, 23, 24, 25, 26, 27, 28, 29, 30, 31, 32, 33, 34, 35, 36, 37, 38, 39, 40, 41, 42, 43, 44, 45, 46, 47, 48, 49, 50, 51]
@[push_cast] theorem W13_0_def : W13_0 = [6, 7, 8, 23, 24, 25, 26, 27, 28, 29, 30, 31, 32, 33, 34, 35, 36, 37, 38, 39, 40, 41, 42, 43, 44, 45, 46, 47, 48, 49, 50, 51] := mk_eq rfl
def r13_0 : List VOp :=
  [⟨some 4, .assign (.const (.pointer none)), 23, none⟩]
def r13_1 : List VOp :=
  [mv 9 0 23,
   ⟨some 10, .binOp .eql 23 (.tmp 9) (.const (.pointer none)) 23, 4, none⟩]
def r13_2 : List VOp :=
  [⟨some 4, .assign (.const (.pointer none)), 23, none⟩]
def r13_3 : List VOp :=
  [mv 11 0 23,
   ⟨some 12, .nilCheck (.tmp 11), 0, none⟩,
   fad 13 57 12 0,
   lda 14 3 13,
   ⟨some 15, .makeMap 55 none, 55, none⟩,
   ⟨some 16, .build 57 #[(0, (.tmp 14)), (1, (.const (.int .i64 (-1)))), (2, (.tmp 15))], 57, none⟩,
   ⟨some 17, .box 57 (.tmp 16), 23, none⟩,
   asg 5 17 23]
def r13_4 : List VOp :=
  [mv 18 0 23,
   ⟨some 19, .nilCheck (.tmp 18), 0, none⟩,
   fad 20 57 19 2,
   lda 21 55 20,
   ⟨some 22, .range 55 (.tmp 21), 0, none⟩]
def r13_5 : List VOp :=
  [⟨some 23, .next (.tmp 22) false, 0, none⟩,
   ext 24 23 0 4]
def r13_6 : List VOp :=
  [⟨some 25, .entry (.tmp 22), 0, none⟩,
   ext 26 25 0 9,
   ext 27 25 1 61,
   ⟨some 7, .alloc 61, 0, none⟩,
   asg 6 26 9,
   ⟨none, .store 61 (.tmp 7) (.tmp 27), 0, none⟩]
def r13_7 : List VOp :=
  [fad 28 61 7 1,
   lda 29 3 28,
   mv 30 1 3,
   ⟨some 31, .call ⟨.builtin .max, #[(.tmp 30), (.const (.int .i64 0))], #[3, 3]⟩, 3, none⟩,
   fad 32 61 7 0,
   lda 33 22 32,
   ⟨some 34, .call ⟨.builtin .len, #[.tmp 33], #[22]⟩, 3, none⟩,
   fad 35 61 7 1,
   lda 36 3 35,
   ⟨some 37, .binOp .sub 3 (.tmp 34) (.tmp 36) 3, 3, none⟩,
   ⟨some 38, .call ⟨.builtin .min, #[.tmp 31, .tmp 37], #[3, 3]⟩, 3, none⟩,
   ⟨some 39, .binOp .add 3 (.tmp 29) (.tmp 38) 3, 3, none⟩,
   asg 8 39 3]
def r13_8 : List VOp :=
  [mv 40 5 23,
   ⟨some 41, .nilCheck (.tmp 40), 0, none⟩,
   fad 42 57 41 2,
   lda 43 55 42,
   mv 44 6 9,
   fad 45 61 7 0,
   lda 46 22 45,
   mv 47 8 3,
   ⟨some 48, .slice 22 (.tmp 46) none (some (.tmp 47)) none, 22, none⟩,
   ⟨some 49, .call ⟨.value (.func 34), #[.tmp 48], #[22]⟩, 22, none⟩,
   mv 50 8 3,
   ⟨some 51, .build 61 #[(0, (.tmp 49)), (1, (.tmp 50))], 61, none⟩,
   ⟨none, .mapUpdate 55 (.tmp 43) (.tmp 44) (.tmp 51), 0, none⟩]
def r13_9 : List VOp :=
  [mv 52 5 23,
   asg 4 52 23]
def B13 : VC :=
  (.seq (.region r13_0) (.seq (.seq (.region r13_1) (.cond (.tmp 10) (.seq (.region r13_2) .ret) .skip)) (.seq (.region r13_3) (.seq (.seq (.region r13_4) (.block 0 (.loop (.seq (.region r13_5) (.seq (.cond (.tmp 24) .skip (.exit 0)) (.block 1 (.seq (.region r13_6) (.seq (.region r13_7) (.draw r13_8 2))))))))) (.seq (.region r13_9) .ret)))))
theorem code13 : ∃ c, Try.f13.body = some c ∧ abs Try.f13.ntmps c = B13 := ⟨_, rfl, by kernel_rfl⟩
theorem hb13 : HasBody Try.prog 13 := hasBody_of Try.func13 (by kernel_rfl)
theorem res13 : Try.f13.results = #[(.tmp 4)] := rfl
theorem enter13 {w : World} {R : Value → World → Prop} (x0 x1 : Value) (h : vc Try.prog B13 (retK Try.prog #[(.tmp 4)] R) [] (initEnv [x0, x1] 0) w) : FnC Try.prog 13 #[x0, x1] w R := by
  obtain ⟨c, h1, h2⟩ := code13
  exact hb13.fn (ret_of_vc mixed Try.func13 h1 (Nat.le_of_ble_eq_true rfl) B13 h2 h)
@[push_cast] theorem vr13_0 : VR r13_0 [⟨some 4, .assign (.const (.pointer none)), 23, none⟩] := vR rfl
@[push_cast] theorem vr13_1 : VR r13_1 [⟨some 9, .move (.tmp 0), 23, none⟩, ⟨some 10, .binOp .eql 23 (.tmp 9) (.const (.pointer none)) 23, 4, none⟩] := vR rfl
@[push_cast] theorem vr13_2 : VR r13_2 [⟨some 4, .assign (.const (.pointer none)), 23, none⟩] := vR rfl
@[push_cast] theorem vr13_3 : VR r13_3 [⟨some 11, .move (.tmp 0), 23, none⟩, ⟨some 12, .nilCheck (.tmp 11), 0, none⟩, ⟨some 13, .fieldAddr 57 (.tmp 12) 0, 0, none⟩, ⟨some 14, .load 3 (.tmp 13), 3, none⟩, ⟨some 15, .makeMap 55 none, 55, none⟩, ⟨some 16, .build 57 #[(0, (.tmp 14)), (1, (.const (.int .i64 (-1)))), (2, (.tmp 15))], 57, none⟩, ⟨some 17, .box 57 (.tmp 16), 23, none⟩, ⟨some 5, .assign (.tmp 17), 23, none⟩] := vR rfl
@[push_cast] theorem vr13_4 : VR r13_4 [⟨some 18, .move (.tmp 0), 23, none⟩, ⟨some 19, .nilCheck (.tmp 18), 0, none⟩, ⟨some 20, .fieldAddr 57 (.tmp 19) 2, 0, none⟩, ⟨some 21, .load 55 (.tmp 20), 55, none⟩, ⟨some 22, .range 55 (.tmp 21), 0, none⟩] := vR rfl
@[push_cast] theorem vr13_5 : VR r13_5 [⟨some 23, .next (.tmp 22) false, 0, none⟩, ⟨some 24, .extract (.tmp 23) 0, 4, none⟩] := vR rfl
@[push_cast] theorem vr13_6 : VR r13_6 [⟨some 25, .entry (.tmp 22), 0, none⟩, ⟨some 26, .extract (.tmp 25) 0, 9, none⟩, ⟨some 27, .extract (.tmp 25) 1, 61, none⟩, ⟨some 7, .alloc 61, 0, none⟩, ⟨some 6, .assign (.tmp 26), 9, none⟩, ⟨none, .store 61 (.tmp 7) (.tmp 27), 0, none⟩] := vR rfl
@[push_cast] theorem vr13_7 : VR r13_7 [⟨some 28, .fieldAddr 61 (.tmp 7) 1, 0, none⟩, ⟨some 29, .load 3 (.tmp 28), 3, none⟩, ⟨some 30, .move (.tmp 1), 3, none⟩, ⟨some 31, .call ⟨.builtin .max, #[(.tmp 30), (.const (.int .i64 0))], #[3, 3]⟩, 3, none⟩, ⟨some 32, .fieldAddr 61 (.tmp 7) 0, 0, none⟩, ⟨some 33, .load 22 (.tmp 32), 22, none⟩, ⟨some 34, .call ⟨.builtin .len, #[.tmp 33], #[22]⟩, 3, none⟩, ⟨some 35, .fieldAddr 61 (.tmp 7) 1, 0, none⟩, ⟨some 36, .load 3 (.tmp 35), 3, none⟩, ⟨some 37, .binOp .sub 3 (.tmp 34) (.tmp 36) 3, 3, none⟩, ⟨some 38, .call ⟨.builtin .min, #[.tmp 31, .tmp 37], #[3, 3]⟩, 3, none⟩, ⟨some 39, .binOp .add 3 (.tmp 29) (.tmp 38) 3, 3, none⟩, ⟨some 8, .assign (.tmp 39), 3, none⟩] := vR rfl
@[push_cast] theorem vr13_8 : vc Try.prog (.draw r13_8 2) Q ds σ w = drawn Try.prog [(⟨some 40, .move (.tmp 5), 23, none⟩, [5]), (⟨some 41, .nilCheck (.tmp 40), 0, none⟩, [40]), (⟨some 42, .fieldAddr 57 (.tmp 41) 2, 0, none⟩, [41]), (⟨some 43, .load 55 (.tmp 42), 55, none⟩, [42]), (⟨some 44, .move (.tmp 6), 9, none⟩, [6]), (⟨some 45, .fieldAddr 61 (.tmp 7) 0, 0, none⟩, [7]), (⟨some 46, .load 22 (.tmp 45), 22, none⟩, [45]), (⟨some 47, .move (.tmp 8), 3, none⟩, [8]), (⟨some 48, .slice 22 (.tmp 46) none (some (.tmp 47)) none, 22, none⟩, [46, 47]), (⟨some 49, .call ⟨.value (.func 34), #[.tmp 48], #[22]⟩, 22, none⟩, [48]), (⟨some 50, .move (.tmp 8), 3, none⟩, [8]), (⟨some 51, .build 61 #[(0, (.tmp 49)), (1, (.tmp 50))], 61, none⟩, [49, 50]), (⟨none, .mapUpdate 55 (.tmp 43) (.tmp 44) (.tmp 51), 0, none⟩, [43, 44, 51])] 2 (Q .normal ds) σ w := mk_eq rfl
@[push_cast] theorem vr13_9 : VR r13_9 [⟨some 52, .move (.tmp 5), 23, none⟩, ⟨some 4, .assign (.tmp 52), 23, none⟩] := vR rfl
/-! 14 (*columbary/vault.Vault).Read (params #[23, 9], results #[(.tmp 4), (.tmp 5)], 23 slots) -/
def r14_0 : List VOp :=
  [⟨some 4, .assign (.const (.slice none 0 0)), 22, none⟩,
   ⟨some 5, .assign (.const (.bool false)), 4, none⟩]
def r14_1 : List VOp :=
  [mv 8 0 23,
   ⟨some 9, .binOp .eql 23 (.tmp 8) (.const (.pointer none)) 23, 4, none⟩]
def r14_2 : List VOp :=
  [⟨some 4, .assign (.const (.slice none 0 0)), 22, none⟩,
   ⟨some 5, .assign (.const (.bool false)), 4, none⟩]
def r14_3 : List VOp :=
  [mv 11 0 23,
   ⟨some 12, .nilCheck (.tmp 11), 0, none⟩,
   fad 13 57 12 2,
   lda 14 55 13,
   mv 15 1 9,
   ⟨some 16, .lookup 55 (.tmp 14) (.tmp 15) true, 62, none⟩,
   mv 10 16 62,
   ext 17 10 0 61,
   ext 18 10 1 4,
   ⟨some 6, .alloc 61, 0, none⟩,
   ⟨none, .store 61 (.tmp 6) (.tmp 17), 0, none⟩,
   asg 7 18 4]
def r14_4 : List VOp :=
  [fad 19 61 6 0,
   lda 20 22 19,
   ⟨some 21, .call ⟨.value (.func 34), #[.tmp 20], #[22]⟩, 22, none⟩,
   mv 22 7 4,
   asg 4 21 22,
   asg 5 22 4]
def B14 : VC :=
  (.seq (.region r14_0) (.seq (.seq (.region r14_1) (.cond (.tmp 9) (.seq (.region r14_2) .ret) .skip)) (.seq (.region r14_3) (.seq (.region r14_4) .ret))))
theorem code14 : ∃ c, Try.f14.body = some c ∧ abs Try.f14.ntmps c = B14 := ⟨_, rfl, by kernel_rfl⟩
theorem hb14 : HasBody Try.prog 14 := hasBody_of Try.func14 (by kernel_rfl)
theorem res14 : Try.f14.results = #[(.tmp 4), (.tmp 5)] := rfl
theorem enter14 {w : World} {R : Value → World → Prop} (x0 x1 : Value) (h : vc Try.prog B14 (retK Try.prog #[(.tmp 4), (.tmp 5)] R) [] (initEnv [x0, x1] 0) w) : FnC Try.prog 14 #[x0, x1] w R := by
  obtain ⟨c, h1, h2⟩ := code14
  exact hb14.fn (ret_of_vc mixed Try.func14 h1 (Nat.le_of_ble_eq_true rfl) B14 h2 h)
@[push_cast] theorem vr14_0 : VR r14_0 [⟨some 4, .assign (.const (.slice none 0 0)), 22, none⟩, ⟨some 5, .assign (.const (.bool false)), 4, none⟩] := vR rfl
@[push_cast] theorem vr14_1 : VR r14_1 [⟨some 8, .move (.tmp 0), 23, none⟩, ⟨some 9, .binOp .eql 23 (.tmp 8) (.const (.pointer none)) 23, 4, none⟩] := vR rfl
@[push_cast] theorem vr14_2 : VR r14_2 [⟨some 4, .assign (.const (.slice none 0 0)), 22, none⟩, ⟨some 5, .assign (.const (.bool false)), 4, none⟩] := vR rfl
@[push_cast] theorem vr14_3 : VR r14_3 [⟨some 11, .move (.tmp 0), 23, none⟩, ⟨some 12, .nilCheck (.tmp 11), 0, none⟩, ⟨some 13, .fieldAddr 57 (.tmp 12) 2, 0, none⟩, ⟨some 14, .load 55 (.tmp 13), 55, none⟩, ⟨some 15, .move (.tmp 1), 9, none⟩, ⟨some 16, .lookup 55 (.tmp 14) (.tmp 15) true, 62, none⟩, ⟨some 10, .move (.tmp 16), 62, none⟩, ⟨some 17, .extract (.tmp 10) 0, 61, none⟩, ⟨some 18, .extract (.tmp 10) 1, 4, none⟩, ⟨some 6, .alloc 61, 0, none⟩, ⟨none, .store 61 (.tmp 6) (.tmp 17), 0, none⟩, ⟨some 7, .assign (.tmp 18), 4, none⟩] := vR rfl
@[push_cast] theorem vr14_4 : VR r14_4 [⟨some 19, .fieldAddr 61 (.tmp 6) 0, 0, none⟩, ⟨some 20, .load 22 (.tmp 19), 22, none⟩, ⟨some 21, .call ⟨.value (.func 34), #[.tmp 20], #[22]⟩, 22, none⟩, ⟨some 22, .move (.tmp 7), 4, none⟩, ⟨some 4, .assign (.tmp 21), 22, none⟩, ⟨some 5, .assign (.tmp 22), 4, none⟩] := vR rfl
/-! 15 columbary/columbarylaw03.alive (params #[], results #[(.tmp 0)], 64 slots) -/
def r15_0 : List VOp :=
  [⟨some 0, .assign (.const (.bool false)), 4, none⟩]
def r15_1 : List VOp :=
  [⟨some 7, .call ⟨.value (.func 9), #[(.const (.int .i64 20))], #[3]⟩, 25, none⟩,
   mv 6 7 25,
   ext 8 6 0 23,
   ext 9 6 1 24,
   asg 1 8 23,
   asg 2 9 24]
def r15_2 : List VOp :=
  [mv 10 2 24,
   ⟨some 11, .binOp .neq 24 (.tmp 10) (.const (.int .i64 0)) 24, 4, none⟩,
   mv 12 11 4,
   ⟨some 13, .move (.tmp 1), 23, some (12, false)⟩,
   ⟨some 14, .binOp .eql 23 (.tmp 13) (.const (.pointer none)) 23, 4, some (12, false)⟩,
   ⟨some 15, .pick (.tmp 12) (.const (.bool true)) (.tmp 14), 4, none⟩]
def r15_3 : List VOp :=
  [⟨some 0, .assign (.const (.bool false)), 4, none⟩]
def r15_4 : List VOp :=
  [mv 16 1 23,
   ⟨some 17, .buildSlice 22 4 #[(0, (.const (.int .u8 115))), (1, (.const (.int .u8 97))), (2, (.const (.int .u8 102))), (3, (.const (.int .u8 101)))], 22, none⟩,
   ⟨some 18, .convert 22 22 (.tmp 17), 22, none⟩,
   ⟨some 19, .call { callee := (.value (.func 10)), args := #[(.tmp 16), (.const (.string { data := #[97] })), (.tmp 18)], argTypes := #[23, 9, 22] }, 24, none⟩]
def r15_5 : List VOp :=
  [mv 20 1 23,
   ⟨some 21, .call { callee := (.value (.func 11)), args := #[(.tmp 20), (.const (.string { data := #[97] }))], argTypes := #[23, 9] }, 24, none⟩]
def r15_6 : List VOp :=
  [mv 22 1 23,
   ⟨some 23, .buildSlice 22 4 #[(0, (.const (.int .u8 109))), (1, (.const (.int .u8 111))), (2, (.const (.int .u8 114))), (3, (.const (.int .u8 101)))], 22, none⟩,
   ⟨some 24, .convert 22 22 (.tmp 23), 22, none⟩,
   ⟨some 25, .call { callee := (.value (.func 10)), args := #[(.tmp 22), (.const (.string { data := #[97] })), (.tmp 24)], argTypes := #[23, 9, 22] }, 24, none⟩]
def r15_7 : List VOp :=
  [mv 26 1 23,
   ⟨some 27, .call ⟨.value (.func 13), #[(.tmp 26), (.const (.int .i64 1))], #[23, 3]⟩, 23, none⟩,
   asg 3 27 23]
def r15_8 : List VOp :=
  [mv 29 3 23,
   ⟨some 30, .call { callee := (.value (.func 14)), args := #[(.tmp 29), (.const (.string { data := #[97] }))], argTypes := #[23, 9] }, 31, none⟩,
   mv 28 30 31,
   ext 31 28 0 22,
   ext 32 28 1 4,
   asg 4 31 22,
   asg 5 32 4]
def r15_9 : List VOp :=
  [mv 33 4 22,
   ⟨some 34, .convert 22 9 (.tmp 33), 9, none⟩,
   ⟨some 35, .binOp .eql 9 (.tmp 34) (.const (.string { data := #[115, 97, 102, 101, 109] })) 9, 4, none⟩,
   mv 36 35 4,
   ⟨some 37, .move (.tmp 5), 4, some (36, true)⟩,
   ⟨some 38, .pick (.tmp 36) (.tmp 37) (.const (.bool false)), 4, none⟩,
   mv 39 38 4,
   ⟨some 40, .move (.tmp 1), 23, some (39, true)⟩,
   ⟨some 41, .call ⟨.value (.func 17), #[.tmp 40], #[23]⟩, 3, some (39, true)⟩,
   ⟨some 42, .binOp .eql 3 (.tmp 41) (.const (.int .i64 12)) 3, 4, some (39, true)⟩,
   ⟨some 43, .pick (.tmp 39) (.tmp 42) (.const (.bool false)), 4, none⟩,
   mv 44 43 4,
   ⟨some 45, .move (.tmp 1), 23, some (44, true)⟩,
   ⟨some 46, .makeSlice 22 (.const (.int .i64 13)) (.const (.int .i64 13)), 22, some (44, true)⟩,
   ⟨some 47, .call { callee := (.value (.func 10)), args := #[(.tmp 45), (.const (.string { data := #[98] })), (.tmp 46)], argTypes := #[23, 9, 22] }, 24, some (44, true)⟩,
   ⟨some 48, .binOp .eql 24 (.tmp 47) (.const (.int .i64 32)) 24, 4, some (44, true)⟩,
   ⟨some 49, .pick (.tmp 44) (.tmp 48) (.const (.bool false)), 4, none⟩,
   mv 50 49 4,
   ⟨some 51, .move (.tmp 1), 23, some (50, true)⟩,
   ⟨some 52, .call ⟨.value (.func 27), #[(.tmp 51), (.const (.int .i64 1))], #[23, 3]⟩, 24, some (50, true)⟩,
   ⟨some 53, .binOp .eql 24 (.tmp 52) (.const (.int .i64 0)) 24, 4, some (50, true)⟩,
   ⟨some 54, .pick (.tmp 50) (.tmp 53) (.const (.bool false)), 4, none⟩,
   mv 55 54 4,
   ⟨some 56, .move (.tmp 1), 23, some (55, true)⟩,
   ⟨some 57, .call { callee := (.value (.func 30)), args := #[(.tmp 56), (.const (.string { data := #[97] }))], argTypes := #[23, 9] }, 24, some (55, true)⟩,
   ⟨some 58, .binOp .eql 24 (.tmp 57) (.const (.int .i64 272)) 24, 4, some (55, true)⟩,
   ⟨some 59, .pick (.tmp 55) (.tmp 58) (.const (.bool false)), 4, none⟩,
   mv 60 59 4,
   ⟨some 61, .move (.tmp 1), 23, some (60, true)⟩,
   ⟨some 62, .call ⟨.value (.func 28), #[.tmp 61], #[23]⟩, 4, some (60, true)⟩,
   ⟨some 63, .pick (.tmp 60) (.tmp 62) (.const (.bool false)), 4, none⟩,
   asg 0 63 4]
def B15 : VC :=
  (.seq (.region r15_0) (.seq (.region r15_1) (.seq (.seq (.region r15_2) (.cond (.tmp 15) (.seq (.region r15_3) .ret) .skip)) (.seq (.region r15_4) (.seq (.region r15_5) (.seq (.region r15_6) (.seq (.region r15_7) (.seq (.region r15_8) (.seq (.region r15_9) .ret)))))))))
theorem code15 : ∃ c, Try.f15.body = some c ∧ abs Try.f15.ntmps c = B15 := ⟨_, rfl, by kernel_rfl⟩
theorem hb15 : HasBody Try.prog 15 := hasBody_of Try.func15 (by kernel_rfl)
theorem res15 : Try.f15.results = #[(.tmp 0)] := rfl
theorem enter15 {w : World} {R : Value → World → Prop} (h : vc Try.prog B15 (retK Try.prog #[(.tmp 0)] R) [] (initEnv [] 0) w) : FnC Try.prog 15 #[] w R := by
  obtain ⟨c, h1, h2⟩ := code15
  exact hb15.fn (ret_of_vc mixed Try.func15 h1 (Nat.le_of_ble_eq_true rfl) B15 h2 h)
@[push_cast] theorem vr15_0 : VR r15_0 [⟨some 0, .assign (.const (.bool false)), 4, none⟩] := vR rfl
@[push_cast] theorem vr15_1 : VR r15_1 [⟨some 7, .call ⟨.value (.func 9), #[(.const (.int .i64 20))], #[3]⟩, 25, none⟩, ⟨some 6, .move (.tmp 7), 25, none⟩, ⟨some 8, .extract (.tmp 6) 0, 23, none⟩, ⟨some 9, .extract (.tmp 6) 1, 24, none⟩, ⟨some 1, .assign (.tmp 8), 23, none⟩, ⟨some 2, .assign (.tmp 9), 24, none⟩] := vR rfl
@[push_cast] theorem vr15_2 : VR r15_2 [⟨some 10, .move (.tmp 2), 24, none⟩, ⟨some 11, .binOp .neq 24 (.tmp 10) (.const (.int .i64 0)) 24, 4, none⟩, ⟨some 12, .move (.tmp 11), 4, none⟩, ⟨some 13, .move (.tmp 1), 23, some (12, false)⟩, ⟨some 14, .binOp .eql 23 (.tmp 13) (.const (.pointer none)) 23, 4, some (12, false)⟩, ⟨some 15, .pick (.tmp 12) (.const (.bool true)) (.tmp 14), 4, none⟩] := vR rfl
@[push_cast] theorem vr15_3 : VR r15_3 [⟨some 0, .assign (.const (.bool false)), 4, none⟩] := vR rfl
@[push_cast] theorem vr15_4 : VR r15_4 [⟨some 16, .move (.tmp 1), 23, none⟩, ⟨some 17, .buildSlice 22 4 #[(0, (.const (.int .u8 115))), (1, (.const (.int .u8 97))), (2, (.const (.int .u8 102))), (3, (.const (.int .u8 101)))], 22, none⟩, ⟨some 18, .convert 22 22 (.tmp 17), 22, none⟩, ⟨some 19, .call { callee := (.value (.func 10)), args := #[(.tmp 16), (.const (.string { data := #[97] })), (.tmp 18)], argTypes := #[23, 9, 22] }, 24, none⟩] := vR rfl
@[push_cast] theorem vr15_5 : VR r15_5 [⟨some 20, .move (.tmp 1), 23, none⟩, ⟨some 21, .call { callee := (.value (.func 11)), args := #[(.tmp 20), (.const (.string { data := #[97] }))], argTypes := #[23, 9] }, 24, none⟩] := vR rfl
@[push_cast] theorem vr15_6 : VR r15_6 [⟨some 22, .move (.tmp 1), 23, none⟩, ⟨some 23, .buildSlice 22 4 #[(0, (.const (.int .u8 109))), (1, (.const (.int .u8 111))), (2, (.const (.int .u8 114))), (3, (.const (.int .u8 101)))], 22, none⟩, ⟨some 24, .convert 22 22 (.tmp 23), 22, none⟩, ⟨some 25, .call { callee := (.value (.func 10)), args := #[(.tmp 22), (.const (.string { data := #[97] })), (.tmp 24)], argTypes := #[23, 9, 22] }, 24, none⟩] := vR rfl
@[push_cast] theorem vr15_7 : VR r15_7 [⟨some 26, .move (.tmp 1), 23, none⟩, ⟨some 27, .call ⟨.value (.func 13), #[(.tmp 26), (.const (.int .i64 1))], #[23, 3]⟩, 23, none⟩, ⟨some 3, .assign (.tmp 27), 23, none⟩] := vR rfl
@[push_cast] theorem vr15_8 : VR r15_8 [⟨some 29, .move (.tmp 3), 23, none⟩, ⟨some 30, .call { callee := (.value (.func 14)), args := #[(.tmp 29), (.const (.string { data := #[97] }))], argTypes := #[23, 9] }, 31, none⟩, ⟨some 28, .move (.tmp 30), 31, none⟩, ⟨some 31, .extract (.tmp 28) 0, 22, none⟩, ⟨some 32, .extract (.tmp 28) 1, 4, none⟩, ⟨some 4, .assign (.tmp 31), 22, none⟩, ⟨some 5, .assign (.tmp 32), 4, none⟩] := vR rfl
@[push_cast] theorem vr15_9 : VR r15_9 [⟨some 33, .move (.tmp 4), 22, none⟩, ⟨some 34, .convert 22 9 (.tmp 33), 9, none⟩, ⟨some 35, .binOp .eql 9 (.tmp 34) (.const (.string { data := #[115, 97, 102, 101, 109] })) 9, 4, none⟩, ⟨some 36, .move (.tmp 35), 4, none⟩, ⟨some 37, .move (.tmp 5), 4, some (36, true)⟩, ⟨some 38, .pick (.tmp 36) (.tmp 37) (.const (.bool false)), 4, none⟩, ⟨some 39, .move (.tmp 38), 4, none⟩, ⟨some 40, .move (.tmp 1), 23, some (39, true)⟩, ⟨some 41, .call ⟨.value (.func 17), #[.tmp 40], #[23]⟩, 3, some (39, true)⟩, ⟨some 42, .binOp .eql 3 (.tmp 41) (.const (.int .i64 12)) 3, 4, some (39, true)⟩, ⟨some 43, .pick (.tmp 39) (.tmp 42) (.const (.bool false)), 4, none⟩, ⟨some 44, .move (.tmp 43), 4, none⟩, ⟨some 45, .move (.tmp 1), 23, some (44, true)⟩, ⟨some 46, .makeSlice 22 (.const (.int .i64 13)) (.const (.int .i64 13)), 22, some (44, true)⟩, ⟨some 47, .call { callee := (.value (.func 10)), args := #[(.tmp 45), (.const (.string { data := #[98] })), (.tmp 46)], argTypes := #[23, 9, 22] }, 24, some (44, true)⟩, ⟨some 48, .binOp .eql 24 (.tmp 47) (.const (.int .i64 32)) 24, 4, some (44, true)⟩, ⟨some 49, .pick (.tmp 44) (.tmp 48) (.const (.bool false)), 4, none⟩, ⟨some 50, .move (.tmp 49), 4, none⟩, ⟨some 51, .move (.tmp 1), 23, some (50, true)⟩, ⟨some 52, .call ⟨.value (.func 27), #[(.tmp 51), (.const (.int .i64 1))], #[23, 3]⟩, 24, some (50, true)⟩, ⟨some 53, .binOp .eql 24 (.tmp 52) (.const (.int .i64 0)) 24, 4, some (50, true)⟩, ⟨some 54, .pick (.tmp 50) (.tmp 53) (.const (.bool false)), 4, none⟩, ⟨some 55, .move (.tmp 54), 4, none⟩, ⟨some 56, .move (.tmp 1), 23, some (55, true)⟩, ⟨some 57, .call { callee := (.value (.func 30)), args := #[(.tmp 56), (.const (.string { data := #[97] }))], argTypes := #[23, 9] }, 24, some (55, true)⟩, ⟨some 58, .binOp .eql 24 (.tmp 57) (.const (.int .i64 272)) 24, 4, some (55, true)⟩, ⟨some 59, .pick (.tmp 55) (.tmp 58) (.const (.bool false)), 4, none⟩, ⟨some 60, .move (.tmp 59), 4, none⟩, ⟨some 61, .move (.tmp 1), 23, some (60, true)⟩, ⟨some 62, .call ⟨.value (.func 28), #[.tmp 61], #[23]⟩, 4, some (60, true)⟩, ⟨some 63, .pick (.tmp 60) (.tmp 62) (.const (.bool false)), 4, none⟩, ⟨some 0, .assign (.tmp 63), 4, none⟩] := vR rfl
/-! 16 (columbary/columbarylaw03.Act).fits (params #[37], results #[(.tmp 2)], 19 slots) -/
def r16_0 : List VOp :=
  [⟨some 1, .box 37 (.tmp 0), 0, none⟩,
   ⟨some 2, .assign (.const (.bool false)), 4, none⟩]
def r16_1 : List VOp :=
  [fad 3 37 1 2,
   lda 4 9 3,
   ⟨some 5, .call ⟨.builtin .len, #[.tmp 4], #[9]⟩, 3, none⟩,
   ⟨some 6, .binOp .leq 3 (.tmp 5) (.const (.int .i64 200)) 3, 4, none⟩,
   mv 7 6 4,
   ⟨some 8, .fieldAddr 37 (.tmp 1) 3, 0, some (7, true)⟩,
   ⟨some 9, .load 9 (.tmp 8), 9, some (7, true)⟩,
   ⟨some 10, .call ⟨.builtin .len, #[.tmp 9], #[9]⟩, 3, some (7, true)⟩,
   ⟨some 11, .binOp .leq 3 (.tmp 10) (.const (.int .i64 200)) 3, 4, some (7, true)⟩,
   ⟨some 12, .pick (.tmp 7) (.tmp 11) (.const (.bool false)), 4, none⟩,
   mv 13 12 4,
   ⟨some 14, .fieldAddr 37 (.tmp 1) 4, 0, some (13, true)⟩,
   ⟨some 15, .load 22 (.tmp 14), 22, some (13, true)⟩,
   ⟨some 16, .call ⟨.builtin .len, #[.tmp 15], #[22]⟩, 3, some (13, true)⟩,
   ⟨some 17, .binOp .leq 3 (.tmp 16) (.const (.int .i64 200)) 3, 4, some (13, true)⟩,
   ⟨some 18, .pick (.tmp 13) (.tmp 17) (.const (.bool false)), 4, none⟩,
   asg 2 18 4]
def B16 : VC :=
  (.seq (.region r16_0) (.seq (.region r16_1) .ret))
theorem code16 : ∃ c, Try.f16.body = some c ∧ abs Try.f16.ntmps c = B16 := ⟨_, rfl, by kernel_rfl⟩
theorem hb16 : HasBody Try.prog 16 := hasBody_of Try.func16 (by kernel_rfl)
theorem res16 : Try.f16.results = #[(.tmp 2)] := rfl
theorem enter16 {w : World} {R : Value → World → Prop} (x0 : Value) (h : vc Try.prog B16 (retK Try.prog #[(.tmp 2)] R) [] (initEnv [x0] 0) w) : FnC Try.prog 16 #[x0] w R := by
  obtain ⟨c, h1, h2⟩ := code16
  exact hb16.fn (ret_of_vc mixed Try.func16 h1 (Nat.le_of_ble_eq_true rfl) B16 h2 h)
@[push_cast] theorem vr16_0 : VR r16_0 [⟨some 1, .box 37 (.tmp 0), 0, none⟩, ⟨some 2, .assign (.const (.bool false)), 4, none⟩] := vR rfl
@[push_cast] theorem vr16_1 : VR r16_1 [⟨some 3, .fieldAddr 37 (.tmp 1) 2, 0, none⟩, ⟨some 4, .load 9 (.tmp 3), 9, none⟩, ⟨some 5, .call ⟨.builtin .len, #[.tmp 4], #[9]⟩, 3, none⟩, ⟨some 6, .binOp .leq 3 (.tmp 5) (.const (.int .i64 200)) 3, 4, none⟩, ⟨some 7, .move (.tmp 6), 4, none⟩, ⟨some 8, .fieldAddr 37 (.tmp 1) 3, 0, some (7, true)⟩, ⟨some 9, .load 9 (.tmp 8), 9, some (7, true)⟩, ⟨some 10, .call ⟨.builtin .len, #[.tmp 9], #[9]⟩, 3, some (7, true)⟩, ⟨some 11, .binOp .leq 3 (.tmp 10) (.const (.int .i64 200)) 3, 4, some (7, true)⟩, ⟨some 12, .pick (.tmp 7) (.tmp 11) (.const (.bool false)), 4, none⟩, ⟨some 13, .move (.tmp 12), 4, none⟩, ⟨some 14, .fieldAddr 37 (.tmp 1) 4, 0, some (13, true)⟩, ⟨some 15, .load 22 (.tmp 14), 22, some (13, true)⟩, ⟨some 16, .call ⟨.builtin .len, #[.tmp 15], #[22]⟩, 3, some (13, true)⟩, ⟨some 17, .binOp .leq 3 (.tmp 16) (.const (.int .i64 200)) 3, 4, some (13, true)⟩, ⟨some 18, .pick (.tmp 13) (.tmp 17) (.const (.bool false)), 4, none⟩, ⟨some 2, .assign (.tmp 18), 4, none⟩] := vR rfl
/-! 17 (*columbary/vault.Vault).Free (params #[23], results #[(.tmp 2)], 27 slots) -/
def W17_0 : List Nat := [3, 5, 17, 18, 19, 20, 21, 22, 23, 24, 25]
@[push_cast] theorem W17_0_def : W17_0 = [3, 5, 17, 18, 19, 20, 21, 22, 23, 24, 25] := mk_eq rfl
def r17_0 : List VOp :=
  [⟨some 2, .assign (.const (.int .i64 0)), 3, none⟩]
def r17_1 : List VOp :=
  [mv 6 0 23,
   ⟨some 7, .binOp .eql 23 (.tmp 6) (.const (.pointer none)) 23, 4, none⟩]
def r17_2 : List VOp :=
  [⟨some 2, .assign (.const (.int .i64 0)), 3, none⟩]
def r17_3 : List VOp :=
  [mv 8 0 23,
   ⟨some 9, .nilCheck (.tmp 8), 0, none⟩,
   fad 10 57 9 0,
   lda 11 3 10,
   asg 3 11 3]
def r17_4 : List VOp :=
  [mv 12 0 23,
   ⟨some 13, .nilCheck (.tmp 12), 0, none⟩,
   fad 14 57 13 2,
   lda 15 55 14,
   ⟨some 16, .range 55 (.tmp 15), 0, none⟩]
def r17_5 : List VOp :=
  [⟨some 17, .next (.tmp 16) false, 0, none⟩,
   ext 18 17 0 4]
def r17_6 : List VOp :=
  [⟨some 19, .entry (.tmp 16), 0, none⟩,
   ext 20 19 1 61,
   ⟨some 5, .alloc 61, 0, none⟩,
   ⟨none, .store 61 (.tmp 5) (.tmp 20), 0, none⟩]
def r17_7 : List VOp :=
  [mv 21 3 3,
   fad 22 61 5 0,
   lda 23 22 22,
   ⟨some 24, .call ⟨.builtin .len, #[.tmp 23], #[22]⟩, 3, none⟩,
   ⟨some 25, .binOp .sub 3 (.tmp 21) (.tmp 24) 3, 3, none⟩,
   asg 3 25 3]
def r17_8 : List VOp :=
  [mv 26 3 3,
   asg 2 26 3]
def B17 : VC :=
  (.seq (.region r17_0) (.seq (.seq (.region r17_1) (.cond (.tmp 7) (.seq (.region r17_2) .ret) .skip)) (.seq (.region r17_3) (.seq (.seq (.region r17_4) (.block 0 (.loop (.seq (.region r17_5) (.seq (.cond (.tmp 18) .skip (.exit 0)) (.block 1 (.seq (.region r17_6) (.region r17_7)))))))) (.seq (.region r17_8) .ret)))))
theorem code17 : ∃ c, Try.f17.body = some c ∧ abs Try.f17.ntmps c = B17 := ⟨_, rfl, by kernel_rfl⟩
theorem hb17 : HasBody Try.prog 17 := hasBody_of Try.func17 (by kernel_rfl)
theorem res17 : Try.f17.results = #[(.tmp 2)] := rfl
theorem enter17 {w : World} {R : Value → World → Prop} (x0 : Value) (h : vc Try.prog B17 (retK Try.prog #[(.tmp 2)] R) [] (initEnv [x0] 0) w) : FnC Try.prog 17 #[x0] w R := by
  obtain ⟨c, h1, h2⟩ := code17
  exact hb17.fn (ret_of_vc mixed Try.func17 h1 (Nat.le_of_ble_eq_true rfl) B17 h2 h)
@[push_cast] theorem vr17_0 : VR r17_0 [⟨some 2, .assign (.const (.int .i64 0)), 3, none⟩] := vR rfl
@[push_cast] theorem vr17_1 : VR r17_1 [⟨some 6, .move (.tmp 0), 23, none⟩, ⟨some 7, .binOp .eql 23 (.tmp 6) (.const (.pointer none)) 23, 4, none⟩] := vR rfl
@[push_cast] theorem vr17_2 : VR r17_2 [⟨some 2, .assign (.const (.int .i64 0)), 3, none⟩] := vR rfl
@[push_cast] theorem vr17_3 : VR r17_3 [⟨some 8, .move (.tmp 0), 23, none⟩, ⟨some 9, .nilCheck (.tmp 8), 0, none⟩, ⟨some 10, .fieldAddr 57 (.tmp 9) 0, 0, none⟩, ⟨some 11, .load 3 (.tmp 10), 3, none⟩, ⟨some 3, .assign (.tmp 11), 3, none⟩] := vR rfl
@[push_cast] theorem vr17_4 : VR r17_4 [⟨some 12, .move (.tmp 0), 23, none⟩, ⟨some 13, .nilCheck (.tmp 12), 0, none⟩, ⟨some 14, .fieldAddr 57 (.tmp 13) 2, 0, none⟩, ⟨some 15, .load 55 (.tmp 14), 55, none⟩, ⟨some 16, .range 55 (.tmp 15), 0, none⟩] := vR rfl
@[push_cast] theorem vr17_5 : VR r17_5 [⟨some 17, .next (.tmp 16) false, 0, none⟩, ⟨some 18, .extract (.tmp 17) 0, 4, none⟩] := vR rfl
@[push_cast] theorem vr17_6 : VR r17_6 [⟨some 19, .entry (.tmp 16), 0, none⟩, ⟨some 20, .extract (.tmp 19) 1, 61, none⟩, ⟨some 5, .alloc 61, 0, none⟩, ⟨none, .store 61 (.tmp 5) (.tmp 20), 0, none⟩] := vR rfl
@[push_cast] theorem vr17_7 : VR r17_7 [⟨some 21, .move (.tmp 3), 3, none⟩, ⟨some 22, .fieldAddr 61 (.tmp 5) 0, 0, none⟩, ⟨some 23, .load 22 (.tmp 22), 22, none⟩, ⟨some 24, .call ⟨.builtin .len, #[.tmp 23], #[22]⟩, 3, none⟩, ⟨some 25, .binOp .sub 3 (.tmp 21) (.tmp 24) 3, 3, none⟩, ⟨some 3, .assign (.tmp 25), 3, none⟩] := vR rfl
@[push_cast] theorem vr17_8 : VR r17_8 [⟨some 26, .move (.tmp 3), 3, none⟩, ⟨some 2, .assign (.tmp 26), 3, none⟩] := vR rfl
/-! 23 (*columbary/vault.Vault).Copy (params #[23], results #[(.tmp 2)], 20 slots) -/
def r23_0 : List VOp :=
  [⟨some 2, .assign (.const (.pointer none)), 23, none⟩]
def r23_1 : List VOp :=
  [mv 3 0 23,
   ⟨some 4, .binOp .eql 23 (.tmp 3) (.const (.pointer none)) 23, 4, none⟩]
def r23_2 : List VOp :=
  [⟨some 2, .assign (.const (.pointer none)), 23, none⟩]
def r23_3 : List VOp :=
  [mv 5 0 23,
   ⟨some 6, .nilCheck (.tmp 5), 0, none⟩,
   fad 7 57 6 0,
   lda 8 3 7,
   mv 9 0 23,
   ⟨some 10, .nilCheck (.tmp 9), 0, none⟩,
   fad 11 57 10 1,
   lda 12 3 11,
   mv 13 0 23,
   ⟨some 14, .nilCheck (.tmp 13), 0, none⟩,
   fad 15 57 14 2,
   lda 16 55 15,
   ⟨some 17, .call ⟨.value (.func 41), #[.tmp 16], #[55]⟩, 55, none⟩,
   ⟨some 18, .build 57 #[(0, (.tmp 8)), (1, (.tmp 12)), (2, (.tmp 17))], 57, none⟩,
   ⟨some 19, .box 57 (.tmp 18), 23, none⟩,
   asg 2 19 23]
def B23 : VC :=
  (.seq (.region r23_0) (.seq (.seq (.region r23_1) (.cond (.tmp 4) (.seq (.region r23_2) .ret) .skip)) (.seq (.draw r23_3 4) .ret)))
theorem code23 : ∃ c, Try.f23.body = some c ∧ abs Try.f23.ntmps c = B23 := ⟨_, rfl, by kernel_rfl⟩
theorem hb23 : HasBody Try.prog 23 := hasBody_of Try.func23 (by kernel_rfl)
theorem res23 : Try.f23.results = #[(.tmp 2)] := rfl
theorem enter23 {w : World} {R : Value → World → Prop} (x0 : Value) (h : vc Try.prog B23 (retK Try.prog #[(.tmp 2)] R) [] (initEnv [x0] 0) w) : FnC Try.prog 23 #[x0] w R := by
  obtain ⟨c, h1, h2⟩ := code23
  exact hb23.fn (ret_of_vc mixed Try.func23 h1 (Nat.le_of_ble_eq_true rfl) B23 h2 h)
@[push_cast] theorem vr23_0 : VR r23_0 [⟨some 2, .assign (.const (.pointer none)), 23, none⟩] := vR rfl
@[push_cast] theorem vr23_1 : VR r23_1 [⟨some 3, .move (.tmp 0), 23, none⟩, ⟨some 4, .binOp .eql 23 (.tmp 3) (.const (.pointer none)) 23, 4, none⟩] := vR rfl
@[push_cast] theorem vr23_2 : VR r23_2 [⟨some 2, .assign (.const (.pointer none)), 23, none⟩] := vR rfl
@[push_cast] theorem vr23_3 : vc Try.prog (.draw r23_3 4) Q ds σ w = drawn Try.prog [(⟨some 5, .move (.tmp 0), 23, none⟩, [0]), (⟨some 6, .nilCheck (.tmp 5), 0, none⟩, [5]), (⟨some 7, .fieldAddr 57 (.tmp 6) 0, 0, none⟩, [6]), (⟨some 8, .load 3 (.tmp 7), 3, none⟩, [7]), (⟨some 9, .move (.tmp 0), 23, none⟩, [0]), (⟨some 10, .nilCheck (.tmp 9), 0, none⟩, [9]), (⟨some 11, .fieldAddr 57 (.tmp 10) 1, 0, none⟩, [10]), (⟨some 12, .load 3 (.tmp 11), 3, none⟩, [11]), (⟨some 13, .move (.tmp 0), 23, none⟩, [0]), (⟨some 14, .nilCheck (.tmp 13), 0, none⟩, [13]), (⟨some 15, .fieldAddr 57 (.tmp 14) 2, 0, none⟩, [14]), (⟨some 16, .load 55 (.tmp 15), 55, none⟩, [15]), (⟨some 17, .call ⟨.value (.func 41), #[.tmp 16], #[55]⟩, 55, none⟩, [16]), (⟨some 18, .build 57 #[(0, (.tmp 8)), (1, (.tmp 12)), (2, (.tmp 17))], 57, none⟩, [8, 12, 17]), (⟨some 19, .box 57 (.tmp 18), 23, none⟩, [18]), (⟨some 2, .assign (.tmp 19), 23, none⟩, [19])] 4 (Q .normal ds) σ w := mk_eq rfl
/-! 27 (*columbary/vault.Vault).Arm (params #[23, 3], results #[(.tmp 4)], 15 slots) -/
def r27_0 : List VOp :=
  [⟨some 4, .assign (.const (.int .i64 0)), 24, none⟩]
def r27_1 : List VOp :=
  [mv 5 0 23,
   ⟨some 6, .binOp .eql 23 (.tmp 5) (.const (.pointer none)) 23, 4, none⟩,
   mv 7 6 4,
   ⟨some 8, .move (.tmp 1), 3, some (7, false)⟩,
   ⟨some 9, .binOp .lss 3 (.tmp 8) (.const (.int .i64 0)) 3, 4, some (7, false)⟩,
   ⟨some 10, .pick (.tmp 7) (.const (.bool true)) (.tmp 9), 4, none⟩]
def r27_2 : List VOp :=
  [⟨some 4, .assign (.const (.int .i64 1)), 24, none⟩]
def r27_3 : List VOp :=
  [mv 11 0 23,
   mv 12 1 3,
   ⟨some 13, .nilCheck (.tmp 11), 0, none⟩,
   fad 14 57 13 1,
   ⟨none, .store 3 (.tmp 14) (.tmp 12), 0, none⟩]
def r27_4 : List VOp :=
  [⟨some 4, .assign (.const (.int .i64 0)), 24, none⟩]
def B27 : VC :=
  (.seq (.region r27_0) (.seq (.seq (.region r27_1) (.cond (.tmp 10) (.seq (.region r27_2) .ret) .skip)) (.seq (.region r27_3) (.seq (.region r27_4) .ret))))
theorem code27 : ∃ c, Try.f27.body = some c ∧ abs Try.f27.ntmps c = B27 := ⟨_, rfl, by kernel_rfl⟩
theorem hb27 : HasBody Try.prog 27 := hasBody_of Try.func27 (by kernel_rfl)
theorem res27 : Try.f27.results = #[(.tmp 4)] := rfl
theorem enter27 {w : World} {R : Value → World → Prop} (x0 x1 : Value) (h : vc Try.prog B27 (retK Try.prog #[(.tmp 4)] R) [] (initEnv [x0, x1] 0) w) : FnC Try.prog 27 #[x0, x1] w R := by
  obtain ⟨c, h1, h2⟩ := code27
  exact hb27.fn (ret_of_vc mixed Try.func27 h1 (Nat.le_of_ble_eq_true rfl) B27 h2 h)
@[push_cast] theorem vr27_0 : VR r27_0 [⟨some 4, .assign (.const (.int .i64 0)), 24, none⟩] := vR rfl
@[push_cast] theorem vr27_1 : VR r27_1 [⟨some 5, .move (.tmp 0), 23, none⟩, ⟨some 6, .binOp .eql 23 (.tmp 5) (.const (.pointer none)) 23, 4, none⟩, ⟨some 7, .move (.tmp 6), 4, none⟩, ⟨some 8, .move (.tmp 1), 3, some (7, false)⟩, ⟨some 9, .binOp .lss 3 (.tmp 8) (.const (.int .i64 0)) 3, 4, some (7, false)⟩, ⟨some 10, .pick (.tmp 7) (.const (.bool true)) (.tmp 9), 4, none⟩] := vR rfl
@[push_cast] theorem vr27_2 : VR r27_2 [⟨some 4, .assign (.const (.int .i64 1)), 24, none⟩] := vR rfl
@[push_cast] theorem vr27_3 : VR r27_3 [⟨some 11, .move (.tmp 0), 23, none⟩, ⟨some 12, .move (.tmp 1), 3, none⟩, ⟨some 13, .nilCheck (.tmp 11), 0, none⟩, ⟨some 14, .fieldAddr 57 (.tmp 13) 1, 0, none⟩, ⟨none, .store 3 (.tmp 14) (.tmp 12), 0, none⟩] := vR rfl
@[push_cast] theorem vr27_4 : VR r27_4 [⟨some 4, .assign (.const (.int .i64 0)), 24, none⟩] := vR rfl
/-! 28 (*columbary/vault.Vault).Broken (params #[23], results #[(.tmp 2)], 12 slots) -/
def r28_0 : List VOp :=
  [⟨some 2, .assign (.const (.bool false)), 4, none⟩]
def r28_1 : List VOp :=
  [mv 3 0 23,
   ⟨some 4, .binOp .neq 23 (.tmp 3) (.const (.pointer none)) 23, 4, none⟩,
   mv 5 4 4,
   ⟨some 6, .move (.tmp 0), 23, some (5, true)⟩,
   ⟨some 7, .nilCheck (.tmp 6), 0, some (5, true)⟩,
   ⟨some 8, .fieldAddr 57 (.tmp 7) 1, 0, some (5, true)⟩,
   ⟨some 9, .load 3 (.tmp 8), 3, some (5, true)⟩,
   ⟨some 10, .binOp .eql 3 (.tmp 9) (.const (.int .i64 0)) 3, 4, some (5, true)⟩,
   ⟨some 11, .pick (.tmp 5) (.tmp 10) (.const (.bool false)), 4, none⟩,
   asg 2 11 4]
def B28 : VC :=
  (.seq (.region r28_0) (.seq (.region r28_1) .ret))
theorem code28 : ∃ c, Try.f28.body = some c ∧ abs Try.f28.ntmps c = B28 := ⟨_, rfl, by kernel_rfl⟩
theorem hb28 : HasBody Try.prog 28 := hasBody_of Try.func28 (by kernel_rfl)
theorem res28 : Try.f28.results = #[(.tmp 2)] := rfl
theorem enter28 {w : World} {R : Value → World → Prop} (x0 : Value) (h : vc Try.prog B28 (retK Try.prog #[(.tmp 2)] R) [] (initEnv [x0] 0) w) : FnC Try.prog 28 #[x0] w R := by
  obtain ⟨c, h1, h2⟩ := code28
  exact hb28.fn (ret_of_vc mixed Try.func28 h1 (Nat.le_of_ble_eq_true rfl) B28 h2 h)
@[push_cast] theorem vr28_0 : VR r28_0 [⟨some 2, .assign (.const (.bool false)), 4, none⟩] := vR rfl
@[push_cast] theorem vr28_1 : VR r28_1 [⟨some 3, .move (.tmp 0), 23, none⟩, ⟨some 4, .binOp .neq 23 (.tmp 3) (.const (.pointer none)) 23, 4, none⟩, ⟨some 5, .move (.tmp 4), 4, none⟩, ⟨some 6, .move (.tmp 0), 23, some (5, true)⟩, ⟨some 7, .nilCheck (.tmp 6), 0, some (5, true)⟩, ⟨some 8, .fieldAddr 57 (.tmp 7) 1, 0, some (5, true)⟩, ⟨some 9, .load 3 (.tmp 8), 3, some (5, true)⟩, ⟨some 10, .binOp .eql 3 (.tmp 9) (.const (.int .i64 0)) 3, 4, some (5, true)⟩, ⟨some 11, .pick (.tmp 5) (.tmp 10) (.const (.bool false)), 4, none⟩, ⟨some 2, .assign (.tmp 11), 4, none⟩] := vR rfl
/-! 30 (*columbary/vault.Vault).Delete (params #[23, 9], results #[(.tmp 4)], 23 slots) -/
def r30_0 : List VOp :=
  [⟨some 4, .assign (.const (.int .i64 0)), 24, none⟩]
def r30_1 : List VOp :=
  [mv 7 0 23,
   mv 8 1 9,
   ⟨some 9, .call ⟨.value (.func 31), #[(.tmp 7), (.tmp 8), (.const (.bool true))], #[23, 9, 4]⟩, 24, none⟩,
   asg 5 9 24]
def r30_2 : List VOp :=
  [mv 10 5 24,
   ⟨some 11, .binOp .neq 24 (.tmp 10) (.const (.int .i64 0)) 24, 4, none⟩]
def r30_3 : List VOp :=
  [mv 12 5 24,
   asg 4 12 24]
def r30_4 : List VOp :=
  [mv 13 0 23,
   ⟨some 14, .call ⟨.value (.func 32), #[.tmp 13], #[23]⟩, 24, none⟩,
   asg 6 14 24]
def r30_5 : List VOp :=
  [mv 15 6 24,
   ⟨some 16, .binOp .neq 24 (.tmp 15) (.const (.int .i64 0)) 24, 4, none⟩]
def r30_6 : List VOp :=
  [mv 17 6 24,
   asg 4 17 24]
def r30_7 : List VOp :=
  [mv 18 0 23,
   ⟨some 19, .nilCheck (.tmp 18), 0, none⟩,
   fad 20 57 19 2,
   lda 21 55 20,
   mv 22 1 9,
   ⟨none, .call ⟨.builtin .delete, #[.tmp 21, .tmp 22], #[55, 9]⟩, 0, none⟩]
def r30_8 : List VOp :=
  [⟨some 4, .assign (.const (.int .i64 0)), 24, none⟩]
def B30 : VC :=
  (.seq (.region r30_0) (.seq (.seq (.region r30_1) (.seq (.region r30_2) (.cond (.tmp 11) (.seq (.region r30_3) .ret) .skip))) (.seq (.seq (.region r30_4) (.seq (.region r30_5) (.cond (.tmp 16) (.seq (.region r30_6) .ret) .skip))) (.seq (.region r30_7) (.seq (.region r30_8) .ret)))))
theorem code30 : ∃ c, Try.f30.body = some c ∧ abs Try.f30.ntmps c = B30 := ⟨_, rfl, by kernel_rfl⟩
theorem hb30 : HasBody Try.prog 30 := hasBody_of Try.func30 (by kernel_rfl)
theorem res30 : Try.f30.results = #[(.tmp 4)] := rfl
theorem enter30 {w : World} {R : Value → World → Prop} (x0 x1 : Value) (h : vc Try.prog B30 (retK Try.prog #[(.tmp 4)] R) [] (initEnv [x0, x1] 0) w) : FnC Try.prog 30 #[x0, x1] w R := by
  obtain ⟨c, h1, h2⟩ := code30
  exact hb30.fn (ret_of_vc mixed Try.func30 h1 (Nat.le_of_ble_eq_true rfl) B30 h2 h)
@[push_cast] theorem vr30_0 : VR r30_0 [⟨some 4, .assign (.const (.int .i64 0)), 24, none⟩] := vR rfl
@[push_cast] theorem vr30_1 : VR r30_1 [⟨some 7, .move (.tmp 0), 23, none⟩, ⟨some 8, .move (.tmp 1), 9, none⟩, ⟨some 9, .call ⟨.value (.func 31), #[(.tmp 7), (.tmp 8), (.const (.bool true))], #[23, 9, 4]⟩, 24, none⟩, ⟨some 5, .assign (.tmp 9), 24, none⟩] := vR rfl
@[push_cast] theorem vr30_2 : VR r30_2 [⟨some 10, .move (.tmp 5), 24, none⟩, ⟨some 11, .binOp .neq 24 (.tmp 10) (.const (.int .i64 0)) 24, 4, none⟩] := vR rfl
@[push_cast] theorem vr30_3 : VR r30_3 [⟨some 12, .move (.tmp 5), 24, none⟩, ⟨some 4, .assign (.tmp 12), 24, none⟩] := vR rfl
@[push_cast] theorem vr30_4 : VR r30_4 [⟨some 13, .move (.tmp 0), 23, none⟩, ⟨some 14, .call ⟨.value (.func 32), #[.tmp 13], #[23]⟩, 24, none⟩, ⟨some 6, .assign (.tmp 14), 24, none⟩] := vR rfl
@[push_cast] theorem vr30_5 : VR r30_5 [⟨some 15, .move (.tmp 6), 24, none⟩, ⟨some 16, .binOp .neq 24 (.tmp 15) (.const (.int .i64 0)) 24, 4, none⟩] := vR rfl
@[push_cast] theorem vr30_6 : VR r30_6 [⟨some 17, .move (.tmp 6), 24, none⟩, ⟨some 4, .assign (.tmp 17), 24, none⟩] := vR rfl
@[push_cast] theorem vr30_7 : VR r30_7 [⟨some 18, .move (.tmp 0), 23, none⟩, ⟨some 19, .nilCheck (.tmp 18), 0, none⟩, ⟨some 20, .fieldAddr 57 (.tmp 19) 2, 0, none⟩, ⟨some 21, .load 55 (.tmp 20), 55, none⟩, ⟨some 22, .move (.tmp 1), 9, none⟩, ⟨none, .call ⟨.builtin .delete, #[.tmp 21, .tmp 22], #[55, 9]⟩, 0, none⟩] := vR rfl
@[push_cast] theorem vr30_8 : VR r30_8 [⟨some 4, .assign (.const (.int .i64 0)), 24, none⟩] := vR rfl
/-! 31 (*columbary/vault.Vault).may (params #[23, 9, 4], results #[(.tmp 6)], 30 slots) -/
def r31_0 : List VOp :=
  [⟨some 6, .assign (.const (.int .i64 0)), 24, none⟩]
def r31_1 : List VOp :=
  [mv 9 0 23,
   ⟨some 10, .binOp .eql 23 (.tmp 9) (.const (.pointer none)) 23, 4, none⟩]
def r31_2 : List VOp :=
  [⟨some 6, .assign (.const (.int .i64 1)), 24, none⟩]
def r31_3 : List VOp :=
  [mv 12 0 23,
   ⟨some 13, .nilCheck (.tmp 12), 0, none⟩,
   fad 14 57 13 2,
   lda 15 55 14,
   mv 16 1 9,
   ⟨some 17, .lookup 55 (.tmp 15) (.tmp 16) true, 62, none⟩,
   mv 11 17 62,
   ext 18 11 0 61,
   ext 19 11 1 4,
   ⟨some 7, .alloc 61, 0, none⟩,
   ⟨none, .store 61 (.tmp 7) (.tmp 18), 0, none⟩,
   asg 8 19 4]
def r31_4 : List VOp :=
  [mv 20 1 9,
   ⟨some 21, .call ⟨.value (.func 45), #[.tmp 20], #[9]⟩, 4, none⟩,
   ⟨some 22, .unOp .not 4 (.tmp 21), 4, none⟩,
   mv 23 22 4,
   ⟨some 24, .move (.tmp 2), 4, some (23, false)⟩,
   ⟨some 25, .move (.tmp 24), 4, some (23, false)⟩,
   ⟨some 26, .move (.tmp 8), 4, some (25, true)⟩,
   ⟨some 27, .unOp .not 4 (.tmp 26), 4, some (25, true)⟩,
   ⟨some 28, .pick (.tmp 25) (.tmp 27) (.const (.bool false)), 4, some (23, false)⟩,
   ⟨some 29, .pick (.tmp 23) (.const (.bool true)) (.tmp 28), 4, none⟩]
def r31_5 : List VOp :=
  [⟨some 6, .assign (.const (.int .i64 31)), 24, none⟩]
def r31_6 : List VOp :=
  [⟨some 6, .assign (.const (.int .i64 0)), 24, none⟩]
def B31 : VC :=
  (.seq (.region r31_0) (.seq (.seq (.region r31_1) (.cond (.tmp 10) (.seq (.region r31_2) .ret) .skip)) (.seq (.seq (.region r31_3) (.seq (.region r31_4) (.cond (.tmp 29) (.seq (.region r31_5) .ret) .skip))) (.seq (.region r31_6) .ret))))
theorem code31 : ∃ c, Try.f31.body = some c ∧ abs Try.f31.ntmps c = B31 := ⟨_, rfl, by kernel_rfl⟩
theorem hb31 : HasBody Try.prog 31 := hasBody_of Try.func31 (by kernel_rfl)
theorem res31 : Try.f31.results = #[(.tmp 6)] := rfl
theorem enter31 {w : World} {R : Value → World → Prop} (x0 x1 x2 : Value) (h : vc Try.prog B31 (retK Try.prog #[(.tmp 6)] R) [] (initEnv [x0, x1, x2] 0) w) : FnC Try.prog 31 #[x0, x1, x2] w R := by
  obtain ⟨c, h1, h2⟩ := code31
  exact hb31.fn (ret_of_vc mixed Try.func31 h1 (Nat.le_of_ble_eq_true rfl) B31 h2 h)
@[push_cast] theorem vr31_0 : VR r31_0 [⟨some 6, .assign (.const (.int .i64 0)), 24, none⟩] := vR rfl
@[push_cast] theorem vr31_1 : VR r31_1 [⟨some 9, .move (.tmp 0), 23, none⟩, ⟨some 10, .binOp .eql 23 (.tmp 9) (.const (.pointer none)) 23, 4, none⟩] := vR rfl
@[push_cast] theorem vr31_2 : VR r31_2 [⟨some 6, .assign (.const (.int .i64 1)), 24, none⟩] := vR rfl
@[push_cast] theorem vr31_3 : VR r31_3 [⟨some 12, .move (.tmp 0), 23, none⟩, ⟨some 13, .nilCheck (.tmp 12), 0, none⟩, ⟨some 14, .fieldAddr 57 (.tmp 13) 2, 0, none⟩, ⟨some 15, .load 55 (.tmp 14), 55, none⟩, ⟨some 16, .move (.tmp 1), 9, none⟩, ⟨some 17, .lookup 55 (.tmp 15) (.tmp 16) true, 62, none⟩, ⟨some 11, .move (.tmp 17), 62, none⟩, ⟨some 18, .extract (.tmp 11) 0, 61, none⟩, ⟨some 19, .extract (.tmp 11) 1, 4, none⟩, ⟨some 7, .alloc 61, 0, none⟩, ⟨none, .store 61 (.tmp 7) (.tmp 18), 0, none⟩, ⟨some 8, .assign (.tmp 19), 4, none⟩] := vR rfl
@[push_cast] theorem vr31_4 : VR r31_4 [⟨some 20, .move (.tmp 1), 9, none⟩, ⟨some 21, .call ⟨.value (.func 45), #[.tmp 20], #[9]⟩, 4, none⟩, ⟨some 22, .unOp .not 4 (.tmp 21), 4, none⟩, ⟨some 23, .move (.tmp 22), 4, none⟩, ⟨some 24, .move (.tmp 2), 4, some (23, false)⟩, ⟨some 25, .move (.tmp 24), 4, some (23, false)⟩, ⟨some 26, .move (.tmp 8), 4, some (25, true)⟩, ⟨some 27, .unOp .not 4 (.tmp 26), 4, some (25, true)⟩, ⟨some 28, .pick (.tmp 25) (.tmp 27) (.const (.bool false)), 4, some (23, false)⟩, ⟨some 29, .pick (.tmp 23) (.const (.bool true)) (.tmp 28), 4, none⟩] := vR rfl
@[push_cast] theorem vr31_5 : VR r31_5 [⟨some 6, .assign (.const (.int .i64 31)), 24, none⟩] := vR rfl
@[push_cast] theorem vr31_6 : VR r31_6 [⟨some 6, .assign (.const (.int .i64 0)), 24, none⟩] := vR rfl
/-! 32 (*columbary/vault.Vault).burns (params #[23], results #[(.tmp 2)], 20 slots) -/
def r32_0 : List VOp :=
  [⟨some 2, .assign (.const (.int .i64 0)), 24, none⟩]
def r32_1 : List VOp :=
  [mv 3 0 23,
   ⟨some 4, .nilCheck (.tmp 3), 0, none⟩,
   fad 5 57 4 1,
   lda 6 3 5,
   ⟨some 7, .binOp .gtr 3 (.tmp 6) (.const (.int .i64 0)) 3, 4, none⟩]
def r32_2 : List VOp :=
  [mv 8 0 23,
   ⟨some 9, .nilCheck (.tmp 8), 0, none⟩,
   fad 10 57 9 1,
   lda 11 3 10,
   ⟨some 12, .binOp .sub 3 (.tmp 11) (.const (.int .i64 1)) 3, 3, none⟩,
   ⟨some 13, .nilCheck (.tmp 8), 0, none⟩,
   fad 14 57 13 1,
   ⟨none, .store 3 (.tmp 14) (.tmp 12), 0, none⟩]
def r32_3 : List VOp :=
  [mv 15 0 23,
   ⟨some 16, .nilCheck (.tmp 15), 0, none⟩,
   fad 17 57 16 1,
   lda 18 3 17,
   ⟨some 19, .binOp .eql 3 (.tmp 18) (.const (.int .i64 0)) 3, 4, none⟩]
def r32_4 : List VOp :=
  [⟨some 2, .assign (.const (.int .i64 272)), 24, none⟩]
def r32_5 : List VOp :=
  [⟨some 2, .assign (.const (.int .i64 0)), 24, none⟩]
def B32 : VC :=
  (.seq (.region r32_0) (.seq (.seq (.region r32_1) (.cond (.tmp 7) (.region r32_2) .skip)) (.seq (.seq (.region r32_3) (.cond (.tmp 19) (.seq (.region r32_4) .ret) .skip)) (.seq (.region r32_5) .ret))))
theorem code32 : ∃ c, Try.f32.body = some c ∧ abs Try.f32.ntmps c = B32 := ⟨_, rfl, by kernel_rfl⟩
theorem hb32 : HasBody Try.prog 32 := hasBody_of Try.func32 (by kernel_rfl)
theorem res32 : Try.f32.results = #[(.tmp 2)] := rfl
theorem enter32 {w : World} {R : Value → World → Prop} (x0 : Value) (h : vc Try.prog B32 (retK Try.prog #[(.tmp 2)] R) [] (initEnv [x0] 0) w) : FnC Try.prog 32 #[x0] w R := by
  obtain ⟨c, h1, h2⟩ := code32
  exact hb32.fn (ret_of_vc mixed Try.func32 h1 (Nat.le_of_ble_eq_true rfl) B32 h2 h)
@[push_cast] theorem vr32_0 : VR r32_0 [⟨some 2, .assign (.const (.int .i64 0)), 24, none⟩] := vR rfl
@[push_cast] theorem vr32_1 : VR r32_1 [⟨some 3, .move (.tmp 0), 23, none⟩, ⟨some 4, .nilCheck (.tmp 3), 0, none⟩, ⟨some 5, .fieldAddr 57 (.tmp 4) 1, 0, none⟩, ⟨some 6, .load 3 (.tmp 5), 3, none⟩, ⟨some 7, .binOp .gtr 3 (.tmp 6) (.const (.int .i64 0)) 3, 4, none⟩] := vR rfl
@[push_cast] theorem vr32_2 : VR r32_2 [⟨some 8, .move (.tmp 0), 23, none⟩, ⟨some 9, .nilCheck (.tmp 8), 0, none⟩, ⟨some 10, .fieldAddr 57 (.tmp 9) 1, 0, none⟩, ⟨some 11, .load 3 (.tmp 10), 3, none⟩, ⟨some 12, .binOp .sub 3 (.tmp 11) (.const (.int .i64 1)) 3, 3, none⟩, ⟨some 13, .nilCheck (.tmp 8), 0, none⟩, ⟨some 14, .fieldAddr 57 (.tmp 13) 1, 0, none⟩, ⟨none, .store 3 (.tmp 14) (.tmp 12), 0, none⟩] := vR rfl
@[push_cast] theorem vr32_3 : VR r32_3 [⟨some 15, .move (.tmp 0), 23, none⟩, ⟨some 16, .nilCheck (.tmp 15), 0, none⟩, ⟨some 17, .fieldAddr 57 (.tmp 16) 1, 0, none⟩, ⟨some 18, .load 3 (.tmp 17), 3, none⟩, ⟨some 19, .binOp .eql 3 (.tmp 18) (.const (.int .i64 0)) 3, 4, none⟩] := vR rfl
@[push_cast] theorem vr32_4 : VR r32_4 [⟨some 2, .assign (.const (.int .i64 272)), 24, none⟩] := vR rfl
@[push_cast] theorem vr32_5 : VR r32_5 [⟨some 2, .assign (.const (.int .i64 0)), 24, none⟩] := vR rfl
/-! 33 slices.Concat[[]byte,byte] (params #[78], results #[(.tmp 2)], 36 slots) -/
def W33_0 : List Nat := [3, 5, 11, 12, 13, 14, 15, 16, 17, 18, 19, 20, 21, 22]
@[push_cast] theorem W33_0_def : W33_0 = [3, 5, 11, 12, 13, 14, 15, 16, 17, 18, 19, 20, 21, 22] := mk_eq rfl
def W33_1 : List Nat := [6, 8, 27, 28, 29, 30, 31, 32, 33, 34]
@[push_cast] theorem W33_1_def : W33_1 = [6, 8, 27, 28, 29, 30, 31, 32, 33, 34] := mk_eq rfl
def r33_0 : List VOp :=
  [⟨some 2, .assign (.const (.slice none 0 0)), 22, none⟩]
def r33_1 : List VOp :=
  [⟨some 3, .assign (.const (.int .i64 0)), 3, none⟩]
def r33_2 : List VOp :=
  [mv 9 0 78,
   ⟨some 10, .call ⟨.builtin .len, #[.tmp 9], #[78]⟩, 3, none⟩,
   ⟨some 11, .move (.const (.int .i64 0)), 3, none⟩]
def r33_3 : List VOp :=
  [⟨some 12, .binOp .lss 3 (.tmp 11) (.tmp 10) 3, 0, none⟩]
def r33_4 : List VOp :=
  [iad 13 78 9 11,
   lda 14 22 13,
   asg 5 14 22]
def r33_5 : List VOp :=
  [mv 15 3 3,
   mv 16 5 22,
   ⟨some 17, .call ⟨.builtin .len, #[.tmp 16], #[22]⟩, 3, none⟩,
   ⟨some 18, .binOp .add 3 (.tmp 15) (.tmp 17) 3, 3, none⟩,
   asg 3 18 3]
def r33_6 : List VOp :=
  [mv 19 3 3,
   ⟨some 20, .binOp .lss 3 (.tmp 19) (.const (.int .i64 0)) 3, 4, none⟩]
def r33_7 : List VOp :=
  [⟨some 21, .makeInterface 9 (.const (.string { data := #[108, 101, 110, 32, 111, 117, 116, 32, 111, 102, 32, 114, 97, 110, 103, 101] })), 20, none⟩,
   ⟨none, .panic (.tmp 21), 0, none⟩]
def r33_8 : List VOp :=
  [⟨some 22, .binOp .add 3 (.tmp 11) (.const (.int .i64 1)) 3, 3, none⟩,
   mv 11 22 3]
def r33_9 : List VOp :=
  [mv 23 3 3,
   ⟨some 24, .call ⟨.value (.func 46), #[(.const (.slice none 0 0)), .tmp 23], #[22, 3]⟩, 22, none⟩,
   asg 6 24 22]
def r33_10 : List VOp :=
  [mv 25 0 78,
   ⟨some 26, .call ⟨.builtin .len, #[.tmp 25], #[78]⟩, 3, none⟩,
   ⟨some 27, .move (.const (.int .i64 0)), 3, none⟩]
def r33_11 : List VOp :=
  [⟨some 28, .binOp .lss 3 (.tmp 27) (.tmp 26) 3, 0, none⟩]
def r33_12 : List VOp :=
  [iad 29 78 25 27,
   lda 30 22 29,
   asg 8 30 22]
def r33_13 : List VOp :=
  [mv 31 6 22,
   mv 32 8 22,
   ⟨some 33, .call ⟨.builtin .append, #[.tmp 31, .tmp 32], #[22, 22]⟩, 22, none⟩,
   asg 6 33 22]
def r33_14 : List VOp :=
  [⟨some 34, .binOp .add 3 (.tmp 27) (.const (.int .i64 1)) 3, 3, none⟩,
   mv 27 34 3]
def r33_15 : List VOp :=
  [mv 35 6 22,
   asg 2 35 22]
def B33 : VC :=
  (.seq (.region r33_0) (.seq (.region r33_1) (.seq (.seq (.region r33_2) (.block 0 (.loop (.seq (.region r33_3) (.seq (.cond (.tmp 12) .skip (.exit 0)) (.seq (.block 1 (.seq (.region r33_4) (.seq (.region r33_5) (.seq (.region r33_6) (.cond (.tmp 20) (.region r33_7) .skip))))) (.region r33_8))))))) (.seq (.region r33_9) (.seq (.seq (.region r33_10) (.block 2 (.loop (.seq (.region r33_11) (.seq (.cond (.tmp 28) .skip (.exit 2)) (.seq (.block 3 (.seq (.region r33_12) (.region r33_13))) (.region r33_14))))))) (.seq (.region r33_15) .ret))))))
theorem code33 : ∃ c, Try.f33.body = some c ∧ abs Try.f33.ntmps c = B33 := ⟨_, rfl, by kernel_rfl⟩
theorem hb33 : HasBody Try.prog 33 := hasBody_of Try.func33 (by kernel_rfl)
theorem res33 : Try.f33.results = #[(.tmp 2)] := rfl
theorem enter33 {w : World} {R : Value → World → Prop} (x0 : Value) (h : vc Try.prog B33 (retK Try.prog #[(.tmp 2)] R) [] (initEnv [x0] 0) w) : FnC Try.prog 33 #[x0] w R := by
  obtain ⟨c, h1, h2⟩ := code33
  exact hb33.fn (ret_of_vc mixed Try.func33 h1 (Nat.le_of_ble_eq_true rfl) B33 h2 h)
@[push_cast] theorem vr33_0 : VR r33_0 [⟨some 2, .assign (.const (.slice none 0 0)), 22, none⟩] := vR rfl
@[push_cast] theorem vr33_1 : VR r33_1 [⟨some 3, .assign (.const (.int .i64 0)), 3, none⟩] := vR rfl
@[push_cast] theorem vr33_2 : VR r33_2 [⟨some 9, .move (.tmp 0), 78, none⟩, ⟨some 10, .call ⟨.builtin .len, #[.tmp 9], #[78]⟩, 3, none⟩, ⟨some 11, .move (.const (.int .i64 0)), 3, none⟩] := vR rfl
@[push_cast] theorem vr33_3 : VR r33_3 [⟨some 12, .binOp .lss 3 (.tmp 11) (.tmp 10) 3, 0, none⟩] := vR rfl
@[push_cast] theorem vr33_4 : VR r33_4 [⟨some 13, .indexAddr 78 (.tmp 9) (.tmp 11), 0, none⟩, ⟨some 14, .load 22 (.tmp 13), 22, none⟩, ⟨some 5, .assign (.tmp 14), 22, none⟩] := vR rfl
@[push_cast] theorem vr33_5 : VR r33_5 [⟨some 15, .move (.tmp 3), 3, none⟩, ⟨some 16, .move (.tmp 5), 22, none⟩, ⟨some 17, .call ⟨.builtin .len, #[.tmp 16], #[22]⟩, 3, none⟩, ⟨some 18, .binOp .add 3 (.tmp 15) (.tmp 17) 3, 3, none⟩, ⟨some 3, .assign (.tmp 18), 3, none⟩] := vR rfl
@[push_cast] theorem vr33_6 : VR r33_6 [⟨some 19, .move (.tmp 3), 3, none⟩, ⟨some 20, .binOp .lss 3 (.tmp 19) (.const (.int .i64 0)) 3, 4, none⟩] := vR rfl
@[push_cast] theorem vr33_7 : VR r33_7 [⟨some 21, .makeInterface 9 (.const (.string { data := #[108, 101, 110, 32, 111, 117, 116, 32, 111, 102, 32, 114, 97, 110, 103, 101] })), 20, none⟩, ⟨none, .panic (.tmp 21), 0, none⟩] := vR rfl
@[push_cast] theorem vr33_8 : VR r33_8 [⟨some 22, .binOp .add 3 (.tmp 11) (.const (.int .i64 1)) 3, 3, none⟩, ⟨some 11, .move (.tmp 22), 3, none⟩] := vR rfl
@[push_cast] theorem vr33_9 : VR r33_9 [⟨some 23, .move (.tmp 3), 3, none⟩, ⟨some 24, .call ⟨.value (.func 46), #[(.const (.slice none 0 0)), .tmp 23], #[22, 3]⟩, 22, none⟩, ⟨some 6, .assign (.tmp 24), 22, none⟩] := vR rfl
@[push_cast] theorem vr33_10 : VR r33_10 [⟨some 25, .move (.tmp 0), 78, none⟩, ⟨some 26, .call ⟨.builtin .len, #[.tmp 25], #[78]⟩, 3, none⟩, ⟨some 27, .move (.const (.int .i64 0)), 3, none⟩] := vR rfl
@[push_cast] theorem vr33_11 : VR r33_11 [⟨some 28, .binOp .lss 3 (.tmp 27) (.tmp 26) 3, 0, none⟩] := vR rfl
@[push_cast] theorem vr33_12 : VR r33_12 [⟨some 29, .indexAddr 78 (.tmp 25) (.tmp 27), 0, none⟩, ⟨some 30, .load 22 (.tmp 29), 22, none⟩, ⟨some 8, .assign (.tmp 30), 22, none⟩] := vR rfl
@[push_cast] theorem vr33_13 : VR r33_13 [⟨some 31, .move (.tmp 6), 22, none⟩, ⟨some 32, .move (.tmp 8), 22, none⟩, ⟨some 33, .call ⟨.builtin .append, #[.tmp 31, .tmp 32], #[22, 22]⟩, 22, none⟩, ⟨some 6, .assign (.tmp 33), 22, none⟩] := vR rfl
@[push_cast] theorem vr33_14 : VR r33_14 [⟨some 34, .binOp .add 3 (.tmp 27) (.const (.int .i64 1)) 3, 3, none⟩, ⟨some 27, .move (.tmp 34), 3, none⟩] := vR rfl
@[push_cast] theorem vr33_15 : VR r33_15 [⟨some 35, .move (.tmp 6), 22, none⟩, ⟨some 2, .assign (.tmp 35), 22, none⟩] := vR rfl
/-! 34 bytes.Clone (params #[22], results #[(.tmp 2)], 8 slots) -/
def r34_0 : List VOp :=
  [⟨some 2, .assign (.const (.slice none 0 0)), 22, none⟩]
def r34_1 : List VOp :=
  [mv 3 0 22,
   ⟨some 4, .binOp .eql 22 (.tmp 3) (.const (.slice none 0 0)) 22, 4, none⟩]
def r34_2 : List VOp :=
  [⟨some 2, .assign (.const (.slice none 0 0)), 22, none⟩]
def r34_3 : List VOp :=
  [⟨some 5, .buildSlice 22 0 #[], 22, none⟩,
   mv 6 0 22,
   ⟨some 7, .call ⟨.builtin .append, #[.tmp 5, .tmp 6], #[22, 22]⟩, 22, none⟩,
   asg 2 7 22]
def B34 : VC :=
  (.seq (.region r34_0) (.seq (.seq (.region r34_1) (.cond (.tmp 4) (.seq (.region r34_2) .ret) .skip)) (.seq (.region r34_3) .ret)))
theorem code34 : ∃ c, Try.f34.body = some c ∧ abs Try.f34.ntmps c = B34 := ⟨_, rfl, by kernel_rfl⟩
theorem hb34 : HasBody Try.prog 34 := hasBody_of Try.func34 (by kernel_rfl)
theorem res34 : Try.f34.results = #[(.tmp 2)] := rfl
theorem enter34 {w : World} {R : Value → World → Prop} (x0 : Value) (h : vc Try.prog B34 (retK Try.prog #[(.tmp 2)] R) [] (initEnv [x0] 0) w) : FnC Try.prog 34 #[x0] w R := by
  obtain ⟨c, h1, h2⟩ := code34
  exact hb34.fn (ret_of_vc mixed Try.func34 h1 (Nat.le_of_ble_eq_true rfl) B34 h2 h)
@[push_cast] theorem vr34_0 : VR r34_0 [⟨some 2, .assign (.const (.slice none 0 0)), 22, none⟩] := vR rfl
@[push_cast] theorem vr34_1 : VR r34_1 [⟨some 3, .move (.tmp 0), 22, none⟩, ⟨some 4, .binOp .eql 22 (.tmp 3) (.const (.slice none 0 0)) 22, 4, none⟩] := vR rfl
@[push_cast] theorem vr34_2 : VR r34_2 [⟨some 2, .assign (.const (.slice none 0 0)), 22, none⟩] := vR rfl
@[push_cast] theorem vr34_3 : VR r34_3 [⟨some 5, .buildSlice 22 0 #[], 22, none⟩, ⟨some 6, .move (.tmp 0), 22, none⟩, ⟨some 7, .call ⟨.builtin .append, #[.tmp 5, .tmp 6], #[22, 22]⟩, 22, none⟩, ⟨some 2, .assign (.tmp 7), 22, none⟩] := vR rfl
/-! 45 columbary/vault.named (params #[9], results #[(.tmp 2)], 15 slots) -/
def r45_0 : List VOp :=
  [⟨some 2, .assign (.const (.bool false)), 4, none⟩]
def r45_1 : List VOp :=
  [mv 3 0 9,
   ⟨some 4, .binOp .neq 9 (.tmp 3) (.const (.string { data := #[] })) 9, 4, none⟩,
   mv 5 4 4,
   ⟨some 6, .move (.tmp 0), 9, some (5, true)⟩,
   ⟨some 7, .call ⟨.builtin .len, #[.tmp 6], #[9]⟩, 3, some (5, true)⟩,
   ⟨some 8, .binOp .leq 3 (.tmp 7) (.const (.int .i64 12)) 3, 4, some (5, true)⟩,
   ⟨some 9, .pick (.tmp 5) (.tmp 8) (.const (.bool false)), 4, none⟩,
   mv 10 9 4,
   ⟨some 11, .move (.tmp 0), 9, some (10, true)⟩,
   ⟨some 12, .call ⟨.value (.func 55), #[(.tmp 11), (.func 56)], #[9, 86]⟩, 4, some (10, true)⟩,
   ⟨some 13, .unOp .not 4 (.tmp 12), 4, some (10, true)⟩,
   ⟨some 14, .pick (.tmp 10) (.tmp 13) (.const (.bool false)), 4, none⟩,
   asg 2 14 4]
def B45 : VC :=
  (.seq (.region r45_0) (.seq (.region r45_1) .ret))
theorem code45 : ∃ c, Try.f45.body = some c ∧ abs Try.f45.ntmps c = B45 := ⟨_, rfl, by kernel_rfl⟩
theorem hb45 : HasBody Try.prog 45 := hasBody_of Try.func45 (by kernel_rfl)
theorem res45 : Try.f45.results = #[(.tmp 2)] := rfl
theorem enter45 {w : World} {R : Value → World → Prop} (x0 : Value) (h : vc Try.prog B45 (retK Try.prog #[(.tmp 2)] R) [] (initEnv [x0] 0) w) : FnC Try.prog 45 #[x0] w R := by
  obtain ⟨c, h1, h2⟩ := code45
  exact hb45.fn (ret_of_vc mixed Try.func45 h1 (Nat.le_of_ble_eq_true rfl) B45 h2 h)
@[push_cast] theorem vr45_0 : VR r45_0 [⟨some 2, .assign (.const (.bool false)), 4, none⟩] := vR rfl
@[push_cast] theorem vr45_1 : VR r45_1 [⟨some 3, .move (.tmp 0), 9, none⟩, ⟨some 4, .binOp .neq 9 (.tmp 3) (.const (.string { data := #[] })) 9, 4, none⟩, ⟨some 5, .move (.tmp 4), 4, none⟩, ⟨some 6, .move (.tmp 0), 9, some (5, true)⟩, ⟨some 7, .call ⟨.builtin .len, #[.tmp 6], #[9]⟩, 3, some (5, true)⟩, ⟨some 8, .binOp .leq 3 (.tmp 7) (.const (.int .i64 12)) 3, 4, some (5, true)⟩, ⟨some 9, .pick (.tmp 5) (.tmp 8) (.const (.bool false)), 4, none⟩, ⟨some 10, .move (.tmp 9), 4, none⟩, ⟨some 11, .move (.tmp 0), 9, some (10, true)⟩, ⟨some 12, .call ⟨.value (.func 55), #[(.tmp 11), (.func 56)], #[9, 86]⟩, 4, some (10, true)⟩, ⟨some 13, .unOp .not 4 (.tmp 12), 4, some (10, true)⟩, ⟨some 14, .pick (.tmp 10) (.tmp 13) (.const (.bool false)), 4, none⟩, ⟨some 2, .assign (.tmp 14), 4, none⟩] := vR rfl
/-! 46 slices.Grow[[]byte,byte] (params #[22, 3], results #[(.tmp 4)], 27 slots) -/
def r46_0 : List VOp :=
  [⟨some 4, .assign (.const (.slice none 0 0)), 22, none⟩]
def r46_1 : List VOp :=
  [mv 5 1 3,
   ⟨some 6, .binOp .lss 3 (.tmp 5) (.const (.int .i64 0)) 3, 4, none⟩]
def r46_2 : List VOp :=
  [⟨some 7, .makeInterface 9 (.const (.string { data := #[99, 97, 110, 110, 111, 116, 32, 98, 101, 32, 110, 101, 103, 97, 116, 105, 118, 101] })), 20, none⟩,
   ⟨none, .panic (.tmp 7), 0, none⟩]
def r46_3 : List VOp :=
  [mv 8 1 3,
   mv 9 0 22,
   ⟨some 10, .call ⟨.builtin .cap, #[.tmp 9], #[22]⟩, 3, none⟩,
   mv 11 0 22,
   ⟨some 12, .call ⟨.builtin .len, #[.tmp 11], #[22]⟩, 3, none⟩,
   ⟨some 13, .binOp .sub 3 (.tmp 10) (.tmp 12) 3, 3, none⟩,
   ⟨some 14, .binOp .sub 3 (.tmp 8) (.tmp 13) 3, 3, none⟩,
   asg 1 14 3]
def r46_4 : List VOp :=
  [mv 15 1 3,
   ⟨some 16, .binOp .gtr 3 (.tmp 15) (.const (.int .i64 0)) 3, 4, none⟩]
def r46_5 : List VOp :=
  [mv 17 0 22,
   mv 18 0 22,
   ⟨some 19, .call ⟨.builtin .cap, #[.tmp 18], #[22]⟩, 3, none⟩,
   ⟨some 20, .slice 22 (.tmp 17) none (some (.tmp 19)) none, 22, none⟩,
   mv 21 1 3,
   ⟨some 22, .call ⟨.builtin .append, #[.tmp 20, .tmp 21], #[22, 3]⟩, 22, none⟩,
   mv 23 0 22,
   ⟨some 24, .call ⟨.builtin .len, #[.tmp 23], #[22]⟩, 3, none⟩,
   ⟨some 25, .slice 22 (.tmp 22) none (some (.tmp 24)) none, 22, none⟩,
   asg 0 25 22]
def r46_6 : List VOp :=
  [mv 26 0 22,
   asg 4 26 22]
def B46 : VC :=
  (.seq (.region r46_0) (.seq (.seq (.region r46_1) (.cond (.tmp 6) (.region r46_2) .skip)) (.seq (.seq (.region r46_3) (.seq (.region r46_4) (.cond (.tmp 16) (.region r46_5) .skip))) (.seq (.region r46_6) .ret))))
theorem code46 : ∃ c, Try.f46.body = some c ∧ abs Try.f46.ntmps c = B46 := ⟨_, rfl, by kernel_rfl⟩
theorem hb46 : HasBody Try.prog 46 := hasBody_of Try.func46 (by kernel_rfl)
theorem res46 : Try.f46.results = #[(.tmp 4)] := rfl
theorem enter46 {w : World} {R : Value → World → Prop} (x0 x1 : Value) (h : vc Try.prog B46 (retK Try.prog #[(.tmp 4)] R) [] (initEnv [x0, x1] 0) w) : FnC Try.prog 46 #[x0, x1] w R := by
  obtain ⟨c, h1, h2⟩ := code46
  exact hb46.fn (ret_of_vc mixed Try.func46 h1 (Nat.le_of_ble_eq_true rfl) B46 h2 h)
@[push_cast] theorem vr46_0 : VR r46_0 [⟨some 4, .assign (.const (.slice none 0 0)), 22, none⟩] := vR rfl
@[push_cast] theorem vr46_1 : VR r46_1 [⟨some 5, .move (.tmp 1), 3, none⟩, ⟨some 6, .binOp .lss 3 (.tmp 5) (.const (.int .i64 0)) 3, 4, none⟩] := vR rfl
@[push_cast] theorem vr46_2 : VR r46_2 [⟨some 7, .makeInterface 9 (.const (.string { data := #[99, 97, 110, 110, 111, 116, 32, 98, 101, 32, 110, 101, 103, 97, 116, 105, 118, 101] })), 20, none⟩, ⟨none, .panic (.tmp 7), 0, none⟩] := vR rfl
@[push_cast] theorem vr46_3 : VR r46_3 [⟨some 8, .move (.tmp 1), 3, none⟩, ⟨some 9, .move (.tmp 0), 22, none⟩, ⟨some 10, .call ⟨.builtin .cap, #[.tmp 9], #[22]⟩, 3, none⟩, ⟨some 11, .move (.tmp 0), 22, none⟩, ⟨some 12, .call ⟨.builtin .len, #[.tmp 11], #[22]⟩, 3, none⟩, ⟨some 13, .binOp .sub 3 (.tmp 10) (.tmp 12) 3, 3, none⟩, ⟨some 14, .binOp .sub 3 (.tmp 8) (.tmp 13) 3, 3, none⟩, ⟨some 1, .assign (.tmp 14), 3, none⟩] := vR rfl
@[push_cast] theorem vr46_4 : VR r46_4 [⟨some 15, .move (.tmp 1), 3, none⟩, ⟨some 16, .binOp .gtr 3 (.tmp 15) (.const (.int .i64 0)) 3, 4, none⟩] := vR rfl
@[push_cast] theorem vr46_5 : VR r46_5 [⟨some 17, .move (.tmp 0), 22, none⟩, ⟨some 18, .move (.tmp 0), 22, none⟩, ⟨some 19, .call ⟨.builtin .cap, #[.tmp 18], #[22]⟩, 3, none⟩, ⟨some 20, .slice 22 (.tmp 17) none (some (.tmp 19)) none, 22, none⟩, ⟨some 21, .move (.tmp 1), 3, none⟩, ⟨some 22, .call ⟨.builtin .append, #[.tmp 20, .tmp 21], #[22, 3]⟩, 22, none⟩, ⟨some 23, .move (.tmp 0), 22, none⟩, ⟨some 24, .call ⟨.builtin .len, #[.tmp 23], #[22]⟩, 3, none⟩, ⟨some 25, .slice 22 (.tmp 22) none (some (.tmp 24)) none, 22, none⟩, ⟨some 0, .assign (.tmp 25), 22, none⟩] := vR rfl
@[push_cast] theorem vr46_6 : VR r46_6 [⟨some 26, .move (.tmp 0), 22, none⟩, ⟨some 4, .assign (.tmp 26), 22, none⟩] := vR rfl
/-! 56 columbary/vault.named$1 (params #[21], results #[(.tmp 2)], 6 slots) -/
def r56_0 : List VOp :=
  [⟨some 2, .assign (.const (.bool false)), 4, none⟩]
def r56_1 : List VOp :=
  [mv 3 0 21,
   ⟨some 4, .call { callee := (.value (.func 57)), args := #[(.const (.string { data := #[97, 98, 99, 100, 101, 102, 103, 104, 105, 106, 107, 108, 109, 110, 111, 112, 113, 114, 115, 116, 117, 118, 119, 120, 121, 122, 48, 49, 50, 51, 52, 53, 54, 55, 56, 57, 46] })), (.tmp 3)], argTypes := #[9, 21] }, 4, none⟩,
   ⟨some 5, .unOp .not 4 (.tmp 4), 4, none⟩,
   asg 2 5 4]
def B56 : VC :=
  (.seq (.region r56_0) (.seq (.region r56_1) .ret))
theorem code56 : ∃ c, Try.f56.body = some c ∧ abs Try.f56.ntmps c = B56 := ⟨_, rfl, by kernel_rfl⟩
theorem hb56 : HasBody Try.prog 56 := hasBody_of Try.func56 (by kernel_rfl)
theorem res56 : Try.f56.results = #[(.tmp 2)] := rfl
theorem enter56 {w : World} {R : Value → World → Prop} (x0 : Value) (h : vc Try.prog B56 (retK Try.prog #[(.tmp 2)] R) [] (initEnv [x0] 0) w) : FnC Try.prog 56 #[x0] w R := by
  obtain ⟨c, h1, h2⟩ := code56
  exact hb56.fn (ret_of_vc mixed Try.func56 h1 (Nat.le_of_ble_eq_true rfl) B56 h2 h)
@[push_cast] theorem vr56_0 : VR r56_0 [⟨some 2, .assign (.const (.bool false)), 4, none⟩] := vR rfl
@[push_cast] theorem vr56_1 : VR r56_1 [⟨some 3, .move (.tmp 0), 21, none⟩, ⟨some 4, .call { callee := (.value (.func 57)), args := #[(.const (.string { data := #[97, 98, 99, 100, 101, 102, 103, 104, 105, 106, 107, 108, 109, 110, 111, 112, 113, 114, 115, 116, 117, 118, 119, 120, 121, 122, 48, 49, 50, 51, 52, 53, 54, 55, 56, 57, 46] })), (.tmp 3)], argTypes := #[9, 21] }, 4, none⟩, ⟨some 5, .unOp .not 4 (.tmp 4), 4, none⟩, ⟨some 2, .assign (.tmp 5), 4, none⟩] := vR rfl
@[push_cast] theorem bsl22_0_CodesV {K : Value → World → Prop} {w : World}  : vBuildSlice Try.prog 22 0 #[] K w = K (.slice (some ⟨w.heap.size, 0, none⟩) 0 0) (w.alloc (.cells #[] 5)) :=
  vBuildSlice_ok Try.underlying22 ti5 (by kernel_rfl) (by decide)
@[push_cast] theorem bsl22_4_CodesV {K : Value → World → Prop} {w : World} (x0 : Int) (x1 : Int) (x2 : Int) (x3 : Int) : vBuildSlice Try.prog 22 4 #[(0, (.int .u8 x0)), (1, (.int .u8 x1)), (2, (.int .u8 x2)), (3, (.int .u8 x3))] K w = K (.slice (some ⟨w.heap.size, 0, none⟩) 4 4) (w.alloc (.cells #[(.int .u8 x0), (.int .u8 x1), (.int .u8 x2), (.int .u8 x3)] 5)) :=
  vBuildSlice_ok Try.underlying22 ti5 (by kernel_rfl) (by decide)
@[push_cast] theorem bsl78_2_CodesV {K : Value → World → Prop} {w : World} (x0o : Option Addr) (x0n x0c : Nat) (x1o : Option Addr) (x1n x1c : Nat) : vBuildSlice Try.prog 78 2 #[(0, (.slice x0o x0n x0c)), (1, (.slice x1o x1n x1c))] K w = K (.slice (some ⟨w.heap.size, 0, none⟩) 2 2) (w.alloc (.cells #[(.slice x0o x0n x0c), (.slice x1o x1n x1c)] 22)) :=
  vBuildSlice_ok Try.underlying78 ti22 (by kernel_rfl) (by decide)
@[push_cast] theorem bld57_0_1_2_CodesV {K : Value → World → Prop} {w : World} (x0 : Int) (x1 : Int) (x2 : Option Nat) : vBuild Try.prog 57 #[(0, (.int .i64 x0)), (1, (.int .i64 x1)), (2, (.map x2))] K w = K (.agg #[(.int .i64 x0), (.int .i64 x1), (.map x2)]) w :=
  vBuild_ok (by kernel_rfl)
@[push_cast] theorem bld61_0_1_CodesV {K : Value → World → Prop} {w : World} (x0o : Option Addr) (x0n x0c : Nat) (x1 : Int) : vBuild Try.prog 61 #[(0, (.slice x0o x0n x0c)), (1, (.int .i64 x1))] K w = K (.agg #[(.slice x0o x0n x0c), (.int .i64 x1)]) w :=
  vBuild_ok (by kernel_rfl)
end Go.Proofs.Ytmfcnooleejgmaa
end
section
set_option linter.unusedSimpArgs false
namespace Go.Vlt
open Go Go.Vc
/-- A file, and where its bytes lie. -/
structure VE where
  name : ByteArray
  b : List UInt8
  safe : Nat
  sv : Value
  born : Nat
def VE.ent (e : VE) : Ent := (e.name, .agg #[e.sv, .int .i64 e.safe], e.born)
/-- A slice that is empty, or lies in a block of elements of the type E. -/
def InT (E : TypeId) (w : World) : Value → Prop
  | .slice (some a) n _ => n = 0 ∨ ∃ cs, Blk w a.block cs E
  | _ => True
theorem InT.of_own {E : TypeId} {w : World} {B s n : Nat} {v : Value} {xs : List Value} (h : w.ownsRow B E s v n xs) : InT E w v := by
  obtain ⟨_, h⟩ := h
  rcases h with ⟨rfl, _⟩ | ⟨g, cap, cur, rfl, hb, hh, _⟩
  · trivial
  · exact .inr ⟨cur, hh⟩
theorem fresh_nat : ∀ ks : List Nat, ∃ n, ∀ k ∈ ks, k < n
  | [] => ⟨0, by simp⟩
  | a :: ks => by
    obtain ⟨n, hn⟩ := fresh_nat ks
    refine ⟨n + a + 1, fun k hk => ?_⟩
    rcases List.mem_cons.1 hk with rfl | hk
    · omega
    · have := hn k hk; omega
theorem InT.at_ {E : TypeId} {w : World} {v : Value} {ks : List Nat} (h : InT E w v) (hk : ∀ k ∈ ks, ∀ cs, ¬ Blk w k cs E) : ∃ j, inB j v ∧ j ∉ ks := by
  obtain ⟨n, hn⟩ := fresh_nat ks
  have hnn : n ∉ ks := fun hm => by have := hn n hm; omega
  unfold InT at h
  split at h
  · rename_i a m c
    rcases h with rfl | ⟨cs, hb⟩
    · exact ⟨n, .inl rfl, hnn⟩
    · exact ⟨a.block, .inr rfl, fun hm => hk _ hm cs hb⟩
  · rename_i hno
    refine ⟨n, ?_, hnn⟩
    unfold inB
    split
    · rename_i a m c
      exact absurd rfl (hno a m c)
    · trivial
theorem InT.chg {E : TypeId} {w w' : World} {v : Value} {ks : List Nat} (h : InT E w v) (g : Chg w w' ks) (hk : ∀ k ∈ ks, ∀ cs, ¬ Blk w k cs E) : InT E w' v := by
  unfold InT at h ⊢
  split
  · rename_i a m c
    simp only at h
    rcases h with rfl | ⟨cs, hb⟩
    · exact .inl rfl
    · exact .inr ⟨cs, hb.chg g fun hm => hk _ hm cs hb⟩
  · trivial
theorem InT.later {E : TypeId} {w w' : World} {v : Value} (h : InT E w v) (hl : Later w w') : InT E w' v := h.chg (Chg.of_later (ks := []) hl) (by simp)
structure VE.Ok (E : TypeId) (w : World) (e : VE) : Prop where
  sl : Sl w e.sv (e.b.map u8v)
  u8 : InT E w e.sv
  safe : e.safe ≤ e.b.length
theorem VE.Ok.chg {E : TypeId} {w w' : World} {e : VE} {ks : List Nat} (h : e.Ok E w) (g : Chg w w' ks) (hk : ∀ k ∈ ks, ∀ cs, ¬ Blk w k cs E) : e.Ok E w' := by
  obtain ⟨j, j1, j2⟩ := h.u8.at_ hk
  exact ⟨Sl.chg h.sl g j2 j1, h.u8.chg g hk, h.safe⟩
/-- A vault: its box, its map, its files. -/
structure VIs (T E : TypeId) (w : World) (bk r : Nat) (room fuse : Int) (es : List VE) (c : Nat) : Prop where
  te : T ≠ E
  blk : Blk w bk #[.int .i64 room, .int .i64 fuse, .map (some r)] T
  map : MapB w r (es.map VE.ent) c
  apart : es.Pairwise fun x y => x.name ≠ y.name
  born : ∀ e ∈ es, e.born < c
  nodup : (es.map VE.born).Nodup
  ok : ∀ e ∈ es, e.Ok E w
theorem VIs.ne {T E : TypeId} {w : World} {bk r : Nat} {room fuse : Int} {es : List VE} {c : Nat} (h : VIs T E w bk r room fuse es c) : bk ≠ r := by
  rintro rfl
  have h1 := h.blk
  have h2 := h.map
  unfold Blk at h1
  unfold MapB at h2
  rw [h1] at h2
  cases h2
theorem VIs.box {T E : TypeId} {w : World} {bk r : Nat} {room fuse : Int} {es : List VE} {c : Nat} (h : VIs T E w bk r room fuse es c) : ∀ cs, ¬ Blk w bk cs E := fun cs hb => by
  have h1 := h.blk
  unfold Blk at h1 hb
  rw [h1] at hb
  simp only [Option.some.injEq, Obj.cells.injEq] at hb
  exact h.te hb.2.1
theorem VIs.mapb {T E : TypeId} {w : World} {bk r : Nat} {room fuse : Int} {es : List VE} {c : Nat} (h : VIs T E w bk r room fuse es c) : ∀ t cs, ¬ Blk w r cs t := fun t cs hb => by
  have h1 := h.map
  unfold MapB at h1
  unfold Blk at hb
  rw [h1] at hb
  cases hb
theorem chg_setB {w : World} {r : Nat} {ks : List Nat} (hk : r ∈ ks) (o : Obj) : Chg w (setB w r o) ks := by
  obtain ⟨a, b, c, d, e⟩ := chg_setB' (w := w) (r := r) o
  exact ⟨a, b, c, Nat.le_of_eq d.symm, fun k _ hn => e k fun h => hn (h ▸ hk)⟩
theorem VIs.chg {T E : TypeId} {w w' : World} {bk r : Nat} {room fuse : Int} {es : List VE} {c : Nat} {ks : List Nat} (h : VIs T E w bk r room fuse es c) (g : Chg w w' ks) (hb : bk ∉ ks) (hr : r ∉ ks) (hk : ∀ k ∈ ks, ∀ cs, ¬ Blk w k cs E) : VIs T E w' bk r room fuse es c :=
  ⟨h.te, h.blk.chg g hb, (g.block r (Array.getElem?_eq_some_iff.1 h.map).1 hr).trans h.map, h.apart, h.born, h.nodup, fun e he => (h.ok e he).chg g hk⟩
theorem VIs.later {T E : TypeId} {w w' : World} {bk r : Nat} {room fuse : Int} {es : List VE} {c : Nat} (h : VIs T E w bk r room fuse es c) (hl : Later w w') : VIs T E w' bk r room fuse es c :=
  h.chg (Chg.of_later (ks := []) hl) (by simp) (by simp) (by simp)
/-- A vault's box turned at its fuse. -/
theorem VIs.fuse {T E : TypeId} {w : World} {bk r : Nat} {room fuse : Int} {es : List VE} {c : Nat} (h : VIs T E w bk r room fuse es c) (n : Int) : VIs T E (w.setCell ⟨bk, 1, none⟩ (.int .i64 n)) bk r room n es c := by
  have c2 := chg_setCell (i := 1) w (ks := [bk]) (k := bk) (by simp) (.int .i64 n)
  exact ⟨h.te, h.blk.set 1 (.int .i64 n), (c2.block r (Array.getElem?_eq_some_iff.1 h.map).1 (by simpa using h.ne.symm)).trans h.map, h.apart, h.born, h.nodup, fun e he => (h.ok e he).chg c2 fun k hk => by rw [List.mem_singleton.1 hk]; exact h.box⟩
end Go.Vlt
namespace Go.Proofs.Ytmfcnooleejgmaa
open Go.Vc Go.Vlt
set_option maxRecDepth 100000
abbrev Vt (w : World) (bk r : Nat) (room fuse : Int) (es : List VE) (c : Nat) : Prop := VIs 57 5 w bk r room fuse es c
theorem new_c (room : Int) (w : World) (h : -9223372036854775808 ≤ room ∧ room ≤ 9223372036854775807) : FnC Try.prog 9 #[.int .i64 room] w fun v w' => ((v = .tuple #[.pointer none, .int .i64 1] ∧ ¬ (0 ≤ room ∧ room ≤ 16777216)) ∨ (0 ≤ room ∧ room ≤ 16777216 ∧ ∃ bk r, w.heap.size ≤ bk ∧ w.heap.size ≤ r ∧ v = .tuple #[.pointer (some ⟨bk, 0, none⟩), .int .i64 0] ∧ Vt w' bk r room (-1) [] 0)) ∧ Later w w' := by
  refine enter9 _ ?_
  unfold B9
  by_cases h1 : room < 0
  · have hd := decide_eq_true h1
    repeat' (first | (simp (disch := omega) only [push_cast, ↓reduceIte, zA, zG, zB, zH, zI, zC, zJ, zK, zL, zD, zE, zF, zM, zN, zO, zP, zQ, reduceCtorEq, not_true_eq_false, not_false_eq_true, hd]) | (first | refine vIfE_of ?_ ?_ | refine vIfD_of ?_ ?_ | refine vIfQ_of ?_ ?_ | refine vIfV_of ?_ ?_) <;> intro _ | refine And.intro (by omega) ?_ | refine drawn_q ?_ | fail)
    first | exact Later.refl _ | exact ⟨.inl ⟨rfl, by omega⟩, Later.refl _⟩
  by_cases h2 : 16777216 < room
  · have hd := decide_eq_false h1
    have hd2 := decide_eq_true h2
    repeat' (first | (simp (disch := omega) only [push_cast, ↓reduceIte, zA, zG, zB, zH, zI, zC, zJ, zK, zL, zD, zE, zF, zM, zN, zO, zP, zQ, reduceCtorEq, not_true_eq_false, not_false_eq_true, hd, hd2]) | (first | refine vIfE_of ?_ ?_ | refine vIfD_of ?_ ?_ | refine vIfQ_of ?_ ?_ | refine vIfV_of ?_ ?_) <;> intro _ | refine And.intro (by omega) ?_ | refine drawn_q ?_ | fail)
    first | exact Later.refl _ | exact ⟨.inl ⟨rfl, by omega⟩, Later.refl _⟩
  have hd := decide_eq_false h1
  have hd2 := decide_eq_false h2
  repeat' (first | (simp (disch := omega) only [push_cast, ↓reduceIte, zA, zG, zB, zH, zI, zC, zJ, zK, zL, zD, zE, zF, zM, zN, zO, zP, zQ, reduceCtorEq, not_true_eq_false, not_false_eq_true, hd, hd2]) | (first | refine vIfE_of ?_ ?_ | refine vIfD_of ?_ ?_ | refine vIfQ_of ?_ ?_ | refine vIfV_of ?_ ?_) <;> intro _ | refine And.intro (by omega) ?_ | refine drawn_q ?_ | fail)
  have l1 := later_alloc w (.map #[] 0)
  have hm : (w.alloc (.map #[] 0)).heap[w.heap.size]? = some (.map #[] 0) := heap_new w _
  have hw1 : w.heap.size < (w.alloc (.map #[] 0)).heap.size := (Array.getElem?_eq_some_iff.1 hm).1
  generalize w.alloc (.map #[] 0) = w1 at *
  have l2 := later_alloc w1 (.cells #[.int .i64 room, .int .i64 (-1), .map (some w.heap.size)] 57)
  have hV : Vt (w1.alloc (.cells #[.int .i64 room, .int .i64 (-1), .map (some w.heap.size)] 57)) w1.heap.size w.heap.size room (-1) [] 0 :=
    ⟨by decide, Blk.new _ _ _, (heap_alloc hw1 _).trans hm, List.Pairwise.nil, by simp, List.nodup_nil, by simp⟩
  exact ⟨.inr ⟨by omega, by omega, _, _, l1.size, Nat.le_refl _, rfl, hV⟩, l1.trans l2⟩
theorem burns_c (bk r : Nat) (room fuse : Int) (es : List VE) (c : Nat) (w : World) (h : Vt w bk r room fuse es c) (hf : -1 ≤ fuse ∧ fuse ≤ 9223372036854775807) : FnC Try.prog 32 #[.pointer (some ⟨bk, 0, none⟩)] w fun v w' => (∃ f, f = (if 0 < fuse then fuse - 1 else fuse) ∧ v = .int .i64 (if f = 0 then 272 else 0) ∧ Vt w' bk r room f es c) ∧ Chg w w' [bk] := by
  refine enter32 _ ?_
  unfold B32
  have f1 : w.cell? ⟨bk, 1, none⟩ = some (.int .i64 fuse) := h.blk.cell 1
  have hfz := h.blk.frozen 1
  by_cases h0 : 0 < fuse
  · have hd := decide_eq_true h0
    have hce : ∃ y, w.cell? ⟨bk, 1, none⟩ = some y := ⟨_, f1⟩
    have B2 := h.blk.set 1 (.int .i64 (fuse - 1))
    have c2 := chg_setCell (i := 1) w (ks := [bk]) (k := bk) (by simp) (.int .i64 (fuse - 1))
    have hV : Vt (w.setCell ⟨bk, 1, none⟩ (.int .i64 (fuse - 1))) bk r room (fuse - 1) es c := h.fuse _
    have f2 : (w.setCell ⟨bk, 1, none⟩ (.int .i64 (fuse - 1))).cell? ⟨bk, 1, none⟩ = some (.int .i64 (fuse - 1)) := B2.cell 1
    repeat' (first | (simp (disch := omega) only [push_cast, ↓reduceIte, zA, zG, zB, zH, zI, zC, zJ, zK, zL, zD, zE, zF, zM, zN, zO, zP, zQ, reduceCtorEq, not_true_eq_false, not_false_eq_true, f1, hd, addr_add_eq, Nat.zero_add]) | (first | refine vIfE_of ?_ ?_ | refine vIfD_of ?_ ?_ | refine vIfQ_of ?_ ?_ | refine vIfV_of ?_ ?_) <;> intro _ | refine And.intro (by omega) ?_ | refine drawn_q ?_ | fail)
    refine ⟨⟨_, rfl⟩, hfz, ?_⟩
    generalize w.setCell ⟨bk, 1, none⟩ (.int .i64 (fuse - 1)) = w2 at *
    by_cases h1 : fuse - 1 = 0
    · have hd1 := decide_eq_true h1
      repeat' (first | (simp (disch := omega) only [push_cast, ↓reduceIte, zA, zG, zB, zH, zI, zC, zJ, zK, zL, zD, zE, zF, zM, zN, zO, zP, zQ, reduceCtorEq, not_true_eq_false, not_false_eq_true, f2, hd1, addr_add_eq, Nat.zero_add]) | (first | refine vIfE_of ?_ ?_ | refine vIfD_of ?_ ?_ | refine vIfQ_of ?_ ?_ | refine vIfV_of ?_ ?_) <;> intro _ | refine And.intro (by omega) ?_ | refine drawn_q ?_ | fail)
      first | exact ⟨⟨_, by rw [if_pos h0], by rw [if_pos h1], hV⟩, c2⟩ | skip
    · have hd1 := decide_eq_false h1
      repeat' (first | (simp (disch := omega) only [push_cast, ↓reduceIte, zA, zG, zB, zH, zI, zC, zJ, zK, zL, zD, zE, zF, zM, zN, zO, zP, zQ, reduceCtorEq, not_true_eq_false, not_false_eq_true, f2, hd1, addr_add_eq, Nat.zero_add]) | (first | refine vIfE_of ?_ ?_ | refine vIfD_of ?_ ?_ | refine vIfQ_of ?_ ?_ | refine vIfV_of ?_ ?_) <;> intro _ | refine And.intro (by omega) ?_ | refine drawn_q ?_ | fail)
      first | exact ⟨⟨_, by rw [if_pos h0], by rw [if_neg h1], hV⟩, c2⟩ | skip
  · have hd := decide_eq_false h0
    by_cases h1 : fuse = 0
    · have hd1 := decide_eq_true h1
      repeat' (first | (simp (disch := omega) only [push_cast, ↓reduceIte, zA, zG, zB, zH, zI, zC, zJ, zK, zL, zD, zE, zF, zM, zN, zO, zP, zQ, reduceCtorEq, not_true_eq_false, not_false_eq_true, f1, hd, hd1, addr_add_eq, Nat.zero_add]) | (first | refine vIfE_of ?_ ?_ | refine vIfD_of ?_ ?_ | refine vIfQ_of ?_ ?_ | refine vIfV_of ?_ ?_) <;> intro _ | refine And.intro (by omega) ?_ | refine drawn_q ?_ | fail)
      exact ⟨⟨fuse, by rw [if_neg h0], by rw [if_pos h1], h⟩, Chg.refl _ _⟩
    · have hd1 := decide_eq_false h1
      repeat' (first | (simp (disch := omega) only [push_cast, ↓reduceIte, zA, zG, zB, zH, zI, zC, zJ, zK, zL, zD, zE, zF, zM, zN, zO, zP, zQ, reduceCtorEq, not_true_eq_false, not_false_eq_true, f1, hd, hd1, addr_add_eq, Nat.zero_add]) | (first | refine vIfE_of ?_ ?_ | refine vIfD_of ?_ ?_ | refine vIfQ_of ?_ ?_ | refine vIfV_of ?_ ?_) <;> intro _ | refine And.intro (by omega) ?_ | refine drawn_q ?_ | fail)
      exact ⟨⟨fuse, by rw [if_neg h0], by rw [if_neg h1], h⟩, Chg.refl _ _⟩
end Go.Proofs.Ytmfcnooleejgmaa
end
section
namespace Go.Vc
open Go.RowKit
section
variable {P : Program} {w : World} {K : Value → World → Prop} {t e : TypeId} {z : Value} {b : Nat}
theorem madeCells_one (z : Value) (n : Nat) : madeCells #[z] n = (List.replicate n z).toArray := by
  apply Array.ext
  · simp [madeCells]
  · intro i h1 h2
    have e0 : i % 1 = 0 := Nat.mod_one i
    simp [madeCells, e0]
/-- make([]T, n) of one cell each: the block behind the heap. -/
theorem vMakeSlice_ok (ht : P.underlying t = some (.slice e)) (hi : (P.info? e).map (fun i => (i.zero, i.size, i.bytes)) = some (some z, 1, b)) (hz : z.cells = #[z]) {n : Nat} (hb : b * n ≤ 281474976710656) (h63 : n ≤ maxLen)
    (hK : K (.slice (some ⟨w.heap.size, 0, none⟩) n n) (w.alloc (.cells (List.replicate n z).toArray e))) : vMakeSlice P t (.int .i64 n) (.int .i64 n) K w := by
  obtain ⟨i, hi1, hz1, hsi, hbi⟩ := info_parts hi
  unfold maxLen at h63
  have hb' : (i.bytes : Int) * (n : Int) ≤ 281474976710656 := by
    have h : ((i.bytes * n : Nat) : Int) ≤ 281474976710656 := by rw [hbi]; omega
    rwa [Int.natCast_mul] at h
  have hr := run_make (P := P) w t e i z ht hi1 hz1 .i64 .i64 (n : Int) (n : Int) (by omega) (by omega) hb' (by omega)
  rw [hsi, hz, Nat.mul_one, madeCells_one] at hr
  simp only [Int.toNat_natCast] at hr
  unfold vMakeSlice
  rw [run_val_pure hr]; exact hK
end
/-- A slice that begins a block of the same number of cells. -/
theorem Sl.of_blk {w : World} {k n : Nat} {xs : List Value} {e : TypeId} (h : Blk w k xs.toArray e) (hn : n = xs.length) (hm : n ≤ maxLen) : Sl w (.slice (some ⟨k, 0, none⟩) n n) xs := by
  subst hn
  refine SlN.mk (by simp) (Nat.le_refl _) hm (fun h => by cases h) ?_
  intro a ha i x hx
  simp only [Option.some.injEq] at ha
  subst ha
  rw [addr_add_eq, Nat.zero_add, h.cell]
  simpa using hx
theorem Blk.setL {w : World} {k i : Nat} {xs : List Value} {e : TypeId} (h : Blk w k xs.toArray e) (v : Value) : Blk (w.setCell ⟨k, i, none⟩ v) k (xs.set i v).toArray e := by
  have := h.set i v
  simpa using this
/-! ### a block that is new, of one cell: looked at, written -/
section
variable {w : World} {e : TypeId}
@[push_cast] theorem cell_new1 (z : Value) : (w.alloc (.cells #[z] e)).cell? ⟨w.heap.size, 0, none⟩ = some z := (Blk.new w #[z] e).cell 0
@[push_cast] theorem frozen_new (cs : Array Value) (i : Nat) : (w.alloc (.cells cs e)).frozen? ⟨w.heap.size, i, none⟩ = false := (Blk.new w cs e).frozen i
@[push_cast] theorem set_new1 (z v : Value) : (w.alloc (.cells #[z] e)).setCell ⟨w.heap.size, 0, none⟩ v = w.alloc (.cells #[v] e) := by
  show World.setCell { w with heap := w.heap.push _ } _ _ = { w with heap := w.heap.push _ }
  simp only [World.setCell]
  congr 1
  apply Array.ext_getElem?
  intro i
  simp only [Array.getElem?_modify, Array.getElem?_push]
  by_cases h : i = w.heap.size
  · subst h; simp
  · rw [if_neg h, if_neg (fun e => h e.symm), if_neg h]
@[push_cast] theorem ex_some (z : Value) : (∃ y, some z = some y) = True := by simp
@[push_cast] theorem tr_and (p : Prop) : (True ∧ p) = p := by simp
end
/-- A number of 64 bits. -/
def u64v (c : UInt64) : Value := .int .u64 c.toNat
/-- A slice that a call owns, as numbers. -/
def OwnW (w : World) (B : Nat) (e : TypeId) (v : Value) (l : List UInt64) : Prop := w.ownsRow B e 1 v l.length (l.map u64v)
theorem OwnW.sl {w : World} {B : Nat} {e : TypeId} {v : Value} {l : List UInt64} (h : OwnW w B e v l) : Sl w v (l.map u64v) := Sl.of_own h
theorem OwnW.later {w w' : World} {B : Nat} {e : TypeId} {v : Value} {l : List UInt64} (h : OwnW w B e v l) (hl : Later w w') : OwnW w' B e v l := own_later h hl
theorem OwnW.base {w : World} {B B' : Nat} {e : TypeId} {v : Value} {l : List UInt64} (h : OwnW w B e v l) (hb : B' ≤ B) : OwnW w B' e v l := own_base h hb
theorem OwnW.slice {w : World} {B : Nat} {e : TypeId} {v : Value} {l : List UInt64} (h : OwnW w B e v l) : ∃ o c, v = .slice o l.length c := by
  obtain ⟨o, c, hv, _⟩ := h.sl.open
  exact ⟨o, c, by simpa using hv⟩
theorem Sl.openM {α : Type} {f : α → Value} {w : World} {v : Value} {l : List α} (h : Sl w v (l.map f)) : ∃ o c, v = .slice o l.length c ∧ l.length ≤ c ∧ c ≤ 9223372036854775807 ∧ Sl w (.slice o l.length c) (l.map f) ∧ (o = none → l = [] ∧ c = 0) := by
  have h' := h
  obtain ⟨o, c, rfl, h1, h2, h3, _⟩ := h.open
  simp only [List.length_map] at h1 h'
  refine ⟨o, c, by simp, h1, by simpa [maxLen] using h2, h', fun ho => ⟨by simpa using (h3 ho).1, (h3 ho).2⟩⟩
theorem take_snoc {α : Type} (l : List α) (i : Nat) (h : i < l.length) : l.take (i + 1) = l.take i ++ [l[i]] := by
  rw [List.take_add_one, List.getElem?_eq_getElem h]; rfl
theorem Sl.some {α : Type} {f : α → Value} {w : World} {o : Option Addr} {l : List α} {n c : Nat} (h : Sl w (.slice o n c) (l.map f)) {i : Nat} (hi : i < l.length) : ∃ a, o = Option.some a := by
  cases o with
  | none => have := (h.len.2.2.2 rfl).1; simp at this; subst this; simp at hi
  | some a => exact ⟨a, rfl⟩
theorem list_splice {l : List Value} {i : Nat} {x : Value} {xs : List Value} (h : i < l.length) : (l.set i x).take (i + 1) ++ xs ++ (l.set i x).drop (i + 1 + xs.length) = l.take i ++ x :: xs ++ l.drop (i + (xs.length + 1)) := by
  have e1 : (l.set i x).take (i + 1) = l.take i ++ [x] := by
    rw [List.take_add_one, List.getElem?_set_self h, List.take_set_of_le (Nat.le_refl _)]; rfl
  have e2 : (l.set i x).drop (i + 1 + xs.length) = l.drop (i + (xs.length + 1)) := by
    rw [List.drop_set_of_lt (by omega)]; congr 1; omega
  rw [e1, e2]; simp
/-- Cells that are stored side by side in a block. -/
theorem storeAll_blk {k : Nat} {e : TypeId} : ∀ (xs : List Value) (i : Nat) (w : World) (l : List Value), Blk w k l.toArray e → i + xs.length ≤ l.length →
    canAll w ⟨k, i, none⟩ xs ∧ Blk (storeAll w ⟨k, i, none⟩ xs) k (l.take i ++ xs ++ l.drop (i + xs.length)).toArray e ∧ Chg w (storeAll w ⟨k, i, none⟩ xs) [k]
  | [], i, w, l, h, hl => by
    refine ⟨trivial, ?_, Chg.refl _ _⟩
    simpa [storeAll] using h
  | x :: xs, i, w, l, h, hl => by
    simp only [List.length_cons] at hl
    have h1 := h.setL (i := i) x
    have g1 := chg_setCell w (i := i) (ks := [k]) (k := k) (by simp) x
    obtain ⟨c2, b2, g2⟩ := storeAll_blk xs (i + 1) (w.setCell ⟨k, i, none⟩ x) (l.set i x) h1 (by simp; omega)
    have ea : (⟨k, i, none⟩ : Addr).add 1 = ⟨k, i + 1, none⟩ := addr_add_eq k i 1
    have hcan : ∀ (ys : List Value) (j : Nat) (w : World) (l : List Value), Blk w k l.toArray e → j + ys.length ≤ l.length → canAll w ⟨k, j, none⟩ ys := by
      intro ys
      induction ys with
      | nil => intro j w l _ _; trivial
      | cons y ys ih =>
        intro j w l h hl
        simp only [List.length_cons] at hl
        refine ⟨?_, h.frozen j, ?_⟩
        · rw [h.cell]; exact ⟨l[j]'(by omega), by simp⟩
        · rw [addr_add_eq]; exact ih (j + 1) w l h (by omega)
    refine ⟨hcan (x :: xs) i w l h (by simp; omega), ?_, ?_⟩
    · show Blk (storeAll (w.setCell ⟨k, i, none⟩ x) ((⟨k, i, none⟩ : Addr).add 1) xs) k _ e
      rw [ea]
      have := b2
      rw [list_splice (by omega)] at this
      exact this
    · show Chg w (storeAll (w.setCell ⟨k, i, none⟩ x) ((⟨k, i, none⟩ : Addr).add 1) xs) [k]
      rw [ea]; exact g1.trans g2
/-- An aggregate that is stored in a block of its size. -/
theorem vStore_blk {P : Program} {w : World} {K : Value → World → Prop} {t e : TypeId} {k s : Nat} {l xs : List Value} (h : Blk w k l.toArray e) (hl : l.length = s) (hx : xs.length = s) (h1 : ∀ u ∈ xs, u.oneCell' = true)
    (hK : ∀ w', Blk w' k xs.toArray e → Chg w w' [k] → K undef w') : vStoreD P t (some s) (.pointer (some ⟨k, 0, none⟩)) (.agg xs.toArray) K w := by
  obtain ⟨c, b, g⟩ := storeAll_blk xs 0 w l h (by omega)
  refine ⟨by simp [Value.cells, hx], by simpa [Value.cells] using h1, by simpa [Value.cells] using c, hK _ ?_ (by simpa [Value.cells] using g)⟩
  have e : (l.take 0 ++ xs ++ l.drop (0 + xs.length)) = xs := by simp [hx, hl]
  rw [e] at b
  simpa [Value.cells] using b
theorem Blk.cellsAt {w : World} {k : Nat} {l : List Value} {e : TypeId} (h : Blk w k l.toArray e) : cellsAt w ⟨k, 0, none⟩ l.length = some l := by
  refine cellsAt_of _ _ l rfl fun i x hx => ?_
  rw [addr_add_eq, Nat.zero_add, h.cell]; simpa using hx
/-- A literal's row in a region that draws its order: a new block, whichever. -/
def RowV (w0 : World) (e : TypeId) (cs : Array Value) (n : Nat) (x : Value) (w : World) : Prop := ∃ b, x = .slice (some ⟨b, 0, none⟩) n n ∧ w0.heap.size ≤ b ∧ Blk w b cs e
theorem RowV.new {w0 w : World} (h : Later w0 w) (e : TypeId) (cs : Array Value) (n : Nat) : Later w (w.alloc (.cells cs e)) ∧ RowV w0 e cs n (.slice (some ⟨w.heap.size, 0, none⟩) n n) (w.alloc (.cells cs e)) :=
  ⟨later_alloc _ _, w.heap.size, rfl, h.size, Blk.new _ _ _⟩
theorem RowV.sl {w0 w : World} {e : TypeId} {l : List Value} {n : Nat} {x : Value} (h : RowV w0 e l.toArray n x w) (hn : n = l.length) (hm : n ≤ maxLen) : Sl w x l := by
  obtain ⟨b, rfl, _, hb⟩ := h
  exact Sl.of_blk hb hn hm
end Go.Vc
end
section
namespace Go.Vc
open Go.RowKit
/-- Lists of bytes, read. -/
def LL (w : World) (v : Value) (ls : List (List UInt8)) : Prop := ∃ vs, Sl w v vs ∧ vs.length = ls.length ∧ ∀ (i : Nat) (x : Value) (l : List UInt8), vs[i]? = some x → ls[i]? = some l → Sl w x (l.map u8v)
theorem LL.later {w w' : World} {v : Value} {ls : List (List UInt8)} (h : LL w v ls) (hl : Later w w') : LL w' v ls := by
  obtain ⟨vs, h1, h2, h3⟩ := h
  exact ⟨vs, h1.later hl, h2, fun i x l hx hl' => (h3 i x l hx hl').later hl⟩
theorem LL.slice {w : World} {v : Value} {ls : List (List UInt8)} (h : LL w v ls) : ∃ o c, v = .slice o ls.length c ∧ ls.length ≤ c ∧ c ≤ 9223372036854775807 := by
  obtain ⟨vs, h1, h2, h3⟩ := h
  obtain ⟨o, c, hv, h4, h5, _⟩ := h1.open
  exact ⟨o, c, by rw [← h2]; exact hv, by omega, by unfold maxLen at h5; omega⟩
/-- One of them. -/
theorem LL.at {w : World} {o : Option Addr} {n c : Nat} {ls : List (List UInt8)} (h : LL w (.slice o n c) ls) {i : Nat} (hi : i < ls.length) : ∃ a x, o = some a ∧ w.cell? (a.add i) = some x ∧ Sl w x (ls[i].map u8v) := by
  obtain ⟨vs, h1, h2, h3⟩ := h
  have hv : vs[i]? = some (vs[i]'(by omega)) := List.getElem?_eq_getElem (by omega)
  cases o with
  | none => have := (h1.len.2.2.2 rfl).1; subst this; simp at h2; omega
  | some a => exact ⟨a, vs[i]'(by omega), rfl, h1.at hv, h3 i _ _ hv (List.getElem?_eq_getElem hi)⟩
theorem LL.pre {w : World} {o : Option Addr} {n c : Nat} {ls : List (List UInt8)} (h : LL w (.slice o n c) ls) {k : Nat} (hk : k ≤ n) : LL w (.slice o k c) (ls.take k) := by
  obtain ⟨vs, h1, h2, h3⟩ := h
  have hn := h1.len.1
  refine ⟨vs.take k, h1.pre hk, by simp; omega, fun i x l hx hl => ?_⟩
  rw [List.getElem?_take] at hx hl
  split at hx
  · rename_i hi; rw [if_pos hi] at hl; exact h3 i x l hx hl
  · cases hx
theorem LL.nil (w : World) : LL w (.slice none 0 0) [] := ⟨[], Sl.nil w, rfl, fun i x l hx _ => by simp at hx⟩
/-- Lists of bytes whose row the call owns; each of them is as Q says. -/
def LLo (Q : World → Value → List UInt8 → Prop) (w : World) (B : Nat) (e : TypeId) (v : Value) (ls : List (List UInt8)) : Prop :=
  ∃ vs, w.ownsRow B e 1 v ls.length vs ∧ ∀ (i : Nat) (x : Value) (l : List UInt8), vs[i]? = some x → ls[i]? = some l → Q w x l
theorem LLo.len {Q : World → Value → List UInt8 → Prop} {w : World} {B : Nat} {e : TypeId} {v : Value} {ls : List (List UInt8)} (h : LLo Q w B e v ls) : ∃ o c, v = .slice o ls.length c := by
  obtain ⟨vs, h1, _⟩ := h
  have hn := own_n h1
  obtain ⟨o, c, hv, _⟩ := (Sl.of_own h1).open
  exact ⟨o, c, by rw [hn]; exact hv⟩
theorem LLo.nil (Q : World → Value → List UInt8 → Prop) (w : World) (B : Nat) (e : TypeId) : LLo Q w B e (.slice none 0 0) [] := ⟨[], own_nil _ _ _ _, fun i x l hx _ => by simp at hx⟩
theorem LLo.mono {Q Q' : World → Value → List UInt8 → Prop} {w w' : World} {B : Nat} {e : TypeId} {v : Value} {ls : List (List UInt8)} (h : LLo Q w B e v ls) (hl : Later w w') (hQ : ∀ x l, Q w x l → Q' w' x l) : LLo Q' w' B e v ls := by
  obtain ⟨vs, h1, h2⟩ := h
  exact ⟨vs, own_later h1 hl, fun i x l hx hl => hQ _ _ (h2 i x l hx hl)⟩
/-- A constant's bytes: a literal's row, marked. -/
theorem vConv_const {P : Program} {w : World} {K : Value → World → Prop} {t e : TypeId} {C : Array Value} {n c : Nat} (ht : P.underlying t = some (.slice e)) (he : P.underlying e = some (.int .u8))
    (hk : K (.slice (some ⟨w.heap.size, 0, none⟩) n c) (w.alloc (.cells C e (C.size, C.size + 1)))) : vConvD P t t (some (.slice e)) (some (.slice e)) (.slice (some ⟨w.heap.size, 0, none⟩) n c) K (w.alloc (.cells C e)) := by
  show vcUp P K ((val (convert t t (.slice (some ⟨w.heap.size, 0, none⟩) n c))).run P (w.alloc (.cells C e)))
  rw [run_val_pure (Lib.run_convert_bytes_const w t e C n c ht he)]; exact hk
theorem Sl.litM (w : World) (l : List Value) (e : TypeId) (f : Nat × Nat) (hn : l.length ≤ maxLen) : Sl (w.alloc (.cells l.toArray e f)) (.slice (Option.some ⟨w.heap.size, 0, none⟩) l.length l.length) l := by
  refine SlN.mk (by simp) (Nat.le_refl _) hn (fun h => by cases h) ?_
  intro a ha i x hx
  simp only [Option.some.injEq] at ha
  subst ha
  rw [addr_add_eq, Nat.zero_add]
  have : (w.alloc (.cells l.toArray e f)).heap[w.heap.size]? = Option.some (.cells l.toArray e f) := heap_new w _
  simp only [World.cell?, this]
  simpa using hx
end Go.Vc
end
section
namespace Go.Vc
open Go.RowKit
theorem flatten_get {s : Nat} : ∀ (rows : List (List Value)), (∀ r ∈ rows, r.length = s) → ∀ (k j : Nat) (r : List Value) (x : Value), rows[k]? = some r → r[j]? = some x → rows.flatten[k * s + j]? = some x
  | [], _, k, j, r, x, h, _ => by simp at h
  | q :: rows, hl, 0, j, r, x, h, hx => by
    simp only [List.getElem?_cons_zero, Option.some.injEq] at h
    subst h
    have : j < q.length := (List.getElem?_eq_some_iff.1 hx).1
    rw [List.flatten_cons, Nat.zero_mul, Nat.zero_add, List.getElem?_append_left this]; exact hx
  | q :: rows, hl, k + 1, j, r, x, h, hx => by
    have hq := hl q (by simp)
    have ih := flatten_get rows (fun r' h' => hl r' (by simp [h'])) k j r x (by simpa using h) hx
    rw [List.flatten_cons, Nat.add_mul, List.getElem?_append_right (by omega)]
    rw [← ih]; congr 1; omega
theorem SlN.row {w : World} {s n n' c : Nat} {a : Addr} {rows : List (List Value)} (h : SlN w s (.slice (some a) n c) n' rows.flatten) (hl : ∀ r ∈ rows, r.length = s) {k : Nat} {r : List Value} (hr : rows[k]? = some r) : cellsAt w (a.add (k * s)) s = some r := by
  refine cellsAt_of s _ r (hl r (List.mem_of_getElem? hr)) fun j x hx => ?_
  rw [addr_add_add]
  exact h.at (flatten_get rows hl k j r x hr hx)
/-- One cell of a row. -/
theorem SlN.rowCell {w : World} {s n n' c : Nat} {a : Addr} {rows : List (List Value)} (h : SlN w s (.slice (some a) n c) n' rows.flatten) (hl : ∀ r ∈ rows, r.length = s) {k j : Nat} {r : List Value} {x : Value} (hr : rows[k]? = some r) (hx : r[j]? = some x) : w.cell? ((a.add (k * s)).add j) = some x := by
  rw [addr_add_add]
  exact h.at (flatten_get rows hl k j r x hr hx)
theorem storeAll_new (w : World) (e : TypeId) : ∀ (xs : List Value) (done rest : List Value), rest.length = xs.length →
    storeAll (w.alloc (.cells (done ++ rest).toArray e)) ⟨w.heap.size, done.length, none⟩ xs = w.alloc (.cells (done ++ xs).toArray e)
  | [], done, rest, h => by
    have : rest = [] := List.eq_nil_of_length_eq_zero (by simpa using h)
    subst this; rfl
  | x :: xs, done, [], h => by simp at h
  | x :: xs, done, r :: rest, h => by
    have ih := storeAll_new w e xs (done ++ [x]) rest (by simpa using h)
    simp only [storeAll]
    have e1 : (w.alloc (.cells (done ++ r :: rest).toArray e)).setCell ⟨w.heap.size, done.length, none⟩ x = w.alloc (.cells (done ++ [x] ++ rest).toArray e) := by
      have hm : ∀ (o o' : Obj) (f : Obj → Obj), f o = o' → (w.heap.push o).modify w.heap.size f = w.heap.push o' := by
        intro o o' f hf
        apply Array.ext_getElem?
        intro i
        rw [Array.getElem?_modify, Array.getElem?_push, Array.getElem?_push]
        by_cases hi : i = w.heap.size
        · subst hi; simp [hf]
        · rw [if_neg (by omega), if_neg hi, if_neg hi]
      show ({ w with heap := (w.heap.push (.cells (done ++ r :: rest).toArray e)).modify w.heap.size _ } : World) = { w with heap := w.heap.push (.cells (done ++ [x] ++ rest).toArray e) }
      rw [hm _ (.cells (done ++ [x] ++ rest).toArray e) _ (by simp)]
    rw [e1, addr_add_eq]
    have e2 : (done ++ [x]).length = done.length + 1 := by simp
    rw [← e2, ih]
    simp
theorem canAll_new (w : World) (e : TypeId) (cs : Array Value) : ∀ (xs : List Value) (i : Nat), i + xs.length ≤ cs.size → canAll (w.alloc (.cells cs e)) ⟨w.heap.size, i, none⟩ xs
  | [], _, _ => trivial
  | x :: xs, i, h => by
    simp only [List.length_cons] at h
    refine ⟨?_, (Blk.new w cs e).frozen i, ?_⟩
    · rw [(Blk.new w cs e).cell i]
      exact ⟨_, Array.getElem?_eq_getElem (by omega)⟩
    · rw [addr_add_eq]; exact canAll_new w e cs xs (i + 1) (by omega)
/-- A struct laid anew, and filled. -/
theorem vStore_new {P : Program} {w : World} {K : Value → World → Prop} {t e : TypeId} {z cs : Array Value} {s : Nat} (hs : cs.size = s) (hz : z.size = s) (h1 : ∀ u ∈ cs.toList, u.oneCell' = true) (hk : K undef (w.alloc (.cells cs e))) :
    vStoreD P t (some s) (.pointer (some ⟨w.heap.size, 0, none⟩)) (.agg cs) K (w.alloc (.cells z e)) := by
  refine ⟨hs, h1, canAll_new w e z cs.toList 0 (by simp; omega), ?_⟩
  have := storeAll_new w e cs.toList [] z.toList (by simp; omega)
  simp only [List.nil_append, List.length_nil] at this
  show K undef (storeAll (w.alloc (.cells z e)) ⟨w.heap.size, 0, none⟩ cs.toList)
  have e1 : z.toList.toArray = z := by simp
  have e2 : cs.toList.toArray = cs := by simp
  rw [e1, e2] at this
  rw [this]; exact hk
section
variable {P : Program} {w : World} {Ns : NS} {rs : List Nat} {σ : Env} {ty : TypeId} {Kv : Value → Prop} {Kn : (Value → World → Prop) → Prop}
end
end Go.Vc
end
section
namespace Go.Vc
open Go.RowKit
theorem chg_putObj (w : World) {L : Nat} {ks : List Nat} (h : L ∈ ks) (o : Obj) : Chg w (w.putObj L o) ks :=
  ⟨rfl, rfl, rfl, by simp [World.putObj], fun k _ hn => World.putObj_heap_other fun e => hn (e ▸ h)⟩
theorem later_two (w : World) (o o' : Obj) : Later w ((w.alloc o).alloc o') := (later_alloc w o).alloc o'
theorem heap_later {w w' : World} {k : Nat} {o : Obj} (h : w.heap[k]? = some o) (hl : Later w w') : w'.heap[k]? = some o := by
  rw [hl.block k (Array.getElem?_eq_some_iff.1 h).1]; exact h
theorem heap_chg {w w' : World} {k : Nat} {o : Obj} {ks : List Nat} (h : w.heap[k]? = some o) (g : Chg w w' ks) (hk : k ∉ ks) : w'.heap[k]? = some o := by
  rw [g.block k (Array.getElem?_eq_some_iff.1 h).1 hk]; exact h
/-- A pair's cells. -/
def pairC (p : Int × Int) : List Value := [.int .i64 p.1, .int .i64 p.2]
/-- Pairs, read. -/
def PairS (w : World) (v : Value) (l : List (Int × Int)) : Prop := SlN w 2 v l.length (l.map pairC).flatten
def OwnP (w : World) (B : Nat) (e : TypeId) (v : Value) (l : List (Int × Int)) : Prop := w.ownsRow B e 2 v l.length (l.map pairC).flatten
theorem pairs_len (l : List (Int × Int)) : ∀ r ∈ l.map pairC, r.length = 2 := by
  intro r hr
  obtain ⟨p, _, rfl⟩ := List.mem_map.1 hr
  rfl
theorem PairS.later {w w' : World} {v : Value} {l : List (Int × Int)} (h : PairS w v l) (hl : Later w w') : PairS w' v l := SlN.later h hl
theorem OwnP.s {w : World} {B : Nat} {e : TypeId} {v : Value} {l : List (Int × Int)} (h : OwnP w B e v l) : PairS w v l := SlN.of_own h
theorem OwnP.later {w w' : World} {B : Nat} {e : TypeId} {v : Value} {l : List (Int × Int)} (h : OwnP w B e v l) (hl : Later w w') : OwnP w' B e v l := own_later h hl
theorem OwnP.base {w : World} {B B' : Nat} {e : TypeId} {v : Value} {l : List (Int × Int)} (h : OwnP w B e v l) (hb : B' ≤ B) : OwnP w B' e v l := own_base h hb
theorem OwnP.nil (w : World) (B : Nat) (e : TypeId) : OwnP w B e (.slice none 0 0) [] := own_nil w B e 2
theorem PairS.slice {w : World} {v : Value} {l : List (Int × Int)} (h : PairS w v l) : ∃ o c, v = .slice o l.length c ∧ l.length ≤ c ∧ c ≤ 9223372036854775807 := by
  obtain ⟨o, c, hv, h1, h2, _⟩ := SlN.open h
  exact ⟨o, c, hv, h1, by simpa [maxLen] using h2⟩
theorem PairS.at {w : World} {o : Option Addr} {n c : Nat} {l : List (Int × Int)} (h : PairS w (.slice o n c) l) {i : Nat} (hi : i < l.length) : ∃ a, o = some a ∧ cellsAt w (a.add (i * 2)) 2 = some (pairC l[i]) ∧
    w.cell? (a.add (i * 2)) = some (.int .i64 l[i].1) ∧ w.cell? ((a.add (i * 2)).add 1) = some (.int .i64 l[i].2) := by
  cases o with
  | none => have h1 := SlN.len h; have := h1.2.2.2.2 rfl; have := h1.1; omega
  | some a =>
    have hr : (l.map pairC)[i]? = some (pairC l[i]) := by simp [hi]
    refine ⟨a, rfl, SlN.row h (pairs_len l) hr, ?_, SlN.rowCell h (pairs_len l) hr rfl⟩
    have := SlN.rowCell h (pairs_len l) hr (j := 0) rfl
    simpa [addr_add_zero] using this
end Go.Vc
end
section
namespace Go.Vc
open Go.RowKit
/-- Two rows of a call's own lie in two blocks. -/
def Apt (v x : Value) : Prop := ∀ k, v.ownBlock = some k → x.ownBlock ≠ some k
theorem Apt.symm {v x : Value} (h : Apt v x) : Apt x v := fun k hk hk' => h k hk' hk
theorem Apt.nil (x : Value) : Apt (.slice none 0 0) x := fun k hk => by simp [Value.ownBlock] at hk
/-- A row of a call's own and what it becomes: another row that lay apart still does. -/
theorem Apt.next {w : World} {base s n : Nat} {e : TypeId} {v v' x : Value} {xs : List Value} (hap : Apt v x) (hx : w.ownsRow base e s x n xs) (h : v'.ownBlock = v.ownBlock ∨ v'.ownBlock = some w.heap.size) : Apt v' x := by
  intro k hk hk'
  rcases h with h | h
  · exact hap k (h ▸ hk) hk'
  · have := World.ownsRow.lt hx k hk'
    rw [h] at hk
    simp only [Option.some.injEq] at hk
    omega
theorem vAppend_at {P : Program} {w : World} {K : Value → World → Prop} {t e ty : TypeId} {z : Value} {s b : Nat} (ht : P.underlying t = some (.slice e)) (hi : (P.info? e).map (fun i => (i.zero, i.size, i.bytes)) = some (some z, s, b)) (hzs : z.cells.size = s) (hsz : 0 < s)
    {base : Nat} {v x : Value} {n m : Nat} {xs news : List Value} (hown : w.ownsRow base e s v n xs) (hx : SlN w s x m news) (h1 : ∀ u ∈ news, u.oneCell' = true) (h63 : n + m ≤ maxLen) (hb : (n + m) * b ≤ 140737488355328) (hbase : base ≤ w.heap.size)
    (hK : ∀ v' w', w'.ownsRow base e s v' (n + m) (xs ++ news) → w.grownBy w' v.ownBlock → (v'.ownBlock = v.ownBlock ∨ v'.ownBlock = some w.heap.size) → K v' w') : vAppend P #[t, t] ty #[v, x] K w := by
  obtain ⟨i, hi1, hz, hsi, hbi⟩ := info_parts hi
  unfold vAppend
  obtain ⟨hl, hr⟩ := hx
  rcases hr with ⟨rfl, rfl⟩ | ⟨ad, c, rfl, hc1, hc2, hc3⟩
  · have hnews : news = [] := List.eq_nil_of_length_eq_zero (by simpa using hl)
    subst hnews
    have hsl := SlN.of_own hown
    obtain ⟨o, c, rfl, h1, h2, h3, h4, _⟩ := hsl.open
    rw [run_val_pure (run_append_nil_src ht hi o n c h1 (fun ho => (h4 ho).1))]
    exact hK _ _ (by simpa using hown) ⟨rfl, rfl, rfl, Nat.le_refl _, fun _ _ _ => rfl⟩ (.inl rfl)
  · obtain ⟨v', w', hr, h2, h3, h4, h5⟩ := run_append_own_at (P := P) w base t ty e i z s b ht hi1 hz hsi hbi hzs hsz v n xs hown ad m c news hl hc3 h1 h63 hb hbase
    rw [run_val_pure hr]
    exact hK _ _ h2 h3 h5
end Go.Vc
end
section
namespace Go.Vc
open Go.RowKit
/-- A row of one type stays where a block of another is written. -/
theorem own_chg_ty {w w' : World} {base s n k : Nat} {e e' : TypeId} {cs : Array Value} {v : Value} {xs : List Value} (h : w.ownsRow base e s v n xs) (hb : Blk w k cs e') (hne : e ≠ e') (g : Chg w w' [k]) : w'.ownsRow base e s v n xs := by
  obtain ⟨h0, h⟩ := h
  refine ⟨h0, ?_⟩
  rcases h with h | ⟨b, cap, cur, hv, hbb, hh, h3⟩
  · exact .inl h
  · refine .inr ⟨b, cap, cur, hv, hbb, ?_, h3⟩
    rw [g.block b (Blk.lt hh) ?_]
    · exact hh
    · intro hm
      simp only [List.mem_singleton] at hm
      subst hm
      unfold Blk at hb
      rw [hh] at hb
      simp only [Option.some.injEq, Obj.cells.injEq] at hb
      exact hne hb.2.1
theorem own_obj {w w' : World} {base s n k : Nat} {e : TypeId} {o : Obj} {v : Value} {xs : List Value} (h : w.ownsRow base e s v n xs) (hb : w.heap[k]? = some o) (ho : o.isCells = false) (g : Chg w w' [k]) : w'.ownsRow base e s v n xs := by
  obtain ⟨h0, h⟩ := h
  refine ⟨h0, ?_⟩
  rcases h with h | ⟨b, cap, cur, hv, hbb, hh, h3⟩
  · exact .inl h
  · refine .inr ⟨b, cap, cur, hv, hbb, ?_, h3⟩
    rw [g.block b (Blk.lt hh) ?_]
    · exact hh
    · intro hm
      simp only [List.mem_singleton] at hm
      subst hm
      rw [hh] at hb
      simp only [Option.some.injEq] at hb
      subst hb
      simp [Obj.isCells] at ho
theorem own_ne {w : World} {base s n k : Nat} {e : TypeId} {o : Obj} {v : Value} {xs : List Value} (h : w.ownsRow base e s v n xs) (hk : w.heap[k]? = some o) (ho : ∀ cs, o ≠ .cells cs e (0, 0)) : v.ownBlock ≠ some k := by
  obtain ⟨h0, h⟩ := h
  rcases h with ⟨rfl, _⟩ | ⟨b, cap, cur, rfl, _, hh, _⟩
  · simp [Value.ownBlock]
  · simp only [Value.ownBlock]
    intro he
    simp only [Option.some.injEq] at he
    subst he
    rw [hh] at hk
    simp only [Option.some.injEq] at hk
    exact ho cur hk.symm
theorem not_cells {o : Obj} (h : o.isCells = false) (e : TypeId) : ∀ cs, o ≠ .cells cs e (0, 0) := by
  intro cs e'
  subst e'
  simp [Obj.isCells] at h
theorem grown_obj {w w' : World} {base s n k : Nat} {e : TypeId} {o : Obj} {v : Value} {xs : List Value} (h : w.ownsRow base e s v n xs) (g : w.grownBy w' v.ownBlock) (hk : w.heap[k]? = some o) (ho : ∀ cs, o ≠ .cells cs e (0, 0)) : w'.heap[k]? = some o := by
  rw [g.block k (Array.getElem?_eq_some_iff.1 hk).1 (fun e => own_ne h hk ho e.symm)]; exact hk
end Go.Vc
end
section
set_option linter.unusedSimpArgs false
namespace Go.Vlt
open Go Go.Vc
def vFind (k : ByteArray) : List VE → Option VE
  | [] => none
  | e :: l => if k = e.name then some e else vFind k l
def VE.val (e : VE) : Value := .agg #[e.sv, .int .i64 e.safe]
theorem mIdx_ent (k : ByteArray) : ∀ (es : List VE) (i : Nat), (vFind k es = none ∧ mIdx k (es.map VE.ent) i = none) ∨ ∃ e j, e ∈ es ∧ vFind k es = some e ∧ mIdx k (es.map VE.ent) i = some (j, e.val)
  | [], _ => .inl ⟨rfl, rfl⟩
  | e :: l, i => by
    simp only [List.map_cons, mIdx, vFind]
    have he : e.ent.fst = e.name := rfl
    rw [he]
    by_cases h : k = e.name
    · right
      refine ⟨e, i, by simp, by rw [if_pos h], ?_⟩
      rw [if_pos (bytes_beq.2 h)]
      rfl
    · rw [if_neg h, if_neg (fun h' => h (bytes_beq.1 h'))]
      rcases mIdx_ent k l (i + 1) with h' | ⟨e', j, h1, h2, h3⟩
      · exact .inl h'
      · exact .inr ⟨e', j, List.mem_cons_of_mem _ h1, h2, h3⟩
end Go.Vlt
namespace Go.Proofs.Ytmfcnooleejgmaa
open Go.Vc Go.Vlt
set_option maxRecDepth 100000
theorem zfile (w : World) : (zeroValue 61).run Try.prog w = .ok (.agg #[.slice none 0 0, .int .i64 0]) w := Try.zeroValue61 w
theorem own8_of {w : World} {B : Nat} {e : TypeId} {v : Value} {l : List UInt8} {n : Nat} (h : w.ownsRow B e 1 v n (l.map u8v)) : OwnB w B e v l := by
  have := own_n h
  unfold OwnB
  rw [this] at h
  simpa using h
theorem sl8_n {w : World} {v : Value} {l : List UInt8} (h : Sl w v (l.map u8v)) : SlN w 1 v l.length (l.map u8v) := by simpa [Sl] using h
theorem own8_app {w : World} {B : Nat} {e : TypeId} {v : Value} {a b : List UInt8} {n : Nat} (h : w.ownsRow B e 1 v n (a.map u8v ++ b.map u8v)) : OwnB w B e v (a ++ b) := own8_of (n := n) (by rw [List.map_append]; exact h)
theorem bclone_c (v : Value) (l : List UInt8) (w : World) (h : Sl w v (l.map u8v)) (hb : l.length ≤ 1000000000) : FnC Try.prog 34 #[v] w fun r w' => OwnB w' w.heap.size 5 r l ∧ Later w w' := by
  obtain ⟨o, c, rfl⟩ := Sl.slice h
  rw [List.length_map] at h ⊢
  refine enter34 _ ?_
  unfold B34
  cases o with
  | none =>
    have h0 := (Sl.len h).2.2.2 rfl
    have hl : l = [] := List.map_eq_nil_iff.1 h0.1
    subst hl
    obtain rfl := h0.2
    repeat' (first | (simp (disch := omega) only [push_cast, ↓reduceIte, zA, zG, zB, zH, zI, zC, zJ, zK, zL, zD, zE, zF, zM, zN, zO, zP, zQ, reduceCtorEq, not_true_eq_false, not_false_eq_true]) | (first | refine vIfE_of ?_ ?_ | refine vIfD_of ?_ ?_ | refine vIfQ_of ?_ ?_ | refine vIfV_of ?_ ?_) <;> intro _ | refine And.intro (by omega) ?_ | refine drawn_q ?_ | fail)
    exact ⟨own_nil _ _ _ _, Later.refl _⟩
  | some a =>
    repeat' (first | (simp (disch := omega) only [push_cast, ↓reduceIte, zA, zG, zB, zH, zI, zC, zJ, zK, zL, zD, zE, zF, zM, zN, zO, zP, zQ, reduceCtorEq, not_true_eq_false, not_false_eq_true]) | (first | refine vIfE_of ?_ ?_ | refine vIfD_of ?_ ?_ | refine vIfQ_of ?_ ?_ | refine vIfV_of ?_ ?_) <;> intro _ | refine And.intro (by omega) ?_ | refine drawn_q ?_ | fail)
    have l1 := later_alloc w (.cells #[] 5)
    have own0 : OwnB (w.alloc (.cells #[] 5)) w.heap.size 5 (.slice (some ⟨w.heap.size, 0, none⟩) 0 0) [] := own_lit w [] 5 1 0 rfl (Nat.zero_le _) (Nat.le_refl _)
    refine vAppend_own Try.underlying22 ti5 rfl (by decide) own0 (sl8_n (Sl.later h l1)) (u8vs_one _) (by unfold maxLen; simp only [List.length_nil]; omega) (by simp only [List.length_nil]; omega) l1.size ?_
    intro v2 w2 h2 g2 _
    have l2 : Later w w2 := l1.appended own0 (Nat.le_refl _) g2
    have h2 := own8_app h2
    repeat' (first | (simp (disch := omega) only [push_cast, ↓reduceIte, zA, zG, zB, zH, zI, zC, zJ, zK, zL, zD, zE, zF, zM, zN, zO, zP, zQ, reduceCtorEq, not_true_eq_false, not_false_eq_true]) | (first | refine vIfE_of ?_ ?_ | refine vIfD_of ?_ ?_ | refine vIfQ_of ?_ ?_ | refine vIfV_of ?_ ?_) <;> intro _ | refine And.intro (by omega) ?_ | refine drawn_q ?_ | fail)
    exact ⟨h2, l2⟩
theorem read_c (bk r : Nat) (room fuse : Int) (es : List VE) (c : Nat) (k : ByteArray) (w : World) (h : Vt w bk r room fuse es c) (hb : ∀ e ∈ es, e.b.length ≤ 1000000000) : FnC Try.prog 14 #[.pointer (some ⟨bk, 0, none⟩), .string k] w fun v w' => (∃ x, v = .tuple #[x, .bool (vFind k es).isSome] ∧ OwnB w' w.heap.size 5 x (((vFind k es).map VE.b).getD [])) ∧ Later w w' := by
  refine enter14 _ _ ?_
  unfold B14
  have f2 : w.cell? ⟨bk, 2, none⟩ = some (.map (some r)) := h.blk.cell 2
  repeat' (first | (simp (disch := omega) only [push_cast, ↓reduceIte, zA, zG, zB, zH, zI, zC, zJ, zK, zL, zD, zE, zF, zM, zN, zO, zP, zQ, reduceCtorEq, not_true_eq_false, not_false_eq_true, f2, addr_add_eq, Nat.zero_add]) | (first | refine vIfE_of ?_ ?_ | refine vIfD_of ?_ ?_ | refine vIfQ_of ?_ ?_ | refine vIfV_of ?_ ?_) <;> intro _ | refine And.intro (by omega) ?_ | refine drawn_q ?_ | fail)
  refine vLook_of Try.underlying55 Try.underlying9 zfile h.map k true ?_
  rcases mIdx_ent k es 0 with ⟨h1, h2⟩ | ⟨e, j, he, h1, h2⟩
  · rw [h1, h2]
    unfold mGot
    repeat' (first | (simp (disch := omega) only [push_cast, ↓reduceIte, zA, zG, zB, zH, zI, zC, zJ, zK, zL, zD, zE, zF, zM, zN, zO, zP, zQ, reduceCtorEq, not_true_eq_false, not_false_eq_true]) | (first | refine vIfE_of ?_ ?_ | refine vIfD_of ?_ ?_ | refine vIfQ_of ?_ ?_ | refine vIfV_of ?_ ?_) <;> intro _ | refine And.intro (by omega) ?_ | refine drawn_q ?_ | fail)
    refine vStore_new rfl rfl (by intro u hu; simp at hu; rcases hu with rfl | rfl <;> rfl) ?_
    have l1 := later_alloc w (.cells #[.slice none 0 0, .int .i64 0] 61)
    have f3 : (w.alloc (.cells #[.slice none 0 0, .int .i64 0] 61)).cell? ⟨w.heap.size, 0, none⟩ = some (.slice none 0 0) := (Blk.new w _ _).cell 0
    generalize w.alloc (.cells #[.slice none 0 0, .int .i64 0] 61) = w1 at *
    repeat' (first | (simp (disch := omega) only [push_cast, ↓reduceIte, zA, zG, zB, zH, zI, zC, zJ, zK, zL, zD, zE, zF, zM, zN, zO, zP, zQ, reduceCtorEq, not_true_eq_false, not_false_eq_true, f3, addr_add_eq, Nat.zero_add]) | (first | refine vIfE_of ?_ ?_ | refine vIfD_of ?_ ?_ | refine vIfQ_of ?_ ?_ | refine vIfV_of ?_ ?_) <;> intro _ | refine And.intro (by omega) ?_ | refine drawn_q ?_ | fail)
    refine (bclone_c _ [] w1 (Sl.nil _) (by simp)).mono ?_
    rintro x w2 ⟨hx, l2⟩
    repeat' (first | (simp (disch := omega) only [push_cast, ↓reduceIte, zA, zG, zB, zH, zI, zC, zJ, zK, zL, zD, zE, zF, zM, zN, zO, zP, zQ, reduceCtorEq, not_true_eq_false, not_false_eq_true]) | (first | refine vIfE_of ?_ ?_ | refine vIfD_of ?_ ?_ | refine vIfQ_of ?_ ?_ | refine vIfV_of ?_ ?_) <;> intro _ | refine And.intro (by omega) ?_ | refine drawn_q ?_ | fail)
    exact ⟨⟨x, rfl, own_base hx l1.size⟩, l1.trans l2⟩
  · rw [h1, h2]
    unfold mGot VE.val
    have hok := h.ok e he
    obtain ⟨os, cs, hsv⟩ := Sl.slice hok.sl
    repeat' (first | (simp (disch := omega) only [push_cast, ↓reduceIte, zA, zG, zB, zH, zI, zC, zJ, zK, zL, zD, zE, zF, zM, zN, zO, zP, zQ, reduceCtorEq, not_true_eq_false, not_false_eq_true]) | (first | refine vIfE_of ?_ ?_ | refine vIfD_of ?_ ?_ | refine vIfQ_of ?_ ?_ | refine vIfV_of ?_ ?_) <;> intro _ | refine And.intro (by omega) ?_ | refine drawn_q ?_ | fail)
    refine vStore_new rfl rfl (by intro u hu; rw [hsv] at hu; simp at hu; rcases hu with rfl | rfl <;> rfl) ?_
    have l1 := later_alloc w (.cells #[e.sv, .int .i64 e.safe] 61)
    have f3 : (w.alloc (.cells #[e.sv, .int .i64 e.safe] 61)).cell? ⟨w.heap.size, 0, none⟩ = some e.sv := (Blk.new w _ _).cell 0
    generalize w.alloc (.cells #[e.sv, .int .i64 e.safe] 61) = w1 at *
    rw [hsv] at f3
    repeat' (first | (simp (disch := omega) only [push_cast, ↓reduceIte, zA, zG, zB, zH, zI, zC, zJ, zK, zL, zD, zE, zF, zM, zN, zO, zP, zQ, reduceCtorEq, not_true_eq_false, not_false_eq_true, f3, addr_add_eq, Nat.zero_add]) | (first | refine vIfE_of ?_ ?_ | refine vIfD_of ?_ ?_ | refine vIfQ_of ?_ ?_ | refine vIfV_of ?_ ?_) <;> intro _ | refine And.intro (by omega) ?_ | refine drawn_q ?_ | fail)
    refine (bclone_c _ e.b w1 (by rw [← hsv]; exact Sl.later hok.sl l1) (hb e he)).mono ?_
    rintro x w2 ⟨hx, l2⟩
    repeat' (first | (simp (disch := omega) only [push_cast, ↓reduceIte, zA, zG, zB, zH, zI, zC, zJ, zK, zL, zD, zE, zF, zM, zN, zO, zP, zQ, reduceCtorEq, not_true_eq_false, not_false_eq_true]) | (first | refine vIfE_of ?_ ?_ | refine vIfD_of ?_ ?_ | refine vIfQ_of ?_ ?_ | refine vIfV_of ?_ ?_) <;> intro _ | refine And.intro (by omega) ?_ | refine drawn_q ?_ | fail)
    exact ⟨⟨x, rfl, own_base hx l1.size⟩, l1.trans l2⟩
theorem arm_c (bk r : Nat) (room fuse n : Int) (es : List VE) (c : Nat) (w : World) (h : Vt w bk r room fuse es c) : FnC Try.prog 27 #[.pointer (some ⟨bk, 0, none⟩), .int .i64 n] w fun v w' => (v = .int .i64 (if n < 0 then 1 else 0) ∧ Vt w' bk r room (if n < 0 then fuse else n) es c) ∧ Chg w w' [bk] := by
  refine enter27 _ _ ?_
  unfold B27
  by_cases h0 : n < 0
  · have hd := decide_eq_true h0
    repeat' (first | (simp (disch := omega) only [push_cast, ↓reduceIte, zA, zG, zB, zH, zI, zC, zJ, zK, zL, zD, zE, zF, zM, zN, zO, zP, zQ, reduceCtorEq, not_true_eq_false, not_false_eq_true, hd]) | (first | refine vIfE_of ?_ ?_ | refine vIfD_of ?_ ?_ | refine vIfQ_of ?_ ?_ | refine vIfV_of ?_ ?_) <;> intro _ | refine And.intro (by omega) ?_ | refine drawn_q ?_ | fail)
    first | exact ⟨⟨by rw [if_pos h0], by rw [if_pos h0]; exact h⟩, Chg.refl _ _⟩ | (rw [if_pos h0, if_pos h0]; exact ⟨⟨rfl, h⟩, Chg.refl _ _⟩) | trace_state
  · have hd := decide_eq_false h0
    have hce : ∃ y, w.cell? ⟨bk, 1, none⟩ = some y := ⟨_, h.blk.cell 1⟩
    have hfz := h.blk.frozen 1
    repeat' (first | (simp (disch := omega) only [push_cast, ↓reduceIte, zA, zG, zB, zH, zI, zC, zJ, zK, zL, zD, zE, zF, zM, zN, zO, zP, zQ, reduceCtorEq, not_true_eq_false, not_false_eq_true, hd, hce, hfz, addr_add_eq, Nat.zero_add]) | (first | refine vIfE_of ?_ ?_ | refine vIfD_of ?_ ?_ | refine vIfQ_of ?_ ?_ | refine vIfV_of ?_ ?_) <;> intro _ | refine And.intro (by omega) ?_ | refine drawn_q ?_ | fail)
    have c2 := chg_setCell (i := 1) w (ks := [bk]) (k := bk) (by simp) (.int .i64 n)
    first | exact ⟨⟨by rw [if_neg h0], by rw [if_neg h0]; exact h.fuse n⟩, c2⟩ | (rw [if_neg h0, if_neg h0]; exact ⟨⟨rfl, h.fuse n⟩, c2⟩) | exact ⟨h.fuse n, c2⟩ | trace_state
theorem broken_c (bk r : Nat) (room fuse : Int) (es : List VE) (c : Nat) (w : World) (h : Vt w bk r room fuse es c) : FnC Try.prog 28 #[.pointer (some ⟨bk, 0, none⟩)] w fun v w' => v = .bool (decide (fuse = 0)) ∧ w' = w := by
  refine enter28 _ ?_
  unfold B28
  have f1 : w.cell? ⟨bk, 1, none⟩ = some (.int .i64 fuse) := h.blk.cell 1
  repeat' (first | (simp (disch := omega) only [push_cast, ↓reduceIte, zA, zG, zB, zH, zI, zC, zJ, zK, zL, zD, zE, zF, zM, zN, zO, zP, zQ, reduceCtorEq, not_true_eq_false, not_false_eq_true, f1, addr_add_eq, Nat.zero_add]) | (first | refine vIfE_of ?_ ?_ | refine vIfD_of ?_ ?_ | refine vIfQ_of ?_ ?_ | refine vIfV_of ?_ ?_) <;> intro _ | refine And.intro (by omega) ?_ | refine drawn_q ?_ | fail)
  first | exact ⟨rfl, rfl⟩ | trace_state
end Go.Proofs.Ytmfcnooleejgmaa
end
section
set_option linter.unusedSimpArgs false
namespace Go.Vlt
open Go Go.Vc
def tot : List VE → Int
  | [] => 0
  | e :: l => e.b.length + tot l
theorem tot_nn : ∀ l : List VE, 0 ≤ tot l
  | [] => Int.le_refl _
  | e :: l => by have := tot_nn l; unfold tot; omega
def lft (seen : Array Nat) (es : List VE) : List VE := es.filter fun e => !seen.contains e.born
theorem lft_push (seen : Array Nat) (b : Nat) (es : List VE) : lft (seen.push b) es = (lft seen es).filter fun e => !(e.born == b) := by
  unfold lft
  rw [List.filter_filter]
  apply List.filter_congr
  intro x _
  rw [Array.contains_push, Bool.not_or]
  rw [Bool.and_comm]
theorem tot_le (p : VE → Bool) : ∀ l : List VE, tot (l.filter p) ≤ tot l
  | [] => Int.le_refl _
  | e :: l => by
    have ih := tot_le p l
    rw [List.filter_cons]
    split
    · unfold tot; omega
    · show tot (l.filter p) ≤ e.b.length + tot l; omega
theorem filter_out : ∀ (l : List VE) (b : Nat), (∀ x ∈ l, x.born ≠ b) → (l.filter fun x => !(x.born == b)) = l := fun l b h => by
  rw [List.filter_eq_self]
  intro x hx
  have := h x hx
  simpa using this
theorem tot_out : ∀ {l : List VE}, (l.map VE.born).Nodup → ∀ {e : VE}, e ∈ l → tot l = e.b.length + tot (l.filter fun x => !(x.born == e.born)) ∧ l.length = (l.filter fun x => !(x.born == e.born)).length + 1
  | x :: l, hn, e, he => by
    rw [List.map_cons, List.nodup_cons] at hn
    obtain ⟨h1, h2⟩ := hn
    rw [List.filter_cons]
    rcases List.mem_cons.1 he with rfl | he
    · have hx : (l.filter fun y => !(y.born == e.born)) = l := filter_out l _ fun y hy hb => h1 (hb ▸ List.mem_map_of_mem hy)
      have hb : (!(e.born == e.born)) = false := by simp
      rw [hb, if_neg (by simp), hx]
      exact ⟨rfl, rfl⟩
    · have hne : x.born ≠ e.born := fun hb => h1 (hb ▸ List.mem_map_of_mem he)
      have hb : (!(x.born == e.born)) = true := by simpa using hne
      rw [hb, if_pos rfl]
      obtain ⟨i1, i2⟩ := tot_out h2 he
      refine ⟨?_, by rw [List.length_cons, List.length_cons, i2]⟩
      show (x.b.length : Int) + tot l = e.b.length + (x.b.length + tot (l.filter fun y => !(y.born == e.born)))
      omega
end Go.Vlt
namespace Go.Proofs.Ytmfcnooleejgmaa
open Go.Vc Go.Vlt
set_option maxRecDepth 100000
theorem free_c (bk r : Nat) (room fuse : Int) (es : List VE) (c : Nat) (w : World) (h : Vt w bk r room fuse es c) (hr : 0 ≤ room ∧ room ≤ 16777216) (ht : tot es ≤ 1000000000000) : FnC Try.prog 17 #[.pointer (some ⟨bk, 0, none⟩)] w fun v w' => v = .int .i64 (room - tot es) ∧ Later w w' := by
  refine enter17 _ ?_
  unfold B17
  have f0 : w.cell? ⟨bk, 0, none⟩ = some (.int .i64 room) := h.blk.cell 0
  have f2 : w.cell? ⟨bk, 2, none⟩ = some (.map (some r)) := h.blk.cell 2
  repeat' (first | (simp (disch := omega) only [push_cast, ↓reduceIte, zA, zG, zB, zH, zI, zC, zJ, zK, zL, zD, zE, zF, zM, zN, zO, zP, zQ, reduceCtorEq, not_true_eq_false, not_false_eq_true, f0, f2, addr_add_eq, Nat.zero_add]) | (first | refine vIfE_of ?_ ?_ | refine vIfD_of ?_ ?_ | refine vIfQ_of ?_ ?_ | refine vIfV_of ?_ ?_) <;> intro _ | refine And.intro (by omega) ?_ | refine drawn_q ?_ | fail)
  refine vRng_of Try.underlying55 h.map ?_
  have l1 := later_alloc w (.mapIter (some r) c #[] c)
  have hi : (w.alloc (.mapIter (some r) c #[] c)).heap[w.heap.size]? = some (.mapIter (some r) c #[] c) := heap_new w _
  have h1 := h.later l1
  generalize w.alloc (.mapIter (some r) c #[] c) = w1 at *
  generalize hit : w.heap.size = it at *
  repeat' (first | (simp (disch := omega) only [push_cast, ↓reduceIte, zA, zG, zB, zH, zI, zC, zJ, zK, zL, zD, zE, zF, zM, zN, zO, zP, zQ, reduceCtorEq, not_true_eq_false, not_false_eq_true]) | (first | refine vIfE_of ?_ ?_ | refine vIfD_of ?_ ?_ | refine vIfQ_of ?_ ?_ | refine vIfV_of ?_ ?_) <;> intro _ | refine And.intro (by omega) ?_ | refine drawn_q ?_ | fail)
  refine vc_loop W17_0 (fun n : Int × Nat => [(3, .int .i64 n.1)])
    (fun n w' => ∃ seen : Array Nat, w'.heap[it]? = some (.mapIter (some r) c seen c) ∧ Later w w' ∧ n.2 = (lft seen es).length ∧ n.1 = room - (tot es - tot (lft seen es))) (fun n => n.2) (room, (lft #[] es).length) (by decide) ?_ ?_ ?_
  · simp (disch := omega) only [push_cast, ↓reduceIte, zA, zG, zB, zH, zI, zC, zJ, zK, zL, zD, zE, zF, zM, zN, zO, zP, zQ, reduceCtorEq, not_true_eq_false, not_false_eq_true]
  · exact ⟨#[], hi, l1, rfl, by have : lft #[] es = es := by unfold lft; simp
                                rw [this]; omega⟩
  rintro ⟨n, m⟩ uu w2 ⟨seen, hs, l2, hm, hn⟩
  dsimp only at hm hn
  have h2 := h.later l2
  have hb0 := tot_nn (lft seen es)
  have hb1 := tot_le (fun e => !seen.contains e.born) es
  have hb1' : tot (lft seen es) ≤ tot es := hb1
  repeat' (first | (simp (disch := omega) only [push_cast, ↓reduceIte, zA, zG, zB, zH, zI, zC, zJ, zK, zL, zD, zE, zF, zM, zN, zO, zP, zQ, reduceCtorEq, not_true_eq_false, not_false_eq_true]) | (first | refine vIfE_of ?_ ?_ | refine vIfD_of ?_ ?_ | refine vIfQ_of ?_ ?_ | refine vIfV_of ?_ ?_) <;> intro _ | refine And.intro (by omega) ?_ | refine drawn_q ?_ | fail)
  refine vNxt_of hs h2.map (fun e he => by obtain ⟨x, hx, rfl⟩ := List.mem_map.1 he; exact h.born x hx) (Nat.le_refl _) (fun hall => ?_) (fun ee hee hns w3' hw3' => ?_)
  · have hl : lft seen es = [] := by
      unfold lft
      rw [List.filter_eq_nil_iff]
      intro x hx
      have hc : seen.contains x.born = true := hall x.ent (List.mem_map_of_mem hx)
      rw [hc]
      simp
    rw [hl] at hn
    have hn' : n = room - tot es := by rw [hn]; unfold tot; omega
    subst hn'
    repeat' (first | (simp (disch := omega) only [push_cast, ↓reduceIte, zA, zG, zB, zH, zI, zC, zJ, zK, zL, zD, zE, zF, zM, zN, zO, zP, zQ, reduceCtorEq, not_true_eq_false, not_false_eq_true]) | (first | refine vIfE_of ?_ ?_ | refine vIfD_of ?_ ?_ | refine vIfQ_of ?_ ?_ | refine vIfV_of ?_ ?_) <;> intro _ | refine And.intro (by omega) ?_ | refine drawn_q ?_ | fail)
    exact l2
  · obtain ⟨e, he, rfl⟩ := List.mem_map.1 hee
    have hns : seen.contains e.born = false := hns
    have hel : e ∈ lft seen es := List.mem_filter.2 ⟨he, by rw [hns]; rfl⟩
    obtain ⟨t1, t2⟩ := tot_out (l := lft seen es) ((List.Sublist.map _ List.filter_sublist).nodup h.nodup) hel
    rw [← lft_push] at t1 t2
    have hs' : w3'.heap[it]? = some (.mapIter (some r) c seen c) := by rcases hw3' with rfl | rfl <;> exact hs
    have l2' : Later w w3' := by rcases hw3' with rfl | rfl; exact l2; exact l2.drew
    have c3 := chg_setB (w := w3') (r := it) (ks := [it]) (by simp) (.mapIter (some r) c (seen.push e.ent.2.2) c)
    have hs3 : (setB w3' it (.mapIter (some r) c (seen.push e.ent.2.2) c)).heap[it]? = some (.mapIter (some r) c (seen.push e.ent.2.2) c) := setB_at hs'
    have l3 : Later w (setB w3' it (.mapIter (some r) c (seen.push e.ent.2.2) c)) := Chg.later l2' c3 (by intro j hj; rw [List.mem_singleton.1 hj]; omega)
    generalize setB w3' it (.mapIter (some r) c (seen.push e.ent.2.2) c) = w3 at *
    have hs3 : w3.heap[it]? = some (.mapIter (some r) c (seen.push e.born) c) := hs3
    clear hs' l2' c3
    have h3 := h.later l3
    have hok := h3.ok e he
    obtain ⟨os, cs, hsv⟩ := Sl.slice hok.sl
    rw [List.length_map] at hsv
    repeat' (first | (simp (disch := omega) only [push_cast, ↓reduceIte, zA, zG, zB, zH, zI, zC, zJ, zK, zL, zD, zE, zF, zM, zN, zO, zP, zQ, reduceCtorEq, not_true_eq_false, not_false_eq_true]) | (first | refine vIfE_of ?_ ?_ | refine vIfD_of ?_ ?_ | refine vIfQ_of ?_ ?_ | refine vIfV_of ?_ ?_) <;> intro _ | refine And.intro (by omega) ?_ | refine drawn_q ?_ | fail)
    refine vEnt_of (e := e.ent) hs3 h3.map (List.mem_map_of_mem he) (by rw [List.map_map]; exact h.nodup) ?_
    unfold VE.ent
    repeat' (first | (simp (disch := omega) only [push_cast, ↓reduceIte, zA, zG, zB, zH, zI, zC, zJ, zK, zL, zD, zE, zF, zM, zN, zO, zP, zQ, reduceCtorEq, not_true_eq_false, not_false_eq_true]) | (first | refine vIfE_of ?_ ?_ | refine vIfD_of ?_ ?_ | refine vIfQ_of ?_ ?_ | refine vIfV_of ?_ ?_) <;> intro _ | refine And.intro (by omega) ?_ | refine drawn_q ?_ | fail)
    refine vStore_new rfl rfl (by intro u hu; rw [hsv] at hu; simp at hu; rcases hu with rfl | rfl <;> rfl) ?_
    have l4 := later_alloc w3 (.cells #[e.sv, .int .i64 e.safe] 61)
    have f3 : (w3.alloc (.cells #[e.sv, .int .i64 e.safe] 61)).cell? ⟨w3.heap.size, 0, none⟩ = some e.sv := (Blk.new w3 _ _).cell 0
    have hs4 : (w3.alloc (.cells #[e.sv, .int .i64 e.safe] 61)).heap[it]? = some (.mapIter (some r) c (seen.push e.born) c) := (heap_alloc (Array.getElem?_eq_some_iff.1 hs3).1 _).trans hs3
    generalize w3.alloc (.cells #[e.sv, .int .i64 e.safe] 61) = w4 at *
    rw [hsv] at f3
    have hb2 := tot_nn (lft (seen.push e.born) es)
    repeat' (first | (simp (disch := omega) only [push_cast, ↓reduceIte, zA, zG, zB, zH, zI, zC, zJ, zK, zL, zD, zE, zF, zM, zN, zO, zP, zQ, reduceCtorEq, not_true_eq_false, not_false_eq_true, f3, addr_add_eq, Nat.zero_add]) | (first | refine vIfE_of ?_ ?_ | refine vIfD_of ?_ ?_ | refine vIfQ_of ?_ ?_ | refine vIfV_of ?_ ?_) <;> intro _ | refine And.intro (by omega) ?_ | refine drawn_q ?_ | fail)
    exact ⟨rfl, (n - e.b.length, (lft (seen.push e.born) es).length), by simp (disch := omega) only [push_cast, ↓reduceIte, zA, zG, zB, zH, zI, zC, zJ, zK, zL, zD, zE, zF, zM, zN, zO, zP, zQ, reduceCtorEq, not_true_eq_false, not_false_eq_true], ⟨_, hs4, l3.trans l4, rfl, by dsimp only; omega⟩, by dsimp only; omega⟩
end Go.Proofs.Ytmfcnooleejgmaa
end
