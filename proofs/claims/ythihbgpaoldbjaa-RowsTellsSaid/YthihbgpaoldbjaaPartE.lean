/- The functions' code in the generator's form. Written by a program (codes.py) out of Lean's own print of the loaded translation. -/
import Derived.Test.YthihbgpaoldbjaaPartD
set_option linter.all false
section
namespace Go.Proofs.Ythihbgpaoldbjaa
open Go.Vc
set_option maxRecDepth 100000
variable (Q : Post) (ds : List Deferred) (σ : Env) (w : World)
abbrev VR (r l : List VOp) : Prop := ∀ (Q : Post) (ds : List Deferred) (σ : Env) (w : World), vc Try.prog (.region r) Q ds σ w = vcOps Try.prog l (Q .normal ds) σ w
theorem vR {r l : List VOp} (h : r = l) : VR r l := fun Q ds σ w => mk_eq (by subst h; rfl)
abbrev mv (d s t : Nat) : VOp := ⟨some d, .move (.tmp s), t, none⟩
abbrev lda (d t s : Nat) : VOp := ⟨some d, .load t (.tmp s), t, none⟩
abbrev asg (d s t : Nat) : VOp := ⟨some d, .assign (.tmp s), t, none⟩
abbrev ext (d s i t : Nat) : VOp := ⟨some d, .extract (.tmp s) i, t, none⟩
abbrev fad (d t s i : Nat) : VOp := ⟨some d, .fieldAddr t (.tmp s) i, 0, none⟩
abbrev iad (d t s i : Nat) : VOp := ⟨some d, .indexAddr t (.tmp s) (.tmp i), 0, none⟩
/-! 16 columbary/columbarylaw10.Fits (params #[22], results #[(.tmp 2)], 20 slots) -/
def W16_0 : List Nat := [2, 3, 4, 5, 6, 7, 8, 9, 10, 11, 12, 13, 14, 15, 16, 17, 18, 19]
@[push_cast] theorem W16_0_def : W16_0 = [2, 3, 4, 5, 6, 7, 8, 9, 10, 11, 12, 13, 14, 15, 16, 17, 18, 19] := mk_eq rfl
def r16_0 : List VOp :=
  [⟨some 2, .assign (.const (.bool false)), 4, none⟩]
def r16_1 : List VOp :=
  [⟨some 3, .assign (.const (.int .i64 0)), 3, none⟩]
def r16_2 : List VOp :=
  [mv 4 3 3,
   mv 5 0 22,
   ⟨some 6, .call ⟨.builtin .len, #[.tmp 5], #[22]⟩, 3, none⟩,
   ⟨some 7, .binOp .lss 3 (.tmp 4) (.tmp 6) 3, 4, none⟩]
def r16_4 : List VOp :=
  [mv 10 3 3,
   ⟨some 11, .binOp .eql 3 (.tmp 10) (.const (.int .i64 20)) 3, 4, none⟩,
   mv 12 11 4,
   ⟨some 13, .move (.tmp 0), 22, some (12, false)⟩,
   ⟨some 14, .move (.tmp 3), 3, some (12, false)⟩,
   ⟨some 15, .indexAddr 22 (.tmp 13) (.tmp 14), 0, some (12, false)⟩,
   ⟨some 16, .load 9 (.tmp 15), 9, some (12, false)⟩,
   ⟨some 17, .call ⟨.builtin .len, #[.tmp 16], #[9]⟩, 3, some (12, false)⟩,
   ⟨some 18, .binOp .gtr 3 (.tmp 17) (.const (.int .i64 80)) 3, 4, some (12, false)⟩,
   ⟨some 19, .pick (.tmp 12) (.const (.bool true)) (.tmp 18), 4, none⟩]
def r16_5 : List VOp :=
  [⟨some 2, .assign (.const (.bool false)), 4, none⟩]
def r16_3 : List VOp :=
  [mv 8 3 3,
   ⟨some 9, .binOp .add 3 (.tmp 8) (.const (.int .i64 1)) 3, 3, none⟩,
   asg 3 9 3]
def r16_6 : List VOp :=
  [⟨some 2, .assign (.const (.bool true)), 4, none⟩]
def B16 : VC :=
  (.seq (.region r16_0) (.seq (.seq (.region r16_1) (.block 0 (.loop (.seq (.seq (.region r16_2) (.cond (.tmp 7) .skip (.exit 0))) (.seq (.block 1 (.seq (.region r16_4) (.cond (.tmp 19) (.seq (.region r16_5) .ret) .skip))) (.region r16_3)))))) (.seq (.region r16_6) .ret)))
theorem code16 : ∃ c, Try.f16.body = some c ∧ abs Try.f16.ntmps c = B16 := ⟨_, rfl, by kernel_rfl⟩
theorem hb16 : HasBody Try.prog 16 := hasBody_of Try.func16 (by kernel_rfl)
theorem res16 : Try.f16.results = #[(.tmp 2)] := rfl
theorem enter16 {w : World} {R : Value → World → Prop} (x0 : Value) (h : vc Try.prog B16 (retK Try.prog #[(.tmp 2)] R) [] (initEnv [x0] 0) w) : FnC Try.prog 16 #[x0] w R := by
  obtain ⟨c, h1, h2⟩ := code16
  exact hb16.fn (ret_of_vc mixed Try.func16 h1 (Nat.le_of_ble_eq_true rfl) B16 h2 h)
@[push_cast] theorem vr16_0 : VR r16_0 [⟨some 2, .assign (.const (.bool false)), 4, none⟩] := vR rfl
@[push_cast] theorem vr16_1 : VR r16_1 [⟨some 3, .assign (.const (.int .i64 0)), 3, none⟩] := vR rfl
@[push_cast] theorem vr16_2 : VR r16_2 [⟨some 4, .move (.tmp 3), 3, none⟩, ⟨some 5, .move (.tmp 0), 22, none⟩, ⟨some 6, .call ⟨.builtin .len, #[.tmp 5], #[22]⟩, 3, none⟩, ⟨some 7, .binOp .lss 3 (.tmp 4) (.tmp 6) 3, 4, none⟩] := vR rfl
@[push_cast] theorem vr16_4 : VR r16_4 [⟨some 10, .move (.tmp 3), 3, none⟩, ⟨some 11, .binOp .eql 3 (.tmp 10) (.const (.int .i64 20)) 3, 4, none⟩, ⟨some 12, .move (.tmp 11), 4, none⟩, ⟨some 13, .move (.tmp 0), 22, some (12, false)⟩, ⟨some 14, .move (.tmp 3), 3, some (12, false)⟩, ⟨some 15, .indexAddr 22 (.tmp 13) (.tmp 14), 0, some (12, false)⟩, ⟨some 16, .load 9 (.tmp 15), 9, some (12, false)⟩, ⟨some 17, .call ⟨.builtin .len, #[.tmp 16], #[9]⟩, 3, some (12, false)⟩, ⟨some 18, .binOp .gtr 3 (.tmp 17) (.const (.int .i64 80)) 3, 4, some (12, false)⟩, ⟨some 19, .pick (.tmp 12) (.const (.bool true)) (.tmp 18), 4, none⟩] := vR rfl
@[push_cast] theorem vr16_5 : VR r16_5 [⟨some 2, .assign (.const (.bool false)), 4, none⟩] := vR rfl
@[push_cast] theorem vr16_3 : VR r16_3 [⟨some 8, .move (.tmp 3), 3, none⟩, ⟨some 9, .binOp .add 3 (.tmp 8) (.const (.int .i64 1)) 3, 3, none⟩, ⟨some 3, .assign (.tmp 9), 3, none⟩] := vR rfl
@[push_cast] theorem vr16_6 : VR r16_6 [⟨some 2, .assign (.const (.bool true)), 4, none⟩] := vR rfl
/-! 52 slices.Clone[[]string,string] (params #[22], results #[(.tmp 2)], 8 slots) -/
def r52_0 : List VOp :=
  [⟨some 2, .assign (.const (.slice none 0 0)), 22, none⟩]
def r52_1 : List VOp :=
  [mv 3 0 22,
   ⟨some 4, .binOp .eql 22 (.tmp 3) (.const (.slice none 0 0)) 22, 4, none⟩]
def r52_2 : List VOp :=
  [⟨some 2, .assign (.const (.slice none 0 0)), 22, none⟩]
def r52_3 : List VOp :=
  [⟨some 5, .buildSlice 22 0 #[], 22, none⟩,
   mv 6 0 22,
   ⟨some 7, .call ⟨.builtin .append, #[.tmp 5, .tmp 6], #[22, 22]⟩, 22, none⟩,
   asg 2 7 22]
def B52 : VC :=
  (.seq (.region r52_0) (.seq (.seq (.region r52_1) (.cond (.tmp 4) (.seq (.region r52_2) .ret) .skip)) (.seq (.region r52_3) .ret)))
theorem code52 : ∃ c, Try.f52.body = some c ∧ abs Try.f52.ntmps c = B52 := ⟨_, rfl, by kernel_rfl⟩
theorem hb52 : HasBody Try.prog 52 := hasBody_of Try.func52 (by kernel_rfl)
theorem res52 : Try.f52.results = #[(.tmp 2)] := rfl
theorem enter52 {w : World} {R : Value → World → Prop} (x0 : Value) (h : vc Try.prog B52 (retK Try.prog #[(.tmp 2)] R) [] (initEnv [x0] 0) w) : FnC Try.prog 52 #[x0] w R := by
  obtain ⟨c, h1, h2⟩ := code52
  exact hb52.fn (ret_of_vc mixed Try.func52 h1 (Nat.le_of_ble_eq_true rfl) B52 h2 h)
@[push_cast] theorem vr52_0 : VR r52_0 [⟨some 2, .assign (.const (.slice none 0 0)), 22, none⟩] := vR rfl
@[push_cast] theorem vr52_1 : VR r52_1 [⟨some 3, .move (.tmp 0), 22, none⟩, ⟨some 4, .binOp .eql 22 (.tmp 3) (.const (.slice none 0 0)) 22, 4, none⟩] := vR rfl
@[push_cast] theorem vr52_2 : VR r52_2 [⟨some 2, .assign (.const (.slice none 0 0)), 22, none⟩] := vR rfl
@[push_cast] theorem vr52_3 : VR r52_3 [⟨some 5, .buildSlice 22 0 #[], 22, none⟩, ⟨some 6, .move (.tmp 0), 22, none⟩, ⟨some 7, .call ⟨.builtin .append, #[.tmp 5, .tmp 6], #[22, 22]⟩, 22, none⟩, ⟨some 2, .assign (.tmp 7), 22, none⟩] := vR rfl
/-! 54 columbary/columbarylaw13.one (params #[], results #[(.cell 0 24)], 4 slots) -/
def r54_0 : List VOp :=
  [⟨some 0, .alloc 24, 0, none⟩]
def r54_1 : List VOp :=
  [⟨some 1, .buildSlice 22 1 #[(0, (.const (.string { data := #[97] })))], 22, none⟩,
   ⟨some 2, .buildSlice 22 1 #[(0, (.const (.string { data := #[109] })))], 22, none⟩,
   ⟨some 3, .build 24 #[(0, (.tmp 1)), (1, (.tmp 2))], 24, none⟩,
   ⟨none, .store 24 (.tmp 0) (.tmp 3), 0, none⟩]
def B54 : VC :=
  (.seq (.region r54_0) (.seq (.region r54_1) .ret))
theorem code54 : ∃ c, Try.f54.body = some c ∧ abs Try.f54.ntmps c = B54 := ⟨_, rfl, by kernel_rfl⟩
theorem hb54 : HasBody Try.prog 54 := hasBody_of Try.func54 (by kernel_rfl)
theorem res54 : Try.f54.results = #[(.cell 0 24)] := rfl
theorem enter54 {w : World} {R : Value → World → Prop} (h : vc Try.prog B54 (retK Try.prog #[(.cell 0 24)] R) [] (initEnv [] 0) w) : FnC Try.prog 54 #[] w R := by
  obtain ⟨c, h1, h2⟩ := code54
  exact hb54.fn (ret_of_vc mixed Try.func54 h1 (Nat.le_of_ble_eq_true rfl) B54 h2 h)
@[push_cast] theorem vr54_0 : VR r54_0 [⟨some 0, .alloc 24, 0, none⟩] := vR rfl
@[push_cast] theorem vr54_1 : VR r54_1 [⟨some 1, .buildSlice 22 1 #[(0, (.const (.string { data := #[97] })))], 22, none⟩, ⟨some 2, .buildSlice 22 1 #[(0, (.const (.string { data := #[109] })))], 22, none⟩, ⟨some 3, .build 24 #[(0, (.tmp 1)), (1, (.tmp 2))], 24, none⟩, ⟨none, .store 24 (.tmp 0) (.tmp 3), 0, none⟩] := vR rfl
/-! 55 columbary/schema.Check (params #[24, 49], results #[(.tmp 4)], 39 slots) -/
def r55_0 : List VOp :=
  [⟨some 2, .box 24 (.tmp 0), 0, none⟩,
   ⟨some 3, .box 49 (.tmp 1), 0, none⟩,
   ⟨some 4, .assign (.const (.int .i64 0)), 28, none⟩]
def r55_1 : List VOp :=
  [fad 6 49 3 1,
   lda 7 22 6,
   ⟨some 8, .call ⟨.builtin .len, #[.tmp 7], #[22]⟩, 3, none⟩,
   fad 9 24 2 0,
   lda 10 22 9,
   ⟨some 11, .call ⟨.builtin .len, #[.tmp 10], #[22]⟩, 3, none⟩,
   ⟨some 12, .binOp .neq 3 (.tmp 8) (.tmp 11) 3, 4, none⟩,
   mv 13 12 4,
   ⟨some 14, .fieldAddr 49 (.tmp 3) 2, 0, some (13, false)⟩,
   ⟨some 15, .load 47 (.tmp 14), 47, some (13, false)⟩,
   ⟨some 16, .call ⟨.builtin .len, #[.tmp 15], #[47]⟩, 3, some (13, false)⟩,
   ⟨some 17, .fieldAddr 24 (.tmp 2) 1, 0, some (13, false)⟩,
   ⟨some 18, .load 22 (.tmp 17), 22, some (13, false)⟩,
   ⟨some 19, .call ⟨.builtin .len, #[.tmp 18], #[22]⟩, 3, some (13, false)⟩,
   ⟨some 20, .binOp .neq 3 (.tmp 16) (.tmp 19) 3, 4, some (13, false)⟩,
   ⟨some 21, .pick (.tmp 13) (.const (.bool true)) (.tmp 20), 4, none⟩,
   asg 5 21 4]
def r55_2 : List VOp :=
  [⟨some 4, .assign (.const (.int .i64 101)), 28, none⟩]
def r55_3 : List VOp :=
  [fad 23 49 3 1,
   lda 24 22 23,
   ⟨some 25, .call ⟨.value (.func 59), #[(.tmp 24), (.func 88)], #[22, 81]⟩, 4, none⟩,
   asg 22 25 4]
def r55_4 : List VOp :=
  [⟨some 4, .assign (.const (.int .i64 102)), 28, none⟩]
def r55_5 : List VOp :=
  [fad 27 49 3 2,
   lda 28 47 27,
   ⟨some 29, .call ⟨.value (.func 89), #[(.tmp 28), (.func 90)], #[47, 68]⟩, 4, none⟩,
   asg 26 29 4]
def r55_6 : List VOp :=
  [⟨some 4, .assign (.const (.int .i64 102)), 28, none⟩]
def r55_7 : List VOp :=
  [fad 31 49 3 0,
   lda 32 3 31,
   ⟨some 33, .binOp .lss 3 (.tmp 32) (.const (.int .i64 0)) 3, 4, none⟩,
   mv 34 33 4,
   ⟨some 35, .fieldAddr 49 (.tmp 3) 0, 0, some (34, false)⟩,
   ⟨some 36, .load 3 (.tmp 35), 3, some (34, false)⟩,
   ⟨some 37, .binOp .gtr 3 (.tmp 36) (.const (.int .i64 1099511627776)) 3, 4, some (34, false)⟩,
   ⟨some 38, .pick (.tmp 34) (.const (.bool true)) (.tmp 37), 4, none⟩,
   asg 30 38 4]
def r55_8 : List VOp :=
  [⟨some 4, .assign (.const (.int .i64 181)), 28, none⟩]
def r55_9 : List VOp :=
  [⟨some 4, .assign (.const (.int .i64 0)), 28, none⟩]
def B55 : VC :=
  (.seq (.region r55_0) (.seq (.block 0 (.seq (.region r55_1) (.cond (.tmp 5) (.seq (.region r55_2) .ret) (.seq (.region r55_3) (.cond (.tmp 22) (.seq (.region r55_4) .ret) (.seq (.region r55_5) (.cond (.tmp 26) (.seq (.region r55_6) .ret) (.seq (.region r55_7) (.cond (.tmp 30) (.seq (.region r55_8) .ret) .skip))))))))) (.seq (.region r55_9) .ret)))
theorem code55 : ∃ c, Try.f55.body = some c ∧ abs Try.f55.ntmps c = B55 := ⟨_, rfl, by kernel_rfl⟩
theorem hb55 : HasBody Try.prog 55 := hasBody_of Try.func55 (by kernel_rfl)
theorem res55 : Try.f55.results = #[(.tmp 4)] := rfl
theorem enter55 {w : World} {R : Value → World → Prop} (x0 x1 : Value) (h : vc Try.prog B55 (retK Try.prog #[(.tmp 4)] R) [] (initEnv [x0, x1] 0) w) : FnC Try.prog 55 #[x0, x1] w R := by
  obtain ⟨c, h1, h2⟩ := code55
  exact hb55.fn (ret_of_vc mixed Try.func55 h1 (Nat.le_of_ble_eq_true rfl) B55 h2 h)
@[push_cast] theorem vr55_0 : VR r55_0 [⟨some 2, .box 24 (.tmp 0), 0, none⟩, ⟨some 3, .box 49 (.tmp 1), 0, none⟩, ⟨some 4, .assign (.const (.int .i64 0)), 28, none⟩] := vR rfl
@[push_cast] theorem vr55_1 : VR r55_1 [⟨some 6, .fieldAddr 49 (.tmp 3) 1, 0, none⟩, ⟨some 7, .load 22 (.tmp 6), 22, none⟩, ⟨some 8, .call ⟨.builtin .len, #[.tmp 7], #[22]⟩, 3, none⟩, ⟨some 9, .fieldAddr 24 (.tmp 2) 0, 0, none⟩, ⟨some 10, .load 22 (.tmp 9), 22, none⟩, ⟨some 11, .call ⟨.builtin .len, #[.tmp 10], #[22]⟩, 3, none⟩, ⟨some 12, .binOp .neq 3 (.tmp 8) (.tmp 11) 3, 4, none⟩, ⟨some 13, .move (.tmp 12), 4, none⟩, ⟨some 14, .fieldAddr 49 (.tmp 3) 2, 0, some (13, false)⟩, ⟨some 15, .load 47 (.tmp 14), 47, some (13, false)⟩, ⟨some 16, .call ⟨.builtin .len, #[.tmp 15], #[47]⟩, 3, some (13, false)⟩, ⟨some 17, .fieldAddr 24 (.tmp 2) 1, 0, some (13, false)⟩, ⟨some 18, .load 22 (.tmp 17), 22, some (13, false)⟩, ⟨some 19, .call ⟨.builtin .len, #[.tmp 18], #[22]⟩, 3, some (13, false)⟩, ⟨some 20, .binOp .neq 3 (.tmp 16) (.tmp 19) 3, 4, some (13, false)⟩, ⟨some 21, .pick (.tmp 13) (.const (.bool true)) (.tmp 20), 4, none⟩, ⟨some 5, .assign (.tmp 21), 4, none⟩] := vR rfl
@[push_cast] theorem vr55_2 : VR r55_2 [⟨some 4, .assign (.const (.int .i64 101)), 28, none⟩] := vR rfl
@[push_cast] theorem vr55_3 : VR r55_3 [⟨some 23, .fieldAddr 49 (.tmp 3) 1, 0, none⟩, ⟨some 24, .load 22 (.tmp 23), 22, none⟩, ⟨some 25, .call ⟨.value (.func 59), #[(.tmp 24), (.func 88)], #[22, 81]⟩, 4, none⟩, ⟨some 22, .assign (.tmp 25), 4, none⟩] := vR rfl
@[push_cast] theorem vr55_4 : VR r55_4 [⟨some 4, .assign (.const (.int .i64 102)), 28, none⟩] := vR rfl
@[push_cast] theorem vr55_5 : VR r55_5 [⟨some 27, .fieldAddr 49 (.tmp 3) 2, 0, none⟩, ⟨some 28, .load 47 (.tmp 27), 47, none⟩, ⟨some 29, .call ⟨.value (.func 89), #[(.tmp 28), (.func 90)], #[47, 68]⟩, 4, none⟩, ⟨some 26, .assign (.tmp 29), 4, none⟩] := vR rfl
@[push_cast] theorem vr55_6 : VR r55_6 [⟨some 4, .assign (.const (.int .i64 102)), 28, none⟩] := vR rfl
@[push_cast] theorem vr55_7 : VR r55_7 [⟨some 31, .fieldAddr 49 (.tmp 3) 0, 0, none⟩, ⟨some 32, .load 3 (.tmp 31), 3, none⟩, ⟨some 33, .binOp .lss 3 (.tmp 32) (.const (.int .i64 0)) 3, 4, none⟩, ⟨some 34, .move (.tmp 33), 4, none⟩, ⟨some 35, .fieldAddr 49 (.tmp 3) 0, 0, some (34, false)⟩, ⟨some 36, .load 3 (.tmp 35), 3, some (34, false)⟩, ⟨some 37, .binOp .gtr 3 (.tmp 36) (.const (.int .i64 1099511627776)) 3, 4, some (34, false)⟩, ⟨some 38, .pick (.tmp 34) (.const (.bool true)) (.tmp 37), 4, none⟩, ⟨some 30, .assign (.tmp 38), 4, none⟩] := vR rfl
@[push_cast] theorem vr55_8 : VR r55_8 [⟨some 4, .assign (.const (.int .i64 181)), 28, none⟩] := vR rfl
@[push_cast] theorem vr55_9 : VR r55_9 [⟨some 4, .assign (.const (.int .i64 0)), 28, none⟩] := vR rfl
/-! 56 columbary/agg.One (params #[3], results #[(.cell 2 64), (.tmp 3)], 13 slots) -/
def r56_0 : List VOp :=
  [⟨some 2, .alloc 64, 0, none⟩,
   ⟨some 3, .assign (.const (.int .i64 0)), 28, none⟩]
def r56_1 : List VOp :=
  [mv 4 0 3,
   ⟨some 5, .buildSlice 47 1 #[(0, (.tmp 4))], 47, none⟩,
   ⟨some 6, .call ⟨.value (.func 91), #[.tmp 5], #[47]⟩, 4, none⟩,
   ⟨some 7, .unOp .not 4 (.tmp 6), 4, none⟩]
def r56_2 : List VOp :=
  [⟨some 8, .build 64 #[], 64, none⟩,
   ⟨none, .store 64 (.tmp 2) (.tmp 8), 0, none⟩,
   ⟨some 3, .assign (.const (.int .i64 121)), 28, none⟩]
def r56_3 : List VOp :=
  [mv 9 0 3,
   mv 10 0 3,
   mv 11 0 3,
   ⟨some 12, .build 64 #[(0, (.tmp 9)), (1, (.tmp 10)), (2, (.tmp 11))], 64, none⟩,
   ⟨none, .store 64 (.tmp 2) (.tmp 12), 0, none⟩,
   ⟨some 3, .assign (.const (.int .i64 0)), 28, none⟩]
def B56 : VC :=
  (.seq (.region r56_0) (.seq (.seq (.region r56_1) (.cond (.tmp 7) (.seq (.region r56_2) .ret) .skip)) (.seq (.region r56_3) .ret)))
theorem code56 : ∃ c, Try.f56.body = some c ∧ abs Try.f56.ntmps c = B56 := ⟨_, rfl, by kernel_rfl⟩
theorem hb56 : HasBody Try.prog 56 := hasBody_of Try.func56 (by kernel_rfl)
theorem res56 : Try.f56.results = #[(.cell 2 64), (.tmp 3)] := rfl
theorem enter56 {w : World} {R : Value → World → Prop} (x0 : Value) (h : vc Try.prog B56 (retK Try.prog #[(.cell 2 64), (.tmp 3)] R) [] (initEnv [x0] 0) w) : FnC Try.prog 56 #[x0] w R := by
  obtain ⟨c, h1, h2⟩ := code56
  exact hb56.fn (ret_of_vc mixed Try.func56 h1 (Nat.le_of_ble_eq_true rfl) B56 h2 h)
@[push_cast] theorem vr56_0 : VR r56_0 [⟨some 2, .alloc 64, 0, none⟩, ⟨some 3, .assign (.const (.int .i64 0)), 28, none⟩] := vR rfl
@[push_cast] theorem vr56_1 : VR r56_1 [⟨some 4, .move (.tmp 0), 3, none⟩, ⟨some 5, .buildSlice 47 1 #[(0, (.tmp 4))], 47, none⟩, ⟨some 6, .call ⟨.value (.func 91), #[.tmp 5], #[47]⟩, 4, none⟩, ⟨some 7, .unOp .not 4 (.tmp 6), 4, none⟩] := vR rfl
@[push_cast] theorem vr56_2 : VR r56_2 [⟨some 8, .build 64 #[], 64, none⟩, ⟨none, .store 64 (.tmp 2) (.tmp 8), 0, none⟩, ⟨some 3, .assign (.const (.int .i64 121)), 28, none⟩] := vR rfl
@[push_cast] theorem vr56_3 : VR r56_3 [⟨some 9, .move (.tmp 0), 3, none⟩, ⟨some 10, .move (.tmp 0), 3, none⟩, ⟨some 11, .move (.tmp 0), 3, none⟩, ⟨some 12, .build 64 #[(0, (.tmp 9)), (1, (.tmp 10)), (2, (.tmp 11))], 64, none⟩, ⟨none, .store 64 (.tmp 2) (.tmp 12), 0, none⟩, ⟨some 3, .assign (.const (.int .i64 0)), 28, none⟩] := vR rfl
/-! 57 columbary/columbaryref10.Check (params #[24, 49], results #[(.tmp 4)], 68 slots) -/
def W57_0 : List Nat := [4, 5, 6, 24, 25, 26, 27, 28, 29, 30, 31, 32, 33, 34, 35, 36, 37, 38]
@[push_cast] theorem W57_0_def : W57_0 = [4, 5, 6, 24, 25, 26, 27, 28, 29, 30, 31, 32, 33, 34, 35, 36, 37, 38] := mk_eq rfl
def W57_1 : List Nat := [4, 7, 39, 40, 41, 42, 43, 44, 45, 46, 47, 48, 49, 50, 51, 52, 53, 54, 55, 56, 57, 58, 59]
@[push_cast] theorem W57_1_def : W57_1 = [4, 7, 39, 40, 41, 42, 43, 44, 45, 46, 47, 48, 49, 50, 51, 52, 53, 54, 55, 56, 57, 58, 59] := mk_eq rfl
def r57_0 : List VOp :=
  [⟨some 2, .box 24 (.tmp 0), 0, none⟩,
   ⟨some 3, .box 49 (.tmp 1), 0, none⟩,
   ⟨some 4, .assign (.const (.int .i64 0)), 28, none⟩]
def r57_1 : List VOp :=
  [fad 8 49 3 1,
   lda 9 22 8,
   ⟨some 10, .call ⟨.builtin .len, #[.tmp 9], #[22]⟩, 3, none⟩,
   fad 11 24 2 0,
   lda 12 22 11,
   ⟨some 13, .call ⟨.builtin .len, #[.tmp 12], #[22]⟩, 3, none⟩,
   ⟨some 14, .binOp .neq 3 (.tmp 10) (.tmp 13) 3, 4, none⟩,
   mv 15 14 4,
   ⟨some 16, .fieldAddr 49 (.tmp 3) 2, 0, some (15, false)⟩,
   ⟨some 17, .load 47 (.tmp 16), 47, some (15, false)⟩,
   ⟨some 18, .call ⟨.builtin .len, #[.tmp 17], #[47]⟩, 3, some (15, false)⟩,
   ⟨some 19, .fieldAddr 24 (.tmp 2) 1, 0, some (15, false)⟩,
   ⟨some 20, .load 22 (.tmp 19), 22, some (15, false)⟩,
   ⟨some 21, .call ⟨.builtin .len, #[.tmp 20], #[22]⟩, 3, some (15, false)⟩,
   ⟨some 22, .binOp .neq 3 (.tmp 18) (.tmp 21) 3, 4, some (15, false)⟩,
   ⟨some 23, .pick (.tmp 15) (.const (.bool true)) (.tmp 22), 4, none⟩]
def r57_2 : List VOp :=
  [⟨some 4, .assign (.const (.int .i64 101)), 28, none⟩]
def r57_3 : List VOp :=
  [⟨some 5, .assign (.const (.int .i64 0)), 3, none⟩]
def r57_4 : List VOp :=
  [mv 24 5 3,
   fad 25 49 3 1,
   lda 26 22 25,
   ⟨some 27, .call ⟨.builtin .len, #[.tmp 26], #[22]⟩, 3, none⟩,
   ⟨some 28, .binOp .lss 3 (.tmp 24) (.tmp 27) 3, 4, none⟩]
def r57_6 : List VOp :=
  [fad 31 49 3 1,
   lda 32 22 31,
   mv 33 5 3,
   iad 34 22 32 33,
   lda 35 9 34,
   ⟨some 36, .call ⟨.value (.func 65), #[.tmp 35], #[9]⟩, 4, none⟩,
   asg 6 36 4]
def r57_7 : List VOp :=
  [mv 37 6 4,
   ⟨some 38, .unOp .not 4 (.tmp 37), 4, none⟩]
def r57_8 : List VOp :=
  [⟨some 4, .assign (.const (.int .i64 102)), 28, none⟩]
def r57_5 : List VOp :=
  [mv 29 5 3,
   ⟨some 30, .binOp .add 3 (.tmp 29) (.const (.int .i64 1)) 3, 3, none⟩,
   asg 5 30 3]
def r57_9 : List VOp :=
  [⟨some 7, .assign (.const (.int .i64 0)), 3, none⟩]
def r57_10 : List VOp :=
  [mv 39 7 3,
   fad 40 49 3 2,
   lda 41 47 40,
   ⟨some 42, .call ⟨.builtin .len, #[.tmp 41], #[47]⟩, 3, none⟩,
   ⟨some 43, .binOp .lss 3 (.tmp 39) (.tmp 42) 3, 4, none⟩]
def r57_12 : List VOp :=
  [fad 46 49 3 2,
   lda 47 47 46,
   mv 48 7 3,
   iad 49 47 47 48,
   lda 50 3 49,
   ⟨some 51, .binOp .lss 3 (.tmp 50) (.const (.int .i64 (-4611686018427387904))) 3, 4, none⟩,
   mv 52 51 4,
   ⟨some 53, .fieldAddr 49 (.tmp 3) 2, 0, some (52, false)⟩,
   ⟨some 54, .load 47 (.tmp 53), 47, some (52, false)⟩,
   ⟨some 55, .move (.tmp 7), 3, some (52, false)⟩,
   ⟨some 56, .indexAddr 47 (.tmp 54) (.tmp 55), 0, some (52, false)⟩,
   ⟨some 57, .load 3 (.tmp 56), 3, some (52, false)⟩,
   ⟨some 58, .binOp .gtr 3 (.tmp 57) (.const (.int .i64 4611686018427387904)) 3, 4, some (52, false)⟩,
   ⟨some 59, .pick (.tmp 52) (.const (.bool true)) (.tmp 58), 4, none⟩]
def r57_13 : List VOp :=
  [⟨some 4, .assign (.const (.int .i64 102)), 28, none⟩]
def r57_11 : List VOp :=
  [mv 44 7 3,
   ⟨some 45, .binOp .add 3 (.tmp 44) (.const (.int .i64 1)) 3, 3, none⟩,
   asg 7 45 3]
def r57_14 : List VOp :=
  [fad 60 49 3 0,
   lda 61 3 60,
   ⟨some 62, .binOp .lss 3 (.tmp 61) (.const (.int .i64 0)) 3, 4, none⟩,
   mv 63 62 4,
   ⟨some 64, .fieldAddr 49 (.tmp 3) 0, 0, some (63, false)⟩,
   ⟨some 65, .load 3 (.tmp 64), 3, some (63, false)⟩,
   ⟨some 66, .binOp .gtr 3 (.tmp 65) (.const (.int .i64 1099511627776)) 3, 4, some (63, false)⟩,
   ⟨some 67, .pick (.tmp 63) (.const (.bool true)) (.tmp 66), 4, none⟩]
def r57_15 : List VOp :=
  [⟨some 4, .assign (.const (.int .i64 181)), 28, none⟩]
def r57_16 : List VOp :=
  [⟨some 4, .assign (.const (.int .i64 0)), 28, none⟩]
def B57 : VC :=
  (.seq (.region r57_0) (.seq (.seq (.region r57_1) (.cond (.tmp 23) (.seq (.region r57_2) .ret) .skip)) (.seq (.seq (.region r57_3) (.block 0 (.loop (.seq (.seq (.region r57_4) (.cond (.tmp 28) .skip (.exit 0))) (.seq (.block 1 (.seq (.region r57_6) (.seq (.region r57_7) (.cond (.tmp 38) (.seq (.region r57_8) .ret) .skip)))) (.region r57_5)))))) (.seq (.seq (.region r57_9) (.block 2 (.loop (.seq (.seq (.region r57_10) (.cond (.tmp 43) .skip (.exit 2))) (.seq (.block 3 (.seq (.region r57_12) (.cond (.tmp 59) (.seq (.region r57_13) .ret) .skip))) (.region r57_11)))))) (.seq (.seq (.region r57_14) (.cond (.tmp 67) (.seq (.region r57_15) .ret) .skip)) (.seq (.region r57_16) .ret))))))
theorem code57 : ∃ c, Try.f57.body = some c ∧ abs Try.f57.ntmps c = B57 := ⟨_, rfl, by kernel_rfl⟩
theorem hb57 : HasBody Try.prog 57 := hasBody_of Try.func57 (by kernel_rfl)
theorem res57 : Try.f57.results = #[(.tmp 4)] := rfl
theorem enter57 {w : World} {R : Value → World → Prop} (x0 x1 : Value) (h : vc Try.prog B57 (retK Try.prog #[(.tmp 4)] R) [] (initEnv [x0, x1] 0) w) : FnC Try.prog 57 #[x0, x1] w R := by
  obtain ⟨c, h1, h2⟩ := code57
  exact hb57.fn (ret_of_vc mixed Try.func57 h1 (Nat.le_of_ble_eq_true rfl) B57 h2 h)
@[push_cast] theorem vr57_0 : VR r57_0 [⟨some 2, .box 24 (.tmp 0), 0, none⟩, ⟨some 3, .box 49 (.tmp 1), 0, none⟩, ⟨some 4, .assign (.const (.int .i64 0)), 28, none⟩] := vR rfl
@[push_cast] theorem vr57_1 : VR r57_1 [⟨some 8, .fieldAddr 49 (.tmp 3) 1, 0, none⟩, ⟨some 9, .load 22 (.tmp 8), 22, none⟩, ⟨some 10, .call ⟨.builtin .len, #[.tmp 9], #[22]⟩, 3, none⟩, ⟨some 11, .fieldAddr 24 (.tmp 2) 0, 0, none⟩, ⟨some 12, .load 22 (.tmp 11), 22, none⟩, ⟨some 13, .call ⟨.builtin .len, #[.tmp 12], #[22]⟩, 3, none⟩, ⟨some 14, .binOp .neq 3 (.tmp 10) (.tmp 13) 3, 4, none⟩, ⟨some 15, .move (.tmp 14), 4, none⟩, ⟨some 16, .fieldAddr 49 (.tmp 3) 2, 0, some (15, false)⟩, ⟨some 17, .load 47 (.tmp 16), 47, some (15, false)⟩, ⟨some 18, .call ⟨.builtin .len, #[.tmp 17], #[47]⟩, 3, some (15, false)⟩, ⟨some 19, .fieldAddr 24 (.tmp 2) 1, 0, some (15, false)⟩, ⟨some 20, .load 22 (.tmp 19), 22, some (15, false)⟩, ⟨some 21, .call ⟨.builtin .len, #[.tmp 20], #[22]⟩, 3, some (15, false)⟩, ⟨some 22, .binOp .neq 3 (.tmp 18) (.tmp 21) 3, 4, some (15, false)⟩, ⟨some 23, .pick (.tmp 15) (.const (.bool true)) (.tmp 22), 4, none⟩] := vR rfl
@[push_cast] theorem vr57_2 : VR r57_2 [⟨some 4, .assign (.const (.int .i64 101)), 28, none⟩] := vR rfl
@[push_cast] theorem vr57_3 : VR r57_3 [⟨some 5, .assign (.const (.int .i64 0)), 3, none⟩] := vR rfl
@[push_cast] theorem vr57_4 : VR r57_4 [⟨some 24, .move (.tmp 5), 3, none⟩, ⟨some 25, .fieldAddr 49 (.tmp 3) 1, 0, none⟩, ⟨some 26, .load 22 (.tmp 25), 22, none⟩, ⟨some 27, .call ⟨.builtin .len, #[.tmp 26], #[22]⟩, 3, none⟩, ⟨some 28, .binOp .lss 3 (.tmp 24) (.tmp 27) 3, 4, none⟩] := vR rfl
@[push_cast] theorem vr57_6 : VR r57_6 [⟨some 31, .fieldAddr 49 (.tmp 3) 1, 0, none⟩, ⟨some 32, .load 22 (.tmp 31), 22, none⟩, ⟨some 33, .move (.tmp 5), 3, none⟩, ⟨some 34, .indexAddr 22 (.tmp 32) (.tmp 33), 0, none⟩, ⟨some 35, .load 9 (.tmp 34), 9, none⟩, ⟨some 36, .call ⟨.value (.func 65), #[.tmp 35], #[9]⟩, 4, none⟩, ⟨some 6, .assign (.tmp 36), 4, none⟩] := vR rfl
@[push_cast] theorem vr57_7 : VR r57_7 [⟨some 37, .move (.tmp 6), 4, none⟩, ⟨some 38, .unOp .not 4 (.tmp 37), 4, none⟩] := vR rfl
@[push_cast] theorem vr57_8 : VR r57_8 [⟨some 4, .assign (.const (.int .i64 102)), 28, none⟩] := vR rfl
@[push_cast] theorem vr57_5 : VR r57_5 [⟨some 29, .move (.tmp 5), 3, none⟩, ⟨some 30, .binOp .add 3 (.tmp 29) (.const (.int .i64 1)) 3, 3, none⟩, ⟨some 5, .assign (.tmp 30), 3, none⟩] := vR rfl
@[push_cast] theorem vr57_9 : VR r57_9 [⟨some 7, .assign (.const (.int .i64 0)), 3, none⟩] := vR rfl
@[push_cast] theorem vr57_10 : VR r57_10 [⟨some 39, .move (.tmp 7), 3, none⟩, ⟨some 40, .fieldAddr 49 (.tmp 3) 2, 0, none⟩, ⟨some 41, .load 47 (.tmp 40), 47, none⟩, ⟨some 42, .call ⟨.builtin .len, #[.tmp 41], #[47]⟩, 3, none⟩, ⟨some 43, .binOp .lss 3 (.tmp 39) (.tmp 42) 3, 4, none⟩] := vR rfl
@[push_cast] theorem vr57_12 : VR r57_12 [⟨some 46, .fieldAddr 49 (.tmp 3) 2, 0, none⟩, ⟨some 47, .load 47 (.tmp 46), 47, none⟩, ⟨some 48, .move (.tmp 7), 3, none⟩, ⟨some 49, .indexAddr 47 (.tmp 47) (.tmp 48), 0, none⟩, ⟨some 50, .load 3 (.tmp 49), 3, none⟩, ⟨some 51, .binOp .lss 3 (.tmp 50) (.const (.int .i64 (-4611686018427387904))) 3, 4, none⟩, ⟨some 52, .move (.tmp 51), 4, none⟩, ⟨some 53, .fieldAddr 49 (.tmp 3) 2, 0, some (52, false)⟩, ⟨some 54, .load 47 (.tmp 53), 47, some (52, false)⟩, ⟨some 55, .move (.tmp 7), 3, some (52, false)⟩, ⟨some 56, .indexAddr 47 (.tmp 54) (.tmp 55), 0, some (52, false)⟩, ⟨some 57, .load 3 (.tmp 56), 3, some (52, false)⟩, ⟨some 58, .binOp .gtr 3 (.tmp 57) (.const (.int .i64 4611686018427387904)) 3, 4, some (52, false)⟩, ⟨some 59, .pick (.tmp 52) (.const (.bool true)) (.tmp 58), 4, none⟩] := vR rfl
@[push_cast] theorem vr57_13 : VR r57_13 [⟨some 4, .assign (.const (.int .i64 102)), 28, none⟩] := vR rfl
@[push_cast] theorem vr57_11 : VR r57_11 [⟨some 44, .move (.tmp 7), 3, none⟩, ⟨some 45, .binOp .add 3 (.tmp 44) (.const (.int .i64 1)) 3, 3, none⟩, ⟨some 7, .assign (.tmp 45), 3, none⟩] := vR rfl
@[push_cast] theorem vr57_14 : VR r57_14 [⟨some 60, .fieldAddr 49 (.tmp 3) 0, 0, none⟩, ⟨some 61, .load 3 (.tmp 60), 3, none⟩, ⟨some 62, .binOp .lss 3 (.tmp 61) (.const (.int .i64 0)) 3, 4, none⟩, ⟨some 63, .move (.tmp 62), 4, none⟩, ⟨some 64, .fieldAddr 49 (.tmp 3) 0, 0, some (63, false)⟩, ⟨some 65, .load 3 (.tmp 64), 3, some (63, false)⟩, ⟨some 66, .binOp .gtr 3 (.tmp 65) (.const (.int .i64 1099511627776)) 3, 4, some (63, false)⟩, ⟨some 67, .pick (.tmp 63) (.const (.bool true)) (.tmp 66), 4, none⟩] := vR rfl
@[push_cast] theorem vr57_15 : VR r57_15 [⟨some 4, .assign (.const (.int .i64 181)), 28, none⟩] := vR rfl
@[push_cast] theorem vr57_16 : VR r57_16 [⟨some 4, .assign (.const (.int .i64 0)), 28, none⟩] := vR rfl
/-! 58 columbary/columbaryref12.One (params #[3], results #[(.cell 2 64), (.tmp 3)], 14 slots) -/
def r58_0 : List VOp :=
  [⟨some 2, .alloc 64, 0, none⟩,
   ⟨some 3, .assign (.const (.int .i64 0)), 28, none⟩]
def r58_1 : List VOp :=
  [mv 5 0 3,
   ⟨some 6, .call ⟨.value (.func 92), #[.tmp 5], #[3]⟩, 4, none⟩,
   asg 4 6 4]
def r58_2 : List VOp :=
  [mv 7 4 4,
   ⟨some 8, .unOp .not 4 (.tmp 7), 4, none⟩]
def r58_3 : List VOp :=
  [⟨some 9, .build 64 #[], 64, none⟩,
   ⟨none, .store 64 (.tmp 2) (.tmp 9), 0, none⟩,
   ⟨some 3, .assign (.const (.int .i64 121)), 28, none⟩]
def r58_4 : List VOp :=
  [mv 10 0 3,
   mv 11 0 3,
   mv 12 0 3,
   ⟨some 13, .build 64 #[(0, (.tmp 10)), (1, (.tmp 11)), (2, (.tmp 12))], 64, none⟩,
   ⟨none, .store 64 (.tmp 2) (.tmp 13), 0, none⟩,
   ⟨some 3, .assign (.const (.int .i64 0)), 28, none⟩]
def B58 : VC :=
  (.seq (.region r58_0) (.seq (.region r58_1) (.seq (.seq (.region r58_2) (.cond (.tmp 8) (.seq (.region r58_3) .ret) .skip)) (.seq (.region r58_4) .ret))))
theorem code58 : ∃ c, Try.f58.body = some c ∧ abs Try.f58.ntmps c = B58 := ⟨_, rfl, by kernel_rfl⟩
theorem hb58 : HasBody Try.prog 58 := hasBody_of Try.func58 (by kernel_rfl)
theorem res58 : Try.f58.results = #[(.cell 2 64), (.tmp 3)] := rfl
theorem enter58 {w : World} {R : Value → World → Prop} (x0 : Value) (h : vc Try.prog B58 (retK Try.prog #[(.cell 2 64), (.tmp 3)] R) [] (initEnv [x0] 0) w) : FnC Try.prog 58 #[x0] w R := by
  obtain ⟨c, h1, h2⟩ := code58
  exact hb58.fn (ret_of_vc mixed Try.func58 h1 (Nat.le_of_ble_eq_true rfl) B58 h2 h)
@[push_cast] theorem vr58_0 : VR r58_0 [⟨some 2, .alloc 64, 0, none⟩, ⟨some 3, .assign (.const (.int .i64 0)), 28, none⟩] := vR rfl
@[push_cast] theorem vr58_1 : VR r58_1 [⟨some 5, .move (.tmp 0), 3, none⟩, ⟨some 6, .call ⟨.value (.func 92), #[.tmp 5], #[3]⟩, 4, none⟩, ⟨some 4, .assign (.tmp 6), 4, none⟩] := vR rfl
@[push_cast] theorem vr58_2 : VR r58_2 [⟨some 7, .move (.tmp 4), 4, none⟩, ⟨some 8, .unOp .not 4 (.tmp 7), 4, none⟩] := vR rfl
@[push_cast] theorem vr58_3 : VR r58_3 [⟨some 9, .build 64 #[], 64, none⟩, ⟨none, .store 64 (.tmp 2) (.tmp 9), 0, none⟩, ⟨some 3, .assign (.const (.int .i64 121)), 28, none⟩] := vR rfl
@[push_cast] theorem vr58_4 : VR r58_4 [⟨some 10, .move (.tmp 0), 3, none⟩, ⟨some 11, .move (.tmp 0), 3, none⟩, ⟨some 12, .move (.tmp 0), 3, none⟩, ⟨some 13, .build 64 #[(0, (.tmp 10)), (1, (.tmp 11)), (2, (.tmp 12))], 64, none⟩, ⟨none, .store 64 (.tmp 2) (.tmp 13), 0, none⟩, ⟨some 3, .assign (.const (.int .i64 0)), 28, none⟩] := vR rfl
/-! 59 slices.ContainsFunc[[]string,string] (params #[22, 81], results #[(.tmp 4)], 9 slots) -/
def r59_0 : List VOp :=
  [⟨some 4, .assign (.const (.bool false)), 4, none⟩]
def r59_1 : List VOp :=
  [mv 5 0 22,
   mv 6 1 81,
   ⟨some 7, .call ⟨.value (.func 93), #[.tmp 5, .tmp 6], #[22, 81]⟩, 3, none⟩,
   ⟨some 8, .binOp .geq 3 (.tmp 7) (.const (.int .i64 0)) 3, 4, none⟩,
   asg 4 8 4]
def B59 : VC :=
  (.seq (.region r59_0) (.seq (.region r59_1) .ret))
theorem code59 : ∃ c, Try.f59.body = some c ∧ abs Try.f59.ntmps c = B59 := ⟨_, rfl, by kernel_rfl⟩
theorem hb59 : HasBody Try.prog 59 := hasBody_of Try.func59 (by kernel_rfl)
theorem res59 : Try.f59.results = #[(.tmp 4)] := rfl
theorem enter59 {w : World} {R : Value → World → Prop} (x0 x1 : Value) (h : vc Try.prog B59 (retK Try.prog #[(.tmp 4)] R) [] (initEnv [x0, x1] 0) w) : FnC Try.prog 59 #[x0, x1] w R := by
  obtain ⟨c, h1, h2⟩ := code59
  exact hb59.fn (ret_of_vc mixed Try.func59 h1 (Nat.le_of_ble_eq_true rfl) B59 h2 h)
@[push_cast] theorem vr59_0 : VR r59_0 [⟨some 4, .assign (.const (.bool false)), 4, none⟩] := vR rfl
@[push_cast] theorem vr59_1 : VR r59_1 [⟨some 5, .move (.tmp 0), 22, none⟩, ⟨some 6, .move (.tmp 1), 81, none⟩, ⟨some 7, .call ⟨.value (.func 93), #[.tmp 5, .tmp 6], #[22, 81]⟩, 3, none⟩, ⟨some 8, .binOp .geq 3 (.tmp 7) (.const (.int .i64 0)) 3, 4, none⟩, ⟨some 4, .assign (.tmp 8), 4, none⟩] := vR rfl
/-! 60 columbary/rows.Right$1 (params #[9], results #[(.tmp 2)], 6 slots) -/
def r60_0 : List VOp :=
  [⟨some 2, .assign (.const (.bool false)), 4, none⟩]
def r60_1 : List VOp :=
  [mv 3 0 9,
   ⟨some 4, .call ⟨.value (.func 61), #[.tmp 3], #[9]⟩, 4, none⟩,
   ⟨some 5, .unOp .not 4 (.tmp 4), 4, none⟩,
   asg 2 5 4]
def B60 : VC :=
  (.seq (.region r60_0) (.seq (.region r60_1) .ret))
theorem code60 : ∃ c, Try.f60.body = some c ∧ abs Try.f60.ntmps c = B60 := ⟨_, rfl, by kernel_rfl⟩
theorem hb60 : HasBody Try.prog 60 := hasBody_of Try.func60 (by kernel_rfl)
theorem res60 : Try.f60.results = #[(.tmp 2)] := rfl
theorem enter60 {w : World} {R : Value → World → Prop} (x0 : Value) (h : vc Try.prog B60 (retK Try.prog #[(.tmp 2)] R) [] (initEnv [x0] 0) w) : FnC Try.prog 60 #[x0] w R := by
  obtain ⟨c, h1, h2⟩ := code60
  exact hb60.fn (ret_of_vc mixed Try.func60 h1 (Nat.le_of_ble_eq_true rfl) B60 h2 h)
@[push_cast] theorem vr60_0 : VR r60_0 [⟨some 2, .assign (.const (.bool false)), 4, none⟩] := vR rfl
@[push_cast] theorem vr60_1 : VR r60_1 [⟨some 3, .move (.tmp 0), 9, none⟩, ⟨some 4, .call ⟨.value (.func 61), #[.tmp 3], #[9]⟩, 4, none⟩, ⟨some 5, .unOp .not 4 (.tmp 4), 4, none⟩, ⟨some 2, .assign (.tmp 5), 4, none⟩] := vR rfl
/-! 61 columbary/schema.Value (params #[9], results #[(.tmp 2)], 16 slots) -/
def r61_0 : List VOp :=
  [⟨some 2, .assign (.const (.bool false)), 4, none⟩]
def r61_1 : List VOp :=
  [mv 3 0 9,
   ⟨some 4, .call ⟨.builtin .len, #[.tmp 3], #[9]⟩, 3, none⟩,
   ⟨some 5, .binOp .leq 3 (.tmp 4) (.const (.int .i64 24)) 3, 4, none⟩,
   mv 6 5 4,
   ⟨some 7, .move (.tmp 0), 9, some (6, true)⟩,
   ⟨some 8, .call { callee := (.value (.func 94)), args := #[(.tmp 7), (.const (.string { data := #[34, 92] }))], argTypes := #[9, 9] }, 4, some (6, true)⟩,
   ⟨some 9, .unOp .not 4 (.tmp 8), 4, some (6, true)⟩,
   ⟨some 10, .pick (.tmp 6) (.tmp 9) (.const (.bool false)), 4, none⟩,
   mv 11 10 4,
   ⟨some 12, .move (.tmp 0), 9, some (11, true)⟩,
   ⟨some 13, .call ⟨.value (.func 95), #[(.tmp 12), (.func 96)], #[9, 104]⟩, 4, some (11, true)⟩,
   ⟨some 14, .unOp .not 4 (.tmp 13), 4, some (11, true)⟩,
   ⟨some 15, .pick (.tmp 11) (.tmp 14) (.const (.bool false)), 4, none⟩,
   asg 2 15 4]
def B61 : VC :=
  (.seq (.region r61_0) (.seq (.region r61_1) .ret))
theorem code61 : ∃ c, Try.f61.body = some c ∧ abs Try.f61.ntmps c = B61 := ⟨_, rfl, by kernel_rfl⟩
theorem hb61 : HasBody Try.prog 61 := hasBody_of Try.func61 (by kernel_rfl)
theorem res61 : Try.f61.results = #[(.tmp 2)] := rfl
theorem enter61 {w : World} {R : Value → World → Prop} (x0 : Value) (h : vc Try.prog B61 (retK Try.prog #[(.tmp 2)] R) [] (initEnv [x0] 0) w) : FnC Try.prog 61 #[x0] w R := by
  obtain ⟨c, h1, h2⟩ := code61
  exact hb61.fn (ret_of_vc mixed Try.func61 h1 (Nat.le_of_ble_eq_true rfl) B61 h2 h)
@[push_cast] theorem vr61_0 : VR r61_0 [⟨some 2, .assign (.const (.bool false)), 4, none⟩] := vR rfl
@[push_cast] theorem vr61_1 : VR r61_1 [⟨some 3, .move (.tmp 0), 9, none⟩, ⟨some 4, .call ⟨.builtin .len, #[.tmp 3], #[9]⟩, 3, none⟩, ⟨some 5, .binOp .leq 3 (.tmp 4) (.const (.int .i64 24)) 3, 4, none⟩, ⟨some 6, .move (.tmp 5), 4, none⟩, ⟨some 7, .move (.tmp 0), 9, some (6, true)⟩, ⟨some 8, .call { callee := (.value (.func 94)), args := #[(.tmp 7), (.const (.string { data := #[34, 92] }))], argTypes := #[9, 9] }, 4, some (6, true)⟩, ⟨some 9, .unOp .not 4 (.tmp 8), 4, some (6, true)⟩, ⟨some 10, .pick (.tmp 6) (.tmp 9) (.const (.bool false)), 4, none⟩, ⟨some 11, .move (.tmp 10), 4, none⟩, ⟨some 12, .move (.tmp 0), 9, some (11, true)⟩, ⟨some 13, .call ⟨.value (.func 95), #[(.tmp 12), (.func 96)], #[9, 104]⟩, 4, some (11, true)⟩, ⟨some 14, .unOp .not 4 (.tmp 13), 4, some (11, true)⟩, ⟨some 15, .pick (.tmp 11) (.tmp 14) (.const (.bool false)), 4, none⟩, ⟨some 2, .assign (.tmp 15), 4, none⟩] := vR rfl
/-! 62 slices.ContainsFunc[[]columbary/api.Agg,columbary/api.Agg] (params #[33, 83], results #[(.tmp 4)], 9 slots) -/
def r62_0 : List VOp :=
  [⟨some 4, .assign (.const (.bool false)), 4, none⟩]
def r62_1 : List VOp :=
  [mv 5 0 33,
   mv 6 1 83,
   ⟨some 7, .call ⟨.value (.func 97), #[.tmp 5, .tmp 6], #[33, 83]⟩, 3, none⟩,
   ⟨some 8, .binOp .geq 3 (.tmp 7) (.const (.int .i64 0)) 3, 4, none⟩,
   asg 4 8 4]
def B62 : VC :=
  (.seq (.region r62_0) (.seq (.region r62_1) .ret))
theorem code62 : ∃ c, Try.f62.body = some c ∧ abs Try.f62.ntmps c = B62 := ⟨_, rfl, by kernel_rfl⟩
theorem hb62 : HasBody Try.prog 62 := hasBody_of Try.func62 (by kernel_rfl)
theorem res62 : Try.f62.results = #[(.tmp 4)] := rfl
theorem enter62 {w : World} {R : Value → World → Prop} (x0 x1 : Value) (h : vc Try.prog B62 (retK Try.prog #[(.tmp 4)] R) [] (initEnv [x0, x1] 0) w) : FnC Try.prog 62 #[x0, x1] w R := by
  obtain ⟨c, h1, h2⟩ := code62
  exact hb62.fn (ret_of_vc mixed Try.func62 h1 (Nat.le_of_ble_eq_true rfl) B62 h2 h)
@[push_cast] theorem vr62_0 : VR r62_0 [⟨some 4, .assign (.const (.bool false)), 4, none⟩] := vR rfl
@[push_cast] theorem vr62_1 : VR r62_1 [⟨some 5, .move (.tmp 0), 33, none⟩, ⟨some 6, .move (.tmp 1), 83, none⟩, ⟨some 7, .call ⟨.value (.func 97), #[.tmp 5, .tmp 6], #[33, 83]⟩, 3, none⟩, ⟨some 8, .binOp .geq 3 (.tmp 7) (.const (.int .i64 0)) 3, 4, none⟩, ⟨some 4, .assign (.tmp 8), 4, none⟩] := vR rfl
/-! 63 columbary/rows.Right$2 (params #[64], results #[(.tmp 2)], 6 slots) -/
def r63_0 : List VOp :=
  [⟨some 1, .box 64 (.tmp 0), 0, none⟩,
   ⟨some 2, .assign (.const (.bool false)), 4, none⟩]
def r63_1 : List VOp :=
  [lda 3 64 1,
   ⟨some 4, .call ⟨.value (.func 64), #[.tmp 3], #[64]⟩, 4, none⟩,
   ⟨some 5, .unOp .not 4 (.tmp 4), 4, none⟩,
   asg 2 5 4]
def B63 : VC :=
  (.seq (.region r63_0) (.seq (.region r63_1) .ret))
theorem code63 : ∃ c, Try.f63.body = some c ∧ abs Try.f63.ntmps c = B63 := ⟨_, rfl, by kernel_rfl⟩
theorem hb63 : HasBody Try.prog 63 := hasBody_of Try.func63 (by kernel_rfl)
theorem res63 : Try.f63.results = #[(.tmp 2)] := rfl
theorem enter63 {w : World} {R : Value → World → Prop} (x0 : Value) (h : vc Try.prog B63 (retK Try.prog #[(.tmp 2)] R) [] (initEnv [x0] 0) w) : FnC Try.prog 63 #[x0] w R := by
  obtain ⟨c, h1, h2⟩ := code63
  exact hb63.fn (ret_of_vc mixed Try.func63 h1 (Nat.le_of_ble_eq_true rfl) B63 h2 h)
@[push_cast] theorem vr63_0 : VR r63_0 [⟨some 1, .box 64 (.tmp 0), 0, none⟩, ⟨some 2, .assign (.const (.bool false)), 4, none⟩] := vR rfl
@[push_cast] theorem vr63_1 : VR r63_1 [⟨some 3, .load 64 (.tmp 1), 64, none⟩, ⟨some 4, .call ⟨.value (.func 64), #[.tmp 3], #[64]⟩, 4, none⟩, ⟨some 5, .unOp .not 4 (.tmp 4), 4, none⟩, ⟨some 2, .assign (.tmp 5), 4, none⟩] := vR rfl
/-! 64 columbary/agg.Right (params #[64], results #[(.tmp 2)], 18 slots) -/
def r64_0 : List VOp :=
  [⟨some 1, .box 64 (.tmp 0), 0, none⟩,
   ⟨some 2, .assign (.const (.bool false)), 4, none⟩]
def r64_1 : List VOp :=
  [fad 3 64 1 0,
   lda 4 3 3,
   fad 5 64 1 1,
   lda 6 3 5,
   fad 7 64 1 2,
   lda 8 3 7,
   ⟨some 9, .buildSlice 47 3 #[(0, (.tmp 4)), (1, (.tmp 6)), (2, (.tmp 8))], 47, none⟩,
   ⟨some 10, .call ⟨.value (.func 91), #[.tmp 9], #[47]⟩, 4, none⟩,
   mv 11 10 4,
   ⟨some 12, .fieldAddr 64 (.tmp 1) 1, 0, some (11, true)⟩,
   ⟨some 13, .load 3 (.tmp 12), 3, some (11, true)⟩,
   ⟨some 14, .fieldAddr 64 (.tmp 1) 2, 0, some (11, true)⟩,
   ⟨some 15, .load 3 (.tmp 14), 3, some (11, true)⟩,
   ⟨some 16, .binOp .leq 3 (.tmp 13) (.tmp 15) 3, 4, some (11, true)⟩,
   ⟨some 17, .pick (.tmp 11) (.tmp 16) (.const (.bool false)), 4, none⟩,
   asg 2 17 4]
def B64 : VC :=
  (.seq (.region r64_0) (.seq (.region r64_1) .ret))
theorem code64 : ∃ c, Try.f64.body = some c ∧ abs Try.f64.ntmps c = B64 := ⟨_, rfl, by kernel_rfl⟩
theorem hb64 : HasBody Try.prog 64 := hasBody_of Try.func64 (by kernel_rfl)
theorem res64 : Try.f64.results = #[(.tmp 2)] := rfl
theorem enter64 {w : World} {R : Value → World → Prop} (x0 : Value) (h : vc Try.prog B64 (retK Try.prog #[(.tmp 2)] R) [] (initEnv [x0] 0) w) : FnC Try.prog 64 #[x0] w R := by
  obtain ⟨c, h1, h2⟩ := code64
  exact hb64.fn (ret_of_vc mixed Try.func64 h1 (Nat.le_of_ble_eq_true rfl) B64 h2 h)
@[push_cast] theorem vr64_0 : VR r64_0 [⟨some 1, .box 64 (.tmp 0), 0, none⟩, ⟨some 2, .assign (.const (.bool false)), 4, none⟩] := vR rfl
@[push_cast] theorem vr64_1 : VR r64_1 [⟨some 3, .fieldAddr 64 (.tmp 1) 0, 0, none⟩, ⟨some 4, .load 3 (.tmp 3), 3, none⟩, ⟨some 5, .fieldAddr 64 (.tmp 1) 1, 0, none⟩, ⟨some 6, .load 3 (.tmp 5), 3, none⟩, ⟨some 7, .fieldAddr 64 (.tmp 1) 2, 0, none⟩, ⟨some 8, .load 3 (.tmp 7), 3, none⟩, ⟨some 9, .buildSlice 47 3 #[(0, (.tmp 4)), (1, (.tmp 6)), (2, (.tmp 8))], 47, none⟩, ⟨some 10, .call ⟨.value (.func 91), #[.tmp 9], #[47]⟩, 4, none⟩, ⟨some 11, .move (.tmp 10), 4, none⟩, ⟨some 12, .fieldAddr 64 (.tmp 1) 1, 0, some (11, true)⟩, ⟨some 13, .load 3 (.tmp 12), 3, some (11, true)⟩, ⟨some 14, .fieldAddr 64 (.tmp 1) 2, 0, some (11, true)⟩, ⟨some 15, .load 3 (.tmp 14), 3, some (11, true)⟩, ⟨some 16, .binOp .leq 3 (.tmp 13) (.tmp 15) 3, 4, some (11, true)⟩, ⟨some 17, .pick (.tmp 11) (.tmp 16) (.const (.bool false)), 4, none⟩, ⟨some 2, .assign (.tmp 17), 4, none⟩] := vR rfl
/-! 65 columbary/columbaryref10.Value (params #[9], results #[(.tmp 2)], 35 slots) -/
def W65_0 : List Nat := [2, 3, 4, 5, 6, 7, 8, 9, 10, 11, 12, 13, 14, 15, 16, 17, 18, 19, 20, 21, 22, 23, 24, 25, 26, 27, 28, 29, 30, 31]
@[push_cast] theorem W65_0_def : W65_0 = [2, 3, 4, 5, 6, 7, 8, 9, 10, 11, 12, 13, 14, 15, 16, 17, 18, 19, 20, 21, 22, 23, 24, 25, 26, 27, 28, 29, 30, 31] := mk_eq rfl
def r65_0 : List VOp :=
  [⟨some 2, .assign (.const (.bool false)), 4, none⟩]
def r65_1 : List VOp :=
  [⟨some 3, .assign (.const (.int .i64 0)), 3, none⟩]
def r65_2 : List VOp :=
  [mv 4 3 3,
   mv 5 0 9,
   ⟨some 6, .call ⟨.builtin .len, #[.tmp 5], #[9]⟩, 3, none⟩,
   ⟨some 7, .binOp .lss 3 (.tmp 4) (.tmp 6) 3, 4, none⟩]
def r65_4 : List VOp :=
  [mv 10 0 9,
   mv 11 3 3,
   ⟨some 12, .index 9 (.tmp 10) (.tmp 11), 5, none⟩,
   ⟨some 13, .binOp .lss 5 (.tmp 12) (.const (.int .u8 32)) 5, 4, none⟩,
   mv 14 13 4,
   ⟨some 15, .move (.tmp 0), 9, some (14, false)⟩,
   ⟨some 16, .move (.tmp 3), 3, some (14, false)⟩,
   ⟨some 17, .index 9 (.tmp 15) (.tmp 16), 5, some (14, false)⟩,
   ⟨some 18, .binOp .gtr 5 (.tmp 17) (.const (.int .u8 126)) 5, 4, some (14, false)⟩,
   ⟨some 19, .pick (.tmp 14) (.const (.bool true)) (.tmp 18), 4, none⟩,
   mv 20 19 4,
   ⟨some 21, .move (.tmp 0), 9, some (20, false)⟩,
   ⟨some 22, .move (.tmp 3), 3, some (20, false)⟩,
   ⟨some 23, .index 9 (.tmp 21) (.tmp 22), 5, some (20, false)⟩,
   ⟨some 24, .binOp .eql 5 (.tmp 23) (.const (.int .u8 34)) 5, 4, some (20, false)⟩,
   ⟨some 25, .pick (.tmp 20) (.const (.bool true)) (.tmp 24), 4, none⟩,
   mv 26 25 4,
   ⟨some 27, .move (.tmp 0), 9, some (26, false)⟩,
   ⟨some 28, .move (.tmp 3), 3, some (26, false)⟩,
   ⟨some 29, .index 9 (.tmp 27) (.tmp 28), 5, some (26, false)⟩,
   ⟨some 30, .binOp .eql 5 (.tmp 29) (.const (.int .u8 92)) 5, 4, some (26, false)⟩,
   ⟨some 31, .pick (.tmp 26) (.const (.bool true)) (.tmp 30), 4, none⟩]
def r65_5 : List VOp :=
  [⟨some 2, .assign (.const (.bool false)), 4, none⟩]
def r65_3 : List VOp :=
  [mv 8 3 3,
   ⟨some 9, .binOp .add 3 (.tmp 8) (.const (.int .i64 1)) 3, 3, none⟩,
   asg 3 9 3]
def r65_6 : List VOp :=
  [mv 32 0 9,
   ⟨some 33, .call ⟨.builtin .len, #[.tmp 32], #[9]⟩, 3, none⟩,
   ⟨some 34, .binOp .leq 3 (.tmp 33) (.const (.int .i64 24)) 3, 4, none⟩,
   asg 2 34 4]
def B65 : VC :=
  (.seq (.region r65_0) (.seq (.seq (.region r65_1) (.block 0 (.loop (.seq (.seq (.region r65_2) (.cond (.tmp 7) .skip (.exit 0))) (.seq (.block 1 (.seq (.region r65_4) (.cond (.tmp 31) (.seq (.region r65_5) .ret) .skip))) (.region r65_3)))))) (.seq (.region r65_6) .ret)))
theorem code65 : ∃ c, Try.f65.body = some c ∧ abs Try.f65.ntmps c = B65 := ⟨_, rfl, by kernel_rfl⟩
theorem hb65 : HasBody Try.prog 65 := hasBody_of Try.func65 (by kernel_rfl)
theorem res65 : Try.f65.results = #[(.tmp 2)] := rfl
theorem enter65 {w : World} {R : Value → World → Prop} (x0 : Value) (h : vc Try.prog B65 (retK Try.prog #[(.tmp 2)] R) [] (initEnv [x0] 0) w) : FnC Try.prog 65 #[x0] w R := by
  obtain ⟨c, h1, h2⟩ := code65
  exact hb65.fn (ret_of_vc mixed Try.func65 h1 (Nat.le_of_ble_eq_true rfl) B65 h2 h)
@[push_cast] theorem vr65_0 : VR r65_0 [⟨some 2, .assign (.const (.bool false)), 4, none⟩] := vR rfl
@[push_cast] theorem vr65_1 : VR r65_1 [⟨some 3, .assign (.const (.int .i64 0)), 3, none⟩] := vR rfl
@[push_cast] theorem vr65_2 : VR r65_2 [⟨some 4, .move (.tmp 3), 3, none⟩, ⟨some 5, .move (.tmp 0), 9, none⟩, ⟨some 6, .call ⟨.builtin .len, #[.tmp 5], #[9]⟩, 3, none⟩, ⟨some 7, .binOp .lss 3 (.tmp 4) (.tmp 6) 3, 4, none⟩] := vR rfl
@[push_cast] theorem vr65_4 : VR r65_4 [⟨some 10, .move (.tmp 0), 9, none⟩, ⟨some 11, .move (.tmp 3), 3, none⟩, ⟨some 12, .index 9 (.tmp 10) (.tmp 11), 5, none⟩, ⟨some 13, .binOp .lss 5 (.tmp 12) (.const (.int .u8 32)) 5, 4, none⟩, ⟨some 14, .move (.tmp 13), 4, none⟩, ⟨some 15, .move (.tmp 0), 9, some (14, false)⟩, ⟨some 16, .move (.tmp 3), 3, some (14, false)⟩, ⟨some 17, .index 9 (.tmp 15) (.tmp 16), 5, some (14, false)⟩, ⟨some 18, .binOp .gtr 5 (.tmp 17) (.const (.int .u8 126)) 5, 4, some (14, false)⟩, ⟨some 19, .pick (.tmp 14) (.const (.bool true)) (.tmp 18), 4, none⟩, ⟨some 20, .move (.tmp 19), 4, none⟩, ⟨some 21, .move (.tmp 0), 9, some (20, false)⟩, ⟨some 22, .move (.tmp 3), 3, some (20, false)⟩, ⟨some 23, .index 9 (.tmp 21) (.tmp 22), 5, some (20, false)⟩, ⟨some 24, .binOp .eql 5 (.tmp 23) (.const (.int .u8 34)) 5, 4, some (20, false)⟩, ⟨some 25, .pick (.tmp 20) (.const (.bool true)) (.tmp 24), 4, none⟩, ⟨some 26, .move (.tmp 25), 4, none⟩, ⟨some 27, .move (.tmp 0), 9, some (26, false)⟩, ⟨some 28, .move (.tmp 3), 3, some (26, false)⟩, ⟨some 29, .index 9 (.tmp 27) (.tmp 28), 5, some (26, false)⟩, ⟨some 30, .binOp .eql 5 (.tmp 29) (.const (.int .u8 92)) 5, 4, some (26, false)⟩, ⟨some 31, .pick (.tmp 26) (.const (.bool true)) (.tmp 30), 4, none⟩] := vR rfl
@[push_cast] theorem vr65_5 : VR r65_5 [⟨some 2, .assign (.const (.bool false)), 4, none⟩] := vR rfl
@[push_cast] theorem vr65_3 : VR r65_3 [⟨some 8, .move (.tmp 3), 3, none⟩, ⟨some 9, .binOp .add 3 (.tmp 8) (.const (.int .i64 1)) 3, 3, none⟩, ⟨some 3, .assign (.tmp 9), 3, none⟩] := vR rfl
@[push_cast] theorem vr65_6 : VR r65_6 [⟨some 32, .move (.tmp 0), 9, none⟩, ⟨some 33, .call ⟨.builtin .len, #[.tmp 32], #[9]⟩, 3, none⟩, ⟨some 34, .binOp .leq 3 (.tmp 33) (.const (.int .i64 24)) 3, 4, none⟩, ⟨some 2, .assign (.tmp 34), 4, none⟩] := vR rfl
/-! 66 columbary/columbaryref12.Right (params #[64], results #[(.tmp 2)], 29 slots) -/
def r66_0 : List VOp :=
  [⟨some 1, .box 64 (.tmp 0), 0, none⟩,
   ⟨some 2, .assign (.const (.bool false)), 4, none⟩]
def r66_1 : List VOp :=
  [fad 6 64 1 0,
   lda 7 3 6,
   ⟨some 8, .call ⟨.value (.func 92), #[.tmp 7], #[3]⟩, 4, none⟩,
   asg 3 8 4]
def r66_2 : List VOp :=
  [fad 9 64 1 1,
   lda 10 3 9,
   ⟨some 11, .call ⟨.value (.func 92), #[.tmp 10], #[3]⟩, 4, none⟩,
   asg 4 11 4]
def r66_3 : List VOp :=
  [fad 12 64 1 2,
   lda 13 3 12,
   ⟨some 14, .call ⟨.value (.func 92), #[.tmp 13], #[3]⟩, 4, none⟩,
   asg 5 14 4]
def r66_4 : List VOp :=
  [mv 15 3 4,
   mv 16 15 4,
   ⟨some 17, .move (.tmp 4), 4, some (16, true)⟩,
   ⟨some 18, .pick (.tmp 16) (.tmp 17) (.const (.bool false)), 4, none⟩,
   mv 19 18 4,
   ⟨some 20, .move (.tmp 5), 4, some (19, true)⟩,
   ⟨some 21, .pick (.tmp 19) (.tmp 20) (.const (.bool false)), 4, none⟩,
   mv 22 21 4,
   ⟨some 23, .fieldAddr 64 (.tmp 1) 1, 0, some (22, true)⟩,
   ⟨some 24, .load 3 (.tmp 23), 3, some (22, true)⟩,
   ⟨some 25, .fieldAddr 64 (.tmp 1) 2, 0, some (22, true)⟩,
   ⟨some 26, .load 3 (.tmp 25), 3, some (22, true)⟩,
   ⟨some 27, .binOp .leq 3 (.tmp 24) (.tmp 26) 3, 4, some (22, true)⟩,
   ⟨some 28, .pick (.tmp 22) (.tmp 27) (.const (.bool false)), 4, none⟩,
   asg 2 28 4]
def B66 : VC :=
  (.seq (.region r66_0) (.seq (.region r66_1) (.seq (.region r66_2) (.seq (.region r66_3) (.seq (.region r66_4) .ret)))))
theorem code66 : ∃ c, Try.f66.body = some c ∧ abs Try.f66.ntmps c = B66 := ⟨_, rfl, by kernel_rfl⟩
theorem hb66 : HasBody Try.prog 66 := hasBody_of Try.func66 (by kernel_rfl)
theorem res66 : Try.f66.results = #[(.tmp 2)] := rfl
theorem enter66 {w : World} {R : Value → World → Prop} (x0 : Value) (h : vc Try.prog B66 (retK Try.prog #[(.tmp 2)] R) [] (initEnv [x0] 0) w) : FnC Try.prog 66 #[x0] w R := by
  obtain ⟨c, h1, h2⟩ := code66
  exact hb66.fn (ret_of_vc mixed Try.func66 h1 (Nat.le_of_ble_eq_true rfl) B66 h2 h)
@[push_cast] theorem vr66_0 : VR r66_0 [⟨some 1, .box 64 (.tmp 0), 0, none⟩, ⟨some 2, .assign (.const (.bool false)), 4, none⟩] := vR rfl
@[push_cast] theorem vr66_1 : VR r66_1 [⟨some 6, .fieldAddr 64 (.tmp 1) 0, 0, none⟩, ⟨some 7, .load 3 (.tmp 6), 3, none⟩, ⟨some 8, .call ⟨.value (.func 92), #[.tmp 7], #[3]⟩, 4, none⟩, ⟨some 3, .assign (.tmp 8), 4, none⟩] := vR rfl
@[push_cast] theorem vr66_2 : VR r66_2 [⟨some 9, .fieldAddr 64 (.tmp 1) 1, 0, none⟩, ⟨some 10, .load 3 (.tmp 9), 3, none⟩, ⟨some 11, .call ⟨.value (.func 92), #[.tmp 10], #[3]⟩, 4, none⟩, ⟨some 4, .assign (.tmp 11), 4, none⟩] := vR rfl
@[push_cast] theorem vr66_3 : VR r66_3 [⟨some 12, .fieldAddr 64 (.tmp 1) 2, 0, none⟩, ⟨some 13, .load 3 (.tmp 12), 3, none⟩, ⟨some 14, .call ⟨.value (.func 92), #[.tmp 13], #[3]⟩, 4, none⟩, ⟨some 5, .assign (.tmp 14), 4, none⟩] := vR rfl
@[push_cast] theorem vr66_4 : VR r66_4 [⟨some 15, .move (.tmp 3), 4, none⟩, ⟨some 16, .move (.tmp 15), 4, none⟩, ⟨some 17, .move (.tmp 4), 4, some (16, true)⟩, ⟨some 18, .pick (.tmp 16) (.tmp 17) (.const (.bool false)), 4, none⟩, ⟨some 19, .move (.tmp 18), 4, none⟩, ⟨some 20, .move (.tmp 5), 4, some (19, true)⟩, ⟨some 21, .pick (.tmp 19) (.tmp 20) (.const (.bool false)), 4, none⟩, ⟨some 22, .move (.tmp 21), 4, none⟩, ⟨some 23, .fieldAddr 64 (.tmp 1) 1, 0, some (22, true)⟩, ⟨some 24, .load 3 (.tmp 23), 3, some (22, true)⟩, ⟨some 25, .fieldAddr 64 (.tmp 1) 2, 0, some (22, true)⟩, ⟨some 26, .load 3 (.tmp 25), 3, some (22, true)⟩, ⟨some 27, .binOp .leq 3 (.tmp 24) (.tmp 26) 3, 4, some (22, true)⟩, ⟨some 28, .pick (.tmp 22) (.tmp 27) (.const (.bool false)), 4, none⟩, ⟨some 2, .assign (.tmp 28), 4, none⟩] := vR rfl
/-! 67 columbary/columbaryref12.Same (params #[33, 33], results #[(.tmp 4)], 26 slots) -/
def W67_0 : List Nat := [4, 5, 11, 12, 13, 14, 15, 16, 17, 18, 19, 20, 21, 22, 23, 24, 25]
@[push_cast] theorem W67_0_def : W67_0 = [4, 5, 11, 12, 13, 14, 15, 16, 17, 18, 19, 20, 21, 22, 23, 24, 25] := mk_eq rfl
def r67_0 : List VOp :=
  [⟨some 4, .assign (.const (.bool false)), 4, none⟩]
def r67_1 : List VOp :=
  [mv 6 0 33,
   ⟨some 7, .call ⟨.builtin .len, #[.tmp 6], #[33]⟩, 3, none⟩,
   mv 8 1 33,
   ⟨some 9, .call ⟨.builtin .len, #[.tmp 8], #[33]⟩, 3, none⟩,
   ⟨some 10, .binOp .neq 3 (.tmp 7) (.tmp 9) 3, 4, none⟩]
def r67_2 : List VOp :=
  [⟨some 4, .assign (.const (.bool false)), 4, none⟩]
def r67_3 : List VOp :=
  [⟨some 5, .assign (.const (.int .i64 0)), 3, none⟩]
def r67_4 : List VOp :=
  [mv 11 5 3,
   mv 12 0 33,
   ⟨some 13, .call ⟨.builtin .len, #[.tmp 12], #[33]⟩, 3, none⟩,
   ⟨some 14, .binOp .lss 3 (.tmp 11) (.tmp 13) 3, 4, none⟩]
def r67_6 : List VOp :=
  [mv 17 0 33,
   mv 18 5 3,
   iad 19 33 17 18,
   lda 20 64 19,
   mv 21 1 33,
   mv 22 5 3,
   iad 23 33 21 22,
   lda 24 64 23,
   ⟨some 25, .binOp .neq 64 (.tmp 20) (.tmp 24) 64, 4, none⟩]
def r67_7 : List VOp :=
  [⟨some 4, .assign (.const (.bool false)), 4, none⟩]
def r67_5 : List VOp :=
  [mv 15 5 3,
   ⟨some 16, .binOp .add 3 (.tmp 15) (.const (.int .i64 1)) 3, 3, none⟩,
   asg 5 16 3]
def r67_8 : List VOp :=
  [⟨some 4, .assign (.const (.bool true)), 4, none⟩]
def B67 : VC :=
  (.seq (.region r67_0) (.seq (.seq (.region r67_1) (.cond (.tmp 10) (.seq (.region r67_2) .ret) .skip)) (.seq (.seq (.region r67_3) (.block 0 (.loop (.seq (.seq (.region r67_4) (.cond (.tmp 14) .skip (.exit 0))) (.seq (.block 1 (.seq (.draw r67_6 2) (.cond (.tmp 25) (.seq (.region r67_7) .ret) .skip))) (.region r67_5)))))) (.seq (.region r67_8) .ret))))
theorem code67 : ∃ c, Try.f67.body = some c ∧ abs Try.f67.ntmps c = B67 := ⟨_, rfl, by kernel_rfl⟩
theorem hb67 : HasBody Try.prog 67 := hasBody_of Try.func67 (by kernel_rfl)
theorem res67 : Try.f67.results = #[(.tmp 4)] := rfl
theorem enter67 {w : World} {R : Value → World → Prop} (x0 x1 : Value) (h : vc Try.prog B67 (retK Try.prog #[(.tmp 4)] R) [] (initEnv [x0, x1] 0) w) : FnC Try.prog 67 #[x0, x1] w R := by
  obtain ⟨c, h1, h2⟩ := code67
  exact hb67.fn (ret_of_vc mixed Try.func67 h1 (Nat.le_of_ble_eq_true rfl) B67 h2 h)
@[push_cast] theorem vr67_0 : VR r67_0 [⟨some 4, .assign (.const (.bool false)), 4, none⟩] := vR rfl
@[push_cast] theorem vr67_1 : VR r67_1 [⟨some 6, .move (.tmp 0), 33, none⟩, ⟨some 7, .call ⟨.builtin .len, #[.tmp 6], #[33]⟩, 3, none⟩, ⟨some 8, .move (.tmp 1), 33, none⟩, ⟨some 9, .call ⟨.builtin .len, #[.tmp 8], #[33]⟩, 3, none⟩, ⟨some 10, .binOp .neq 3 (.tmp 7) (.tmp 9) 3, 4, none⟩] := vR rfl
@[push_cast] theorem vr67_2 : VR r67_2 [⟨some 4, .assign (.const (.bool false)), 4, none⟩] := vR rfl
@[push_cast] theorem vr67_3 : VR r67_3 [⟨some 5, .assign (.const (.int .i64 0)), 3, none⟩] := vR rfl
@[push_cast] theorem vr67_4 : VR r67_4 [⟨some 11, .move (.tmp 5), 3, none⟩, ⟨some 12, .move (.tmp 0), 33, none⟩, ⟨some 13, .call ⟨.builtin .len, #[.tmp 12], #[33]⟩, 3, none⟩, ⟨some 14, .binOp .lss 3 (.tmp 11) (.tmp 13) 3, 4, none⟩] := vR rfl
@[push_cast] theorem vr67_6 : vc Try.prog (.draw r67_6 2) Q ds σ w = drawn Try.prog [(⟨some 17, .move (.tmp 0), 33, none⟩, [0]), (⟨some 18, .move (.tmp 5), 3, none⟩, [5]), (⟨some 19, .indexAddr 33 (.tmp 17) (.tmp 18), 0, none⟩, [17, 18]), (⟨some 20, .load 64 (.tmp 19), 64, none⟩, [19]), (⟨some 21, .move (.tmp 1), 33, none⟩, [1]), (⟨some 22, .move (.tmp 5), 3, none⟩, [5]), (⟨some 23, .indexAddr 33 (.tmp 21) (.tmp 22), 0, none⟩, [21, 22]), (⟨some 24, .load 64 (.tmp 23), 64, none⟩, [23]), (⟨some 25, .binOp .neq 64 (.tmp 20) (.tmp 24) 64, 4, none⟩, [20, 24])] 2 (Q .normal ds) σ w := mk_eq rfl
@[push_cast] theorem vr67_7 : VR r67_7 [⟨some 4, .assign (.const (.bool false)), 4, none⟩] := vR rfl
@[push_cast] theorem vr67_5 : VR r67_5 [⟨some 15, .move (.tmp 5), 3, none⟩, ⟨some 16, .binOp .add 3 (.tmp 15) (.const (.int .i64 1)) 3, 3, none⟩, ⟨some 5, .assign (.tmp 16), 3, none⟩] := vR rfl
@[push_cast] theorem vr67_8 : VR r67_8 [⟨some 4, .assign (.const (.bool true)), 4, none⟩] := vR rfl
/-! 68 slices.Values[[]columbary/api.Row,columbary/api.Row] (params #[25], results #[(.tmp 2)], 4 slots) -/
def r68_0 : List VOp :=
  [⟨some 1, .box 25 (.tmp 0), 0, none⟩,
   ⟨some 2, .assign (.const .nilFunc), 86, none⟩]
def r68_1 : List VOp :=
  [⟨some 3, .makeFunc (Fn.func 98) #[] #[(.tmp 1)], 85, none⟩,
   asg 2 3 86]
def B68 : VC :=
  (.seq (.region r68_0) (.seq (.region r68_1) .ret))
theorem code68 : ∃ c, Try.f68.body = some c ∧ abs Try.f68.ntmps c = B68 := ⟨_, rfl, by kernel_rfl⟩
theorem hb68 : HasBody Try.prog 68 := hasBody_of Try.func68 (by kernel_rfl)
theorem res68 : Try.f68.results = #[(.tmp 2)] := rfl
theorem enter68 {w : World} {R : Value → World → Prop} (x0 : Value) (h : vc Try.prog B68 (retK Try.prog #[(.tmp 2)] R) [] (initEnv [x0] 0) w) : FnC Try.prog 68 #[x0] w R := by
  obtain ⟨c, h1, h2⟩ := code68
  exact hb68.fn (ret_of_vc mixed Try.func68 h1 (Nat.le_of_ble_eq_true rfl) B68 h2 h)
@[push_cast] theorem vr68_0 : VR r68_0 [⟨some 1, .box 25 (.tmp 0), 0, none⟩, ⟨some 2, .assign (.const .nilFunc), 86, none⟩] := vR rfl
@[push_cast] theorem vr68_1 : VR r68_1 [⟨some 3, .makeFunc (Fn.func 98) #[] #[(.tmp 1)], 85, none⟩, ⟨some 2, .assign (.tmp 3), 86, none⟩] := vR rfl
/-! 69 columbary/rows.own (params #[35], results #[(.cell 2 35)], 12 slots) -/
def r69_0 : List VOp :=
  [⟨some 1, .box 35 (.tmp 0), 0, none⟩,
   ⟨some 2, .alloc 35, 0, none⟩]
def r69_1 : List VOp :=
  [fad 3 35 1 1,
   lda 4 22 3,
   ⟨some 5, .call ⟨.value (.func 52), #[.tmp 4], #[22]⟩, 22, none⟩,
   fad 6 35 1 3,
   lda 7 33 6,
   ⟨some 8, .call ⟨.value (.func 99), #[.tmp 7], #[33]⟩, 33, none⟩,
   fad 9 35 1 1,
   ⟨none, .store 22 (.tmp 9) (.tmp 5), 0, none⟩,
   fad 10 35 1 3,
   ⟨none, .store 33 (.tmp 10) (.tmp 8), 0, none⟩]
def r69_2 : List VOp :=
  [lda 11 35 1,
   ⟨none, .store 35 (.tmp 2) (.tmp 11), 0, none⟩]
def B69 : VC :=
  (.seq (.region r69_0) (.seq (.draw r69_1 4) (.seq (.region r69_2) .ret)))
theorem code69 : ∃ c, Try.f69.body = some c ∧ abs Try.f69.ntmps c = B69 := ⟨_, rfl, by kernel_rfl⟩
theorem hb69 : HasBody Try.prog 69 := hasBody_of Try.func69 (by kernel_rfl)
theorem res69 : Try.f69.results = #[(.cell 2 35)] := rfl
theorem enter69 {w : World} {R : Value → World → Prop} (x0 : Value) (h : vc Try.prog B69 (retK Try.prog #[(.cell 2 35)] R) [] (initEnv [x0] 0) w) : FnC Try.prog 69 #[x0] w R := by
  obtain ⟨c, h1, h2⟩ := code69
  exact hb69.fn (ret_of_vc mixed Try.func69 h1 (Nat.le_of_ble_eq_true rfl) B69 h2 h)
@[push_cast] theorem vr69_0 : VR r69_0 [⟨some 1, .box 35 (.tmp 0), 0, none⟩, ⟨some 2, .alloc 35, 0, none⟩] := vR rfl
@[push_cast] theorem vr69_1 : vc Try.prog (.draw r69_1 4) Q ds σ w = drawn Try.prog [(⟨some 3, .fieldAddr 35 (.tmp 1) 1, 0, none⟩, [1]), (⟨some 4, .load 22 (.tmp 3), 22, none⟩, [3]), (⟨some 5, .call ⟨.value (.func 52), #[.tmp 4], #[22]⟩, 22, none⟩, [4]), (⟨some 6, .fieldAddr 35 (.tmp 1) 3, 0, none⟩, [1]), (⟨some 7, .load 33 (.tmp 6), 33, none⟩, [6]), (⟨some 8, .call ⟨.value (.func 99), #[.tmp 7], #[33]⟩, 33, none⟩, [7]), (⟨some 9, .fieldAddr 35 (.tmp 1) 1, 0, none⟩, [1]), (⟨none, .store 22 (.tmp 9) (.tmp 5), 0, none⟩, [9, 5]), (⟨some 10, .fieldAddr 35 (.tmp 1) 3, 0, none⟩, [1]), (⟨none, .store 33 (.tmp 10) (.tmp 8), 0, none⟩, [10, 8])] 4 (Q .normal ds) σ w := mk_eq rfl
@[push_cast] theorem vr69_2 : VR r69_2 [⟨some 11, .load 35 (.tmp 1), 35, none⟩, ⟨none, .store 35 (.tmp 2) (.tmp 11), 0, none⟩] := vR rfl
/-! 70 slices.SortStableFunc[[]columbary/api.Row,columbary/api.Row] (params #[25, 58], results #[], 9 slots) -/
def r70_0 : List VOp :=
  [mv 4 0 25,
   mv 5 0 25,
   ⟨some 6, .call ⟨.builtin .len, #[.tmp 5], #[25]⟩, 3, none⟩,
   mv 7 1 58,
   ⟨some 8, .call ⟨.value (.func 100), #[.tmp 4, .tmp 6, .tmp 7], #[25, 3, 58]⟩, 0, none⟩]
def B70 : VC :=
  (.region r70_0)
theorem code70 : ∃ c, Try.f70.body = some c ∧ abs Try.f70.ntmps c = B70 := ⟨_, rfl, by kernel_rfl⟩
theorem hb70 : HasBody Try.prog 70 := hasBody_of Try.func70 (by kernel_rfl)
theorem res70 : Try.f70.results = #[] := rfl
theorem enter70 {w : World} {R : Value → World → Prop} (x0 x1 : Value) (h : vc Try.prog B70 (retK Try.prog #[] R) [] (initEnv [x0, x1] 0) w) : FnC Try.prog 70 #[x0, x1] w R := by
  obtain ⟨c, h1, h2⟩ := code70
  exact hb70.fn (ret_of_vc mixed Try.func70 h1 (Nat.le_of_ble_eq_true rfl) B70 h2 h)
@[push_cast] theorem vr70_0 : VR r70_0 [⟨some 4, .move (.tmp 0), 25, none⟩, ⟨some 5, .move (.tmp 0), 25, none⟩, ⟨some 6, .call ⟨.builtin .len, #[.tmp 5], #[25]⟩, 3, none⟩, ⟨some 7, .move (.tmp 1), 58, none⟩, ⟨some 8, .call ⟨.value (.func 100), #[.tmp 4, .tmp 6, .tmp 7], #[25, 3, 58]⟩, 0, none⟩] := vR rfl
/-! 71 cmp.Or[int] (params #[47], results #[(.tmp 2)], 18 slots) -/
def W71_0 : List Nat := [2, 5, 8, 9, 10, 11, 12, 13, 14, 15, 16]
@[push_cast] theorem W71_0_def : W71_0 = [2, 5, 8, 9, 10, 11, 12, 13, 14, 15, 16] := mk_eq rfl
def r71_0 : List VOp :=
  [⟨some 2, .assign (.const (.int .i64 0)), 3, none⟩]
def r71_1 : List VOp :=
  [⟨some 3, .assign (.const (.int .i64 0)), 3, none⟩]
def r71_2 : List VOp :=
  [mv 6 0 47,
   ⟨some 7, .call ⟨.builtin .len, #[.tmp 6], #[47]⟩, 3, none⟩,
   ⟨some 8, .move (.const (.int .i64 0)), 3, none⟩]
def r71_3 : List VOp :=
  [⟨some 9, .binOp .lss 3 (.tmp 8) (.tmp 7) 3, 0, none⟩]
def r71_4 : List VOp :=
  [iad 10 47 6 8,
   lda 11 3 10,
   asg 5 11 3]
def r71_5 : List VOp :=
  [mv 12 5 3,
   mv 13 3 3,
   ⟨some 14, .binOp .neq 3 (.tmp 12) (.tmp 13) 3, 4, none⟩]
def r71_6 : List VOp :=
  [mv 15 5 3,
   asg 2 15 3]
def r71_7 : List VOp :=
  [⟨some 16, .binOp .add 3 (.tmp 8) (.const (.int .i64 1)) 3, 3, none⟩,
   mv 8 16 3]
def r71_8 : List VOp :=
  [mv 17 3 3,
   asg 2 17 3]
def B71 : VC :=
  (.seq (.region r71_0) (.seq (.region r71_1) (.seq (.seq (.region r71_2) (.block 0 (.loop (.seq (.region r71_3) (.seq (.cond (.tmp 9) .skip (.exit 0)) (.seq (.block 1 (.seq (.region r71_4) (.seq (.region r71_5) (.cond (.tmp 14) (.seq (.region r71_6) .ret) .skip)))) (.region r71_7))))))) (.seq (.region r71_8) .ret))))
theorem code71 : ∃ c, Try.f71.body = some c ∧ abs Try.f71.ntmps c = B71 := ⟨_, rfl, by kernel_rfl⟩
theorem hb71 : HasBody Try.prog 71 := hasBody_of Try.func71 (by kernel_rfl)
theorem res71 : Try.f71.results = #[(.tmp 2)] := rfl
theorem enter71 {w : World} {R : Value → World → Prop} (x0 : Value) (h : vc Try.prog B71 (retK Try.prog #[(.tmp 2)] R) [] (initEnv [x0] 0) w) : FnC Try.prog 71 #[x0] w R := by
  obtain ⟨c, h1, h2⟩ := code71
  exact hb71.fn (ret_of_vc mixed Try.func71 h1 (Nat.le_of_ble_eq_true rfl) B71 h2 h)
@[push_cast] theorem vr71_0 : VR r71_0 [⟨some 2, .assign (.const (.int .i64 0)), 3, none⟩] := vR rfl
@[push_cast] theorem vr71_1 : VR r71_1 [⟨some 3, .assign (.const (.int .i64 0)), 3, none⟩] := vR rfl
@[push_cast] theorem vr71_2 : VR r71_2 [⟨some 6, .move (.tmp 0), 47, none⟩, ⟨some 7, .call ⟨.builtin .len, #[.tmp 6], #[47]⟩, 3, none⟩, ⟨some 8, .move (.const (.int .i64 0)), 3, none⟩] := vR rfl
@[push_cast] theorem vr71_3 : VR r71_3 [⟨some 9, .binOp .lss 3 (.tmp 8) (.tmp 7) 3, 0, none⟩] := vR rfl
@[push_cast] theorem vr71_4 : VR r71_4 [⟨some 10, .indexAddr 47 (.tmp 6) (.tmp 8), 0, none⟩, ⟨some 11, .load 3 (.tmp 10), 3, none⟩, ⟨some 5, .assign (.tmp 11), 3, none⟩] := vR rfl
@[push_cast] theorem vr71_5 : VR r71_5 [⟨some 12, .move (.tmp 5), 3, none⟩, ⟨some 13, .move (.tmp 3), 3, none⟩, ⟨some 14, .binOp .neq 3 (.tmp 12) (.tmp 13) 3, 4, none⟩] := vR rfl
@[push_cast] theorem vr71_6 : VR r71_6 [⟨some 15, .move (.tmp 5), 3, none⟩, ⟨some 2, .assign (.tmp 15), 3, none⟩] := vR rfl
@[push_cast] theorem vr71_7 : VR r71_7 [⟨some 16, .binOp .add 3 (.tmp 8) (.const (.int .i64 1)) 3, 3, none⟩, ⟨some 8, .move (.tmp 16), 3, none⟩] := vR rfl
@[push_cast] theorem vr71_8 : VR r71_8 [⟨some 17, .move (.tmp 3), 3, none⟩, ⟨some 2, .assign (.tmp 17), 3, none⟩] := vR rfl
/-! 72 cmp.Compare[int] (params #[3, 3], results #[(.tmp 4)], 20 slots) -/
def r72_0 : List VOp :=
  [⟨some 4, .assign (.const (.int .i64 0)), 3, none⟩]
def r72_1 : List VOp :=
  [mv 7 0 3,
   ⟨some 8, .call ⟨.value (.func 101), #[.tmp 7], #[3]⟩, 4, none⟩,
   asg 5 8 4]
def r72_2 : List VOp :=
  [mv 9 1 3,
   ⟨some 10, .call ⟨.value (.func 101), #[.tmp 9], #[3]⟩, 4, none⟩,
   asg 6 10 4]
def r72_3 : List VOp :=
  [mv 11 5 4]
def r72_4 : List VOp :=
  [mv 12 6 4]
def r72_5 : List VOp :=
  [⟨some 4, .assign (.const (.int .i64 0)), 3, none⟩]
def r72_6 : List VOp :=
  [⟨some 4, .assign (.const (.int .i64 (-1))), 3, none⟩]
def r72_7 : List VOp :=
  [mv 13 6 4]
def r72_8 : List VOp :=
  [⟨some 4, .assign (.const (.int .i64 1)), 3, none⟩]
def r72_9 : List VOp :=
  [mv 14 0 3,
   mv 15 1 3,
   ⟨some 16, .binOp .lss 3 (.tmp 14) (.tmp 15) 3, 4, none⟩]
def r72_10 : List VOp :=
  [⟨some 4, .assign (.const (.int .i64 (-1))), 3, none⟩]
def r72_11 : List VOp :=
  [mv 17 0 3,
   mv 18 1 3,
   ⟨some 19, .binOp .gtr 3 (.tmp 17) (.tmp 18) 3, 4, none⟩]
def r72_12 : List VOp :=
  [⟨some 4, .assign (.const (.int .i64 1)), 3, none⟩]
def r72_13 : List VOp :=
  [⟨some 4, .assign (.const (.int .i64 0)), 3, none⟩]
def B72 : VC :=
  (.seq (.region r72_0) (.seq (.region r72_1) (.seq (.region r72_2) (.seq (.seq (.region r72_3) (.cond (.tmp 11) (.seq (.seq (.region r72_4) (.cond (.tmp 12) (.seq (.region r72_5) .ret) .skip)) (.seq (.region r72_6) .ret)) .skip)) (.seq (.seq (.region r72_7) (.cond (.tmp 13) (.seq (.region r72_8) .ret) .skip)) (.seq (.seq (.region r72_9) (.cond (.tmp 16) (.seq (.region r72_10) .ret) .skip)) (.seq (.seq (.region r72_11) (.cond (.tmp 19) (.seq (.region r72_12) .ret) .skip)) (.seq (.region r72_13) .ret))))))))
theorem code72 : ∃ c, Try.f72.body = some c ∧ abs Try.f72.ntmps c = B72 := ⟨_, rfl, by kernel_rfl⟩
theorem hb72 : HasBody Try.prog 72 := hasBody_of Try.func72 (by kernel_rfl)
theorem res72 : Try.f72.results = #[(.tmp 4)] := rfl
theorem enter72 {w : World} {R : Value → World → Prop} (x0 x1 : Value) (h : vc Try.prog B72 (retK Try.prog #[(.tmp 4)] R) [] (initEnv [x0, x1] 0) w) : FnC Try.prog 72 #[x0, x1] w R := by
  obtain ⟨c, h1, h2⟩ := code72
  exact hb72.fn (ret_of_vc mixed Try.func72 h1 (Nat.le_of_ble_eq_true rfl) B72 h2 h)
@[push_cast] theorem vr72_0 : VR r72_0 [⟨some 4, .assign (.const (.int .i64 0)), 3, none⟩] := vR rfl
@[push_cast] theorem vr72_1 : VR r72_1 [⟨some 7, .move (.tmp 0), 3, none⟩, ⟨some 8, .call ⟨.value (.func 101), #[.tmp 7], #[3]⟩, 4, none⟩, ⟨some 5, .assign (.tmp 8), 4, none⟩] := vR rfl
@[push_cast] theorem vr72_2 : VR r72_2 [⟨some 9, .move (.tmp 1), 3, none⟩, ⟨some 10, .call ⟨.value (.func 101), #[.tmp 9], #[3]⟩, 4, none⟩, ⟨some 6, .assign (.tmp 10), 4, none⟩] := vR rfl
@[push_cast] theorem vr72_3 : VR r72_3 [⟨some 11, .move (.tmp 5), 4, none⟩] := vR rfl
@[push_cast] theorem vr72_4 : VR r72_4 [⟨some 12, .move (.tmp 6), 4, none⟩] := vR rfl
@[push_cast] theorem vr72_5 : VR r72_5 [⟨some 4, .assign (.const (.int .i64 0)), 3, none⟩] := vR rfl
@[push_cast] theorem vr72_6 : VR r72_6 [⟨some 4, .assign (.const (.int .i64 (-1))), 3, none⟩] := vR rfl
@[push_cast] theorem vr72_7 : VR r72_7 [⟨some 13, .move (.tmp 6), 4, none⟩] := vR rfl
@[push_cast] theorem vr72_8 : VR r72_8 [⟨some 4, .assign (.const (.int .i64 1)), 3, none⟩] := vR rfl
@[push_cast] theorem vr72_9 : VR r72_9 [⟨some 14, .move (.tmp 0), 3, none⟩, ⟨some 15, .move (.tmp 1), 3, none⟩, ⟨some 16, .binOp .lss 3 (.tmp 14) (.tmp 15) 3, 4, none⟩] := vR rfl
@[push_cast] theorem vr72_10 : VR r72_10 [⟨some 4, .assign (.const (.int .i64 (-1))), 3, none⟩] := vR rfl
@[push_cast] theorem vr72_11 : VR r72_11 [⟨some 17, .move (.tmp 0), 3, none⟩, ⟨some 18, .move (.tmp 1), 3, none⟩, ⟨some 19, .binOp .gtr 3 (.tmp 17) (.tmp 18) 3, 4, none⟩] := vR rfl
@[push_cast] theorem vr72_12 : VR r72_12 [⟨some 4, .assign (.const (.int .i64 1)), 3, none⟩] := vR rfl
@[push_cast] theorem vr72_13 : VR r72_13 [⟨some 4, .assign (.const (.int .i64 0)), 3, none⟩] := vR rfl
/-! 73 slices.Compare[[]string,string] (params #[22, 22], results #[(.tmp 4)], 36 slots) -/
def W73_0 : List Nat := [4, 5, 6, 7, 8, 11, 12, 13, 14, 15, 16, 17, 18, 19, 20, 21, 22, 23, 24, 25, 26, 27, 28, 29, 30]
@[push_cast] theorem W73_0_def : W73_0 = [4, 5, 6, 7, 8, 11, 12, 13, 14, 15, 16, 17, 18, 19, 20, 21, 22, 23, 24, 25, 26, 27, 28, 29, 30] := mk_eq rfl
def r73_0 : List VOp :=
  [⟨some 4, .assign (.const (.int .i64 0)), 3, none⟩]
def r73_1 : List VOp :=
  [mv 9 0 22,
   ⟨some 10, .call ⟨.builtin .len, #[.tmp 9], #[22]⟩, 3, none⟩,
   ⟨some 11, .move (.const (.int .i64 0)), 3, none⟩]
def r73_2 : List VOp :=
  [⟨some 12, .binOp .lss 3 (.tmp 11) (.tmp 10) 3, 0, none⟩]
def r73_3 : List VOp :=
  [mv 13 11 3,
   iad 14 22 9 11,
   lda 15 9 14,
   asg 5 13 3,
   asg 6 15 9]
def r73_4 : List VOp :=
  [mv 16 5 3,
   mv 17 1 22,
   ⟨some 18, .call ⟨.builtin .len, #[.tmp 17], #[22]⟩, 3, none⟩,
   ⟨some 19, .binOp .geq 3 (.tmp 16) (.tmp 18) 3, 4, none⟩]
def r73_5 : List VOp :=
  [⟨some 4, .assign (.const (.int .i64 1)), 3, none⟩]
def r73_6 : List VOp :=
  [mv 20 1 22,
   mv 21 5 3,
   iad 22 22 20 21,
   lda 23 9 22,
   asg 7 23 9]
def r73_7 : List VOp :=
  [mv 24 6 9,
   mv 25 7 9,
   ⟨some 26, .call ⟨.value (.func 102), #[.tmp 24, .tmp 25], #[9, 9]⟩, 3, none⟩,
   asg 8 26 3]
def r73_8 : List VOp :=
  [mv 27 8 3,
   ⟨some 28, .binOp .neq 3 (.tmp 27) (.const (.int .i64 0)) 3, 4, none⟩]
def r73_9 : List VOp :=
  [mv 29 8 3,
   asg 4 29 3]
def r73_10 : List VOp :=
  [⟨some 30, .binOp .add 3 (.tmp 11) (.const (.int .i64 1)) 3, 3, none⟩,
   mv 11 30 3]
def r73_11 : List VOp :=
  [mv 31 0 22,
   ⟨some 32, .call ⟨.builtin .len, #[.tmp 31], #[22]⟩, 3, none⟩,
   mv 33 1 22,
   ⟨some 34, .call ⟨.builtin .len, #[.tmp 33], #[22]⟩, 3, none⟩,
   ⟨some 35, .binOp .lss 3 (.tmp 32) (.tmp 34) 3, 4, none⟩]
def r73_12 : List VOp :=
  [⟨some 4, .assign (.const (.int .i64 (-1))), 3, none⟩]
def r73_13 : List VOp :=
  [⟨some 4, .assign (.const (.int .i64 0)), 3, none⟩]
def B73 : VC :=
  (.seq (.region r73_0) (.seq (.seq (.region r73_1) (.block 0 (.loop (.seq (.region r73_2) (.seq (.cond (.tmp 12) .skip (.exit 0)) (.seq (.block 1 (.seq (.region r73_3) (.seq (.seq (.region r73_4) (.cond (.tmp 19) (.seq (.region r73_5) .ret) .skip)) (.seq (.region r73_6) (.seq (.region r73_7) (.seq (.region r73_8) (.cond (.tmp 28) (.seq (.region r73_9) .ret) .skip))))))) (.region r73_10))))))) (.seq (.seq (.region r73_11) (.cond (.tmp 35) (.seq (.region r73_12) .ret) .skip)) (.seq (.region r73_13) .ret))))
theorem code73 : ∃ c, Try.f73.body = some c ∧ abs Try.f73.ntmps c = B73 := ⟨_, rfl, by kernel_rfl⟩
theorem hb73 : HasBody Try.prog 73 := hasBody_of Try.func73 (by kernel_rfl)
theorem res73 : Try.f73.results = #[(.tmp 4)] := rfl
theorem enter73 {w : World} {R : Value → World → Prop} (x0 x1 : Value) (h : vc Try.prog B73 (retK Try.prog #[(.tmp 4)] R) [] (initEnv [x0, x1] 0) w) : FnC Try.prog 73 #[x0, x1] w R := by
  obtain ⟨c, h1, h2⟩ := code73
  exact hb73.fn (ret_of_vc mixed Try.func73 h1 (Nat.le_of_ble_eq_true rfl) B73 h2 h)
@[push_cast] theorem vr73_0 : VR r73_0 [⟨some 4, .assign (.const (.int .i64 0)), 3, none⟩] := vR rfl
@[push_cast] theorem vr73_1 : VR r73_1 [⟨some 9, .move (.tmp 0), 22, none⟩, ⟨some 10, .call ⟨.builtin .len, #[.tmp 9], #[22]⟩, 3, none⟩, ⟨some 11, .move (.const (.int .i64 0)), 3, none⟩] := vR rfl
@[push_cast] theorem vr73_2 : VR r73_2 [⟨some 12, .binOp .lss 3 (.tmp 11) (.tmp 10) 3, 0, none⟩] := vR rfl
@[push_cast] theorem vr73_3 : VR r73_3 [⟨some 13, .move (.tmp 11), 3, none⟩, ⟨some 14, .indexAddr 22 (.tmp 9) (.tmp 11), 0, none⟩, ⟨some 15, .load 9 (.tmp 14), 9, none⟩, ⟨some 5, .assign (.tmp 13), 3, none⟩, ⟨some 6, .assign (.tmp 15), 9, none⟩] := vR rfl
@[push_cast] theorem vr73_4 : VR r73_4 [⟨some 16, .move (.tmp 5), 3, none⟩, ⟨some 17, .move (.tmp 1), 22, none⟩, ⟨some 18, .call ⟨.builtin .len, #[.tmp 17], #[22]⟩, 3, none⟩, ⟨some 19, .binOp .geq 3 (.tmp 16) (.tmp 18) 3, 4, none⟩] := vR rfl
@[push_cast] theorem vr73_5 : VR r73_5 [⟨some 4, .assign (.const (.int .i64 1)), 3, none⟩] := vR rfl
@[push_cast] theorem vr73_6 : VR r73_6 [⟨some 20, .move (.tmp 1), 22, none⟩, ⟨some 21, .move (.tmp 5), 3, none⟩, ⟨some 22, .indexAddr 22 (.tmp 20) (.tmp 21), 0, none⟩, ⟨some 23, .load 9 (.tmp 22), 9, none⟩, ⟨some 7, .assign (.tmp 23), 9, none⟩] := vR rfl
@[push_cast] theorem vr73_7 : VR r73_7 [⟨some 24, .move (.tmp 6), 9, none⟩, ⟨some 25, .move (.tmp 7), 9, none⟩, ⟨some 26, .call ⟨.value (.func 102), #[.tmp 24, .tmp 25], #[9, 9]⟩, 3, none⟩, ⟨some 8, .assign (.tmp 26), 3, none⟩] := vR rfl
@[push_cast] theorem vr73_8 : VR r73_8 [⟨some 27, .move (.tmp 8), 3, none⟩, ⟨some 28, .binOp .neq 3 (.tmp 27) (.const (.int .i64 0)) 3, 4, none⟩] := vR rfl
@[push_cast] theorem vr73_9 : VR r73_9 [⟨some 29, .move (.tmp 8), 3, none⟩, ⟨some 4, .assign (.tmp 29), 3, none⟩] := vR rfl
@[push_cast] theorem vr73_10 : VR r73_10 [⟨some 30, .binOp .add 3 (.tmp 11) (.const (.int .i64 1)) 3, 3, none⟩, ⟨some 11, .move (.tmp 30), 3, none⟩] := vR rfl
@[push_cast] theorem vr73_11 : VR r73_11 [⟨some 31, .move (.tmp 0), 22, none⟩, ⟨some 32, .call ⟨.builtin .len, #[.tmp 31], #[22]⟩, 3, none⟩, ⟨some 33, .move (.tmp 1), 22, none⟩, ⟨some 34, .call ⟨.builtin .len, #[.tmp 33], #[22]⟩, 3, none⟩, ⟨some 35, .binOp .lss 3 (.tmp 32) (.tmp 34) 3, 4, none⟩] := vR rfl
@[push_cast] theorem vr73_12 : VR r73_12 [⟨some 4, .assign (.const (.int .i64 (-1))), 3, none⟩] := vR rfl
@[push_cast] theorem vr73_13 : VR r73_13 [⟨some 4, .assign (.const (.int .i64 0)), 3, none⟩] := vR rfl
/-! 74 columbary/agg.Join (params #[64, 64], results #[(.cell 4 64), (.tmp 5)], 56 slots) -/
def r74_0 : List VOp :=
  [⟨some 2, .box 64 (.tmp 0), 0, none⟩,
   ⟨some 3, .box 64 (.tmp 1), 0, none⟩,
   ⟨some 4, .alloc 64, 0, none⟩,
   ⟨some 5, .assign (.const (.int .i64 0)), 28, none⟩]
def r74_1 : List VOp :=
  [lda 6 64 2,
   ⟨some 7, .call ⟨.value (.func 64), #[.tmp 6], #[64]⟩, 4, none⟩,
   ⟨some 8, .unOp .not 4 (.tmp 7), 4, none⟩,
   mv 9 8 4,
   ⟨some 10, .load 64 (.tmp 3), 64, some (9, false)⟩,
   ⟨some 11, .call ⟨.value (.func 64), #[.tmp 10], #[64]⟩, 4, some (9, false)⟩,
   ⟨some 12, .unOp .not 4 (.tmp 11), 4, some (9, false)⟩,
   ⟨some 13, .pick (.tmp 9) (.const (.bool true)) (.tmp 12), 4, none⟩]
def r74_2 : List VOp :=
  [⟨some 14, .build 64 #[], 64, none⟩,
   ⟨none, .store 64 (.tmp 4) (.tmp 14), 0, none⟩,
   ⟨some 5, .assign (.const (.int .i64 1)), 28, none⟩]
def r74_3 : List VOp :=
  [fad 15 64 2 0,
   lda 16 3 15,
   ⟨some 17, .binOp .gtr 3 (.tmp 16) (.const (.int .i64 0)) 3, 4, none⟩,
   mv 18 17 4,
   ⟨some 19, .fieldAddr 64 (.tmp 3) 0, 0, some (18, true)⟩,
   ⟨some 20, .load 3 (.tmp 19), 3, some (18, true)⟩,
   ⟨some 21, .fieldAddr 64 (.tmp 2) 0, 0, some (18, true)⟩,
   ⟨some 22, .load 3 (.tmp 21), 3, some (18, true)⟩,
   ⟨some 23, .binOp .sub 3 (.const (.int .i64 4611686018427387904)) (.tmp 22) 3, 3, some (18, true)⟩,
   ⟨some 24, .binOp .gtr 3 (.tmp 20) (.tmp 23) 3, 4, some (18, true)⟩,
   ⟨some 25, .pick (.tmp 18) (.tmp 24) (.const (.bool false)), 4, none⟩,
   mv 26 25 4,
   ⟨some 27, .fieldAddr 64 (.tmp 2) 0, 0, some (26, false)⟩,
   ⟨some 28, .load 3 (.tmp 27), 3, some (26, false)⟩,
   ⟨some 29, .binOp .lss 3 (.tmp 28) (.const (.int .i64 0)) 3, 4, some (26, false)⟩,
   ⟨some 30, .move (.tmp 29), 4, some (26, false)⟩,
   ⟨some 31, .fieldAddr 64 (.tmp 3) 0, 0, some (30, true)⟩,
   ⟨some 32, .load 3 (.tmp 31), 3, some (30, true)⟩,
   ⟨some 33, .fieldAddr 64 (.tmp 2) 0, 0, some (30, true)⟩,
   ⟨some 34, .load 3 (.tmp 33), 3, some (30, true)⟩,
   ⟨some 35, .binOp .sub 3 (.const (.int .i64 (-4611686018427387904))) (.tmp 34) 3, 3, some (30, true)⟩,
   ⟨some 36, .binOp .lss 3 (.tmp 32) (.tmp 35) 3, 4, some (30, true)⟩,
   ⟨some 37, .pick (.tmp 30) (.tmp 36) (.const (.bool false)), 4, some (26, false)⟩,
   ⟨some 38, .pick (.tmp 26) (.const (.bool true)) (.tmp 37), 4, none⟩]
def r74_4 : List VOp :=
  [⟨some 39, .build 64 #[], 64, none⟩,
   ⟨none, .store 64 (.tmp 4) (.tmp 39), 0, none⟩,
   ⟨some 5, .assign (.const (.int .i64 121)), 28, none⟩]
def r74_5 : List VOp :=
  [fad 40 64 2 0,
   lda 41 3 40,
   fad 42 64 3 0,
   lda 43 3 42,
   ⟨some 44, .binOp .add 3 (.tmp 41) (.tmp 43) 3, 3, none⟩,
   fad 45 64 2 1,
   lda 46 3 45,
   fad 47 64 3 1,
   lda 48 3 47,
   ⟨some 49, .call ⟨.builtin .min, #[.tmp 46, .tmp 48], #[3, 3]⟩, 3, none⟩,
   fad 50 64 2 2,
   lda 51 3 50,
   fad 52 64 3 2,
   lda 53 3 52,
   ⟨some 54, .call ⟨.builtin .max, #[.tmp 51, .tmp 53], #[3, 3]⟩, 3, none⟩,
   ⟨some 55, .build 64 #[(0, (.tmp 44)), (1, (.tmp 49)), (2, (.tmp 54))], 64, none⟩,
   ⟨none, .store 64 (.tmp 4) (.tmp 55), 0, none⟩,
   ⟨some 5, .assign (.const (.int .i64 0)), 28, none⟩]
def B74 : VC :=
  (.seq (.region r74_0) (.seq (.seq (.region r74_1) (.cond (.tmp 13) (.seq (.region r74_2) .ret) .skip)) (.seq (.seq (.region r74_3) (.cond (.tmp 38) (.seq (.region r74_4) .ret) .skip)) (.seq (.region r74_5) .ret))))
theorem code74 : ∃ c, Try.f74.body = some c ∧ abs Try.f74.ntmps c = B74 := ⟨_, rfl, by kernel_rfl⟩
theorem hb74 : HasBody Try.prog 74 := hasBody_of Try.func74 (by kernel_rfl)
theorem res74 : Try.f74.results = #[(.cell 4 64), (.tmp 5)] := rfl
theorem enter74 {w : World} {R : Value → World → Prop} (x0 x1 : Value) (h : vc Try.prog B74 (retK Try.prog #[(.cell 4 64), (.tmp 5)] R) [] (initEnv [x0, x1] 0) w) : FnC Try.prog 74 #[x0, x1] w R := by
  obtain ⟨c, h1, h2⟩ := code74
  exact hb74.fn (ret_of_vc mixed Try.func74 h1 (Nat.le_of_ble_eq_true rfl) B74 h2 h)
@[push_cast] theorem vr74_0 : VR r74_0 [⟨some 2, .box 64 (.tmp 0), 0, none⟩, ⟨some 3, .box 64 (.tmp 1), 0, none⟩, ⟨some 4, .alloc 64, 0, none⟩, ⟨some 5, .assign (.const (.int .i64 0)), 28, none⟩] := vR rfl
@[push_cast] theorem vr74_1 : VR r74_1 [⟨some 6, .load 64 (.tmp 2), 64, none⟩, ⟨some 7, .call ⟨.value (.func 64), #[.tmp 6], #[64]⟩, 4, none⟩, ⟨some 8, .unOp .not 4 (.tmp 7), 4, none⟩, ⟨some 9, .move (.tmp 8), 4, none⟩, ⟨some 10, .load 64 (.tmp 3), 64, some (9, false)⟩, ⟨some 11, .call ⟨.value (.func 64), #[.tmp 10], #[64]⟩, 4, some (9, false)⟩, ⟨some 12, .unOp .not 4 (.tmp 11), 4, some (9, false)⟩, ⟨some 13, .pick (.tmp 9) (.const (.bool true)) (.tmp 12), 4, none⟩] := vR rfl
@[push_cast] theorem vr74_2 : VR r74_2 [⟨some 14, .build 64 #[], 64, none⟩, ⟨none, .store 64 (.tmp 4) (.tmp 14), 0, none⟩, ⟨some 5, .assign (.const (.int .i64 1)), 28, none⟩] := vR rfl
@[push_cast] theorem vr74_3 : VR r74_3 [⟨some 15, .fieldAddr 64 (.tmp 2) 0, 0, none⟩, ⟨some 16, .load 3 (.tmp 15), 3, none⟩, ⟨some 17, .binOp .gtr 3 (.tmp 16) (.const (.int .i64 0)) 3, 4, none⟩, ⟨some 18, .move (.tmp 17), 4, none⟩, ⟨some 19, .fieldAddr 64 (.tmp 3) 0, 0, some (18, true)⟩, ⟨some 20, .load 3 (.tmp 19), 3, some (18, true)⟩, ⟨some 21, .fieldAddr 64 (.tmp 2) 0, 0, some (18, true)⟩, ⟨some 22, .load 3 (.tmp 21), 3, some (18, true)⟩, ⟨some 23, .binOp .sub 3 (.const (.int .i64 4611686018427387904)) (.tmp 22) 3, 3, some (18, true)⟩, ⟨some 24, .binOp .gtr 3 (.tmp 20) (.tmp 23) 3, 4, some (18, true)⟩, ⟨some 25, .pick (.tmp 18) (.tmp 24) (.const (.bool false)), 4, none⟩, ⟨some 26, .move (.tmp 25), 4, none⟩, ⟨some 27, .fieldAddr 64 (.tmp 2) 0, 0, some (26, false)⟩, ⟨some 28, .load 3 (.tmp 27), 3, some (26, false)⟩, ⟨some 29, .binOp .lss 3 (.tmp 28) (.const (.int .i64 0)) 3, 4, some (26, false)⟩, ⟨some 30, .move (.tmp 29), 4, some (26, false)⟩, ⟨some 31, .fieldAddr 64 (.tmp 3) 0, 0, some (30, true)⟩, ⟨some 32, .load 3 (.tmp 31), 3, some (30, true)⟩, ⟨some 33, .fieldAddr 64 (.tmp 2) 0, 0, some (30, true)⟩, ⟨some 34, .load 3 (.tmp 33), 3, some (30, true)⟩, ⟨some 35, .binOp .sub 3 (.const (.int .i64 (-4611686018427387904))) (.tmp 34) 3, 3, some (30, true)⟩, ⟨some 36, .binOp .lss 3 (.tmp 32) (.tmp 35) 3, 4, some (30, true)⟩, ⟨some 37, .pick (.tmp 30) (.tmp 36) (.const (.bool false)), 4, some (26, false)⟩, ⟨some 38, .pick (.tmp 26) (.const (.bool true)) (.tmp 37), 4, none⟩] := vR rfl
@[push_cast] theorem vr74_4 : VR r74_4 [⟨some 39, .build 64 #[], 64, none⟩, ⟨none, .store 64 (.tmp 4) (.tmp 39), 0, none⟩, ⟨some 5, .assign (.const (.int .i64 121)), 28, none⟩] := vR rfl
@[push_cast] theorem vr74_5 : VR r74_5 [⟨some 40, .fieldAddr 64 (.tmp 2) 0, 0, none⟩, ⟨some 41, .load 3 (.tmp 40), 3, none⟩, ⟨some 42, .fieldAddr 64 (.tmp 3) 0, 0, none⟩, ⟨some 43, .load 3 (.tmp 42), 3, none⟩, ⟨some 44, .binOp .add 3 (.tmp 41) (.tmp 43) 3, 3, none⟩, ⟨some 45, .fieldAddr 64 (.tmp 2) 1, 0, none⟩, ⟨some 46, .load 3 (.tmp 45), 3, none⟩, ⟨some 47, .fieldAddr 64 (.tmp 3) 1, 0, none⟩, ⟨some 48, .load 3 (.tmp 47), 3, none⟩, ⟨some 49, .call ⟨.builtin .min, #[.tmp 46, .tmp 48], #[3, 3]⟩, 3, none⟩, ⟨some 50, .fieldAddr 64 (.tmp 2) 2, 0, none⟩, ⟨some 51, .load 3 (.tmp 50), 3, none⟩, ⟨some 52, .fieldAddr 64 (.tmp 3) 2, 0, none⟩, ⟨some 53, .load 3 (.tmp 52), 3, none⟩, ⟨some 54, .call ⟨.builtin .max, #[.tmp 51, .tmp 53], #[3, 3]⟩, 3, none⟩, ⟨some 55, .build 64 #[(0, (.tmp 44)), (1, (.tmp 49)), (2, (.tmp 54))], 64, none⟩, ⟨none, .store 64 (.tmp 4) (.tmp 55), 0, none⟩, ⟨some 5, .assign (.const (.int .i64 0)), 28, none⟩] := vR rfl
/-! 79 columbary/columbaryref10.Name (params #[9], results #[(.tmp 2)], 71 slots) -/
def W79_0 : List Nat := [2, 4, 9, 10, 11, 12, 13, 14, 15, 16, 17, 18, 19, 20]
@[push_cast] theorem W79_0_def : W79_0 = [2, 4, 9, 10, 11, 12, 13, 14, 15, 16, 17, 18, 19, 20] := mk_eq rfl
def W79_1 : List Nat := [2, 5, 6, 7, 21, 22, 23, 24, 25, 26, 27, 28, 29, 30, 31, 32, 33, 34, 35, 36, 37, 38, 39, 40, 41, 42, 43, 44, 45, 46, 47, 48, 49, 50, 51, 52, 53, 54, 55, 56, 57, 58, 59, 60, 61, 62]
@[push_cast] theorem W79_1_def : W79_1 = [2, 5, 6, 7, 21, 22, 23, 24, 25, 26, 27, 28, 29, 30, 31, 32, 33, 34, 35, 36, 37, 38, 39, 40, 41, 42, 43, 44, 45, 46, 47, 48, 49, 50, 51, 52, 53, 54, 55, 56, 57, 58, 59, 60, 61, 62] := mk_eq rfl
def r79_0 : List VOp :=
  [⟨some 2, .assign (.const (.bool false)), 4, none⟩]
def r79_1 : List VOp :=
  [⟨some 8, .call ⟨.value (.func 103), #[], #[]⟩, 22, none⟩,
   asg 3 8 22]
def r79_2 : List VOp :=
  [⟨some 4, .assign (.const (.int .i64 0)), 3, none⟩]
def r79_3 : List VOp :=
  [mv 9 4 3,
   mv 10 3 22,
   ⟨some 11, .call ⟨.builtin .len, #[.tmp 10], #[22]⟩, 3, none⟩,
   ⟨some 12, .binOp .lss 3 (.tmp 9) (.tmp 11) 3, 4, none⟩]
def r79_5 : List VOp :=
  [mv 15 3 22,
   mv 16 4 3,
   iad 17 22 15 16,
   lda 18 9 17,
   mv 19 0 9,
   ⟨some 20, .binOp .eql 9 (.tmp 18) (.tmp 19) 9, 4, none⟩]
def r79_6 : List VOp :=
  [⟨some 2, .assign (.const (.bool false)), 4, none⟩]
def r79_4 : List VOp :=
  [mv 13 4 3,
   ⟨some 14, .binOp .add 3 (.tmp 13) (.const (.int .i64 1)) 3, 3, none⟩,
   asg 4 14 3]
def r79_7 : List VOp :=
  [⟨some 5, .assign (.const (.int .i64 0)), 3, none⟩]
def r79_8 : List VOp :=
  [mv 21 5 3,
   mv 22 0 9,
   ⟨some 23, .call ⟨.builtin .len, #[.tmp 22], #[9]⟩, 3, none⟩,
   ⟨some 24, .binOp .lss 3 (.tmp 21) (.tmp 23) 3, 4, none⟩]
def r79_10 : List VOp :=
  [mv 27 0 9,
   mv 28 5 3,
   ⟨some 29, .index 9 (.tmp 27) (.tmp 28), 5, none⟩,
   ⟨some 30, .binOp .geq 5 (.tmp 29) (.const (.int .u8 97)) 5, 4, none⟩,
   mv 31 30 4,
   ⟨some 32, .move (.tmp 0), 9, some (31, true)⟩,
   ⟨some 33, .move (.tmp 5), 3, some (31, true)⟩,
   ⟨some 34, .index 9 (.tmp 32) (.tmp 33), 5, some (31, true)⟩,
   ⟨some 35, .binOp .leq 5 (.tmp 34) (.const (.int .u8 122)) 5, 4, some (31, true)⟩,
   ⟨some 36, .pick (.tmp 31) (.tmp 35) (.const (.bool false)), 4, none⟩,
   asg 6 36 4]
def r79_11 : List VOp :=
  [mv 37 0 9,
   mv 38 5 3,
   ⟨some 39, .index 9 (.tmp 37) (.tmp 38), 5, none⟩,
   ⟨some 40, .binOp .geq 5 (.tmp 39) (.const (.int .u8 48)) 5, 4, none⟩,
   mv 41 40 4,
   ⟨some 42, .move (.tmp 0), 9, some (41, true)⟩,
   ⟨some 43, .move (.tmp 5), 3, some (41, true)⟩,
   ⟨some 44, .index 9 (.tmp 42) (.tmp 43), 5, some (41, true)⟩,
   ⟨some 45, .binOp .leq 5 (.tmp 44) (.const (.int .u8 57)) 5, 4, some (41, true)⟩,
   ⟨some 46, .pick (.tmp 41) (.tmp 45) (.const (.bool false)), 4, none⟩,
   mv 47 46 4,
   ⟨some 48, .move (.tmp 0), 9, some (47, false)⟩,
   ⟨some 49, .move (.tmp 5), 3, some (47, false)⟩,
   ⟨some 50, .index 9 (.tmp 48) (.tmp 49), 5, some (47, false)⟩,
   ⟨some 51, .binOp .eql 5 (.tmp 50) (.const (.int .u8 95)) 5, 4, some (47, false)⟩,
   ⟨some 52, .pick (.tmp 47) (.const (.bool true)) (.tmp 51), 4, none⟩,
   asg 7 52 4]
def r79_12 : List VOp :=
  [mv 53 6 4,
   ⟨some 54, .unOp .not 4 (.tmp 53), 4, none⟩,
   mv 55 54 4,
   ⟨some 56, .move (.tmp 7), 4, some (55, true)⟩,
   ⟨some 57, .unOp .not 4 (.tmp 56), 4, some (55, true)⟩,
   ⟨some 58, .move (.tmp 57), 4, some (55, true)⟩,
   ⟨some 59, .move (.tmp 5), 3, some (58, false)⟩,
   ⟨some 60, .binOp .eql 3 (.tmp 59) (.const (.int .i64 0)) 3, 4, some (58, false)⟩,
   ⟨some 61, .pick (.tmp 58) (.const (.bool true)) (.tmp 60), 4, some (55, true)⟩,
   ⟨some 62, .pick (.tmp 55) (.tmp 61) (.const (.bool false)), 4, none⟩]
def r79_13 : List VOp :=
  [⟨some 2, .assign (.const (.bool false)), 4, none⟩]
def r79_9 : List VOp :=
  [mv 25 5 3,
   ⟨some 26, .binOp .add 3 (.tmp 25) (.const (.int .i64 1)) 3, 3, none⟩,
   asg 5 26 3]
def r79_14 : List VOp :=
  [mv 63 0 9,
   ⟨some 64, .call ⟨.builtin .len, #[.tmp 63], #[9]⟩, 3, none⟩,
   ⟨some 65, .binOp .geq 3 (.tmp 64) (.const (.int .i64 1)) 3, 4, none⟩,
   mv 66 65 4,
   ⟨some 67, .move (.tmp 0), 9, some (66, true)⟩,
   ⟨some 68, .call ⟨.builtin .len, #[.tmp 67], #[9]⟩, 3, some (66, true)⟩,
   ⟨some 69, .binOp .leq 3 (.tmp 68) (.const (.int .i64 12)) 3, 4, some (66, true)⟩,
   ⟨some 70, .pick (.tmp 66) (.tmp 69) (.const (.bool false)), 4, none⟩,
   asg 2 70 4]
def B79 : VC :=
  (.seq (.region r79_0) (.seq (.region r79_1) (.seq (.seq (.region r79_2) (.block 0 (.loop (.seq (.seq (.region r79_3) (.cond (.tmp 12) .skip (.exit 0))) (.seq (.block 1 (.seq (.region r79_5) (.cond (.tmp 20) (.seq (.region r79_6) .ret) .skip))) (.region r79_4)))))) (.seq (.seq (.region r79_7) (.block 2 (.loop (.seq (.seq (.region r79_8) (.cond (.tmp 24) .skip (.exit 2))) (.seq (.block 3 (.seq (.region r79_10) (.seq (.region r79_11) (.seq (.region r79_12) (.cond (.tmp 62) (.seq (.region r79_13) .ret) .skip))))) (.region r79_9)))))) (.seq (.region r79_14) .ret)))))
theorem code79 : ∃ c, Try.f79.body = some c ∧ abs Try.f79.ntmps c = B79 := ⟨_, rfl, by kernel_rfl⟩
theorem hb79 : HasBody Try.prog 79 := hasBody_of Try.func79 (by kernel_rfl)
theorem res79 : Try.f79.results = #[(.tmp 2)] := rfl
theorem enter79 {w : World} {R : Value → World → Prop} (x0 : Value) (h : vc Try.prog B79 (retK Try.prog #[(.tmp 2)] R) [] (initEnv [x0] 0) w) : FnC Try.prog 79 #[x0] w R := by
  obtain ⟨c, h1, h2⟩ := code79
  exact hb79.fn (ret_of_vc mixed Try.func79 h1 (Nat.le_of_ble_eq_true rfl) B79 h2 h)
@[push_cast] theorem vr79_0 : VR r79_0 [⟨some 2, .assign (.const (.bool false)), 4, none⟩] := vR rfl
@[push_cast] theorem vr79_1 : VR r79_1 [⟨some 8, .call ⟨.value (.func 103), #[], #[]⟩, 22, none⟩, ⟨some 3, .assign (.tmp 8), 22, none⟩] := vR rfl
@[push_cast] theorem vr79_2 : VR r79_2 [⟨some 4, .assign (.const (.int .i64 0)), 3, none⟩] := vR rfl
@[push_cast] theorem vr79_3 : VR r79_3 [⟨some 9, .move (.tmp 4), 3, none⟩, ⟨some 10, .move (.tmp 3), 22, none⟩, ⟨some 11, .call ⟨.builtin .len, #[.tmp 10], #[22]⟩, 3, none⟩, ⟨some 12, .binOp .lss 3 (.tmp 9) (.tmp 11) 3, 4, none⟩] := vR rfl
@[push_cast] theorem vr79_5 : VR r79_5 [⟨some 15, .move (.tmp 3), 22, none⟩, ⟨some 16, .move (.tmp 4), 3, none⟩, ⟨some 17, .indexAddr 22 (.tmp 15) (.tmp 16), 0, none⟩, ⟨some 18, .load 9 (.tmp 17), 9, none⟩, ⟨some 19, .move (.tmp 0), 9, none⟩, ⟨some 20, .binOp .eql 9 (.tmp 18) (.tmp 19) 9, 4, none⟩] := vR rfl
@[push_cast] theorem vr79_6 : VR r79_6 [⟨some 2, .assign (.const (.bool false)), 4, none⟩] := vR rfl
@[push_cast] theorem vr79_4 : VR r79_4 [⟨some 13, .move (.tmp 4), 3, none⟩, ⟨some 14, .binOp .add 3 (.tmp 13) (.const (.int .i64 1)) 3, 3, none⟩, ⟨some 4, .assign (.tmp 14), 3, none⟩] := vR rfl
@[push_cast] theorem vr79_7 : VR r79_7 [⟨some 5, .assign (.const (.int .i64 0)), 3, none⟩] := vR rfl
@[push_cast] theorem vr79_8 : VR r79_8 [⟨some 21, .move (.tmp 5), 3, none⟩, ⟨some 22, .move (.tmp 0), 9, none⟩, ⟨some 23, .call ⟨.builtin .len, #[.tmp 22], #[9]⟩, 3, none⟩, ⟨some 24, .binOp .lss 3 (.tmp 21) (.tmp 23) 3, 4, none⟩] := vR rfl
@[push_cast] theorem vr79_10 : VR r79_10 [⟨some 27, .move (.tmp 0), 9, none⟩, ⟨some 28, .move (.tmp 5), 3, none⟩, ⟨some 29, .index 9 (.tmp 27) (.tmp 28), 5, none⟩, ⟨some 30, .binOp .geq 5 (.tmp 29) (.const (.int .u8 97)) 5, 4, none⟩, ⟨some 31, .move (.tmp 30), 4, none⟩, ⟨some 32, .move (.tmp 0), 9, some (31, true)⟩, ⟨some 33, .move (.tmp 5), 3, some (31, true)⟩, ⟨some 34, .index 9 (.tmp 32) (.tmp 33), 5, some (31, true)⟩, ⟨some 35, .binOp .leq 5 (.tmp 34) (.const (.int .u8 122)) 5, 4, some (31, true)⟩, ⟨some 36, .pick (.tmp 31) (.tmp 35) (.const (.bool false)), 4, none⟩, ⟨some 6, .assign (.tmp 36), 4, none⟩] := vR rfl
@[push_cast] theorem vr79_11 : VR r79_11 [⟨some 37, .move (.tmp 0), 9, none⟩, ⟨some 38, .move (.tmp 5), 3, none⟩, ⟨some 39, .index 9 (.tmp 37) (.tmp 38), 5, none⟩, ⟨some 40, .binOp .geq 5 (.tmp 39) (.const (.int .u8 48)) 5, 4, none⟩, ⟨some 41, .move (.tmp 40), 4, none⟩, ⟨some 42, .move (.tmp 0), 9, some (41, true)⟩, ⟨some 43, .move (.tmp 5), 3, some (41, true)⟩, ⟨some 44, .index 9 (.tmp 42) (.tmp 43), 5, some (41, true)⟩, ⟨some 45, .binOp .leq 5 (.tmp 44) (.const (.int .u8 57)) 5, 4, some (41, true)⟩, ⟨some 46, .pick (.tmp 41) (.tmp 45) (.const (.bool false)), 4, none⟩, ⟨some 47, .move (.tmp 46), 4, none⟩, ⟨some 48, .move (.tmp 0), 9, some (47, false)⟩, ⟨some 49, .move (.tmp 5), 3, some (47, false)⟩, ⟨some 50, .index 9 (.tmp 48) (.tmp 49), 5, some (47, false)⟩, ⟨some 51, .binOp .eql 5 (.tmp 50) (.const (.int .u8 95)) 5, 4, some (47, false)⟩, ⟨some 52, .pick (.tmp 47) (.const (.bool true)) (.tmp 51), 4, none⟩, ⟨some 7, .assign (.tmp 52), 4, none⟩] := vR rfl
@[push_cast] theorem vr79_12 : VR r79_12 [⟨some 53, .move (.tmp 6), 4, none⟩, ⟨some 54, .unOp .not 4 (.tmp 53), 4, none⟩, ⟨some 55, .move (.tmp 54), 4, none⟩, ⟨some 56, .move (.tmp 7), 4, some (55, true)⟩, ⟨some 57, .unOp .not 4 (.tmp 56), 4, some (55, true)⟩, ⟨some 58, .move (.tmp 57), 4, some (55, true)⟩, ⟨some 59, .move (.tmp 5), 3, some (58, false)⟩, ⟨some 60, .binOp .eql 3 (.tmp 59) (.const (.int .i64 0)) 3, 4, some (58, false)⟩, ⟨some 61, .pick (.tmp 58) (.const (.bool true)) (.tmp 60), 4, some (55, true)⟩, ⟨some 62, .pick (.tmp 55) (.tmp 61) (.const (.bool false)), 4, none⟩] := vR rfl
@[push_cast] theorem vr79_13 : VR r79_13 [⟨some 2, .assign (.const (.bool false)), 4, none⟩] := vR rfl
@[push_cast] theorem vr79_9 : VR r79_9 [⟨some 25, .move (.tmp 5), 3, none⟩, ⟨some 26, .binOp .add 3 (.tmp 25) (.const (.int .i64 1)) 3, 3, none⟩, ⟨some 5, .assign (.tmp 26), 3, none⟩] := vR rfl
@[push_cast] theorem vr79_14 : VR r79_14 [⟨some 63, .move (.tmp 0), 9, none⟩, ⟨some 64, .call ⟨.builtin .len, #[.tmp 63], #[9]⟩, 3, none⟩, ⟨some 65, .binOp .geq 3 (.tmp 64) (.const (.int .i64 1)) 3, 4, none⟩, ⟨some 66, .move (.tmp 65), 4, none⟩, ⟨some 67, .move (.tmp 0), 9, some (66, true)⟩, ⟨some 68, .call ⟨.builtin .len, #[.tmp 67], #[9]⟩, 3, some (66, true)⟩, ⟨some 69, .binOp .leq 3 (.tmp 68) (.const (.int .i64 12)) 3, 4, some (66, true)⟩, ⟨some 70, .pick (.tmp 66) (.tmp 69) (.const (.bool false)), 4, none⟩, ⟨some 2, .assign (.tmp 70), 4, none⟩] := vR rfl
@[push_cast] theorem bsl22_0_CodesA {K : Value → World → Prop} {w : World}  : vBuildSlice Try.prog 22 0 #[] K w = K (.slice (some ⟨w.heap.size, 0, none⟩) 0 0) (w.alloc (.cells #[] 9)) :=
  vBuildSlice_ok Try.underlying22 ti9 (by kernel_rfl) (by decide)
@[push_cast] theorem bsl22_1_CodesA {K : Value → World → Prop} {w : World} (x0 : ByteArray) : vBuildSlice Try.prog 22 1 #[(0, (.string x0))] K w = K (.slice (some ⟨w.heap.size, 0, none⟩) 1 1) (w.alloc (.cells #[(.string x0)] 9)) :=
  vBuildSlice_ok Try.underlying22 ti9 (by kernel_rfl) (by decide)
@[push_cast] theorem bsl47_1_CodesA {K : Value → World → Prop} {w : World} (x0 : Int) : vBuildSlice Try.prog 47 1 #[(0, (.int .i64 x0))] K w = K (.slice (some ⟨w.heap.size, 0, none⟩) 1 1) (w.alloc (.cells #[(.int .i64 x0)] 3)) :=
  vBuildSlice_ok Try.underlying47 ti3 (by kernel_rfl) (by decide)
@[push_cast] theorem bsl47_3_CodesA {K : Value → World → Prop} {w : World} (x0 : Int) (x1 : Int) (x2 : Int) : vBuildSlice Try.prog 47 3 #[(0, (.int .i64 x0)), (1, (.int .i64 x1)), (2, (.int .i64 x2))] K w = K (.slice (some ⟨w.heap.size, 0, none⟩) 3 3) (w.alloc (.cells #[(.int .i64 x0), (.int .i64 x1), (.int .i64 x2)] 3)) :=
  vBuildSlice_ok Try.underlying47 ti3 (by kernel_rfl) (by decide)
@[push_cast] theorem bld24_0_1_CodesA {K : Value → World → Prop} {w : World} (x0o : Option Addr) (x0n x0c : Nat) (x1o : Option Addr) (x1n x1c : Nat) : vBuild Try.prog 24 #[(0, (.slice x0o x0n x0c)), (1, (.slice x1o x1n x1c))] K w = K (.agg #[(.slice x0o x0n x0c), (.slice x1o x1n x1c)]) w :=
  vBuild_ok (by kernel_rfl)
@[push_cast] theorem bld64__CodesA {K : Value → World → Prop} {w : World}  : vBuild Try.prog 64 #[] K w = K (.agg #[(.int .i64 0), (.int .i64 0), (.int .i64 0)]) w :=
  vBuild_ok (by kernel_rfl)
@[push_cast] theorem bld64_0_1_2_CodesA {K : Value → World → Prop} {w : World} (x0 : Int) (x1 : Int) (x2 : Int) : vBuild Try.prog 64 #[(0, (.int .i64 x0)), (1, (.int .i64 x1)), (2, (.int .i64 x2))] K w = K (.agg #[(.int .i64 x0), (.int .i64 x1), (.int .i64 x2)]) w :=
  vBuild_ok (by kernel_rfl)
end Go.Proofs.Ythihbgpaoldbjaa
end
