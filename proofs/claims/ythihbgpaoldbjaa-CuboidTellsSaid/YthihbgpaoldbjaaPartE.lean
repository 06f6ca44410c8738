/- The functions' code in the generator's form. Written by a program (codes.py) out of Lean's own print of the loaded translation. -/
import Derived.Test.YthihbgpaoldbjaaPartD
set_option linter.all false
section
namespace Go.Proofs.Ythihbgpaoldbjaa
open Go.Vc
set_option maxRecDepth 100000
variable (Q : Post) (ds : List Deferred) (σ : Env) (w : World)
abbrev VR (r l : List VOp) : Prop := ∀ (Q : Post) (ds : List Deferred) (σ : Env) (w : World), vc Try.prog (.region r) Q ds σ w = vcOps Try.prog l (Q .normal ds) σ w
theorem vR {r l : List VOp} (h : r = l) : VR r l := fun Q ds σ w => mk_eq (by subst h; rfl)
abbrev mv (d s t : Nat) : VOp := ⟨some d, .move (.tmp s), t, none⟩
abbrev lda (d t s : Nat) : VOp := ⟨some d, .load t (.tmp s), t, none⟩
abbrev asg (d s t : Nat) : VOp := ⟨some d, .assign (.tmp s), t, none⟩
abbrev ext (d s i t : Nat) : VOp := ⟨some d, .extract (.tmp s) i, t, none⟩
abbrev fad (d t s i : Nat) : VOp := ⟨some d, .fieldAddr t (.tmp s) i, 0, none⟩
abbrev iad (d t s i : Nat) : VOp := ⟨some d, .indexAddr t (.tmp s) (.tmp i), 0, none⟩
/-! 16 columbary/columbarylaw10.Fits (params #[22], results #[(.tmp 2)], 20 slots) -/
def W16_0 : List Nat := [2, 3, 4, 5, 6, 7, 8, 9, 10, 11, 12, 13, 14, 15, 16, 17, 18, 19]
@[push_cast] theorem W16_0_def : W16_0 = [2, 3, 4, 5, 6, 7, 8, 9, 10, 11, 12, 13, 14, 15, 16, 17, 18, 19] := mk_eq rfl
def r16_0 : List VOp :=
  [⟨some 2, .assign (.const (.bool false)), 4, none⟩]
def r16_1 : List VOp :=
  [⟨some 3, .assign (.const (.int .i64 0)), 3, none⟩]
def r16_2 : List VOp :=
  [mv 4 3 3,
   mv 5 0 22,
   ⟨some 6, .call ⟨.builtin .len, #[.tmp 5], #[22]⟩, 3, none⟩,
   ⟨some 7, .binOp .lss 3 (.tmp 4) (.tmp 6) 3, 4, none⟩]
def r16_4 : List VOp :=
  [mv 10 3 3,
   ⟨some 11, .binOp .eql 3 (.tmp 10) (.const (.int .i64 20)) 3, 4, none⟩,
   mv 12 11 4,
   ⟨some 13, .move (.tmp 0), 22, some (12, false)⟩,
   ⟨some 14, .move (.tmp 3), 3, some (12, false)⟩,
   ⟨some 15, .indexAddr 22 (.tmp 13) (.tmp 14), 0, some (12, false)⟩,
   ⟨some 16, .load 9 (.tmp 15), 9, some (12, false)⟩,
   ⟨some 17, .call ⟨.builtin .len, #[.tmp 16], #[9]⟩, 3, some (12, false)⟩,
   ⟨some 18, .binOp .gtr 3 (.tmp 17) (.const (.int .i64 80)) 3, 4, some (12, false)⟩,
   ⟨some 19, .pick (.tmp 12) (.const (.bool true)) (.tmp 18), 4, none⟩]
def r16_5 : List VOp :=
  [⟨some 2, .assign (.const (.bool false)), 4, none⟩]
def r16_3 : List VOp :=
  [mv 8 3 3,
   ⟨some 9, .binOp .add 3 (.tmp 8) (.const (.int .i64 1)) 3, 3, none⟩,
   asg 3 9 3]
def r16_6 : List VOp :=
  [⟨some 2, .assign (.const (.bool true)), 4, none⟩]
def B16 : VC :=
  (.seq (.region r16_0) (.seq (.seq (.region r16_1) (.block 0 (.loop (.seq (.seq (.region r16_2) (.cond (.tmp 7) .skip (.exit 0))) (.seq (.block 1 (.seq (.region r16_4) (.cond (.tmp 19) (.seq (.region r16_5) .ret) .skip))) (.region r16_3)))))) (.seq (.region r16_6) .ret)))
theorem code16 : ∃ c, Try.f16.body = some c ∧ abs Try.f16.ntmps c = B16 := ⟨_, rfl, by kernel_rfl⟩
theorem hb16 : HasBody Try.prog 16 := hasBody_of Try.func16 (by kernel_rfl)
theorem res16 : Try.f16.results = #[(.tmp 2)] := rfl
theorem enter16 {w : World} {R : Value → World → Prop} (x0 : Value) (h : vc Try.prog B16 (retK Try.prog #[(.tmp 2)] R) [] (initEnv [x0] 0) w) : FnC Try.prog 16 #[x0] w R := by
  obtain ⟨c, h1, h2⟩ := code16
  exact hb16.fn (ret_of_vc mixed Try.func16 h1 (Nat.le_of_ble_eq_true rfl) B16 h2 h)
@[push_cast] theorem vr16_0 : VR r16_0 [⟨some 2, .assign (.const (.bool false)), 4, none⟩] := vR rfl
@[push_cast] theorem vr16_1 : VR r16_1 [⟨some 3, .assign (.const (.int .i64 0)), 3, none⟩] := vR rfl
@[push_cast] theorem vr16_2 : VR r16_2 [⟨some 4, .move (.tmp 3), 3, none⟩, ⟨some 5, .move (.tmp 0), 22, none⟩, ⟨some 6, .call ⟨.builtin .len, #[.tmp 5], #[22]⟩, 3, none⟩, ⟨some 7, .binOp .lss 3 (.tmp 4) (.tmp 6) 3, 4, none⟩] := vR rfl
@[push_cast] theorem vr16_4 : VR r16_4 [⟨some 10, .move (.tmp 3), 3, none⟩, ⟨some 11, .binOp .eql 3 (.tmp 10) (.const (.int .i64 20)) 3, 4, none⟩, ⟨some 12, .move (.tmp 11), 4, none⟩, ⟨some 13, .move (.tmp 0), 22, some (12, false)⟩, ⟨some 14, .move (.tmp 3), 3, some (12, false)⟩, ⟨some 15, .indexAddr 22 (.tmp 13) (.tmp 14), 0, some (12, false)⟩, ⟨some 16, .load 9 (.tmp 15), 9, some (12, false)⟩, ⟨some 17, .call ⟨.builtin .len, #[.tmp 16], #[9]⟩, 3, some (12, false)⟩, ⟨some 18, .binOp .gtr 3 (.tmp 17) (.const (.int .i64 80)) 3, 4, some (12, false)⟩, ⟨some 19, .pick (.tmp 12) (.const (.bool true)) (.tmp 18), 4, none⟩] := vR rfl
@[push_cast] theorem vr16_5 : VR r16_5 [⟨some 2, .assign (.const (.bool false)), 4, none⟩] := vR rfl
@[push_cast] theorem vr16_3 : VR r16_3 [⟨some 8, .move (.tmp 3), 3, none⟩, ⟨some 9, .binOp .add 3 (.tmp 8) (.const (.int .i64 1)) 3, 3, none⟩, ⟨some 3, .assign (.tmp 9), 3, none⟩] := vR rfl
@[push_cast] theorem vr16_6 : VR r16_6 [⟨some 2, .assign (.const (.bool true)), 4, none⟩] := vR rfl
/-! 52 slices.Clone[[]string,string] (params #[22], results #[(.tmp 2)], 8 slots) -/
def r52_0 : List VOp :=
  [⟨some 2, .assign (.const (.slice none 0 0)), 22, none⟩]
def r52_1 : List VOp :=
  [mv 3 0 22,
   ⟨some 4, .binOp .eql 22 (.tmp 3) (.const (.slice none 0 0)) 22, 4, none⟩]
def r52_2 : List VOp :=
  [⟨some 2, .assign (.const (.slice none 0 0)), 22, none⟩]
def r52_3 : List VOp :=
  [⟨some 5, .buildSlice 22 0 #[], 22, none⟩,
   mv 6 0 22,
   ⟨some 7, .call ⟨.builtin .append, #[.tmp 5, .tmp 6], #[22, 22]⟩, 22, none⟩,
   asg 2 7 22]
def B52 : VC :=
  (.seq (.region r52_0) (.seq (.seq (.region r52_1) (.cond (.tmp 4) (.seq (.region r52_2) .ret) .skip)) (.seq (.region r52_3) .ret)))
theorem code52 : ∃ c, Try.f52.body = some c ∧ abs Try.f52.ntmps c = B52 := ⟨_, rfl, by kernel_rfl⟩
theorem hb52 : HasBody Try.prog 52 := hasBody_of Try.func52 (by kernel_rfl)
theorem res52 : Try.f52.results = #[(.tmp 2)] := rfl
theorem enter52 {w : World} {R : Value → World → Prop} (x0 : Value) (h : vc Try.prog B52 (retK Try.prog #[(.tmp 2)] R) [] (initEnv [x0] 0) w) : FnC Try.prog 52 #[x0] w R := by
  obtain ⟨c, h1, h2⟩ := code52
  exact hb52.fn (ret_of_vc mixed Try.func52 h1 (Nat.le_of_ble_eq_true rfl) B52 h2 h)
@[push_cast] theorem vr52_0 : VR r52_0 [⟨some 2, .assign (.const (.slice none 0 0)), 22, none⟩] := vR rfl
@[push_cast] theorem vr52_1 : VR r52_1 [⟨some 3, .move (.tmp 0), 22, none⟩, ⟨some 4, .binOp .eql 22 (.tmp 3) (.const (.slice none 0 0)) 22, 4, none⟩] := vR rfl
@[push_cast] theorem vr52_2 : VR r52_2 [⟨some 2, .assign (.const (.slice none 0 0)), 22, none⟩] := vR rfl
@[push_cast] theorem vr52_3 : VR r52_3 [⟨some 5, .buildSlice 22 0 #[], 22, none⟩, ⟨some 6, .move (.tmp 0), 22, none⟩, ⟨some 7, .call ⟨.builtin .append, #[.tmp 5, .tmp 6], #[22, 22]⟩, 22, none⟩, ⟨some 2, .assign (.tmp 7), 22, none⟩] := vR rfl
/-! 64 columbary/agg.Right (params #[64], results #[(.tmp 2)], 18 slots) -/
def r64_0 : List VOp :=
  [⟨some 1, .box 64 (.tmp 0), 0, none⟩,
   ⟨some 2, .assign (.const (.bool false)), 4, none⟩]
def r64_1 : List VOp :=
  [fad 3 64 1 0,
   lda 4 3 3,
   fad 5 64 1 1,
   lda 6 3 5,
   fad 7 64 1 2,
   lda 8 3 7,
   ⟨some 9, .buildSlice 47 3 #[(0, (.tmp 4)), (1, (.tmp 6)), (2, (.tmp 8))], 47, none⟩,
   ⟨some 10, .call ⟨.value (.func 91), #[.tmp 9], #[47]⟩, 4, none⟩,
   mv 11 10 4,
   ⟨some 12, .fieldAddr 64 (.tmp 1) 1, 0, some (11, true)⟩,
   ⟨some 13, .load 3 (.tmp 12), 3, some (11, true)⟩,
   ⟨some 14, .fieldAddr 64 (.tmp 1) 2, 0, some (11, true)⟩,
   ⟨some 15, .load 3 (.tmp 14), 3, some (11, true)⟩,
   ⟨some 16, .binOp .leq 3 (.tmp 13) (.tmp 15) 3, 4, some (11, true)⟩,
   ⟨some 17, .pick (.tmp 11) (.tmp 16) (.const (.bool false)), 4, none⟩,
   asg 2 17 4]
def B64 : VC :=
  (.seq (.region r64_0) (.seq (.region r64_1) .ret))
theorem code64 : ∃ c, Try.f64.body = some c ∧ abs Try.f64.ntmps c = B64 := ⟨_, rfl, by kernel_rfl⟩
theorem hb64 : HasBody Try.prog 64 := hasBody_of Try.func64 (by kernel_rfl)
theorem res64 : Try.f64.results = #[(.tmp 2)] := rfl
theorem enter64 {w : World} {R : Value → World → Prop} (x0 : Value) (h : vc Try.prog B64 (retK Try.prog #[(.tmp 2)] R) [] (initEnv [x0] 0) w) : FnC Try.prog 64 #[x0] w R := by
  obtain ⟨c, h1, h2⟩ := code64
  exact hb64.fn (ret_of_vc mixed Try.func64 h1 (Nat.le_of_ble_eq_true rfl) B64 h2 h)
@[push_cast] theorem vr64_0 : VR r64_0 [⟨some 1, .box 64 (.tmp 0), 0, none⟩, ⟨some 2, .assign (.const (.bool false)), 4, none⟩] := vR rfl
@[push_cast] theorem vr64_1 : VR r64_1 [⟨some 3, .fieldAddr 64 (.tmp 1) 0, 0, none⟩, ⟨some 4, .load 3 (.tmp 3), 3, none⟩, ⟨some 5, .fieldAddr 64 (.tmp 1) 1, 0, none⟩, ⟨some 6, .load 3 (.tmp 5), 3, none⟩, ⟨some 7, .fieldAddr 64 (.tmp 1) 2, 0, none⟩, ⟨some 8, .load 3 (.tmp 7), 3, none⟩, ⟨some 9, .buildSlice 47 3 #[(0, (.tmp 4)), (1, (.tmp 6)), (2, (.tmp 8))], 47, none⟩, ⟨some 10, .call ⟨.value (.func 91), #[.tmp 9], #[47]⟩, 4, none⟩, ⟨some 11, .move (.tmp 10), 4, none⟩, ⟨some 12, .fieldAddr 64 (.tmp 1) 1, 0, some (11, true)⟩, ⟨some 13, .load 3 (.tmp 12), 3, some (11, true)⟩, ⟨some 14, .fieldAddr 64 (.tmp 1) 2, 0, some (11, true)⟩, ⟨some 15, .load 3 (.tmp 14), 3, some (11, true)⟩, ⟨some 16, .binOp .leq 3 (.tmp 13) (.tmp 15) 3, 4, some (11, true)⟩, ⟨some 17, .pick (.tmp 11) (.tmp 16) (.const (.bool false)), 4, none⟩, ⟨some 2, .assign (.tmp 17), 4, none⟩] := vR rfl
/-! 65 columbary/columbaryref10.Value (params #[9], results #[(.tmp 2)], 35 slots) -/
def W65_0 : List Nat := [2, 3, 4, 5, 6, 7, 8, 9, 10, 11, 12, 13, 14, 15, 16, 17, 18, 19, 20, 21, 22, 23, 24, 25, 26, 27, 28, 29, 30, 31]
@[push_cast] theorem W65_0_def : W65_0 = [2, 3, 4, 5, 6, 7, 8, 9, 10, 11, 12, 13, 14, 15, 16, 17, 18, 19, 20, 21, 22, 23, 24, 25, 26, 27, 28, 29, 30, 31] := mk_eq rfl
def r65_0 : List VOp :=
  [⟨some 2, .assign (.const (.bool false)), 4, none⟩]
def r65_1 : List VOp :=
  [⟨some 3, .assign (.const (.int .i64 0)), 3, none⟩]
def r65_2 : List VOp :=
  [mv 4 3 3,
   mv 5 0 9,
   ⟨some 6, .call ⟨.builtin .len, #[.tmp 5], #[9]⟩, 3, none⟩,
   ⟨some 7, .binOp .lss 3 (.tmp 4) (.tmp 6) 3, 4, none⟩]
def r65_4 : List VOp :=
  [mv 10 0 9,
   mv 11 3 3,
   ⟨some 12, .index 9 (.tmp 10) (.tmp 11), 5, none⟩,
   ⟨some 13, .binOp .lss 5 (.tmp 12) (.const (.int .u8 32)) 5, 4, none⟩,
   mv 14 13 4,
   ⟨some 15, .move (.tmp 0), 9, some (14, false)⟩,
   ⟨some 16, .move (.tmp 3), 3, some (14, false)⟩,
   ⟨some 17, .index 9 (.tmp 15) (.tmp 16), 5, some (14, false)⟩,
   ⟨some 18, .binOp .gtr 5 (.tmp 17) (.const (.int .u8 126)) 5, 4, some (14, false)⟩,
   ⟨some 19, .pick (.tmp 14) (.const (.bool true)) (.tmp 18), 4, none⟩,
   mv 20 19 4,
   ⟨some 21, .move (.tmp 0), 9, some (20, false)⟩,
   ⟨some 22, .move (.tmp 3), 3, some (20, false)⟩,
   ⟨some 23, .index 9 (.tmp 21) (.tmp 22), 5, some (20, false)⟩,
   ⟨some 24, .binOp .eql 5 (.tmp 23) (.const (.int .u8 34)) 5, 4, some (20, false)⟩,
   ⟨some 25, .pick (.tmp 20) (.const (.bool true)) (.tmp 24), 4, none⟩,
   mv 26 25 4,
   ⟨some 27, .move (.tmp 0), 9, some (26, false)⟩,
   ⟨some 28, .move (.tmp 3), 3, some (26, false)⟩,
   ⟨some 29, .index 9 (.tmp 27) (.tmp 28), 5, some (26, false)⟩,
   ⟨some 30, .binOp .eql 5 (.tmp 29) (.const (.int .u8 92)) 5, 4, some (26, false)⟩,
   ⟨some 31, .pick (.tmp 26) (.const (.bool true)) (.tmp 30), 4, none⟩]
def r65_5 : List VOp :=
  [⟨some 2, .assign (.const (.bool false)), 4, none⟩]
def r65_3 : List VOp :=
  [mv 8 3 3,
   ⟨some 9, .binOp .add 3 (.tmp 8) (.const (.int .i64 1)) 3, 3, none⟩,
   asg 3 9 3]
def r65_6 : List VOp :=
  [mv 32 0 9,
   ⟨some 33, .call ⟨.builtin .len, #[.tmp 32], #[9]⟩, 3, none⟩,
   ⟨some 34, .binOp .leq 3 (.tmp 33) (.const (.int .i64 24)) 3, 4, none⟩,
   asg 2 34 4]
def B65 : VC :=
  (.seq (.region r65_0) (.seq (.seq (.region r65_1) (.block 0 (.loop (.seq (.seq (.region r65_2) (.cond (.tmp 7) .skip (.exit 0))) (.seq (.block 1 (.seq (.region r65_4) (.cond (.tmp 31) (.seq (.region r65_5) .ret) .skip))) (.region r65_3)))))) (.seq (.region r65_6) .ret)))
theorem code65 : ∃ c, Try.f65.body = some c ∧ abs Try.f65.ntmps c = B65 := ⟨_, rfl, by kernel_rfl⟩
theorem hb65 : HasBody Try.prog 65 := hasBody_of Try.func65 (by kernel_rfl)
theorem res65 : Try.f65.results = #[(.tmp 2)] := rfl
theorem enter65 {w : World} {R : Value → World → Prop} (x0 : Value) (h : vc Try.prog B65 (retK Try.prog #[(.tmp 2)] R) [] (initEnv [x0] 0) w) : FnC Try.prog 65 #[x0] w R := by
  obtain ⟨c, h1, h2⟩ := code65
  exact hb65.fn (ret_of_vc mixed Try.func65 h1 (Nat.le_of_ble_eq_true rfl) B65 h2 h)
@[push_cast] theorem vr65_0 : VR r65_0 [⟨some 2, .assign (.const (.bool false)), 4, none⟩] := vR rfl
@[push_cast] theorem vr65_1 : VR r65_1 [⟨some 3, .assign (.const (.int .i64 0)), 3, none⟩] := vR rfl
@[push_cast] theorem vr65_2 : VR r65_2 [⟨some 4, .move (.tmp 3), 3, none⟩, ⟨some 5, .move (.tmp 0), 9, none⟩, ⟨some 6, .call ⟨.builtin .len, #[.tmp 5], #[9]⟩, 3, none⟩, ⟨some 7, .binOp .lss 3 (.tmp 4) (.tmp 6) 3, 4, none⟩] := vR rfl
@[push_cast] theorem vr65_4 : VR r65_4 [⟨some 10, .move (.tmp 0), 9, none⟩, ⟨some 11, .move (.tmp 3), 3, none⟩, ⟨some 12, .index 9 (.tmp 10) (.tmp 11), 5, none⟩, ⟨some 13, .binOp .lss 5 (.tmp 12) (.const (.int .u8 32)) 5, 4, none⟩, ⟨some 14, .move (.tmp 13), 4, none⟩, ⟨some 15, .move (.tmp 0), 9, some (14, false)⟩, ⟨some 16, .move (.tmp 3), 3, some (14, false)⟩, ⟨some 17, .index 9 (.tmp 15) (.tmp 16), 5, some (14, false)⟩, ⟨some 18, .binOp .gtr 5 (.tmp 17) (.const (.int .u8 126)) 5, 4, some (14, false)⟩, ⟨some 19, .pick (.tmp 14) (.const (.bool true)) (.tmp 18), 4, none⟩, ⟨some 20, .move (.tmp 19), 4, none⟩, ⟨some 21, .move (.tmp 0), 9, some (20, false)⟩, ⟨some 22, .move (.tmp 3), 3, some (20, false)⟩, ⟨some 23, .index 9 (.tmp 21) (.tmp 22), 5, some (20, false)⟩, ⟨some 24, .binOp .eql 5 (.tmp 23) (.const (.int .u8 34)) 5, 4, some (20, false)⟩, ⟨some 25, .pick (.tmp 20) (.const (.bool true)) (.tmp 24), 4, none⟩, ⟨some 26, .move (.tmp 25), 4, none⟩, ⟨some 27, .move (.tmp 0), 9, some (26, false)⟩, ⟨some 28, .move (.tmp 3), 3, some (26, false)⟩, ⟨some 29, .index 9 (.tmp 27) (.tmp 28), 5, some (26, false)⟩, ⟨some 30, .binOp .eql 5 (.tmp 29) (.const (.int .u8 92)) 5, 4, some (26, false)⟩, ⟨some 31, .pick (.tmp 26) (.const (.bool true)) (.tmp 30), 4, none⟩] := vR rfl
@[push_cast] theorem vr65_5 : VR r65_5 [⟨some 2, .assign (.const (.bool false)), 4, none⟩] := vR rfl
@[push_cast] theorem vr65_3 : VR r65_3 [⟨some 8, .move (.tmp 3), 3, none⟩, ⟨some 9, .binOp .add 3 (.tmp 8) (.const (.int .i64 1)) 3, 3, none⟩, ⟨some 3, .assign (.tmp 9), 3, none⟩] := vR rfl
@[push_cast] theorem vr65_6 : VR r65_6 [⟨some 32, .move (.tmp 0), 9, none⟩, ⟨some 33, .call ⟨.builtin .len, #[.tmp 32], #[9]⟩, 3, none⟩, ⟨some 34, .binOp .leq 3 (.tmp 33) (.const (.int .i64 24)) 3, 4, none⟩, ⟨some 2, .assign (.tmp 34), 4, none⟩] := vR rfl
/-! 66 columbary/columbaryref12.Right (params #[64], results #[(.tmp 2)], 29 slots) -/
def r66_0 : List VOp :=
  [⟨some 1, .box 64 (.tmp 0), 0, none⟩,
   ⟨some 2, .assign (.const (.bool false)), 4, none⟩]
def r66_1 : List VOp :=
  [fad 6 64 1 0,
   lda 7 3 6,
   ⟨some 8, .call ⟨.value (.func 92), #[.tmp 7], #[3]⟩, 4, none⟩,
   asg 3 8 4]
def r66_2 : List VOp :=
  [fad 9 64 1 1,
   lda 10 3 9,
   ⟨some 11, .call ⟨.value (.func 92), #[.tmp 10], #[3]⟩, 4, none⟩,
   asg 4 11 4]
def r66_3 : List VOp :=
  [fad 12 64 1 2,
   lda 13 3 12,
   ⟨some 14, .call ⟨.value (.func 92), #[.tmp 13], #[3]⟩, 4, none⟩,
   asg 5 14 4]
def r66_4 : List VOp :=
  [mv 15 3 4,
   mv 16 15 4,
   ⟨some 17, .move (.tmp 4), 4, some (16, true)⟩,
   ⟨some 18, .pick (.tmp 16) (.tmp 17) (.const (.bool false)), 4, none⟩,
   mv 19 18 4,
   ⟨some 20, .move (.tmp 5), 4, some (19, true)⟩,
   ⟨some 21, .pick (.tmp 19) (.tmp 20) (.const (.bool false)), 4, none⟩,
   mv 22 21 4,
   ⟨some 23, .fieldAddr 64 (.tmp 1) 1, 0, some (22, true)⟩,
   ⟨some 24, .load 3 (.tmp 23), 3, some (22, true)⟩,
   ⟨some 25, .fieldAddr 64 (.tmp 1) 2, 0, some (22, true)⟩,
   ⟨some 26, .load 3 (.tmp 25), 3, some (22, true)⟩,
   ⟨some 27, .binOp .leq 3 (.tmp 24) (.tmp 26) 3, 4, some (22, true)⟩,
   ⟨some 28, .pick (.tmp 22) (.tmp 27) (.const (.bool false)), 4, none⟩,
   asg 2 28 4]
def B66 : VC :=
  (.seq (.region r66_0) (.seq (.region r66_1) (.seq (.region r66_2) (.seq (.region r66_3) (.seq (.region r66_4) .ret)))))
theorem code66 : ∃ c, Try.f66.body = some c ∧ abs Try.f66.ntmps c = B66 := ⟨_, rfl, by kernel_rfl⟩
theorem hb66 : HasBody Try.prog 66 := hasBody_of Try.func66 (by kernel_rfl)
theorem res66 : Try.f66.results = #[(.tmp 2)] := rfl
theorem enter66 {w : World} {R : Value → World → Prop} (x0 : Value) (h : vc Try.prog B66 (retK Try.prog #[(.tmp 2)] R) [] (initEnv [x0] 0) w) : FnC Try.prog 66 #[x0] w R := by
  obtain ⟨c, h1, h2⟩ := code66
  exact hb66.fn (ret_of_vc mixed Try.func66 h1 (Nat.le_of_ble_eq_true rfl) B66 h2 h)
@[push_cast] theorem vr66_0 : VR r66_0 [⟨some 1, .box 64 (.tmp 0), 0, none⟩, ⟨some 2, .assign (.const (.bool false)), 4, none⟩] := vR rfl
@[push_cast] theorem vr66_1 : VR r66_1 [⟨some 6, .fieldAddr 64 (.tmp 1) 0, 0, none⟩, ⟨some 7, .load 3 (.tmp 6), 3, none⟩, ⟨some 8, .call ⟨.value (.func 92), #[.tmp 7], #[3]⟩, 4, none⟩, ⟨some 3, .assign (.tmp 8), 4, none⟩] := vR rfl
@[push_cast] theorem vr66_2 : VR r66_2 [⟨some 9, .fieldAddr 64 (.tmp 1) 1, 0, none⟩, ⟨some 10, .load 3 (.tmp 9), 3, none⟩, ⟨some 11, .call ⟨.value (.func 92), #[.tmp 10], #[3]⟩, 4, none⟩, ⟨some 4, .assign (.tmp 11), 4, none⟩] := vR rfl
@[push_cast] theorem vr66_3 : VR r66_3 [⟨some 12, .fieldAddr 64 (.tmp 1) 2, 0, none⟩, ⟨some 13, .load 3 (.tmp 12), 3, none⟩, ⟨some 14, .call ⟨.value (.func 92), #[.tmp 13], #[3]⟩, 4, none⟩, ⟨some 5, .assign (.tmp 14), 4, none⟩] := vR rfl
@[push_cast] theorem vr66_4 : VR r66_4 [⟨some 15, .move (.tmp 3), 4, none⟩, ⟨some 16, .move (.tmp 15), 4, none⟩, ⟨some 17, .move (.tmp 4), 4, some (16, true)⟩, ⟨some 18, .pick (.tmp 16) (.tmp 17) (.const (.bool false)), 4, none⟩, ⟨some 19, .move (.tmp 18), 4, none⟩, ⟨some 20, .move (.tmp 5), 4, some (19, true)⟩, ⟨some 21, .pick (.tmp 19) (.tmp 20) (.const (.bool false)), 4, none⟩, ⟨some 22, .move (.tmp 21), 4, none⟩, ⟨some 23, .fieldAddr 64 (.tmp 1) 1, 0, some (22, true)⟩, ⟨some 24, .load 3 (.tmp 23), 3, some (22, true)⟩, ⟨some 25, .fieldAddr 64 (.tmp 1) 2, 0, some (22, true)⟩, ⟨some 26, .load 3 (.tmp 25), 3, some (22, true)⟩, ⟨some 27, .binOp .leq 3 (.tmp 24) (.tmp 26) 3, 4, some (22, true)⟩, ⟨some 28, .pick (.tmp 22) (.tmp 27) (.const (.bool false)), 4, none⟩, ⟨some 2, .assign (.tmp 28), 4, none⟩] := vR rfl
/-! 67 columbary/columbaryref12.Same (params #[33, 33], results #[(.tmp 4)], 26 slots) -/
def W67_0 : List Nat := [4, 5, 11, 12, 13, 14, 15, 16, 17, 18, 19, 20, 21, 22, 23, 24, 25]
@[push_cast] theorem W67_0_def : W67_0 = [4, 5, 11, 12, 13, 14, 15, 16, 17, 18, 19, 20, 21, 22, 23, 24, 25] := mk_eq rfl
def r67_0 : List VOp :=
  [⟨some 4, .assign (.const (.bool false)), 4, none⟩]
def r67_1 : List VOp :=
  [mv 6 0 33,
   ⟨some 7, .call ⟨.builtin .len, #[.tmp 6], #[33]⟩, 3, none⟩,
   mv 8 1 33,
   ⟨some 9, .call ⟨.builtin .len, #[.tmp 8], #[33]⟩, 3, none⟩,
   ⟨some 10, .binOp .neq 3 (.tmp 7) (.tmp 9) 3, 4, none⟩]
def r67_2 : List VOp :=
  [⟨some 4, .assign (.const (.bool false)), 4, none⟩]
def r67_3 : List VOp :=
  [⟨some 5, .assign (.const (.int .i64 0)), 3, none⟩]
def r67_4 : List VOp :=
  [mv 11 5 3,
   mv 12 0 33,
   ⟨some 13, .call ⟨.builtin .len, #[.tmp 12], #[33]⟩, 3, none⟩,
   ⟨some 14, .binOp .lss 3 (.tmp 11) (.tmp 13) 3, 4, none⟩]
def r67_6 : List VOp :=
  [mv 17 0 33,
   mv 18 5 3,
   iad 19 33 17 18,
   lda 20 64 19,
   mv 21 1 33,
   mv 22 5 3,
   iad 23 33 21 22,
   lda 24 64 23,
   ⟨some 25, .binOp .neq 64 (.tmp 20) (.tmp 24) 64, 4, none⟩]
def r67_7 : List VOp :=
  [⟨some 4, .assign (.const (.bool false)), 4, none⟩]
def r67_5 : List VOp :=
  [mv 15 5 3,
   ⟨some 16, .binOp .add 3 (.tmp 15) (.const (.int .i64 1)) 3, 3, none⟩,
   asg 5 16 3]
def r67_8 : List VOp :=
  [⟨some 4, .assign (.const (.bool true)), 4, none⟩]
def B67 : VC :=
  (.seq (.region r67_0) (.seq (.seq (.region r67_1) (.cond (.tmp 10) (.seq (.region r67_2) .ret) .skip)) (.seq (.seq (.region r67_3) (.block 0 (.loop (.seq (.seq (.region r67_4) (.cond (.tmp 14) .skip (.exit 0))) (.seq (.block 1 (.seq (.draw r67_6 2) (.cond (.tmp 25) (.seq (.region r67_7) .ret) .skip))) (.region r67_5)))))) (.seq (.region r67_8) .ret))))
theorem code67 : ∃ c, Try.f67.body = some c ∧ abs Try.f67.ntmps c = B67 := ⟨_, rfl, by kernel_rfl⟩
theorem hb67 : HasBody Try.prog 67 := hasBody_of Try.func67 (by kernel_rfl)
theorem res67 : Try.f67.results = #[(.tmp 4)] := rfl
theorem enter67 {w : World} {R : Value → World → Prop} (x0 x1 : Value) (h : vc Try.prog B67 (retK Try.prog #[(.tmp 4)] R) [] (initEnv [x0, x1] 0) w) : FnC Try.prog 67 #[x0, x1] w R := by
  obtain ⟨c, h1, h2⟩ := code67
  exact hb67.fn (ret_of_vc mixed Try.func67 h1 (Nat.le_of_ble_eq_true rfl) B67 h2 h)
@[push_cast] theorem vr67_0 : VR r67_0 [⟨some 4, .assign (.const (.bool false)), 4, none⟩] := vR rfl
@[push_cast] theorem vr67_1 : VR r67_1 [⟨some 6, .move (.tmp 0), 33, none⟩, ⟨some 7, .call ⟨.builtin .len, #[.tmp 6], #[33]⟩, 3, none⟩, ⟨some 8, .move (.tmp 1), 33, none⟩, ⟨some 9, .call ⟨.builtin .len, #[.tmp 8], #[33]⟩, 3, none⟩, ⟨some 10, .binOp .neq 3 (.tmp 7) (.tmp 9) 3, 4, none⟩] := vR rfl
@[push_cast] theorem vr67_2 : VR r67_2 [⟨some 4, .assign (.const (.bool false)), 4, none⟩] := vR rfl
@[push_cast] theorem vr67_3 : VR r67_3 [⟨some 5, .assign (.const (.int .i64 0)), 3, none⟩] := vR rfl
@[push_cast] theorem vr67_4 : VR r67_4 [⟨some 11, .move (.tmp 5), 3, none⟩, ⟨some 12, .move (.tmp 0), 33, none⟩, ⟨some 13, .call ⟨.builtin .len, #[.tmp 12], #[33]⟩, 3, none⟩, ⟨some 14, .binOp .lss 3 (.tmp 11) (.tmp 13) 3, 4, none⟩] := vR rfl
@[push_cast] theorem vr67_6 : vc Try.prog (.draw r67_6 2) Q ds σ w = drawn Try.prog [(⟨some 17, .move (.tmp 0), 33, none⟩, [0]), (⟨some 18, .move (.tmp 5), 3, none⟩, [5]), (⟨some 19, .indexAddr 33 (.tmp 17) (.tmp 18), 0, none⟩, [17, 18]), (⟨some 20, .load 64 (.tmp 19), 64, none⟩, [19]), (⟨some 21, .move (.tmp 1), 33, none⟩, [1]), (⟨some 22, .move (.tmp 5), 3, none⟩, [5]), (⟨some 23, .indexAddr 33 (.tmp 21) (.tmp 22), 0, none⟩, [21, 22]), (⟨some 24, .load 64 (.tmp 23), 64, none⟩, [23]), (⟨some 25, .binOp .neq 64 (.tmp 20) (.tmp 24) 64, 4, none⟩, [20, 24])] 2 (Q .normal ds) σ w := mk_eq rfl
@[push_cast] theorem vr67_7 : VR r67_7 [⟨some 4, .assign (.const (.bool false)), 4, none⟩] := vR rfl
@[push_cast] theorem vr67_5 : VR r67_5 [⟨some 15, .move (.tmp 5), 3, none⟩, ⟨some 16, .binOp .add 3 (.tmp 15) (.const (.int .i64 1)) 3, 3, none⟩, ⟨some 5, .assign (.tmp 16), 3, none⟩] := vR rfl
@[push_cast] theorem vr67_8 : VR r67_8 [⟨some 4, .assign (.const (.bool true)), 4, none⟩] := vR rfl
/-! 68 slices.Values[[]columbary/api.Row,columbary/api.Row] (params #[25], results #[(.tmp 2)], 4 slots) -/
def r68_0 : List VOp :=
  [⟨some 1, .box 25 (.tmp 0), 0, none⟩,
   ⟨some 2, .assign (.const .nilFunc), 86, none⟩]
def r68_1 : List VOp :=
  [⟨some 3, .makeFunc (Fn.func 98) #[] #[(.tmp 1)], 85, none⟩,
   asg 2 3 86]
def B68 : VC :=
  (.seq (.region r68_0) (.seq (.region r68_1) .ret))
theorem code68 : ∃ c, Try.f68.body = some c ∧ abs Try.f68.ntmps c = B68 := ⟨_, rfl, by kernel_rfl⟩
theorem hb68 : HasBody Try.prog 68 := hasBody_of Try.func68 (by kernel_rfl)
theorem res68 : Try.f68.results = #[(.tmp 2)] := rfl
theorem enter68 {w : World} {R : Value → World → Prop} (x0 : Value) (h : vc Try.prog B68 (retK Try.prog #[(.tmp 2)] R) [] (initEnv [x0] 0) w) : FnC Try.prog 68 #[x0] w R := by
  obtain ⟨c, h1, h2⟩ := code68
  exact hb68.fn (ret_of_vc mixed Try.func68 h1 (Nat.le_of_ble_eq_true rfl) B68 h2 h)
@[push_cast] theorem vr68_0 : VR r68_0 [⟨some 1, .box 25 (.tmp 0), 0, none⟩, ⟨some 2, .assign (.const .nilFunc), 86, none⟩] := vR rfl
@[push_cast] theorem vr68_1 : VR r68_1 [⟨some 3, .makeFunc (Fn.func 98) #[] #[(.tmp 1)], 85, none⟩, ⟨some 2, .assign (.tmp 3), 86, none⟩] := vR rfl
/-! 69 columbary/rows.own (params #[35], results #[(.cell 2 35)], 12 slots) -/
def r69_0 : List VOp :=
  [⟨some 1, .box 35 (.tmp 0), 0, none⟩,
   ⟨some 2, .alloc 35, 0, none⟩]
def r69_1 : List VOp :=
  [fad 3 35 1 1,
   lda 4 22 3,
   ⟨some 5, .call ⟨.value (.func 52), #[.tmp 4], #[22]⟩, 22, none⟩,
   fad 6 35 1 3,
   lda 7 33 6,
   ⟨some 8, .call ⟨.value (.func 99), #[.tmp 7], #[33]⟩, 33, none⟩,
   fad 9 35 1 1,
   ⟨none, .store 22 (.tmp 9) (.tmp 5), 0, none⟩,
   fad 10 35 1 3,
   ⟨none, .store 33 (.tmp 10) (.tmp 8), 0, none⟩]
def r69_2 : List VOp :=
  [lda 11 35 1,
   ⟨none, .store 35 (.tmp 2) (.tmp 11), 0, none⟩]
def B69 : VC :=
  (.seq (.region r69_0) (.seq (.draw r69_1 4) (.seq (.region r69_2) .ret)))
theorem code69 : ∃ c, Try.f69.body = some c ∧ abs Try.f69.ntmps c = B69 := ⟨_, rfl, by kernel_rfl⟩
theorem hb69 : HasBody Try.prog 69 := hasBody_of Try.func69 (by kernel_rfl)
theorem res69 : Try.f69.results = #[(.cell 2 35)] := rfl
theorem enter69 {w : World} {R : Value → World → Prop} (x0 : Value) (h : vc Try.prog B69 (retK Try.prog #[(.cell 2 35)] R) [] (initEnv [x0] 0) w) : FnC Try.prog 69 #[x0] w R := by
  obtain ⟨c, h1, h2⟩ := code69
  exact hb69.fn (ret_of_vc mixed Try.func69 h1 (Nat.le_of_ble_eq_true rfl) B69 h2 h)
@[push_cast] theorem vr69_0 : VR r69_0 [⟨some 1, .box 35 (.tmp 0), 0, none⟩, ⟨some 2, .alloc 35, 0, none⟩] := vR rfl
@[push_cast] theorem vr69_1 : vc Try.prog (.draw r69_1 4) Q ds σ w = drawn Try.prog [(⟨some 3, .fieldAddr 35 (.tmp 1) 1, 0, none⟩, [1]), (⟨some 4, .load 22 (.tmp 3), 22, none⟩, [3]), (⟨some 5, .call ⟨.value (.func 52), #[.tmp 4], #[22]⟩, 22, none⟩, [4]), (⟨some 6, .fieldAddr 35 (.tmp 1) 3, 0, none⟩, [1]), (⟨some 7, .load 33 (.tmp 6), 33, none⟩, [6]), (⟨some 8, .call ⟨.value (.func 99), #[.tmp 7], #[33]⟩, 33, none⟩, [7]), (⟨some 9, .fieldAddr 35 (.tmp 1) 1, 0, none⟩, [1]), (⟨none, .store 22 (.tmp 9) (.tmp 5), 0, none⟩, [9, 5]), (⟨some 10, .fieldAddr 35 (.tmp 1) 3, 0, none⟩, [1]), (⟨none, .store 33 (.tmp 10) (.tmp 8), 0, none⟩, [10, 8])] 4 (Q .normal ds) σ w := mk_eq rfl
@[push_cast] theorem vr69_2 : VR r69_2 [⟨some 11, .load 35 (.tmp 1), 35, none⟩, ⟨none, .store 35 (.tmp 2) (.tmp 11), 0, none⟩] := vR rfl
/-! 70 slices.SortStableFunc[[]columbary/api.Row,columbary/api.Row] (params #[25, 58], results #[], 9 slots) -/
def r70_0 : List VOp :=
  [mv 4 0 25,
   mv 5 0 25,
   ⟨some 6, .call ⟨.builtin .len, #[.tmp 5], #[25]⟩, 3, none⟩,
   mv 7 1 58,
   ⟨some 8, .call ⟨.value (.func 100), #[.tmp 4, .tmp 6, .tmp 7], #[25, 3, 58]⟩, 0, none⟩]
def B70 : VC :=
  (.region r70_0)
theorem code70 : ∃ c, Try.f70.body = some c ∧ abs Try.f70.ntmps c = B70 := ⟨_, rfl, by kernel_rfl⟩
theorem hb70 : HasBody Try.prog 70 := hasBody_of Try.func70 (by kernel_rfl)
theorem res70 : Try.f70.results = #[] := rfl
theorem enter70 {w : World} {R : Value → World → Prop} (x0 x1 : Value) (h : vc Try.prog B70 (retK Try.prog #[] R) [] (initEnv [x0, x1] 0) w) : FnC Try.prog 70 #[x0, x1] w R := by
  obtain ⟨c, h1, h2⟩ := code70
  exact hb70.fn (ret_of_vc mixed Try.func70 h1 (Nat.le_of_ble_eq_true rfl) B70 h2 h)
@[push_cast] theorem vr70_0 : VR r70_0 [⟨some 4, .move (.tmp 0), 25, none⟩, ⟨some 5, .move (.tmp 0), 25, none⟩, ⟨some 6, .call ⟨.builtin .len, #[.tmp 5], #[25]⟩, 3, none⟩, ⟨some 7, .move (.tmp 1), 58, none⟩, ⟨some 8, .call ⟨.value (.func 100), #[.tmp 4, .tmp 6, .tmp 7], #[25, 3, 58]⟩, 0, none⟩] := vR rfl
/-! 71 cmp.Or[int] (params #[47], results #[(.tmp 2)], 18 slots) -/
def W71_0 : List Nat := [2, 5, 8, 9, 10, 11, 12, 13, 14, 15, 16]
@[push_cast] theorem W71_0_def : W71_0 = [2, 5, 8, 9, 10, 11, 12, 13, 14, 15, 16] := mk_eq rfl
def r71_0 : List VOp :=
  [⟨some 2, .assign (.const (.int .i64 0)), 3, none⟩]
def r71_1 : List VOp :=
  [⟨some 3, .assign (.const (.int .i64 0)), 3, none⟩]
def r71_2 : List VOp :=
  [mv 6 0 47,
   ⟨some 7, .call ⟨.builtin .len, #[.tmp 6], #[47]⟩, 3, none⟩,
   ⟨some 8, .move (.const (.int .i64 0)), 3, none⟩]
def r71_3 : List VOp :=
  [⟨some 9, .binOp .lss 3 (.tmp 8) (.tmp 7) 3, 0, none⟩]
def r71_4 : List VOp :=
  [iad 10 47 6 8,
   lda 11 3 10,
   asg 5 11 3]
def r71_5 : List VOp :=
  [mv 12 5 3,
   mv 13 3 3,
   ⟨some 14, .binOp .neq 3 (.tmp 12) (.tmp 13) 3, 4, none⟩]
def r71_6 : List VOp :=
  [mv 15 5 3,
   asg 2 15 3]
def r71_7 : List VOp :=
  [⟨some 16, .binOp .add 3 (.tmp 8) (.const (.int .i64 1)) 3, 3, none⟩,
   mv 8 16 3]
def r71_8 : List VOp :=
  [mv 17 3 3,
   asg 2 17 3]
def B71 : VC :=
  (.seq (.region r71_0) (.seq (.region r71_1) (.seq (.seq (.region r71_2) (.block 0 (.loop (.seq (.region r71_3) (.seq (.cond (.tmp 9) .skip (.exit 0)) (.seq (.block 1 (.seq (.region r71_4) (.seq (.region r71_5) (.cond (.tmp 14) (.seq (.region r71_6) .ret) .skip)))) (.region r71_7))))))) (.seq (.region r71_8) .ret))))
theorem code71 : ∃ c, Try.f71.body = some c ∧ abs Try.f71.ntmps c = B71 := ⟨_, rfl, by kernel_rfl⟩
theorem hb71 : HasBody Try.prog 71 := hasBody_of Try.func71 (by kernel_rfl)
theorem res71 : Try.f71.results = #[(.tmp 2)] := rfl
theorem enter71 {w : World} {R : Value → World → Prop} (x0 : Value) (h : vc Try.prog B71 (retK Try.prog #[(.tmp 2)] R) [] (initEnv [x0] 0) w) : FnC Try.prog 71 #[x0] w R := by
  obtain ⟨c, h1, h2⟩ := code71
  exact hb71.fn (ret_of_vc mixed Try.func71 h1 (Nat.le_of_ble_eq_true rfl) B71 h2 h)
@[push_cast] theorem vr71_0 : VR r71_0 [⟨some 2, .assign (.const (.int .i64 0)), 3, none⟩] := vR rfl
@[push_cast] theorem vr71_1 : VR r71_1 [⟨some 3, .assign (.const (.int .i64 0)), 3, none⟩] := vR rfl
@[push_cast] theorem vr71_2 : VR r71_2 [⟨some 6, .move (.tmp 0), 47, none⟩, ⟨some 7, .call ⟨.builtin .len, #[.tmp 6], #[47]⟩, 3, none⟩, ⟨some 8, .move (.const (.int .i64 0)), 3, none⟩] := vR rfl
@[push_cast] theorem vr71_3 : VR r71_3 [⟨some 9, .binOp .lss 3 (.tmp 8) (.tmp 7) 3, 0, none⟩] := vR rfl
@[push_cast] theorem vr71_4 : VR r71_4 [⟨some 10, .indexAddr 47 (.tmp 6) (.tmp 8), 0, none⟩, ⟨some 11, .load 3 (.tmp 10), 3, none⟩, ⟨some 5, .assign (.tmp 11), 3, none⟩] := vR rfl
@[push_cast] theorem vr71_5 : VR r71_5 [⟨some 12, .move (.tmp 5), 3, none⟩, ⟨some 13, .move (.tmp 3), 3, none⟩, ⟨some 14, .binOp .neq 3 (.tmp 12) (.tmp 13) 3, 4, none⟩] := vR rfl
@[push_cast] theorem vr71_6 : VR r71_6 [⟨some 15, .move (.tmp 5), 3, none⟩, ⟨some 2, .assign (.tmp 15), 3, none⟩] := vR rfl
@[push_cast] theorem vr71_7 : VR r71_7 [⟨some 16, .binOp .add 3 (.tmp 8) (.const (.int .i64 1)) 3, 3, none⟩, ⟨some 8, .move (.tmp 16), 3, none⟩] := vR rfl
@[push_cast] theorem vr71_8 : VR r71_8 [⟨some 17, .move (.tmp 3), 3, none⟩, ⟨some 2, .assign (.tmp 17), 3, none⟩] := vR rfl
/-! 72 cmp.Compare[int] (params #[3, 3], results #[(.tmp 4)], 20 slots) -/
def r72_0 : List VOp :=
  [⟨some 4, .assign (.const (.int .i64 0)), 3, none⟩]
def r72_1 : List VOp :=
  [mv 7 0 3,
   ⟨some 8, .call ⟨.value (.func 101), #[.tmp 7], #[3]⟩, 4, none⟩,
   asg 5 8 4]
def r72_2 : List VOp :=
  [mv 9 1 3,
   ⟨some 10, .call ⟨.value (.func 101), #[.tmp 9], #[3]⟩, 4, none⟩,
   asg 6 10 4]
def r72_3 : List VOp :=
  [mv 11 5 4]
def r72_4 : List VOp :=
  [mv 12 6 4]
def r72_5 : List VOp :=
  [⟨some 4, .assign (.const (.int .i64 0)), 3, none⟩]
def r72_6 : List VOp :=
  [⟨some 4, .assign (.const (.int .i64 (-1))), 3, none⟩]
def r72_7 : List VOp :=
  [mv 13 6 4]
def r72_8 : List VOp :=
  [⟨some 4, .assign (.const (.int .i64 1)), 3, none⟩]
def r72_9 : List VOp :=
  [mv 14 0 3,
   mv 15 1 3,
   ⟨some 16, .binOp .lss 3 (.tmp 14) (.tmp 15) 3, 4, none⟩]
def r72_10 : List VOp :=
  [⟨some 4, .assign (.const (.int .i64 (-1))), 3, none⟩]
def r72_11 : List VOp :=
  [mv 17 0 3,
   mv 18 1 3,
   ⟨some 19, .binOp .gtr 3 (.tmp 17) (.tmp 18) 3, 4, none⟩]
def r72_12 : List VOp :=
  [⟨some 4, .assign (.const (.int .i64 1)), 3, none⟩]
def r72_13 : List VOp :=
  [⟨some 4, .assign (.const (.int .i64 0)), 3, none⟩]
def B72 : VC :=
  (.seq (.region r72_0) (.seq (.region r72_1) (.seq (.region r72_2) (.seq (.seq (.region r72_3) (.cond (.tmp 11) (.seq (.seq (.region r72_4) (.cond (.tmp 12) (.seq (.region r72_5) .ret) .skip)) (.seq (.region r72_6) .ret)) .skip)) (.seq (.seq (.region r72_7) (.cond (.tmp 13) (.seq (.region r72_8) .ret) .skip)) (.seq (.seq (.region r72_9) (.cond (.tmp 16) (.seq (.region r72_10) .ret) .skip)) (.seq (.seq (.region r72_11) (.cond (.tmp 19) (.seq (.region r72_12) .ret) .skip)) (.seq (.region r72_13) .ret))))))))
theorem code72 : ∃ c, Try.f72.body = some c ∧ abs Try.f72.ntmps c = B72 := ⟨_, rfl, by kernel_rfl⟩
theorem hb72 : HasBody Try.prog 72 := hasBody_of Try.func72 (by kernel_rfl)
theorem res72 : Try.f72.results = #[(.tmp 4)] := rfl
theorem enter72 {w : World} {R : Value → World → Prop} (x0 x1 : Value) (h : vc Try.prog B72 (retK Try.prog #[(.tmp 4)] R) [] (initEnv [x0, x1] 0) w) : FnC Try.prog 72 #[x0, x1] w R := by
  obtain ⟨c, h1, h2⟩ := code72
  exact hb72.fn (ret_of_vc mixed Try.func72 h1 (Nat.le_of_ble_eq_true rfl) B72 h2 h)
@[push_cast] theorem vr72_0 : VR r72_0 [⟨some 4, .assign (.const (.int .i64 0)), 3, none⟩] := vR rfl
@[push_cast] theorem vr72_1 : VR r72_1 [⟨some 7, .move (.tmp 0), 3, none⟩, ⟨some 8, .call ⟨.value (.func 101), #[.tmp 7], #[3]⟩, 4, none⟩, ⟨some 5, .assign (.tmp 8), 4, none⟩] := vR rfl
@[push_cast] theorem vr72_2 : VR r72_2 [⟨some 9, .move (.tmp 1), 3, none⟩, ⟨some 10, .call ⟨.value (.func 101), #[.tmp 9], #[3]⟩, 4, none⟩, ⟨some 6, .assign (.tmp 10), 4, none⟩] := vR rfl
@[push_cast] theorem vr72_3 : VR r72_3 [⟨some 11, .move (.tmp 5), 4, none⟩] := vR rfl
@[push_cast] theorem vr72_4 : VR r72_4 [⟨some 12, .move (.tmp 6), 4, none⟩] := vR rfl
@[push_cast] theorem vr72_5 : VR r72_5 [⟨some 4, .assign (.const (.int .i64 0)), 3, none⟩] := vR rfl
@[push_cast] theorem vr72_6 : VR r72_6 [⟨some 4, .assign (.const (.int .i64 (-1))), 3, none⟩] := vR rfl
@[push_cast] theorem vr72_7 : VR r72_7 [⟨some 13, .move (.tmp 6), 4, none⟩] := vR rfl
@[push_cast] theorem vr72_8 : VR r72_8 [⟨some 4, .assign (.const (.int .i64 1)), 3, none⟩] := vR rfl
@[push_cast] theorem vr72_9 : VR r72_9 [⟨some 14, .move (.tmp 0), 3, none⟩, ⟨some 15, .move (.tmp 1), 3, none⟩, ⟨some 16, .binOp .lss 3 (.tmp 14) (.tmp 15) 3, 4, none⟩] := vR rfl
@[push_cast] theorem vr72_10 : VR r72_10 [⟨some 4, .assign (.const (.int .i64 (-1))), 3, none⟩] := vR rfl
@[push_cast] theorem vr72_11 : VR r72_11 [⟨some 17, .move (.tmp 0), 3, none⟩, ⟨some 18, .move (.tmp 1), 3, none⟩, ⟨some 19, .binOp .gtr 3 (.tmp 17) (.tmp 18) 3, 4, none⟩] := vR rfl
@[push_cast] theorem vr72_12 : VR r72_12 [⟨some 4, .assign (.const (.int .i64 1)), 3, none⟩] := vR rfl
@[push_cast] theorem vr72_13 : VR r72_13 [⟨some 4, .assign (.const (.int .i64 0)), 3, none⟩] := vR rfl
/-! 73 slices.Compare[[]string,string] (params #[22, 22], results #[(.tmp 4)], 36 slots) -/
def W73_0 : List Nat := [4, 5, 6, 7, 8, 11, 12, 13, 14, 15, 16, 17, 18, 19, 20, 21, 22, 23, 24, 25, 26, 27, 28, 29, 30]
@[push_cast] theorem W73_0_def : W73_0 = [4, 5, 6, 7, 8, 11, 12, 13, 14, 15, 16, 17, 18, 19, 20, 21, 22, 23, 24, 25, 26, 27, 28, 29, 30] := mk_eq rfl
def r73_0 : List VOp :=
  [⟨some 4, .assign (.const (.int .i64 0)), 3, none⟩]
def r73_1 : List VOp :=
  [mv 9 0 22,
   ⟨some 10, .call ⟨.builtin .len, #[.tmp 9], #[22]⟩, 3, none⟩,
   ⟨some 11, .move (.const (.int .i64 0)), 3, none⟩]
def r73_2 : List VOp :=
  [⟨some 12, .binOp .lss 3 (.tmp 11) (.tmp 10) 3, 0, none⟩]
def r73_3 : List VOp :=
  [mv 13 11 3,
   iad 14 22 9 11,
   lda 15 9 14,
   asg 5 13 3,
   asg 6 15 9]
def r73_4 : List VOp :=
  [mv 16 5 3,
   mv 17 1 22,
   ⟨some 18, .call ⟨.builtin .len, #[.tmp 17], #[22]⟩, 3, none⟩,
   ⟨some 19, .binOp .geq 3 (.tmp 16) (.tmp 18) 3, 4, none⟩]
def r73_5 : List VOp :=
  [⟨some 4, .assign (.const (.int .i64 1)), 3, none⟩]
def r73_6 : List VOp :=
  [mv 20 1 22,
   mv 21 5 3,
   iad 22 22 20 21,
   lda 23 9 22,
   asg 7 23 9]
def r73_7 : List VOp :=
  [mv 24 6 9,
   mv 25 7 9,
   ⟨some 26, .call ⟨.value (.func 102), #[.tmp 24, .tmp 25], #[9, 9]⟩, 3, none⟩,
   asg 8 26 3]
def r73_8 : List VOp :=
  [mv 27 8 3,
   ⟨some 28, .binOp .neq 3 (.tmp 27) (.const (.int .i64 0)) 3, 4, none⟩]
def r73_9 : List VOp :=
  [mv 29 8 3,
   asg 4 29 3]
def r73_10 : List VOp :=
  [⟨some 30, .binOp .add 3 (.tmp 11) (.const (.int .i64 1)) 3, 3, none⟩,
   mv 11 30 3]
def r73_11 : List VOp :=
  [mv 31 0 22,
   ⟨some 32, .call ⟨.builtin .len, #[.tmp 31], #[22]⟩, 3, none⟩,
   mv 33 1 22,
   ⟨some 34, .call ⟨.builtin .len, #[.tmp 33], #[22]⟩, 3, none⟩,
   ⟨some 35, .binOp .lss 3 (.tmp 32) (.tmp 34) 3, 4, none⟩]
def r73_12 : List VOp :=
  [⟨some 4, .assign (.const (.int .i64 (-1))), 3, none⟩]
def r73_13 : List VOp :=
  [⟨some 4, .assign (.const (.int .i64 0)), 3, none⟩]
def B73 : VC :=
  (.seq (.region r73_0) (.seq (.seq (.region r73_1) (.block 0 (.loop (.seq (.region r73_2) (.seq (.cond (.tmp 12) .skip (.exit 0)) (.seq (.block 1 (.seq (.region r73_3) (.seq (.seq (.region r73_4) (.cond (.tmp 19) (.seq (.region r73_5) .ret) .skip)) (.seq (.region r73_6) (.seq (.region r73_7) (.seq (.region r73_8) (.cond (.tmp 28) (.seq (.region r73_9) .ret) .skip))))))) (.region r73_10))))))) (.seq (.seq (.region r73_11) (.cond (.tmp 35) (.seq (.region r73_12) .ret) .skip)) (.seq (.region r73_13) .ret))))
theorem code73 : ∃ c, Try.f73.body = some c ∧ abs Try.f73.ntmps c = B73 := ⟨_, rfl, by kernel_rfl⟩
theorem hb73 : HasBody Try.prog 73 := hasBody_of Try.func73 (by kernel_rfl)
theorem res73 : Try.f73.results = #[(.tmp 4)] := rfl
theorem enter73 {w : World} {R : Value → World → Prop} (x0 x1 : Value) (h : vc Try.prog B73 (retK Try.prog #[(.tmp 4)] R) [] (initEnv [x0, x1] 0) w) : FnC Try.prog 73 #[x0, x1] w R := by
  obtain ⟨c, h1, h2⟩ := code73
  exact hb73.fn (ret_of_vc mixed Try.func73 h1 (Nat.le_of_ble_eq_true rfl) B73 h2 h)
@[push_cast] theorem vr73_0 : VR r73_0 [⟨some 4, .assign (.const (.int .i64 0)), 3, none⟩] := vR rfl
@[push_cast] theorem vr73_1 : VR r73_1 [⟨some 9, .move (.tmp 0), 22, none⟩, ⟨some 10, .call ⟨.builtin .len, #[.tmp 9], #[22]⟩, 3, none⟩, ⟨some 11, .move (.const (.int .i64 0)), 3, none⟩] := vR rfl
@[push_cast] theorem vr73_2 : VR r73_2 [⟨some 12, .binOp .lss 3 (.tmp 11) (.tmp 10) 3, 0, none⟩] := vR rfl
@[push_cast] theorem vr73_3 : VR r73_3 [⟨some 13, .move (.tmp 11), 3, none⟩, ⟨some 14, .indexAddr 22 (.tmp 9) (.tmp 11), 0, none⟩, ⟨some 15, .load 9 (.tmp 14), 9, none⟩, ⟨some 5, .assign (.tmp 13), 3, none⟩, ⟨some 6, .assign (.tmp 15), 9, none⟩] := vR rfl
@[push_cast] theorem vr73_4 : VR r73_4 [⟨some 16, .move (.tmp 5), 3, none⟩, ⟨some 17, .move (.tmp 1), 22, none⟩, ⟨some 18, .call ⟨.builtin .len, #[.tmp 17], #[22]⟩, 3, none⟩, ⟨some 19, .binOp .geq 3 (.tmp 16) (.tmp 18) 3, 4, none⟩] := vR rfl
@[push_cast] theorem vr73_5 : VR r73_5 [⟨some 4, .assign (.const (.int .i64 1)), 3, none⟩] := vR rfl
@[push_cast] theorem vr73_6 : VR r73_6 [⟨some 20, .move (.tmp 1), 22, none⟩, ⟨some 21, .move (.tmp 5), 3, none⟩, ⟨some 22, .indexAddr 22 (.tmp 20) (.tmp 21), 0, none⟩, ⟨some 23, .load 9 (.tmp 22), 9, none⟩, ⟨some 7, .assign (.tmp 23), 9, none⟩] := vR rfl
@[push_cast] theorem vr73_7 : VR r73_7 [⟨some 24, .move (.tmp 6), 9, none⟩, ⟨some 25, .move (.tmp 7), 9, none⟩, ⟨some 26, .call ⟨.value (.func 102), #[.tmp 24, .tmp 25], #[9, 9]⟩, 3, none⟩, ⟨some 8, .assign (.tmp 26), 3, none⟩] := vR rfl
@[push_cast] theorem vr73_8 : VR r73_8 [⟨some 27, .move (.tmp 8), 3, none⟩, ⟨some 28, .binOp .neq 3 (.tmp 27) (.const (.int .i64 0)) 3, 4, none⟩] := vR rfl
@[push_cast] theorem vr73_9 : VR r73_9 [⟨some 29, .move (.tmp 8), 3, none⟩, ⟨some 4, .assign (.tmp 29), 3, none⟩] := vR rfl
@[push_cast] theorem vr73_10 : VR r73_10 [⟨some 30, .binOp .add 3 (.tmp 11) (.const (.int .i64 1)) 3, 3, none⟩, ⟨some 11, .move (.tmp 30), 3, none⟩] := vR rfl
@[push_cast] theorem vr73_11 : VR r73_11 [⟨some 31, .move (.tmp 0), 22, none⟩, ⟨some 32, .call ⟨.builtin .len, #[.tmp 31], #[22]⟩, 3, none⟩, ⟨some 33, .move (.tmp 1), 22, none⟩, ⟨some 34, .call ⟨.builtin .len, #[.tmp 33], #[22]⟩, 3, none⟩, ⟨some 35, .binOp .lss 3 (.tmp 32) (.tmp 34) 3, 4, none⟩] := vR rfl
@[push_cast] theorem vr73_12 : VR r73_12 [⟨some 4, .assign (.const (.int .i64 (-1))), 3, none⟩] := vR rfl
@[push_cast] theorem vr73_13 : VR r73_13 [⟨some 4, .assign (.const (.int .i64 0)), 3, none⟩] := vR rfl
/-! 74 columbary/agg.Join (params #[64, 64], results #[(.cell 4 64), (.tmp 5)], 56 slots) -/
def r74_0 : List VOp :=
  [⟨some 2, .box 64 (.tmp 0), 0, none⟩,
   ⟨some 3, .box 64 (.tmp 1), 0, none⟩,
   ⟨some 4, .alloc 64, 0, none⟩,
   ⟨some 5, .assign (.const (.int .i64 0)), 28, none⟩]
def r74_1 : List VOp :=
  [lda 6 64 2,
   ⟨some 7, .call ⟨.value (.func 64), #[.tmp 6], #[64]⟩, 4, none⟩,
   ⟨some 8, .unOp .not 4 (.tmp 7), 4, none⟩,
   mv 9 8 4,
   ⟨some 10, .load 64 (.tmp 3), 64, some (9, false)⟩,
   ⟨some 11, .call ⟨.value (.func 64), #[.tmp 10], #[64]⟩, 4, some (9, false)⟩,
   ⟨some 12, .unOp .not 4 (.tmp 11), 4, some (9, false)⟩,
   ⟨some 13, .pick (.tmp 9) (.const (.bool true)) (.tmp 12), 4, none⟩]
def r74_2 : List VOp :=
  [⟨some 14, .build 64 #[], 64, none⟩,
   ⟨none, .store 64 (.tmp 4) (.tmp 14), 0, none⟩,
   ⟨some 5, .assign (.const (.int .i64 1)), 28, none⟩]
def r74_3 : List VOp :=
  [fad 15 64 2 0,
   lda 16 3 15,
   ⟨some 17, .binOp .gtr 3 (.tmp 16) (.const (.int .i64 0)) 3, 4, none⟩,
   mv 18 17 4,
   ⟨some 19, .fieldAddr 64 (.tmp 3) 0, 0, some (18, true)⟩,
   ⟨some 20, .load 3 (.tmp 19), 3, some (18, true)⟩,
   ⟨some 21, .fieldAddr 64 (.tmp 2) 0, 0, some (18, true)⟩,
   ⟨some 22, .load 3 (.tmp 21), 3, some (18, true)⟩,
   ⟨some 23, .binOp .sub 3 (.const (.int .i64 4611686018427387904)) (.tmp 22) 3, 3, some (18, true)⟩,
   ⟨some 24, .binOp .gtr 3 (.tmp 20) (.tmp 23) 3, 4, some (18, true)⟩,
   ⟨some 25, .pick (.tmp 18) (.tmp 24) (.const (.bool false)), 4, none⟩,
   mv 26 25 4,
   ⟨some 27, .fieldAddr 64 (.tmp 2) 0, 0, some (26, false)⟩,
   ⟨some 28, .load 3 (.tmp 27), 3, some (26, false)⟩,
   ⟨some 29, .binOp .lss 3 (.tmp 28) (.const (.int .i64 0)) 3, 4, some (26, false)⟩,
   ⟨some 30, .move (.tmp 29), 4, some (26, false)⟩,
   ⟨some 31, .fieldAddr 64 (.tmp 3) 0, 0, some (30, true)⟩,
   ⟨some 32, .load 3 (.tmp 31), 3, some (30, true)⟩,
   ⟨some 33, .fieldAddr 64 (.tmp 2) 0, 0, some (30, true)⟩,
   ⟨some 34, .load 3 (.tmp 33), 3, some (30, true)⟩,
   ⟨some 35, .binOp .sub 3 (.const (.int .i64 (-4611686018427387904))) (.tmp 34) 3, 3, some (30, true)⟩,
   ⟨some 36, .binOp .lss 3 (.tmp 32) (.tmp 35) 3, 4, some (30, true)⟩,
   ⟨some 37, .pick (.tmp 30) (.tmp 36) (.const (.bool false)), 4, some (26, false)⟩,
   ⟨some 38, .pick (.tmp 26) (.const (.bool true)) (.tmp 37), 4, none⟩]
def r74_4 : List VOp :=
  [⟨some 39, .build 64 #[], 64, none⟩,
   ⟨none, .store 64 (.tmp 4) (.tmp 39), 0, none⟩,
   ⟨some 5, .assign (.const (.int .i64 121)), 28, none⟩]
def r74_5 : List VOp :=
  [fad 40 64 2 0,
   lda 41 3 40,
   fad 42 64 3 0,
   lda 43 3 42,
   ⟨some 44, .binOp .add 3 (.tmp 41) (.tmp 43) 3, 3, none⟩,
   fad 45 64 2 1,
   lda 46 3 45,
   fad 47 64 3 1,
   lda 48 3 47,
   ⟨some 49, .call ⟨.builtin .min, #[.tmp 46, .tmp 48], #[3, 3]⟩, 3, none⟩,
   fad 50 64 2 2,
   lda 51 3 50,
   fad 52 64 3 2,
   lda 53 3 52,
   ⟨some 54, .call ⟨.builtin .max, #[.tmp 51, .tmp 53], #[3, 3]⟩, 3, none⟩,
   ⟨some 55, .build 64 #[(0, (.tmp 44)), (1, (.tmp 49)), (2, (.tmp 54))], 64, none⟩,
   ⟨none, .store 64 (.tmp 4) (.tmp 55), 0, none⟩,
   ⟨some 5, .assign (.const (.int .i64 0)), 28, none⟩]
def B74 : VC :=
  (.seq (.region r74_0) (.seq (.seq (.region r74_1) (.cond (.tmp 13) (.seq (.region r74_2) .ret) .skip)) (.seq (.seq (.region r74_3) (.cond (.tmp 38) (.seq (.region r74_4) .ret) .skip)) (.seq (.region r74_5) .ret))))
theorem code74 : ∃ c, Try.f74.body = some c ∧ abs Try.f74.ntmps c = B74 := ⟨_, rfl, by kernel_rfl⟩
theorem hb74 : HasBody Try.prog 74 := hasBody_of Try.func74 (by kernel_rfl)
theorem res74 : Try.f74.results = #[(.cell 4 64), (.tmp 5)] := rfl
theorem enter74 {w : World} {R : Value → World → Prop} (x0 x1 : Value) (h : vc Try.prog B74 (retK Try.prog #[(.cell 4 64), (.tmp 5)] R) [] (initEnv [x0, x1] 0) w) : FnC Try.prog 74 #[x0, x1] w R := by
  obtain ⟨c, h1, h2⟩ := code74
  exact hb74.fn (ret_of_vc mixed Try.func74 h1 (Nat.le_of_ble_eq_true rfl) B74 h2 h)
@[push_cast] theorem vr74_0 : VR r74_0 [⟨some 2, .box 64 (.tmp 0), 0, none⟩, ⟨some 3, .box 64 (.tmp 1), 0, none⟩, ⟨some 4, .alloc 64, 0, none⟩, ⟨some 5, .assign (.const (.int .i64 0)), 28, none⟩] := vR rfl
@[push_cast] theorem vr74_1 : VR r74_1 [⟨some 6, .load 64 (.tmp 2), 64, none⟩, ⟨some 7, .call ⟨.value (.func 64), #[.tmp 6], #[64]⟩, 4, none⟩, ⟨some 8, .unOp .not 4 (.tmp 7), 4, none⟩, ⟨some 9, .move (.tmp 8), 4, none⟩, ⟨some 10, .load 64 (.tmp 3), 64, some (9, false)⟩, ⟨some 11, .call ⟨.value (.func 64), #[.tmp 10], #[64]⟩, 4, some (9, false)⟩, ⟨some 12, .unOp .not 4 (.tmp 11), 4, some (9, false)⟩, ⟨some 13, .pick (.tmp 9) (.const (.bool true)) (.tmp 12), 4, none⟩] := vR rfl
@[push_cast] theorem vr74_2 : VR r74_2 [⟨some 14, .build 64 #[], 64, none⟩, ⟨none, .store 64 (.tmp 4) (.tmp 14), 0, none⟩, ⟨some 5, .assign (.const (.int .i64 1)), 28, none⟩] := vR rfl
@[push_cast] theorem vr74_3 : VR r74_3 [⟨some 15, .fieldAddr 64 (.tmp 2) 0, 0, none⟩, ⟨some 16, .load 3 (.tmp 15), 3, none⟩, ⟨some 17, .binOp .gtr 3 (.tmp 16) (.const (.int .i64 0)) 3, 4, none⟩, ⟨some 18, .move (.tmp 17), 4, none⟩, ⟨some 19, .fieldAddr 64 (.tmp 3) 0, 0, some (18, true)⟩, ⟨some 20, .load 3 (.tmp 19), 3, some (18, true)⟩, ⟨some 21, .fieldAddr 64 (.tmp 2) 0, 0, some (18, true)⟩, ⟨some 22, .load 3 (.tmp 21), 3, some (18, true)⟩, ⟨some 23, .binOp .sub 3 (.const (.int .i64 4611686018427387904)) (.tmp 22) 3, 3, some (18, true)⟩, ⟨some 24, .binOp .gtr 3 (.tmp 20) (.tmp 23) 3, 4, some (18, true)⟩, ⟨some 25, .pick (.tmp 18) (.tmp 24) (.const (.bool false)), 4, none⟩, ⟨some 26, .move (.tmp 25), 4, none⟩, ⟨some 27, .fieldAddr 64 (.tmp 2) 0, 0, some (26, false)⟩, ⟨some 28, .load 3 (.tmp 27), 3, some (26, false)⟩, ⟨some 29, .binOp .lss 3 (.tmp 28) (.const (.int .i64 0)) 3, 4, some (26, false)⟩, ⟨some 30, .move (.tmp 29), 4, some (26, false)⟩, ⟨some 31, .fieldAddr 64 (.tmp 3) 0, 0, some (30, true)⟩, ⟨some 32, .load 3 (.tmp 31), 3, some (30, true)⟩, ⟨some 33, .fieldAddr 64 (.tmp 2) 0, 0, some (30, true)⟩, ⟨some 34, .load 3 (.tmp 33), 3, some (30, true)⟩, ⟨some 35, .binOp .sub 3 (.const (.int .i64 (-4611686018427387904))) (.tmp 34) 3, 3, some (30, true)⟩, ⟨some 36, .binOp .lss 3 (.tmp 32) (.tmp 35) 3, 4, some (30, true)⟩, ⟨some 37, .pick (.tmp 30) (.tmp 36) (.const (.bool false)), 4, some (26, false)⟩, ⟨some 38, .pick (.tmp 26) (.const (.bool true)) (.tmp 37), 4, none⟩] := vR rfl
@[push_cast] theorem vr74_4 : VR r74_4 [⟨some 39, .build 64 #[], 64, none⟩, ⟨none, .store 64 (.tmp 4) (.tmp 39), 0, none⟩, ⟨some 5, .assign (.const (.int .i64 121)), 28, none⟩] := vR rfl
@[push_cast] theorem vr74_5 : VR r74_5 [⟨some 40, .fieldAddr 64 (.tmp 2) 0, 0, none⟩, ⟨some 41, .load 3 (.tmp 40), 3, none⟩, ⟨some 42, .fieldAddr 64 (.tmp 3) 0, 0, none⟩, ⟨some 43, .load 3 (.tmp 42), 3, none⟩, ⟨some 44, .binOp .add 3 (.tmp 41) (.tmp 43) 3, 3, none⟩, ⟨some 45, .fieldAddr 64 (.tmp 2) 1, 0, none⟩, ⟨some 46, .load 3 (.tmp 45), 3, none⟩, ⟨some 47, .fieldAddr 64 (.tmp 3) 1, 0, none⟩, ⟨some 48, .load 3 (.tmp 47), 3, none⟩, ⟨some 49, .call ⟨.builtin .min, #[.tmp 46, .tmp 48], #[3, 3]⟩, 3, none⟩, ⟨some 50, .fieldAddr 64 (.tmp 2) 2, 0, none⟩, ⟨some 51, .load 3 (.tmp 50), 3, none⟩, ⟨some 52, .fieldAddr 64 (.tmp 3) 2, 0, none⟩, ⟨some 53, .load 3 (.tmp 52), 3, none⟩, ⟨some 54, .call ⟨.builtin .max, #[.tmp 51, .tmp 53], #[3, 3]⟩, 3, none⟩, ⟨some 55, .build 64 #[(0, (.tmp 44)), (1, (.tmp 49)), (2, (.tmp 54))], 64, none⟩, ⟨none, .store 64 (.tmp 4) (.tmp 55), 0, none⟩, ⟨some 5, .assign (.const (.int .i64 0)), 28, none⟩] := vR rfl
/-! 75 columbary/columbaryref12.Join (params #[64, 64], results #[(.cell 4 64), (.tmp 5)], 60 slots) -/
def r75_0 : List VOp :=
  [⟨some 2, .box 64 (.tmp 0), 0, none⟩,
   ⟨some 3, .box 64 (.tmp 1), 0, none⟩,
   ⟨some 4, .alloc 64, 0, none⟩,
   ⟨some 5, .assign (.const (.int .i64 0)), 28, none⟩]
def r75_1 : List VOp :=
  [lda 8 64 2,
   ⟨some 9, .call ⟨.value (.func 66), #[.tmp 8], #[64]⟩, 4, none⟩,
   asg 6 9 4]
def r75_2 : List VOp :=
  [lda 10 64 3,
   ⟨some 11, .call ⟨.value (.func 66), #[.tmp 10], #[64]⟩, 4, none⟩,
   asg 7 11 4]
def r75_3 : List VOp :=
  [mv 12 6 4,
   ⟨some 13, .unOp .not 4 (.tmp 12), 4, none⟩,
   mv 14 13 4,
   ⟨some 15, .move (.tmp 7), 4, some (14, false)⟩,
   ⟨some 16, .unOp .not 4 (.tmp 15), 4, some (14, false)⟩,
   ⟨some 17, .pick (.tmp 14) (.const (.bool true)) (.tmp 16), 4, none⟩]
def r75_4 : List VOp :=
  [⟨some 18, .build 64 #[], 64, none⟩,
   ⟨none, .store 64 (.tmp 4) (.tmp 18), 0, none⟩,
   ⟨some 5, .assign (.const (.int .i64 1)), 28, none⟩]
def r75_5 : List VOp :=
  [fad 19 64 3 0,
   lda 20 3 19,
   ⟨some 21, .binOp .gtr 3 (.tmp 20) (.const (.int .i64 0)) 3, 4, none⟩,
   mv 22 21 4,
   ⟨some 23, .fieldAddr 64 (.tmp 2) 0, 0, some (22, true)⟩,
   ⟨some 24, .load 3 (.tmp 23), 3, some (22, true)⟩,
   ⟨some 25, .fieldAddr 64 (.tmp 3) 0, 0, some (22, true)⟩,
   ⟨some 26, .load 3 (.tmp 25), 3, some (22, true)⟩,
   ⟨some 27, .binOp .sub 3 (.const (.int .i64 4611686018427387904)) (.tmp 26) 3, 3, some (22, true)⟩,
   ⟨some 28, .binOp .gtr 3 (.tmp 24) (.tmp 27) 3, 4, some (22, true)⟩,
   ⟨some 29, .pick (.tmp 22) (.tmp 28) (.const (.bool false)), 4, none⟩,
   mv 30 29 4,
   ⟨some 31, .fieldAddr 64 (.tmp 3) 0, 0, some (30, false)⟩,
   ⟨some 32, .load 3 (.tmp 31), 3, some (30, false)⟩,
   ⟨some 33, .binOp .lss 3 (.tmp 32) (.const (.int .i64 0)) 3, 4, some (30, false)⟩,
   ⟨some 34, .move (.tmp 33), 4, some (30, false)⟩,
   ⟨some 35, .fieldAddr 64 (.tmp 2) 0, 0, some (34, true)⟩,
   ⟨some 36, .load 3 (.tmp 35), 3, some (34, true)⟩,
   ⟨some 37, .fieldAddr 64 (.tmp 3) 0, 0, some (34, true)⟩,
   ⟨some 38, .load 3 (.tmp 37), 3, some (34, true)⟩,
   ⟨some 39, .binOp .sub 3 (.const (.int .i64 (-4611686018427387904))) (.tmp 38) 3, 3, some (34, true)⟩,
   ⟨some 40, .binOp .lss 3 (.tmp 36) (.tmp 39) 3, 4, some (34, true)⟩,
   ⟨some 41, .pick (.tmp 34) (.tmp 40) (.const (.bool false)), 4, some (30, false)⟩,
   ⟨some 42, .pick (.tmp 30) (.const (.bool true)) (.tmp 41), 4, none⟩]
def r75_6 : List VOp :=
  [⟨some 43, .build 64 #[], 64, none⟩,
   ⟨none, .store 64 (.tmp 4) (.tmp 43), 0, none⟩,
   ⟨some 5, .assign (.const (.int .i64 121)), 28, none⟩]
def r75_7 : List VOp :=
  [fad 44 64 2 0,
   lda 45 3 44,
   fad 46 64 3 0,
   lda 47 3 46,
   ⟨some 48, .binOp .add 3 (.tmp 45) (.tmp 47) 3, 3, none⟩,
   fad 49 64 2 1,
   lda 50 3 49,
   fad 51 64 3 1,
   lda 52 3 51,
   ⟨some 53, .call ⟨.builtin .min, #[.tmp 50, .tmp 52], #[3, 3]⟩, 3, none⟩,
   fad 54 64 2 2,
   lda 55 3 54,
   fad 56 64 3 2,
   lda 57 3 56,
   ⟨some 58, .call ⟨.builtin .max, #[.tmp 55, .tmp 57], #[3, 3]⟩, 3, none⟩,
   ⟨some 59, .build 64 #[(0, (.tmp 48)), (1, (.tmp 53)), (2, (.tmp 58))], 64, none⟩,
   ⟨none, .store 64 (.tmp 4) (.tmp 59), 0, none⟩,
   ⟨some 5, .assign (.const (.int .i64 0)), 28, none⟩]
def B75 : VC :=
  (.seq (.region r75_0) (.seq (.region r75_1) (.seq (.region r75_2) (.seq (.seq (.region r75_3) (.cond (.tmp 17) (.seq (.region r75_4) .ret) .skip)) (.seq (.seq (.region r75_5) (.cond (.tmp 42) (.seq (.region r75_6) .ret) .skip)) (.seq (.region r75_7) .ret))))))
theorem code75 : ∃ c, Try.f75.body = some c ∧ abs Try.f75.ntmps c = B75 := ⟨_, rfl, by kernel_rfl⟩
theorem hb75 : HasBody Try.prog 75 := hasBody_of Try.func75 (by kernel_rfl)
theorem res75 : Try.f75.results = #[(.cell 4 64), (.tmp 5)] := rfl
theorem enter75 {w : World} {R : Value → World → Prop} (x0 x1 : Value) (h : vc Try.prog B75 (retK Try.prog #[(.cell 4 64), (.tmp 5)] R) [] (initEnv [x0, x1] 0) w) : FnC Try.prog 75 #[x0, x1] w R := by
  obtain ⟨c, h1, h2⟩ := code75
  exact hb75.fn (ret_of_vc mixed Try.func75 h1 (Nat.le_of_ble_eq_true rfl) B75 h2 h)
@[push_cast] theorem vr75_0 : VR r75_0 [⟨some 2, .box 64 (.tmp 0), 0, none⟩, ⟨some 3, .box 64 (.tmp 1), 0, none⟩, ⟨some 4, .alloc 64, 0, none⟩, ⟨some 5, .assign (.const (.int .i64 0)), 28, none⟩] := vR rfl
@[push_cast] theorem vr75_1 : VR r75_1 [⟨some 8, .load 64 (.tmp 2), 64, none⟩, ⟨some 9, .call ⟨.value (.func 66), #[.tmp 8], #[64]⟩, 4, none⟩, ⟨some 6, .assign (.tmp 9), 4, none⟩] := vR rfl
@[push_cast] theorem vr75_2 : VR r75_2 [⟨some 10, .load 64 (.tmp 3), 64, none⟩, ⟨some 11, .call ⟨.value (.func 66), #[.tmp 10], #[64]⟩, 4, none⟩, ⟨some 7, .assign (.tmp 11), 4, none⟩] := vR rfl
@[push_cast] theorem vr75_3 : VR r75_3 [⟨some 12, .move (.tmp 6), 4, none⟩, ⟨some 13, .unOp .not 4 (.tmp 12), 4, none⟩, ⟨some 14, .move (.tmp 13), 4, none⟩, ⟨some 15, .move (.tmp 7), 4, some (14, false)⟩, ⟨some 16, .unOp .not 4 (.tmp 15), 4, some (14, false)⟩, ⟨some 17, .pick (.tmp 14) (.const (.bool true)) (.tmp 16), 4, none⟩] := vR rfl
@[push_cast] theorem vr75_4 : VR r75_4 [⟨some 18, .build 64 #[], 64, none⟩, ⟨none, .store 64 (.tmp 4) (.tmp 18), 0, none⟩, ⟨some 5, .assign (.const (.int .i64 1)), 28, none⟩] := vR rfl
@[push_cast] theorem vr75_5 : VR r75_5 [⟨some 19, .fieldAddr 64 (.tmp 3) 0, 0, none⟩, ⟨some 20, .load 3 (.tmp 19), 3, none⟩, ⟨some 21, .binOp .gtr 3 (.tmp 20) (.const (.int .i64 0)) 3, 4, none⟩, ⟨some 22, .move (.tmp 21), 4, none⟩, ⟨some 23, .fieldAddr 64 (.tmp 2) 0, 0, some (22, true)⟩, ⟨some 24, .load 3 (.tmp 23), 3, some (22, true)⟩, ⟨some 25, .fieldAddr 64 (.tmp 3) 0, 0, some (22, true)⟩, ⟨some 26, .load 3 (.tmp 25), 3, some (22, true)⟩, ⟨some 27, .binOp .sub 3 (.const (.int .i64 4611686018427387904)) (.tmp 26) 3, 3, some (22, true)⟩, ⟨some 28, .binOp .gtr 3 (.tmp 24) (.tmp 27) 3, 4, some (22, true)⟩, ⟨some 29, .pick (.tmp 22) (.tmp 28) (.const (.bool false)), 4, none⟩, ⟨some 30, .move (.tmp 29), 4, none⟩, ⟨some 31, .fieldAddr 64 (.tmp 3) 0, 0, some (30, false)⟩, ⟨some 32, .load 3 (.tmp 31), 3, some (30, false)⟩, ⟨some 33, .binOp .lss 3 (.tmp 32) (.const (.int .i64 0)) 3, 4, some (30, false)⟩, ⟨some 34, .move (.tmp 33), 4, some (30, false)⟩, ⟨some 35, .fieldAddr 64 (.tmp 2) 0, 0, some (34, true)⟩, ⟨some 36, .load 3 (.tmp 35), 3, some (34, true)⟩, ⟨some 37, .fieldAddr 64 (.tmp 3) 0, 0, some (34, true)⟩, ⟨some 38, .load 3 (.tmp 37), 3, some (34, true)⟩, ⟨some 39, .binOp .sub 3 (.const (.int .i64 (-4611686018427387904))) (.tmp 38) 3, 3, some (34, true)⟩, ⟨some 40, .binOp .lss 3 (.tmp 36) (.tmp 39) 3, 4, some (34, true)⟩, ⟨some 41, .pick (.tmp 34) (.tmp 40) (.const (.bool false)), 4, some (30, false)⟩, ⟨some 42, .pick (.tmp 30) (.const (.bool true)) (.tmp 41), 4, none⟩] := vR rfl
@[push_cast] theorem vr75_6 : VR r75_6 [⟨some 43, .build 64 #[], 64, none⟩, ⟨none, .store 64 (.tmp 4) (.tmp 43), 0, none⟩, ⟨some 5, .assign (.const (.int .i64 121)), 28, none⟩] := vR rfl
@[push_cast] theorem vr75_7 : VR r75_7 [⟨some 44, .fieldAddr 64 (.tmp 2) 0, 0, none⟩, ⟨some 45, .load 3 (.tmp 44), 3, none⟩, ⟨some 46, .fieldAddr 64 (.tmp 3) 0, 0, none⟩, ⟨some 47, .load 3 (.tmp 46), 3, none⟩, ⟨some 48, .binOp .add 3 (.tmp 45) (.tmp 47) 3, 3, none⟩, ⟨some 49, .fieldAddr 64 (.tmp 2) 1, 0, none⟩, ⟨some 50, .load 3 (.tmp 49), 3, none⟩, ⟨some 51, .fieldAddr 64 (.tmp 3) 1, 0, none⟩, ⟨some 52, .load 3 (.tmp 51), 3, none⟩, ⟨some 53, .call ⟨.builtin .min, #[.tmp 50, .tmp 52], #[3, 3]⟩, 3, none⟩, ⟨some 54, .fieldAddr 64 (.tmp 2) 2, 0, none⟩, ⟨some 55, .load 3 (.tmp 54), 3, none⟩, ⟨some 56, .fieldAddr 64 (.tmp 3) 2, 0, none⟩, ⟨some 57, .load 3 (.tmp 56), 3, none⟩, ⟨some 58, .call ⟨.builtin .max, #[.tmp 55, .tmp 57], #[3, 3]⟩, 3, none⟩, ⟨some 59, .build 64 #[(0, (.tmp 48)), (1, (.tmp 53)), (2, (.tmp 58))], 64, none⟩, ⟨none, .store 64 (.tmp 4) (.tmp 59), 0, none⟩, ⟨some 5, .assign (.const (.int .i64 0)), 28, none⟩] := vR rfl
/-! 79 columbary/columbaryref10.Name (params #[9], results #[(.tmp 2)], 71 slots) -/
def W79_0 : List Nat := [2, 4, 9, 10, 11, 12, 13, 14, 15, 16, 17, 18, 19, 20]
@[push_cast] theorem W79_0_def : W79_0 = [2, 4, 9, 10, 11, 12, 13, 14, 15, 16, 17, 18, 19, 20] := mk_eq rfl
def W79_1 : List Nat := [2, 5, 6, 7, 21, 22, 23, 24, 25, 26, 27, 28, 29, 30, 31, 32, 33, 34, 35, 36, 37, 38, 39, 40, 41, 42, 43, 44, 45, 46, 47, 48, 49, 50, 51, 52, 53, 54, 55, 56, 57, 58, 59, 60, 61, 62]
@[push_cast] theorem W79_1_def : W79_1 = [2, 5, 6, 7, 21, 22, 23, 24, 25, 26, 27, 28, 29, 30, 31, 32, 33, 34, 35, 36, 37, 38, 39, 40, 41, 42, 43, 44, 45, 46, 47, 48, 49, 50, 51, 52, 53, 54, 55, 56, 57, 58, 59, 60, 61, 62] := mk_eq rfl
def r79_0 : List VOp :=
  [⟨some 2, .assign (.const (.bool false)), 4, none⟩]
def r79_1 : List VOp :=
  [⟨some 8, .call ⟨.value (.func 103), #[], #[]⟩, 22, none⟩,
   asg 3 8 22]
def r79_2 : List VOp :=
  [⟨some 4, .assign (.const (.int .i64 0)), 3, none⟩]
def r79_3 : List VOp :=
  [mv 9 4 3,
   mv 10 3 22,
   ⟨some 11, .call ⟨.builtin .len, #[.tmp 10], #[22]⟩, 3, none⟩,
   ⟨some 12, .binOp .lss 3 (.tmp 9) (.tmp 11) 3, 4, none⟩]
def r79_5 : List VOp :=
  [mv 15 3 22,
   mv 16 4 3,
   iad 17 22 15 16,
   lda 18 9 17,
   mv 19 0 9,
   ⟨some 20, .binOp .eql 9 (.tmp 18) (.tmp 19) 9, 4, none⟩]
def r79_6 : List VOp :=
  [⟨some 2, .assign (.const (.bool false)), 4, none⟩]
def r79_4 : List VOp :=
  [mv 13 4 3,
   ⟨some 14, .binOp .add 3 (.tmp 13) (.const (.int .i64 1)) 3, 3, none⟩,
   asg 4 14 3]
def r79_7 : List VOp :=
  [⟨some 5, .assign (.const (.int .i64 0)), 3, none⟩]
def r79_8 : List VOp :=
  [mv 21 5 3,
   mv 22 0 9,
   ⟨some 23, .call ⟨.builtin .len, #[.tmp 22], #[9]⟩, 3, none⟩,
   ⟨some 24, .binOp .lss 3 (.tmp 21) (.tmp 23) 3, 4, none⟩]
def r79_10 : List VOp :=
  [mv 27 0 9,
   mv 28 5 3,
   ⟨some 29, .index 9 (.tmp 27) (.tmp 28), 5, none⟩,
   ⟨some 30, .binOp .geq 5 (.tmp 29) (.const (.int .u8 97)) 5, 4, none⟩,
   mv 31 30 4,
   ⟨some 32, .move (.tmp 0), 9, some (31, true)⟩,
   ⟨some 33, .move (.tmp 5), 3, some (31, true)⟩,
   ⟨some 34, .index 9 (.tmp 32) (.tmp 33), 5, some (31, true)⟩,
   ⟨some 35, .binOp .leq 5 (.tmp 34) (.const (.int .u8 122)) 5, 4, some (31, true)⟩,
   ⟨some 36, .pick (.tmp 31) (.tmp 35) (.const (.bool false)), 4, none⟩,
   asg 6 36 4]
def r79_11 : List VOp :=
  [mv 37 0 9,
   mv 38 5 3,
   ⟨some 39, .index 9 (.tmp 37) (.tmp 38), 5, none⟩,
   ⟨some 40, .binOp .geq 5 (.tmp 39) (.const (.int .u8 48)) 5, 4, none⟩,
   mv 41 40 4,
   ⟨some 42, .move (.tmp 0), 9, some (41, true)⟩,
   ⟨some 43, .move (.tmp 5), 3, some (41, true)⟩,
   ⟨some 44, .index 9 (.tmp 42) (.tmp 43), 5, some (41, true)⟩,
   ⟨some 45, .binOp .leq 5 (.tmp 44) (.const (.int .u8 57)) 5, 4, some (41, true)⟩,
   ⟨some 46, .pick (.tmp 41) (.tmp 45) (.const (.bool false)), 4, none⟩,
   mv 47 46 4,
   ⟨some 48, .move (.tmp 0), 9, some (47, false)⟩,
   ⟨some 49, .move (.tmp 5), 3, some (47, false)⟩,
   ⟨some 50, .index 9 (.tmp 48) (.tmp 49), 5, some (47, false)⟩,
   ⟨some 51, .binOp .eql 5 (.tmp 50) (.const (.int .u8 95)) 5, 4, some (47, false)⟩,
   ⟨some 52, .pick (.tmp 47) (.const (.bool true)) (.tmp 51), 4, none⟩,
   asg 7 52 4]
def r79_12 : List VOp :=
  [mv 53 6 4,
   ⟨some 54, .unOp .not 4 (.tmp 53), 4, none⟩,
   mv 55 54 4,
   ⟨some 56, .move (.tmp 7), 4, some (55, true)⟩,
   ⟨some 57, .unOp .not 4 (.tmp 56), 4, some (55, true)⟩,
   ⟨some 58, .move (.tmp 57), 4, some (55, true)⟩,
   ⟨some 59, .move (.tmp 5), 3, some (58, false)⟩,
   ⟨some 60, .binOp .eql 3 (.tmp 59) (.const (.int .i64 0)) 3, 4, some (58, false)⟩,
   ⟨some 61, .pick (.tmp 58) (.const (.bool true)) (.tmp 60), 4, some (55, true)⟩,
   ⟨some 62, .pick (.tmp 55) (.tmp 61) (.const (.bool false)), 4, none⟩]
def r79_13 : List VOp :=
  [⟨some 2, .assign (.const (.bool false)), 4, none⟩]
def r79_9 : List VOp :=
  [mv 25 5 3,
   ⟨some 26, .binOp .add 3 (.tmp 25) (.const (.int .i64 1)) 3, 3, none⟩,
   asg 5 26 3]
def r79_14 : List VOp :=
  [mv 63 0 9,
   ⟨some 64, .call ⟨.builtin .len, #[.tmp 63], #[9]⟩, 3, none⟩,
   ⟨some 65, .binOp .geq 3 (.tmp 64) (.const (.int .i64 1)) 3, 4, none⟩,
   mv 66 65 4,
   ⟨some 67, .move (.tmp 0), 9, some (66, true)⟩,
   ⟨some 68, .call ⟨.builtin .len, #[.tmp 67], #[9]⟩, 3, some (66, true)⟩,
   ⟨some 69, .binOp .leq 3 (.tmp 68) (.const (.int .i64 12)) 3, 4, some (66, true)⟩,
   ⟨some 70, .pick (.tmp 66) (.tmp 69) (.const (.bool false)), 4, none⟩,
   asg 2 70 4]
def B79 : VC :=
  (.seq (.region r79_0) (.seq (.region r79_1) (.seq (.seq (.region r79_2) (.block 0 (.loop (.seq (.seq (.region r79_3) (.cond (.tmp 12) .skip (.exit 0))) (.seq (.block 1 (.seq (.region r79_5) (.cond (.tmp 20) (.seq (.region r79_6) .ret) .skip))) (.region r79_4)))))) (.seq (.seq (.region r79_7) (.block 2 (.loop (.seq (.seq (.region r79_8) (.cond (.tmp 24) .skip (.exit 2))) (.seq (.block 3 (.seq (.region r79_10) (.seq (.region r79_11) (.seq (.region r79_12) (.cond (.tmp 62) (.seq (.region r79_13) .ret) .skip))))) (.region r79_9)))))) (.seq (.region r79_14) .ret)))))
theorem code79 : ∃ c, Try.f79.body = some c ∧ abs Try.f79.ntmps c = B79 := ⟨_, rfl, by kernel_rfl⟩
theorem hb79 : HasBody Try.prog 79 := hasBody_of Try.func79 (by kernel_rfl)
theorem res79 : Try.f79.results = #[(.tmp 2)] := rfl
theorem enter79 {w : World} {R : Value → World → Prop} (x0 : Value) (h : vc Try.prog B79 (retK Try.prog #[(.tmp 2)] R) [] (initEnv [x0] 0) w) : FnC Try.prog 79 #[x0] w R := by
  obtain ⟨c, h1, h2⟩ := code79
  exact hb79.fn (ret_of_vc mixed Try.func79 h1 (Nat.le_of_ble_eq_true rfl) B79 h2 h)
@[push_cast] theorem vr79_0 : VR r79_0 [⟨some 2, .assign (.const (.bool false)), 4, none⟩] := vR rfl
@[push_cast] theorem vr79_1 : VR r79_1 [⟨some 8, .call ⟨.value (.func 103), #[], #[]⟩, 22, none⟩, ⟨some 3, .assign (.tmp 8), 22, none⟩] := vR rfl
@[push_cast] theorem vr79_2 : VR r79_2 [⟨some 4, .assign (.const (.int .i64 0)), 3, none⟩] := vR rfl
@[push_cast] theorem vr79_3 : VR r79_3 [⟨some 9, .move (.tmp 4), 3, none⟩, ⟨some 10, .move (.tmp 3), 22, none⟩, ⟨some 11, .call ⟨.builtin .len, #[.tmp 10], #[22]⟩, 3, none⟩, ⟨some 12, .binOp .lss 3 (.tmp 9) (.tmp 11) 3, 4, none⟩] := vR rfl
@[push_cast] theorem vr79_5 : VR r79_5 [⟨some 15, .move (.tmp 3), 22, none⟩, ⟨some 16, .move (.tmp 4), 3, none⟩, ⟨some 17, .indexAddr 22 (.tmp 15) (.tmp 16), 0, none⟩, ⟨some 18, .load 9 (.tmp 17), 9, none⟩, ⟨some 19, .move (.tmp 0), 9, none⟩, ⟨some 20, .binOp .eql 9 (.tmp 18) (.tmp 19) 9, 4, none⟩] := vR rfl
@[push_cast] theorem vr79_6 : VR r79_6 [⟨some 2, .assign (.const (.bool false)), 4, none⟩] := vR rfl
@[push_cast] theorem vr79_4 : VR r79_4 [⟨some 13, .move (.tmp 4), 3, none⟩, ⟨some 14, .binOp .add 3 (.tmp 13) (.const (.int .i64 1)) 3, 3, none⟩, ⟨some 4, .assign (.tmp 14), 3, none⟩] := vR rfl
@[push_cast] theorem vr79_7 : VR r79_7 [⟨some 5, .assign (.const (.int .i64 0)), 3, none⟩] := vR rfl
@[push_cast] theorem vr79_8 : VR r79_8 [⟨some 21, .move (.tmp 5), 3, none⟩, ⟨some 22, .move (.tmp 0), 9, none⟩, ⟨some 23, .call ⟨.builtin .len, #[.tmp 22], #[9]⟩, 3, none⟩, ⟨some 24, .binOp .lss 3 (.tmp 21) (.tmp 23) 3, 4, none⟩] := vR rfl
@[push_cast] theorem vr79_10 : VR r79_10 [⟨some 27, .move (.tmp 0), 9, none⟩, ⟨some 28, .move (.tmp 5), 3, none⟩, ⟨some 29, .index 9 (.tmp 27) (.tmp 28), 5, none⟩, ⟨some 30, .binOp .geq 5 (.tmp 29) (.const (.int .u8 97)) 5, 4, none⟩, ⟨some 31, .move (.tmp 30), 4, none⟩, ⟨some 32, .move (.tmp 0), 9, some (31, true)⟩, ⟨some 33, .move (.tmp 5), 3, some (31, true)⟩, ⟨some 34, .index 9 (.tmp 32) (.tmp 33), 5, some (31, true)⟩, ⟨some 35, .binOp .leq 5 (.tmp 34) (.const (.int .u8 122)) 5, 4, some (31, true)⟩, ⟨some 36, .pick (.tmp 31) (.tmp 35) (.const (.bool false)), 4, none⟩, ⟨some 6, .assign (.tmp 36), 4, none⟩] := vR rfl
@[push_cast] theorem vr79_11 : VR r79_11 [⟨some 37, .move (.tmp 0), 9, none⟩, ⟨some 38, .move (.tmp 5), 3, none⟩, ⟨some 39, .index 9 (.tmp 37) (.tmp 38), 5, none⟩, ⟨some 40, .binOp .geq 5 (.tmp 39) (.const (.int .u8 48)) 5, 4, none⟩, ⟨some 41, .move (.tmp 40), 4, none⟩, ⟨some 42, .move (.tmp 0), 9, some (41, true)⟩, ⟨some 43, .move (.tmp 5), 3, some (41, true)⟩, ⟨some 44, .index 9 (.tmp 42) (.tmp 43), 5, some (41, true)⟩, ⟨some 45, .binOp .leq 5 (.tmp 44) (.const (.int .u8 57)) 5, 4, some (41, true)⟩, ⟨some 46, .pick (.tmp 41) (.tmp 45) (.const (.bool false)), 4, none⟩, ⟨some 47, .move (.tmp 46), 4, none⟩, ⟨some 48, .move (.tmp 0), 9, some (47, false)⟩, ⟨some 49, .move (.tmp 5), 3, some (47, false)⟩, ⟨some 50, .index 9 (.tmp 48) (.tmp 49), 5, some (47, false)⟩, ⟨some 51, .binOp .eql 5 (.tmp 50) (.const (.int .u8 95)) 5, 4, some (47, false)⟩, ⟨some 52, .pick (.tmp 47) (.const (.bool true)) (.tmp 51), 4, none⟩, ⟨some 7, .assign (.tmp 52), 4, none⟩] := vR rfl
@[push_cast] theorem vr79_12 : VR r79_12 [⟨some 53, .move (.tmp 6), 4, none⟩, ⟨some 54, .unOp .not 4 (.tmp 53), 4, none⟩, ⟨some 55, .move (.tmp 54), 4, none⟩, ⟨some 56, .move (.tmp 7), 4, some (55, true)⟩, ⟨some 57, .unOp .not 4 (.tmp 56), 4, some (55, true)⟩, ⟨some 58, .move (.tmp 57), 4, some (55, true)⟩, ⟨some 59, .move (.tmp 5), 3, some (58, false)⟩, ⟨some 60, .binOp .eql 3 (.tmp 59) (.const (.int .i64 0)) 3, 4, some (58, false)⟩, ⟨some 61, .pick (.tmp 58) (.const (.bool true)) (.tmp 60), 4, some (55, true)⟩, ⟨some 62, .pick (.tmp 55) (.tmp 61) (.const (.bool false)), 4, none⟩] := vR rfl
@[push_cast] theorem vr79_13 : VR r79_13 [⟨some 2, .assign (.const (.bool false)), 4, none⟩] := vR rfl
@[push_cast] theorem vr79_9 : VR r79_9 [⟨some 25, .move (.tmp 5), 3, none⟩, ⟨some 26, .binOp .add 3 (.tmp 25) (.const (.int .i64 1)) 3, 3, none⟩, ⟨some 5, .assign (.tmp 26), 3, none⟩] := vR rfl
@[push_cast] theorem vr79_14 : VR r79_14 [⟨some 63, .move (.tmp 0), 9, none⟩, ⟨some 64, .call ⟨.builtin .len, #[.tmp 63], #[9]⟩, 3, none⟩, ⟨some 65, .binOp .geq 3 (.tmp 64) (.const (.int .i64 1)) 3, 4, none⟩, ⟨some 66, .move (.tmp 65), 4, none⟩, ⟨some 67, .move (.tmp 0), 9, some (66, true)⟩, ⟨some 68, .call ⟨.builtin .len, #[.tmp 67], #[9]⟩, 3, some (66, true)⟩, ⟨some 69, .binOp .leq 3 (.tmp 68) (.const (.int .i64 12)) 3, 4, some (66, true)⟩, ⟨some 70, .pick (.tmp 66) (.tmp 69) (.const (.bool false)), 4, none⟩, ⟨some 2, .assign (.tmp 70), 4, none⟩] := vR rfl
@[push_cast] theorem bsl22_0_CodesA {K : Value → World → Prop} {w : World}  : vBuildSlice Try.prog 22 0 #[] K w = K (.slice (some ⟨w.heap.size, 0, none⟩) 0 0) (w.alloc (.cells #[] 9)) :=
  vBuildSlice_ok Try.underlying22 ti9 (by kernel_rfl) (by decide)
@[push_cast] theorem bsl22_1_CodesA {K : Value → World → Prop} {w : World} (x0 : ByteArray) : vBuildSlice Try.prog 22 1 #[(0, (.string x0))] K w = K (.slice (some ⟨w.heap.size, 0, none⟩) 1 1) (w.alloc (.cells #[(.string x0)] 9)) :=
  vBuildSlice_ok Try.underlying22 ti9 (by kernel_rfl) (by decide)
@[push_cast] theorem bsl47_1_CodesA {K : Value → World → Prop} {w : World} (x0 : Int) : vBuildSlice Try.prog 47 1 #[(0, (.int .i64 x0))] K w = K (.slice (some ⟨w.heap.size, 0, none⟩) 1 1) (w.alloc (.cells #[(.int .i64 x0)] 3)) :=
  vBuildSlice_ok Try.underlying47 ti3 (by kernel_rfl) (by decide)
@[push_cast] theorem bsl47_3_CodesA {K : Value → World → Prop} {w : World} (x0 : Int) (x1 : Int) (x2 : Int) : vBuildSlice Try.prog 47 3 #[(0, (.int .i64 x0)), (1, (.int .i64 x1)), (2, (.int .i64 x2))] K w = K (.slice (some ⟨w.heap.size, 0, none⟩) 3 3) (w.alloc (.cells #[(.int .i64 x0), (.int .i64 x1), (.int .i64 x2)] 3)) :=
  vBuildSlice_ok Try.underlying47 ti3 (by kernel_rfl) (by decide)
@[push_cast] theorem bld24_0_1_CodesA {K : Value → World → Prop} {w : World} (x0o : Option Addr) (x0n x0c : Nat) (x1o : Option Addr) (x1n x1c : Nat) : vBuild Try.prog 24 #[(0, (.slice x0o x0n x0c)), (1, (.slice x1o x1n x1c))] K w = K (.agg #[(.slice x0o x0n x0c), (.slice x1o x1n x1c)]) w :=
  vBuild_ok (by kernel_rfl)
@[push_cast] theorem bld64__CodesA {K : Value → World → Prop} {w : World}  : vBuild Try.prog 64 #[] K w = K (.agg #[(.int .i64 0), (.int .i64 0), (.int .i64 0)]) w :=
  vBuild_ok (by kernel_rfl)
@[push_cast] theorem bld64_0_1_2_CodesA {K : Value → World → Prop} {w : World} (x0 : Int) (x1 : Int) (x2 : Int) : vBuild Try.prog 64 #[(0, (.int .i64 x0)), (1, (.int .i64 x1)), (2, (.int .i64 x2))] K w = K (.agg #[(.int .i64 x0), (.int .i64 x1), (.int .i64 x2)]) w :=
  vBuild_ok (by kernel_rfl)
end Go.Proofs.Ythihbgpaoldbjaa
end
section
namespace Go.Proofs.Ythihbgpaoldbjaa
open Go.Vc
set_option maxRecDepth 100000
variable (Q : Post) (ds : List Deferred) (σ : Env) (w : World)
/-! 91 columbary/agg.fits (params #[47], results #[(.tmp 2)], 18 slots) -/
def W91_0 : List Nat := [2, 4, 7, 8, 9, 10, 11, 12, 13, 14, 15, 16, 17]
@[push_cast] theorem W91_0_def : W91_0 = [2, 4, 7, 8, 9, 10, 11, 12, 13, 14, 15, 16, 17] := mk_eq rfl
def r91_0 : List VOp :=
  [⟨some 2, .assign (.const (.bool false)), 4, none⟩]
def r91_1 : List VOp :=
  [mv 5 0 47,
   ⟨some 6, .call ⟨.builtin .len, #[.tmp 5], #[47]⟩, 3, none⟩,
   ⟨some 7, .move (.const (.int .i64 0)), 3, none⟩]
def r91_2 : List VOp :=
  [⟨some 8, .binOp .lss 3 (.tmp 7) (.tmp 6) 3, 0, none⟩]
def r91_3 : List VOp :=
  [iad 9 47 5 7,
   lda 10 3 9,
   asg 4 10 3]
def r91_4 : List VOp :=
  [mv 11 4 3,
   ⟨some 12, .binOp .lss 3 (.tmp 11) (.const (.int .i64 (-4611686018427387904))) 3, 4, none⟩,
   mv 13 12 4,
   ⟨some 14, .move (.tmp 4), 3, some (13, false)⟩,
   ⟨some 15, .binOp .gtr 3 (.tmp 14) (.const (.int .i64 4611686018427387904)) 3, 4, some (13, false)⟩,
   ⟨some 16, .pick (.tmp 13) (.const (.bool true)) (.tmp 15), 4, none⟩]
def r91_5 : List VOp :=
  [⟨some 2, .assign (.const (.bool false)), 4, none⟩]
def r91_6 : List VOp :=
  [⟨some 17, .binOp .add 3 (.tmp 7) (.const (.int .i64 1)) 3, 3, none⟩,
   mv 7 17 3]
def r91_7 : List VOp :=
  [⟨some 2, .assign (.const (.bool true)), 4, none⟩]
def B91 : VC :=
  (.seq (.region r91_0) (.seq (.seq (.region r91_1) (.block 0 (.loop (.seq (.region r91_2) (.seq (.cond (.tmp 8) .skip (.exit 0)) (.seq (.block 1 (.seq (.region r91_3) (.seq (.region r91_4) (.cond (.tmp 16) (.seq (.region r91_5) .ret) .skip)))) (.region r91_6))))))) (.seq (.region r91_7) .ret)))
theorem code91 : ∃ c, Try.f91.body = some c ∧ abs Try.f91.ntmps c = B91 := ⟨_, rfl, by kernel_rfl⟩
theorem hb91 : HasBody Try.prog 91 := hasBody_of Try.func91 (by kernel_rfl)
theorem res91 : Try.f91.results = #[(.tmp 2)] := rfl
theorem enter91 {w : World} {R : Value → World → Prop} (x0 : Value) (h : vc Try.prog B91 (retK Try.prog #[(.tmp 2)] R) [] (initEnv [x0] 0) w) : FnC Try.prog 91 #[x0] w R := by
  obtain ⟨c, h1, h2⟩ := code91
  exact hb91.fn (ret_of_vc mixed Try.func91 h1 (Nat.le_of_ble_eq_true rfl) B91 h2 h)
@[push_cast] theorem vr91_0 : VR r91_0 [⟨some 2, .assign (.const (.bool false)), 4, none⟩] := vR rfl
@[push_cast] theorem vr91_1 : VR r91_1 [⟨some 5, .move (.tmp 0), 47, none⟩, ⟨some 6, .call ⟨.builtin .len, #[.tmp 5], #[47]⟩, 3, none⟩, ⟨some 7, .move (.const (.int .i64 0)), 3, none⟩] := vR rfl
@[push_cast] theorem vr91_2 : VR r91_2 [⟨some 8, .binOp .lss 3 (.tmp 7) (.tmp 6) 3, 0, none⟩] := vR rfl
@[push_cast] theorem vr91_3 : VR r91_3 [⟨some 9, .indexAddr 47 (.tmp 5) (.tmp 7), 0, none⟩, ⟨some 10, .load 3 (.tmp 9), 3, none⟩, ⟨some 4, .assign (.tmp 10), 3, none⟩] := vR rfl
@[push_cast] theorem vr91_4 : VR r91_4 [⟨some 11, .move (.tmp 4), 3, none⟩, ⟨some 12, .binOp .lss 3 (.tmp 11) (.const (.int .i64 (-4611686018427387904))) 3, 4, none⟩, ⟨some 13, .move (.tmp 12), 4, none⟩, ⟨some 14, .move (.tmp 4), 3, some (13, false)⟩, ⟨some 15, .binOp .gtr 3 (.tmp 14) (.const (.int .i64 4611686018427387904)) 3, 4, some (13, false)⟩, ⟨some 16, .pick (.tmp 13) (.const (.bool true)) (.tmp 15), 4, none⟩] := vR rfl
@[push_cast] theorem vr91_5 : VR r91_5 [⟨some 2, .assign (.const (.bool false)), 4, none⟩] := vR rfl
@[push_cast] theorem vr91_6 : VR r91_6 [⟨some 17, .binOp .add 3 (.tmp 7) (.const (.int .i64 1)) 3, 3, none⟩, ⟨some 7, .move (.tmp 17), 3, none⟩] := vR rfl
@[push_cast] theorem vr91_7 : VR r91_7 [⟨some 2, .assign (.const (.bool true)), 4, none⟩] := vR rfl
/-! 92 columbary/columbaryref12.fits (params #[3], results #[(.tmp 2)], 9 slots) -/
def r92_0 : List VOp :=
  [⟨some 2, .assign (.const (.bool false)), 4, none⟩]
def r92_1 : List VOp :=
  [mv 3 0 3,
   ⟨some 4, .binOp .geq 3 (.tmp 3) (.const (.int .i64 (-4611686018427387904))) 3, 4, none⟩,
   mv 5 4 4,
   ⟨some 6, .move (.tmp 0), 3, some (5, true)⟩,
   ⟨some 7, .binOp .leq 3 (.tmp 6) (.const (.int .i64 4611686018427387904)) 3, 4, some (5, true)⟩,
   ⟨some 8, .pick (.tmp 5) (.tmp 7) (.const (.bool false)), 4, none⟩,
   asg 2 8 4]
def B92 : VC :=
  (.seq (.region r92_0) (.seq (.region r92_1) .ret))
theorem code92 : ∃ c, Try.f92.body = some c ∧ abs Try.f92.ntmps c = B92 := ⟨_, rfl, by kernel_rfl⟩
theorem hb92 : HasBody Try.prog 92 := hasBody_of Try.func92 (by kernel_rfl)
theorem res92 : Try.f92.results = #[(.tmp 2)] := rfl
theorem enter92 {w : World} {R : Value → World → Prop} (x0 : Value) (h : vc Try.prog B92 (retK Try.prog #[(.tmp 2)] R) [] (initEnv [x0] 0) w) : FnC Try.prog 92 #[x0] w R := by
  obtain ⟨c, h1, h2⟩ := code92
  exact hb92.fn (ret_of_vc mixed Try.func92 h1 (Nat.le_of_ble_eq_true rfl) B92 h2 h)
@[push_cast] theorem vr92_0 : VR r92_0 [⟨some 2, .assign (.const (.bool false)), 4, none⟩] := vR rfl
@[push_cast] theorem vr92_1 : VR r92_1 [⟨some 3, .move (.tmp 0), 3, none⟩, ⟨some 4, .binOp .geq 3 (.tmp 3) (.const (.int .i64 (-4611686018427387904))) 3, 4, none⟩, ⟨some 5, .move (.tmp 4), 4, none⟩, ⟨some 6, .move (.tmp 0), 3, some (5, true)⟩, ⟨some 7, .binOp .leq 3 (.tmp 6) (.const (.int .i64 4611686018427387904)) 3, 4, some (5, true)⟩, ⟨some 8, .pick (.tmp 5) (.tmp 7) (.const (.bool false)), 4, none⟩, ⟨some 2, .assign (.tmp 8), 4, none⟩] := vR rfl
/-! 98 slices.Values[[]columbary/api.Row,columbary/api.Row]$1 (params #[98], results #[], 16 slots) -/
def W98_0 : List Nat := [4, 7, 8, 9, 10, 11, 12, 13, 14, 15]
@[push_cast] theorem W98_0_def : W98_0 = [4, 7, 8, 9, 10, 11, 12, 13, 14, 15] := mk_eq rfl
def r98_0 : List VOp :=
  [lda 5 25 1,
   ⟨some 6, .call ⟨.builtin .len, #[.tmp 5], #[25]⟩, 3, none⟩,
   ⟨some 7, .move (.const (.int .i64 0)), 3, none⟩]
def r98_1 : List VOp :=
  [⟨some 8, .binOp .lss 3 (.tmp 7) (.tmp 6) 3, 0, none⟩]
def r98_2 : List VOp :=
  [iad 9 25 5 7,
   lda 10 35 9,
   ⟨some 4, .alloc 35, 0, none⟩,
   ⟨none, .store 35 (.tmp 4) (.tmp 10), 0, none⟩]
def r98_3 : List VOp :=
  [mv 11 0 98,
   lda 12 35 4,
   ⟨some 13, .call ⟨.value (.tmp 11), #[.tmp 12], #[35]⟩, 4, none⟩,
   ⟨some 14, .unOp .not 4 (.tmp 13), 4, none⟩]
def r98_4 : List VOp :=
  [⟨some 15, .binOp .add 3 (.tmp 7) (.const (.int .i64 1)) 3, 3, none⟩,
   mv 7 15 3]
def B98 : VC :=
  (.seq (.region r98_0) (.block 0 (.loop (.seq (.region r98_1) (.seq (.cond (.tmp 8) .skip (.exit 0)) (.seq (.block 1 (.seq (.region r98_2) (.seq (.region r98_3) (.cond (.tmp 14) .ret .skip)))) (.region r98_4)))))))
theorem code98 : ∃ c, Try.f98.body = some c ∧ abs Try.f98.ntmps c = B98 := ⟨_, rfl, by kernel_rfl⟩
theorem hb98 : HasBody Try.prog 98 := hasBody_of Try.func98 (by kernel_rfl)
theorem res98 : Try.f98.results = #[] := rfl
theorem enter98 {w : World} {R : Value → World → Prop} (x0 x1 : Value) (h : vc Try.prog B98 (retK Try.prog #[] R) [] (initEnv [x0, x1] 0) w) : FnC Try.prog 98 #[x0, x1] w R := by
  obtain ⟨c, h1, h2⟩ := code98
  exact hb98.fn (ret_of_vc mixed Try.func98 h1 (Nat.le_of_ble_eq_true rfl) B98 h2 h)
@[push_cast] theorem vr98_0 : VR r98_0 [⟨some 5, .load 25 (.tmp 1), 25, none⟩, ⟨some 6, .call ⟨.builtin .len, #[.tmp 5], #[25]⟩, 3, none⟩, ⟨some 7, .move (.const (.int .i64 0)), 3, none⟩] := vR rfl
@[push_cast] theorem vr98_1 : VR r98_1 [⟨some 8, .binOp .lss 3 (.tmp 7) (.tmp 6) 3, 0, none⟩] := vR rfl
@[push_cast] theorem vr98_2 : VR r98_2 [⟨some 9, .indexAddr 25 (.tmp 5) (.tmp 7), 0, none⟩, ⟨some 10, .load 35 (.tmp 9), 35, none⟩, ⟨some 4, .alloc 35, 0, none⟩, ⟨none, .store 35 (.tmp 4) (.tmp 10), 0, none⟩] := vR rfl
@[push_cast] theorem vr98_3 : VR r98_3 [⟨some 11, .move (.tmp 0), 98, none⟩, ⟨some 12, .load 35 (.tmp 4), 35, none⟩, ⟨some 13, .call ⟨.value (.tmp 11), #[.tmp 12], #[35]⟩, 4, none⟩, ⟨some 14, .unOp .not 4 (.tmp 13), 4, none⟩] := vR rfl
@[push_cast] theorem vr98_4 : VR r98_4 [⟨some 15, .binOp .add 3 (.tmp 7) (.const (.int .i64 1)) 3, 3, none⟩, ⟨some 7, .move (.tmp 15), 3, none⟩] := vR rfl
/-! 99 slices.Clone[[]columbary/api.Agg,columbary/api.Agg] (params #[33], results #[(.tmp 2)], 8 slots) -/
def r99_0 : List VOp :=
  [⟨some 2, .assign (.const (.slice none 0 0)), 33, none⟩]
def r99_1 : List VOp :=
  [mv 3 0 33,
   ⟨some 4, .binOp .eql 33 (.tmp 3) (.const (.slice none 0 0)) 33, 4, none⟩]
def r99_2 : List VOp :=
  [⟨some 2, .assign (.const (.slice none 0 0)), 33, none⟩]
def r99_3 : List VOp :=
  [⟨some 5, .buildSlice 33 0 #[], 33, none⟩,
   mv 6 0 33,
   ⟨some 7, .call ⟨.builtin .append, #[.tmp 5, .tmp 6], #[33, 33]⟩, 33, none⟩,
   asg 2 7 33]
def B99 : VC :=
  (.seq (.region r99_0) (.seq (.seq (.region r99_1) (.cond (.tmp 4) (.seq (.region r99_2) .ret) .skip)) (.seq (.region r99_3) .ret)))
theorem code99 : ∃ c, Try.f99.body = some c ∧ abs Try.f99.ntmps c = B99 := ⟨_, rfl, by kernel_rfl⟩
theorem hb99 : HasBody Try.prog 99 := hasBody_of Try.func99 (by kernel_rfl)
theorem res99 : Try.f99.results = #[(.tmp 2)] := rfl
theorem enter99 {w : World} {R : Value → World → Prop} (x0 : Value) (h : vc Try.prog B99 (retK Try.prog #[(.tmp 2)] R) [] (initEnv [x0] 0) w) : FnC Try.prog 99 #[x0] w R := by
  obtain ⟨c, h1, h2⟩ := code99
  exact hb99.fn (ret_of_vc mixed Try.func99 h1 (Nat.le_of_ble_eq_true rfl) B99 h2 h)
@[push_cast] theorem vr99_0 : VR r99_0 [⟨some 2, .assign (.const (.slice none 0 0)), 33, none⟩] := vR rfl
@[push_cast] theorem vr99_1 : VR r99_1 [⟨some 3, .move (.tmp 0), 33, none⟩, ⟨some 4, .binOp .eql 33 (.tmp 3) (.const (.slice none 0 0)) 33, 4, none⟩] := vR rfl
@[push_cast] theorem vr99_2 : VR r99_2 [⟨some 2, .assign (.const (.slice none 0 0)), 33, none⟩] := vR rfl
@[push_cast] theorem vr99_3 : VR r99_3 [⟨some 5, .buildSlice 33 0 #[], 33, none⟩, ⟨some 6, .move (.tmp 0), 33, none⟩, ⟨some 7, .call ⟨.builtin .append, #[.tmp 5, .tmp 6], #[33, 33]⟩, 33, none⟩, ⟨some 2, .assign (.tmp 7), 33, none⟩] := vR rfl
/-! 100 slices.stableCmpFunc[columbary/api.Row] (params #[25, 3, 58], results #[], 63 slots) -/
def W100_0 : List Nat := [7, 8, 11, 12, 13, 14, 15, 16, 17, 18, 19, 20, 21, 22]
@[push_cast] theorem W100_0_def : W100_0 = [7, 8, 11, 12, 13, 14, 15, 16, 17, 18, 19, 20, 21, 22] := mk_eq rfl
def W100_1 : List Nat := [6, 7, 8, 9, 28, 29, 30, 31, 32, 33, 34, 35, 36, 37, 38, 39, 40, 41, 42, 43, 44, 45, 46, 47, 48, 49, 50, 51, 52, 53, 54, 55, 56, 57, 58, 59, 60, 61, 62]
@[push_cast] theorem W100_1_def : W100_1 = [6, 7, 8, 9, 28, 29, 30, 31, 32, 33, 34, 35, 36, 37, 38, 39, 40, 41, 42, 43, 44, 45, 46, 47, 48, 49, 50, 51, 52, 53, 54, 55, 56, 57, 58, 59, 60, 61, 62] := mk_eq rfl
def W100_2 : List Nat := [7, 8, 33, 34, 35, 36, 37, 38, 39, 40, 41, 42, 43, 44, 45, 46, 47, 48]
@[push_cast] theorem W100_2_def : W100_2 = [7, 8, 33, 34, 35, 36, 37, 38, 39, 40, 41, 42, 43, 44, 45, 46, 47, 48] := mk_eq rfl
def r100_0 : List VOp :=
  [⟨some 6, .assign (.const (.int .i64 20)), 3, none⟩]
def r100_1 : List VOp :=
  [mv 10 6 3,
   ⟨some 7, .assign (.const (.int .i64 0)), 3, none⟩,
   asg 8 10 3]
def r100_2 : List VOp :=
  [mv 11 8 3,
   mv 12 1 3,
   ⟨some 13, .binOp .leq 3 (.tmp 11) (.tmp 12) 3, 4, none⟩]
def r100_3 : List VOp :=
  [mv 14 0 25,
   mv 15 7 3,
   mv 16 8 3,
   mv 17 2 58,
   ⟨some 18, .call ⟨.value (.func 109), #[.tmp 14, .tmp 15, .tmp 16, .tmp 17], #[25, 3, 3, 58]⟩, 0, none⟩]
def r100_4 : List VOp :=
  [mv 19 8 3,
   asg 7 19 3]
def r100_5 : List VOp :=
  [mv 20 8 3,
   mv 21 6 3,
   ⟨some 22, .binOp .add 3 (.tmp 20) (.tmp 21) 3, 3, none⟩,
   asg 8 22 3]
def r100_6 : List VOp :=
  [mv 23 0 25,
   mv 24 7 3,
   mv 25 1 3,
   mv 26 2 58,
   ⟨some 27, .call ⟨.value (.func 109), #[.tmp 23, .tmp 24, .tmp 25, .tmp 26], #[25, 3, 3, 58]⟩, 0, none⟩]
def r100_7 : List VOp :=
  [mv 28 6 3,
   mv 29 1 3,
   ⟨some 30, .binOp .lss 3 (.tmp 28) (.tmp 29) 3, 4, none⟩]
def r100_8 : List VOp :=
  [mv 31 6 3,
   ⟨some 32, .binOp .mul 3 (.const (.int .i64 2)) (.tmp 31) 3, 3, none⟩,
   ⟨some 7, .assign (.const (.int .i64 0)), 3, none⟩,
   asg 8 32 3]
def r100_9 : List VOp :=
  [mv 33 8 3,
   mv 34 1 3,
   ⟨some 35, .binOp .leq 3 (.tmp 33) (.tmp 34) 3, 4, none⟩]
def r100_10 : List VOp :=
  [mv 36 0 25,
   mv 37 7 3,
   mv 38 7 3,
   mv 39 6 3,
   ⟨some 40, .binOp .add 3 (.tmp 38) (.tmp 39) 3, 3, none⟩,
   mv 41 8 3,
   mv 42 2 58,
   ⟨some 43, .call ⟨.value (.func 110), #[.tmp 36, .tmp 37, .tmp 40, .tmp 41, .tmp 42], #[25, 3, 3, 3, 58]⟩, 0, none⟩]
def r100_11 : List VOp :=
  [mv 44 8 3,
   asg 7 44 3]
def r100_12 : List VOp :=
  [mv 45 8 3,
   mv 46 6 3,
   ⟨some 47, .binOp .mul 3 (.const (.int .i64 2)) (.tmp 46) 3, 3, none⟩,
   ⟨some 48, .binOp .add 3 (.tmp 45) (.tmp 47) 3, 3, none⟩,
   asg 8 48 3]
def r100_13 : List VOp :=
  [mv 49 7 3,
   mv 50 6 3,
   ⟨some 51, .binOp .add 3 (.tmp 49) (.tmp 50) 3, 3, none⟩,
   asg 9 51 3]
def r100_14 : List VOp :=
  [mv 52 9 3,
   mv 53 1 3,
   ⟨some 54, .binOp .lss 3 (.tmp 52) (.tmp 53) 3, 4, none⟩]
def r100_15 : List VOp :=
  [mv 55 0 25,
   mv 56 7 3,
   mv 57 9 3,
   mv 58 1 3,
   mv 59 2 58,
   ⟨some 60, .call ⟨.value (.func 110), #[.tmp 55, .tmp 56, .tmp 57, .tmp 58, .tmp 59], #[25, 3, 3, 3, 58]⟩, 0, none⟩]
def r100_16 : List VOp :=
  [mv 61 6 3,
   ⟨some 62, .binOp .mul 3 (.tmp 61) (.const (.int .i64 2)) 3, 3, none⟩,
   asg 6 62 3]
def B100 : VC :=
  (.seq (.region r100_0) (.seq (.region r100_1) (.seq (.block 0 (.loop (.seq (.seq (.region r100_2) (.cond (.tmp 13) .skip (.exit 0))) (.block 1 (.seq (.region r100_3) (.seq (.region r100_4) (.region r100_5))))))) (.seq (.region r100_6) (.block 2 (.loop (.seq (.seq (.region r100_7) (.cond (.tmp 30) .skip (.exit 2))) (.block 3 (.seq (.region r100_8) (.seq (.block 4 (.loop (.seq (.seq (.region r100_9) (.cond (.tmp 35) .skip (.exit 4))) (.block 5 (.seq (.region r100_10) (.seq (.region r100_11) (.region r100_12))))))) (.seq (.seq (.region r100_13) (.seq (.region r100_14) (.cond (.tmp 54) (.region r100_15) .skip))) (.region r100_16))))))))))))
theorem code100 : ∃ c, Try.f100.body = some c ∧ abs Try.f100.ntmps c = B100 := ⟨_, rfl, by kernel_rfl⟩
theorem hb100 : HasBody Try.prog 100 := hasBody_of Try.func100 (by kernel_rfl)
theorem res100 : Try.f100.results = #[] := rfl
theorem enter100 {w : World} {R : Value → World → Prop} (x0 x1 x2 : Value) (h : vc Try.prog B100 (retK Try.prog #[] R) [] (initEnv [x0, x1, x2] 0) w) : FnC Try.prog 100 #[x0, x1, x2] w R := by
  obtain ⟨c, h1, h2⟩ := code100
  exact hb100.fn (ret_of_vc mixed Try.func100 h1 (Nat.le_of_ble_eq_true rfl) B100 h2 h)
@[push_cast] theorem vr100_0 : VR r100_0 [⟨some 6, .assign (.const (.int .i64 20)), 3, none⟩] := vR rfl
@[push_cast] theorem vr100_1 : VR r100_1 [⟨some 10, .move (.tmp 6), 3, none⟩, ⟨some 7, .assign (.const (.int .i64 0)), 3, none⟩, ⟨some 8, .assign (.tmp 10), 3, none⟩] := vR rfl
@[push_cast] theorem vr100_2 : VR r100_2 [⟨some 11, .move (.tmp 8), 3, none⟩, ⟨some 12, .move (.tmp 1), 3, none⟩, ⟨some 13, .binOp .leq 3 (.tmp 11) (.tmp 12) 3, 4, none⟩] := vR rfl
@[push_cast] theorem vr100_3 : VR r100_3 [⟨some 14, .move (.tmp 0), 25, none⟩, ⟨some 15, .move (.tmp 7), 3, none⟩, ⟨some 16, .move (.tmp 8), 3, none⟩, ⟨some 17, .move (.tmp 2), 58, none⟩, ⟨some 18, .call ⟨.value (.func 109), #[.tmp 14, .tmp 15, .tmp 16, .tmp 17], #[25, 3, 3, 58]⟩, 0, none⟩] := vR rfl
@[push_cast] theorem vr100_4 : VR r100_4 [⟨some 19, .move (.tmp 8), 3, none⟩, ⟨some 7, .assign (.tmp 19), 3, none⟩] := vR rfl
@[push_cast] theorem vr100_5 : VR r100_5 [⟨some 20, .move (.tmp 8), 3, none⟩, ⟨some 21, .move (.tmp 6), 3, none⟩, ⟨some 22, .binOp .add 3 (.tmp 20) (.tmp 21) 3, 3, none⟩, ⟨some 8, .assign (.tmp 22), 3, none⟩] := vR rfl
@[push_cast] theorem vr100_6 : VR r100_6 [⟨some 23, .move (.tmp 0), 25, none⟩, ⟨some 24, .move (.tmp 7), 3, none⟩, ⟨some 25, .move (.tmp 1), 3, none⟩, ⟨some 26, .move (.tmp 2), 58, none⟩, ⟨some 27, .call ⟨.value (.func 109), #[.tmp 23, .tmp 24, .tmp 25, .tmp 26], #[25, 3, 3, 58]⟩, 0, none⟩] := vR rfl
@[push_cast] theorem vr100_7 : VR r100_7 [⟨some 28, .move (.tmp 6), 3, none⟩, ⟨some 29, .move (.tmp 1), 3, none⟩, ⟨some 30, .binOp .lss 3 (.tmp 28) (.tmp 29) 3, 4, none⟩] := vR rfl
@[push_cast] theorem vr100_8 : VR r100_8 [⟨some 31, .move (.tmp 6), 3, none⟩, ⟨some 32, .binOp .mul 3 (.const (.int .i64 2)) (.tmp 31) 3, 3, none⟩, ⟨some 7, .assign (.const (.int .i64 0)), 3, none⟩, ⟨some 8, .assign (.tmp 32), 3, none⟩] := vR rfl
@[push_cast] theorem vr100_9 : VR r100_9 [⟨some 33, .move (.tmp 8), 3, none⟩, ⟨some 34, .move (.tmp 1), 3, none⟩, ⟨some 35, .binOp .leq 3 (.tmp 33) (.tmp 34) 3, 4, none⟩] := vR rfl
@[push_cast] theorem vr100_10 : VR r100_10 [⟨some 36, .move (.tmp 0), 25, none⟩, ⟨some 37, .move (.tmp 7), 3, none⟩, ⟨some 38, .move (.tmp 7), 3, none⟩, ⟨some 39, .move (.tmp 6), 3, none⟩, ⟨some 40, .binOp .add 3 (.tmp 38) (.tmp 39) 3, 3, none⟩, ⟨some 41, .move (.tmp 8), 3, none⟩, ⟨some 42, .move (.tmp 2), 58, none⟩, ⟨some 43, .call ⟨.value (.func 110), #[.tmp 36, .tmp 37, .tmp 40, .tmp 41, .tmp 42], #[25, 3, 3, 3, 58]⟩, 0, none⟩] := vR rfl
@[push_cast] theorem vr100_11 : VR r100_11 [⟨some 44, .move (.tmp 8), 3, none⟩, ⟨some 7, .assign (.tmp 44), 3, none⟩] := vR rfl
@[push_cast] theorem vr100_12 : VR r100_12 [⟨some 45, .move (.tmp 8), 3, none⟩, ⟨some 46, .move (.tmp 6), 3, none⟩, ⟨some 47, .binOp .mul 3 (.const (.int .i64 2)) (.tmp 46) 3, 3, none⟩, ⟨some 48, .binOp .add 3 (.tmp 45) (.tmp 47) 3, 3, none⟩, ⟨some 8, .assign (.tmp 48), 3, none⟩] := vR rfl
@[push_cast] theorem vr100_13 : VR r100_13 [⟨some 49, .move (.tmp 7), 3, none⟩, ⟨some 50, .move (.tmp 6), 3, none⟩, ⟨some 51, .binOp .add 3 (.tmp 49) (.tmp 50) 3, 3, none⟩, ⟨some 9, .assign (.tmp 51), 3, none⟩] := vR rfl
@[push_cast] theorem vr100_14 : VR r100_14 [⟨some 52, .move (.tmp 9), 3, none⟩, ⟨some 53, .move (.tmp 1), 3, none⟩, ⟨some 54, .binOp .lss 3 (.tmp 52) (.tmp 53) 3, 4, none⟩] := vR rfl
@[push_cast] theorem vr100_15 : VR r100_15 [⟨some 55, .move (.tmp 0), 25, none⟩, ⟨some 56, .move (.tmp 7), 3, none⟩, ⟨some 57, .move (.tmp 9), 3, none⟩, ⟨some 58, .move (.tmp 1), 3, none⟩, ⟨some 59, .move (.tmp 2), 58, none⟩, ⟨some 60, .call ⟨.value (.func 110), #[.tmp 55, .tmp 56, .tmp 57, .tmp 58, .tmp 59], #[25, 3, 3, 3, 58]⟩, 0, none⟩] := vR rfl
@[push_cast] theorem vr100_16 : VR r100_16 [⟨some 61, .move (.tmp 6), 3, none⟩, ⟨some 62, .binOp .mul 3 (.tmp 61) (.const (.int .i64 2)) 3, 3, none⟩, ⟨some 6, .assign (.tmp 62), 3, none⟩] := vR rfl
/-! 101 cmp.isNaN[int] (params #[3], results #[(.tmp 2)], 6 slots) -/
def r101_0 : List VOp :=
  [⟨some 2, .assign (.const (.bool false)), 4, none⟩]
def r101_1 : List VOp :=
  [mv 3 0 3,
   mv 4 0 3,
   ⟨some 5, .binOp .neq 3 (.tmp 3) (.tmp 4) 3, 4, none⟩,
   asg 2 5 4]
def B101 : VC :=
  (.seq (.region r101_0) (.seq (.region r101_1) .ret))
theorem code101 : ∃ c, Try.f101.body = some c ∧ abs Try.f101.ntmps c = B101 := ⟨_, rfl, by kernel_rfl⟩
theorem hb101 : HasBody Try.prog 101 := hasBody_of Try.func101 (by kernel_rfl)
theorem res101 : Try.f101.results = #[(.tmp 2)] := rfl
theorem enter101 {w : World} {R : Value → World → Prop} (x0 : Value) (h : vc Try.prog B101 (retK Try.prog #[(.tmp 2)] R) [] (initEnv [x0] 0) w) : FnC Try.prog 101 #[x0] w R := by
  obtain ⟨c, h1, h2⟩ := code101
  exact hb101.fn (ret_of_vc mixed Try.func101 h1 (Nat.le_of_ble_eq_true rfl) B101 h2 h)
@[push_cast] theorem vr101_0 : VR r101_0 [⟨some 2, .assign (.const (.bool false)), 4, none⟩] := vR rfl
@[push_cast] theorem vr101_1 : VR r101_1 [⟨some 3, .move (.tmp 0), 3, none⟩, ⟨some 4, .move (.tmp 0), 3, none⟩, ⟨some 5, .binOp .neq 3 (.tmp 3) (.tmp 4) 3, 4, none⟩, ⟨some 2, .assign (.tmp 5), 4, none⟩] := vR rfl
/-! 102 cmp.Compare[string] (params #[9, 9], results #[(.tmp 4)], 20 slots) -/
def r102_0 : List VOp :=
  [⟨some 4, .assign (.const (.int .i64 0)), 3, none⟩]
def r102_1 : List VOp :=
  [mv 7 0 9,
   ⟨some 8, .call ⟨.value (.func 111), #[.tmp 7], #[9]⟩, 4, none⟩,
   asg 5 8 4]
def r102_2 : List VOp :=
  [mv 9 1 9,
   ⟨some 10, .call ⟨.value (.func 111), #[.tmp 9], #[9]⟩, 4, none⟩,
   asg 6 10 4]
def r102_3 : List VOp :=
  [mv 11 5 4]
def r102_4 : List VOp :=
  [mv 12 6 4]
def r102_5 : List VOp :=
  [⟨some 4, .assign (.const (.int .i64 0)), 3, none⟩]
def r102_6 : List VOp :=
  [⟨some 4, .assign (.const (.int .i64 (-1))), 3, none⟩]
def r102_7 : List VOp :=
  [mv 13 6 4]
def r102_8 : List VOp :=
  [⟨some 4, .assign (.const (.int .i64 1)), 3, none⟩]
def r102_9 : List VOp :=
  [mv 14 0 9,
   mv 15 1 9,
   ⟨some 16, .binOp .lss 9 (.tmp 14) (.tmp 15) 9, 4, none⟩]
def r102_10 : List VOp :=
  [⟨some 4, .assign (.const (.int .i64 (-1))), 3, none⟩]
def r102_11 : List VOp :=
  [mv 17 0 9,
   mv 18 1 9,
   ⟨some 19, .binOp .gtr 9 (.tmp 17) (.tmp 18) 9, 4, none⟩]
def r102_12 : List VOp :=
  [⟨some 4, .assign (.const (.int .i64 1)), 3, none⟩]
def r102_13 : List VOp :=
  [⟨some 4, .assign (.const (.int .i64 0)), 3, none⟩]
def B102 : VC :=
  (.seq (.region r102_0) (.seq (.region r102_1) (.seq (.region r102_2) (.seq (.seq (.region r102_3) (.cond (.tmp 11) (.seq (.seq (.region r102_4) (.cond (.tmp 12) (.seq (.region r102_5) .ret) .skip)) (.seq (.region r102_6) .ret)) .skip)) (.seq (.seq (.region r102_7) (.cond (.tmp 13) (.seq (.region r102_8) .ret) .skip)) (.seq (.seq (.region r102_9) (.cond (.tmp 16) (.seq (.region r102_10) .ret) .skip)) (.seq (.seq (.region r102_11) (.cond (.tmp 19) (.seq (.region r102_12) .ret) .skip)) (.seq (.region r102_13) .ret))))))))
theorem code102 : ∃ c, Try.f102.body = some c ∧ abs Try.f102.ntmps c = B102 := ⟨_, rfl, by kernel_rfl⟩
theorem hb102 : HasBody Try.prog 102 := hasBody_of Try.func102 (by kernel_rfl)
theorem res102 : Try.f102.results = #[(.tmp 4)] := rfl
theorem enter102 {w : World} {R : Value → World → Prop} (x0 x1 : Value) (h : vc Try.prog B102 (retK Try.prog #[(.tmp 4)] R) [] (initEnv [x0, x1] 0) w) : FnC Try.prog 102 #[x0, x1] w R := by
  obtain ⟨c, h1, h2⟩ := code102
  exact hb102.fn (ret_of_vc mixed Try.func102 h1 (Nat.le_of_ble_eq_true rfl) B102 h2 h)
@[push_cast] theorem vr102_0 : VR r102_0 [⟨some 4, .assign (.const (.int .i64 0)), 3, none⟩] := vR rfl
@[push_cast] theorem vr102_1 : VR r102_1 [⟨some 7, .move (.tmp 0), 9, none⟩, ⟨some 8, .call ⟨.value (.func 111), #[.tmp 7], #[9]⟩, 4, none⟩, ⟨some 5, .assign (.tmp 8), 4, none⟩] := vR rfl
@[push_cast] theorem vr102_2 : VR r102_2 [⟨some 9, .move (.tmp 1), 9, none⟩, ⟨some 10, .call ⟨.value (.func 111), #[.tmp 9], #[9]⟩, 4, none⟩, ⟨some 6, .assign (.tmp 10), 4, none⟩] := vR rfl
@[push_cast] theorem vr102_3 : VR r102_3 [⟨some 11, .move (.tmp 5), 4, none⟩] := vR rfl
@[push_cast] theorem vr102_4 : VR r102_4 [⟨some 12, .move (.tmp 6), 4, none⟩] := vR rfl
@[push_cast] theorem vr102_5 : VR r102_5 [⟨some 4, .assign (.const (.int .i64 0)), 3, none⟩] := vR rfl
@[push_cast] theorem vr102_6 : VR r102_6 [⟨some 4, .assign (.const (.int .i64 (-1))), 3, none⟩] := vR rfl
@[push_cast] theorem vr102_7 : VR r102_7 [⟨some 13, .move (.tmp 6), 4, none⟩] := vR rfl
@[push_cast] theorem vr102_8 : VR r102_8 [⟨some 4, .assign (.const (.int .i64 1)), 3, none⟩] := vR rfl
@[push_cast] theorem vr102_9 : VR r102_9 [⟨some 14, .move (.tmp 0), 9, none⟩, ⟨some 15, .move (.tmp 1), 9, none⟩, ⟨some 16, .binOp .lss 9 (.tmp 14) (.tmp 15) 9, 4, none⟩] := vR rfl
@[push_cast] theorem vr102_10 : VR r102_10 [⟨some 4, .assign (.const (.int .i64 (-1))), 3, none⟩] := vR rfl
@[push_cast] theorem vr102_11 : VR r102_11 [⟨some 17, .move (.tmp 0), 9, none⟩, ⟨some 18, .move (.tmp 1), 9, none⟩, ⟨some 19, .binOp .gtr 9 (.tmp 17) (.tmp 18) 9, 4, none⟩] := vR rfl
@[push_cast] theorem vr102_12 : VR r102_12 [⟨some 4, .assign (.const (.int .i64 1)), 3, none⟩] := vR rfl
@[push_cast] theorem vr102_13 : VR r102_13 [⟨some 4, .assign (.const (.int .i64 0)), 3, none⟩] := vR rfl
/-! 103 columbary/columbaryref10.words (params #[], results #[(.tmp 0)], 2 slots) -/
def r103_0 : List VOp :=
  [⟨some 0, .assign (.const (.slice none 0 0)), 22, none⟩]
def r103_1 : List VOp :=
  [⟨some 1, .buildSlice 22 20 #[(0, (.const (.string { data := #[99, 111, 117, 110, 116] }))), (1, (.const (.string { data := #[115, 117, 109] }))), (2, (.const (.string { data := #[109, 105, 110] }))), (3, (.const (.string { data := #[109, 97, 120] }))), (4, (.const (.string { data := #[102, 114, 111, 109] }))), (5, (.const (.string { data := #[116, 111] }))), (6, (.const (.string { data := #[98, 121] }))), (7, (.const (.string { data := #[101, 118, 101, 114, 121] }))), (8, (.const (.string { data := #[119, 104, 101, 114, 101] }))), (9, (.const (.string { data := #[104, 97, 118, 105, 110, 103] }))), (10, (.const (.string { data := #[111, 114, 100, 101, 114] }))), (11, (.const (.string { data := #[108, 105, 109, 105, 116] }))), (12, (.const (.string { data := #[97, 110, 100] }))), (13, (.const (.string { data := #[111, 114] }))), (14, (.const (.string { data := #[110, 111, 116] }))), (15, (.const (.string { data := #[105, 115] }))), (16, (.const (.string { data := #[110, 117, 108, 108] }))), (17, (.const (.string { data := #[97, 115, 99] }))), (18, (.const (.string { data := #[100, 101, 115, 99] }))), (19, (.const (.string { data := #[115, 101, 108, 101, 99, 116] })))], 22, none⟩,
   asg 0 1 22]
def B103 : VC :=
  (.seq (.region r103_0) (.seq (.region r103_1) .ret))
theorem code103 : ∃ c, Try.f103.body = some c ∧ abs Try.f103.ntmps c = B103 := ⟨_, rfl, by kernel_rfl⟩
theorem hb103 : HasBody Try.prog 103 := hasBody_of Try.func103 (by kernel_rfl)
theorem res103 : Try.f103.results = #[(.tmp 0)] := rfl
theorem enter103 {w : World} {R : Value → World → Prop} (h : vc Try.prog B103 (retK Try.prog #[(.tmp 0)] R) [] (initEnv [] 0) w) : FnC Try.prog 103 #[] w R := by
  obtain ⟨c, h1, h2⟩ := code103
  exact hb103.fn (ret_of_vc mixed Try.func103 h1 (Nat.le_of_ble_eq_true rfl) B103 h2 h)
@[push_cast] theorem vr103_0 : VR r103_0 [⟨some 0, .assign (.const (.slice none 0 0)), 22, none⟩] := vR rfl
@[push_cast] theorem vr103_1 : VR r103_1 [⟨some 1, .buildSlice 22 20 #[(0, (.const (.string { data := #[99, 111, 117, 110, 116] }))), (1, (.const (.string { data := #[115, 117, 109] }))), (2, (.const (.string { data := #[109, 105, 110] }))), (3, (.const (.string { data := #[109, 97, 120] }))), (4, (.const (.string { data := #[102, 114, 111, 109] }))), (5, (.const (.string { data := #[116, 111] }))), (6, (.const (.string { data := #[98, 121] }))), (7, (.const (.string { data := #[101, 118, 101, 114, 121] }))), (8, (.const (.string { data := #[119, 104, 101, 114, 101] }))), (9, (.const (.string { data := #[104, 97, 118, 105, 110, 103] }))), (10, (.const (.string { data := #[111, 114, 100, 101, 114] }))), (11, (.const (.string { data := #[108, 105, 109, 105, 116] }))), (12, (.const (.string { data := #[97, 110, 100] }))), (13, (.const (.string { data := #[111, 114] }))), (14, (.const (.string { data := #[110, 111, 116] }))), (15, (.const (.string { data := #[105, 115] }))), (16, (.const (.string { data := #[110, 117, 108, 108] }))), (17, (.const (.string { data := #[97, 115, 99] }))), (18, (.const (.string { data := #[100, 101, 115, 99] }))), (19, (.const (.string { data := #[115, 101, 108, 101, 99, 116] })))], 22, none⟩, ⟨some 0, .assign (.tmp 1), 22, none⟩] := vR rfl
/-! 109 slices.insertionSortCmpFunc[columbary/api.Row] (params #[25, 3, 3, 58], results #[], 53 slots) -/
def W109_0 : List Nat := [8, 9, 12, 13, 14, 15, 16, 17, 18, 19, 20, 21, 22, 23, 24, 25, 26, 27, 28, 29, 30, 31, 32, 33, 34, 35, 36, 37, 38, 39, 40, 41, 42, 43, 44, 45, 46, 47, 48, 49, 50, 51, 52]
@[push_cast] theorem W109_0_def : W109_0 = [8, 9, 12, 13, 14, 15, 16, 17, 18, 19, 20, 21, 22, 23, 24, 25, 26, 27, 28, 29, 30, 31, 32, 33, 34, 35, 36, 37, 38, 39, 40, 41, 42, 43, 44, 45, 46, 47, 48, 49, 50, 51, 52] := mk_eq rfl
def W109_1 : List Nat := [9, 18, 19, 20, 21, 22, 23, 24, 25, 26, 27, 28, 29, 30, 31, 32, 33, 34, 35, 36, 37, 38, 39, 40, 41, 42, 43, 44, 45, 46, 47, 48, 49, 50, 51, 52]
@[push_cast] theorem W109_1_def : W109_1 = [9, 18, 19, 20, 21, 22, 23, 24, 25, 26, 27, 28, 29, 30, 31, 32, 33, 34, 35, 36, 37, 38, 39, 40, 41, 42, 43, 44, 45, 46, 47, 48, 49, 50, 51, 52] := mk_eq rfl
def r109_0 : List VOp :=
  [mv 10 1 3,
   ⟨some 11, .binOp .add 3 (.tmp 10) (.const (.int .i64 1)) 3, 3, none⟩,
   asg 8 11 3]
def r109_1 : List VOp :=
  [mv 12 8 3,
   mv 13 2 3,
   ⟨some 14, .binOp .lss 3 (.tmp 12) (.tmp 13) 3, 4, none⟩]
def r109_3 : List VOp :=
  [mv 17 8 3,
   asg 9 17 3]
def r109_4 : List VOp :=
  [mv 18 9 3,
   mv 19 1 3,
   ⟨some 20, .binOp .gtr 3 (.tmp 18) (.tmp 19) 3, 4, none⟩,
   mv 21 20 4,
   ⟨some 22, .move (.tmp 3), 58, some (21, true)⟩,
   ⟨some 23, .move (.tmp 0), 25, some (21, true)⟩,
   ⟨some 24, .move (.tmp 9), 3, some (21, true)⟩,
   ⟨some 25, .indexAddr 25 (.tmp 23) (.tmp 24), 0, some (21, true)⟩,
   ⟨some 26, .load 35 (.tmp 25), 35, some (21, true)⟩,
   ⟨some 27, .move (.tmp 0), 25, some (21, true)⟩,
   ⟨some 28, .move (.tmp 9), 3, some (21, true)⟩,
   ⟨some 29, .binOp .sub 3 (.tmp 28) (.const (.int .i64 1)) 3, 3, some (21, true)⟩,
   ⟨some 30, .indexAddr 25 (.tmp 27) (.tmp 29), 0, some (21, true)⟩,
   ⟨some 31, .load 35 (.tmp 30), 35, some (21, true)⟩,
   ⟨some 32, .call ⟨.value (.tmp 22), #[.tmp 26, .tmp 31], #[35, 35]⟩, 3, some (21, true)⟩,
   ⟨some 33, .binOp .lss 3 (.tmp 32) (.const (.int .i64 0)) 3, 4, some (21, true)⟩,
   ⟨some 34, .pick (.tmp 21) (.tmp 33) (.const (.bool false)), 4, none⟩]
def r109_6 : List VOp :=
  [mv 37 0 25,
   mv 38 9 3,
   mv 39 0 25,
   mv 40 9 3,
   ⟨some 41, .binOp .sub 3 (.tmp 40) (.const (.int .i64 1)) 3, 3, none⟩,
   mv 42 0 25,
   mv 43 9 3,
   ⟨some 44, .binOp .sub 3 (.tmp 43) (.const (.int .i64 1)) 3, 3, none⟩,
   iad 45 25 42 44,
   lda 46 35 45,
   mv 47 0 25,
   mv 48 9 3,
   iad 49 25 47 48,
   lda 50 35 49,
   iad 51 25 37 38,
   ⟨none, .store 35 (.tmp 51) (.tmp 46), 0, none⟩,
   iad 52 25 39 41,
   ⟨none, .store 35 (.tmp 52) (.tmp 50), 0, none⟩]
def r109_5 : List VOp :=
  [mv 35 9 3,
   ⟨some 36, .binOp .sub 3 (.tmp 35) (.const (.int .i64 1)) 3, 3, none⟩,
   asg 9 36 3]
def r109_2 : List VOp :=
  [mv 15 8 3,
   ⟨some 16, .binOp .add 3 (.tmp 15) (.const (.int .i64 1)) 3, 3, none⟩,
   asg 8 16 3]
def B109 : VC :=
  (.seq (.region r109_0) (.block 0 (.loop (.seq (.seq (.region r109_1) (.cond (.tmp 14) .skip (.exit 0))) (.seq (.block 1 (.seq (.region r109_3) (.block 2 (.loop (.seq (.seq (.draw r109_4 4) (.cond (.tmp 34) .skip (.exit 2))) (.seq (.block 3 (.drawS r109_6 3 [39, 40, 41])) (.region r109_5))))))) (.region r109_2))))))
theorem code109 : ∃ c, Try.f109.body = some c ∧ abs Try.f109.ntmps c = B109 := ⟨_, rfl, by kernel_rfl⟩
theorem hb109 : HasBody Try.prog 109 := hasBody_of Try.func109 (by kernel_rfl)
theorem res109 : Try.f109.results = #[] := rfl
theorem enter109 {w : World} {R : Value → World → Prop} (x0 x1 x2 x3 : Value) (h : vc Try.prog B109 (retK Try.prog #[] R) [] (initEnv [x0, x1, x2, x3] 0) w) : FnC Try.prog 109 #[x0, x1, x2, x3] w R := by
  obtain ⟨c, h1, h2⟩ := code109
  exact hb109.fn (ret_of_vc mixed Try.func109 h1 (Nat.le_of_ble_eq_true rfl) B109 h2 h)
@[push_cast] theorem vr109_0 : VR r109_0 [⟨some 10, .move (.tmp 1), 3, none⟩, ⟨some 11, .binOp .add 3 (.tmp 10) (.const (.int .i64 1)) 3, 3, none⟩, ⟨some 8, .assign (.tmp 11), 3, none⟩] := vR rfl
@[push_cast] theorem vr109_1 : VR r109_1 [⟨some 12, .move (.tmp 8), 3, none⟩, ⟨some 13, .move (.tmp 2), 3, none⟩, ⟨some 14, .binOp .lss 3 (.tmp 12) (.tmp 13) 3, 4, none⟩] := vR rfl
@[push_cast] theorem vr109_3 : VR r109_3 [⟨some 17, .move (.tmp 8), 3, none⟩, ⟨some 9, .assign (.tmp 17), 3, none⟩] := vR rfl
@[push_cast] theorem vr109_4 : vc Try.prog (.draw r109_4 4) Q ds σ w = drawn Try.prog [(⟨some 18, .move (.tmp 9), 3, none⟩, [9]), (⟨some 19, .move (.tmp 1), 3, none⟩, [1]), (⟨some 20, .binOp .gtr 3 (.tmp 18) (.tmp 19) 3, 4, none⟩, [18, 19]), (⟨some 21, .move (.tmp 20), 4, none⟩, [20]), (⟨some 22, .move (.tmp 3), 58, some (21, true)⟩, [3, 21]), (⟨some 23, .move (.tmp 0), 25, some (21, true)⟩, [0, 21]), (⟨some 24, .move (.tmp 9), 3, some (21, true)⟩, [9, 21]), (⟨some 25, .indexAddr 25 (.tmp 23) (.tmp 24), 0, some (21, true)⟩, [23, 24, 21]), (⟨some 26, .load 35 (.tmp 25), 35, some (21, true)⟩, [25, 21]), (⟨some 27, .move (.tmp 0), 25, some (21, true)⟩, [0, 21]), (⟨some 28, .move (.tmp 9), 3, some (21, true)⟩, [9, 21]), (⟨some 29, .binOp .sub 3 (.tmp 28) (.const (.int .i64 1)) 3, 3, some (21, true)⟩, [28, 21]), (⟨some 30, .indexAddr 25 (.tmp 27) (.tmp 29), 0, some (21, true)⟩, [27, 29, 21]), (⟨some 31, .load 35 (.tmp 30), 35, some (21, true)⟩, [30, 21]), (⟨some 32, .call ⟨.value (.tmp 22), #[.tmp 26, .tmp 31], #[35, 35]⟩, 3, some (21, true)⟩, [22, 26, 31, 21]), (⟨some 33, .binOp .lss 3 (.tmp 32) (.const (.int .i64 0)) 3, 4, some (21, true)⟩, [32, 21]), (⟨some 34, .pick (.tmp 21) (.tmp 33) (.const (.bool false)), 4, none⟩, [21, 33])] 4 (Q .normal ds) σ w := mk_eq rfl
@[push_cast] theorem vr109_6 : vc Try.prog (.drawS r109_6 3 [39, 40, 41]) Q ds σ w = drawnS Try.prog [(⟨some 37, .move (.tmp 0), 25, none⟩, [0]), (⟨some 38, .move (.tmp 9), 3, none⟩, [9]), (⟨some 39, .move (.tmp 0), 25, none⟩, [0]), (⟨some 40, .move (.tmp 9), 3, none⟩, [9]), (⟨some 41, .binOp .sub 3 (.tmp 40) (.const (.int .i64 1)) 3, 3, none⟩, [40]), (⟨some 42, .move (.tmp 0), 25, none⟩, [0]), (⟨some 43, .move (.tmp 9), 3, none⟩, [9]), (⟨some 44, .binOp .sub 3 (.tmp 43) (.const (.int .i64 1)) 3, 3, none⟩, [43]), (⟨some 45, .indexAddr 25 (.tmp 42) (.tmp 44), 0, none⟩, [42, 44]), (⟨some 46, .load 35 (.tmp 45), 35, none⟩, [45]), (⟨some 47, .move (.tmp 0), 25, none⟩, [0]), (⟨some 48, .move (.tmp 9), 3, none⟩, [9]), (⟨some 49, .indexAddr 25 (.tmp 47) (.tmp 48), 0, none⟩, [47, 48]), (⟨some 50, .load 35 (.tmp 49), 35, none⟩, [49]), (⟨some 51, .indexAddr 25 (.tmp 37) (.tmp 38), 0, none⟩, [37, 38]), (⟨none, .store 35 (.tmp 51) (.tmp 46), 0, none⟩, [51, 46]), (⟨some 52, .indexAddr 25 (.tmp 39) (.tmp 41), 0, none⟩, [39, 41]), (⟨none, .store 35 (.tmp 52) (.tmp 50), 0, none⟩, [52, 50])] 3 [39, 40, 41] (Q .normal ds) σ w := mk_eq rfl
@[push_cast] theorem vr109_5 : VR r109_5 [⟨some 35, .move (.tmp 9), 3, none⟩, ⟨some 36, .binOp .sub 3 (.tmp 35) (.const (.int .i64 1)) 3, 3, none⟩, ⟨some 9, .assign (.tmp 36), 3, none⟩] := vR rfl
@[push_cast] theorem vr109_2 : VR r109_2 [⟨some 15, .move (.tmp 8), 3, none⟩, ⟨some 16, .binOp .add 3 (.tmp 15) (.const (.int .i64 1)) 3, 3, none⟩, ⟨some 8, .assign (.tmp 16), 3, none⟩] := vR rfl
/-! 110 slices.symMergeCmpFunc[columbary/api.Row] (params #[25, 3, 3, 3, 58], results #[], 220 slots) -/
def W110_0 : List Nat := [10, 11, 12, 31, 32, 33, 34, 35, 36, 37, 38, 39, 40, 41, 42, 43, 44, 45, 46, 47, 48, 49, 50, 51, 52, 53]
@[push_cast] theorem W110_0_def : W110_0 = [10, 11, 12, 31, 32, 33, 34, 35, 36, 37, 38, 39, 40, 41, 42, 43, 44, 45, 46, 47, 48, 49, 50, 51, 52, 53] := mk_eq rfl
def W110_1 : List Nat := [13, 55, 56, 57, 58, 59, 60, 61, 62, 63, 64, 65, 66, 67, 68, 69, 70, 71, 72, 73, 74, 75, 76]
@[push_cast] theorem W110_1_def : W110_1 = [13, 55, 56, 57, 58, 59, 60, 61, 62, 63, 64, 65, 66, 67, 68, 69, 70, 71, 72, 73, 74, 75, 76] := mk_eq rfl
def W110_2 : List Nat := [14, 15, 16, 83, 84, 85, 86, 87, 88, 89, 90, 91, 92, 93, 94, 95, 96, 97, 98, 99, 100, 101, 102, 103, 104, 105, 106]
@[push_cast] theorem W110_2_def : W110_2 = [14, 15, 16, 83, 84, 85, 86, 87, 88, 89, 90, 91, 92, 93, 94, 95, 96, 97, 98, 99, 100, 101, 102, 103, 104, 105, 106] := mk_eq rfl
def W110_3 : List Nat := [17, 108, 109, 110, 111, 112, 113, 114, 115, 116, 117, 118, 119, 120, 121, 122, 123, 124, 125, 126, 127, 128]
@[push_cast] theorem W110_3_def : W110_3 = [17, 108, 109, 110, 111, 112, 113, 114, 115, 116, 117, 118, 119, 120, 121, 122, 123, 124, 125, 126, 127, 128] := mk_eq rfl
def W110_4 : List Nat := [20, 21, 23, 149, 150, 151, 152, 153, 154, 155, 156, 157, 158, 159, 160, 161, 162, 163, 164, 165, 166, 167, 168, 169, 170, 171, 172, 173, 174]
@[push_cast] theorem W110_4_def : W110_4 = [20, 21, 23, 149, 150, 151, 152, 153, 154, 155, 156, 157, 158, 159, 160, 161, 162, 163, 164, 165, 166, 167, 168, 169, 170, 171, 172, 173, 174] := mk_eq rfl
def r110_0 : List VOp :=
  [mv 25 2 3,
   mv 26 1 3,
   ⟨some 27, .binOp .sub 3 (.tmp 25) (.tmp 26) 3, 3, none⟩,
   ⟨some 28, .binOp .eql 3 (.tmp 27) (.const (.int .i64 1)) 3, 4, none⟩]
def r110_1 : List VOp :=
  [mv 29 2 3,
   asg 10 29 3]
def r110_2 : List VOp :=
  [mv 30 3 3,
   asg 11 30 3]
def r110_3 : List VOp :=
  [mv 31 10 3,
   mv 32 11 3,
   ⟨some 33, .binOp .lss 3 (.tmp 31) (.tmp 32) 3, 4, none⟩]
def r110_4 : List VOp :=
  [mv 34 10 3,
   mv 35 11 3,
   ⟨some 36, .binOp .add 3 (.tmp 34) (.tmp 35) 3, 3, none⟩,
   ⟨some 37, .convert 3 123 (.tmp 36), 123, none⟩,
   ⟨some 38, .binOp .shr 123 (.tmp 37) (.const (.int .u64 1)) 123, 123, none⟩,
   ⟨some 39, .convert 123 3 (.tmp 38), 3, none⟩,
   asg 12 39 3]
def r110_5 : List VOp :=
  [mv 40 4 58,
   mv 41 0 25,
   mv 42 12 3,
   iad 43 25 41 42,
   lda 44 35 43,
   mv 45 0 25,
   mv 46 1 3,
   iad 47 25 45 46,
   lda 48 35 47,
   ⟨some 49, .call ⟨.value (.tmp 40), #[.tmp 44, .tmp 48], #[35, 35]⟩, 3, none⟩,
   ⟨some 50, .binOp .lss 3 (.tmp 49) (.const (.int .i64 0)) 3, 4, none⟩]
def r110_6 : List VOp :=
  [mv 51 12 3,
   ⟨some 52, .binOp .add 3 (.tmp 51) (.const (.int .i64 1)) 3, 3, none⟩,
   asg 10 52 3]
def r110_7 : List VOp :=
  [mv 53 12 3,
   asg 11 53 3]
def r110_8 : List VOp :=
  [mv 54 1 3,
   asg 13 54 3]
def r110_9 : List VOp :=
  [mv 55 13 3,
   mv 56 10 3,
   ⟨some 57, .binOp .sub 3 (.tmp 56) (.const (.int .i64 1)) 3, 3, none⟩,
   ⟨some 58, .binOp .lss 3 (.tmp 55) (.tmp 57) 3, 4, none⟩]
def r110_11 : List VOp :=
  [mv 61 0 25,
   mv 62 13 3,
   mv 63 0 25,
   mv 64 13 3,
   ⟨some 65, .binOp .add 3 (.tmp 64) (.const (.int .i64 1)) 3, 3, none⟩,
   mv 66 0 25,
   mv 67 13 3,
   ⟨some 68, .binOp .add 3 (.tmp 67) (.const (.int .i64 1)) 3, 3, none⟩,
   iad 69 25 66 68,
   lda 70 35 69,
   mv 71 0 25,
   mv 72 13 3,
   iad 73 25 71 72,
   lda 74 35 73,
   iad 75 25 61 62,
   ⟨none, .store 35 (.tmp 75) (.tmp 70), 0, none⟩,
   iad 76 25 63 65,
   ⟨none, .store 35 (.tmp 76) (.tmp 74), 0, none⟩]
def r110_10 : List VOp :=
  [mv 59 13 3,
   ⟨some 60, .binOp .add 3 (.tmp 59) (.const (.int .i64 1)) 3, 3, none⟩,
   asg 13 60 3]
def r110_12 : List VOp :=
  [mv 77 3 3,
   mv 78 2 3,
   ⟨some 79, .binOp .sub 3 (.tmp 77) (.tmp 78) 3, 3, none⟩,
   ⟨some 80, .binOp .eql 3 (.tmp 79) (.const (.int .i64 1)) 3, 4, none⟩]
def r110_13 : List VOp :=
  [mv 81 1 3,
   asg 14 81 3]
def r110_14 : List VOp :=
  [mv 82 2 3,
   asg 15 82 3]
def r110_15 : List VOp :=
  [mv 83 14 3,
   mv 84 15 3,
   ⟨some 85, .binOp .lss 3 (.tmp 83) (.tmp 84) 3, 4, none⟩]
def r110_16 : List VOp :=
  [mv 86 14 3,
   mv 87 15 3,
   ⟨some 88, .binOp .add 3 (.tmp 86) (.tmp 87) 3, 3, none⟩,
   ⟨some 89, .convert 3 123 (.tmp 88), 123, none⟩,
   ⟨some 90, .binOp .shr 123 (.tmp 89) (.const (.int .u64 1)) 123, 123, none⟩,
   ⟨some 91, .convert 123 3 (.tmp 90), 3, none⟩,
   asg 16 91 3]
def r110_17 : List VOp :=
  [mv 92 4 58,
   mv 93 0 25,
   mv 94 2 3,
   iad 95 25 93 94,
   lda 96 35 95,
   mv 97 0 25,
   mv 98 16 3,
   iad 99 25 97 98,
   lda 100 35 99,
   ⟨some 101, .call ⟨.value (.tmp 92), #[.tmp 96, .tmp 100], #[35, 35]⟩, 3, none⟩,
   ⟨some 102, .binOp .lss 3 (.tmp 101) (.const (.int .i64 0)) 3, 4, none⟩,
   ⟨some 103, .unOp .not 4 (.tmp 102), 4, none⟩]
def r110_18 : List VOp :=
  [mv 104 16 3,
   ⟨some 105, .binOp .add 3 (.tmp 104) (.const (.int .i64 1)) 3, 3, none⟩,
   asg 14 105 3]
def r110_19 : List VOp :=
  [mv 106 16 3,
   asg 15 106 3]
def r110_20 : List VOp :=
  [mv 107 2 3,
   asg 17 107 3]
def r110_21 : List VOp :=
  [mv 108 17 3,
   mv 109 14 3,
   ⟨some 110, .binOp .gtr 3 (.tmp 108) (.tmp 109) 3, 4, none⟩]
def r110_23 : List VOp :=
  [mv 113 0 25,
   mv 114 17 3,
   mv 115 0 25,
   mv 116 17 3,
   ⟨some 117, .binOp .sub 3 (.tmp 116) (.const (.int .i64 1)) 3, 3, none⟩,
   mv 118 0 25,
   mv 119 17 3,
   ⟨some 120, .binOp .sub 3 (.tmp 119) (.const (.int .i64 1)) 3, 3, none⟩,
   iad 121 25 118 120,
   lda 122 35 121,
   mv 123 0 25,
   mv 124 17 3,
   iad 125 25 123 124,
   lda 126 35 125,
   iad 127 25 113 114,
   ⟨none, .store 35 (.tmp 127) (.tmp 122), 0, none⟩,
   iad 128 25 115 117,
   ⟨none, .store 35 (.tmp 128) (.tmp 126), 0, none⟩]
def r110_22 : List VOp :=
  [mv 111 17 3,
   ⟨some 112, .binOp .sub 3 (.tmp 111) (.const (.int .i64 1)) 3, 3, none⟩,
   asg 17 112 3]
def r110_24 : List VOp :=
  [mv 129 1 3,
   mv 130 3 3,
   ⟨some 131, .binOp .add 3 (.tmp 129) (.tmp 130) 3, 3, none⟩,
   ⟨some 132, .convert 3 123 (.tmp 131), 123, none⟩,
   ⟨some 133, .binOp .shr 123 (.tmp 132) (.const (.int .u64 1)) 123, 123, none⟩,
   ⟨some 134, .convert 123 3 (.tmp 133), 3, none⟩,
   asg 18 134 3]
def r110_25 : List VOp :=
  [mv 135 18 3,
   mv 136 2 3,
   ⟨some 137, .binOp .add 3 (.tmp 135) (.tmp 136) 3, 3, none⟩,
   asg 19 137 3]
def r110_26 : List VOp :=
  [⟨some 20, .assign (.const (.int .i64 0)), 3, none⟩,
   ⟨some 21, .assign (.const (.int .i64 0)), 3, none⟩]
def r110_27 : List VOp :=
  [mv 138 2 3,
   mv 139 18 3,
   ⟨some 140, .binOp .gtr 3 (.tmp 138) (.tmp 139) 3, 4, none⟩]
def r110_28 : List VOp :=
  [mv 141 19 3,
   mv 142 3 3,
   ⟨some 143, .binOp .sub 3 (.tmp 141) (.tmp 142) 3, 3, none⟩,
   asg 20 143 3]
def r110_29 : List VOp :=
  [mv 144 18 3,
   asg 21 144 3]
def r110_30 : List VOp :=
  [mv 145 1 3,
   asg 20 145 3]
def r110_31 : List VOp :=
  [mv 146 2 3,
   asg 21 146 3]
def r110_32 : List VOp :=
  [mv 147 19 3,
   ⟨some 148, .binOp .sub 3 (.tmp 147) (.const (.int .i64 1)) 3, 3, none⟩,
   asg 22 148 3]
def r110_33 : List VOp :=
  [mv 149 20 3,
   mv 150 21 3,
   ⟨some 151, .binOp .lss 3 (.tmp 149) (.tmp 150) 3, 4, none⟩]
def r110_34 : List VOp :=
  [mv 152 20 3,
   mv 153 21 3,
   ⟨some 154, .binOp .add 3 (.tmp 152) (.tmp 153) 3, 3, none⟩,
   ⟨some 155, .convert 3 123 (.tmp 154), 123, none⟩,
   ⟨some 156, .binOp .shr 123 (.tmp 155) (.const (.int .u64 1)) 123, 123, none⟩,
   ⟨some 157, .convert 123 3 (.tmp 156), 3, none⟩,
   asg 23 157 3]
def r110_35 : List VOp :=
  [mv 158 4 58,
   mv 159 0 25,
   mv 160 22 3,
   mv 161 23 3,
   ⟨some 162, .binOp .sub 3 (.tmp 160) (.tmp 161) 3, 3, none⟩,
   iad 163 25 159 162,
   lda 164 35 163,
   mv 165 0 25,
   mv 166 23 3,
   iad 167 25 165 166,
   lda 168 35 167,
   ⟨some 169, .call ⟨.value (.tmp 158), #[.tmp 164, .tmp 168], #[35, 35]⟩, 3, none⟩,
   ⟨some 170, .binOp .lss 3 (.tmp 169) (.const (.int .i64 0)) 3, 4, none⟩,
   ⟨some 171, .unOp .not 4 (.tmp 170), 4, none⟩]
def r110_36 : List VOp :=
  [mv 172 23 3,
   ⟨some 173, .binOp .add 3 (.tmp 172) (.const (.int .i64 1)) 3, 3, none⟩,
   asg 20 173 3]
def r110_37 : List VOp :=
  [mv 174 23 3,
   asg 21 174 3]
def r110_38 : List VOp :=
  [mv 175 19 3,
   mv 176 20 3,
   ⟨some 177, .binOp .sub 3 (.tmp 175) (.tmp 176) 3, 3, none⟩,
   asg 24 177 3]
def r110_39 : List VOp :=
  [mv 178 20 3,
   mv 179 2 3,
   ⟨some 180, .binOp .lss 3 (.tmp 178) (.tmp 179) 3, 4, none⟩,
   mv 181 180 4,
   ⟨some 182, .move (.tmp 2), 3, some (181, true)⟩,
   ⟨some 183, .move (.tmp 24), 3, some (181, true)⟩,
   ⟨some 184, .binOp .lss 3 (.tmp 182) (.tmp 183) 3, 4, some (181, true)⟩,
   ⟨some 185, .pick (.tmp 181) (.tmp 184) (.const (.bool false)), 4, none⟩]
def r110_40 : List VOp :=
  [mv 186 0 25,
   mv 187 20 3,
   mv 188 2 3,
   mv 189 24 3,
   mv 190 4 58,
   ⟨some 191, .call ⟨.value (.func 117), #[.tmp 186, .tmp 187, .tmp 188, .tmp 189, .tmp 190], #[25, 3, 3, 3, 58]⟩, 0, none⟩]
def r110_41 : List VOp :=
  [mv 192 1 3,
   mv 193 20 3,
   ⟨some 194, .binOp .lss 3 (.tmp 192) (.tmp 193) 3, 4, none⟩,
   mv 195 194 4,
   ⟨some 196, .move (.tmp 20), 3, some (195, true)⟩,
   ⟨some 197, .move (.tmp 18), 3, some (195, true)⟩,
   ⟨some 198, .binOp .lss 3 (.tmp 196) (.tmp 197) 3, 4, some (195, true)⟩,
   ⟨some 199, .pick (.tmp 195) (.tmp 198) (.const (.bool false)), 4, none⟩]
def r110_42 : List VOp :=
  [mv 200 0 25,
   mv 201 1 3,
   mv 202 20 3,
   mv 203 18 3,
   mv 204 4 58,
   ⟨some 205, .call ⟨.value (.func 110), #[.tmp 200, .tmp 201, .tmp 202, .tmp 203, .tmp 204], #[25, 3, 3, 3, 58]⟩, 0, none⟩]
def r110_43 : List VOp :=
  [mv 206 18 3,
   mv 207 24 3,
   ⟨some 208, .binOp .lss 3 (.tmp 206) (.tmp 207) 3, 4, none⟩,
   mv 209 208 4,
   ⟨some 210, .move (.tmp 24), 3, some (209, true)⟩,
   ⟨some 211, .move (.tmp 3), 3, some (209, true)⟩,
   ⟨some 212, .binOp .lss 3 (.tmp 210) (.tmp 211) 3, 4, some (209, true)⟩,
   ⟨some 213, .pick (.tmp 209) (.tmp 212) (.const (.bool false)), 4, none⟩]
def r110_44 : List VOp :=
  [mv 214 0 25,
   mv 215 18 3,
   mv 216 24 3,
   mv 217 3 3,
   mv 218 4 58,
   ⟨some 219, .call ⟨.value (.func 110), #[.tmp 214, .tmp 215, .tmp 216, .tmp 217, .tmp 218], #[25, 3, 3, 3, 58]⟩, 0, none⟩]
def B110 : VC :=
  (.seq (.seq (.region r110_0) (.cond (.tmp 28) (.seq (.region r110_1) (.seq (.region r110_2) (.seq (.block 0 (.loop (.seq (.seq (.region r110_3) (.cond (.tmp 33) .skip (.exit 0))) (.block 1 (.seq (.region r110_4) (.seq (.draw r110_5 3) (.cond (.tmp 50) (.region r110_6) (.region r110_7)))))))) (.seq (.seq (.region r110_8) (.block 2 (.loop (.seq (.seq (.region r110_9) (.cond (.tmp 58) .skip (.exit 2))) (.seq (.block 3 (.drawS r110_11 3 [63, 64, 65])) (.region r110_10)))))) .ret)))) .skip)) (.seq (.seq (.region r110_12) (.cond (.tmp 80) (.seq (.region r110_13) (.seq (.region r110_14) (.seq (.block 4 (.loop (.seq (.seq (.region r110_15) (.cond (.tmp 85) .skip (.exit 4))) (.block 5 (.seq (.region r110_16) (.seq (.draw r110_17 4) (.cond (.tmp 103) (.region r110_18) (.region r110_19)))))))) (.seq (.seq (.region r110_20) (.block 6 (.loop (.seq (.seq (.region r110_21) (.cond (.tmp 110) .skip (.exit 6))) (.seq (.block 7 (.drawS r110_23 3 [115, 116, 117])) (.region r110_22)))))) .ret)))) .skip)) (.seq (.region r110_24) (.seq (.region r110_25) (.seq (.region r110_26) (.seq (.seq (.region r110_27) (.cond (.tmp 140) (.seq (.region r110_28) (.region r110_29)) (.seq (.region r110_30) (.region r110_31)))) (.seq (.region r110_32) (.seq (.block 8 (.loop (.seq (.seq (.region r110_33) (.cond (.tmp 151) .skip (.exit 8))) (.block 9 (.seq (.region r110_34) (.seq (.draw r110_35 4) (.cond (.tmp 171) (.region r110_36) (.region r110_37)))))))) (.seq (.region r110_38) (.seq (.seq (.region r110_39) (.cond (.tmp 185) (.region r110_40) .skip)) (.seq (.seq (.region r110_41) (.cond (.tmp 199) (.region r110_42) .skip)) (.seq (.region r110_43) (.cond (.tmp 213) (.region r110_44) .skip)))))))))))))
theorem code110 : ∃ c, Try.f110.body = some c ∧ abs Try.f110.ntmps c = B110 := ⟨_, rfl, by kernel_rfl⟩
theorem hb110 : HasBody Try.prog 110 := hasBody_of Try.func110 (by kernel_rfl)
theorem res110 : Try.f110.results = #[] := rfl
theorem enter110 {w : World} {R : Value → World → Prop} (x0 x1 x2 x3 x4 : Value) (h : vc Try.prog B110 (retK Try.prog #[] R) [] (initEnv [x0, x1, x2, x3, x4] 0) w) : FnC Try.prog 110 #[x0, x1, x2, x3, x4] w R := by
  obtain ⟨c, h1, h2⟩ := code110
  exact hb110.fn (ret_of_vc mixed Try.func110 h1 (Nat.le_of_ble_eq_true rfl) B110 h2 h)
@[push_cast] theorem vr110_0 : VR r110_0 [⟨some 25, .move (.tmp 2), 3, none⟩, ⟨some 26, .move (.tmp 1), 3, none⟩, ⟨some 27, .binOp .sub 3 (.tmp 25) (.tmp 26) 3, 3, none⟩, ⟨some 28, .binOp .eql 3 (.tmp 27) (.const (.int .i64 1)) 3, 4, none⟩] := vR rfl
@[push_cast] theorem vr110_1 : VR r110_1 [⟨some 29, .move (.tmp 2), 3, none⟩, ⟨some 10, .assign (.tmp 29), 3, none⟩] := vR rfl
@[push_cast] theorem vr110_2 : VR r110_2 [⟨some 30, .move (.tmp 3), 3, none⟩, ⟨some 11, .assign (.tmp 30), 3, none⟩] := vR rfl
@[push_cast] theorem vr110_3 : VR r110_3 [⟨some 31, .move (.tmp 10), 3, none⟩, ⟨some 32, .move (.tmp 11), 3, none⟩, ⟨some 33, .binOp .lss 3 (.tmp 31) (.tmp 32) 3, 4, none⟩] := vR rfl
@[push_cast] theorem vr110_4 : VR r110_4 [⟨some 34, .move (.tmp 10), 3, none⟩, ⟨some 35, .move (.tmp 11), 3, none⟩, ⟨some 36, .binOp .add 3 (.tmp 34) (.tmp 35) 3, 3, none⟩, ⟨some 37, .convert 3 123 (.tmp 36), 123, none⟩, ⟨some 38, .binOp .shr 123 (.tmp 37) (.const (.int .u64 1)) 123, 123, none⟩, ⟨some 39, .convert 123 3 (.tmp 38), 3, none⟩, ⟨some 12, .assign (.tmp 39), 3, none⟩] := vR rfl
@[push_cast] theorem vr110_5 : vc Try.prog (.draw r110_5 3) Q ds σ w = drawn Try.prog [(⟨some 40, .move (.tmp 4), 58, none⟩, [4]), (⟨some 41, .move (.tmp 0), 25, none⟩, [0]), (⟨some 42, .move (.tmp 12), 3, none⟩, [12]), (⟨some 43, .indexAddr 25 (.tmp 41) (.tmp 42), 0, none⟩, [41, 42]), (⟨some 44, .load 35 (.tmp 43), 35, none⟩, [43]), (⟨some 45, .move (.tmp 0), 25, none⟩, [0]), (⟨some 46, .move (.tmp 1), 3, none⟩, [1]), (⟨some 47, .indexAddr 25 (.tmp 45) (.tmp 46), 0, none⟩, [45, 46]), (⟨some 48, .load 35 (.tmp 47), 35, none⟩, [47]), (⟨some 49, .call ⟨.value (.tmp 40), #[.tmp 44, .tmp 48], #[35, 35]⟩, 3, none⟩, [40, 44, 48]), (⟨some 50, .binOp .lss 3 (.tmp 49) (.const (.int .i64 0)) 3, 4, none⟩, [49])] 3 (Q .normal ds) σ w := mk_eq rfl
@[push_cast] theorem vr110_6 : VR r110_6 [⟨some 51, .move (.tmp 12), 3, none⟩, ⟨some 52, .binOp .add 3 (.tmp 51) (.const (.int .i64 1)) 3, 3, none⟩, ⟨some 10, .assign (.tmp 52), 3, none⟩] := vR rfl
@[push_cast] theorem vr110_7 : VR r110_7 [⟨some 53, .move (.tmp 12), 3, none⟩, ⟨some 11, .assign (.tmp 53), 3, none⟩] := vR rfl
@[push_cast] theorem vr110_8 : VR r110_8 [⟨some 54, .move (.tmp 1), 3, none⟩, ⟨some 13, .assign (.tmp 54), 3, none⟩] := vR rfl
@[push_cast] theorem vr110_9 : VR r110_9 [⟨some 55, .move (.tmp 13), 3, none⟩, ⟨some 56, .move (.tmp 10), 3, none⟩, ⟨some 57, .binOp .sub 3 (.tmp 56) (.const (.int .i64 1)) 3, 3, none⟩, ⟨some 58, .binOp .lss 3 (.tmp 55) (.tmp 57) 3, 4, none⟩] := vR rfl
@[push_cast] theorem vr110_11 : vc Try.prog (.drawS r110_11 3 [63, 64, 65]) Q ds σ w = drawnS Try.prog [(⟨some 61, .move (.tmp 0), 25, none⟩, [0]), (⟨some 62, .move (.tmp 13), 3, none⟩, [13]), (⟨some 63, .move (.tmp 0), 25, none⟩, [0]), (⟨some 64, .move (.tmp 13), 3, none⟩, [13]), (⟨some 65, .binOp .add 3 (.tmp 64) (.const (.int .i64 1)) 3, 3, none⟩, [64]), (⟨some 66, .move (.tmp 0), 25, none⟩, [0]), (⟨some 67, .move (.tmp 13), 3, none⟩, [13]), (⟨some 68, .binOp .add 3 (.tmp 67) (.const (.int .i64 1)) 3, 3, none⟩, [67]), (⟨some 69, .indexAddr 25 (.tmp 66) (.tmp 68), 0, none⟩, [66, 68]), (⟨some 70, .load 35 (.tmp 69), 35, none⟩, [69]), (⟨some 71, .move (.tmp 0), 25, none⟩, [0]), (⟨some 72, .move (.tmp 13), 3, none⟩, [13]), (⟨some 73, .indexAddr 25 (.tmp 71) (.tmp 72), 0, none⟩, [71, 72]), (⟨some 74, .load 35 (.tmp 73), 35, none⟩, [73]), (⟨some 75, .indexAddr 25 (.tmp 61) (.tmp 62), 0, none⟩, [61, 62]), (⟨none, .store 35 (.tmp 75) (.tmp 70), 0, none⟩, [75, 70]), (⟨some 76, .indexAddr 25 (.tmp 63) (.tmp 65), 0, none⟩, [63, 65]), (⟨none, .store 35 (.tmp 76) (.tmp 74), 0, none⟩, [76, 74])] 3 [63, 64, 65] (Q .normal ds) σ w := mk_eq rfl
@[push_cast] theorem vr110_10 : VR r110_10 [⟨some 59, .move (.tmp 13), 3, none⟩, ⟨some 60, .binOp .add 3 (.tmp 59) (.const (.int .i64 1)) 3, 3, none⟩, ⟨some 13, .assign (.tmp 60), 3, none⟩] := vR rfl
@[push_cast] theorem vr110_12 : VR r110_12 [⟨some 77, .move (.tmp 3), 3, none⟩, ⟨some 78, .move (.tmp 2), 3, none⟩, ⟨some 79, .binOp .sub 3 (.tmp 77) (.tmp 78) 3, 3, none⟩, ⟨some 80, .binOp .eql 3 (.tmp 79) (.const (.int .i64 1)) 3, 4, none⟩] := vR rfl
@[push_cast] theorem vr110_13 : VR r110_13 [⟨some 81, .move (.tmp 1), 3, none⟩, ⟨some 14, .assign (.tmp 81), 3, none⟩] := vR rfl
@[push_cast] theorem vr110_14 : VR r110_14 [⟨some 82, .move (.tmp 2), 3, none⟩, ⟨some 15, .assign (.tmp 82), 3, none⟩] := vR rfl
@[push_cast] theorem vr110_15 : VR r110_15 [⟨some 83, .move (.tmp 14), 3, none⟩, ⟨some 84, .move (.tmp 15), 3, none⟩, ⟨some 85, .binOp .lss 3 (.tmp 83) (.tmp 84) 3, 4, none⟩] := vR rfl
@[push_cast] theorem vr110_16 : VR r110_16 [⟨some 86, .move (.tmp 14), 3, none⟩, ⟨some 87, .move (.tmp 15), 3, none⟩, ⟨some 88, .binOp .add 3 (.tmp 86) (.tmp 87) 3, 3, none⟩, ⟨some 89, .convert 3 123 (.tmp 88), 123, none⟩, ⟨some 90, .binOp .shr 123 (.tmp 89) (.const (.int .u64 1)) 123, 123, none⟩, ⟨some 91, .convert 123 3 (.tmp 90), 3, none⟩, ⟨some 16, .assign (.tmp 91), 3, none⟩] := vR rfl
@[push_cast] theorem vr110_17 : vc Try.prog (.draw r110_17 4) Q ds σ w = drawn Try.prog [(⟨some 92, .move (.tmp 4), 58, none⟩, [4]), (⟨some 93, .move (.tmp 0), 25, none⟩, [0]), (⟨some 94, .move (.tmp 2), 3, none⟩, [2]), (⟨some 95, .indexAddr 25 (.tmp 93) (.tmp 94), 0, none⟩, [93, 94]), (⟨some 96, .load 35 (.tmp 95), 35, none⟩, [95]), (⟨some 97, .move (.tmp 0), 25, none⟩, [0]), (⟨some 98, .move (.tmp 16), 3, none⟩, [16]), (⟨some 99, .indexAddr 25 (.tmp 97) (.tmp 98), 0, none⟩, [97, 98]), (⟨some 100, .load 35 (.tmp 99), 35, none⟩, [99]), (⟨some 101, .call ⟨.value (.tmp 92), #[.tmp 96, .tmp 100], #[35, 35]⟩, 3, none⟩, [92, 96, 100]), (⟨some 102, .binOp .lss 3 (.tmp 101) (.const (.int .i64 0)) 3, 4, none⟩, [101]), (⟨some 103, .unOp .not 4 (.tmp 102), 4, none⟩, [102])] 4 (Q .normal ds) σ w := mk_eq rfl
@[push_cast] theorem vr110_18 : VR r110_18 [⟨some 104, .move (.tmp 16), 3, none⟩, ⟨some 105, .binOp .add 3 (.tmp 104) (.const (.int .i64 1)) 3, 3, none⟩, ⟨some 14, .assign (.tmp 105), 3, none⟩] := vR rfl
@[push_cast] theorem vr110_19 : VR r110_19 [⟨some 106, .move (.tmp 16), 3, none⟩, ⟨some 15, .assign (.tmp 106), 3, none⟩] := vR rfl
@[push_cast] theorem vr110_20 : VR r110_20 [⟨some 107, .move (.tmp 2), 3, none⟩, ⟨some 17, .assign (.tmp 107), 3, none⟩] := vR rfl
@[push_cast] theorem vr110_21 : VR r110_21 [⟨some 108, .move (.tmp 17), 3, none⟩, ⟨some 109, .move (.tmp 14), 3, none⟩, ⟨some 110, .binOp .gtr 3 (.tmp 108) (.tmp 109) 3, 4, none⟩] := vR rfl
@[push_cast] theorem vr110_23 : vc Try.prog (.drawS r110_23 3 [115, 116, 117]) Q ds σ w = drawnS Try.prog [(⟨some 113, .move (.tmp 0), 25, none⟩, [0]), (⟨some 114, .move (.tmp 17), 3, none⟩, [17]), (⟨some 115, .move (.tmp 0), 25, none⟩, [0]), (⟨some 116, .move (.tmp 17), 3, none⟩, [17]), (⟨some 117, .binOp .sub 3 (.tmp 116) (.const (.int .i64 1)) 3, 3, none⟩, [116]), (⟨some 118, .move (.tmp 0), 25, none⟩, [0]), (⟨some 119, .move (.tmp 17), 3, none⟩, [17]), (⟨some 120, .binOp .sub 3 (.tmp 119) (.const (.int .i64 1)) 3, 3, none⟩, [119]), (⟨some 121, .indexAddr 25 (.tmp 118) (.tmp 120), 0, none⟩, [118, 120]), (⟨some 122, .load 35 (.tmp 121), 35, none⟩, [121]), (⟨some 123, .move (.tmp 0), 25, none⟩, [0]), (⟨some 124, .move (.tmp 17), 3, none⟩, [17]), (⟨some 125, .indexAddr 25 (.tmp 123) (.tmp 124), 0, none⟩, [123, 124]), (⟨some 126, .load 35 (.tmp 125), 35, none⟩, [125]), (⟨some 127, .indexAddr 25 (.tmp 113) (.tmp 114), 0, none⟩, [113, 114]), (⟨none, .store 35 (.tmp 127) (.tmp 122), 0, none⟩, [127, 122]), (⟨some 128, .indexAddr 25 (.tmp 115) (.tmp 117), 0, none⟩, [115, 117]), (⟨none, .store 35 (.tmp 128) (.tmp 126), 0, none⟩, [128, 126])] 3 [115, 116, 117] (Q .normal ds) σ w := mk_eq rfl
@[push_cast] theorem vr110_22 : VR r110_22 [⟨some 111, .move (.tmp 17), 3, none⟩, ⟨some 112, .binOp .sub 3 (.tmp 111) (.const (.int .i64 1)) 3, 3, none⟩, ⟨some 17, .assign (.tmp 112), 3, none⟩] := vR rfl
@[push_cast] theorem vr110_24 : VR r110_24 [⟨some 129, .move (.tmp 1), 3, none⟩, ⟨some 130, .move (.tmp 3), 3, none⟩, ⟨some 131, .binOp .add 3 (.tmp 129) (.tmp 130) 3, 3, none⟩, ⟨some 132, .convert 3 123 (.tmp 131), 123, none⟩, ⟨some 133, .binOp .shr 123 (.tmp 132) (.const (.int .u64 1)) 123, 123, none⟩, ⟨some 134, .convert 123 3 (.tmp 133), 3, none⟩, ⟨some 18, .assign (.tmp 134), 3, none⟩] := vR rfl
@[push_cast] theorem vr110_25 : VR r110_25 [⟨some 135, .move (.tmp 18), 3, none⟩, ⟨some 136, .move (.tmp 2), 3, none⟩, ⟨some 137, .binOp .add 3 (.tmp 135) (.tmp 136) 3, 3, none⟩, ⟨some 19, .assign (.tmp 137), 3, none⟩] := vR rfl
@[push_cast] theorem vr110_26 : VR r110_26 [⟨some 20, .assign (.const (.int .i64 0)), 3, none⟩, ⟨some 21, .assign (.const (.int .i64 0)), 3, none⟩] := vR rfl
@[push_cast] theorem vr110_27 : VR r110_27 [⟨some 138, .move (.tmp 2), 3, none⟩, ⟨some 139, .move (.tmp 18), 3, none⟩, ⟨some 140, .binOp .gtr 3 (.tmp 138) (.tmp 139) 3, 4, none⟩] := vR rfl
@[push_cast] theorem vr110_28 : VR r110_28 [⟨some 141, .move (.tmp 19), 3, none⟩, ⟨some 142, .move (.tmp 3), 3, none⟩, ⟨some 143, .binOp .sub 3 (.tmp 141) (.tmp 142) 3, 3, none⟩, ⟨some 20, .assign (.tmp 143), 3, none⟩] := vR rfl
@[push_cast] theorem vr110_29 : VR r110_29 [⟨some 144, .move (.tmp 18), 3, none⟩, ⟨some 21, .assign (.tmp 144), 3, none⟩] := vR rfl
@[push_cast] theorem vr110_30 : VR r110_30 [⟨some 145, .move (.tmp 1), 3, none⟩, ⟨some 20, .assign (.tmp 145), 3, none⟩] := vR rfl
@[push_cast] theorem vr110_31 : VR r110_31 [⟨some 146, .move (.tmp 2), 3, none⟩, ⟨some 21, .assign (.tmp 146), 3, none⟩] := vR rfl
@[push_cast] theorem vr110_32 : VR r110_32 [⟨some 147, .move (.tmp 19), 3, none⟩, ⟨some 148, .binOp .sub 3 (.tmp 147) (.const (.int .i64 1)) 3, 3, none⟩, ⟨some 22, .assign (.tmp 148), 3, none⟩] := vR rfl
@[push_cast] theorem vr110_33 : VR r110_33 [⟨some 149, .move (.tmp 20), 3, none⟩, ⟨some 150, .move (.tmp 21), 3, none⟩, ⟨some 151, .binOp .lss 3 (.tmp 149) (.tmp 150) 3, 4, none⟩] := vR rfl
@[push_cast] theorem vr110_34 : VR r110_34 [⟨some 152, .move (.tmp 20), 3, none⟩, ⟨some 153, .move (.tmp 21), 3, none⟩, ⟨some 154, .binOp .add 3 (.tmp 152) (.tmp 153) 3, 3, none⟩, ⟨some 155, .convert 3 123 (.tmp 154), 123, none⟩, ⟨some 156, .binOp .shr 123 (.tmp 155) (.const (.int .u64 1)) 123, 123, none⟩, ⟨some 157, .convert 123 3 (.tmp 156), 3, none⟩, ⟨some 23, .assign (.tmp 157), 3, none⟩] := vR rfl
@[push_cast] theorem vr110_35 : vc Try.prog (.draw r110_35 4) Q ds σ w = drawn Try.prog [(⟨some 158, .move (.tmp 4), 58, none⟩, [4]), (⟨some 159, .move (.tmp 0), 25, none⟩, [0]), (⟨some 160, .move (.tmp 22), 3, none⟩, [22]), (⟨some 161, .move (.tmp 23), 3, none⟩, [23]), (⟨some 162, .binOp .sub 3 (.tmp 160) (.tmp 161) 3, 3, none⟩, [160, 161]), (⟨some 163, .indexAddr 25 (.tmp 159) (.tmp 162), 0, none⟩, [159, 162]), (⟨some 164, .load 35 (.tmp 163), 35, none⟩, [163]), (⟨some 165, .move (.tmp 0), 25, none⟩, [0]), (⟨some 166, .move (.tmp 23), 3, none⟩, [23]), (⟨some 167, .indexAddr 25 (.tmp 165) (.tmp 166), 0, none⟩, [165, 166]), (⟨some 168, .load 35 (.tmp 167), 35, none⟩, [167]), (⟨some 169, .call ⟨.value (.tmp 158), #[.tmp 164, .tmp 168], #[35, 35]⟩, 3, none⟩, [158, 164, 168]), (⟨some 170, .binOp .lss 3 (.tmp 169) (.const (.int .i64 0)) 3, 4, none⟩, [169]), (⟨some 171, .unOp .not 4 (.tmp 170), 4, none⟩, [170])] 4 (Q .normal ds) σ w := mk_eq rfl
@[push_cast] theorem vr110_36 : VR r110_36 [⟨some 172, .move (.tmp 23), 3, none⟩, ⟨some 173, .binOp .add 3 (.tmp 172) (.const (.int .i64 1)) 3, 3, none⟩, ⟨some 20, .assign (.tmp 173), 3, none⟩] := vR rfl
@[push_cast] theorem vr110_37 : VR r110_37 [⟨some 174, .move (.tmp 23), 3, none⟩, ⟨some 21, .assign (.tmp 174), 3, none⟩] := vR rfl
@[push_cast] theorem vr110_38 : VR r110_38 [⟨some 175, .move (.tmp 19), 3, none⟩, ⟨some 176, .move (.tmp 20), 3, none⟩, ⟨some 177, .binOp .sub 3 (.tmp 175) (.tmp 176) 3, 3, none⟩, ⟨some 24, .assign (.tmp 177), 3, none⟩] := vR rfl
@[push_cast] theorem vr110_39 : VR r110_39 [⟨some 178, .move (.tmp 20), 3, none⟩, ⟨some 179, .move (.tmp 2), 3, none⟩, ⟨some 180, .binOp .lss 3 (.tmp 178) (.tmp 179) 3, 4, none⟩, ⟨some 181, .move (.tmp 180), 4, none⟩, ⟨some 182, .move (.tmp 2), 3, some (181, true)⟩, ⟨some 183, .move (.tmp 24), 3, some (181, true)⟩, ⟨some 184, .binOp .lss 3 (.tmp 182) (.tmp 183) 3, 4, some (181, true)⟩, ⟨some 185, .pick (.tmp 181) (.tmp 184) (.const (.bool false)), 4, none⟩] := vR rfl
@[push_cast] theorem vr110_40 : VR r110_40 [⟨some 186, .move (.tmp 0), 25, none⟩, ⟨some 187, .move (.tmp 20), 3, none⟩, ⟨some 188, .move (.tmp 2), 3, none⟩, ⟨some 189, .move (.tmp 24), 3, none⟩, ⟨some 190, .move (.tmp 4), 58, none⟩, ⟨some 191, .call ⟨.value (.func 117), #[.tmp 186, .tmp 187, .tmp 188, .tmp 189, .tmp 190], #[25, 3, 3, 3, 58]⟩, 0, none⟩] := vR rfl
@[push_cast] theorem vr110_41 : VR r110_41 [⟨some 192, .move (.tmp 1), 3, none⟩, ⟨some 193, .move (.tmp 20), 3, none⟩, ⟨some 194, .binOp .lss 3 (.tmp 192) (.tmp 193) 3, 4, none⟩, ⟨some 195, .move (.tmp 194), 4, none⟩, ⟨some 196, .move (.tmp 20), 3, some (195, true)⟩, ⟨some 197, .move (.tmp 18), 3, some (195, true)⟩, ⟨some 198, .binOp .lss 3 (.tmp 196) (.tmp 197) 3, 4, some (195, true)⟩, ⟨some 199, .pick (.tmp 195) (.tmp 198) (.const (.bool false)), 4, none⟩] := vR rfl
@[push_cast] theorem vr110_42 : VR r110_42 [⟨some 200, .move (.tmp 0), 25, none⟩, ⟨some 201, .move (.tmp 1), 3, none⟩, ⟨some 202, .move (.tmp 20), 3, none⟩, ⟨some 203, .move (.tmp 18), 3, none⟩, ⟨some 204, .move (.tmp 4), 58, none⟩, ⟨some 205, .call ⟨.value (.func 110), #[.tmp 200, .tmp 201, .tmp 202, .tmp 203, .tmp 204], #[25, 3, 3, 3, 58]⟩, 0, none⟩] := vR rfl
@[push_cast] theorem vr110_43 : VR r110_43 [⟨some 206, .move (.tmp 18), 3, none⟩, ⟨some 207, .move (.tmp 24), 3, none⟩, ⟨some 208, .binOp .lss 3 (.tmp 206) (.tmp 207) 3, 4, none⟩, ⟨some 209, .move (.tmp 208), 4, none⟩, ⟨some 210, .move (.tmp 24), 3, some (209, true)⟩, ⟨some 211, .move (.tmp 3), 3, some (209, true)⟩, ⟨some 212, .binOp .lss 3 (.tmp 210) (.tmp 211) 3, 4, some (209, true)⟩, ⟨some 213, .pick (.tmp 209) (.tmp 212) (.const (.bool false)), 4, none⟩] := vR rfl
@[push_cast] theorem vr110_44 : VR r110_44 [⟨some 214, .move (.tmp 0), 25, none⟩, ⟨some 215, .move (.tmp 18), 3, none⟩, ⟨some 216, .move (.tmp 24), 3, none⟩, ⟨some 217, .move (.tmp 3), 3, none⟩, ⟨some 218, .move (.tmp 4), 58, none⟩, ⟨some 219, .call ⟨.value (.func 110), #[.tmp 214, .tmp 215, .tmp 216, .tmp 217, .tmp 218], #[25, 3, 3, 3, 58]⟩, 0, none⟩] := vR rfl
/-! 111 cmp.isNaN[string] (params #[9], results #[(.tmp 2)], 6 slots) -/
def r111_0 : List VOp :=
  [⟨some 2, .assign (.const (.bool false)), 4, none⟩]
def r111_1 : List VOp :=
  [mv 3 0 9,
   mv 4 0 9,
   ⟨some 5, .binOp .neq 9 (.tmp 3) (.tmp 4) 9, 4, none⟩,
   asg 2 5 4]
def B111 : VC :=
  (.seq (.region r111_0) (.seq (.region r111_1) .ret))
theorem code111 : ∃ c, Try.f111.body = some c ∧ abs Try.f111.ntmps c = B111 := ⟨_, rfl, by kernel_rfl⟩
theorem hb111 : HasBody Try.prog 111 := hasBody_of Try.func111 (by kernel_rfl)
theorem res111 : Try.f111.results = #[(.tmp 2)] := rfl
theorem enter111 {w : World} {R : Value → World → Prop} (x0 : Value) (h : vc Try.prog B111 (retK Try.prog #[(.tmp 2)] R) [] (initEnv [x0] 0) w) : FnC Try.prog 111 #[x0] w R := by
  obtain ⟨c, h1, h2⟩ := code111
  exact hb111.fn (ret_of_vc mixed Try.func111 h1 (Nat.le_of_ble_eq_true rfl) B111 h2 h)
@[push_cast] theorem vr111_0 : VR r111_0 [⟨some 2, .assign (.const (.bool false)), 4, none⟩] := vR rfl
@[push_cast] theorem vr111_1 : VR r111_1 [⟨some 3, .move (.tmp 0), 9, none⟩, ⟨some 4, .move (.tmp 0), 9, none⟩, ⟨some 5, .binOp .neq 9 (.tmp 3) (.tmp 4) 9, 4, none⟩, ⟨some 2, .assign (.tmp 5), 4, none⟩] := vR rfl
/-! 117 slices.rotateCmpFunc[columbary/api.Row] (params #[25, 3, 3, 3, 58], results #[], 58 slots) -/
def W117_0 : List Nat := [10, 11, 18, 19, 20, 21, 22, 23, 24, 25, 26, 27, 28, 29, 30, 31, 32, 33, 34, 35, 36, 37, 38, 39, 40, 41, 42, 43, 44, 45, 46, 47, 48, 49]
@[push_cast] theorem W117_0_def : W117_0 = [10, 11, 18, 19, 20, 21, 22, 23, 24, 25, 26, 27, 28, 29, 30, 31, 32, 33, 34, 35, 36, 37, 38, 39, 40, 41, 42, 43, 44, 45, 46, 47, 48, 49] := mk_eq rfl
def r117_0 : List VOp :=
  [mv 12 2 3,
   mv 13 1 3,
   ⟨some 14, .binOp .sub 3 (.tmp 12) (.tmp 13) 3, 3, none⟩,
   asg 10 14 3]
def r117_1 : List VOp :=
  [mv 15 3 3,
   mv 16 2 3,
   ⟨some 17, .binOp .sub 3 (.tmp 15) (.tmp 16) 3, 3, none⟩,
   asg 11 17 3]
def r117_2 : List VOp :=
  [mv 18 10 3,
   mv 19 11 3,
   ⟨some 20, .binOp .neq 3 (.tmp 18) (.tmp 19) 3, 4, none⟩]
def r117_3 : List VOp :=
  [mv 21 10 3,
   mv 22 11 3,
   ⟨some 23, .binOp .gtr 3 (.tmp 21) (.tmp 22) 3, 4, none⟩]
def r117_4 : List VOp :=
  [mv 24 0 25,
   mv 25 2 3,
   mv 26 10 3,
   ⟨some 27, .binOp .sub 3 (.tmp 25) (.tmp 26) 3, 3, none⟩,
   mv 28 2 3,
   mv 29 11 3,
   mv 30 4 58,
   ⟨some 31, .call ⟨.value (.func 122), #[.tmp 24, .tmp 27, .tmp 28, .tmp 29, .tmp 30], #[25, 3, 3, 3, 58]⟩, 0, none⟩]
def r117_5 : List VOp :=
  [mv 32 10 3,
   mv 33 11 3,
   ⟨some 34, .binOp .sub 3 (.tmp 32) (.tmp 33) 3, 3, none⟩,
   asg 10 34 3]
def r117_6 : List VOp :=
  [mv 35 0 25,
   mv 36 2 3,
   mv 37 10 3,
   ⟨some 38, .binOp .sub 3 (.tmp 36) (.tmp 37) 3, 3, none⟩,
   mv 39 2 3,
   mv 40 11 3,
   ⟨some 41, .binOp .add 3 (.tmp 39) (.tmp 40) 3, 3, none⟩,
   mv 42 10 3,
   ⟨some 43, .binOp .sub 3 (.tmp 41) (.tmp 42) 3, 3, none⟩,
   mv 44 10 3,
   mv 45 4 58,
   ⟨some 46, .call ⟨.value (.func 122), #[.tmp 35, .tmp 38, .tmp 43, .tmp 44, .tmp 45], #[25, 3, 3, 3, 58]⟩, 0, none⟩]
def r117_7 : List VOp :=
  [mv 47 11 3,
   mv 48 10 3,
   ⟨some 49, .binOp .sub 3 (.tmp 47) (.tmp 48) 3, 3, none⟩,
   asg 11 49 3]
def r117_8 : List VOp :=
  [mv 50 0 25,
   mv 51 2 3,
   mv 52 10 3,
   ⟨some 53, .binOp .sub 3 (.tmp 51) (.tmp 52) 3, 3, none⟩,
   mv 54 2 3,
   mv 55 10 3,
   mv 56 4 58,
   ⟨some 57, .call ⟨.value (.func 122), #[.tmp 50, .tmp 53, .tmp 54, .tmp 55, .tmp 56], #[25, 3, 3, 3, 58]⟩, 0, none⟩]
def B117 : VC :=
  (.seq (.region r117_0) (.seq (.region r117_1) (.seq (.block 0 (.loop (.seq (.seq (.region r117_2) (.cond (.tmp 20) .skip (.exit 0))) (.block 1 (.seq (.region r117_3) (.cond (.tmp 23) (.seq (.region r117_4) (.region r117_5)) (.seq (.region r117_6) (.region r117_7)))))))) (.region r117_8))))
theorem code117 : ∃ c, Try.f117.body = some c ∧ abs Try.f117.ntmps c = B117 := ⟨_, rfl, by kernel_rfl⟩
theorem hb117 : HasBody Try.prog 117 := hasBody_of Try.func117 (by kernel_rfl)
theorem res117 : Try.f117.results = #[] := rfl
theorem enter117 {w : World} {R : Value → World → Prop} (x0 x1 x2 x3 x4 : Value) (h : vc Try.prog B117 (retK Try.prog #[] R) [] (initEnv [x0, x1, x2, x3, x4] 0) w) : FnC Try.prog 117 #[x0, x1, x2, x3, x4] w R := by
  obtain ⟨c, h1, h2⟩ := code117
  exact hb117.fn (ret_of_vc mixed Try.func117 h1 (Nat.le_of_ble_eq_true rfl) B117 h2 h)
@[push_cast] theorem vr117_0 : VR r117_0 [⟨some 12, .move (.tmp 2), 3, none⟩, ⟨some 13, .move (.tmp 1), 3, none⟩, ⟨some 14, .binOp .sub 3 (.tmp 12) (.tmp 13) 3, 3, none⟩, ⟨some 10, .assign (.tmp 14), 3, none⟩] := vR rfl
@[push_cast] theorem vr117_1 : VR r117_1 [⟨some 15, .move (.tmp 3), 3, none⟩, ⟨some 16, .move (.tmp 2), 3, none⟩, ⟨some 17, .binOp .sub 3 (.tmp 15) (.tmp 16) 3, 3, none⟩, ⟨some 11, .assign (.tmp 17), 3, none⟩] := vR rfl
@[push_cast] theorem vr117_2 : VR r117_2 [⟨some 18, .move (.tmp 10), 3, none⟩, ⟨some 19, .move (.tmp 11), 3, none⟩, ⟨some 20, .binOp .neq 3 (.tmp 18) (.tmp 19) 3, 4, none⟩] := vR rfl
@[push_cast] theorem vr117_3 : VR r117_3 [⟨some 21, .move (.tmp 10), 3, none⟩, ⟨some 22, .move (.tmp 11), 3, none⟩, ⟨some 23, .binOp .gtr 3 (.tmp 21) (.tmp 22) 3, 4, none⟩] := vR rfl
@[push_cast] theorem vr117_4 : VR r117_4 [⟨some 24, .move (.tmp 0), 25, none⟩, ⟨some 25, .move (.tmp 2), 3, none⟩, ⟨some 26, .move (.tmp 10), 3, none⟩, ⟨some 27, .binOp .sub 3 (.tmp 25) (.tmp 26) 3, 3, none⟩, ⟨some 28, .move (.tmp 2), 3, none⟩, ⟨some 29, .move (.tmp 11), 3, none⟩, ⟨some 30, .move (.tmp 4), 58, none⟩, ⟨some 31, .call ⟨.value (.func 122), #[.tmp 24, .tmp 27, .tmp 28, .tmp 29, .tmp 30], #[25, 3, 3, 3, 58]⟩, 0, none⟩] := vR rfl
@[push_cast] theorem vr117_5 : VR r117_5 [⟨some 32, .move (.tmp 10), 3, none⟩, ⟨some 33, .move (.tmp 11), 3, none⟩, ⟨some 34, .binOp .sub 3 (.tmp 32) (.tmp 33) 3, 3, none⟩, ⟨some 10, .assign (.tmp 34), 3, none⟩] := vR rfl
@[push_cast] theorem vr117_6 : VR r117_6 [⟨some 35, .move (.tmp 0), 25, none⟩, ⟨some 36, .move (.tmp 2), 3, none⟩, ⟨some 37, .move (.tmp 10), 3, none⟩, ⟨some 38, .binOp .sub 3 (.tmp 36) (.tmp 37) 3, 3, none⟩, ⟨some 39, .move (.tmp 2), 3, none⟩, ⟨some 40, .move (.tmp 11), 3, none⟩, ⟨some 41, .binOp .add 3 (.tmp 39) (.tmp 40) 3, 3, none⟩, ⟨some 42, .move (.tmp 10), 3, none⟩, ⟨some 43, .binOp .sub 3 (.tmp 41) (.tmp 42) 3, 3, none⟩, ⟨some 44, .move (.tmp 10), 3, none⟩, ⟨some 45, .move (.tmp 4), 58, none⟩, ⟨some 46, .call ⟨.value (.func 122), #[.tmp 35, .tmp 38, .tmp 43, .tmp 44, .tmp 45], #[25, 3, 3, 3, 58]⟩, 0, none⟩] := vR rfl
@[push_cast] theorem vr117_7 : VR r117_7 [⟨some 47, .move (.tmp 11), 3, none⟩, ⟨some 48, .move (.tmp 10), 3, none⟩, ⟨some 49, .binOp .sub 3 (.tmp 47) (.tmp 48) 3, 3, none⟩, ⟨some 11, .assign (.tmp 49), 3, none⟩] := vR rfl
@[push_cast] theorem vr117_8 : VR r117_8 [⟨some 50, .move (.tmp 0), 25, none⟩, ⟨some 51, .move (.tmp 2), 3, none⟩, ⟨some 52, .move (.tmp 10), 3, none⟩, ⟨some 53, .binOp .sub 3 (.tmp 51) (.tmp 52) 3, 3, none⟩, ⟨some 54, .move (.tmp 2), 3, none⟩, ⟨some 55, .move (.tmp 10), 3, none⟩, ⟨some 56, .move (.tmp 4), 58, none⟩, ⟨some 57, .call ⟨.value (.func 122), #[.tmp 50, .tmp 53, .tmp 54, .tmp 55, .tmp 56], #[25, 3, 3, 3, 58]⟩, 0, none⟩] := vR rfl
/-! 122 slices.swapRangeCmpFunc[columbary/api.Row] (params #[25, 3, 3, 3, 58], results #[], 38 slots) -/
def W122_0 : List Nat := [10, 11, 12, 13, 14, 15, 16, 17, 18, 19, 20, 21, 22, 23, 24, 25, 26, 27, 28, 29, 30, 31, 32, 33, 34, 35, 36, 37]
@[push_cast] theorem W122_0_def : W122_0 = [10, 11, 12, 13, 14, 15, 16, 17, 18, 19, 20, 21, 22, 23, 24, 25, 26, 27, 28, 29, 30, 31, 32, 33, 34, 35, 36, 37] := mk_eq rfl
def r122_0 : List VOp :=
  [⟨some 10, .assign (.const (.int .i64 0)), 3, none⟩]
def r122_1 : List VOp :=
  [mv 11 10 3,
   mv 12 3 3,
   ⟨some 13, .binOp .lss 3 (.tmp 11) (.tmp 12) 3, 4, none⟩]
def r122_3 : List VOp :=
  [mv 16 0 25,
   mv 17 1 3,
   mv 18 10 3,
   ⟨some 19, .binOp .add 3 (.tmp 17) (.tmp 18) 3, 3, none⟩,
   mv 20 0 25,
   mv 21 2 3,
   mv 22 10 3,
   ⟨some 23, .binOp .add 3 (.tmp 21) (.tmp 22) 3, 3, none⟩,
   mv 24 0 25,
   mv 25 2 3,
   mv 26 10 3,
   ⟨some 27, .binOp .add 3 (.tmp 25) (.tmp 26) 3, 3, none⟩,
   iad 28 25 24 27,
   lda 29 35 28,
   mv 30 0 25,
   mv 31 1 3,
   mv 32 10 3,
   ⟨some 33, .binOp .add 3 (.tmp 31) (.tmp 32) 3, 3, none⟩,
   iad 34 25 30 33,
   lda 35 35 34,
   iad 36 25 16 19,
   ⟨none, .store 35 (.tmp 36) (.tmp 29), 0, none⟩,
   iad 37 25 20 23,
   ⟨none, .store 35 (.tmp 37) (.tmp 35), 0, none⟩]
def r122_2 : List VOp :=
  [mv 14 10 3,
   ⟨some 15, .binOp .add 3 (.tmp 14) (.const (.int .i64 1)) 3, 3, none⟩,
   asg 10 15 3]
def B122 : VC :=
  (.seq (.region r122_0) (.block 0 (.loop (.seq (.seq (.region r122_1) (.cond (.tmp 13) .skip (.exit 0))) (.seq (.block 1 (.drawS r122_3 3 [20, 21, 22, 23])) (.region r122_2))))))
theorem code122 : ∃ c, Try.f122.body = some c ∧ abs Try.f122.ntmps c = B122 := ⟨_, rfl, by kernel_rfl⟩
theorem hb122 : HasBody Try.prog 122 := hasBody_of Try.func122 (by kernel_rfl)
theorem res122 : Try.f122.results = #[] := rfl
theorem enter122 {w : World} {R : Value → World → Prop} (x0 x1 x2 x3 x4 : Value) (h : vc Try.prog B122 (retK Try.prog #[] R) [] (initEnv [x0, x1, x2, x3, x4] 0) w) : FnC Try.prog 122 #[x0, x1, x2, x3, x4] w R := by
  obtain ⟨c, h1, h2⟩ := code122
  exact hb122.fn (ret_of_vc mixed Try.func122 h1 (Nat.le_of_ble_eq_true rfl) B122 h2 h)
@[push_cast] theorem vr122_0 : VR r122_0 [⟨some 10, .assign (.const (.int .i64 0)), 3, none⟩] := vR rfl
@[push_cast] theorem vr122_1 : VR r122_1 [⟨some 11, .move (.tmp 10), 3, none⟩, ⟨some 12, .move (.tmp 3), 3, none⟩, ⟨some 13, .binOp .lss 3 (.tmp 11) (.tmp 12) 3, 4, none⟩] := vR rfl
@[push_cast] theorem vr122_3 : vc Try.prog (.drawS r122_3 3 [20, 21, 22, 23]) Q ds σ w = drawnS Try.prog [(⟨some 16, .move (.tmp 0), 25, none⟩, [0]), (⟨some 17, .move (.tmp 1), 3, none⟩, [1]), (⟨some 18, .move (.tmp 10), 3, none⟩, [10]), (⟨some 19, .binOp .add 3 (.tmp 17) (.tmp 18) 3, 3, none⟩, [17, 18]), (⟨some 20, .move (.tmp 0), 25, none⟩, [0]), (⟨some 21, .move (.tmp 2), 3, none⟩, [2]), (⟨some 22, .move (.tmp 10), 3, none⟩, [10]), (⟨some 23, .binOp .add 3 (.tmp 21) (.tmp 22) 3, 3, none⟩, [21, 22]), (⟨some 24, .move (.tmp 0), 25, none⟩, [0]), (⟨some 25, .move (.tmp 2), 3, none⟩, [2]), (⟨some 26, .move (.tmp 10), 3, none⟩, [10]), (⟨some 27, .binOp .add 3 (.tmp 25) (.tmp 26) 3, 3, none⟩, [25, 26]), (⟨some 28, .indexAddr 25 (.tmp 24) (.tmp 27), 0, none⟩, [24, 27]), (⟨some 29, .load 35 (.tmp 28), 35, none⟩, [28]), (⟨some 30, .move (.tmp 0), 25, none⟩, [0]), (⟨some 31, .move (.tmp 1), 3, none⟩, [1]), (⟨some 32, .move (.tmp 10), 3, none⟩, [10]), (⟨some 33, .binOp .add 3 (.tmp 31) (.tmp 32) 3, 3, none⟩, [31, 32]), (⟨some 34, .indexAddr 25 (.tmp 30) (.tmp 33), 0, none⟩, [30, 33]), (⟨some 35, .load 35 (.tmp 34), 35, none⟩, [34]), (⟨some 36, .indexAddr 25 (.tmp 16) (.tmp 19), 0, none⟩, [16, 19]), (⟨none, .store 35 (.tmp 36) (.tmp 29), 0, none⟩, [36, 29]), (⟨some 37, .indexAddr 25 (.tmp 20) (.tmp 23), 0, none⟩, [20, 23]), (⟨none, .store 35 (.tmp 37) (.tmp 35), 0, none⟩, [37, 35])] 3 [20, 21, 22, 23] (Q .normal ds) σ w := mk_eq rfl
@[push_cast] theorem vr122_2 : VR r122_2 [⟨some 14, .move (.tmp 10), 3, none⟩, ⟨some 15, .binOp .add 3 (.tmp 14) (.const (.int .i64 1)) 3, 3, none⟩, ⟨some 10, .assign (.tmp 15), 3, none⟩] := vR rfl
@[push_cast] theorem bsl22_20_CodesY {K : Value → World → Prop} {w : World} (x0 : ByteArray) (x1 : ByteArray) (x2 : ByteArray) (x3 : ByteArray) (x4 : ByteArray) (x5 : ByteArray) (x6 : ByteArray) (x7 : ByteArray) (x8 : ByteArray) (x9 : ByteArray) (x10 : ByteArray) (x11 : ByteArray) (x12 : ByteArray) (x13 : ByteArray) (x14 : ByteArray) (x15 : ByteArray) (x16 : ByteArray) (x17 : ByteArray) (x18 : ByteArray) (x19 : ByteArray) : vBuildSlice Try.prog 22 20 #[(0, (.string x0)), (1, (.string x1)), (2, (.string x2)), (3, (.string x3)), (4, (.string x4)), (5, (.string x5)), (6, (.string x6)), (7, (.string x7)), (8, (.string x8)), (9, (.string x9)), (10, (.string x10)), (11, (.string x11)), (12, (.string x12)), (13, (.string x13)), (14, (.string x14)), (15, (.string x15)), (16, (.string x16)), (17, (.string x17)), (18, (.string x18)), (19, (.string x19))] K w = K (.slice (some ⟨w.heap.size, 0, none⟩) 20 20) (w.alloc (.cells #[(.string x0), (.string x1), (.string x2), (.string x3), (.string x4), (.string x5), (.string x6), (.string x7), (.string x8), (.string x9), (.string x10), (.string x11), (.string x12), (.string x13), (.string x14), (.string x15), (.string x16), (.string x17), (.string x18), (.string x19)] 9)) :=
  vBuildSlice_ok Try.underlying22 ti9 (by kernel_rfl) (by decide)
@[push_cast] theorem bsl33_0_CodesY {K : Value → World → Prop} {w : World}  : vBuildSlice Try.prog 33 0 #[] K w = K (.slice (some ⟨w.heap.size, 0, none⟩) 0 0) (w.alloc (.cells #[] 64)) :=
  vBuildSlice_ok Try.underlying33 ti64 (by kernel_rfl) (by decide)
end Go.Proofs.Ythihbgpaoldbjaa
end
