/- The functions' code in the generator's form. Written by a program (codes.py) out of Lean's own print of the loaded translation. -/
import Derived.Laws.IdiomMaps
import Derived.Maps.RangeRun
import Derived.Test.YtcajkjbempagaaaPartG
set_option linter.all false
section
namespace Go.Proofs.Ytcajkjbempagaaa
open Go.Vc
set_option maxRecDepth 100000
variable (Q : Post) (ds : List Deferred) (σ : Env) (w : World)
/-! 7 columbary/columbarylaw19.Fits (params #[24, 33], results #[(.tmp 4)], 34 slots) -/
@[push_cast] def W7_0 : List Nat := [4, 5, 6, 11, 12, 13, 14, 15, 16, 17, 18, 19, 20, 21, 22, 23, 24, 25, 26]
abbrev r7_0 : List VOp :=
  [zBJ 2 24 0 0,
   zD 4]
abbrev r7_1 : List VOp :=
  [mv 8 1 33,
   zBO 9 8 33,
   zT 10 9 40]
abbrev r7_2 : List VOp :=
  [zD 4]
abbrev r7_3 : List VOp :=
  [zF 5 0 3]
abbrev r7_4 : List VOp :=
  [mv 11 5 3,
   mv 12 1 33,
   zBO 13 12 33,
   zY 14 11 13 4]
def r7_6 : List (VOp × List Nat) := [(⟨some 17, .load 24 (.tmp 2), 24, none⟩, [2]), (⟨some 18, .move (.tmp 1), 33, none⟩, [1]), (⟨some 19, .move (.tmp 5), 3, none⟩, [5]), (⟨some 20, .indexAddr 33 (.tmp 18) (.tmp 19), 0, none⟩, [18, 19]), (⟨some 21, .fieldAddr 43 (.tmp 20) 2, 0, none⟩, [20]), (⟨some 22, .load 41 (.tmp 21), 41, none⟩, [21]), (⟨some 23, .buildSlice 59 1 #[(0, (.tmp 22))], 59, none⟩, [22]), (⟨some 24, .call ⟨.value (.func 22), #[.tmp 17, .tmp 23], #[24, 59]⟩, 4, none⟩, [17, 23]), (⟨some 6, .assign (.tmp 24), 4, none⟩, [24])]
abbrev r7_7 : List VOp :=
  [mv 25 6 4,
   zCR 26 25]
abbrev r7_8 : List VOp :=
  [zD 4]
abbrev r7_5 : List VOp :=
  [mv 15 5 3,
   zK 16 15 1,
   asg 5 16 3]
abbrev r7_9 : List VOp :=
  [lda 27 24 2,
   ⟨some 28, .call ⟨.value (.func 22), #[(.tmp 27), (.const (.slice none 0 0))], #[24, 59]⟩, 4, none⟩,
   asg 7 28 4]
abbrev r7_10 : List VOp :=
  [mv 29 7 4,
   mv 30 29 4,
   zCH 31 24 2 30,
   ⟨some 32, .call ⟨.value (.func 23), #[.tmp 31], #[24]⟩, 4, some (30, true)⟩,
   zCO 33 30 32,
   asg 4 33 4]
def B7 : VC :=
  (.seq (.region r7_0) (.seq (.seq (.region r7_1) (.cond (.tmp 10) (.seq (.region r7_2) .ret) .skip)) (.seq (.seq (.region r7_3) (.block 0 (.loop (.seq (.seq (.region r7_4) (.cond (.tmp 14) .skip (.exit 0))) (.seq (.block 1 (.seq (.draw (dzR r7_6) 3) (.seq (.region r7_7) (.cond (.tmp 26) (.seq (.region r7_8) .ret) .skip)))) (.region r7_5)))))) (.seq (.region r7_9) (.seq (.region r7_10) .ret)))))
theorem code7 : ∃ c, Try.f7.body = some c ∧ abs Try.f7.ntmps c = B7 := ⟨_, rfl, by kernel_rfl⟩
theorem hb7 : HasBody Try.prog 7 := hasBody_of Try.func7 (by kernel_rfl)
theorem enter7 (x0 x1 : Value) : Ent 7 B7 #[(.tmp 4)] [x0, x1] := ent code7 hb7 Try.func7 rfl rfl
@[push_cast] def vr7_6 := vzD r7_6.eq_1 rfl 3
/-! 8 columbary/columbarylaw19.alive (params #[], results #[(.tmp 0)], 81 slots) -/
abbrev r8_0 : List VOp :=
  [zD 0]
abbrev r8_1 : List VOp :=
  [zBR 10 1000,
   mv 9 10 30,
   ext 11 9 0 28,
   ext 12 9 1 29,
   asg 1 11 28,
   asg 2 12 29]
abbrev r8_2 : List VOp :=
  [mv 13 2 29,
   zBA 14 13 0,
   mv 15 14 4,
   zCJ 16 1 28 15,
   zQ 17 28 16 4 15,
   zCN 18 15 17]
abbrev r8_3 : List VOp :=
  [zD 0]
abbrev r8_4 : List VOp :=
  [mv 19 1 28,
   zBZ 20 24 24,
   ⟨some 21, .buildSlice 22 1 #[(0, (.const (.string { data := #[120] })))], 22, none⟩,
   ⟨some 22, .buildSlice 39 1 #[(0, (.const (.int .i64 (-4))))], 39, none⟩,
   ⟨some 23, .build 41 #[(0, (.const (.int .i64 3))), (1, (.tmp 21)), (2, (.tmp 22))], 41, none⟩,
   zBK 24 43 2 23,
   ⟨some 25, .call { callee := (.value (.func 17)), args := #[(.tmp 19), (.const (.string { data := #[108, 111, 103] })), (.tmp 20), (.tmp 24)], argTypes := #[28, 9, 24, 43] }, 29, none⟩,
   asg 3 25 29]
abbrev r8_5 : List VOp :=
  [mv 26 1 28,
   zBZ 27 24 24,
   ⟨some 28, .build 43 #[(0, (.const (.bool true))), (1, (.const (.int .i64 9)))], 43, none⟩,
   ⟨some 29, .call { callee := (.value (.func 17)), args := #[(.tmp 26), (.const (.string { data := #[108, 111, 103] })), (.tmp 27), (.tmp 28)], argTypes := #[28, 9, 24, 43] }, 29, none⟩,
   asg 4 29 29]
abbrev r8_6 : List VOp :=
  [mv 31 1 28,
   zBZ 32 24 24,
   ⟨some 33, .call { callee := (.value (.func 11)), args := #[(.tmp 31), (.const (.string { data := #[108, 111, 103] })), (.tmp 32)], argTypes := #[28, 9, 24] }, 34, none⟩,
   mv 30 33 34,
   ext 34 30 0 33,
   ext 35 30 1 3,
   asg 5 34 33,
   asg 6 35 3]
abbrev r8_7 : List VOp :=
  [mv 37 1 28,
   ⟨some 38, .call { callee := (.value (.func 25)), args := #[(.tmp 37), (.const (.string { data := #[108, 111, 103] }))], argTypes := #[28, 9] }, 62, none⟩,
   mv 36 38 62,
   ext 39 36 0 25,
   ext 40 36 1 4,
   asg 7 39 25,
   asg 8 40 4]
abbrev r8_8 : List VOp :=
  [mv 41 3 29,
   zM 42 29 41 0,
   mv 43 42 4,
   zCK 44 4 29 43,
   zN 45 29 44 0 43,
   zCO 46 43 45,
   mv 47 46 4,
   zCK 48 5 33 47,
   zBQ 49 48 33 47,
   zN 50 3 49 2 47,
   zCO 51 47 50,
   mv 52 51 4,
   zCK 53 6 3 52,
   zCK 54 7 25 52,
   zBQ 55 54 25 52,
   zR 56 3 53 55 52,
   zCO 57 52 56,
   mv 58 57 4,
   zCK 59 5 33 58,
   zCF 60 33 59 0 58,
   zCC 61 43 60 2 58,
   zCC 62 41 61 2 58,
   zCH 63 39 62 58,
   zCF 64 39 63 0 58,
   zCH 65 3 64 58,
   ⟨some 66, .binOp .eql 3 (.tmp 65) (.const (.int .i64 (-4))) 3, 4, some (58, true)⟩,
   zCO 67 58 66,
   mv 68 67 4,
   zCK 69 5 33 68,
   zCF 70 33 69 1 68,
   zCC 71 43 70 0 68,
   zCH 72 4 71 68,
   zCO 73 68 72,
   mv 74 73 4,
   zCK 75 5 33 74,
   zCF 76 33 75 1 74,
   zCC 77 43 76 1 74,
   zCH 78 3 77 74,
   zN 79 3 78 9 74,
   zCO 80 74 79,
   asg 0 80 4]
def B8 : VC :=
  (.seq (.region r8_0) (.seq (.region r8_1) (.seq (.seq (.region r8_2) (.cond (.tmp 18) (.seq (.region r8_3) .ret) .skip)) (.seq (.region r8_4) (.seq (.region r8_5) (.seq (.region r8_6) (.seq (.region r8_7) (.seq (.region r8_8) .ret))))))))
theorem code8 : ∃ c, Try.f8.body = some c ∧ abs Try.f8.ntmps c = B8 := ⟨_, rfl, by kernel_rfl⟩
theorem hb8 : HasBody Try.prog 8 := hasBody_of Try.func8 (by kernel_rfl)
theorem enter8 : Ent 8 B8 #[(.tmp 0)] [] := ent code8 hb8 Try.func8 rfl rfl
/-! 11 columbary/journal.Read (params #[28, 9, 24], results #[(.tmp 6), (.tmp 7)], 51 slots) -/
@[push_cast] def W11_0 : List Nat := [6, 7, 10, 11, 12, 13, 14, 15, 22, 23, 24, 25, 26, 27, 28, 29, 30, 31, 32, 33, 34, 35, 36, 37, 38, 39, 40, 41, 42, 43, 44, 45, 46, 47, 48, 49, 50]
abbrev r11_0 : List VOp :=
  [zBJ 5 24 2 0,
   zJ 6 33,
   zF 7 0 3]
abbrev r11_1 : List VOp :=
  [mv 17 0 28,
   mv 18 1 9,
   zBV 19 25 17 18 28 9 62,
   mv 16 19 62,
   ext 20 16 0 25,
   ext 21 16 1 4,
   asg 8 20 25,
   asg 9 21 4]
abbrev r11_2 : List VOp :=
  [zJ 10 33]
abbrev r11_3 : List VOp :=
  [zF 11 0 3]
abbrev r11_4 : List VOp :=
  [mv 23 8 25,
   mv 24 11 3,
   zCP 25 25 23 24,
   zBX 26 30 25 25 74,
   mv 22 26 74,
   ext 27 22 0 25,
   ext 28 22 1 3,
   ext 29 22 2 29,
   asg 12 27 25,
   asg 13 28 3,
   asg 14 29 29]
abbrev r11_5 : List VOp :=
  [mv 30 14 29,
   zBA 31 30 0]
abbrev r11_6 : List VOp :=
  [mv 32 10 33,
   mv 33 11 3,
   asg 6 32 33,
   asg 7 33 3]
abbrev r11_7 : List VOp :=
  [lda 35 24 5,
   mv 36 12 25,
   zBV 37 15 35 36 24 25 47,
   mv 34 37 47,
   ext 38 34 0 43,
   ext 39 34 1 29,
   zC 15 43,
   zB 43 15 38,
   asg 14 39 29]
abbrev r11_8 : List VOp :=
  [mv 40 14 29,
   zBA 41 40 0]
abbrev r11_9 : List VOp :=
  [mv 42 10 33,
   mv 43 11 3,
   asg 6 42 33,
   asg 7 43 3]
abbrev r11_10 : List VOp :=
  [mv 44 10 33,
   lda 45 43 15,
   zBM 46 33 45,
   zBN 47 44 46 33 33,
   mv 48 11 3,
   mv 49 13 3,
   zL 50 3 48 49,
   asg 10 47 33,
   asg 11 50 3]
def B11 : VC :=
  (.seq (.region r11_0) (.seq (.region r11_1) (.seq (.region r11_2) (.seq (.region r11_3) (.block 0 (.loop (.block 1 (.seq (.region r11_4) (.seq (.seq (.region r11_5) (.cond (.tmp 31) (.seq (.region r11_6) .ret) .skip)) (.seq (.region r11_7) (.seq (.seq (.region r11_8) (.cond (.tmp 41) (.seq (.region r11_9) .ret) .skip)) (.region r11_10))))))))))))
theorem code11 : ∃ c, Try.f11.body = some c ∧ abs Try.f11.ntmps c = B11 := ⟨_, rfl, by kernel_rfl⟩
theorem hb11 : HasBody Try.prog 11 := hasBody_of Try.func11 (by kernel_rfl)
theorem enter11 (x0 x1 x2 : Value) : Ent 11 B11 #[(.tmp 6), (.tmp 7)] [x0, x1, x2] := ent code11 hb11 Try.func11 rfl rfl
/-! 12 columbary/columbaryref19.Entries (params #[25, 24], results #[(.tmp 4), (.tmp 5)], 55 slots) -/
@[push_cast] def W12_0 : List Nat := [6, 7, 10, 11, 12, 13, 14, 20, 21, 22, 23, 24, 25, 26, 27, 28, 29, 30, 31, 32, 33, 34, 35, 36, 37, 38, 39, 40, 41, 42, 43, 44, 45, 46, 47, 48, 49, 50, 51, 52]
abbrev r12_0 : List VOp :=
  [zBJ 3 24 1 0,
   zJ 4 33,
   zF 5 0 3]
abbrev r12_1 : List VOp :=
  [zJ 6 33]
abbrev r12_2 : List VOp :=
  [zF 7 0 3]
abbrev r12_3 : List VOp :=
  [mv 16 0 25,
   zBX 17 31 16 25 77,
   mv 15 17 77,
   ext 18 15 0 76,
   ext 19 15 1 3,
   asg 8 18 76,
   asg 9 19 3]
abbrev r12_4 : List VOp :=
  [zF 10 0 3]
abbrev r12_5 : List VOp :=
  [mv 20 10 3,
   mv 21 8 76,
   zBO 22 21 76,
   zY 23 20 22 4]
def r12_7 : List (VOp × List Nat) := [(⟨some 27, .load 24 (.tmp 3), 24, none⟩, [3]), (⟨some 28, .move (.tmp 8), 76, none⟩, [8]), (⟨some 29, .move (.tmp 10), 3, none⟩, [10]), (⟨some 30, .indexAddr 76 (.tmp 28) (.tmp 29), 0, none⟩, [28, 29]), (⟨some 31, .load 25 (.tmp 30), 25, none⟩, [30]), (⟨some 32, .call ⟨.value (.func 32), #[.tmp 27, .tmp 31], #[24, 25]⟩, 47, none⟩, [27, 31]), (⟨some 26, .move (.tmp 32), 47, none⟩, [32]), (⟨some 33, .extract (.tmp 26) 0, 43, none⟩, [26]), (⟨some 34, .extract (.tmp 26) 1, 29, none⟩, [26]), (⟨some 11, .alloc 43, 0, none⟩, []), (⟨none, .store 43 (.tmp 11) (.tmp 33), 0, none⟩, [11, 33]), (⟨some 12, .assign (.tmp 34), 29, none⟩, [34])]
abbrev r12_8 : List VOp :=
  [mv 35 12 29,
   zBA 36 35 0]
abbrev r12_9 : List VOp :=
  [mv 38 8 76,
   mv 39 10 3,
   iad 40 76 38 39,
   lda 41 25 40,
   zBX 42 33 41 25 45,
   mv 37 42 45,
   ext 43 37 0 25,
   ext 44 37 1 29,
   asg 13 43 25,
   asg 14 44 29]
abbrev r12_10 : List VOp :=
  [mv 45 6 33,
   lda 46 43 11,
   zBM 47 33 46,
   zBN 48 45 47 33 33,
   asg 6 48 33]
abbrev r12_11 : List VOp :=
  [mv 49 7 3,
   mv 50 13 25,
   zBO 51 50 25,
   zL 52 3 49 51,
   asg 7 52 3]
abbrev r12_6 : List VOp :=
  [mv 24 10 3,
   zK 25 24 1,
   asg 10 25 3]
abbrev r12_12 : List VOp :=
  [mv 53 6 33,
   mv 54 7 3,
   asg 4 53 33,
   asg 5 54 3]
def B12 : VC :=
  (.seq (.region r12_0) (.seq (.region r12_1) (.seq (.region r12_2) (.seq (.region r12_3) (.seq (.seq (.region r12_4) (.block 0 (.loop (.seq (.seq (.region r12_5) (.cond (.tmp 23) .skip (.exit 0))) (.seq (.block 1 (.seq (.drawS (dzR r12_7) 2 [34]) (.seq (.seq (.region r12_8) (.cond (.tmp 36) (.exit 0) .skip)) (.seq (.region r12_9) (.seq (.region r12_10) (.region r12_11)))))) (.region r12_6)))))) (.seq (.region r12_12) .ret))))))
theorem code12 : ∃ c, Try.f12.body = some c ∧ abs Try.f12.ntmps c = B12 := ⟨_, rfl, by kernel_rfl⟩
theorem hb12 : HasBody Try.prog 12 := hasBody_of Try.func12 (by kernel_rfl)
theorem enter12 (x0 x1 : Value) : Ent 12 B12 #[(.tmp 4), (.tmp 5)] [x0, x1] := ent code12 hb12 Try.func12 rfl rfl
@[push_cast] def vr12_7 := vzS r12_7.eq_1 rfl 2 [34]
/-! 13 columbary/columbaryref19.Same (params #[33, 33], results #[(.tmp 4)], 29 slots) -/
@[push_cast] def W13_0 : List Nat := [4, 5, 6, 12, 13, 14, 15, 16, 17, 18, 19, 20, 21, 22, 23, 24, 25, 26, 27, 28]
abbrev r13_0 : List VOp :=
  [zD 4]
abbrev r13_1 : List VOp :=
  [mv 7 0 33,
   zBO 8 7 33,
   mv 9 1 33,
   zBO 10 9 33,
   zBC 11 3 8 10]
abbrev r13_2 : List VOp :=
  [zD 4]
abbrev r13_3 : List VOp :=
  [zF 5 0 3]
abbrev r13_4 : List VOp :=
  [mv 12 5 3,
   mv 13 0 33,
   zBO 14 13 33,
   zY 15 12 14 4]
def r13_6 : List (VOp × List Nat) := [(⟨some 18, .move (.tmp 0), 33, none⟩, [0]), (⟨some 19, .move (.tmp 5), 3, none⟩, [5]), (⟨some 20, .indexAddr 33 (.tmp 18) (.tmp 19), 0, none⟩, [18, 19]), (⟨some 21, .load 43 (.tmp 20), 43, none⟩, [20]), (⟨some 22, .move (.tmp 1), 33, none⟩, [1]), (⟨some 23, .move (.tmp 5), 3, none⟩, [5]), (⟨some 24, .indexAddr 33 (.tmp 22) (.tmp 23), 0, none⟩, [22, 23]), (⟨some 25, .load 43 (.tmp 24), 43, none⟩, [24]), (⟨some 26, .call ⟨.value (.func 16), #[.tmp 21, .tmp 25], #[43, 43]⟩, 4, none⟩, [21, 25]), (⟨some 6, .assign (.tmp 26), 4, none⟩, [26])]
abbrev r13_7 : List VOp :=
  [mv 27 6 4,
   zCR 28 27]
abbrev r13_8 : List VOp :=
  [zD 4]
abbrev r13_5 : List VOp :=
  [mv 16 5 3,
   zK 17 16 1,
   asg 5 17 3]
abbrev r13_9 : List VOp :=
  [zE 4]
def B13 : VC :=
  (.seq (.region r13_0) (.seq (.seq (.region r13_1) (.cond (.tmp 11) (.seq (.region r13_2) .ret) .skip)) (.seq (.seq (.region r13_3) (.block 0 (.loop (.seq (.seq (.region r13_4) (.cond (.tmp 15) .skip (.exit 0))) (.seq (.block 1 (.seq (.draw (dzR r13_6) 3) (.seq (.region r13_7) (.cond (.tmp 28) (.seq (.region r13_8) .ret) .skip)))) (.region r13_5)))))) (.seq (.region r13_9) .ret))))
theorem code13 : ∃ c, Try.f13.body = some c ∧ abs Try.f13.ntmps c = B13 := ⟨_, rfl, by kernel_rfl⟩
theorem hb13 : HasBody Try.prog 13 := hasBody_of Try.func13 (by kernel_rfl)
theorem enter13 (x0 x1 : Value) : Ent 13 B13 #[(.tmp 4)] [x0, x1] := ent code13 hb13 Try.func13 rfl rfl
@[push_cast] def vr13_6 := vzD r13_6.eq_1 rfl 3
/-! 14 columbary/journal.Encode (params #[24, 43], results #[(.tmp 4), (.tmp 5)], 53 slots) -/
@[push_cast] def W14_0 : List Nat := [6, 8, 32, 33, 34, 35, 36, 37, 38, 39]
@[push_cast] def W14_1 : List Nat := [6, 10, 44, 45, 46, 47, 48, 49, 50, 51]
abbrev r14_0 : List VOp :=
  [zBJ 2 24 0 0,
   zBJ 3 43 1 0,
   zJ 4 25,
   zF 5 0 29]
abbrev r14_1 : List VOp :=
  [lda 12 24 2,
   lda 13 43 3,
   zBV 14 34 12 13 24 43 4,
   zCR 15 14,
   asg 11 15 4]
abbrev r14_2 : List VOp :=
  [zJ 4 25,
   zF 5 191 29]
abbrev r14_3 : List VOp :=
  [fad 17 43 3 0,
   lda 18 4 17,
   asg 16 18 4]
def r14_4 : List (VOp × List Nat) := [(⟨some 19, .call ⟨.value (.func 35), #[(.const (.slice none 0 0)), (.const (.int .i64 1))], #[25, 3]⟩, 25, none⟩, []), (⟨some 20, .fieldAddr 43 (.tmp 3) 1, 0, none⟩, [3]), (⟨some 21, .load 3 (.tmp 20), 3, none⟩, [20]), (⟨some 22, .call ⟨.value (.func 35), #[.tmp 19, .tmp 21], #[25, 3]⟩, 25, none⟩, [19, 21]), (⟨some 4, .assign (.tmp 22), 25, none⟩, [22]), (⟨some 5, .assign (.const (.int .i64 0)), 29, none⟩, [])]
def r14_5 : List (VOp × List Nat) := [(⟨some 23, .call ⟨.value (.func 35), #[(.const (.slice none 0 0)), (.const (.int .i64 0))], #[25, 3]⟩, 25, none⟩, []), (⟨some 24, .fieldAddr 43 (.tmp 3) 2, 0, none⟩, [3]), (⟨some 25, .fieldAddr 41 (.tmp 24) 0, 0, none⟩, [24]), (⟨some 26, .load 3 (.tmp 25), 3, none⟩, [25]), (⟨some 27, .call ⟨.value (.func 35), #[.tmp 23, .tmp 26], #[25, 3]⟩, 25, none⟩, [23, 26]), (⟨some 6, .assign (.tmp 27), 25, none⟩, [27])]
abbrev r14_6 : List VOp :=
  [fad 28 43 3 2,
   fad 29 41 28 1,
   lda 30 22 29,
   zBO 31 30 22,
   zCI 32]
abbrev r14_7 : List VOp :=
  [zY 33 32 31 0]
abbrev r14_8 : List VOp :=
  [iad 34 22 30 32,
   lda 35 9 34,
   asg 8 35 9]
abbrev r14_9 : List VOp :=
  [mv 36 6 25,
   mv 37 8 9,
   zBV 38 36 36 37 25 9 25,
   asg 6 38 25]
abbrev r14_10 : List VOp :=
  [zK 39 32 1,
   mv 32 39 3]
abbrev r14_11 : List VOp :=
  [fad 40 43 3 2,
   fad 41 41 40 2,
   lda 42 39 41,
   zBO 43 42 39,
   zCI 44]
abbrev r14_12 : List VOp :=
  [zY 45 44 43 0]
abbrev r14_13 : List VOp :=
  [iad 46 39 42 44,
   lda 47 3 46,
   asg 10 47 3]
abbrev r14_14 : List VOp :=
  [mv 48 6 25,
   mv 49 10 3,
   zBV 50 35 48 49 25 3 25,
   asg 6 50 25]
abbrev r14_15 : List VOp :=
  [zK 51 44 1,
   mv 44 51 3]
abbrev r14_16 : List VOp :=
  [mv 52 6 25,
   asg 4 52 25,
   zF 5 0 29]
def B14 : VC :=
  (.seq (.region r14_0) (.seq (.block 0 (.seq (.region r14_1) (.cond (.tmp 11) (.seq (.region r14_2) .ret) (.seq (.region r14_3) (.cond (.tmp 16) (.seq (.draw (dzR r14_4) 4) .ret) .skip))))) (.seq (.draw (dzR r14_5) 3) (.seq (.seq (.region r14_6) (.block 1 (.loop (.seq (.region r14_7) (.seq (.cond (.tmp 33) .skip (.exit 1)) (.seq (.block 2 (.seq (.region r14_8) (.region r14_9))) (.region r14_10))))))) (.seq (.seq (.region r14_11) (.block 3 (.loop (.seq (.region r14_12) (.seq (.cond (.tmp 45) .skip (.exit 3)) (.seq (.block 4 (.seq (.region r14_13) (.region r14_14))) (.region r14_15))))))) (.seq (.region r14_16) .ret))))))
theorem code14 : ∃ c, Try.f14.body = some c ∧ abs Try.f14.ntmps c = B14 := ⟨_, rfl, by kernel_rfl⟩
theorem hb14 : HasBody Try.prog 14 := hasBody_of Try.func14 (by kernel_rfl)
theorem enter14 (x0 x1 : Value) : Ent 14 B14 #[(.tmp 4), (.tmp 5)] [x0, x1] := ent code14 hb14 Try.func14 rfl rfl
@[push_cast] def vr14_4 := vzD r14_4.eq_1 rfl 4
@[push_cast] def vr14_5 := vzD r14_5.eq_1 rfl 3
/-! 16 columbary/columbaryref19.One (params #[43, 43], results #[(.tmp 4)], 48 slots) -/
abbrev r16_0 : List VOp :=
  [zBJ 2 43 0 0,
   zBJ 3 43 1 0,
   zD 4]
abbrev r16_1 : List VOp :=
  [fad 7 43 2 2,
   fad 8 41 7 1,
   lda 9 22 8,
   fad 10 43 3 2,
   fad 11 41 10 1,
   lda 12 22 11,
   zBV 13 41 9 12 22 22 4,
   asg 5 13 4]
abbrev r16_2 : List VOp :=
  [fad 14 43 2 2,
   fad 15 41 14 2,
   lda 16 39 15,
   fad 17 43 3 2,
   fad 18 41 17 2,
   lda 19 39 18,
   zBV 20 42 16 19 39 39 4,
   asg 6 20 4]
abbrev r16_3 : List VOp :=
  [mv 21 5 4,
   mv 22 21 4,
   zCK 23 6 4 22,
   zCO 24 22 23,
   mv 25 24 4,
   zCC 26 43 2 0 25,
   zCH 27 4 26 25,
   zCC 28 43 3 0 25,
   zCH 29 4 28 25,
   zR 30 4 27 29 25,
   zCO 31 25 30,
   mv 32 31 4,
   zCC 33 43 2 1 32,
   zCH 34 3 33 32,
   zCC 35 43 3 1 32,
   zCH 36 3 35 32,
   zR 37 3 34 36 32,
   zCO 38 32 37,
   mv 39 38 4,
   zCC 40 43 2 2 39,
   zCC 41 41 40 0 39,
   zCH 42 3 41 39,
   zCC 43 43 3 2 39,
   zCC 44 41 43 0 39,
   zCH 45 3 44 39,
   zR 46 3 42 45 39,
   zCO 47 39 46,
   asg 4 47 4]
def B16 : VC :=
  (.seq (.region r16_0) (.seq (.region r16_1) (.seq (.region r16_2) (.seq (.region r16_3) .ret))))
theorem code16 : ∃ c, Try.f16.body = some c ∧ abs Try.f16.ntmps c = B16 := ⟨_, rfl, by kernel_rfl⟩
theorem hb16 : HasBody Try.prog 16 := hasBody_of Try.func16 (by kernel_rfl)
theorem enter16 (x0 x1 : Value) : Ent 16 B16 #[(.tmp 4)] [x0, x1] := ent code16 hb16 Try.func16 rfl rfl
/-! 17 columbary/journal.Append (params #[28, 9, 24, 43], results #[(.tmp 8)], 38 slots) -/
abbrev r17_0 : List VOp :=
  [zBJ 6 24 2 0,
   zBJ 7 43 3 0,
   zF 8 0 29]
abbrev r17_1 : List VOp :=
  [lda 15 24 6,
   lda 16 43 7,
   zBV 17 14 15 16 24 43 45,
   mv 14 17 45,
   ext 18 14 0 25,
   ext 19 14 1 29,
   asg 9 18 25,
   asg 10 19 29]
abbrev r17_2 : List VOp :=
  [mv 20 10 29,
   zBA 21 20 0]
abbrev r17_3 : List VOp :=
  [mv 22 10 29,
   asg 8 22 29]
abbrev r17_4 : List VOp :=
  [mv 24 9 25,
   zBX 25 43 24 25 45,
   mv 23 25 45,
   ext 26 23 0 25,
   ext 27 23 1 29,
   asg 11 26 25,
   asg 12 27 29]
abbrev r17_5 : List VOp :=
  [mv 28 0 28,
   mv 29 1 9,
   mv 30 11 25,
   zBU 31 10 28 29 30 28 9 25 29,
   asg 13 31 29]
abbrev r17_6 : List VOp :=
  [mv 32 13 29,
   zBA 33 32 0]
abbrev r17_7 : List VOp :=
  [mv 34 13 29,
   asg 8 34 29]
abbrev r17_8 : List VOp :=
  [mv 35 0 28,
   mv 36 1 9,
   zBV 37 44 35 36 28 9 29,
   asg 8 37 29]
def B17 : VC :=
  (.seq (.region r17_0) (.seq (.region r17_1) (.seq (.seq (.region r17_2) (.cond (.tmp 21) (.seq (.region r17_3) .ret) .skip)) (.seq (.region r17_4) (.seq (.seq (.region r17_5) (.seq (.region r17_6) (.cond (.tmp 33) (.seq (.region r17_7) .ret) .skip))) (.seq (.region r17_8) .ret))))))
theorem code17 : ∃ c, Try.f17.body = some c ∧ abs Try.f17.ntmps c = B17 := ⟨_, rfl, by kernel_rfl⟩
theorem hb17 : HasBody Try.prog 17 := hasBody_of Try.func17 (by kernel_rfl)
theorem enter17 (x0 x1 x2 x3 : Value) : Ent 17 B17 #[(.tmp 8)] [x0, x1, x2, x3] := ent code17 hb17 Try.func17 rfl rfl
/-! 19 columbary/columbaryref19.Right (params #[24, 43], results #[(.tmp 4)], 45 slots) -/
abbrev r19_0 : List VOp :=
  [zBJ 2 24 0 0,
   zBJ 3 43 1 0,
   zD 4]
abbrev r19_1 : List VOp :=
  [fad 5 43 3 0,
   lda 6 4 5]
abbrev r19_2 : List VOp :=
  [fad 7 43 3 1,
   lda 8 3 7,
   zS 9 8 0,
   mv 10 9 4,
   zCC 11 43 3 1 10,
   zCH 12 3 11 10,
   zW 13 12 1099511627776 10,
   zCO 14 10 13,
   mv 15 14 4,
   zCC 16 43 3 2 15,
   zCC 17 41 16 0 15,
   zCH 18 3 17 15,
   zN 19 3 18 0 15,
   zCO 20 15 19,
   mv 21 20 4,
   zCC 22 43 3 2 21,
   zCC 23 41 22 1 21,
   zCH 24 22 23 21,
   zBQ 25 24 22 21,
   zN 26 3 25 0 21,
   zCO 27 21 26,
   mv 28 27 4,
   zCC 29 43 3 2 28,
   zCC 30 41 29 2 28,
   zCH 31 39 30 28,
   zBQ 32 31 39 28,
   zN 33 3 32 0 28,
   zCO 34 28 33,
   asg 4 34 4]
abbrev r19_3 : List VOp :=
  [fad 35 43 3 1,
   lda 36 3 35,
   zM 37 3 36 0,
   mv 38 37 4,
   zCH 39 24 2 38,
   zCC 40 43 3 2 38,
   zCH 41 41 40 38,
   zBW 42 45 39 41 24 41 29 38,
   zN 43 29 42 0 38,
   zCO 44 38 43,
   asg 4 44 4]
def B19 : VC :=
  (.seq (.region r19_0) (.seq (.seq (.region r19_1) (.cond (.tmp 6) (.seq (.region r19_2) .ret) .skip)) (.seq (.region r19_3) .ret)))
theorem code19 : ∃ c, Try.f19.body = some c ∧ abs Try.f19.ntmps c = B19 := ⟨_, rfl, by kernel_rfl⟩
theorem hb19 : HasBody Try.prog 19 := hasBody_of Try.func19 (by kernel_rfl)
theorem enter19 (x0 x1 : Value) : Ent 19 B19 #[(.tmp 4)] [x0, x1] := ent code19 hb19 Try.func19 rfl rfl
/-! 22 columbary/columbarylaw18.Fits (params #[24, 59], results #[(.tmp 4)], 49 slots) -/
@[push_cast] def W22_0 : List Nat := [4, 7, 8, 26, 27, 28, 29, 30, 31, 32, 33, 34, 35, 36, 37, 38, 39, 40, 41, 42, 43, 44, 45, 46, 47, 48]
abbrev r22_0 : List VOp :=
  [zBJ 2 24 0 0,
   zD 4]
abbrev r22_1 : List VOp :=
  [fad 9 24 2 0,
   lda 10 22 9,
   zBX 11 47 10 22 4,
   asg 5 11 4]
abbrev r22_2 : List VOp :=
  [fad 12 24 2 1,
   lda 13 22 12,
   zBX 14 47 13 22 4,
   asg 6 14 4]
abbrev r22_3 : List VOp :=
  [mv 15 5 4,
   zCR 16 15,
   mv 17 16 4,
   zCJ 18 6 4 17,
   zCS 19 18 17,
   zCN 20 17 19,
   mv 21 20 4,
   zCJ 22 1 59 21,
   zBP 23 22 59 21,
   zU 24 23 60 21,
   zCN 25 21 24]
abbrev r22_4 : List VOp :=
  [zD 4]
abbrev r22_5 : List VOp :=
  [zF 7 0 3]
abbrev r22_6 : List VOp :=
  [mv 26 7 3,
   mv 27 1 59,
   zBO 28 27 59,
   zY 29 26 28 4]
abbrev r22_8 : List VOp :=
  [mv 32 1 59,
   mv 33 7 3,
   iad 34 59 32 33,
   fad 35 41 34 1,
   lda 36 22 35,
   zBX 37 47 36 22 4,
   asg 8 37 4]
abbrev r22_9 : List VOp :=
  [mv 38 8 4,
   zCR 39 38,
   mv 40 39 4,
   zCJ 41 1 59 40,
   zCJ 42 7 3 40,
   ⟨some 43, .indexAddr 59 (.tmp 41) (.tmp 42), 0, some (40, false)⟩,
   zCB 44 41 43 2 40,
   zCG 45 39 44 40,
   zBP 46 45 39 40,
   zU 47 46 20 40,
   zCN 48 40 47]
abbrev r22_10 : List VOp :=
  [zD 4]
abbrev r22_7 : List VOp :=
  [mv 30 7 3,
   zK 31 30 1,
   asg 7 31 3]
abbrev r22_11 : List VOp :=
  [zE 4]
def B22 : VC :=
  (.seq (.region r22_0) (.seq (.region r22_1) (.seq (.region r22_2) (.seq (.seq (.region r22_3) (.cond (.tmp 25) (.seq (.region r22_4) .ret) .skip)) (.seq (.seq (.region r22_5) (.block 0 (.loop (.seq (.seq (.region r22_6) (.cond (.tmp 29) .skip (.exit 0))) (.seq (.block 1 (.seq (.region r22_8) (.seq (.region r22_9) (.cond (.tmp 48) (.seq (.region r22_10) .ret) .skip)))) (.region r22_7)))))) (.seq (.region r22_11) .ret))))))
theorem code22 : ∃ c, Try.f22.body = some c ∧ abs Try.f22.ntmps c = B22 := ⟨_, rfl, by kernel_rfl⟩
theorem hb22 : HasBody Try.prog 22 := hasBody_of Try.func22 (by kernel_rfl)
theorem enter22 (x0 x1 : Value) : Ent 22 B22 #[(.tmp 4)] [x0, x1] := ent code22 hb22 Try.func22 rfl rfl
/-! 24 columbary/columbarylaw19.one (params #[], results #[(.cell 0 24)], 4 slots) -/
abbrev r24_0 : List VOp :=
  [zC 0 24]
abbrev r24_1 : List VOp :=
  [⟨some 1, .buildSlice 22 1 #[(0, (.const (.string { data := #[97] })))], 22, none⟩,
   ⟨some 2, .buildSlice 22 1 #[(0, (.const (.string { data := #[109] })))], 22, none⟩,
   ⟨some 3, .build 24 #[(0, (.tmp 1)), (1, (.tmp 2))], 24, none⟩,
   zB 24 0 3]
def B24 : VC :=
  (.seq (.region r24_0) (.seq (.region r24_1) .ret))
theorem code24 : ∃ c, Try.f24.body = some c ∧ abs Try.f24.ntmps c = B24 := ⟨_, rfl, by kernel_rfl⟩
theorem hb24 : HasBody Try.prog 24 := hasBody_of Try.func24 (by kernel_rfl)
theorem enter24 : Ent 24 B24 #[(.cell 0 24)] [] := ent code24 hb24 Try.func24 rfl rfl
/-! 34 columbary/journal.right (params #[24, 43], results #[(.tmp 4)], 43 slots) -/
abbrev r34_0 : List VOp :=
  [zBJ 2 24 0 0,
   zBJ 3 43 1 0,
   zD 4]
abbrev r34_1 : List VOp :=
  [fad 5 43 3 0,
   lda 6 4 5]
abbrev r34_2 : List VOp :=
  [fad 7 43 3 1,
   lda 8 3 7,
   zS 9 8 0,
   mv 10 9 4,
   zCC 11 43 3 1 10,
   zCH 12 3 11 10,
   zW 13 12 1099511627776 10,
   zCO 14 10 13,
   mv 15 14 4,
   zCC 16 43 3 2 15,
   zCC 17 41 16 0 15,
   zCH 18 3 17 15,
   zN 19 3 18 0 15,
   zCO 20 15 19,
   mv 21 20 4,
   zCC 22 43 3 2 21,
   zCC 23 41 22 1 21,
   zCH 24 22 23 21,
   zBQ 25 24 22 21,
   zCC 26 43 3 2 21,
   zCC 27 41 26 2 21,
   zCH 28 39 27 21,
   zBQ 29 28 39 21,
   ⟨some 30, .binOp .add 3 (.tmp 25) (.tmp 29) 3, 3, some (21, true)⟩,
   zN 31 3 30 0 21,
   zCO 32 21 31,
   asg 4 32 4]
abbrev r34_3 : List VOp :=
  [fad 33 43 3 1,
   lda 34 3 33,
   zM 35 3 34 0,
   mv 36 35 4,
   zCH 37 24 2 36,
   zCC 38 43 3 2 36,
   zCH 39 41 38 36,
   zBW 40 63 37 39 24 41 29 36,
   zN 41 29 40 0 36,
   zCO 42 36 41,
   asg 4 42 4]
def B34 : VC :=
  (.seq (.region r34_0) (.seq (.seq (.region r34_1) (.cond (.tmp 6) (.seq (.region r34_2) .ret) .skip)) (.seq (.region r34_3) .ret)))
theorem code34 : ∃ c, Try.f34.body = some c ∧ abs Try.f34.ntmps c = B34 := ⟨_, rfl, by kernel_rfl⟩
theorem hb34 : HasBody Try.prog 34 := hasBody_of Try.func34 (by kernel_rfl)
theorem enter34 (x0 x1 : Value) : Ent 34 B34 #[(.tmp 4)] [x0, x1] := ent code34 hb34 Try.func34 rfl rfl
/-! 38 (*columbary/journal.taker).int (params #[82, 3, 3], results #[(.tmp 6)], 23 slots) -/
abbrev r38_0 : List VOp :=
  [zF 6 0 3]
abbrev r38_1 : List VOp :=
  [mv 10 0 82,
   zCL 11 10,
   fad 12 86 11 0,
   lda 13 83 12,
   mv 14 1 3,
   mv 15 2 3,
   zBU 16 51 13 14 15 83 3 3 96,
   mv 9 16 96,
   ext 17 9 0 3,
   ext 18 9 1 29,
   asg 7 17 3,
   asg 8 18 29]
abbrev r38_2 : List VOp :=
  [mv 19 0 82,
   mv 20 7 3,
   mv 21 8 29,
   zBU 22 65 19 20 21 82 3 29 3,
   asg 6 22 3]
def B38 : VC :=
  (.seq (.region r38_0) (.seq (.region r38_1) (.seq (.region r38_2) .ret)))
theorem code38 : ∃ c, Try.f38.body = some c ∧ abs Try.f38.ntmps c = B38 := ⟨_, rfl, by kernel_rfl⟩
theorem hb38 : HasBody Try.prog 38 := hasBody_of Try.func38 (by kernel_rfl)
theorem enter38 (x0 x1 x2 : Value) : Ent 38 B38 #[(.tmp 6)] [x0, x1, x2] := ent code38 hb38 Try.func38 rfl rfl
/-! 39 (*columbary/journal.taker).text (params #[82], results #[(.tmp 2)], 17 slots) -/
abbrev r39_0 : List VOp :=
  [⟨some 2, .assign (.const (.string { data := #[] })), 9, none⟩]
abbrev r39_1 : List VOp :=
  [mv 6 0 82,
   zCL 7 6,
   fad 8 86 7 0,
   lda 9 83 8,
   zBT 10 66 9 24 83 3 113,
   mv 5 10 113,
   ext 11 5 0 9,
   ext 12 5 1 29,
   asg 3 11 9,
   asg 4 12 29]
abbrev r39_2 : List VOp :=
  [mv 13 0 82,
   mv 14 3 9,
   mv 15 4 29,
   zBU 16 67 13 14 15 82 9 29 9,
   asg 2 16 9]
def B39 : VC :=
  (.seq (.region r39_0) (.seq (.region r39_1) (.seq (.region r39_2) .ret)))
theorem code39 : ∃ c, Try.f39.body = some c ∧ abs Try.f39.ntmps c = B39 := ⟨_, rfl, by kernel_rfl⟩
theorem hb39 : HasBody Try.prog 39 := hasBody_of Try.func39 (by kernel_rfl)
theorem enter39 (x0 : Value) : Ent 39 B39 #[(.tmp 2)] [x0] := ent code39 hb39 Try.func39 rfl rfl
/-! 57 (*columbary/columbaryref01.Reader).N (params #[103, 3, 3], results #[(.tmp 6)], 17 slots) -/
abbrev r57_0 : List VOp :=
  [zF 6 0 3]
abbrev r57_1 : List VOp :=
  [mv 10 0 103,
   mv 11 1 3,
   mv 12 2 3,
   zBU 13 75 10 11 12 103 3 3 96,
   mv 9 13 96,
   ext 14 9 0 3,
   ext 15 9 1 29,
   asg 7 14 3,
   asg 8 15 29]
abbrev r57_2 : List VOp :=
  [mv 16 7 3,
   asg 6 16 3]
def B57 : VC :=
  (.seq (.region r57_0) (.seq (.region r57_1) (.seq (.region r57_2) .ret)))
theorem code57 : ∃ c, Try.f57.body = some c ∧ abs Try.f57.ntmps c = B57 := ⟨_, rfl, by kernel_rfl⟩
theorem hb57 : HasBody Try.prog 57 := hasBody_of Try.func57 (by kernel_rfl)
theorem enter57 (x0 x1 x2 : Value) : Ent 57 B57 #[(.tmp 6)] [x0, x1, x2] := ent code57 hb57 Try.func57 rfl rfl
/-! 58 (*columbary/columbaryref01.Reader).T (params #[103, 3], results #[(.tmp 4)], 14 slots) -/
abbrev r58_0 : List VOp :=
  [⟨some 4, .assign (.const (.string { data := #[] })), 9, none⟩]
abbrev r58_1 : List VOp :=
  [mv 8 0 103,
   mv 9 1 3,
   zBV 10 76 8 9 103 3 113,
   mv 7 10 113,
   ext 11 7 0 9,
   ext 12 7 1 29,
   asg 5 11 9,
   asg 6 12 29]
abbrev r58_2 : List VOp :=
  [mv 13 5 9,
   asg 4 13 9]
def B58 : VC :=
  (.seq (.region r58_0) (.seq (.region r58_1) (.seq (.region r58_2) .ret)))
theorem code58 : ∃ c, Try.f58.body = some c ∧ abs Try.f58.ntmps c = B58 := ⟨_, rfl, by kernel_rfl⟩
theorem hb58 : HasBody Try.prog 58 := hasBody_of Try.func58 (by kernel_rfl)
theorem enter58 (x0 x1 : Value) : Ent 58 B58 #[(.tmp 4)] [x0, x1] := ent code58 hb58 Try.func58 rfl rfl
/-! 59 columbary/columbaryref19.Encode (params #[24, 43], results #[(.tmp 4), (.tmp 5)], 63 slots) -/
@[push_cast] def W59_0 : List Nat := [7, 8, 28, 29, 30, 31, 32, 33, 34, 35, 36, 37, 38, 39, 40, 41, 42, 43, 44]
@[push_cast] def W59_1 : List Nat := [7, 9, 45, 46, 47, 48, 49, 50, 51, 52, 53, 54, 55, 56, 57, 58, 59, 60, 61]
abbrev r59_0 : List VOp :=
  [zBJ 2 24 0 0,
   zBJ 3 43 1 0,
   zJ 4 25,
   zF 5 0 29]
abbrev r59_1 : List VOp :=
  [lda 10 24 2,
   lda 11 43 3,
   zBV 12 19 10 11 24 43 4,
   asg 6 12 4]
abbrev r59_2 : List VOp :=
  [mv 13 6 4,
   zCR 14 13]
abbrev r59_3 : List VOp :=
  [zJ 4 25,
   zF 5 191 29]
abbrev r59_4 : List VOp :=
  [fad 15 43 3 0,
   lda 16 4 15]
def r59_5 : List (VOp × List Nat) := [(⟨some 17, .call ⟨.value (.func 61), #[(.const (.int .i64 1))], #[3]⟩, 25, none⟩, []), (⟨some 18, .fieldAddr 43 (.tmp 3) 1, 0, none⟩, [3]), (⟨some 19, .load 3 (.tmp 18), 3, none⟩, [18]), (⟨some 20, .call ⟨.value (.func 61), #[.tmp 19], #[3]⟩, 25, none⟩, [19]), (⟨some 21, .call ⟨.builtin .append, #[.tmp 17, .tmp 20], #[25, 25]⟩, 25, none⟩, [17, 20]), (⟨some 4, .assign (.tmp 21), 25, none⟩, [21]), (⟨some 5, .assign (.const (.int .i64 0)), 29, none⟩, [])]
def r59_6 : List (VOp × List Nat) := [(⟨some 22, .call ⟨.value (.func 61), #[(.const (.int .i64 0))], #[3]⟩, 25, none⟩, []), (⟨some 23, .fieldAddr 43 (.tmp 3) 2, 0, none⟩, [3]), (⟨some 24, .fieldAddr 41 (.tmp 23) 0, 0, none⟩, [23]), (⟨some 25, .load 3 (.tmp 24), 3, none⟩, [24]), (⟨some 26, .call ⟨.value (.func 61), #[.tmp 25], #[3]⟩, 25, none⟩, [25]), (⟨some 27, .call ⟨.builtin .append, #[.tmp 22, .tmp 26], #[25, 25]⟩, 25, none⟩, [22, 26]), (⟨some 7, .assign (.tmp 27), 25, none⟩, [27])]
abbrev r59_7 : List VOp :=
  [zF 8 0 3]
abbrev r59_8 : List VOp :=
  [mv 28 8 3,
   fad 29 43 3 2,
   fad 30 41 29 1,
   lda 31 22 30,
   zBO 32 31 22,
   zY 33 28 32 4]
abbrev r59_10 : List VOp :=
  [mv 36 7 25,
   fad 37 43 3 2,
   fad 38 41 37 1,
   lda 39 22 38,
   mv 40 8 3,
   iad 41 22 39 40,
   lda 42 9 41,
   zBX 43 77 42 9 25,
   zBN 44 36 43 25 25,
   asg 7 44 25]
abbrev r59_9 : List VOp :=
  [mv 34 8 3,
   zK 35 34 1,
   asg 8 35 3]
abbrev r59_11 : List VOp :=
  [zF 9 0 3]
abbrev r59_12 : List VOp :=
  [mv 45 9 3,
   fad 46 43 3 2,
   fad 47 41 46 2,
   lda 48 39 47,
   zBO 49 48 39,
   zY 50 45 49 4]
abbrev r59_14 : List VOp :=
  [mv 53 7 25,
   fad 54 43 3 2,
   fad 55 41 54 2,
   lda 56 39 55,
   mv 57 9 3,
   iad 58 39 56 57,
   lda 59 3 58,
   zBX 60 61 59 3 25,
   zBN 61 53 60 25 25,
   asg 7 61 25]
abbrev r59_13 : List VOp :=
  [mv 51 9 3,
   zK 52 51 1,
   asg 9 52 3]
abbrev r59_15 : List VOp :=
  [mv 62 7 25,
   asg 4 62 25,
   zF 5 0 29]
def B59 : VC :=
  (.seq (.region r59_0) (.seq (.region r59_1) (.seq (.seq (.region r59_2) (.cond (.tmp 14) (.seq (.region r59_3) .ret) .skip)) (.seq (.seq (.region r59_4) (.cond (.tmp 16) (.seq (.draw (dzR r59_5) 5) .ret) .skip)) (.seq (.draw (dzR r59_6) 4) (.seq (.seq (.region r59_7) (.block 0 (.loop (.seq (.seq (.region r59_8) (.cond (.tmp 33) .skip (.exit 0))) (.seq (.block 1 (.region r59_10)) (.region r59_9)))))) (.seq (.seq (.region r59_11) (.block 2 (.loop (.seq (.seq (.region r59_12) (.cond (.tmp 50) .skip (.exit 2))) (.seq (.block 3 (.region r59_14)) (.region r59_13)))))) (.seq (.region r59_15) .ret))))))))
theorem code59 : ∃ c, Try.f59.body = some c ∧ abs Try.f59.ntmps c = B59 := ⟨_, rfl, by kernel_rfl⟩
theorem hb59 : HasBody Try.prog 59 := hasBody_of Try.func59 (by kernel_rfl)
theorem enter59 (x0 x1 : Value) : Ent 59 B59 #[(.tmp 4), (.tmp 5)] [x0, x1] := ent code59 hb59 Try.func59 rfl rfl
@[push_cast] def vr59_5 := vzD r59_5.eq_1 rfl 5
@[push_cast] def vr59_6 := vzD r59_6.eq_1 rfl 4
/-! 60 (*columbary/columbaryref01.Reader).Whole (params #[103], results #[(.tmp 2)], 20 slots) -/
abbrev r60_0 : List VOp :=
  [zD 2]
def r60_1 : List (VOp × List Nat) := [(⟨some 3, .move (.tmp 0), 103, none⟩, [0]), (⟨some 4, .nilCheck (.tmp 3), 0, none⟩, [3]), (⟨some 5, .fieldAddr 105 (.tmp 4) 2, 0, none⟩, [4]), (⟨some 6, .load 4 (.tmp 5), 4, none⟩, [5]), (⟨some 7, .unOp .not 4 (.tmp 6), 4, none⟩, [6]), (⟨some 8, .move (.tmp 7), 4, none⟩, [7]), (⟨some 9, .move (.tmp 0), 103, some (8, true)⟩, [0, 8]), (⟨some 10, .nilCheck (.tmp 9), 0, some (8, true)⟩, [9, 8]), (⟨some 11, .fieldAddr 105 (.tmp 10) 1, 0, some (8, true)⟩, [10, 8]), (⟨some 12, .load 3 (.tmp 11), 3, some (8, true)⟩, [11, 8]), (⟨some 13, .move (.tmp 0), 103, some (8, true)⟩, [0, 8]), (⟨some 14, .nilCheck (.tmp 13), 0, some (8, true)⟩, [13, 8]), (⟨some 15, .fieldAddr 105 (.tmp 14) 0, 0, some (8, true)⟩, [14, 8]), (⟨some 16, .load 25 (.tmp 15), 25, some (8, true)⟩, [15, 8]), (⟨some 17, .call ⟨.builtin .len, #[.tmp 16], #[25]⟩, 3, some (8, true)⟩, [16, 8]), (⟨some 18, .binOp .eql 3 (.tmp 12) (.tmp 17) 3, 4, some (8, true)⟩, [12, 17, 8]), (⟨some 19, .pick (.tmp 8) (.tmp 18) (.const (.bool false)), 4, none⟩, [8, 18]), (⟨some 2, .assign (.tmp 19), 4, none⟩, [19])]
def B60 : VC :=
  (.seq (.region r60_0) (.seq (.draw (dzR r60_1) 4) .ret))
theorem code60 : ∃ c, Try.f60.body = some c ∧ abs Try.f60.ntmps c = B60 := ⟨_, rfl, by kernel_rfl⟩
theorem hb60 : HasBody Try.prog 60 := hasBody_of Try.func60 (by kernel_rfl)
theorem enter60 (x0 : Value) : Ent 60 B60 #[(.tmp 2)] [x0] := ent code60 hb60 Try.func60 rfl rfl
@[push_cast] def vr60_1 := vzD r60_1.eq_1 rfl 4
/-! 65 columbary/journal.take[int] (params #[82, 3, 29], results #[(.tmp 6)], 19 slots) -/
abbrev r65_0 : List VOp :=
  [zF 6 0 3]
abbrev r65_1 : List VOp :=
  [mv 7 0 82,
   mv 8 0 82,
   zCL 9 8,
   fad 10 86 9 1,
   lda 11 4 10,
   mv 12 11 4,
   zCK 13 2 29 12,
   zN 14 29 13 0 12,
   zCO 15 12 14,
   zCL 16 7,
   fad 17 86 16 1,
   zB 4 17 15]
abbrev r65_2 : List VOp :=
  [mv 18 1 3,
   asg 6 18 3]
def B65 : VC :=
  (.seq (.region r65_0) (.seq (.region r65_1) (.seq (.region r65_2) .ret)))
theorem code65 : ∃ c, Try.f65.body = some c ∧ abs Try.f65.ntmps c = B65 := ⟨_, rfl, by kernel_rfl⟩
theorem hb65 : HasBody Try.prog 65 := hasBody_of Try.func65 (by kernel_rfl)
theorem enter65 (x0 x1 x2 : Value) : Ent 65 B65 #[(.tmp 6)] [x0, x1, x2] := ent code65 hb65 Try.func65 rfl rfl
/-! 67 columbary/journal.take[string] (params #[82, 9, 29], results #[(.tmp 6)], 19 slots) -/
abbrev r67_0 : List VOp :=
  [⟨some 6, .assign (.const (.string { data := #[] })), 9, none⟩]
abbrev r67_1 : List VOp :=
  [mv 7 0 82,
   mv 8 0 82,
   zCL 9 8,
   fad 10 86 9 1,
   lda 11 4 10,
   mv 12 11 4,
   zCK 13 2 29 12,
   zN 14 29 13 0 12,
   zCO 15 12 14,
   zCL 16 7,
   fad 17 86 16 1,
   zB 4 17 15]
abbrev r67_2 : List VOp :=
  [mv 18 1 9,
   asg 6 18 9]
def B67 : VC :=
  (.seq (.region r67_0) (.seq (.region r67_1) (.seq (.region r67_2) .ret)))
theorem code67 : ∃ c, Try.f67.body = some c ∧ abs Try.f67.ntmps c = B67 := ⟨_, rfl, by kernel_rfl⟩
theorem hb67 : HasBody Try.prog 67 := hasBody_of Try.func67 (by kernel_rfl)
theorem enter67 (x0 x1 x2 : Value) : Ent 67 B67 #[(.tmp 6)] [x0, x1, x2] := ent code67 hb67 Try.func67 rfl rfl
@[push_cast] theorem bsl22_1_CodesN {K : Value → World → Prop} {w : World} (x0 : ByteArray) : vBuildSlice Try.prog 22 1 #[(0, (.string x0))] K w = K (.slice (some ⟨w.heap.size, 0, none⟩) 1 1) (w.alloc (.cells #[(.string x0)] 9)) :=
  vBuildSlice_ok Try.underlying22 ti9 (by kernel_rfl) (by decide)
@[push_cast] theorem bsl33_1_CodesN {K : Value → World → Prop} {w : World} (x00 x01 x02 x03 x04 : Value) : vBuildSlice Try.prog 33 1 #[(0, (.agg #[x00, x01, x02, x03, x04]))] K w = K (.slice (some ⟨w.heap.size, 0, none⟩) 1 1) (w.alloc (.cells #[x00, x01, x02, x03, x04] 43)) :=
  vBuildSlice_ok Try.underlying33 ti43 (by kernel_rfl) (by decide)
@[push_cast] theorem bsl39_1_CodesN {K : Value → World → Prop} {w : World} (x0 : Int) : vBuildSlice Try.prog 39 1 #[(0, (.int .i64 x0))] K w = K (.slice (some ⟨w.heap.size, 0, none⟩) 1 1) (w.alloc (.cells #[(.int .i64 x0)] 3)) :=
  vBuildSlice_ok Try.underlying39 ti3 (by kernel_rfl) (by decide)
@[push_cast] theorem bsl59_1_CodesN {K : Value → World → Prop} {w : World} (x00 x01 x02 : Value) : vBuildSlice Try.prog 59 1 #[(0, (.agg #[x00, x01, x02]))] K w = K (.slice (some ⟨w.heap.size, 0, none⟩) 1 1) (w.alloc (.cells #[x00, x01, x02] 41)) :=
  vBuildSlice_ok Try.underlying59 ti41 (by kernel_rfl) (by decide)
@[push_cast] theorem bld24_0_1_CodesN {K : Value → World → Prop} {w : World} (x0o : Option Addr) (x0n x0c : Nat) (x1o : Option Addr) (x1n x1c : Nat) : vBuild Try.prog 24 #[(0, (.slice x0o x0n x0c)), (1, (.slice x1o x1n x1c))] K w = K (.agg #[(.slice x0o x0n x0c), (.slice x1o x1n x1c)]) w :=
  vBuild_ok (by kernel_rfl)
@[push_cast] theorem bld41_0_1_2_CodesN {K : Value → World → Prop} {w : World} (x0 : Int) (x1o : Option Addr) (x1n x1c : Nat) (x2o : Option Addr) (x2n x2c : Nat) : vBuild Try.prog 41 #[(0, (.int .i64 x0)), (1, (.slice x1o x1n x1c)), (2, (.slice x2o x2n x2c))] K w = K (.agg #[(.int .i64 x0), (.slice x1o x1n x1c), (.slice x2o x2n x2c)]) w :=
  vBuild_ok (by kernel_rfl)
@[push_cast] theorem bld43_0_1_CodesN {K : Value → World → Prop} {w : World} (x0 : Bool) (x1 : Int) : vBuild Try.prog 43 #[(0, (.bool x0)), (1, (.int .i64 x1))] K w = K (.agg #[(.bool x0), (.int .i64 x1), (.int .i64 0), (.slice none 0 0), (.slice none 0 0)]) w :=
  vBuild_ok (by kernel_rfl)
@[push_cast] theorem bld43_2_CodesN {K : Value → World → Prop} {w : World} (x20 x21 x22 : Value) : vBuild Try.prog 43 #[(2, (.agg #[x20, x21, x22]))] K w = K (.agg #[(.bool false), (.int .i64 0), x20, x21, x22]) w :=
  vBuild_ok (by kernel_rfl)
end Go.Proofs.Ytcajkjbempagaaa
end
section
set_option linter.unusedSimpArgs false
namespace Go.Proofs.Ytcajkjbempagaaa
open Go.Vc Go.Zig
set_option maxRecDepth 100000
def RmS (w : World) (k d : Nat) (l : List UInt8) (s : St) : Prop := ∃ j, Rm w k d l j (!s.2) ∧ j ≤ l.length ∧ l.drop j = s.1
theorem RmS.chg {w w' : World} {k d : Nat} {l : List UInt8} {s : St} {ks : List Nat} (h : RmS w k d l s) (g : Chg w w' ks) (hk : k ∉ ks) (hd : d ∉ ks) : RmS w' k d l s := by
  obtain ⟨j, h1, h2, h3⟩ := h
  exact ⟨j, h1.chg g hk hd, h2, h3⟩
theorem rRIntS_c (k d : Nat) (l : List UInt8) (s : St) (least most : Int) (w : World) (h : RmS w k d l s) (hl : l.length ≤ 140737488355000) :
    FnC Try.prog 75 #[pt k, .int .i64 least, .int .i64 most] w fun v w' => v = .tuple #[.int .i64 (rI s.1 least most).1, .int .i64 (rI s.1 least most).2.1] ∧ RmS w' k d l (pI s least most).2 ∧ Chg w w' [k] := by
  obtain ⟨i, h, hi, hs⟩ := h
  obtain ⟨s1, ok⟩ := s
  dsimp only at h hs
  subst hs
  have h' := h
  obtain ⟨o, n, c, h1, h2, h3, h4, h5⟩ := h
  refine enter75 _ _ _ ?_
  unfold B75
  repeat' (first | (simp (disch := omega) only [push_cast, seval]) | refine iX ?_ ?_ <;> intros | refine aI (by omega) ?_ | refine dq ?_)
  refine (zrNumber_c k d l i (!ok) w h' hi hl).mono ?_
  rintro _ w1 ⟨rfl, hl1⟩
  have g1 : Chg w w1 [k] := Chg.of_later hl1
  have hR1 := h'.chg (Chg.of_later (ks := []) hl1) (by simp) (by simp)
  have b1 := h1.chg (Chg.of_later (ks := []) hl1) (by simp)
  have hc1 : w1.cell? ⟨k, 1, none⟩ = some (.int .i64 i) := b1.cell 1
  have hc2 : w1.cell? ⟨k, 2, none⟩ = some (.bool (!ok)) := b1.cell 2
  unfold pt
  repeat' (first | (simp (disch := omega) only [push_cast, seval]) | refine iX ?_ ?_ <;> intros | refine aI (by omega) ?_ | refine dq ?_)
  have hu : U64 (numV (l.drop i)).1 := by
    rcases num_numV (l := l.drop i) with ⟨e1, e2⟩ | ⟨u, m, e1, e2, e3, e4, e5⟩
    · rw [e2]; unfold U64; omega
    · rw [e2]; exact e3
  refine (rUnfold_c _ w1 hu).mono ?_
  rintro _ _ ⟨rfl, rfl⟩
  unfold pI rI
  dsimp only
  rcases num_numV (l := l.drop i) with ⟨e1, e2⟩ | ⟨u, m, e1, e2, e3, e4, e5⟩
  · simp only [e1, e2]
    repeat' (first | (simp (disch := omega) only [push_cast, seval, hc1, hc2, addr_add_eq, Nat.zero_add]) | refine iX ?_ ?_ <;> intros | refine aI (by omega) ?_ | refine dq ?_)
    exact ⟨b1.frozen 2, ⟨i, by simpa using hR1.setBad true, hi, rfl⟩, g1.set (by simp) _⟩
  · simp only [e1, e2]
    have hu := unfoldI_i64 e3
    unfold I64 at hu
    simp only [List.length_drop] at e5
    have eim : (i : Int) + (m : Int) = ((i + m : Nat) : Int) := by omega
    repeat' (first | (simp (disch := omega) only [push_cast, seval, hc1, hc2, addr_add_eq, Nat.zero_add]) | refine iX ?_ ?_ <;> intros | refine aI (by omega) ?_ | refine dq ?_)
    · rw [if_pos (by omega)]; exact ⟨b1.frozen 2, rfl, ⟨i, by simpa using hR1.setBad true, hi, rfl⟩, g1.set (by simp) _⟩
    · rw [if_neg (by omega), eim]; exact ⟨b1.frozen 1, rfl, ⟨i + m, by simpa using hR1.setI (i + m), by omega, by simp⟩, g1.set (by simp) _⟩
    · rw [if_pos (by omega)]; exact ⟨b1.frozen 2, rfl, ⟨i, by simpa using hR1.setBad true, hi, rfl⟩, g1.set (by simp) _⟩
theorem rRTextS_c (k d : Nat) (l : List UInt8) (s : St) (w : World) (h : RmS w k d l s) (hl : l.length ≤ 140737488355000) :
    FnC Try.prog 76 #[pt k, .int .i64 24] w fun v w' => v = .tuple #[.string (rT s.1 24).1, .int .i64 (rT s.1 24).2.1] ∧ RmS w' k d l (pT s).2 ∧ Chg w w' [k] := by
  have hS := h
  obtain ⟨i, h, hi, hs⟩ := h
  obtain ⟨s1, ok⟩ := s
  dsimp only at h hs
  subst hs
  obtain ⟨o, c, hc0, hc1, hc2, hfz, hs, hin, hnc, hm⟩ := h.cells
  refine enter76 _ _ ?_
  unfold B76
  have ep : (.pointer (some ⟨k, 0, none⟩) : Value) = pt k := rfl
  unfold pt
  repeat' (first | (simp (disch := omega) only [push_cast, seval, hc0, hc1, hc2, addr_add_eq, Nat.zero_add]) | refine iX ?_ ?_ <;> intros | refine aI (by omega) ?_ | refine dq ?_)
  rw [ep]
  refine (rRIntS_c k d l (l.drop i, ok) 0 24 w hS hl).mono ?_
  rintro _ w1 ⟨rfl, hR1, g1⟩
  have hR1 : RmS w1 k d l ((rI (l.drop i) 0 24).2.2, ok && decide ((rI (l.drop i) 0 24).2.1 = 0)) := hR1
  have ept : pT (l.drop i, ok) = ((rT (l.drop i) 24).1, (rT (l.drop i) 24).2.2, ok && decide ((rT (l.drop i) 24).2.1 = 0)) := rfl
  rw [ept]
  clear ept
  unfold pt
  rcases rI_rT (l.drop i) 24 with ⟨e1, e2⟩ | ⟨v, m, e1, em, ev0, ev1, e2⟩
  · simp only [e1, e2] at hR1 ⊢
    obtain ⟨j, hR1, hj, hdj⟩ := hR1
    obtain ⟨o1, c1, kc0, kc1, kc2, kfz, ks, kin, knc, km⟩ := hR1.cells
    repeat' (first | (simp (disch := omega) only [push_cast, seval, kc0, kc1, kc2, addr_add_eq, Nat.zero_add]) | refine iX ?_ ?_ <;> intros | refine aI (by omega) ?_ | refine dq ?_)
    intro w2 hl2
    have g2 : Chg w w2 [k] := g1.trans (Chg.of_later hl2)
    have hR2 := hR1.chg (Chg.of_later (ks := []) hl2) (by simp) (by simp)
    obtain ⟨o2, c2, m0, m1, m2, mfz, _⟩ := hR2.cells
    have hR3 := hR2.setI i
    obtain ⟨o3, c3, n0, n1, n2, nfz, _⟩ := hR3.cells
    exact ⟨⟨_, m1⟩, mfz 1, ⟨_, n2⟩, nfz 2, rfl, ⟨i, by simpa using hR3.setBad true, hi, rfl⟩, (g2.set (by simp) _).set (by simp) _⟩
  · simp only [e1] at hR1 ⊢
    obtain ⟨j, hR1, hj, hdj⟩ := hR1
    obtain ⟨o1, c1, kc0, kc1, kc2, kfz, ks, kin, knc, km⟩ := hR1.cells
    simp only [List.length_drop] at em e2
    have hlj : l.length - j = l.length - (i + m) := by have := congrArg List.length hdj; simpa [Nat.sub_sub] using this
    repeat' (first | (simp (disch := omega) only [push_cast, seval, kc0, kc1, kc2, addr_add_eq, Nat.zero_add]) | refine iX ?_ ?_ <;> intros | refine aI (by omega) ?_ | refine dq ?_)
    intro w2 hl2
    have g2 : Chg w w2 [k] := g1.trans (Chg.of_later hl2)
    have hR2 := hR1.chg (Chg.of_later (ks := []) hl2) (by simp) (by simp)
    obtain ⟨o2, c2, m0, m1, m2, mfz, ms, min, mnc, mm⟩ := hR2.cells
    repeat' (first | (simp (disch := omega) only [push_cast, seval, m0, m1, m2, addr_add_eq, Nat.zero_add]) | refine iX ?_ ?_ <;> intros | refine aI (by omega) ?_ | refine dq ?_)
    · rw [if_pos (by omega)] at e2
      rw [e2]
      have hR3 := hR2.setI i
      obtain ⟨o3, c3, n0, n1, n2, nfz, _⟩ := hR3.cells
      exact ⟨mfz 1, ⟨_, n2⟩, nfz 2, rfl, ⟨i, by simpa using hR3.setBad true, hi, rfl⟩, (g2.set (by simp) _).set (by simp) _⟩
    · rw [if_neg (by omega)] at e2
      have jv : (j : Int) + v = ((j + v.toNat : Nat) : Int) := by omega
      rw [jv]
      refine ⟨mfz 1, ?_⟩
      have hR3 := hR2.setI (j + v.toNat)
      have g3 := g2.set (k := k) (i := 1) (by simp) (.int .i64 ((j + v.toNat : Nat) : Int))
      generalize w2.setCell ⟨k, 1, none⟩ (.int .i64 ((j + v.toNat : Nat) : Int)) = w3 at *
      obtain ⟨o3, c3, n0, n1, n2, nfz, ns, nin, nnc, nm⟩ := hR3.cells
      rw [← jv] at n1
      have hs := ns.part (l := (j : Int)) (k := (j : Int) + v) (m := c3) (by omega) (by omega) (by omega) (by omega) (by omega)
      rw [map_part l (by omega) (by omega)] at hs
      repeat' (first | (simp (disch := omega) only [push_cast, seval, n0, n1, n2, addr_add_eq, Nat.zero_add, Int.add_sub_cancel]) | refine iX ?_ ?_ <;> intros | refine aI (by omega) ?_ | refine dq ?_)
      refine qConv_bytes Try.underlying25 Try.underlying9 Try.underlying5 (by simp (disch := omega) only [push_cast, seval]) hs ?_
      repeat' (first | (simp (disch := omega) only [push_cast, seval]) | refine iX ?_ ?_ <;> intros | refine aI (by omega) ?_ | refine dq ?_)
      intro w4 hl4
      have e : (j : Int) + v - j = v := by omega
      refine ⟨?_, ⟨j + v.toNat, ?_, by omega, ?_⟩, g3.trans (Chg.of_later hl4)⟩
      · rw [e2, hdj, e]
      · rw [e2]
        simpa using hR3.chg (Chg.of_later (ks := []) hl4) (by simp) (by simp)
      · rw [e2]
        dsimp only
        rw [← List.drop_drop, hdj, List.drop_drop, List.drop_drop]
theorem rN_c (k d : Nat) (l : List UInt8) (s : St) (least most : Int) (w : World) (h : RmS w k d l s) (hl : l.length ≤ 140737488355000) :
    FnC Try.prog 57 #[pt k, .int .i64 least, .int .i64 most] w fun v w' => v = .int .i64 (pI s least most).1 ∧ RmS w' k d l (pI s least most).2 ∧ Chg w w' [k] := by
  refine enter57 _ _ _ ?_
  unfold B57
  repeat' (first | (simp (disch := omega) only [push_cast, seval]) | refine iX ?_ ?_ <;> intros | refine aI (by omega) ?_ | refine dq ?_)
  refine (rRIntS_c k d l s least most w h hl).mono ?_
  rintro _ w1 ⟨rfl, hR, g⟩
  repeat' (first | (simp (disch := omega) only [push_cast, seval]) | refine iX ?_ ?_ <;> intros | refine aI (by omega) ?_ | refine dq ?_)
  first | exact ⟨rfl, hR, g⟩ | exact ⟨hR, g⟩ | exact g
theorem rTx_c (k d : Nat) (l : List UInt8) (s : St) (w : World) (h : RmS w k d l s) (hl : l.length ≤ 140737488355000) :
    FnC Try.prog 58 #[pt k, .int .i64 24] w fun v w' => v = .string (pT s).1 ∧ RmS w' k d l (pT s).2 ∧ Chg w w' [k] := by
  refine enter58 _ _ ?_
  unfold B58
  repeat' (first | (simp (disch := omega) only [push_cast, seval]) | refine iX ?_ ?_ <;> intros | refine aI (by omega) ?_ | refine dq ?_)
  refine (rRTextS_c k d l s w h hl).mono ?_
  rintro _ w1 ⟨rfl, hR, g⟩
  repeat' (first | (simp (disch := omega) only [push_cast, seval]) | refine iX ?_ ?_ <;> intros | refine aI (by omega) ?_ | refine dq ?_)
  first | exact ⟨rfl, hR, g⟩ | exact ⟨hR, g⟩ | exact g
theorem rWhole_c (k d : Nat) (l : List UInt8) (s : St) (w : World) (h : RmS w k d l s) (hl : l.length ≤ 140737488355000) :
    FnC Try.prog 60 #[pt k] w fun v w' => v = .bool (s.2 && decide (s.1 = [])) ∧ Later w w' := by
  obtain ⟨i, h, hi, hs⟩ := h
  obtain ⟨s1, ok⟩ := s
  dsimp only at h hs ⊢
  subst hs
  obtain ⟨o, c, hc0, hc1, hc2, hfz, hs, hin, hnc, hm⟩ := h.cells
  have hd : (l.drop i = []) ↔ i = l.length := by rw [List.drop_eq_nil_iff]; omega
  refine enter60 _ ?_
  unfold B60 pt
  cases ok with
  | false =>
    repeat' (first | (simp (disch := omega) only [push_cast, seval, hc0, hc1, hc2, addr_add_eq, Nat.zero_add]) | refine iX ?_ ?_ <;> intros | refine aI (by omega) ?_ | refine dq ?_)
    all_goals first | exact Later.refl _ | (intro w1 l1; exact l1) | (intro w1 l1; simp; exact l1)
  | true =>
    by_cases he : i = l.length
    · have e1 : decide (l.drop i = []) = true := decide_eq_true (hd.2 he)
      rw [e1]
      subst he
      repeat' (first | (simp (disch := omega) only [push_cast, seval, hc0, hc1, hc2, addr_add_eq, Nat.zero_add]) | refine iX ?_ ?_ <;> intros | refine aI (by omega) ?_ | refine dq ?_)
      all_goals first | exact Later.refl _ | (intro w1 l1; exact l1) | (intro w1 l1; simp; exact l1)
    · have e1 : decide (l.drop i = []) = false := decide_eq_false fun h => he (hd.1 h)
      rw [e1]
      have e2 : decide ((i : Int) = (l.length : Int)) = false := decide_eq_false (by omega)
      repeat' (first | (simp (disch := omega) only [push_cast, seval, hc0, hc1, hc2, e2, addr_add_eq, Nat.zero_add]) | refine iX ?_ ?_ <;> intros | refine aI (by omega) ?_ | refine dq ?_)
      all_goals first | exact Later.refl _ | (intro w1 l1; exact l1) | (intro w1 l1; simp; exact l1)
end Go.Proofs.Ytcajkjbempagaaa
end
section
set_option linter.unusedSimpArgs false
namespace Go.Proofs.Ytcajkjbempagaaa
open Go.Vc Go.Zig
set_option maxRecDepth 100000
def Tk (w : World) (kt kr d : Nat) (s : St) : Prop := Blk w kt #[pt kr, .bool s.2] 86 ∧ Rd w kr d s.1 ∧ kt ≠ kr ∧ kt ≠ d
theorem Tk.chg {w w' : World} {kt kr d : Nat} {s : St} {ks : List Nat} (h : Tk w kt kr d s) (g : Chg w w' ks) (h1 : kt ∉ ks) (h2 : kr ∉ ks) (h3 : d ∉ ks) : Tk w' kt kr d s :=
  ⟨h.1.chg g h1, h.2.1.chg g h2 h3, h.2.2⟩
theorem Tk.later {w w' : World} {kt kr d : Nat} {s : St} (h : Tk w kt kr d s) (l : Later w w') : Tk w' kt kr d s := h.chg (Chg.of_later (ks := []) l) (by simp) (by simp) (by simp)
theorem taki_c (kt : Nat) (x : Value) (b : Bool) (n e : Int) (w : World) (h : Blk w kt #[x, .bool b] 86) :
    FnC Try.prog 65 #[pt kt, .int .i64 n, .int .i64 e] w fun v w' => v = .int .i64 n ∧ w' = w.setCell ⟨kt, 1, none⟩ (.bool (b && decide (e = 0))) := by
  have hc : w.cell? ⟨kt, 1, none⟩ = some (.bool b) := h.cell 1
  have hf := h.frozen 1
  refine enter65 _ _ _ ?_
  unfold B65 pt
  cases b with
  | false => repeat' (first | (simp (disch := omega) only [push_cast, seval, hc, hf, addr_add_eq, Nat.zero_add]) | refine iX ?_ ?_ <;> intros | refine aI (by omega) ?_ | refine dq ?_); first | done | exact ⟨⟨_, hc⟩, hf, rfl⟩ | skip
  | true => repeat' (first | (simp (disch := omega) only [push_cast, seval, hc, hf, addr_add_eq, Nat.zero_add]) | refine iX ?_ ?_ <;> intros | refine aI (by omega) ?_ | refine dq ?_); first | done | exact ⟨⟨_, hc⟩, hf, rfl⟩ | skip
theorem takt_c (kt : Nat) (x : Value) (b : Bool) (n : ByteArray) (e : Int) (w : World) (h : Blk w kt #[x, .bool b] 86) :
    FnC Try.prog 67 #[pt kt, .string n, .int .i64 e] w fun v w' => v = .string n ∧ w' = w.setCell ⟨kt, 1, none⟩ (.bool (b && decide (e = 0))) := by
  have hc : w.cell? ⟨kt, 1, none⟩ = some (.bool b) := h.cell 1
  have hf := h.frozen 1
  refine enter67 _ _ _ ?_
  unfold B67 pt
  cases b with
  | false => repeat' (first | (simp (disch := omega) only [push_cast, seval, hc, hf, addr_add_eq, Nat.zero_add]) | refine iX ?_ ?_ <;> intros | refine aI (by omega) ?_ | refine dq ?_); first | done | exact ⟨⟨_, hc⟩, hf, rfl⟩ | skip
  | true => repeat' (first | (simp (disch := omega) only [push_cast, seval, hc, hf, addr_add_eq, Nat.zero_add]) | refine iX ?_ ?_ <;> intros | refine aI (by omega) ?_ | refine dq ?_); first | done | exact ⟨⟨_, hc⟩, hf, rfl⟩ | skip
theorem tk_step {w w1 : World} {kt kr d : Nat} {s : St} {l : List UInt8} {b : Bool} (h : Tk w kt kr d s) (hR : Rd w1 kr d l) (g : Chg w w1 [kr]) :
    Tk (w1.setCell ⟨kt, 1, none⟩ (.bool b)) kt kr d (l, b) ∧ Chg w (w1.setCell ⟨kt, 1, none⟩ (.bool b)) [kt, kr] := by
  obtain ⟨h1, h2, h3, h4⟩ := h
  have b1 := h1.chg g (by simpa using h3)
  have c2 := chg_setCell w1 (k := kt) (i := 1) (ks := [kt]) (by simp) (.bool b)
  have g1 : Chg w w1 [kt, kr] := g.mono (by simp)
  exact ⟨⟨by simpa using b1.set 1 (.bool b), hR.chg c2 (by simpa using Ne.symm h3) (by simpa using Ne.symm h4), h3, h4⟩, g1.trans (c2.mono (by simp))⟩
theorem tint_c (kt kr d : Nat) (s : St) (a b : Int) (w : World) (h : Tk w kt kr d s) :
    FnC Try.prog 38 #[pt kt, .int .i64 a, .int .i64 b] w fun v w' => v = .int .i64 (pI s a b).1 ∧ Tk w' kt kr d (pI s a b).2 ∧ Chg w w' [kt, kr] := by
  have hc : w.cell? ⟨kt, 0, none⟩ = some (pt kr) := h.1.cell 0
  refine enter38 _ _ _ ?_
  unfold B38
  have ep : (.pointer (some ⟨kt, 0, none⟩) : Value) = pt kt := rfl
  conv in pt kt => rw [← ep]
  repeat' (first | (simp (disch := omega) only [push_cast, seval, hc, addr_add_eq, Nat.zero_add]) | refine iX ?_ ?_ <;> intros | refine aI (by omega) ?_ | refine dq ?_)
  refine (zRInt_c kr d s.1 a b w h.2.1).mono ?_
  rintro _ w1 ⟨rfl, hR, g⟩
  repeat' (first | (simp (disch := omega) only [push_cast, seval]) | refine iX ?_ ?_ <;> intros | refine aI (by omega) ?_ | refine dq ?_)
  rw [ep]
  refine (taki_c kt (pt kr) s.2 _ _ w1 (h.1.chg g (by simpa using h.2.2.1))).mono ?_
  rintro _ w2 ⟨rfl, rfl⟩
  have hs := tk_step (b := s.2 && decide ((rI s.1 a b).2.1 = 0)) h hR g
  repeat' (first | (simp (disch := omega) only [push_cast, seval]) | refine iX ?_ ?_ <;> intros | refine aI (by omega) ?_ | refine dq ?_)
  exact ⟨rfl, hs.1, hs.2⟩
theorem ttext_c (kt kr d : Nat) (s : St) (w : World) (h : Tk w kt kr d s) :
    FnC Try.prog 39 #[pt kt] w fun v w' => v = .string (pT s).1 ∧ Tk w' kt kr d (pT s).2 ∧ Chg w w' [kt, kr] := by
  have hc : w.cell? ⟨kt, 0, none⟩ = some (pt kr) := h.1.cell 0
  refine enter39 _ ?_
  unfold B39
  have ep : (.pointer (some ⟨kt, 0, none⟩) : Value) = pt kt := rfl
  conv in pt kt => rw [← ep]
  repeat' (first | (simp (disch := omega) only [push_cast, seval, hc, addr_add_eq, Nat.zero_add]) | refine iX ?_ ?_ <;> intros | refine aI (by omega) ?_ | refine dq ?_)
  refine (zRText_c kr d s.1 24 w h.2.1).mono ?_
  rintro _ w1 ⟨rfl, hR, g⟩
  repeat' (first | (simp (disch := omega) only [push_cast, seval]) | refine iX ?_ ?_ <;> intros | refine aI (by omega) ?_ | refine dq ?_)
  rw [ep]
  refine (takt_c kt (pt kr) s.2 _ _ w1 (h.1.chg g (by simpa using h.2.2.1))).mono ?_
  rintro _ w2 ⟨rfl, rfl⟩
  have hs := tk_step (b := s.2 && decide ((rT s.1 24).2.1 = 0)) h hR g
  repeat' (first | (simp (disch := omega) only [push_cast, seval]) | refine iX ?_ ?_ <;> intros | refine aI (by omega) ?_ | refine dq ?_)
  exact ⟨rfl, hs.1, hs.2⟩
end Go.Proofs.Ytcajkjbempagaaa
end
section
set_option linter.unusedSimpArgs false
namespace Go.Vc
open Go.RowKit in
theorem vAppend_fresh {P : Program} {w : World} {K : Value → World → Prop} {t e ty : TypeId} {z : Value} {s b : Nat} (ht : P.underlying t = some (.slice e)) (hi : (P.info? e).map (fun i => (i.zero, i.size, i.bytes)) = some (some z, s, b)) (hzs : z.cells.size = s) (hsz : 0 < s)
    {db : Nat} {x : Value} {m : Nat} {news : List Value} (hx : SlN w s x m news) (h63 : m ≤ maxLen) (hb : m * b ≤ 140737488355328)
    (hK : ∀ v' w', (m = 0 → v' = .slice (some ⟨db, 0, none⟩) 0 0 ∧ w' = w) → (0 < m → w'.ownsRow w.heap.size e s v' m news ∧ Later w w') → K v' w') : vAppend P #[t, t] ty #[.slice (some ⟨db, 0, none⟩) 0 0, x] K w := by
  obtain ⟨i, hi1, hz, hsi, hbi⟩ := info_parts hi
  unfold vAppend
  obtain ⟨hl, hr⟩ := hx
  rcases hr with ⟨rfl, rfl⟩ | ⟨ad, c, rfl, hc1, hc2, hc3⟩
  · rw [run_val_pure (run_append_nil_src ht hi (some ⟨db, 0, none⟩) 0 0 (Nat.le_refl _) (fun ho => by cases ho))]
    exact hK _ _ (fun _ => ⟨rfl, rfl⟩) (fun h => absurd h (Nat.lt_irrefl _))
  · by_cases hm : m = 0
    · subst hm
      have hn : news = [] := List.eq_nil_of_length_eq_zero (by simpa using hl)
      subst hn
      have hrun := run_append_room_cells (P := P) w t ty e i ht hi1 db 0 0 0 ad 0 c [] (by simp) (fun j u h => by simp at h) (fun u h => by simp at h) (by omega) (fun j h => by simp at h) (fun j h => by simp at h)
      rw [run_val_pure hrun]
      exact hK _ _ (fun _ => ⟨rfl, rfl⟩) (fun h => absurd h (Nat.lt_irrefl _))
    · obtain ⟨v', w', hrun, ho, hg⟩ := run_append_arg_grows (P := P) w t ty e i z s b ht hi1 hz hsi hbi hzs hsz ⟨db, 0, none⟩ 0 0 [] (by simp) (fun j u h => by simp at h) ad m c news hl hc3 (by omega) (by omega) (by simpa using hb)
      rw [run_val_pure hrun]
      refine hK _ _ (fun h => absurd h hm) (fun _ => ⟨by simpa using ho, hg.os, hg.tape, hg.output, hg.size, fun k hk => hg.block k hk (by simp)⟩)
theorem nR_app {P : Program} {args : Array Operand} {ts : Array TypeId} {ty : TypeId} {rs : List Nat} {Ns : NS} {σ : Env} {w : World} {Kv : Value → Prop} {Kn : (Value → World → Prop) → Prop} (V' : Value → World → Prop) (hV' : Stb w V')
    (h : ∀ σ' w', Later w w' → psis Ns σ w' σ' rs → vAppend P ts ty (args.map (ev σ')) (fun v w'' => Later w' w'' ∧ V' v w'') w') (hk : Kn V') : nR P (.call ⟨.builtin .append, args, ts⟩) ty rs Ns σ w Kv Kn :=
  .inr ⟨V', hV', fun σ' w' hl hp => nUp_val (h σ' w' hl hp), hk⟩
end Go.Vc
namespace Go.Proofs.Ytcajkjbempagaaa
open Go.Vc Go.Key
set_option maxRecDepth 100000
abbrev OwnS (w : World) (B : Nat) (v : Value) (l : List ByteArray) : Prop := w.ownsRow B 9 1 v l.length (l.map Value.string)
theorem stb_ownS (w0 : World) (B : Nat) (l : List ByteArray) : Stb w0 (fun v w => OwnS w B v l) := fun _ _ _ _ hl h => own_later h hl
def Lit0 (B : Nat) (v : Value) (w : World) : Prop := (∃ b, v = .slice (some ⟨b, 0, none⟩) 0 0) ∧ OwnS w B v []
theorem stb_lit0 (w0 : World) (B : Nat) : Stb w0 (Lit0 B) := fun _ _ _ _ hl h => ⟨h.1, own_later h.2 hl⟩
theorem box2 (w : World) (a b : Value) (e : TypeId) : Later w (w.alloc (.cells #[a, b] e)) ∧ (w.alloc (.cells #[a, b] e)).heap.size = w.heap.size + 1 ∧ ∀ w', Later (w.alloc (.cells #[a, b] e)) w' → w'.cell? ⟨w.heap.size, 0, none⟩ = some a ∧ w'.cell? ⟨w.heap.size, 1, none⟩ = some b ∧ cellsAt w' ⟨w.heap.size, 0, none⟩ 2 = some [a, b] := by
  refine ⟨later_alloc _ _, World.size_alloc _ _, fun w' hl => ?_⟩
  have := (Blk.new w #[a, b] e).chg (Chg.of_later (ks := []) hl) (by simp)
  exact ⟨this.cell 0, this.cell 1, Blk.cellsAt (l := [a, b]) this⟩
def StZ (l : List ByteArray) : Prop := ∀ s ∈ l, s.size ≤ 9223372036854775807
structure ScIs (w : World) (dv mv : Value) (d m : List ByteArray) : Prop where
  dS : StS w dv d
  mS : StS w mv m
  dZ : StZ d
  mZ : StZ m
theorem ScIs.later {w w' : World} {dv mv : Value} {d m : List ByteArray} (h : ScIs w dv mv d m) (hl : Later w w') : ScIs w' dv mv d m := ⟨Sl.later h.dS hl, Sl.later h.mS hl, h.dZ, h.mZ⟩
def scV (dv mv : Value) : Value := .agg #[dv, mv]
def ScOk (d m : List ByteArray) : Prop := (∀ x ∈ d ++ m, NmOk x) ∧ (d ++ m).Pairwise (fun x y => x ≠ y) ∧ 1 ≤ d.length ∧ d.length ≤ 6 ∧ m.length ≤ 4
instance (d m : List ByteArray) : Decidable (ScOk d m) := inferInstanceAs (Decidable ((∀ x ∈ d ++ m, NmOk x) ∧ (d ++ m).Pairwise (fun x y => x ≠ y) ∧ 1 ≤ d.length ∧ d.length ≤ 6 ∧ m.length ≤ 4))
theorem StS.n {w : World} {v : Value} {l : List ByteArray} (h : StS w v l) : SlN w 1 v l.length (l.map Value.string) := by
  have := h
  unfold StS Sl at this
  rwa [List.length_map] at this
theorem vAppend_ss {w : World} {K : Value → World → Prop} {ty : TypeId} {B : Nat} {v x : Value} {l r : List ByteArray} (hown : OwnS w B v l) (hx : StS w x r) (h63 : l.length + r.length ≤ 100000000) (hbase : B ≤ w.heap.size)
    (hK : ∀ v' w', OwnS w' B v' (l ++ r) → w.grownBy w' v.ownBlock → (v'.ownBlock = v.ownBlock ∨ v'.ownBlock = some w.heap.size) → K v' w') : vAppend Try.prog #[22, 22] ty #[v, x] K w := by
  refine vAppend_at Try.underlying22 ti9 rfl (by decide) hown hx.n ?_ (by unfold maxLen; omega) (by omega) hbase ?_
  · intro u hu
    obtain ⟨p, hp, rfl⟩ := List.mem_map.1 hu
    rfl
  · intro v' w' ho hg hs
    refine hK v' w' ?_ hg hs
    unfold OwnS
    simpa using ho
theorem ok_step {L : List ByteArray} {i : Nat} (hi : i < L.length) (hd : (L.take i).Pairwise (fun x y => x ≠ y)) (hn : ∀ j (h : j < L.length), j < i → L[j] ≠ L[i]) : (L.take (i + 1)).Pairwise (fun x y => x ≠ y) := by
  rw [take_snoc L i hi, List.pairwise_append]
  refine ⟨hd, by simp, fun a ha b hb => ?_⟩
  rw [List.mem_singleton.1 hb]
  obtain ⟨j, hj, rfl⟩ := List.getElem_of_mem ha
  rw [List.length_take] at hj
  rw [List.getElem_take]
  exact hn j (by omega) (by omega)
theorem dschema_c (dv mv : Value) (d m : List ByteArray) (w : World) (h : ScIs w dv mv d m) (fd : d.length ≤ 2000000) (fm : m.length ≤ 2000000) : FnC Try.prog 23 #[scV dv mv] w fun r w' => r = .bool (decide (ScOk d m)) ∧ Later w w' := by
  unfold scV
  obtain ⟨od, cd, hdv⟩ := Sl.slice h.dS
  obtain ⟨om, cm, hmv⟩ := Sl.slice h.mS
  rw [List.length_map] at hdv hmv
  refine enter23 _ ?_
  unfold B23
  obtain ⟨l1, s1, F⟩ := box2 w dv mv 24
  have eca : (Value.agg #[dv, mv]).cells = #[dv, mv] := rfl
  repeat' (first | (simp (disch := omega) only [push_cast, seval, eca, s1]) | refine iX ?_ ?_ <;> intros | refine aI (by omega) ?_ | fail)
  generalize w.alloc (.cells #[dv, mv] 24) = w1 at *
  obtain ⟨a0, a1, _⟩ := F w1 (Later.refl _)
  have h1 := h.later l1
  refine drawn_k 6 ?_
  repeat' (first | (simp (disch := omega) only [push_cast, seval, a0, a1, addr_add_eq, Nat.zero_add]) | refine iX ?_ ?_ <;> intros | refine aI (by omega) ?_ | fail)
  refine nB_of _ (Lit0 w1.heap.size) (stb_lit0 _ _) (fun w' hl => ?_) ?_
  · repeat' (first | (simp (disch := omega) only [push_cast, seval]) | refine iX ?_ ?_ <;> intros | refine aI (by omega) ?_ | fail)
    exact ⟨later_alloc _ _, ⟨_, rfl⟩, own_lit w' [] _ 1 0 rfl (by unfold maxLen; omega) hl.size⟩
  repeat' (first | (simp (disch := omega) only [push_cast, seval, a0, a1, addr_add_eq, Nat.zero_add]) | refine iX ?_ ?_ <;> intros | refine aI (by omega) ?_ | fail)
  refine nR_app (fun v w' => OwnS w' w1.heap.size v d) (stb_ownS _ _ _) (fun σ' w' hl hp => ?_) ?_
  · obtain ⟨hp26, hp28, _⟩ := hp
    obtain ⟨⟨lb, h26⟩, h26o⟩ : Lit0 w1.heap.size (σ' 7) w' := hp26
    have h28 : σ' 9 = dv := hp28
    have hsn := (h1.later hl).dS.n
    rw [h26] at h26o
    repeat' (first | (simp (disch := omega) only [push_cast, seval, h28, h26]) | refine iX ?_ ?_ <;> intros | refine aI (by omega) ?_ | fail)
    refine vAppend_fresh Try.underlying22 ti9 rfl (by decide) hsn (by unfold maxLen; omega) (by omega) ?_
    intro v' w'' h0 h1
    rcases Nat.eq_zero_or_pos d.length with hz | hz
    · obtain ⟨rfl, rfl⟩ := h0 hz
      have : d = [] := List.length_eq_zero_iff.1 hz
      rw [this]
      exact ⟨Later.refl _, h26o⟩
    · obtain ⟨ho, hll⟩ := h1 hz
      exact ⟨hll, own_base ho hl.size⟩
  repeat' (first | (simp (disch := omega) only [push_cast, seval, a0, a1, addr_add_eq, Nat.zero_add]) | refine iX ?_ ?_ <;> intros | refine aI (by omega) ?_ | fail)
  rintro w2 l2 X hX _ _
  refine vAppend_ss hX (h1.later l2).mS (by omega) l2.size ?_
  intro v3 w3 ho3 hg3 _
  have l13 := l2.appended hX (Nat.le_refl _) hg3
  have hL := Sl.of_own ho3
  have hLn : (d ++ m).length = d.length + m.length := List.length_append
  have hZ : StZ (d ++ m) := fun s hs => by
    rcases List.mem_append.1 hs with hs | hs
    · exact h.dZ s hs
    · exact h.mZ s hs
  have hL : StS w3 v3 (d ++ m) := hL
  have hOk : ScOk d m = ((∀ x ∈ d ++ m, NmOk x) ∧ (d ++ m).Pairwise (fun x y => x ≠ y) ∧ 1 ≤ d.length ∧ d.length ≤ 6 ∧ m.length ≤ 4) := rfl
  generalize d ++ m = L at *
  obtain ⟨o3, c3, rfl⟩ := Sl.slice hL
  rw [List.length_map] at hL ⊢
  clear hX ho3 hg3
  repeat' (first | (simp (disch := omega) only [push_cast, seval]) | refine iX ?_ ?_ <;> intros | refine aI (by omega) ?_ | refine dq ?_)
  refine vc_loop W23_0 (fun i : Nat => [(2, .bool false), (4, .int .i64 (i : Int))])
    (fun i w' => i ≤ L.length ∧ Later w3 w' ∧ (∀ j (h : j < L.length), j < i → NmOk L[j]) ∧ (L.take i).Pairwise (fun x y => x ≠ y)) (fun i => L.length - i) 0 (by decide) ?_ ?_ ?_
  · simp (disch := omega) only [push_cast, seval]
  · exact ⟨by omega, Later.refl _, fun j _ hj => absurd hj (Nat.not_lt_zero _), by simp⟩
  rintro i uu w4 ⟨hi, l4, hA, hP⟩
  have l04 := (l1.trans l13).trans l4
  by_cases hlt : i < L.length
  · cases o3 with
    | none => have := (Sl.len hL).2.2.2 rfl; simp at this; rw [this.1] at hlt; simp at hlt
    | some a =>
    have hc := StS.atS (Sl.later hL l4) hlt
    repeat' (first | (simp (disch := omega) only [push_cast, seval, hc]) | refine iX ?_ ?_ <;> intros | refine aI (by omega) ?_ | refine dq ?_)
    refine (dname_c L[i] w4 (hZ _ (List.getElem_mem _))).mono ?_
    rintro _ w5 ⟨rfl, l5⟩
    by_cases hn : NmOk L[i]
    · rw [decide_eq_true hn]
      repeat' (first | (simp (disch := omega) only [push_cast, seval]) | refine iX ?_ ?_ <;> intros | refine aI (by omega) ?_ | refine dq ?_)
      refine vc_loop W23_1 (fun i : Nat => [(2, .bool false), (6, .int .i64 (i : Int))])
        (fun k w' => k ≤ i ∧ Later w5 w' ∧ (∀ j (h : j < L.length), j < k → L[j] ≠ L[i])) (fun k => i - k) 0 (by decide) ?_ ?_ ?_
      · simp (disch := omega) only [push_cast, seval]
      · exact ⟨by omega, Later.refl _, fun j _ hj => absurd hj (Nat.not_lt_zero _)⟩
      rintro k uu2 w6 ⟨hk, l6, hB⟩
      have l46 := l5.trans l6
      by_cases hki : k < i
      · have c1 := StS.atS (Sl.later hL (l4.trans l46)) (show k < L.length by omega)
        have c2 := StS.atS (Sl.later hL (l4.trans l46)) hlt
        by_cases he : L[k] = L[i]
        · have hno : decide (ScOk d m) = false := decide_eq_false fun h => by
            rw [hOk] at h
            exact List.pairwise_iff_getElem.1 h.2.1 k i (by omega) hlt hki he
          repeat' (first | (simp (disch := omega) only [push_cast, seval, c1, c2, he, decide_true]) | refine iX ?_ ?_ <;> intros | refine aI (by omega) ?_ | refine dq ?_)
          intro w7 l7
          repeat' (first | (simp (disch := omega) only [push_cast, seval]) | refine iX ?_ ?_ <;> intros | refine aI (by omega) ?_ | refine dq ?_)
          first | exact ⟨by rw [hno], ((l04.trans l46).trans l7)⟩ | exact ((l04.trans l46).trans l7)
        · repeat' (first | (simp (disch := omega) only [push_cast, seval, c1, c2, he, decide_false]) | refine iX ?_ ?_ <;> intros | refine aI (by omega) ?_ | refine dq ?_)
          intro w7 l7
          repeat' (first | (simp (disch := omega) only [push_cast, seval]) | refine iX ?_ ?_ <;> intros | refine aI (by omega) ?_ | refine dq ?_)
          refine ⟨rfl, k + 1, by simp (disch := omega) only [push_cast, seval], ⟨by omega, l6.trans l7, fun j hj hjk => ?_⟩, by dsimp only; omega⟩
          by_cases h : j < k
          · exact hB j hj h
          · have : j = k := by omega
            subst this
            exact he
      · have hki' : k = i := by omega
        subst hki'
        repeat' (first | (simp (disch := omega) only [push_cast, seval]) | refine iX ?_ ?_ <;> intros | refine aI (by omega) ?_ | refine dq ?_)
        refine ⟨rfl, k + 1, by simp (disch := omega) only [push_cast, seval], ⟨by omega, l4.trans l46, fun j hj hjk => ?_, ok_step hlt hP hB⟩, by dsimp only; omega⟩
        by_cases h : j < k
        · exact hA j hj h
        · have : j = k := by omega
          subst this
          exact hn
    · have hno : decide (ScOk d m) = false := decide_eq_false fun h => by
        rw [hOk] at h
        exact hn (h.1 _ (List.getElem_mem _))
      rw [decide_eq_false hn]
      repeat' (first | (simp (disch := omega) only [push_cast, seval]) | refine iX ?_ ?_ <;> intros | refine aI (by omega) ?_ | refine dq ?_)
      first | exact ⟨by rw [hno], (l04.trans l5)⟩ | exact (l04.trans l5)
  · have hd : decide (ScOk d m) = decide (1 ≤ d.length ∧ d.length ≤ 6 ∧ m.length ≤ 4) := by
      refine decide_eq_decide.2 ?_
      rw [hOk]
      refine ⟨fun h => h.2.2, fun h => ⟨fun x hx => ?_, ?_, h⟩⟩
      · obtain ⟨j, hj, rfl⟩ := List.getElem_of_mem hx
        exact hA j hj (by omega)
      · rw [List.take_of_length_le (by omega)] at hP
        exact hP
    obtain ⟨a0, a1, _⟩ := F w4 (l13.trans l4)
    rw [hdv] at a0
    rw [hmv] at a1
    rw [hd]
    by_cases h1 : 1 ≤ d.length
    · by_cases h2 : d.length ≤ 6
      · by_cases h3 : m.length ≤ 4
        · repeat' (first | (simp (disch := omega) only [push_cast, seval, a0, a1, addr_add_eq, Nat.zero_add]) | refine iX ?_ ?_ <;> intros | refine aI (by omega) ?_ | refine dq ?_)
          first | exact ⟨congrArg Value.bool ((decide_eq_true (by omega)).trans (decide_eq_true (by omega)).symm), l04⟩ | exact l04
        · repeat' (first | (simp (disch := omega) only [push_cast, seval, a0, a1, addr_add_eq, Nat.zero_add]) | refine iX ?_ ?_ <;> intros | refine aI (by omega) ?_ | refine dq ?_)
          first | exact ⟨congrArg Value.bool ((decide_eq_false (by omega)).trans (decide_eq_false (by omega)).symm), l04⟩ | exact l04
      · repeat' (first | (simp (disch := omega) only [push_cast, seval, a0, a1, addr_add_eq, Nat.zero_add]) | refine iX ?_ ?_ <;> intros | refine aI (by omega) ?_ | refine dq ?_)
        first | exact ⟨congrArg Value.bool ((decide_eq_false (by omega)).trans (decide_eq_false (by omega)).symm), congrArg Value.bool (decide_eq_false (by omega)).symm, l04⟩ | exact ⟨congrArg Value.bool (decide_eq_false (by omega)).symm, l04⟩ | exact l04
    · repeat' (first | (simp (disch := omega) only [push_cast, seval, a0, a1, addr_add_eq, Nat.zero_add]) | refine iX ?_ ?_ <;> intros | refine aI (by omega) ?_ | refine dq ?_)
      first | exact ⟨congrArg Value.bool ((decide_eq_false (by omega)).trans (decide_eq_false (by omega)).symm), l04⟩ | exact ⟨congrArg Value.bool (decide_eq_false (by omega)).symm, l04⟩ | trace_state
end Go.Proofs.Ytcajkjbempagaaa
end
section
namespace Go.Vc
open Go
abbrev Ent := ByteArray × Value × Nat
def mE (e : Ent) : MapEntry := { key := .string e.1, val := e.2.1, born := e.2.2 }
def mIdx (k : ByteArray) : List Ent → Nat → Option (Nat × Value)
  | [], _ => none
  | e :: l, i => if k == e.1 then some (i, e.2.1) else mIdx k l (i + 1)
theorem bytes_beq {a b : ByteArray} : (a == b) = true ↔ a = b := by
  constructor
  · intro h
    exact ByteArray.ext (eq_of_beq (show (a.data == b.data) = true from h))
  · rintro rfl
    exact beq_self_eq_true a.data
theorem modify_map {α β : Type} (g : α → β) (f : α → α) (f' : β → β) (h : ∀ x, f' (g x) = g (f x)) (l : List α) (j : Nat) : (l.map g).modify j f' = (l.modify j f).map g := by
  apply List.ext_getElem?
  intro i
  rw [List.getElem?_modify, List.getElem?_map, List.getElem?_map, List.getElem?_modify]
  cases l[i]? with
  | none => rfl
  | some x =>
    simp only [Option.map_some, Functor.map]
    split <;> simp [h]
theorem findNow_s (k : ByteArray) : ∀ (l : List Ent) (i : Nat), Instr.findNow .string (.string k) (l.map mE) i = some (mIdx k l i)
  | [], _ => rfl
  | e :: l, i => by
    simp only [List.map_cons, Instr.findNow, mE, Instr.sameNow, mIdx]
    by_cases h : (k == e.1) = true
    · simp [h]
    · have h' : (k == e.1) = false := by simpa using h
      simp only [h', Bool.false_eq_true, if_false]
      exact findNow_s k l (i + 1)
def MapB (w : World) (r : Nat) (l : List Ent) (c : Nat) : Prop := w.heap[r]? = some (.map (l.map mE).toArray c)
variable {P : Program} {w : World} {t kt et : TypeId} {r c : Nat} {l : List Ent}
theorem findKey_s (hk : P.underlying kt = some .string) (k : ByteArray) (l : List Ent) (w : World) : (Instr.findKey kt (.string k) (l.map mE)).run P w = .ok (mIdx k l 0) w := by
  simp [Instr.findKey, run_underlying hk, findNow_s, Result.andThen]
theorem checkKey_s (hk : P.underlying kt = some .string) (b : Bool) (k : ByteArray) (w : World) : (Instr.checkKey b 10000 kt (.string k)).run P w = .ok () w :=
  MapKept.run_checkKey hk (by first | exact ⟨_, rfl⟩ | simp [MapKept.IsKey]) b 9999
theorem stays_s (k : ByteArray) (w : World) : (Instr.keyThatStays (.string k) (.string k)).run P w = .ok (.string k) w := by
  have h : Instr.sameBits 10000 (.string k) (.string k) = true := by
    unfold Instr.sameBits
    exact bytes_beq.2 rfl
  unfold Instr.keyThatStays
  rw [h]
  simp
theorem run_lookup_s (ht : P.underlying t = some (.map kt et)) (hk : P.underlying kt = some .string) {z : Value} (hz : (zeroValue et).run P w = .ok z w) (hb : MapB w r l c) (k : ByteArray) (ok : Bool) :
    (Instr.lookup t (.map (some r)) (.string k) ok).run P w = .ok (match mIdx k l 0 with | some (_, v) => (if ok then .tuple #[v, .bool true] else v) | none => (if ok then .tuple #[z, .bool false] else z)) w := by
  have h1 := findKey_s hk k l w
  cases hm : mIdx k l 0 with
  | none => rw [hm] at h1; simp [Instr.lookup, run_underlying ht, MapKept.run_getObj_map hb, checkKey_s hk, h1, hz, Result.andThen]
  | some q => rw [hm] at h1; simp [Instr.lookup, run_underlying ht, MapKept.run_getObj_map hb, checkKey_s hk, h1, Result.andThen]
theorem run_makeMap (t : TypeId) : (Instr.makeMap t none).run P w = .ok (.map (some w.heap.size)) (w.alloc (.map #[] 0)) := by
  simp [Instr.makeMap, Result.andThen]
def mPut (k : ByteArray) (v : Value) (c : Nat) (l : List Ent) : List Ent := match mIdx k l 0 with
  | some (i, _) => l.modify i fun e => (k, v, e.2.2)
  | none => l ++ [(k, v, c)]
def mTick (k : ByteArray) (c : Nat) (l : List Ent) : Nat := match mIdx k l 0 with
  | some _ => c
  | none => c + 1
theorem mIdx_at {k : ByteArray} : ∀ {l : List Ent} {i j : Nat} {v : Value}, mIdx k l i = some (j, v) → ∃ n, i ≤ j ∧ ∃ h : j - i < l.length, l[j - i] = (k, v, n)
  | [], _, _, _, h => by simp [mIdx] at h
  | e :: l, i, j, v, h => by
    unfold mIdx at h
    split at h
    · rename_i hk
      simp only [Option.some.injEq, Prod.mk.injEq] at h
      obtain ⟨rfl, rfl⟩ := h
      have : k = e.1 := bytes_beq.1 hk
      exact ⟨e.2.2, Nat.le_refl _, by simp, by simp [this]⟩
    · obtain ⟨n, h1, h2, h3⟩ := mIdx_at h
      refine ⟨n, by omega, by simp only [List.length_cons]; omega, ?_⟩
      have e1 : j - i = (j - (i + 1)) + 1 := by omega
      simp only [e1, List.getElem_cons_succ]
      exact h3
def setB (w : World) (r : Nat) (o : Obj) : World := { w with heap := w.heap.setIfInBounds r o }
theorem run_update_s (ht : P.underlying t = some (.map kt et)) (hk : P.underlying kt = some .string) (hb : MapB w r l c) (k : ByteArray) (v : Value) :
    (Instr.mapUpdate t (.map (some r)) (.string k) v).run P w = .ok () (setB w r (.map ((mPut k v c l).map mE).toArray (mTick k c l))) := by
  have h1 := findKey_s hk k l w
  unfold mPut mTick
  cases hm : mIdx k l 0 with
  | none =>
    rw [hm] at h1
    simp [Instr.mapUpdate, run_underlying ht, MapKept.run_getObj_map hb, checkKey_s hk, h1, MapKept.run_setObj_map _ hb, Result.andThen, setB, mE]
  | some q =>
    obtain ⟨j, v0⟩ := q
    rw [hm] at h1
    obtain ⟨n, _, h2, h3⟩ := mIdx_at hm
    have h2' : j < l.length := h2
    have h3' : l[j] = (k, v0, n) := h3
    have hj : ((l.map mE).toArray)[j]? = some { key := .string k, val := v0, born := n } := by
      simp [h2', h3', mE]
    simp [Instr.mapUpdate, run_underlying ht, MapKept.run_getObj_map hb, checkKey_s hk, h1, h2', h3', mE, stays_s, MapKept.run_setObj_map _ hb, Result.andThen, setB]
    rw [modify_map mE (fun e => (k, v, e.2.2)) _ (fun _ => rfl)]
theorem run_next_s {ty : TypeId} {it since c0 : Nat} {seen : Array Nat} (hr : w.heap[it]? = some (.mapIter (some r) since seen c0)) (hb : MapB w r l c) (hold : ∀ e ∈ l, e.2.2 < since) (hsc : since ≤ c0) :
    ((∀ e ∈ l, seen.contains e.2.2 = true) ∧ (Instr.next (.pointer (some ⟨it, 0, none⟩)) false ty).run P w = .ok (.tuple #[.bool false]) w) ∨
    ∃ e ∈ l, seen.contains e.2.2 = false ∧ ∃ w1 : World, (w1 = w ∨ w1 = w.drew) ∧ (Instr.next (.pointer (some ⟨it, 0, none⟩)) false ty).run P w = .ok (.tuple #[.bool true, .string e.1, e.2.1]) (setB w1 it (.mapIter (some r) since (seen.push e.2.2) c)) := by
  rcases run_next_at (P := P) w ty it r since c0 seen _ c hr hb (by intro x hx; simp only [List.mem_map] at hx; obtain ⟨e, he, rfl⟩ := hx; exact hold e he) hsc with ⟨h1, h2⟩ | ⟨x, hx, w1, h1, h2⟩
  · left
    refine ⟨fun e he => ?_, h2⟩
    unfold leftOf at h1
    have h3 := Array.eq_empty_of_size_eq_zero h1
    rw [Array.filter_eq_empty_iff] at h3
    have := h3 (mE e) (by simp only [List.mem_toArray]; exact List.mem_map_of_mem he)
    simpa [mE] using this
  · right
    obtain ⟨h3, h4⟩ := mem_left hx
    simp only [List.mem_map] at h3
    obtain ⟨e, he, rfl⟩ := h3
    exact ⟨e, he, h4, w1, h1, h2⟩
end Go.Vc
end
section
namespace Go.Vc
open Go
section
variable {P : Program} {K : Value → World → Prop} {w : World} {σ : Env} {ty : TypeId}
def vLook (P : Program) (t : TypeId) (m k : Value) (ok : Bool) (K : Value → World → Prop) (w : World) : Prop := vcUp P K ((val (Instr.lookup t m k ok)).run P w)
def vUpd (P : Program) (t : TypeId) (m k x : Value) (K : Value → World → Prop) (w : World) : Prop := vcUp P K ((unt (Instr.mapUpdate t m k x)).run P w)
def vDel (P : Program) (ts : Array TypeId) (ty : TypeId) (xs : Array Value) (K : Value → World → Prop) (w : World) : Prop := vcUp P K ((val (Builtin.delete_ ts ty xs)).run P w)
def vRng (P : Program) (t : TypeId) (x : Value) (K : Value → World → Prop) (w : World) : Prop := vcUp P K ((val (Instr.range t x)).run P w)
def vNxt (P : Program) (it : Value) (s : Bool) (ty : TypeId) (K : Value → World → Prop) (w : World) : Prop := vcUp P K ((val (Instr.next it s ty)).run P w)
@[push_cast] theorem vcOp_lookup (t : TypeId) (x i : Operand) (ok : Bool) : vcOp P (.lookup t x i ok) ty σ w K = vLook P t (ev σ x) (ev σ i) ok K w := mk_eq rfl
@[push_cast] theorem vcOp_mapUpdate (t : TypeId) (m k x : Operand) : vcOp P (.mapUpdate t m k x) ty σ w K = vUpd P t (ev σ m) (ev σ k) (ev σ x) K w := mk_eq rfl
@[push_cast] theorem vcOp_range (t : TypeId) (x : Operand) : vcOp P (.range t x) ty σ w K = vRng P t (ev σ x) K w := mk_eq rfl
@[push_cast] theorem vcOp_next (x : Operand) (s : Bool) : vcOp P (.next x s) ty σ w K = vNxt P (ev σ x) s ty K w := mk_eq rfl
@[push_cast] theorem vcOp_delete (xs : Array Operand) (ts : Array TypeId) : vcOp P (.call { callee := .builtin .delete, args := xs, argTypes := ts }) ty σ w K = vDel P ts ty (xs.map (ev σ)) K w := mk_eq (by
  show vX P (.call { callee := .builtin .delete, args := xs, argTypes := ts }) ty σ w K = _
  unfold vX exe
  rw [run_maxmin .delete _ rfl]
  rfl)
@[push_cast] theorem vcOp_makeMap (t : TypeId) : vcOp P (.makeMap t none) ty σ w K = K (.map (some w.heap.size)) (w.alloc (.map #[] 0)) := mk_eq (by
  show vcUp P K ((val (Instr.makeMap t none)).run P w) = _
  rw [run_val_pure (run_makeMap t)]
  rfl)
variable {t kt et : TypeId} {r c : Nat} {l : List Ent}
def mGot (z : Value) (o : Option (Nat × Value)) (ok : Bool) : Value := match o with
  | some (_, v) => if ok then .tuple #[v, .bool true] else v
  | none => if ok then .tuple #[z, .bool false] else z
theorem vLook_of (ht : P.underlying t = some (.map kt et)) (hk : P.underlying kt = some .string) {z : Value} (hz : ∀ w, (zeroValue et).run P w = .ok z w) (hb : MapB w r l c) (k : ByteArray) (ok : Bool) (h : K (mGot z (mIdx k l 0) ok) w) : vLook P t (.map (some r)) (.string k) ok K w := by
  unfold vLook
  rw [run_val_pure (run_lookup_s ht hk (hz w) hb k ok)]
  exact h
theorem vUpd_of (ht : P.underlying t = some (.map kt et)) (hk : P.underlying kt = some .string) (hb : MapB w r l c) (k : ByteArray) (v : Value) (h : K undef (setB w r (.map ((mPut k v c l).map mE).toArray (mTick k c l)))) : vUpd P t (.map (some r)) (.string k) v K w := by
  unfold vUpd
  rw [run_unt (run_update_s ht hk hb k v)]
  exact h
theorem vRng_of (ht : P.underlying t = some (.map kt et)) (hb : MapB w r l c) (h : K (.pointer (some ⟨w.heap.size, 0, none⟩)) (w.alloc (.mapIter (some r) c #[] c))) : vRng P t (.map (some r)) K w := by
  unfold vRng
  rw [run_val_pure (run_range_map w t kt et r _ c ht hb)]
  exact h
theorem vNxt_of {it since c0 : Nat} {seen : Array Nat} (hr : w.heap[it]? = some (.mapIter (some r) since seen c0)) (hb : MapB w r l c) (hold : ∀ e ∈ l, e.2.2 < since) (hsc : since ≤ c0)
    (h0 : (∀ e ∈ l, seen.contains e.2.2 = true) → K (.tuple #[.bool false]) w)
    (h1 : ∀ e ∈ l, seen.contains e.2.2 = false → ∀ w1 : World, (w1 = w ∨ w1 = w.drew) → K (.tuple #[.bool true, .string e.1, e.2.1]) (setB w1 it (.mapIter (some r) since (seen.push e.2.2) c))) : vNxt P (.pointer (some ⟨it, 0, none⟩)) false ty K w := by
  unfold vNxt
  rcases run_next_s (P := P) (ty := ty) hr hb hold hsc with ⟨a, b⟩ | ⟨e, he, a, w1, b, d⟩
  · rw [run_val_pure b]; exact h0 a
  · rw [run_val_pure d]; exact h1 e he a w1 b
end
end Go.Vc
namespace Go.Vc
section
variable {P : Program} {K : Value → World → Prop} {w : World} {σ : Env} {ty : TypeId}
def vEnt (P : Program) (it : Value) (K : Value → World → Prop) (w : World) : Prop := vcUp P K ((val (Instr.entry it)).run P w)
@[push_cast] theorem vcOp_entry (x : Operand) : vcOp P (.entry x) ty σ w K = vEnt P (ev σ x) K w := mk_eq rfl
theorem vEnt_of {r c since it : Nat} {l : List Ent} {seen : Array Nat} {e : Ent} (hr : w.heap[it]? = some (.mapIter (some r) since (seen.push e.2.2) c)) (hb : MapB w r l c) (he : e ∈ l) (hn : (l.map (·.2.2)).Nodup) (h : K (.tuple #[.string e.1, e.2.1]) w) : vEnt P (.pointer (some ⟨it, 0, none⟩)) K w := by
  unfold vEnt
  have h1 : (mE e) ∈ ((l.map mE).toArray).toList := by simp only [List.mem_map]; exact ⟨e, he, rfl⟩
  have h2 : ((((l.map mE).toArray).toList).map (·.born)).Nodup := by
    have : (((l.map mE).toArray).toList).map (·.born) = l.map (·.2.2) := by simp [mE]
    rw [this]; exact hn
  rw [run_val_pure (run_entry_at w it r since seen _ c (mE e) hr hb h1 h2)]
  exact h
end
theorem chg_setB' {w : World} {r : Nat} (o : Obj) : (setB w r o).os = w.os ∧ (setB w r o).tape = w.tape ∧ (setB w r o).output = w.output ∧ (setB w r o).heap.size = w.heap.size ∧ ∀ k, k ≠ r → (setB w r o).heap[k]? = w.heap[k]? := by
  refine ⟨rfl, rfl, rfl, by simp [setB], fun k hk => ?_⟩
  simp [setB, Array.getElem?_setIfInBounds, Ne.symm hk]
theorem setB_at {w : World} {r : Nat} {o o' : Obj} (h : w.heap[r]? = some o') : (setB w r o).heap[r]? = some o := by
  have := (Array.getElem?_eq_some_iff.1 h).1
  simp [setB, Array.getElem?_setIfInBounds, this]
end Go.Vc
end
section
namespace Go.Proofs.Ytcajkjbempagaaa
end Go.Proofs.Ytcajkjbempagaaa
end
section
set_option linter.unusedSimpArgs false
namespace Go.Vlt
open Go Go.Vc
structure VE where
  name : ByteArray
  b : List UInt8
  safe : Nat
  sv : Value
  born : Nat
def VE.ent (e : VE) : Ent := (e.name, .agg #[e.sv, .int .i64 e.safe], e.born)
def InT (E : TypeId) (w : World) : Value → Prop
  | .slice (some a) n _ => n = 0 ∨ ∃ cs, Blk w a.block cs E
  | _ => True
theorem InT.of_own {E : TypeId} {w : World} {B s n : Nat} {v : Value} {xs : List Value} (h : w.ownsRow B E s v n xs) : InT E w v := by
  obtain ⟨_, h⟩ := h
  rcases h with ⟨rfl, _⟩ | ⟨g, cap, cur, rfl, hb, hh, _⟩
  · trivial
  · exact .inr ⟨cur, hh⟩
theorem fresh_nat : ∀ ks : List Nat, ∃ n, ∀ k ∈ ks, k < n
  | [] => ⟨0, by simp⟩
  | a :: ks => by
    obtain ⟨n, hn⟩ := fresh_nat ks
    refine ⟨n + a + 1, fun k hk => ?_⟩
    rcases List.mem_cons.1 hk with rfl | hk
    · omega
    · have := hn k hk; omega
theorem InT.at_ {E : TypeId} {w : World} {v : Value} {ks : List Nat} (h : InT E w v) (hk : ∀ k ∈ ks, ∀ cs, ¬ Blk w k cs E) : ∃ j, inB j v ∧ j ∉ ks := by
  obtain ⟨n, hn⟩ := fresh_nat ks
  have hnn : n ∉ ks := fun hm => by have := hn n hm; omega
  unfold InT at h
  split at h
  · rename_i a m c
    rcases h with rfl | ⟨cs, hb⟩
    · exact ⟨n, .inl rfl, hnn⟩
    · exact ⟨a.block, .inr rfl, fun hm => hk _ hm cs hb⟩
  · rename_i hno
    refine ⟨n, ?_, hnn⟩
    unfold inB
    split
    · rename_i a m c
      exact absurd rfl (hno a m c)
    · trivial
theorem InT.chg {E : TypeId} {w w' : World} {v : Value} {ks : List Nat} (h : InT E w v) (g : Chg w w' ks) (hk : ∀ k ∈ ks, ∀ cs, ¬ Blk w k cs E) : InT E w' v := by
  unfold InT at h ⊢
  split
  · rename_i a m c
    simp only at h
    rcases h with rfl | ⟨cs, hb⟩
    · exact .inl rfl
    · exact .inr ⟨cs, hb.chg g fun hm => hk _ hm cs hb⟩
  · trivial
structure VE.Ok (E : TypeId) (w : World) (e : VE) : Prop where
  sl : Sl w e.sv (e.b.map u8v)
  u8 : InT E w e.sv
  safe : e.safe ≤ e.b.length
theorem VE.Ok.chg {E : TypeId} {w w' : World} {e : VE} {ks : List Nat} (h : e.Ok E w) (g : Chg w w' ks) (hk : ∀ k ∈ ks, ∀ cs, ¬ Blk w k cs E) : e.Ok E w' := by
  obtain ⟨j, j1, j2⟩ := h.u8.at_ hk
  exact ⟨Sl.chg h.sl g j2 j1, h.u8.chg g hk, h.safe⟩
structure VIs (T E : TypeId) (w : World) (bk r : Nat) (room fuse : Int) (es : List VE) (c : Nat) : Prop where
  te : T ≠ E
  blk : Blk w bk #[.int .i64 room, .int .i64 fuse, .map (some r)] T
  map : MapB w r (es.map VE.ent) c
  apart : es.Pairwise fun x y => x.name ≠ y.name
  born : ∀ e ∈ es, e.born < c
  nodup : (es.map VE.born).Nodup
  ok : ∀ e ∈ es, e.Ok E w
theorem VIs.ne {T E : TypeId} {w : World} {bk r : Nat} {room fuse : Int} {es : List VE} {c : Nat} (h : VIs T E w bk r room fuse es c) : bk ≠ r := by
  rintro rfl
  have h1 := h.blk
  have h2 := h.map
  unfold Blk at h1
  unfold MapB at h2
  rw [h1] at h2
  cases h2
theorem VIs.box {T E : TypeId} {w : World} {bk r : Nat} {room fuse : Int} {es : List VE} {c : Nat} (h : VIs T E w bk r room fuse es c) : ∀ cs, ¬ Blk w bk cs E := fun cs hb => by
  have h1 := h.blk
  unfold Blk at h1 hb
  rw [h1] at hb
  simp only [Option.some.injEq, Obj.cells.injEq] at hb
  exact h.te hb.2.1
theorem VIs.mapb {T E : TypeId} {w : World} {bk r : Nat} {room fuse : Int} {es : List VE} {c : Nat} (h : VIs T E w bk r room fuse es c) : ∀ t cs, ¬ Blk w r cs t := fun t cs hb => by
  have h1 := h.map
  unfold MapB at h1
  unfold Blk at hb
  rw [h1] at hb
  cases hb
theorem chg_setB {w : World} {r : Nat} {ks : List Nat} (hk : r ∈ ks) (o : Obj) : Chg w (setB w r o) ks := by
  obtain ⟨a, b, c, d, e⟩ := chg_setB' (w := w) (r := r) o
  exact ⟨a, b, c, Nat.le_of_eq d.symm, fun k _ hn => e k fun h => hn (h ▸ hk)⟩
theorem VIs.chg {T E : TypeId} {w w' : World} {bk r : Nat} {room fuse : Int} {es : List VE} {c : Nat} {ks : List Nat} (h : VIs T E w bk r room fuse es c) (g : Chg w w' ks) (hb : bk ∉ ks) (hr : r ∉ ks) (hk : ∀ k ∈ ks, ∀ cs, ¬ Blk w k cs E) : VIs T E w' bk r room fuse es c :=
  ⟨h.te, h.blk.chg g hb, (g.block r (Array.getElem?_eq_some_iff.1 h.map).1 hr).trans h.map, h.apart, h.born, h.nodup, fun e he => (h.ok e he).chg g hk⟩
theorem VIs.later {T E : TypeId} {w w' : World} {bk r : Nat} {room fuse : Int} {es : List VE} {c : Nat} (h : VIs T E w bk r room fuse es c) (hl : Later w w') : VIs T E w' bk r room fuse es c :=
  h.chg (Chg.of_later (ks := []) hl) (by simp) (by simp) (by simp)
theorem VIs.fuse {T E : TypeId} {w : World} {bk r : Nat} {room fuse : Int} {es : List VE} {c : Nat} (h : VIs T E w bk r room fuse es c) (n : Int) : VIs T E (w.setCell ⟨bk, 1, none⟩ (.int .i64 n)) bk r room n es c := by
  have c2 := chg_setCell (i := 1) w (ks := [bk]) (k := bk) (by simp) (.int .i64 n)
  exact ⟨h.te, h.blk.set 1 (.int .i64 n), (c2.block r (Array.getElem?_eq_some_iff.1 h.map).1 (by simpa using h.ne.symm)).trans h.map, h.apart, h.born, h.nodup, fun e he => (h.ok e he).chg c2 fun k hk => by rw [List.mem_singleton.1 hk]; exact h.box⟩
end Go.Vlt
namespace Go.Proofs.Ytcajkjbempagaaa
open Go.Vc Go.Vlt
set_option maxRecDepth 100000
abbrev Vt (w : World) (bk r : Nat) (room fuse : Int) (es : List VE) (c : Nat) : Prop := VIs 66 5 w bk r room fuse es c
theorem new_c (room : Int) (w : World) (h : -9223372036854775808 ≤ room ∧ room ≤ 9223372036854775807) : FnC Try.prog 9 #[.int .i64 room] w fun v w' => ((v = .tuple #[.pointer none, .int .i64 1] ∧ ¬ (0 ≤ room ∧ room ≤ 16777216)) ∨ (0 ≤ room ∧ room ≤ 16777216 ∧ ∃ bk r, w.heap.size ≤ bk ∧ w.heap.size ≤ r ∧ v = .tuple #[.pointer (some ⟨bk, 0, none⟩), .int .i64 0] ∧ Vt w' bk r room (-1) [] 0)) ∧ Later w w' := by
  refine enter9 _ ?_
  unfold B9
  by_cases h1 : room < 0
  · have hd := decide_eq_true h1
    repeat' (first | (simp (disch := omega) only [push_cast, seval, hd]) | refine iX ?_ ?_ <;> intros | refine aI (by omega) ?_ | refine dq ?_)
    first | exact Later.refl _ | exact ⟨.inl ⟨rfl, by omega⟩, Later.refl _⟩
  by_cases h2 : 16777216 < room
  · have hd := decide_eq_false h1
    have hd2 := decide_eq_true h2
    repeat' (first | (simp (disch := omega) only [push_cast, seval, hd, hd2]) | refine iX ?_ ?_ <;> intros | refine aI (by omega) ?_ | refine dq ?_)
    first | exact Later.refl _ | exact ⟨.inl ⟨rfl, by omega⟩, Later.refl _⟩
  have hd := decide_eq_false h1
  have hd2 := decide_eq_false h2
  repeat' (first | (simp (disch := omega) only [push_cast, seval, hd, hd2]) | refine iX ?_ ?_ <;> intros | refine aI (by omega) ?_ | refine dq ?_)
  have l1 := later_alloc w (.map #[] 0)
  have hm : (w.alloc (.map #[] 0)).heap[w.heap.size]? = some (.map #[] 0) := heap_new w _
  have hw1 : w.heap.size < (w.alloc (.map #[] 0)).heap.size := (Array.getElem?_eq_some_iff.1 hm).1
  generalize w.alloc (.map #[] 0) = w1 at *
  have l2 := later_alloc w1 (.cells #[.int .i64 room, .int .i64 (-1), .map (some w.heap.size)] 66)
  have hV : Vt (w1.alloc (.cells #[.int .i64 room, .int .i64 (-1), .map (some w.heap.size)] 66)) w1.heap.size w.heap.size room (-1) [] 0 :=
    ⟨by decide, Blk.new _ _ _, (heap_alloc hw1 _).trans hm, List.Pairwise.nil, by simp, List.nodup_nil, by simp⟩
  exact ⟨.inr ⟨by omega, by omega, _, _, l1.size, Nat.le_refl _, rfl, hV⟩, l1.trans l2⟩
theorem burns_c (bk r : Nat) (room fuse : Int) (es : List VE) (c : Nat) (w : World) (h : Vt w bk r room fuse es c) (hf : -1 ≤ fuse ∧ fuse ≤ 9223372036854775807) : FnC Try.prog 27 #[.pointer (some ⟨bk, 0, none⟩)] w fun v w' => (∃ f, f = (if 0 < fuse then fuse - 1 else fuse) ∧ v = .int .i64 (if f = 0 then 272 else 0) ∧ Vt w' bk r room f es c) ∧ Chg w w' [bk] := by
  refine enter27 _ ?_
  unfold B27
  have f1 : w.cell? ⟨bk, 1, none⟩ = some (.int .i64 fuse) := h.blk.cell 1
  have hfz := h.blk.frozen 1
  by_cases h0 : 0 < fuse
  · have hd := decide_eq_true h0
    have hce : ∃ y, w.cell? ⟨bk, 1, none⟩ = some y := ⟨_, f1⟩
    have B2 := h.blk.set 1 (.int .i64 (fuse - 1))
    have c2 := chg_setCell (i := 1) w (ks := [bk]) (k := bk) (by simp) (.int .i64 (fuse - 1))
    have hV : Vt (w.setCell ⟨bk, 1, none⟩ (.int .i64 (fuse - 1))) bk r room (fuse - 1) es c := h.fuse _
    have f2 : (w.setCell ⟨bk, 1, none⟩ (.int .i64 (fuse - 1))).cell? ⟨bk, 1, none⟩ = some (.int .i64 (fuse - 1)) := B2.cell 1
    repeat' (first | (simp (disch := omega) only [push_cast, seval, f1, hd, addr_add_eq, Nat.zero_add]) | refine iX ?_ ?_ <;> intros | refine aI (by omega) ?_ | refine dq ?_)
    first | refine ⟨⟨_, rfl⟩, hfz, ?_⟩ | refine ⟨hfz, ?_⟩ | skip
    generalize w.setCell ⟨bk, 1, none⟩ (.int .i64 (fuse - 1)) = w2 at *
    by_cases h1 : fuse - 1 = 0
    · have hd1 := decide_eq_true h1
      repeat' (first | (simp (disch := omega) only [push_cast, seval, f2, hd1, addr_add_eq, Nat.zero_add]) | refine iX ?_ ?_ <;> intros | refine aI (by omega) ?_ | refine dq ?_)
      first | exact ⟨⟨_, by rw [if_pos h0], by rw [if_pos h1], hV⟩, c2⟩ | skip
    · have hd1 := decide_eq_false h1
      repeat' (first | (simp (disch := omega) only [push_cast, seval, f2, hd1, addr_add_eq, Nat.zero_add]) | refine iX ?_ ?_ <;> intros | refine aI (by omega) ?_ | refine dq ?_)
      first | exact ⟨⟨_, by rw [if_pos h0], by rw [if_neg h1], hV⟩, c2⟩ | skip
  · have hd := decide_eq_false h0
    by_cases h1 : fuse = 0
    · have hd1 := decide_eq_true h1
      repeat' (first | (simp (disch := omega) only [push_cast, seval, f1, hd, hd1, addr_add_eq, Nat.zero_add]) | refine iX ?_ ?_ <;> intros | refine aI (by omega) ?_ | refine dq ?_)
      exact ⟨⟨fuse, by rw [if_neg h0], by rw [if_pos h1], h⟩, Chg.refl _ _⟩
    · have hd1 := decide_eq_false h1
      repeat' (first | (simp (disch := omega) only [push_cast, seval, f1, hd, hd1, addr_add_eq, Nat.zero_add]) | refine iX ?_ ?_ <;> intros | refine aI (by omega) ?_ | refine dq ?_)
      exact ⟨⟨fuse, by rw [if_neg h0], by rw [if_neg h1], h⟩, Chg.refl _ _⟩
end Go.Proofs.Ytcajkjbempagaaa
end
section
namespace Go.Proofs.Ytcajkjbempagaaa
end Go.Proofs.Ytcajkjbempagaaa
end
section
set_option linter.unusedSimpArgs false
namespace Go.Proofs.Ytcajkjbempagaaa
open Go.Vc Go.Chk Go.Zig
set_option maxRecDepth 100000
theorem bit_u32_xor (a b : Nat) (ha : a < 4294967296) (hb : b < 4294967296) : bitI .xor .u32 a b = ((a ^^^ b : Nat) : Int) := by
  have h1 : a ^^^ b < 2 ^ 32 := Nat.xor_lt_two_pow ha hb
  show IntKind.u32.wrap ((BitVec.ofInt 32 a ^^^ BitVec.ofInt 32 b).toNat : Int) = _
  simp only [ofInt_nat, BitVec.toNat_xor, BitVec.toNat_ofNat]
  rw [Nat.mod_eq_of_lt (show a < 2 ^ 32 by omega), Nat.mod_eq_of_lt (show b < 2 ^ 32 by omega)]
  exact wrap_u32 (by omega)
theorem bit_u32_and (a b : Nat) (ha : a < 4294967296) (hb : b < 4294967296) : bitI .and .u32 a b = ((a &&& b : Nat) : Int) := by
  have h1 : a &&& b ≤ a := Nat.and_le_left
  show IntKind.u32.wrap ((BitVec.ofInt 32 a &&& BitVec.ofInt 32 b).toNat : Int) = _
  simp only [ofInt_nat, BitVec.toNat_and, BitVec.toNat_ofNat]
  rw [Nat.mod_eq_of_lt (show a < 2 ^ 32 by omega), Nat.mod_eq_of_lt (show b < 2 ^ 32 by omega)]
  exact wrap_u32 (by omega)
def tbl : List Nat := (List.range 16).map (stN 4)
theorem tbl_len : tbl.length = 16 := rfl
theorem tbl_at {i : Nat} (h : i < 16) : tbl[i]? = some (stN 4 i) := by simp [tbl, h]
def u32v (n : Nat) : Value := .int .u32 n
theorem st_i {x : Nat} (h : x < 4294967296) : bitI .xor .u32 ((x : Int) / 2) (IntKind.u32.wrap (2197175160 * bitI .and .u32 (x : Int) 1)) = ((st x : Nat) : Int) := by
  have h1 := bit_u32_and x 1 h (by omega)
  rw [Nat.and_one_is_mod] at h1
  have h1' : bitI .and .u32 (x : Int) 1 = ((x % 2 : Nat) : Int) := h1
  rw [h1']
  have e : IntKind.u32.wrap (2197175160 * ((x % 2 : Nat) : Int)) = (((if x % 2 = 1 then poly else 0) : Nat) : Int) := by
    by_cases h2 : x % 2 = 1
    · rw [if_pos h2, h2]; rfl
    · have : x % 2 = 0 := by omega
      rw [if_neg h2, this]; rfl
  rw [e]
  have := bit_u32_xor (x / 2) (if x % 2 = 1 then poly else 0) (by omega) (by split <;> decide)
  unfold st
  rw [← this]; rfl
def tpad (i : Nat) : List Value := (tbl.take i).map u32v ++ List.replicate (16 - i) (Value.int .u32 0)
theorem tpad_len {i : Nat} (h : i ≤ 16) : (tpad i).length = 16 := by unfold tpad; simp [tbl_len]; omega
theorem tbl_set {i : Nat} (h : i < 16) : (tpad i).set i (u32v (stN 4 i)) = tpad (i + 1) := by
  unfold tpad
  have hl : ((tbl.take i).map u32v).length = i := by simp [tbl_len]; omega
  obtain ⟨m, hm⟩ : ∃ m, 16 - i = m + 1 := ⟨16 - i - 1, by omega⟩
  have hm2 : 16 - (i + 1) = m := by omega
  have ht : tbl.take (i + 1) = tbl.take i ++ [stN 4 i] := by
    rw [List.take_add_one, tbl_at h]; rfl
  rw [hm, hm2, List.replicate_succ, ht, List.map_append, List.append_assoc, List.set_append_right _ _ (by omega), hl]
  simp
theorem tpad_end : tpad 16 = tbl.map u32v := by unfold tpad; simp [tbl_len, List.take_of_length_le]
theorem tbl_one : ∀ u ∈ tbl.map u32v, u.oneCell' = true := by
  intro u hu
  obtain ⟨c, _, rfl⟩ := List.mem_map.1 hu
  rfl
set_option maxRecDepth 100000 in
theorem table_c (w : World) : FnC Try.prog 74 #[] w fun v w' => v = .agg (tbl.map u32v).toArray ∧ Later w w' := by
  refine enter74 ?_
  unfold B74
  repeat' (first | (simp (disch := omega) only [push_cast, seval]) | refine iX ?_ ?_ <;> intros | refine aI (by omega) ?_ | refine dq ?_)
  have B0 := Blk.new w (tpad 0).toArray 123
  have hl0 := later_alloc w (.cells (tpad 0).toArray 123)
  have s0 := World.size_alloc w (.cells (tpad 0).toArray 123)
  have e0 : (tpad 0).toArray = #[.int .u32 0, .int .u32 0, .int .u32 0, .int .u32 0, .int .u32 0, .int .u32 0, .int .u32 0, .int .u32 0, .int .u32 0, .int .u32 0, .int .u32 0, .int .u32 0, .int .u32 0, .int .u32 0, .int .u32 0, .int .u32 0] := rfl
  rw [← e0]
  generalize w.alloc (.cells (tpad 0).toArray 123) = w1 at *
  have B1 := Blk.new w1 (tpad 0).toArray 123
  have hl1 := later_alloc w1 (.cells (tpad 0).toArray 123)
  have B0 := B0.alloc (.cells (tpad 0).toArray 123)
  generalize w1.alloc (.cells (tpad 0).toArray 123) = w2 at *
  have hl2 := hl0.trans hl1
  generalize hk : w1.heap.size = k1 at *
  refine vc_loop W74_0 (fun i : Nat => [(4, .int .i64 (i : Int))])
    (fun i w' => i ≤ 16 ∧ Later w w' ∧ Blk w' w.heap.size (tpad 0).toArray 123 ∧ Blk w' k1 (tpad i).toArray 123) (fun i => 16 - i) 0 (by decide) ?_ ?_ ?_
  · simp (disch := omega) only [push_cast, seval]
  · exact ⟨by omega, hl2, B0, B1⟩
  rintro i uu w3 ⟨hi, hl3, B0, B1⟩
  by_cases hi' : i < 16
  · repeat' (first | (simp (disch := omega) only [push_cast, seval]) | refine iX ?_ ?_ <;> intros | refine aI (by omega) ?_ | refine dq ?_)
    refine vc_loop W74_1 (fun j : Nat => [(3, .int .u32 ((stN j i : Nat) : Int)), (9, .int .i64 (j : Int))])
      (fun j w' => j ≤ 4 ∧ w' = w3) (fun j => 4 - j) 0 (by decide) ?_ ?_ ?_
    · simp (disch := omega) only [push_cast, seval]
      rfl
    · exact ⟨by omega, rfl⟩
    rintro j uu w0 ⟨hj, hw⟩
    obtain rfl := hw.symm
    have hlt := stN_lt j (x := i) (by omega)
    by_cases hj' : j < 4
    · have hst := st_i hlt
      have hs := stN_succ j i
      rw [← hs] at hst
      generalize stN j i = X at *
      repeat' (first | (simp (disch := omega) only [push_cast, seval, hst]) | refine iX ?_ ?_ <;> intros | refine aI (by omega) ?_ | refine dq ?_)
      exact ⟨rfl, j + 1, by simp (disch := omega) only [push_cast, seval], ⟨by omega, rfl⟩, by simp; omega⟩
    · have e : j = 4 := by omega
      subst e
      have B1' := B1.setL (i := i) (u32v (stN 4 i))
      rw [tbl_set hi'] at B1'
      have hfz := B1.frozen i
      have hce : ∃ y, w3.cell? ⟨k1, i, none⟩ = some y := by
        rw [B1.cell]; exact ⟨(tpad i)[i]'(by rw [tpad_len hi]; omega), by simp⟩
      have g1 := chg_setCell (i := i) w3 (ks := [k1]) (k := k1) (by simp) (u32v (stN 4 i))
      unfold u32v at *
      generalize stN 4 i = X at *
      repeat' (first | (simp (disch := omega) only [push_cast, seval, addr_add_eq, Nat.zero_add, hfz]) | refine iX ?_ ?_ <;> intros | refine aI (by omega) ?_ | refine dq ?_)
      exact ⟨rfl, i + 1, by simp (disch := omega) only [push_cast, seval], ⟨by omega, g1.later hl3 (by simp; omega), B0.chg g1 (by simp; omega), B1'⟩, by simp; omega⟩
  · have e : i = 16 := by omega
    subst e
    rw [tpad_end] at B1
    have hcs := B1.cellsAt
    have h16 : (tbl.map u32v).length = 16 := rfl
    rw [h16] at hcs
    repeat' (first | (simp (disch := omega) only [push_cast, seval, hcs]) | refine iX ?_ ?_ <;> intros | refine aI (by omega) ?_ | refine dq ?_)
    refine vStore_blk B0 rfl rfl tbl_one ?_
    intro w4 B4 g4
    repeat' (first | (simp (disch := omega) only [push_cast, seval]) | refine iX ?_ ?_ <;> intros | refine aI (by omega) ?_ | refine dq ?_)
    refine resK_agg (ad := ⟨w.heap.size, 0, none⟩) (by simp (disch := omega) only [push_cast, seval]) Try.underlying123 sz123 B4.cellsAt ⟨rfl, g4.later hl3 (by simp)⟩
theorem xor_u32 {a b : Nat} (ha : a < 4294967296) (hb : b < 4294967296) : a ^^^ b < 4294967296 := Nat.xor_lt_two_pow (n := 32) ha hb
set_option maxRecDepth 100000 in
theorem sum_c (v : Value) (l : List UInt8) (w : World) (h : Sl w v (l.map u8v)) : FnC Try.prog 55 #[v] w fun v w' => v = .int .u32 (sum l : Nat) ∧ Later w w' := by
  obtain ⟨o, c, rfl, g1, g2, h, g3⟩ := h.openM
  refine enter55 _ ?_
  unfold B55
  repeat' (first | (simp (disch := omega) only [push_cast, seval]) | refine iX ?_ ?_ <;> intros | refine aI (by omega) ?_ | refine dq ?_)
  refine (table_c w).mono ?_
  rintro _ w1 ⟨rfl, hl1⟩
  repeat' (first | (simp (disch := omega) only [push_cast, seval]) | refine iX ?_ ?_ <;> intros | refine aI (by omega) ?_ | refine dq ?_)
  have e0 : #[Value.int .u32 0, .int .u32 0, .int .u32 0, .int .u32 0, .int .u32 0, .int .u32 0, .int .u32 0, .int .u32 0, .int .u32 0, .int .u32 0, .int .u32 0, .int .u32 0, .int .u32 0, .int .u32 0, .int .u32 0, .int .u32 0] = (tpad 0).toArray := rfl
  rw [e0]
  have B1 := Blk.new w1 (tpad 0).toArray 123
  have hl2 := later_alloc w1 (.cells (tpad 0).toArray 123)
  generalize w1.alloc (.cells (tpad 0).toArray 123) = w2 at *
  refine vStore_blk B1 rfl rfl tbl_one ?_
  intro w3 B3 g3
  have hl3 : Later w w3 := hl1.trans (g3.later hl2 (by simp))
  have ht : ∀ i, i < 16 → w3.cell? ⟨w1.heap.size, i, none⟩ = some (u32v (stN 4 i)) := by
    intro i hi
    rw [B3.cell]; simp [tbl_at hi]
  generalize w1.heap.size = k at *
  repeat' (first | (simp (disch := omega) only [push_cast, seval]) | refine iX ?_ ?_ <;> intros | refine aI (by omega) ?_ | refine dq ?_)
  refine vc_loop W55_0 (fun i : Nat => [(4, .int .u32 ((rem ones (l.take i) : Nat) : Int)), (10, .int .i64 (i : Int))])
    (fun i w' => i ≤ l.length ∧ w' = w3) (fun i => l.length - i) 0 (by decide) ?_ ?_ ?_
  · simp (disch := omega) only [push_cast, seval]
    rfl
  · exact ⟨by omega, rfl⟩
  rintro i uu w0 ⟨hi, hw⟩
  obtain rfl := hw.symm
  have hr := rem_lt (l.take i) (s := ones) (by decide)
  by_cases hi' : i < l.length
  · obtain ⟨a, rfl⟩ := h.some hi'
    have hc := (h.later hl3).at8 hi'
    have htk := take_snoc l i hi'
    have hu := u8_lt l[i]
    have hstep : rem ones (l.take (i + 1)) = stN 8 (rem ones (l.take i) ^^^ l[i].toNat) := by
      rw [htk, rem_append]; rfl
    generalize rem ones (l.take i) = s at *
    have hx := bit_u32_xor s l[i].toNat hr (by omega)
    have hxl := xor_u32 hr (show l[i].toNat < 4294967296 by omega)
    generalize hX : s ^^^ l[i].toNat = X at *
    repeat' (first | (simp (disch := omega) only [push_cast, seval, hc, hx]) | refine iX ?_ ?_ <;> intros | refine aI (by omega) ?_ | refine dq ?_)
    refine vc_loop W55_1 (fun j : Nat => [(4, .int .u32 ((stN (4 * j) X : Nat) : Int)), (18, .int .i64 (j : Int))])
      (fun j w' => j ≤ 2 ∧ w' = w3) (fun j => 2 - j) 0 (by decide) ?_ ?_ ?_
    · simp (disch := omega) only [push_cast, seval]
      rfl
    · exact ⟨by omega, rfl⟩
    rintro j uu w0 ⟨hj, hw⟩
    obtain rfl := hw.symm
    have hlt := stN_lt (4 * j) hxl
    have hs4 := stN_add (4 * j) 4 X
    have e8 : 4 * j + 4 = 4 * (j + 1) := by omega
    rw [e8, stN_four] at hs4
    generalize hY : stN (4 * j) X = Y at *
    have hm : Y % 16 < 16 := Nat.mod_lt _ (by omega)
    have ha := bit_u32_and Y 15 hlt (by omega)
    have e15 := Nat.and_two_pow_sub_one_eq_mod Y 4
    have e15' : Y &&& 15 = Y % 16 := e15
    rw [e15'] at ha
    have hcell := ht (Y % 16) hm
    unfold u32v at hcell
    have hl4 := stN_lt 4 (x := Y % 16) (by omega)
    have hx2 := bit_u32_xor (Y / 16) (stN 4 (Y % 16)) (by omega) hl4
    rw [← hs4] at hx2
    generalize stN 4 (Y % 16) = Z at *
    generalize Y % 16 = M at *
    have hx2' : bitI .xor .u32 ((Y : Int) / 16) (Z : Int) = ((stN (4 * (j + 1)) X : Nat) : Int) := hx2
    have ha' : bitI .and .u32 (Y : Int) 15 = (M : Int) := ha
    by_cases hj' : j < 2
    · repeat' (first | (simp (disch := omega) only [push_cast, seval, ha', addr_add_eq, Nat.zero_add, hcell, hx2']) | refine iX ?_ ?_ <;> intros | refine aI (by omega) ?_ | refine dq ?_)
      exact ⟨rfl, j + 1, by simp (disch := omega) only [push_cast, seval], ⟨by omega, rfl⟩, by simp; omega⟩
    · have e : j = 2 := by omega
      subst e
      have hY' : stN 8 X = Y := hY
      rw [hY'] at hstep
      repeat' (first | (simp (disch := omega) only [push_cast, seval]) | refine iX ?_ ?_ <;> intros | refine aI (by omega) ?_ | refine dq ?_)
      exact ⟨rfl, i + 1, by simp (disch := omega) only [push_cast, seval, hstep], ⟨by omega, rfl⟩, by simp; omega⟩
  · have e : i = l.length := by omega
    subst e
    rw [List.take_length] at hr ⊢
    have hx := bit_u32_xor ones (rem ones l) (by decide) hr
    rw [← compl_xor hr] at hx
    have hx' : bitI .xor .u32 (if IntKind.u32.signed = true then -1 else IntKind.u32.max) (rem ones l : Int) = ((sum l : Nat) : Int) := hx
    repeat' (first | (simp (disch := omega) only [push_cast, seval, hx']) | refine iX ?_ ?_ <;> intros | refine aI (by omega) ?_ | refine dq ?_)
    exact hl3
set_option maxRecDepth 100000 in
theorem rSum_c (v : Value) (l : List UInt8) (w : World) (h : Sl w v (l.map u8v)) : FnC Try.prog 62 #[v] w fun v w' => v = .int .u32 (sum l : Nat) ∧ w' = w := by
  obtain ⟨o, c, rfl, g1, g2, h, g3⟩ := h.openM
  refine enter62 _ ?_
  unfold B62
  repeat' (first | (simp (disch := omega) only [push_cast, seval]) | refine iX ?_ ?_ <;> intros | refine aI (by omega) ?_ | refine dq ?_)
  refine vc_loop W62_0 (fun i : Nat => [(3, .int .u32 ((rem ones (l.take i) : Nat) : Int)), (4, .int .i64 (i : Int))])
    (fun i w' => i ≤ l.length ∧ w' = w) (fun i => l.length - i) 0 (by decide) ?_ ?_ ?_
  · simp (disch := omega) only [push_cast, seval]
    rfl
  · exact ⟨by omega, rfl⟩
  rintro i uu w0 ⟨hi, hw⟩
  obtain rfl := hw.symm
  have hr := rem_lt (l.take i) (s := ones) (by decide)
  by_cases hi' : i < l.length
  · obtain ⟨a, rfl⟩ := h.some hi'
    have hc := h.at8 hi'
    have htk := take_snoc l i hi'
    have hu := u8_lt l[i]
    have hstep : rem ones (l.take (i + 1)) = inBits 8 (rem ones (l.take i)) l[i].toNat := by
      rw [htk, rem_append, inBits_byte _ _ hu]; rfl
    generalize rem ones (l.take i) = s at *
    generalize l[i].toNat = b at *
    repeat' (first | (simp (disch := omega) only [push_cast, seval]) | refine iX ?_ ?_ <;> intros | refine aI (by omega) ?_ | refine dq ?_)
    refine vc_loop W62_1 (fun j : Nat => [(3, .int .u32 ((inBits j s b : Nat) : Int)), (5, .int .i64 (j : Int))])
      (fun j w' => j ≤ 8 ∧ w' = w) (fun j => 8 - j) 0 (by decide) ?_ ?_ ?_
    · simp (disch := omega) only [push_cast, seval]
      rfl
    · exact ⟨by omega, rfl⟩
    rintro j uu w0 ⟨hj, hw⟩
    obtain rfl := hw.symm
    have hlt := inBits_lt j b hr
    have hsu := inBits_succ j s b
    have hfd : (b : Int).fdiv (2 ^ j) = ((b / 2 ^ j : Nat) : Int) := by
      have e : (2 : Int) ^ j = ((2 ^ j : Nat) : Int) := by rw [Int.natCast_pow]; rfl
      rw [e, ← Int.ofNat_fdiv]
    have hbl : b / 2 ^ j ≤ b := Nat.div_le_self _ _
    have hx := bit_u32_xor (inBits j s b / 2) poly (by omega) (by decide)
    generalize b / 2 ^ j = B at *
    have hx' : bitI .xor .u32 ((inBits j s b : Int) / 2) 2197175160 = ((inBits j s b / 2 ^^^ poly : Nat) : Int) := hx
    by_cases hj' : j < 8
    · by_cases hbit : inBits j s b % 2 = B % 2
      · rw [if_pos hbit, Nat.xor_zero] at hsu
        generalize inBits j s b = Y at *
        repeat' (first | (simp (disch := omega) only [push_cast, seval, hc, hfd]) | refine iX ?_ ?_ <;> intros | refine aI (by omega) ?_ | refine dq ?_)
        exact ⟨rfl, j + 1, by simp (disch := omega) only [push_cast, seval, hsu], ⟨by omega, rfl⟩, by simp; omega⟩
      · rw [if_neg hbit] at hsu
        rw [← hsu] at hx'
        generalize inBits j s b = Y at *
        repeat' (first | (simp (disch := omega) only [push_cast, seval, hc, hfd, hx']) | refine iX ?_ ?_ <;> intros | refine aI (by omega) ?_ | refine dq ?_)
        exact ⟨rfl, j + 1, by simp (disch := omega) only [push_cast, seval], ⟨by omega, rfl⟩, by simp; omega⟩
    · have e : j = 8 := by omega
      subst e
      rw [← hstep]
      repeat' (first | (simp (disch := omega) only [push_cast, seval]) | refine iX ?_ ?_ <;> intros | refine aI (by omega) ?_ | refine dq ?_)
      exact ⟨rfl, i + 1, by simp (disch := omega) only [push_cast, seval], ⟨by omega, rfl⟩, by simp; omega⟩
  · have e : i = l.length := by omega
    subst e
    rw [List.take_length] at hr ⊢
    have hs : 4294967295 - ((rem ones l : Nat) : Int) = ((sum l : Nat) : Int) := by unfold sum ones at *; omega
    repeat' (first | (simp (disch := omega) only [push_cast, seval, hs]) | refine iX ?_ ?_ <;> intros | refine aI (by omega) ?_ | refine dq ?_)
end Go.Proofs.Ytcajkjbempagaaa
end
section
set_option linter.unusedSimpArgs false
namespace Go.Proofs.Ytcajkjbempagaaa
open Go.Vc Go.Chk Go.Zig
set_option maxRecDepth 100000
theorem own8_of {w : World} {B : Nat} {e : TypeId} {v : Value} {l : List UInt8} {n : Nat} (h : w.ownsRow B e 1 v n (l.map u8v)) : OwnB w B e v l := by
  have := own_n h
  unfold OwnB
  rw [this] at h
  simpa using h
theorem sl8_n {w : World} {v : Value} {l : List UInt8} (h : Sl w v (l.map u8v)) : SlN w 1 v l.length (l.map u8v) := by simpa [Sl] using h
theorem own8_app {w : World} {B : Nat} {e : TypeId} {v : Value} {a b : List UInt8} {n : Nat} (h : w.ownsRow B e 1 v n (a.map u8v ++ b.map u8v)) : OwnB w B e v (a ++ b) := own8_of (n := n) (by rw [List.map_append]; exact h)
theorem u8_wrap (n : Nat) : Value.int .u8 (IntKind.u8.wrap (n : Int)) = u8v (UInt8.ofNat n) := by
  unfold u8v
  rw [UInt8.toNat_ofNat', IntKind.wrap_u8]; congr 1
theorem four_map (s : Nat) (h : s < 4294967296) : (four s).map u8v = [.int .u8 ((s : Int) / 16777216), .int .u8 (IntKind.u8.wrap ((s : Int) / 65536)), .int .u8 (IntKind.u8.wrap ((s : Int) / 256)), .int .u8 (IntKind.u8.wrap (s : Int))] := by
  have e1 : IntKind.u8.wrap ((s / 16777216 : Nat) : Int) = (s : Int) / 16777216 := by rw [IntKind.wrap_u8]; omega
  have e2 : ((s / 65536 : Nat) : Int) = (s : Int) / 65536 := by omega
  have e3 : ((s / 256 : Nat) : Int) = (s : Int) / 256 := by omega
  simp only [four, List.map_cons, List.map_nil, ← u8_wrap, e1, e2, e3]
theorem four_c (s : Nat) (w : World) (h : s < 4294967296) : FnC Try.prog 54 #[.int .u32 s] w fun v w' => OwnB w' w.heap.size 5 v (four s) ∧ Later w w' := by
  refine enter54 _ ?_
  unfold B54
  have hm := four_map s h
  repeat' (first | (simp (disch := omega) only [push_cast, seval]) | refine iX ?_ ?_ <;> intros | refine aI (by omega) ?_ | refine dq ?_)
  refine ⟨?_, later_alloc _ _⟩
  have := own_lit w ((four s).map u8v) 5 1 4 rfl (by unfold maxLen; omega) (Nat.le_refl _)
  unfold OwnB
  rw [hm] at this ⊢
  exact this
theorem equal_c (x y : Value) (a b : List UInt8) (w : World) (hx : Sl w x (a.map u8v)) (hy : Sl w y (b.map u8v)) : FnC Try.prog 53 #[x, y] w fun v w' => v = .bool (decide (a = b)) ∧ w' = w := by
  obtain ⟨ox, cx, rfl⟩ := hx.slice
  obtain ⟨oy, cy, rfl⟩ := hy.slice
  refine enter53 _ _ ?_
  unfold B53
  repeat' (first | (simp (disch := omega) only [push_cast, seval]) | refine iX ?_ ?_ <;> intros | refine aI (by omega) ?_ | refine dq ?_)
  refine vConv_bytes Try.underlying25 Try.underlying9 Try.underlying5 hx ?_
  repeat' (first | (simp (disch := omega) only [push_cast, seval]) | refine iX ?_ ?_ <;> intros | refine aI (by omega) ?_ | refine dq ?_)
  refine vConv_bytes Try.underlying25 Try.underlying9 Try.underlying5 hy ?_
  repeat' (first | (simp (disch := omega) only [push_cast, seval, strOf_inj]) | refine iX ?_ ?_ <;> intros | refine aI (by omega) ?_ | refine dq ?_)
def Blocked (w : World) (B : Nat) (r : Value) (l : List UInt8) : Prop := (16777216 < l.length ∧ r = .tuple #[.slice none 0 0, .int .i64 21]) ∨ (l.length ≤ 16777216 ∧ ∃ x, r = .tuple #[x, .int .i64 0] ∧ OwnB w B 5 x (blkB l))
set_option maxRecDepth 100000 in
theorem block_c (v : Value) (l : List UInt8) (w : World) (h : Sl w v (l.map u8v)) : FnC Try.prog 43 #[v] w fun r w' => Blocked w' w.heap.size r l ∧ Later w w' := by
  have hs := h
  obtain ⟨o, c, rfl, g1, g2, h, g3⟩ := h.openM
  refine enter43 _ ?_
  unfold B43
  by_cases hl : 16777216 < l.length
  · repeat' (first | (simp (disch := omega) only [push_cast, seval]) | refine iX ?_ ?_ <;> intros | refine aI (by omega) ?_ | refine dq ?_)
    exact ⟨.inl ⟨hl, rfl⟩, Later.refl _⟩
  repeat' (first | (simp (disch := omega) only [push_cast, seval]) | refine iX ?_ ?_ <;> intros | refine aI (by omega) ?_ | refine dq ?_)
  have h64 : I64 (l.length : Int) := by unfold I64; omega
  have hz := zi_len h64
  refine (zInt_c (.slice none 0 0) [] l.length w h64 (Sl.nil _) (by simp)).mono ?_
  rintro x w1 ⟨hx, hl1⟩
  have hx := own8_of (l := zi l.length) hx
  obtain ⟨ox, cx, rfl⟩ := hx.slice
  repeat' (first | (simp (disch := omega) only [push_cast, seval]) | refine iX ?_ ?_ <;> intros | refine aI (by omega) ?_ | refine dq ?_)
  refine vAppend_own Try.underlying25 ti5 rfl (by decide) hx (sl8_n (hs.later hl1)) (u8vs_one _) (by unfold maxLen; omega) (by omega) hl1.size ?_
  intro y w2 hy gy _
  have hl2 := hl1.appended hx (Nat.le_refl _) gy
  have hy := own8_app hy
  obtain ⟨oy, cy, rfl⟩ := hy.slice
  repeat' (first | (simp (disch := omega) only [push_cast, seval]) | refine iX ?_ ?_ <;> intros | refine aI (by omega) ?_ | refine dq ?_)
  refine (sum_c _ (zi l.length ++ l) w2 hy.sl).mono ?_
  rintro _ w3 ⟨rfl, hl3⟩
  have hs32 := sum_lt (zi l.length ++ l)
  have hlen : (zi (l.length : Int) ++ l).length ≤ 20000000 := by rw [List.length_append]; omega
  have hbk : blkB l = zi l.length ++ l ++ four (sum (zi l.length ++ l)) := rfl
  generalize zi (l.length : Int) ++ l = q at *
  repeat' (first | (simp (disch := omega) only [push_cast, seval]) | refine iX ?_ ?_ <;> intros | refine aI (by omega) ?_ | refine dq ?_)
  refine (four_c (sum q) w3 hs32).mono ?_
  rintro z w4 ⟨hz4, hl4⟩
  have hl34 := hl3.trans hl4
  have hy4 := hy.later hl34
  have hlw := hl2.trans hl34
  repeat' (first | (simp (disch := omega) only [push_cast, seval]) | refine iX ?_ ?_ <;> intros | refine aI (by omega) ?_ | refine dq ?_)
  refine vAppend_own Try.underlying25 ti5 rfl (by decide) hy4 (sl8_n hz4.sl) (u8vs_one _) (by unfold maxLen; rw [four_len]; omega) (by rw [four_len]; omega) hlw.size ?_
  intro u w5 hu gu _
  have hl5 := hlw.appended hy4 (Nat.le_refl _) gu
  have hu := own8_app hu
  repeat' (first | (simp (disch := omega) only [push_cast, seval]) | refine iX ?_ ?_ <;> intros | refine aI (by omega) ?_ | refine dq ?_)
  refine ⟨.inr ⟨by omega, u, rfl, ?_⟩, hl5⟩
  rw [hbk]; exact hu
set_option maxRecDepth 100000 in
theorem rBlock_c (v : Value) (l : List UInt8) (w : World) (h : Sl w v (l.map u8v)) : FnC Try.prog 33 #[v] w fun r w' => Blocked w' w.heap.size r l ∧ Later w w' := by
  have hs := h
  obtain ⟨o, c, rfl, g1, g2, h, g3⟩ := h.openM
  refine enter33 _ ?_
  unfold B33
  by_cases hl : 16777216 < l.length
  · repeat' (first | (simp (disch := omega) only [push_cast, seval]) | refine iX ?_ ?_ <;> intros | refine aI (by omega) ?_ | refine dq ?_)
    exact ⟨.inl ⟨hl, rfl⟩, Later.refl _⟩
  repeat' (first | (simp (disch := omega) only [push_cast, seval]) | refine iX ?_ ?_ <;> intros | refine aI (by omega) ?_ | refine dq ?_)
  have h64 : I64 (l.length : Int) := by unfold I64; omega
  have hz := zi_len h64
  refine (rInt_c l.length w h64).mono ?_
  rintro x w1 ⟨hx, hl1⟩
  obtain ⟨ox, cx, rfl⟩ := hx.slice
  repeat' (first | (simp (disch := omega) only [push_cast, seval]) | refine iX ?_ ?_ <;> intros | refine aI (by omega) ?_ | refine dq ?_)
  refine vAppend_own Try.underlying25 ti5 rfl (by decide) hx (sl8_n (hs.later hl1)) (u8vs_one _) (by unfold maxLen; omega) (by omega) hl1.size ?_
  intro y w2 hy gy _
  have hl2 := hl1.appended hx (Nat.le_refl _) gy
  have hy := own8_app hy
  obtain ⟨oy, cy, rfl⟩ := hy.slice
  repeat' (first | (simp (disch := omega) only [push_cast, seval]) | refine iX ?_ ?_ <;> intros | refine aI (by omega) ?_ | refine dq ?_)
  refine (rSum_c _ (zi l.length ++ l) w2 hy.sl).mono ?_
  rintro _ w3 ⟨rfl, hw⟩
  obtain rfl := hw.symm
  have hs32 := sum_lt (zi l.length ++ l)
  have hlen : (zi (l.length : Int) ++ l).length ≤ 20000000 := by rw [List.length_append]; omega
  have hbk : blkB l = zi l.length ++ l ++ four (sum (zi l.length ++ l)) := rfl
  generalize zi (l.length : Int) ++ l = q at *
  have hm := four_map (sum q) hs32
  have hl3 := later_alloc w2 (.cells ((four (sum q)).map u8v).toArray 5)
  have hlit := SlN.lit w2 ((four (sum q)).map u8v) 5 1 4 rfl (by unfold maxLen; omega)
  rw [hm] at hl3 hlit
  repeat' (first | (simp (disch := omega) only [push_cast, seval]) | refine iX ?_ ?_ <;> intros | refine aI (by omega) ?_ | refine dq ?_)
  refine vAppend_own Try.underlying25 ti5 rfl (by decide) (own_later hy hl3) hlit (by rw [← hm]; exact u8vs_one _) (by unfold maxLen; omega) (by omega) (hl2.trans hl3).size ?_
  intro u w5 hu gu _
  have hl5 := (hl2.trans hl3).appended (own_later hy hl3) (Nat.le_refl _) gu
  rw [← hm] at hu
  have hu := own8_app hu
  repeat' (first | (simp (disch := omega) only [push_cast, seval]) | refine iX ?_ ?_ <;> intros | refine aI (by omega) ?_ | refine dq ?_)
  refine ⟨.inr ⟨by omega, u, rfl, ?_⟩, hl5⟩
  rw [hbk]; exact hu
/-! ### the first block -/
theorem rI_zero (l : List UInt8) : ((num l = none ∨ ∃ u k, num l = some (u, k) ∧ (unfoldI u < 0 ∨ 16777216 < unfoldI u)) ∧ rI l 0 16777216 = (0, 11, l)) ∨
    ∃ u k n, num l = some (u, k) ∧ unfoldI u = ((n : Nat) : Int) ∧ n ≤ 16777216 ∧ rI l 0 16777216 = ((n : Int), 0, l.drop k) ∧ k ≤ l.length := by
  unfold rI
  cases h : num l with
  | none => exact .inl ⟨.inl rfl, rfl⟩
  | some p =>
    obtain ⟨u, k⟩ := p
    by_cases hb : unfoldI u < 0 ∨ 16777216 < unfoldI u
    · simp only [if_pos hb]
      exact .inl ⟨.inr ⟨u, k, rfl, hb⟩, trivial⟩
    · simp only [if_neg hb]
      obtain ⟨n, hn⟩ := Int.eq_ofNat_of_zero_le (show 0 ≤ unfoldI u by omega)
      refine .inr ⟨u, k, n, rfl, hn, by omega, by rw [hn], (num_some h).2.2.1⟩
theorem fst_none' {l : List UInt8} (h : num l = none ∨ ∃ u k, num l = some (u, k) ∧ (unfoldI u < 0 ∨ 16777216 < unfoldI u)) : fst l = none := by
  unfold fst
  rcases h with h | ⟨u, k, h, hb⟩
  · rw [h]
  · rw [h]; simp only [if_pos hb]
theorem fst_walk (l : List UInt8) : (fst l = none ∧ ((rI l 0 16777216).2.1 ≠ 0 ∨ (rB (rI l 0 16777216).2.2 (rI l 0 16777216).1).2.1 ≠ 0 ∨ (rB (rB (rI l 0 16777216).2.2 (rI l 0 16777216).1).2.2 4).2.1 ≠ 0)) ∨
    ((rI l 0 16777216).2.1 = 0 ∧ (rB (rI l 0 16777216).2.2 (rI l 0 16777216).1).2.1 = 0 ∧ (rB (rB (rI l 0 16777216).2.2 (rI l 0 16777216).1).2.2 4).2.1 = 0 ∧
      fst l = if (rB (rB (rI l 0 16777216).2.2 (rI l 0 16777216).1).2.2 4).1 = four (sum (l.take (l.length - (rB (rI l 0 16777216).2.2 (rI l 0 16777216).1).2.2.length))) then
        some ((rB (rI l 0 16777216).2.2 (rI l 0 16777216).1).1, l.length - (rB (rI l 0 16777216).2.2 (rI l 0 16777216).1).2.2.length + 4) else none) := by
  rcases rI_zero l with ⟨h, hr⟩ | ⟨u, k, n, h1, h2, h3, hr, hk⟩
  · left
    rw [hr]
    exact ⟨fst_none' h, .inl (by simp)⟩
  · rw [hr]
    simp only
    have hf : fst l = if l.length < k + n + 4 then none else if (l.drop (k + n)).take 4 = four (sum (l.take (k + n))) then some ((l.drop k).take n, k + n + 4) else none := by
      unfold fst
      rw [h1]
      simp only [h2, Int.toNat_natCast]
      rw [if_neg (by omega)]
    by_cases hl : l.length < k + n
    · left
      rw [hf, if_pos (by omega)]
      refine ⟨rfl, .inr (.inl ?_)⟩
      unfold rB
      rw [if_pos (by simp; omega)]; simp
    · have e1 : rB (l.drop k) n = ((l.drop k).take n, 0, l.drop (k + n)) := by
        unfold rB
        rw [if_neg (by simp; omega)]; simp
      rw [e1]
      simp only
      by_cases hl4 : l.length < k + n + 4
      · left
        rw [hf, if_pos hl4]
        refine ⟨rfl, .inr (.inr ?_)⟩
        unfold rB
        rw [if_pos (by simp; omega)]; simp
      · right
        have e2 : rB (l.drop (k + n)) 4 = ((l.drop (k + n)).take 4, 0, (l.drop (k + n)).drop 4) := by
          unfold rB
          rw [if_neg (by simp; omega)]; rfl
        have e3 : l.length - (l.drop (k + n)).length = k + n := by simp; omega
        rw [e2, e3, hf, if_neg hl4]
        exact ⟨by first | trivial | rfl, by first | trivial | rfl, by first | trivial | rfl, rfl⟩
theorem rB_len (l : List UInt8) (n : Int) : (rB l n).2.2.length ≤ l.length := by
  unfold rB; split
  · exact Nat.le_refl _
  · simp
theorem rI_len (l : List UInt8) : (rI l 0 16777216).2.2.length ≤ l.length ∧ 0 ≤ (rI l 0 16777216).1 ∧ (rI l 0 16777216).1 ≤ 16777216 := by
  rcases rI_zero l with ⟨_, h⟩ | ⟨u, k, n, _, _, h3, h, _⟩
  · rw [h]; simp
  · rw [h]; simp; omega
def fsR (l : List UInt8) : List UInt8 × Nat × Int := match fst l with
  | none => ([], 0, 21)
  | some p => (p.1, p.2, 0)
def Firsts (w : World) (B : Nat) (r : Value) (l : List UInt8) : Prop := ∃ x, r = .tuple #[x, .int .i64 (fsR l).2.1, .int .i64 (fsR l).2.2] ∧ OwnB w B 5 x (fsR l).1
theorem fsR_none {l : List UInt8} (h : fst l = none) : fsR l = ([], 0, 21) := by unfold fsR; rw [h]
theorem fsR_some {l : List UInt8} {p : List UInt8 × Nat} (h : fst l = some p) : fsR l = (p.1, p.2, 0) := by unfold fsR; rw [h]
set_option maxRecDepth 100000 in
theorem first_c (v : Value) (l : List UInt8) (w : World) (h : Sl w v (l.map u8v)) (hl : l.length ≤ 140737488355000) : FnC Try.prog 30 #[v] w fun r w' => Firsts w' w.heap.size r l ∧ Later w w' := by
  have hs := h
  obtain ⟨o, c, rfl, g1, g2, h, g3⟩ := h.openM
  refine enter30 _ ?_
  unfold B30
  repeat' (first | (simp (disch := omega) only [push_cast, seval]) | refine iX ?_ ?_ <;> intros | refine aI (by omega) ?_ | refine dq ?_)
  refine (zOpen_c _ l w hs hl).mono ?_
  rintro _ w1 ⟨k, d, rfl, hR, hk, hd, hl1⟩
  repeat' (first | (simp (disch := omega) only [push_cast, seval]) | refine iX ?_ ?_ <;> intros | refine aI (by omega) ?_ | refine dq ?_)
  refine (zRInt_c k d l 0 16777216 w1 hR).mono ?_
  rintro _ w2 ⟨rfl, hR2, gc2⟩
  have hl2 : Later w w2 := gc2.later hl1 (by simpa using hk)
  have hwk := fst_walk l
  have hil := rI_len l
  generalize rI l 0 16777216 = r1 at *
  repeat' (first | (simp (disch := omega) only [push_cast, seval]) | refine iX ?_ ?_ <;> intros | refine aI (by omega) ?_ | refine dq ?_)
  refine (zRBytes_c k d r1.2.2 r1.1 w2 hR2 (by omega)).mono ?_
  rintro _ w3 ⟨x, rfl, hx, hR3, gc3⟩
  have hl3 : Later w w3 := gc3.later hl2 (by simpa using hk)
  have hbl := rB_len r1.2.2 r1.1
  generalize rB r1.2.2 r1.1 = r2 at *
  repeat' (first | (simp (disch := omega) only [push_cast, seval]) | refine iX ?_ ?_ <;> intros | refine aI (by omega) ?_ | refine dq ?_)
  refine (zRLeft_c k d r2.2.2 w3 hR3).mono ?_
  rintro _ w0 ⟨rfl, hw⟩
  obtain rfl := hw.symm
  repeat' (first | (simp (disch := omega) only [push_cast, seval]) | refine iX ?_ ?_ <;> intros | refine aI (by omega) ?_ | refine dq ?_)
  refine (zRBytes_c k d r2.2.2 4 w3 hR3 (by omega)).mono ?_
  rintro _ w4 ⟨y, rfl, hy, hR4, gc4⟩
  have hl4 : Later w w4 := gc4.later hl3 (by simpa using hk)
  generalize rB r2.2.2 4 = r3 at *
  have hk2 : k < w2.heap.size := by obtain ⟨_, _, _, _, _, _, _, h⟩ := hR2; exact h
  have hx4 : OwnB w4 w.heap.size 5 x r2.1 := (OwnB.base (own_chg hx gc4 (by simpa using hk2)) hl2.size : OwnB w4 w.heap.size 5 x r2.1)
  rcases hwk with ⟨hf, hbad⟩ | ⟨q1, q2, q3, hf⟩
  · have hfs := fsR_none hf
    repeat' (first | (simp (disch := omega) only [push_cast, seval]) | refine iX ?_ ?_ <;> intros | refine aI (by omega) ?_ | refine dq ?_)
    all_goals exact ⟨⟨.slice none 0 0, by rw [hfs]; rfl, by rw [hfs]; exact own_nil _ _ _ _⟩, hl4⟩
  · have hat : ((l.length : Int) - (r2.2.2.length : Int)).toNat = l.length - r2.2.2.length := by omega
    have hpre := hs.pre (k := l.length - r2.2.2.length) (by omega)
    rw [← List.map_take] at hpre
    repeat' (first | (simp (disch := omega) only [push_cast, seval, q1, q2, q3, hat]) | refine iX ?_ ?_ <;> intros | refine aI (by omega) ?_ | refine dq ?_)
    refine (sum_c _ _ w4 (hpre.later hl4)).mono ?_
    rintro _ w5 ⟨rfl, hl5⟩
    have hs32 := sum_lt (l.take (l.length - r2.2.2.length))
    have hnat : (((l.length - r2.2.2.length + 4 : Nat)) : Int) = (l.length : Int) - (r2.2.2.length : Int) + 4 := by omega
    generalize sum (l.take (l.length - r2.2.2.length)) = sm at *
    repeat' (first | (simp (disch := omega) only [push_cast, seval]) | refine iX ?_ ?_ <;> intros | refine aI (by omega) ?_ | refine dq ?_)
    refine (four_c sm w5 hs32).mono ?_
    rintro z w6 ⟨hz, hl6⟩
    have hl46 := hl5.trans hl6
    repeat' (first | (simp (disch := omega) only [push_cast, seval]) | refine iX ?_ ?_ <;> intros | refine aI (by omega) ?_ | refine dq ?_)
    refine (equal_c _ _ r3.1 (four sm) w6 (hy.sl.later hl46) hz.sl).mono ?_
    rintro _ w0 ⟨rfl, hw⟩
    obtain rfl := hw.symm
    have hl := hl4.trans hl46
    by_cases hq : r3.1 = four sm
    · rw [if_pos hq] at hf
      have hfs := fsR_some hf
      have hd : decide (r3.1 = four sm) = true := by simpa using hq
      rw [hd]
      repeat' (first | (simp (disch := omega) only [push_cast, seval]) | refine iX ?_ ?_ <;> intros | refine aI (by omega) ?_ | refine dq ?_)
      exact ⟨⟨x, by rw [hfs]; simp only [hnat], by rw [hfs]; exact hx4.later hl46⟩, hl⟩
    · rw [if_neg hq] at hf
      have hfs := fsR_none hf
      have hd : decide (r3.1 = four sm) = false := by simpa using hq
      rw [hd]
      repeat' (first | (simp (disch := omega) only [push_cast, seval]) | refine iX ?_ ?_ <;> intros | refine aI (by omega) ?_ | refine dq ?_)
      exact ⟨⟨.slice none 0 0, by rw [hfs]; rfl, by rw [hfs]; exact own_nil _ _ _ _⟩, hl⟩
def FirstsR (v r : Value) (l : List UInt8) : Prop := ∃ x, r = .tuple #[x, .int .i64 (fsR l).2.1, .int .i64 (fsR l).2.2] ∧ ∀ w, Sl w v (l.map u8v) → Sl w x ((fsR l).1.map u8v)
set_option maxRecDepth 100000 in
theorem rFirst_c (v : Value) (l : List UInt8) (w : World) (h : Sl w v (l.map u8v)) (hl : l.length ≤ 140737488355000) : FnC Try.prog 56 #[v] w fun r w' => FirstsR v r l ∧ Later w w' := by
  have hs := h
  obtain ⟨o, c, rfl, g1, g2, h, g3⟩ := h.openM
  refine enter56 _ ?_
  unfold B56
  have hdb : ∃ d, d ≠ w.heap.size ∧ inB d (.slice o l.length c) := by
    rcases inB_lt hs with h | ⟨k0, hk0, h⟩
    · exact ⟨w.heap.size + 1, by omega, h _⟩
    · exact ⟨k0, by omega, h⟩
  obtain ⟨d, hdk, hdb⟩ := hdb
  have ecs : (Value.agg #[.slice o l.length c, .int .i64 0, .bool false]).cells = #[.slice o l.length c, .int .i64 0, .bool false] := rfl
  repeat' (first | (simp (disch := omega) only [push_cast, seval, ecs]) | refine iX ?_ ?_ <;> intros | refine aI (by omega) ?_ | refine dq ?_)
  have B1 := Blk.new w #[.slice o l.length c, .int .i64 0, .bool false] 105
  have hl1 := later_alloc w (.cells #[.slice o l.length c, .int .i64 0, .bool false] 105)
  generalize w.alloc (.cells #[.slice o l.length c, .int .i64 0, .bool false] 105) = w1 at *
  have hk1 : w.heap.size < w1.heap.size := B1.lt
  generalize hkk : w.heap.size = k at *
  have hR1 : Rm w1 k d l 0 false := Rm.mk' B1 (hs.later hl1) hdb hdk
  refine (rRInt_c k d l 0 false 0 16777216 w1 hR1 (Nat.zero_le _) (by omega)).mono ?_
  rintro _ w2 ⟨rfl, j, bad, hR2, hj, hjd, gc2⟩
  have hl2 : Later w w2 := gc2.later hl1 (by simp; omega)
  rw [List.drop_zero] at hjd ⊢
  rcases rI_zero l with ⟨hb, hr⟩ | ⟨u, k', n, h1, h2, h3, hr, hk'⟩
  · have hfs := fsR_none (fst_none' hb)
    rw [hr]
    repeat' (first | (simp (disch := omega) only [push_cast, seval]) | refine iX ?_ ?_ <;> intros | refine aI (by omega) ?_ | refine dq ?_)
    exact ⟨⟨.slice none 0 0, by rw [hfs]; rfl, by rw [hfs]; exact fun _ _ => Sl.nil _⟩, hl2⟩
  rw [hr] at hjd ⊢
  have hjk : j = k' := by
    have := congrArg List.length hjd
    simp at this; omega
  subst hjk
  obtain ⟨o2, c2, q0, q1, q2, qf, _⟩ := hR2.cells
  by_cases hlong : l.length < j + n + 4
  · have hfs := fsR_none (show fst l = none by unfold fst; rw [h1]; simp only [h2, Int.toNat_natCast]; rw [if_neg (by omega), if_pos hlong])
    repeat' (first | (simp (disch := omega) only [push_cast, seval, q1, addr_add_eq, Nat.zero_add]) | refine iX ?_ ?_ <;> intros | refine aI (by omega) ?_ | refine dq ?_)
    exact ⟨⟨.slice none 0 0, by rw [hfs]; rfl, by rw [hfs]; exact fun _ _ => Sl.nil _⟩, hl2⟩
  obtain ⟨hbl, hfr⟩ := fst_ref h1 (by omega) (by omega) (by rw [h2]; simp; omega)
  simp only [h2, Int.toNat_natCast] at hbl hfr
  have hsub := fun (w : World) (hs : Sl w (.slice o l.length c) (l.map u8v)) => hs.part (l := (j : Int)) (k := (j : Int) + (n : Int)) (m := (c : Int)) (by omega) (by omega) (by omega) (by omega) (by omega)
  have e1 : ((j : Int) + (n : Int) - (j : Int)).toNat = n := by omega
  have e2 : ((j : Int) + (n : Int)).toNat = j + n := by omega
  have e3 : (((l.map u8v).take (j + n)).drop j) = ((l.drop j).take n).map u8v := by
    rw [List.drop_take, List.map_take, List.map_drop]; congr 1; omega
  simp only [Int.toNat_natCast, e1, e2, e3] at hsub
  have hxl : ((l.drop j).take n).length = n := by simp; omega
  repeat' (first | (simp (disch := omega) only [push_cast, seval, q1, addr_add_eq, Nat.zero_add]) | refine iX ?_ ?_ <;> intros | refine aI (by omega) ?_ | refine dq ?_)
  intro w3 hl3
  have hl23 := hl2.trans hl3
  repeat' (first | (simp (disch := omega) only [push_cast, seval, e1]) | refine iX ?_ ?_ <;> intros | refine aI (by omega) ?_ | refine dq ?_)
  generalize hxx : (l.drop j).take n = x at *
  refine (rBlock_c _ x w3 ((hsub w hs).later hl23)).mono ?_
  rintro _ w4 ⟨hbd, hl4⟩
  have hl24 := hl23.trans hl4
  rcases hbd with ⟨hbad, _⟩ | ⟨_, a, rfl, ha⟩
  · omega
  obtain ⟨oa, ca, rfl⟩ := ha.slice
  have hpre := hs.pre (k := (blkB x).length) (by omega)
  rw [← List.map_take, hbl] at hpre
  have hs4 := ha.sl
  rw [hbl] at hs4 ⊢
  have e5 : (((j + n + 4 : Nat)) : Int) = (j : Int) + (n : Int) + 4 := by omega
  repeat' (first | (simp (disch := omega) only [push_cast, seval]) | refine iX ?_ ?_ <;> intros | refine aI (by omega) ?_ | fail)
  refine drawn_q ?_
  repeat' (first | (simp (disch := omega) only [push_cast, seval]) | refine iX ?_ ?_ <;> intros | refine aI (by omega) ?_ | refine dq ?_)
  refine qConv_bytes Try.underlying25 Try.underlying9 Try.underlying5 (by simp (disch := omega) only [push_cast, seval]) hs4 ?_
  repeat' (first | (simp (disch := omega) only [push_cast, seval]) | refine iX ?_ ?_ <;> intros | refine aI (by omega) ?_ | refine dq ?_)
  refine qConv_bytes Try.underlying25 Try.underlying9 Try.underlying5 (by simp (disch := omega) only [push_cast, seval]) (hpre.later hl24) ?_
  by_cases hq : blkB x = l.take (j + n + 4)
  · rw [if_pos hq] at hfr
    have hfs := fsR_some hfr
    repeat' (first | (simp (disch := omega) only [push_cast, seval, strOf_inj, hq, decide_true]) | refine iX ?_ ?_ <;> intros | refine aI (by omega) ?_ | refine dq ?_)
    intro w5 hl5
    repeat' (first | (simp (disch := omega) only [push_cast, seval]) | refine iX ?_ ?_ <;> intros | refine aI (by omega) ?_ | refine dq ?_)
    have e6 : (j : Int) + (n : Int) + 1 + 1 + 1 + 1 = ((j + n + 4 : Nat) : Int) := by omega
    refine ⟨⟨_, by rw [hfs, e6], by rw [hfs]; exact hsub⟩, hl24.trans hl5⟩
  · rw [if_neg hq] at hfr
    have hfs := fsR_none hfr
    repeat' (first | (simp (disch := omega) only [push_cast, seval, strOf_inj, hq, decide_false]) | refine iX ?_ ?_ <;> intros | refine aI (by omega) ?_ | refine dq ?_)
    intro w5 hl5
    repeat' (first | (simp (disch := omega) only [push_cast, seval]) | refine iX ?_ ?_ <;> intros | refine aI (by omega) ?_ | refine dq ?_)
    exact ⟨⟨.slice none 0 0, by rw [hfs]; rfl, by rw [hfs]; exact fun _ _ => Sl.nil _⟩, hl24.trans hl5⟩
end Go.Proofs.Ytcajkjbempagaaa
end
section
namespace Go.Vc
open Go.RowKit
theorem own_chg_ty {w w' : World} {base s n k : Nat} {e e' : TypeId} {cs : Array Value} {v : Value} {xs : List Value} (h : w.ownsRow base e s v n xs) (hb : Blk w k cs e') (hne : e ≠ e') (g : Chg w w' [k]) : w'.ownsRow base e s v n xs := by
  obtain ⟨h0, h⟩ := h
  refine ⟨h0, ?_⟩
  rcases h with h | ⟨b, cap, cur, hv, hbb, hh, h3⟩
  · exact .inl h
  · refine .inr ⟨b, cap, cur, hv, hbb, ?_, h3⟩
    rw [g.block b (Blk.lt hh) ?_]
    · exact hh
    · intro hm
      simp only [List.mem_singleton] at hm
      subst hm
      unfold Blk at hb
      rw [hh] at hb
      simp only [Option.some.injEq, Obj.cells.injEq] at hb
      exact hne hb.2.1
theorem own_ne {w : World} {base s n k : Nat} {e : TypeId} {o : Obj} {v : Value} {xs : List Value} (h : w.ownsRow base e s v n xs) (hk : w.heap[k]? = some o) (ho : ∀ cs, o ≠ .cells cs e (0, 0)) : v.ownBlock ≠ some k := by
  obtain ⟨h0, h⟩ := h
  rcases h with ⟨rfl, _⟩ | ⟨b, cap, cur, rfl, _, hh, _⟩
  · simp [Value.ownBlock]
  · simp only [Value.ownBlock]
    intro he
    simp only [Option.some.injEq] at he
    subst he
    rw [hh] at hk
    simp only [Option.some.injEq] at hk
    exact ho cur hk.symm
theorem own_ge {w : World} {base s n : Nat} {e : TypeId} {v : Value} {xs : List Value} (h : w.ownsRow base e s v n xs) : ∀ k ∈ v.ownBlock.toList, base ≤ k := by
  intro k hk
  have hk : v.ownBlock = some k := by simpa using hk
  obtain ⟨_, h⟩ := h
  rcases h with ⟨rfl, _⟩ | ⟨b, cap, cur, rfl, hb, _⟩
  · simp [Value.ownBlock] at hk
  · simp only [Value.ownBlock, Option.some.injEq] at hk; omega
end Go.Vc
end
section
set_option linter.unusedSimpArgs false
namespace Go.Vlt
open Go Go.Vc
def vFind (k : ByteArray) : List VE → Option VE
  | [] => none
  | e :: l => if k = e.name then some e else vFind k l
def VE.val (e : VE) : Value := .agg #[e.sv, .int .i64 e.safe]
theorem mIdx_ent (k : ByteArray) : ∀ (es : List VE) (i : Nat), (vFind k es = none ∧ mIdx k (es.map VE.ent) i = none) ∨ ∃ e j, e ∈ es ∧ vFind k es = some e ∧ mIdx k (es.map VE.ent) i = some (j, e.val)
  | [], _ => .inl ⟨rfl, rfl⟩
  | e :: l, i => by
    simp only [List.map_cons, mIdx, vFind]
    have he : e.ent.fst = e.name := rfl
    rw [he]
    by_cases h : k = e.name
    · right
      refine ⟨e, i, by simp, by rw [if_pos h], ?_⟩
      rw [if_pos (bytes_beq.2 h)]
      rfl
    · rw [if_neg h, if_neg (fun h' => h (bytes_beq.1 h'))]
      rcases mIdx_ent k l (i + 1) with h' | ⟨e', j, h1, h2, h3⟩
      · exact .inl h'
      · exact .inr ⟨e', j, List.mem_cons_of_mem _ h1, h2, h3⟩
end Go.Vlt
namespace Go.Proofs.Ytcajkjbempagaaa
open Go.Vc Go.Vlt
set_option maxRecDepth 100000
theorem zfile (w : World) : (zeroValue 70).run Try.prog w = .ok (.agg #[.slice none 0 0, .int .i64 0]) w := Try.zeroValue70 w
theorem bclone_c (v : Value) (l : List UInt8) (w : World) (h : Sl w v (l.map u8v)) (hb : l.length ≤ 1000000000) : FnC Try.prog 46 #[v] w fun r w' => OwnB w' w.heap.size 5 r l ∧ Later w w' := by
  obtain ⟨o, c, rfl⟩ := Sl.slice h
  rw [List.length_map] at h ⊢
  refine enter46 _ ?_
  unfold B46
  cases o with
  | none =>
    have h0 := (Sl.len h).2.2.2 rfl
    have hl : l = [] := List.map_eq_nil_iff.1 h0.1
    subst hl
    obtain rfl := h0.2
    repeat' (first | (simp (disch := omega) only [push_cast, seval]) | refine iX ?_ ?_ <;> intros | refine aI (by omega) ?_ | refine dq ?_)
    exact ⟨own_nil _ _ _ _, Later.refl _⟩
  | some a =>
    repeat' (first | (simp (disch := omega) only [push_cast, seval]) | refine iX ?_ ?_ <;> intros | refine aI (by omega) ?_ | refine dq ?_)
    have l1 := later_alloc w (.cells #[] 5)
    have own0 : OwnB (w.alloc (.cells #[] 5)) w.heap.size 5 (.slice (some ⟨w.heap.size, 0, none⟩) 0 0) [] := own_lit w [] 5 1 0 rfl (Nat.zero_le _) (Nat.le_refl _)
    refine vAppend_own Try.underlying25 ti5 rfl (by decide) own0 (sl8_n (Sl.later h l1)) (u8vs_one _) (by unfold maxLen; simp only [List.length_nil]; omega) (by simp only [List.length_nil]; omega) l1.size ?_
    intro v2 w2 h2 g2 _
    have l2 : Later w w2 := l1.appended own0 (Nat.le_refl _) g2
    have h2 := own8_app h2
    repeat' (first | (simp (disch := omega) only [push_cast, seval]) | refine iX ?_ ?_ <;> intros | refine aI (by omega) ?_ | refine dq ?_)
    exact ⟨h2, l2⟩
theorem read_c (bk r : Nat) (room fuse : Int) (es : List VE) (c : Nat) (k : ByteArray) (w : World) (h : Vt w bk r room fuse es c) (hb : ∀ e ∈ es, e.b.length ≤ 1000000000) : FnC Try.prog 25 #[.pointer (some ⟨bk, 0, none⟩), .string k] w fun v w' => (∃ x, v = .tuple #[x, .bool (vFind k es).isSome] ∧ OwnB w' w.heap.size 5 x (((vFind k es).map VE.b).getD [])) ∧ Later w w' := by
  refine enter25 _ _ ?_
  unfold B25
  have f2 : w.cell? ⟨bk, 2, none⟩ = some (.map (some r)) := h.blk.cell 2
  repeat' (first | (simp (disch := omega) only [push_cast, seval, f2, addr_add_eq, Nat.zero_add]) | refine iX ?_ ?_ <;> intros | refine aI (by omega) ?_ | refine dq ?_)
  refine vLook_of Try.underlying64 Try.underlying9 zfile h.map k true ?_
  rcases mIdx_ent k es 0 with ⟨h1, h2⟩ | ⟨e, j, he, h1, h2⟩
  · rw [h1, h2]
    unfold mGot
    repeat' (first | (simp (disch := omega) only [push_cast, seval]) | refine iX ?_ ?_ <;> intros | refine aI (by omega) ?_ | refine dq ?_)
    refine vStore_new rfl rfl (by intro u hu; simp at hu; rcases hu with rfl | rfl <;> rfl) ?_
    have l1 := later_alloc w (.cells #[.slice none 0 0, .int .i64 0] 70)
    have f3 : (w.alloc (.cells #[.slice none 0 0, .int .i64 0] 70)).cell? ⟨w.heap.size, 0, none⟩ = some (.slice none 0 0) := (Blk.new w _ _).cell 0
    generalize w.alloc (.cells #[.slice none 0 0, .int .i64 0] 70) = w1 at *
    repeat' (first | (simp (disch := omega) only [push_cast, seval, f3, addr_add_eq, Nat.zero_add]) | refine iX ?_ ?_ <;> intros | refine aI (by omega) ?_ | refine dq ?_)
    refine (bclone_c _ [] w1 (Sl.nil _) (by simp)).mono ?_
    rintro x w2 ⟨hx, l2⟩
    repeat' (first | (simp (disch := omega) only [push_cast, seval]) | refine iX ?_ ?_ <;> intros | refine aI (by omega) ?_ | refine dq ?_)
    exact ⟨⟨x, rfl, own_base hx l1.size⟩, l1.trans l2⟩
  · rw [h1, h2]
    unfold mGot VE.val
    have hok := h.ok e he
    obtain ⟨os, cs, hsv⟩ := Sl.slice hok.sl
    repeat' (first | (simp (disch := omega) only [push_cast, seval]) | refine iX ?_ ?_ <;> intros | refine aI (by omega) ?_ | refine dq ?_)
    refine vStore_new rfl rfl (by intro u hu; rw [hsv] at hu; simp at hu; rcases hu with rfl | rfl <;> rfl) ?_
    have l1 := later_alloc w (.cells #[e.sv, .int .i64 e.safe] 70)
    have f3 : (w.alloc (.cells #[e.sv, .int .i64 e.safe] 70)).cell? ⟨w.heap.size, 0, none⟩ = some e.sv := (Blk.new w _ _).cell 0
    generalize w.alloc (.cells #[e.sv, .int .i64 e.safe] 70) = w1 at *
    rw [hsv] at f3
    repeat' (first | (simp (disch := omega) only [push_cast, seval, f3, addr_add_eq, Nat.zero_add]) | refine iX ?_ ?_ <;> intros | refine aI (by omega) ?_ | refine dq ?_)
    refine (bclone_c _ e.b w1 (by rw [← hsv]; exact Sl.later hok.sl l1) (hb e he)).mono ?_
    rintro x w2 ⟨hx, l2⟩
    repeat' (first | (simp (disch := omega) only [push_cast, seval]) | refine iX ?_ ?_ <;> intros | refine aI (by omega) ?_ | refine dq ?_)
    exact ⟨⟨x, rfl, own_base hx l1.size⟩, l1.trans l2⟩
theorem arm_c (bk r : Nat) (room fuse n : Int) (es : List VE) (c : Nat) (w : World) (h : Vt w bk r room fuse es c) : FnC Try.prog 18 #[.pointer (some ⟨bk, 0, none⟩), .int .i64 n] w fun v w' => (v = .int .i64 (if n < 0 then 1 else 0) ∧ Vt w' bk r room (if n < 0 then fuse else n) es c) ∧ Chg w w' [bk] := by
  refine enter18 _ _ ?_
  unfold B18
  by_cases h0 : n < 0
  · have hd := decide_eq_true h0
    repeat' (first | (simp (disch := omega) only [push_cast, seval, hd]) | refine iX ?_ ?_ <;> intros | refine aI (by omega) ?_ | refine dq ?_)
    first | exact ⟨⟨by rw [if_pos h0], by rw [if_pos h0]; exact h⟩, Chg.refl _ _⟩ | (rw [if_pos h0, if_pos h0]; exact ⟨⟨rfl, h⟩, Chg.refl _ _⟩) | trace_state
  · have hd := decide_eq_false h0
    have hce : ∃ y, w.cell? ⟨bk, 1, none⟩ = some y := ⟨_, h.blk.cell 1⟩
    have hfz := h.blk.frozen 1
    repeat' (first | (simp (disch := omega) only [push_cast, seval, hd, hce, hfz, addr_add_eq, Nat.zero_add]) | refine iX ?_ ?_ <;> intros | refine aI (by omega) ?_ | refine dq ?_)
    have c2 := chg_setCell (i := 1) w (ks := [bk]) (k := bk) (by simp) (.int .i64 n)
    first | exact ⟨⟨by rw [if_neg h0], by rw [if_neg h0]; exact h.fuse n⟩, c2⟩ | (rw [if_neg h0, if_neg h0]; exact ⟨⟨rfl, h.fuse n⟩, c2⟩) | exact ⟨h.fuse n, c2⟩ | trace_state
theorem broken_c (bk r : Nat) (room fuse : Int) (es : List VE) (c : Nat) (w : World) (h : Vt w bk r room fuse es c) : FnC Try.prog 20 #[.pointer (some ⟨bk, 0, none⟩)] w fun v w' => v = .bool (decide (fuse = 0)) ∧ w' = w := by
  refine enter20 _ ?_
  unfold B20
  have f1 : w.cell? ⟨bk, 1, none⟩ = some (.int .i64 fuse) := h.blk.cell 1
  repeat' (first | (simp (disch := omega) only [push_cast, seval, f1, addr_add_eq, Nat.zero_add]) | refine iX ?_ ?_ <;> intros | refine aI (by omega) ?_ | refine dq ?_)
  first | exact ⟨rfl, rfl⟩ | trace_state
end Go.Proofs.Ytcajkjbempagaaa
end
