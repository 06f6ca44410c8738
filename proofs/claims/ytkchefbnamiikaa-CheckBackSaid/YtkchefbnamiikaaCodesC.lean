/- The functions' code in the generator's form. Written by a program (codes.py) out of Lean's own print of the loaded translation. -/
import Derived.Test.YtkchefbnamiikaaTypes
namespace Go.Proofs.Ytkchefbnamiikaa
open Go.Vc
/-! 25 columbary/check.Block (params #[24], results #[(ResultVar.tmp 2), (ResultVar.tmp 3)], 18 slots) -/
def r25_0 : List VOp :=
  [⟨some 2, (Op.assign (Operand.const (Value.slice none 0 0))), 24, none⟩,
   ⟨some 3, (Op.assign (Operand.const (Value.int IntKind.i64 0))), 25, none⟩]
def r25_1 : List VOp :=
  [⟨some 5, (Op.move (Operand.tmp 0)), 24, none⟩,
   ⟨some 6, (Op.call { callee := (Callee.builtin Builtin.len), args := #[(Operand.tmp 5)], argTypes := #[24] }), 3, none⟩,
   ⟨some 7, (Op.binOp BinOp.gtr 3 (Operand.tmp 6) (Operand.const (Value.int IntKind.i64 16777216)) 3), 4, none⟩]
def r25_2 : List VOp :=
  [⟨some 2, (Op.assign (Operand.const (Value.slice none 0 0))), 24, none⟩,
   ⟨some 3, (Op.assign (Operand.const (Value.int IntKind.i64 21))), 25, none⟩]
def r25_3 : List VOp :=
  [⟨some 8, (Op.move (Operand.tmp 0)), 24, none⟩,
   ⟨some 9, (Op.call { callee := (Callee.builtin Builtin.len), args := #[(Operand.tmp 8)], argTypes := #[24] }), 3, none⟩,
   ⟨some 10, (Op.call { callee := (Callee.value (Operand.func 41)), args := #[(Operand.const (Value.slice none 0 0)), (Operand.tmp 9)], argTypes := #[24, 3] }), 24, none⟩,
   ⟨some 11, (Op.move (Operand.tmp 0)), 24, none⟩,
   ⟨some 12, (Op.call { callee := (Callee.builtin Builtin.append), args := #[(Operand.tmp 10), (Operand.tmp 11)], argTypes := #[24, 24] }), 24, none⟩,
   ⟨some 4, (Op.assign (Operand.tmp 12)), 24, none⟩]
def r25_4 : List VOp :=
  [⟨some 13, (Op.move (Operand.tmp 4)), 24, none⟩,
   ⟨some 14, (Op.move (Operand.tmp 4)), 24, none⟩,
   ⟨some 15, (Op.call { callee := (Callee.value (Operand.func 28)), args := #[(Operand.tmp 14)], argTypes := #[24] }), 43, none⟩,
   ⟨some 16, (Op.call { callee := (Callee.value (Operand.func 42)), args := #[(Operand.tmp 15)], argTypes := #[43] }), 24, none⟩,
   ⟨some 17, (Op.call { callee := (Callee.builtin Builtin.append), args := #[(Operand.tmp 13), (Operand.tmp 16)], argTypes := #[24, 24] }), 24, none⟩,
   ⟨some 2, (Op.assign (Operand.tmp 17)), 24, none⟩,
   ⟨some 3, (Op.assign (Operand.const (Value.int IntKind.i64 0))), 25, none⟩]
def B25 : VC :=
  (.seq (.region r25_0) (.seq (.seq (.region r25_1) (.cond (Operand.tmp 7) (.seq (.region r25_2) .ret) .skip)) (.seq (.region r25_3) (.seq (.region r25_4) .ret))))
theorem code25 : ∃ c, Try.f25.body = some c ∧ abs Try.f25.ntmps c = B25 := ⟨_, rfl, by kernel_rfl⟩
theorem hb25 : HasBody Try.prog 25 := hasBody_of Try.func25 (by kernel_rfl)
theorem res25 : Try.f25.results = #[(ResultVar.tmp 2), (ResultVar.tmp 3)] := rfl
theorem enter25 {w : World} {R : Value → World → Prop} (x0 : Value) (h : vc Try.prog B25 (retK Try.prog #[(ResultVar.tmp 2), (ResultVar.tmp 3)] R) [] (initEnv [x0] 0) w) : FnC Try.prog 25 #[x0] w R := by
  obtain ⟨c, h1, h2⟩ := code25
  exact hb25.fn (ret_of_vc mixed Try.func25 h1 (Nat.le_of_ble_eq_true rfl) B25 h2 h)
@[push_cast] theorem vr25_0 (Q : Post) (ds : List Deferred) (σ : Env) (w : World) : vc Try.prog (.region r25_0) Q ds σ w = vcOps Try.prog [⟨some 2, (Op.assign (Operand.const (Value.slice none 0 0))), 24, none⟩, ⟨some 3, (Op.assign (Operand.const (Value.int IntKind.i64 0))), 25, none⟩] (Q .normal ds) σ w := mk_eq rfl
@[push_cast] theorem vr25_1 (Q : Post) (ds : List Deferred) (σ : Env) (w : World) : vc Try.prog (.region r25_1) Q ds σ w = vcOps Try.prog [⟨some 5, (Op.move (Operand.tmp 0)), 24, none⟩, ⟨some 6, (Op.call { callee := (Callee.builtin Builtin.len), args := #[(Operand.tmp 5)], argTypes := #[24] }), 3, none⟩, ⟨some 7, (Op.binOp BinOp.gtr 3 (Operand.tmp 6) (Operand.const (Value.int IntKind.i64 16777216)) 3), 4, none⟩] (Q .normal ds) σ w := mk_eq rfl
@[push_cast] theorem vr25_2 (Q : Post) (ds : List Deferred) (σ : Env) (w : World) : vc Try.prog (.region r25_2) Q ds σ w = vcOps Try.prog [⟨some 2, (Op.assign (Operand.const (Value.slice none 0 0))), 24, none⟩, ⟨some 3, (Op.assign (Operand.const (Value.int IntKind.i64 21))), 25, none⟩] (Q .normal ds) σ w := mk_eq rfl
@[push_cast] theorem vr25_3 (Q : Post) (ds : List Deferred) (σ : Env) (w : World) : vc Try.prog (.region r25_3) Q ds σ w = vcOps Try.prog [⟨some 8, (Op.move (Operand.tmp 0)), 24, none⟩, ⟨some 9, (Op.call { callee := (Callee.builtin Builtin.len), args := #[(Operand.tmp 8)], argTypes := #[24] }), 3, none⟩, ⟨some 10, (Op.call { callee := (Callee.value (Operand.func 41)), args := #[(Operand.const (Value.slice none 0 0)), (Operand.tmp 9)], argTypes := #[24, 3] }), 24, none⟩, ⟨some 11, (Op.move (Operand.tmp 0)), 24, none⟩, ⟨some 12, (Op.call { callee := (Callee.builtin Builtin.append), args := #[(Operand.tmp 10), (Operand.tmp 11)], argTypes := #[24, 24] }), 24, none⟩, ⟨some 4, (Op.assign (Operand.tmp 12)), 24, none⟩] (Q .normal ds) σ w := mk_eq rfl
@[push_cast] theorem vr25_4 (Q : Post) (ds : List Deferred) (σ : Env) (w : World) : vc Try.prog (.region r25_4) Q ds σ w = vcOps Try.prog [⟨some 13, (Op.move (Operand.tmp 4)), 24, none⟩, ⟨some 14, (Op.move (Operand.tmp 4)), 24, none⟩, ⟨some 15, (Op.call { callee := (Callee.value (Operand.func 28)), args := #[(Operand.tmp 14)], argTypes := #[24] }), 43, none⟩, ⟨some 16, (Op.call { callee := (Callee.value (Operand.func 42)), args := #[(Operand.tmp 15)], argTypes := #[43] }), 24, none⟩, ⟨some 17, (Op.call { callee := (Callee.builtin Builtin.append), args := #[(Operand.tmp 13), (Operand.tmp 16)], argTypes := #[24, 24] }), 24, none⟩, ⟨some 2, (Op.assign (Operand.tmp 17)), 24, none⟩, ⟨some 3, (Op.assign (Operand.const (Value.int IntKind.i64 0))), 25, none⟩] (Q .normal ds) σ w := mk_eq rfl
/-! 26 columbary/columbarylaw02.alive (params #[], results #[(ResultVar.tmp 0)], 48 slots) -/
def r26_0 : List VOp :=
  [⟨some 0, (Op.assign (Operand.const (Value.bool false))), 4, none⟩]
def r26_1 : List VOp :=
  [⟨some 7, (Op.buildSlice 24 2 #[(0, (Operand.const (Value.int IntKind.u8 104))), (1, (Operand.const (Value.int IntKind.u8 105)))]), 24, none⟩,
   ⟨some 8, (Op.convert 24 24 (Operand.tmp 7)), 24, none⟩,
   ⟨some 9, (Op.call { callee := (Callee.value (Operand.func 25)), args := #[(Operand.tmp 8)], argTypes := #[24] }), 26, none⟩,
   ⟨some 6, (Op.move (Operand.tmp 9)), 26, none⟩,
   ⟨some 10, (Op.extract (Operand.tmp 6) 0), 24, none⟩,
   ⟨some 11, (Op.extract (Operand.tmp 6) 1), 25, none⟩,
   ⟨some 1, (Op.assign (Operand.tmp 10)), 24, none⟩,
   ⟨some 2, (Op.assign (Operand.tmp 11)), 25, none⟩]
def r26_2 : List VOp :=
  [⟨some 13, (Op.buildSlice 24 0 #[]), 24, none⟩,
   ⟨some 14, (Op.move (Operand.tmp 1)), 24, none⟩,
   ⟨some 15, (Op.call { callee := (Callee.builtin Builtin.append), args := #[(Operand.tmp 13), (Operand.tmp 14)], argTypes := #[24, 24] }), 24, none⟩,
   ⟨some 16, (Op.buildSlice 24 1 #[(0, (Operand.const (Value.int IntKind.u8 7)))]), 24, none⟩,
   ⟨some 17, (Op.call { callee := (Callee.builtin Builtin.append), args := #[(Operand.tmp 15), (Operand.tmp 16)], argTypes := #[24, 24] }), 24, none⟩,
   ⟨some 18, (Op.call { callee := (Callee.value (Operand.func 27)), args := #[(Operand.tmp 17)], argTypes := #[24] }), 45, none⟩,
   ⟨some 12, (Op.move (Operand.tmp 18)), 45, none⟩,
   ⟨some 19, (Op.extract (Operand.tmp 12) 0), 24, none⟩,
   ⟨some 20, (Op.extract (Operand.tmp 12) 1), 3, none⟩,
   ⟨some 21, (Op.extract (Operand.tmp 12) 2), 25, none⟩,
   ⟨some 3, (Op.assign (Operand.tmp 19)), 24, none⟩,
   ⟨some 4, (Op.assign (Operand.tmp 20)), 3, none⟩,
   ⟨some 5, (Op.assign (Operand.tmp 21)), 25, none⟩]
def r26_3 : List VOp :=
  [⟨some 22, (Op.buildSlice 24 9 #[(0, (Operand.const (Value.int IntKind.u8 49))), (1, (Operand.const (Value.int IntKind.u8 50))), (2, (Operand.const (Value.int IntKind.u8 51))), (3, (Operand.const (Value.int IntKind.u8 52))), (4, (Operand.const (Value.int IntKind.u8 53))), (5, (Operand.const (Value.int IntKind.u8 54))), (6, (Operand.const (Value.int IntKind.u8 55))), (7, (Operand.const (Value.int IntKind.u8 56))), (8, (Operand.const (Value.int IntKind.u8 57)))]), 24, none⟩,
   ⟨some 23, (Op.convert 24 24 (Operand.tmp 22)), 24, none⟩,
   ⟨some 24, (Op.call { callee := (Callee.value (Operand.func 28)), args := #[(Operand.tmp 23)], argTypes := #[24] }), 43, none⟩,
   ⟨some 25, (Op.binOp BinOp.eql 43 (Operand.tmp 24) (Operand.const (Value.int IntKind.u32 3808858755)) 43), 4, none⟩,
   ⟨some 26, (Op.move (Operand.tmp 25)), 4, none⟩,
   ⟨some 27, (Op.move (Operand.tmp 2)), 25, some (26, true)⟩,
   ⟨some 28, (Op.binOp BinOp.eql 25 (Operand.tmp 27) (Operand.const (Value.int IntKind.i64 0)) 25), 4, some (26, true)⟩,
   ⟨some 29, (Op.pick (Operand.tmp 26) (Operand.tmp 28) (Operand.const (Value.bool false))), 4, none⟩,
   ⟨some 30, (Op.move (Operand.tmp 29)), 4, none⟩,
   ⟨some 31, (Op.move (Operand.tmp 5)), 25, some (30, true)⟩,
   ⟨some 32, (Op.binOp BinOp.eql 25 (Operand.tmp 31) (Operand.const (Value.int IntKind.i64 0)) 25), 4, some (30, true)⟩,
   ⟨some 33, (Op.pick (Operand.tmp 30) (Operand.tmp 32) (Operand.const (Value.bool false))), 4, none⟩,
   ⟨some 34, (Op.move (Operand.tmp 33)), 4, none⟩,
   ⟨some 35, (Op.move (Operand.tmp 1)), 24, some (34, true)⟩,
   ⟨some 36, (Op.call { callee := (Callee.builtin Builtin.len), args := #[(Operand.tmp 35)], argTypes := #[24] }), 3, some (34, true)⟩,
   ⟨some 37, (Op.binOp BinOp.eql 3 (Operand.tmp 36) (Operand.const (Value.int IntKind.i64 7)) 3), 4, some (34, true)⟩,
   ⟨some 38, (Op.pick (Operand.tmp 34) (Operand.tmp 37) (Operand.const (Value.bool false))), 4, none⟩,
   ⟨some 39, (Op.move (Operand.tmp 38)), 4, none⟩,
   ⟨some 40, (Op.move (Operand.tmp 4)), 3, some (39, true)⟩,
   ⟨some 41, (Op.binOp BinOp.eql 3 (Operand.tmp 40) (Operand.const (Value.int IntKind.i64 7)) 3), 4, some (39, true)⟩,
   ⟨some 42, (Op.pick (Operand.tmp 39) (Operand.tmp 41) (Operand.const (Value.bool false))), 4, none⟩,
   ⟨some 43, (Op.move (Operand.tmp 42)), 4, none⟩,
   ⟨some 44, (Op.move (Operand.tmp 3)), 24, some (43, true)⟩,
   ⟨some 45, (Op.convert 24 9 (Operand.tmp 44)), 9, some (43, true)⟩,
   ⟨some 46, (Op.binOp BinOp.eql 9 (Operand.tmp 45) (Operand.const (Value.string { data := #[104, 105] })) 9), 4, some (43, true)⟩,
   ⟨some 47, (Op.pick (Operand.tmp 43) (Operand.tmp 46) (Operand.const (Value.bool false))), 4, none⟩,
   ⟨some 0, (Op.assign (Operand.tmp 47)), 4, none⟩]
def B26 : VC :=
  (.seq (.region r26_0) (.seq (.region r26_1) (.seq (.region r26_2) (.seq (.region r26_3) .ret))))
theorem code26 : ∃ c, Try.f26.body = some c ∧ abs Try.f26.ntmps c = B26 := ⟨_, rfl, by kernel_rfl⟩
theorem hb26 : HasBody Try.prog 26 := hasBody_of Try.func26 (by kernel_rfl)
theorem res26 : Try.f26.results = #[(ResultVar.tmp 0)] := rfl
theorem enter26 {w : World} {R : Value → World → Prop} (h : vc Try.prog B26 (retK Try.prog #[(ResultVar.tmp 0)] R) [] (initEnv [] 0) w) : FnC Try.prog 26 #[] w R := by
  obtain ⟨c, h1, h2⟩ := code26
  exact hb26.fn (ret_of_vc mixed Try.func26 h1 (Nat.le_of_ble_eq_true rfl) B26 h2 h)
@[push_cast] theorem vr26_0 (Q : Post) (ds : List Deferred) (σ : Env) (w : World) : vc Try.prog (.region r26_0) Q ds σ w = vcOps Try.prog [⟨some 0, (Op.assign (Operand.const (Value.bool false))), 4, none⟩] (Q .normal ds) σ w := mk_eq rfl
@[push_cast] theorem vr26_1 (Q : Post) (ds : List Deferred) (σ : Env) (w : World) : vc Try.prog (.region r26_1) Q ds σ w = vcOps Try.prog [⟨some 7, (Op.buildSlice 24 2 #[(0, (Operand.const (Value.int IntKind.u8 104))), (1, (Operand.const (Value.int IntKind.u8 105)))]), 24, none⟩, ⟨some 8, (Op.convert 24 24 (Operand.tmp 7)), 24, none⟩, ⟨some 9, (Op.call { callee := (Callee.value (Operand.func 25)), args := #[(Operand.tmp 8)], argTypes := #[24] }), 26, none⟩, ⟨some 6, (Op.move (Operand.tmp 9)), 26, none⟩, ⟨some 10, (Op.extract (Operand.tmp 6) 0), 24, none⟩, ⟨some 11, (Op.extract (Operand.tmp 6) 1), 25, none⟩, ⟨some 1, (Op.assign (Operand.tmp 10)), 24, none⟩, ⟨some 2, (Op.assign (Operand.tmp 11)), 25, none⟩] (Q .normal ds) σ w := mk_eq rfl
@[push_cast] theorem vr26_2 (Q : Post) (ds : List Deferred) (σ : Env) (w : World) : vc Try.prog (.region r26_2) Q ds σ w = vcOps Try.prog [⟨some 13, (Op.buildSlice 24 0 #[]), 24, none⟩, ⟨some 14, (Op.move (Operand.tmp 1)), 24, none⟩, ⟨some 15, (Op.call { callee := (Callee.builtin Builtin.append), args := #[(Operand.tmp 13), (Operand.tmp 14)], argTypes := #[24, 24] }), 24, none⟩, ⟨some 16, (Op.buildSlice 24 1 #[(0, (Operand.const (Value.int IntKind.u8 7)))]), 24, none⟩, ⟨some 17, (Op.call { callee := (Callee.builtin Builtin.append), args := #[(Operand.tmp 15), (Operand.tmp 16)], argTypes := #[24, 24] }), 24, none⟩, ⟨some 18, (Op.call { callee := (Callee.value (Operand.func 27)), args := #[(Operand.tmp 17)], argTypes := #[24] }), 45, none⟩, ⟨some 12, (Op.move (Operand.tmp 18)), 45, none⟩, ⟨some 19, (Op.extract (Operand.tmp 12) 0), 24, none⟩, ⟨some 20, (Op.extract (Operand.tmp 12) 1), 3, none⟩, ⟨some 21, (Op.extract (Operand.tmp 12) 2), 25, none⟩, ⟨some 3, (Op.assign (Operand.tmp 19)), 24, none⟩, ⟨some 4, (Op.assign (Operand.tmp 20)), 3, none⟩, ⟨some 5, (Op.assign (Operand.tmp 21)), 25, none⟩] (Q .normal ds) σ w := mk_eq rfl
@[push_cast] theorem vr26_3 (Q : Post) (ds : List Deferred) (σ : Env) (w : World) : vc Try.prog (.region r26_3) Q ds σ w = vcOps Try.prog [⟨some 22, (Op.buildSlice 24 9 #[(0, (Operand.const (Value.int IntKind.u8 49))), (1, (Operand.const (Value.int IntKind.u8 50))), (2, (Operand.const (Value.int IntKind.u8 51))), (3, (Operand.const (Value.int IntKind.u8 52))), (4, (Operand.const (Value.int IntKind.u8 53))), (5, (Operand.const (Value.int IntKind.u8 54))), (6, (Operand.const (Value.int IntKind.u8 55))), (7, (Operand.const (Value.int IntKind.u8 56))), (8, (Operand.const (Value.int IntKind.u8 57)))]), 24, none⟩, ⟨some 23, (Op.convert 24 24 (Operand.tmp 22)), 24, none⟩, ⟨some 24, (Op.call { callee := (Callee.value (Operand.func 28)), args := #[(Operand.tmp 23)], argTypes := #[24] }), 43, none⟩, ⟨some 25, (Op.binOp BinOp.eql 43 (Operand.tmp 24) (Operand.const (Value.int IntKind.u32 3808858755)) 43), 4, none⟩, ⟨some 26, (Op.move (Operand.tmp 25)), 4, none⟩, ⟨some 27, (Op.move (Operand.tmp 2)), 25, some (26, true)⟩, ⟨some 28, (Op.binOp BinOp.eql 25 (Operand.tmp 27) (Operand.const (Value.int IntKind.i64 0)) 25), 4, some (26, true)⟩, ⟨some 29, (Op.pick (Operand.tmp 26) (Operand.tmp 28) (Operand.const (Value.bool false))), 4, none⟩, ⟨some 30, (Op.move (Operand.tmp 29)), 4, none⟩, ⟨some 31, (Op.move (Operand.tmp 5)), 25, some (30, true)⟩, ⟨some 32, (Op.binOp BinOp.eql 25 (Operand.tmp 31) (Operand.const (Value.int IntKind.i64 0)) 25), 4, some (30, true)⟩, ⟨some 33, (Op.pick (Operand.tmp 30) (Operand.tmp 32) (Operand.const (Value.bool false))), 4, none⟩, ⟨some 34, (Op.move (Operand.tmp 33)), 4, none⟩, ⟨some 35, (Op.move (Operand.tmp 1)), 24, some (34, true)⟩, ⟨some 36, (Op.call { callee := (Callee.builtin Builtin.len), args := #[(Operand.tmp 35)], argTypes := #[24] }), 3, some (34, true)⟩, ⟨some 37, (Op.binOp BinOp.eql 3 (Operand.tmp 36) (Operand.const (Value.int IntKind.i64 7)) 3), 4, some (34, true)⟩, ⟨some 38, (Op.pick (Operand.tmp 34) (Operand.tmp 37) (Operand.const (Value.bool false))), 4, none⟩, ⟨some 39, (Op.move (Operand.tmp 38)), 4, none⟩, ⟨some 40, (Op.move (Operand.tmp 4)), 3, some (39, true)⟩, ⟨some 41, (Op.binOp BinOp.eql 3 (Operand.tmp 40) (Operand.const (Value.int IntKind.i64 7)) 3), 4, some (39, true)⟩, ⟨some 42, (Op.pick (Operand.tmp 39) (Operand.tmp 41) (Operand.const (Value.bool false))), 4, none⟩, ⟨some 43, (Op.move (Operand.tmp 42)), 4, none⟩, ⟨some 44, (Op.move (Operand.tmp 3)), 24, some (43, true)⟩, ⟨some 45, (Op.convert 24 9 (Operand.tmp 44)), 9, some (43, true)⟩, ⟨some 46, (Op.binOp BinOp.eql 9 (Operand.tmp 45) (Operand.const (Value.string { data := #[104, 105] })) 9), 4, some (43, true)⟩, ⟨some 47, (Op.pick (Operand.tmp 43) (Operand.tmp 46) (Operand.const (Value.bool false))), 4, none⟩, ⟨some 0, (Op.assign (Operand.tmp 47)), 4, none⟩] (Q .normal ds) σ w := mk_eq rfl
/-! 27 columbary/check.First (params #[24], results #[(ResultVar.tmp 2), (ResultVar.tmp 3), (ResultVar.tmp 4)], 59 slots) -/
def r27_0 : List VOp :=
  [⟨some 2, (Op.assign (Operand.const (Value.slice none 0 0))), 24, none⟩,
   ⟨some 3, (Op.assign (Operand.const (Value.int IntKind.i64 0))), 3, none⟩,
   ⟨some 4, (Op.assign (Operand.const (Value.int IntKind.i64 0))), 25, none⟩]
def r27_1 : List VOp :=
  [⟨some 13, (Op.move (Operand.tmp 0)), 24, none⟩,
   ⟨some 14, (Op.call { callee := (Callee.value (Operand.func 43)), args := #[(Operand.tmp 13)], argTypes := #[24] }), 63, none⟩,
   ⟨some 5, (Op.assign (Operand.tmp 14)), 63, none⟩]
def r27_2 : List VOp :=
  [⟨some 16, (Op.move (Operand.tmp 5)), 63, none⟩,
   ⟨some 17, (Op.call { callee := (Callee.value (Operand.func 44)), args := #[(Operand.tmp 16), (Operand.const (Value.int IntKind.i64 0)), (Operand.const (Value.int IntKind.i64 16777216))], argTypes := #[63, 3, 3] }), 28, none⟩,
   ⟨some 15, (Op.move (Operand.tmp 17)), 28, none⟩,
   ⟨some 18, (Op.extract (Operand.tmp 15) 0), 3, none⟩,
   ⟨some 19, (Op.extract (Operand.tmp 15) 1), 25, none⟩,
   ⟨some 6, (Op.assign (Operand.tmp 18)), 3, none⟩,
   ⟨some 7, (Op.assign (Operand.tmp 19)), 25, none⟩]
def r27_3 : List VOp :=
  [⟨some 21, (Op.move (Operand.tmp 5)), 63, none⟩,
   ⟨some 22, (Op.move (Operand.tmp 6)), 3, none⟩,
   ⟨some 23, (Op.call { callee := (Callee.value (Operand.func 45)), args := #[(Operand.tmp 21), (Operand.tmp 22)], argTypes := #[63, 3] }), 26, none⟩,
   ⟨some 20, (Op.move (Operand.tmp 23)), 26, none⟩,
   ⟨some 24, (Op.extract (Operand.tmp 20) 0), 24, none⟩,
   ⟨some 25, (Op.extract (Operand.tmp 20) 1), 25, none⟩,
   ⟨some 8, (Op.assign (Operand.tmp 24)), 24, none⟩,
   ⟨some 9, (Op.assign (Operand.tmp 25)), 25, none⟩]
def r27_4 : List VOp :=
  [⟨some 26, (Op.move (Operand.tmp 0)), 24, none⟩,
   ⟨some 27, (Op.call { callee := (Callee.builtin Builtin.len), args := #[(Operand.tmp 26)], argTypes := #[24] }), 3, none⟩,
   ⟨some 28, (Op.move (Operand.tmp 5)), 63, none⟩,
   ⟨some 29, (Op.call { callee := (Callee.value (Operand.func 46)), args := #[(Operand.tmp 28)], argTypes := #[63] }), 3, none⟩,
   ⟨some 30, (Op.binOp BinOp.sub 3 (Operand.tmp 27) (Operand.tmp 29) 3), 3, none⟩,
   ⟨some 10, (Op.assign (Operand.tmp 30)), 3, none⟩]
def r27_5 : List VOp :=
  [⟨some 32, (Op.move (Operand.tmp 5)), 63, none⟩,
   ⟨some 33, (Op.call { callee := (Callee.value (Operand.func 45)), args := #[(Operand.tmp 32), (Operand.const (Value.int IntKind.i64 4))], argTypes := #[63, 3] }), 26, none⟩,
   ⟨some 31, (Op.move (Operand.tmp 33)), 26, none⟩,
   ⟨some 34, (Op.extract (Operand.tmp 31) 0), 24, none⟩,
   ⟨some 35, (Op.extract (Operand.tmp 31) 1), 25, none⟩,
   ⟨some 11, (Op.assign (Operand.tmp 34)), 24, none⟩,
   ⟨some 12, (Op.assign (Operand.tmp 35)), 25, none⟩]
def r27_6 : List VOp :=
  [⟨some 36, (Op.move (Operand.tmp 7)), 25, none⟩,
   ⟨some 37, (Op.binOp BinOp.neq 25 (Operand.tmp 36) (Operand.const (Value.int IntKind.i64 0)) 25), 4, none⟩,
   ⟨some 38, (Op.move (Operand.tmp 37)), 4, none⟩,
   ⟨some 39, (Op.move (Operand.tmp 9)), 25, some (38, false)⟩,
   ⟨some 40, (Op.binOp BinOp.neq 25 (Operand.tmp 39) (Operand.const (Value.int IntKind.i64 0)) 25), 4, some (38, false)⟩,
   ⟨some 41, (Op.pick (Operand.tmp 38) (Operand.const (Value.bool true)) (Operand.tmp 40)), 4, none⟩,
   ⟨some 42, (Op.move (Operand.tmp 41)), 4, none⟩,
   ⟨some 43, (Op.move (Operand.tmp 12)), 25, some (42, false)⟩,
   ⟨some 44, (Op.binOp BinOp.neq 25 (Operand.tmp 43) (Operand.const (Value.int IntKind.i64 0)) 25), 4, some (42, false)⟩,
   ⟨some 45, (Op.pick (Operand.tmp 42) (Operand.const (Value.bool true)) (Operand.tmp 44)), 4, none⟩,
   ⟨some 46, (Op.move (Operand.tmp 45)), 4, none⟩,
   ⟨some 47, (Op.move (Operand.tmp 11)), 24, some (46, false)⟩,
   ⟨some 48, (Op.move (Operand.tmp 0)), 24, some (46, false)⟩,
   ⟨some 49, (Op.move (Operand.tmp 10)), 3, some (46, false)⟩,
   ⟨some 50, (Op.slice 24 (Operand.tmp 48) none (some (Operand.tmp 49)) none), 24, some (46, false)⟩,
   ⟨some 51, (Op.call { callee := (Callee.value (Operand.func 28)), args := #[(Operand.tmp 50)], argTypes := #[24] }), 43, some (46, false)⟩,
   ⟨some 52, (Op.call { callee := (Callee.value (Operand.func 42)), args := #[(Operand.tmp 51)], argTypes := #[43] }), 24, some (46, false)⟩,
   ⟨some 53, (Op.call { callee := (Callee.value (Operand.func 39)), args := #[(Operand.tmp 47), (Operand.tmp 52)], argTypes := #[24, 24] }), 4, some (46, false)⟩,
   ⟨some 54, (Op.unOp UnOp.not 4 (Operand.tmp 53)), 4, some (46, false)⟩,
   ⟨some 55, (Op.pick (Operand.tmp 46) (Operand.const (Value.bool true)) (Operand.tmp 54)), 4, none⟩]
def r27_7 : List VOp :=
  [⟨some 2, (Op.assign (Operand.const (Value.slice none 0 0))), 24, none⟩,
   ⟨some 3, (Op.assign (Operand.const (Value.int IntKind.i64 0))), 3, none⟩,
   ⟨some 4, (Op.assign (Operand.const (Value.int IntKind.i64 21))), 25, none⟩]
def r27_8 : List VOp :=
  [⟨some 56, (Op.move (Operand.tmp 8)), 24, none⟩,
   ⟨some 57, (Op.move (Operand.tmp 10)), 3, none⟩,
   ⟨some 58, (Op.binOp BinOp.add 3 (Operand.tmp 57) (Operand.const (Value.int IntKind.i64 4)) 3), 3, none⟩,
   ⟨some 2, (Op.assign (Operand.tmp 56)), 24, none⟩,
   ⟨some 3, (Op.assign (Operand.tmp 58)), 3, none⟩,
   ⟨some 4, (Op.assign (Operand.const (Value.int IntKind.i64 0))), 25, none⟩]
def B27 : VC :=
  (.seq (.region r27_0) (.seq (.region r27_1) (.seq (.region r27_2) (.seq (.region r27_3) (.seq (.region r27_4) (.seq (.region r27_5) (.seq (.seq (.region r27_6) (.cond (Operand.tmp 55) (.seq (.region r27_7) .ret) .skip)) (.seq (.region r27_8) .ret))))))))
theorem code27 : ∃ c, Try.f27.body = some c ∧ abs Try.f27.ntmps c = B27 := ⟨_, rfl, by kernel_rfl⟩
theorem hb27 : HasBody Try.prog 27 := hasBody_of Try.func27 (by kernel_rfl)
theorem res27 : Try.f27.results = #[(ResultVar.tmp 2), (ResultVar.tmp 3), (ResultVar.tmp 4)] := rfl
theorem enter27 {w : World} {R : Value → World → Prop} (x0 : Value) (h : vc Try.prog B27 (retK Try.prog #[(ResultVar.tmp 2), (ResultVar.tmp 3), (ResultVar.tmp 4)] R) [] (initEnv [x0] 0) w) : FnC Try.prog 27 #[x0] w R := by
  obtain ⟨c, h1, h2⟩ := code27
  exact hb27.fn (ret_of_vc mixed Try.func27 h1 (Nat.le_of_ble_eq_true rfl) B27 h2 h)
@[push_cast] theorem vr27_0 (Q : Post) (ds : List Deferred) (σ : Env) (w : World) : vc Try.prog (.region r27_0) Q ds σ w = vcOps Try.prog [⟨some 2, (Op.assign (Operand.const (Value.slice none 0 0))), 24, none⟩, ⟨some 3, (Op.assign (Operand.const (Value.int IntKind.i64 0))), 3, none⟩, ⟨some 4, (Op.assign (Operand.const (Value.int IntKind.i64 0))), 25, none⟩] (Q .normal ds) σ w := mk_eq rfl
@[push_cast] theorem vr27_1 (Q : Post) (ds : List Deferred) (σ : Env) (w : World) : vc Try.prog (.region r27_1) Q ds σ w = vcOps Try.prog [⟨some 13, (Op.move (Operand.tmp 0)), 24, none⟩, ⟨some 14, (Op.call { callee := (Callee.value (Operand.func 43)), args := #[(Operand.tmp 13)], argTypes := #[24] }), 63, none⟩, ⟨some 5, (Op.assign (Operand.tmp 14)), 63, none⟩] (Q .normal ds) σ w := mk_eq rfl
@[push_cast] theorem vr27_2 (Q : Post) (ds : List Deferred) (σ : Env) (w : World) : vc Try.prog (.region r27_2) Q ds σ w = vcOps Try.prog [⟨some 16, (Op.move (Operand.tmp 5)), 63, none⟩, ⟨some 17, (Op.call { callee := (Callee.value (Operand.func 44)), args := #[(Operand.tmp 16), (Operand.const (Value.int IntKind.i64 0)), (Operand.const (Value.int IntKind.i64 16777216))], argTypes := #[63, 3, 3] }), 28, none⟩, ⟨some 15, (Op.move (Operand.tmp 17)), 28, none⟩, ⟨some 18, (Op.extract (Operand.tmp 15) 0), 3, none⟩, ⟨some 19, (Op.extract (Operand.tmp 15) 1), 25, none⟩, ⟨some 6, (Op.assign (Operand.tmp 18)), 3, none⟩, ⟨some 7, (Op.assign (Operand.tmp 19)), 25, none⟩] (Q .normal ds) σ w := mk_eq rfl
@[push_cast] theorem vr27_3 (Q : Post) (ds : List Deferred) (σ : Env) (w : World) : vc Try.prog (.region r27_3) Q ds σ w = vcOps Try.prog [⟨some 21, (Op.move (Operand.tmp 5)), 63, none⟩, ⟨some 22, (Op.move (Operand.tmp 6)), 3, none⟩, ⟨some 23, (Op.call { callee := (Callee.value (Operand.func 45)), args := #[(Operand.tmp 21), (Operand.tmp 22)], argTypes := #[63, 3] }), 26, none⟩, ⟨some 20, (Op.move (Operand.tmp 23)), 26, none⟩, ⟨some 24, (Op.extract (Operand.tmp 20) 0), 24, none⟩, ⟨some 25, (Op.extract (Operand.tmp 20) 1), 25, none⟩, ⟨some 8, (Op.assign (Operand.tmp 24)), 24, none⟩, ⟨some 9, (Op.assign (Operand.tmp 25)), 25, none⟩] (Q .normal ds) σ w := mk_eq rfl
@[push_cast] theorem vr27_4 (Q : Post) (ds : List Deferred) (σ : Env) (w : World) : vc Try.prog (.region r27_4) Q ds σ w = vcOps Try.prog [⟨some 26, (Op.move (Operand.tmp 0)), 24, none⟩, ⟨some 27, (Op.call { callee := (Callee.builtin Builtin.len), args := #[(Operand.tmp 26)], argTypes := #[24] }), 3, none⟩, ⟨some 28, (Op.move (Operand.tmp 5)), 63, none⟩, ⟨some 29, (Op.call { callee := (Callee.value (Operand.func 46)), args := #[(Operand.tmp 28)], argTypes := #[63] }), 3, none⟩, ⟨some 30, (Op.binOp BinOp.sub 3 (Operand.tmp 27) (Operand.tmp 29) 3), 3, none⟩, ⟨some 10, (Op.assign (Operand.tmp 30)), 3, none⟩] (Q .normal ds) σ w := mk_eq rfl
@[push_cast] theorem vr27_5 (Q : Post) (ds : List Deferred) (σ : Env) (w : World) : vc Try.prog (.region r27_5) Q ds σ w = vcOps Try.prog [⟨some 32, (Op.move (Operand.tmp 5)), 63, none⟩, ⟨some 33, (Op.call { callee := (Callee.value (Operand.func 45)), args := #[(Operand.tmp 32), (Operand.const (Value.int IntKind.i64 4))], argTypes := #[63, 3] }), 26, none⟩, ⟨some 31, (Op.move (Operand.tmp 33)), 26, none⟩, ⟨some 34, (Op.extract (Operand.tmp 31) 0), 24, none⟩, ⟨some 35, (Op.extract (Operand.tmp 31) 1), 25, none⟩, ⟨some 11, (Op.assign (Operand.tmp 34)), 24, none⟩, ⟨some 12, (Op.assign (Operand.tmp 35)), 25, none⟩] (Q .normal ds) σ w := mk_eq rfl
@[push_cast] theorem vr27_6 (Q : Post) (ds : List Deferred) (σ : Env) (w : World) : vc Try.prog (.region r27_6) Q ds σ w = vcOps Try.prog [⟨some 36, (Op.move (Operand.tmp 7)), 25, none⟩, ⟨some 37, (Op.binOp BinOp.neq 25 (Operand.tmp 36) (Operand.const (Value.int IntKind.i64 0)) 25), 4, none⟩, ⟨some 38, (Op.move (Operand.tmp 37)), 4, none⟩, ⟨some 39, (Op.move (Operand.tmp 9)), 25, some (38, false)⟩, ⟨some 40, (Op.binOp BinOp.neq 25 (Operand.tmp 39) (Operand.const (Value.int IntKind.i64 0)) 25), 4, some (38, false)⟩, ⟨some 41, (Op.pick (Operand.tmp 38) (Operand.const (Value.bool true)) (Operand.tmp 40)), 4, none⟩, ⟨some 42, (Op.move (Operand.tmp 41)), 4, none⟩, ⟨some 43, (Op.move (Operand.tmp 12)), 25, some (42, false)⟩, ⟨some 44, (Op.binOp BinOp.neq 25 (Operand.tmp 43) (Operand.const (Value.int IntKind.i64 0)) 25), 4, some (42, false)⟩, ⟨some 45, (Op.pick (Operand.tmp 42) (Operand.const (Value.bool true)) (Operand.tmp 44)), 4, none⟩, ⟨some 46, (Op.move (Operand.tmp 45)), 4, none⟩, ⟨some 47, (Op.move (Operand.tmp 11)), 24, some (46, false)⟩, ⟨some 48, (Op.move (Operand.tmp 0)), 24, some (46, false)⟩, ⟨some 49, (Op.move (Operand.tmp 10)), 3, some (46, false)⟩, ⟨some 50, (Op.slice 24 (Operand.tmp 48) none (some (Operand.tmp 49)) none), 24, some (46, false)⟩, ⟨some 51, (Op.call { callee := (Callee.value (Operand.func 28)), args := #[(Operand.tmp 50)], argTypes := #[24] }), 43, some (46, false)⟩, ⟨some 52, (Op.call { callee := (Callee.value (Operand.func 42)), args := #[(Operand.tmp 51)], argTypes := #[43] }), 24, some (46, false)⟩, ⟨some 53, (Op.call { callee := (Callee.value (Operand.func 39)), args := #[(Operand.tmp 47), (Operand.tmp 52)], argTypes := #[24, 24] }), 4, some (46, false)⟩, ⟨some 54, (Op.unOp UnOp.not 4 (Operand.tmp 53)), 4, some (46, false)⟩, ⟨some 55, (Op.pick (Operand.tmp 46) (Operand.const (Value.bool true)) (Operand.tmp 54)), 4, none⟩] (Q .normal ds) σ w := mk_eq rfl
@[push_cast] theorem vr27_7 (Q : Post) (ds : List Deferred) (σ : Env) (w : World) : vc Try.prog (.region r27_7) Q ds σ w = vcOps Try.prog [⟨some 2, (Op.assign (Operand.const (Value.slice none 0 0))), 24, none⟩, ⟨some 3, (Op.assign (Operand.const (Value.int IntKind.i64 0))), 3, none⟩, ⟨some 4, (Op.assign (Operand.const (Value.int IntKind.i64 21))), 25, none⟩] (Q .normal ds) σ w := mk_eq rfl
@[push_cast] theorem vr27_8 (Q : Post) (ds : List Deferred) (σ : Env) (w : World) : vc Try.prog (.region r27_8) Q ds σ w = vcOps Try.prog [⟨some 56, (Op.move (Operand.tmp 8)), 24, none⟩, ⟨some 57, (Op.move (Operand.tmp 10)), 3, none⟩, ⟨some 58, (Op.binOp BinOp.add 3 (Operand.tmp 57) (Operand.const (Value.int IntKind.i64 4)) 3), 3, none⟩, ⟨some 2, (Op.assign (Operand.tmp 56)), 24, none⟩, ⟨some 3, (Op.assign (Operand.tmp 58)), 3, none⟩, ⟨some 4, (Op.assign (Operand.const (Value.int IntKind.i64 0))), 25, none⟩] (Q .normal ds) σ w := mk_eq rfl
/-! 28 columbary/check.Sum (params #[24], results #[(ResultVar.tmp 2)], 31 slots) -/
def W28_0 : List Nat := [4, 6, 10, 11, 12, 13, 14, 15, 16, 17, 18, 19, 20, 21, 22, 23, 24, 25, 26, 27, 28]
@[push_cast] theorem W28_0_def : W28_0 = [4, 6, 10, 11, 12, 13, 14, 15, 16, 17, 18, 19, 20, 21, 22, 23, 24, 25, 26, 27, 28] := mk_eq rfl
def W28_1 : List Nat := [4, 18, 19, 20, 21, 22, 23, 24, 25, 26, 27]
@[push_cast] theorem W28_1_def : W28_1 = [4, 18, 19, 20, 21, 22, 23, 24, 25, 26, 27] := mk_eq rfl
def r28_0 : List VOp :=
  [⟨some 2, (Op.assign (Operand.const (Value.int IntKind.u32 0))), 43, none⟩]
def r28_1 : List VOp :=
  [⟨some 7, (Op.call { callee := (Callee.value (Operand.func 47)), args := #[], argTypes := #[] }), 67, none⟩,
   ⟨some 3, (Op.alloc 67), 0, none⟩,
   ⟨none, (Op.store 67 (Operand.tmp 3) (Operand.tmp 7)), 0, none⟩]
def r28_2 : List VOp :=
  [⟨some 4, (Op.assign (Operand.const (Value.int IntKind.u32 4294967295))), 43, none⟩]
def r28_3 : List VOp :=
  [⟨some 8, (Op.move (Operand.tmp 0)), 24, none⟩,
   ⟨some 9, (Op.call { callee := (Callee.builtin Builtin.len), args := #[(Operand.tmp 8)], argTypes := #[24] }), 3, none⟩,
   ⟨some 10, (Op.move (Operand.const (Value.int IntKind.i64 0))), 3, none⟩]
def r28_4 : List VOp :=
  [⟨some 11, (Op.binOp BinOp.lss 3 (Operand.tmp 10) (Operand.tmp 9) 3), 0, none⟩]
def r28_5 : List VOp :=
  [⟨some 12, (Op.indexAddr 24 (Operand.tmp 8) (Operand.tmp 10)), 0, none⟩,
   ⟨some 13, (Op.load 5 (Operand.tmp 12)), 5, none⟩,
   ⟨some 6, (Op.assign (Operand.tmp 13)), 5, none⟩]
def r28_6 : List VOp :=
  [⟨some 14, (Op.move (Operand.tmp 4)), 43, none⟩,
   ⟨some 15, (Op.move (Operand.tmp 6)), 5, none⟩,
   ⟨some 16, (Op.convert 5 43 (Operand.tmp 15)), 43, none⟩,
   ⟨some 17, (Op.binOp BinOp.xor 43 (Operand.tmp 14) (Operand.tmp 16) 43), 43, none⟩,
   ⟨some 4, (Op.assign (Operand.tmp 17)), 43, none⟩]
def r28_7 : List VOp :=
  [⟨some 18, (Op.move (Operand.const (Value.int IntKind.i64 0))), 3, none⟩]
def r28_8 : List VOp :=
  [⟨some 19, (Op.binOp BinOp.lss 3 (Operand.tmp 18) (Operand.const (Value.int IntKind.i64 2)) 3), 4, none⟩]
def r28_9 : List VOp :=
  [⟨some 20, (Op.move (Operand.tmp 4)), 43, none⟩,
   ⟨some 21, (Op.binOp BinOp.shr 43 (Operand.tmp 20) (Operand.const (Value.int IntKind.u64 4)) 33), 43, none⟩,
   ⟨some 22, (Op.move (Operand.tmp 4)), 43, none⟩,
   ⟨some 23, (Op.binOp BinOp.and 43 (Operand.tmp 22) (Operand.const (Value.int IntKind.u32 15)) 43), 43, none⟩,
   ⟨some 24, (Op.indexAddr 67 (Operand.tmp 3) (Operand.tmp 23)), 0, none⟩,
   ⟨some 25, (Op.load 43 (Operand.tmp 24)), 43, none⟩,
   ⟨some 26, (Op.binOp BinOp.xor 43 (Operand.tmp 21) (Operand.tmp 25) 43), 43, none⟩,
   ⟨some 4, (Op.assign (Operand.tmp 26)), 43, none⟩]
def r28_10 : List VOp :=
  [⟨some 27, (Op.binOp BinOp.add 3 (Operand.tmp 18) (Operand.const (Value.int IntKind.i64 1)) 3), 3, none⟩,
   ⟨some 18, (Op.move (Operand.tmp 27)), 3, none⟩]
def r28_11 : List VOp :=
  [⟨some 28, (Op.binOp BinOp.add 3 (Operand.tmp 10) (Operand.const (Value.int IntKind.i64 1)) 3), 3, none⟩,
   ⟨some 10, (Op.move (Operand.tmp 28)), 3, none⟩]
def r28_12 : List VOp :=
  [⟨some 29, (Op.move (Operand.tmp 4)), 43, none⟩,
   ⟨some 30, (Op.unOp UnOp.xor 43 (Operand.tmp 29)), 43, none⟩,
   ⟨some 2, (Op.assign (Operand.tmp 30)), 43, none⟩]
def B28 : VC :=
  (.seq (.region r28_0) (.seq (.region r28_1) (.seq (.region r28_2) (.seq (.seq (.region r28_3) (.block 0 (.loop (.seq (.region r28_4) (.seq (.cond (Operand.tmp 11) .skip (.exit 0)) (.seq (.block 1 (.seq (.region r28_5) (.seq (.region r28_6) (.seq (.region r28_7) (.block 2 (.loop (.seq (.region r28_8) (.seq (.cond (Operand.tmp 19) .skip (.exit 2)) (.seq (.block 3 (.region r28_9)) (.region r28_10)))))))))) (.region r28_11))))))) (.seq (.region r28_12) .ret)))))
theorem code28 : ∃ c, Try.f28.body = some c ∧ abs Try.f28.ntmps c = B28 := ⟨_, rfl, by kernel_rfl⟩
theorem hb28 : HasBody Try.prog 28 := hasBody_of Try.func28 (by kernel_rfl)
theorem res28 : Try.f28.results = #[(ResultVar.tmp 2)] := rfl
theorem enter28 {w : World} {R : Value → World → Prop} (x0 : Value) (h : vc Try.prog B28 (retK Try.prog #[(ResultVar.tmp 2)] R) [] (initEnv [x0] 0) w) : FnC Try.prog 28 #[x0] w R := by
  obtain ⟨c, h1, h2⟩ := code28
  exact hb28.fn (ret_of_vc mixed Try.func28 h1 (Nat.le_of_ble_eq_true rfl) B28 h2 h)
@[push_cast] theorem vr28_0 (Q : Post) (ds : List Deferred) (σ : Env) (w : World) : vc Try.prog (.region r28_0) Q ds σ w = vcOps Try.prog [⟨some 2, (Op.assign (Operand.const (Value.int IntKind.u32 0))), 43, none⟩] (Q .normal ds) σ w := mk_eq rfl
@[push_cast] theorem vr28_1 (Q : Post) (ds : List Deferred) (σ : Env) (w : World) : vc Try.prog (.region r28_1) Q ds σ w = vcOps Try.prog [⟨some 7, (Op.call { callee := (Callee.value (Operand.func 47)), args := #[], argTypes := #[] }), 67, none⟩, ⟨some 3, (Op.alloc 67), 0, none⟩, ⟨none, (Op.store 67 (Operand.tmp 3) (Operand.tmp 7)), 0, none⟩] (Q .normal ds) σ w := mk_eq rfl
@[push_cast] theorem vr28_2 (Q : Post) (ds : List Deferred) (σ : Env) (w : World) : vc Try.prog (.region r28_2) Q ds σ w = vcOps Try.prog [⟨some 4, (Op.assign (Operand.const (Value.int IntKind.u32 4294967295))), 43, none⟩] (Q .normal ds) σ w := mk_eq rfl
@[push_cast] theorem vr28_3 (Q : Post) (ds : List Deferred) (σ : Env) (w : World) : vc Try.prog (.region r28_3) Q ds σ w = vcOps Try.prog [⟨some 8, (Op.move (Operand.tmp 0)), 24, none⟩, ⟨some 9, (Op.call { callee := (Callee.builtin Builtin.len), args := #[(Operand.tmp 8)], argTypes := #[24] }), 3, none⟩, ⟨some 10, (Op.move (Operand.const (Value.int IntKind.i64 0))), 3, none⟩] (Q .normal ds) σ w := mk_eq rfl
@[push_cast] theorem vr28_4 (Q : Post) (ds : List Deferred) (σ : Env) (w : World) : vc Try.prog (.region r28_4) Q ds σ w = vcOps Try.prog [⟨some 11, (Op.binOp BinOp.lss 3 (Operand.tmp 10) (Operand.tmp 9) 3), 0, none⟩] (Q .normal ds) σ w := mk_eq rfl
@[push_cast] theorem vr28_5 (Q : Post) (ds : List Deferred) (σ : Env) (w : World) : vc Try.prog (.region r28_5) Q ds σ w = vcOps Try.prog [⟨some 12, (Op.indexAddr 24 (Operand.tmp 8) (Operand.tmp 10)), 0, none⟩, ⟨some 13, (Op.load 5 (Operand.tmp 12)), 5, none⟩, ⟨some 6, (Op.assign (Operand.tmp 13)), 5, none⟩] (Q .normal ds) σ w := mk_eq rfl
@[push_cast] theorem vr28_6 (Q : Post) (ds : List Deferred) (σ : Env) (w : World) : vc Try.prog (.region r28_6) Q ds σ w = vcOps Try.prog [⟨some 14, (Op.move (Operand.tmp 4)), 43, none⟩, ⟨some 15, (Op.move (Operand.tmp 6)), 5, none⟩, ⟨some 16, (Op.convert 5 43 (Operand.tmp 15)), 43, none⟩, ⟨some 17, (Op.binOp BinOp.xor 43 (Operand.tmp 14) (Operand.tmp 16) 43), 43, none⟩, ⟨some 4, (Op.assign (Operand.tmp 17)), 43, none⟩] (Q .normal ds) σ w := mk_eq rfl
@[push_cast] theorem vr28_7 (Q : Post) (ds : List Deferred) (σ : Env) (w : World) : vc Try.prog (.region r28_7) Q ds σ w = vcOps Try.prog [⟨some 18, (Op.move (Operand.const (Value.int IntKind.i64 0))), 3, none⟩] (Q .normal ds) σ w := mk_eq rfl
@[push_cast] theorem vr28_8 (Q : Post) (ds : List Deferred) (σ : Env) (w : World) : vc Try.prog (.region r28_8) Q ds σ w = vcOps Try.prog [⟨some 19, (Op.binOp BinOp.lss 3 (Operand.tmp 18) (Operand.const (Value.int IntKind.i64 2)) 3), 4, none⟩] (Q .normal ds) σ w := mk_eq rfl
@[push_cast] theorem vr28_9 (Q : Post) (ds : List Deferred) (σ : Env) (w : World) : vc Try.prog (.region r28_9) Q ds σ w = vcOps Try.prog [⟨some 20, (Op.move (Operand.tmp 4)), 43, none⟩, ⟨some 21, (Op.binOp BinOp.shr 43 (Operand.tmp 20) (Operand.const (Value.int IntKind.u64 4)) 33), 43, none⟩, ⟨some 22, (Op.move (Operand.tmp 4)), 43, none⟩, ⟨some 23, (Op.binOp BinOp.and 43 (Operand.tmp 22) (Operand.const (Value.int IntKind.u32 15)) 43), 43, none⟩, ⟨some 24, (Op.indexAddr 67 (Operand.tmp 3) (Operand.tmp 23)), 0, none⟩, ⟨some 25, (Op.load 43 (Operand.tmp 24)), 43, none⟩, ⟨some 26, (Op.binOp BinOp.xor 43 (Operand.tmp 21) (Operand.tmp 25) 43), 43, none⟩, ⟨some 4, (Op.assign (Operand.tmp 26)), 43, none⟩] (Q .normal ds) σ w := mk_eq rfl
@[push_cast] theorem vr28_10 (Q : Post) (ds : List Deferred) (σ : Env) (w : World) : vc Try.prog (.region r28_10) Q ds σ w = vcOps Try.prog [⟨some 27, (Op.binOp BinOp.add 3 (Operand.tmp 18) (Operand.const (Value.int IntKind.i64 1)) 3), 3, none⟩, ⟨some 18, (Op.move (Operand.tmp 27)), 3, none⟩] (Q .normal ds) σ w := mk_eq rfl
@[push_cast] theorem vr28_11 (Q : Post) (ds : List Deferred) (σ : Env) (w : World) : vc Try.prog (.region r28_11) Q ds σ w = vcOps Try.prog [⟨some 28, (Op.binOp BinOp.add 3 (Operand.tmp 10) (Operand.const (Value.int IntKind.i64 1)) 3), 3, none⟩, ⟨some 10, (Op.move (Operand.tmp 28)), 3, none⟩] (Q .normal ds) σ w := mk_eq rfl
@[push_cast] theorem vr28_12 (Q : Post) (ds : List Deferred) (σ : Env) (w : World) : vc Try.prog (.region r28_12) Q ds σ w = vcOps Try.prog [⟨some 29, (Op.move (Operand.tmp 4)), 43, none⟩, ⟨some 30, (Op.unOp UnOp.xor 43 (Operand.tmp 29)), 43, none⟩, ⟨some 2, (Op.assign (Operand.tmp 30)), 43, none⟩] (Q .normal ds) σ w := mk_eq rfl
/-! 29 columbary/columbaryref02.Block (params #[24], results #[(ResultVar.tmp 2), (ResultVar.tmp 3)], 30 slots) -/
def r29_0 : List VOp :=
  [⟨some 2, (Op.assign (Operand.const (Value.slice none 0 0))), 24, none⟩,
   ⟨some 3, (Op.assign (Operand.const (Value.int IntKind.i64 0))), 25, none⟩]
def r29_1 : List VOp :=
  [⟨some 6, (Op.move (Operand.tmp 0)), 24, none⟩,
   ⟨some 7, (Op.call { callee := (Callee.builtin Builtin.len), args := #[(Operand.tmp 6)], argTypes := #[24] }), 3, none⟩,
   ⟨some 8, (Op.binOp BinOp.gtr 3 (Operand.tmp 7) (Operand.const (Value.int IntKind.i64 16777216)) 3), 4, none⟩]
def r29_2 : List VOp :=
  [⟨some 2, (Op.assign (Operand.const (Value.slice none 0 0))), 24, none⟩,
   ⟨some 3, (Op.assign (Operand.const (Value.int IntKind.i64 21))), 25, none⟩]
def r29_3 : List VOp :=
  [⟨some 9, (Op.move (Operand.tmp 0)), 24, none⟩,
   ⟨some 10, (Op.call { callee := (Callee.builtin Builtin.len), args := #[(Operand.tmp 9)], argTypes := #[24] }), 3, none⟩,
   ⟨some 11, (Op.call { callee := (Callee.value (Operand.func 48)), args := #[(Operand.tmp 10)], argTypes := #[3] }), 24, none⟩,
   ⟨some 12, (Op.move (Operand.tmp 0)), 24, none⟩,
   ⟨some 13, (Op.call { callee := (Callee.builtin Builtin.append), args := #[(Operand.tmp 11), (Operand.tmp 12)], argTypes := #[24, 24] }), 24, none⟩,
   ⟨some 4, (Op.assign (Operand.tmp 13)), 24, none⟩]
def r29_4 : List VOp :=
  [⟨some 14, (Op.move (Operand.tmp 4)), 24, none⟩,
   ⟨some 15, (Op.call { callee := (Callee.value (Operand.func 33)), args := #[(Operand.tmp 14)], argTypes := #[24] }), 43, none⟩,
   ⟨some 5, (Op.assign (Operand.tmp 15)), 43, none⟩]
def r29_5 : List VOp :=
  [⟨some 16, (Op.move (Operand.tmp 4)), 24, none⟩,
   ⟨some 17, (Op.move (Operand.tmp 5)), 43, none⟩,
   ⟨some 18, (Op.binOp BinOp.quo 43 (Operand.tmp 17) (Operand.const (Value.int IntKind.u32 16777216)) 43), 43, none⟩,
   ⟨some 19, (Op.convert 43 5 (Operand.tmp 18)), 5, none⟩,
   ⟨some 20, (Op.move (Operand.tmp 5)), 43, none⟩,
   ⟨some 21, (Op.binOp BinOp.quo 43 (Operand.tmp 20) (Operand.const (Value.int IntKind.u32 65536)) 43), 43, none⟩,
   ⟨some 22, (Op.convert 43 5 (Operand.tmp 21)), 5, none⟩,
   ⟨some 23, (Op.move (Operand.tmp 5)), 43, none⟩,
   ⟨some 24, (Op.binOp BinOp.quo 43 (Operand.tmp 23) (Operand.const (Value.int IntKind.u32 256)) 43), 43, none⟩,
   ⟨some 25, (Op.convert 43 5 (Operand.tmp 24)), 5, none⟩,
   ⟨some 26, (Op.move (Operand.tmp 5)), 43, none⟩,
   ⟨some 27, (Op.convert 43 5 (Operand.tmp 26)), 5, none⟩,
   ⟨some 28, (Op.buildSlice 24 4 #[(0, (Operand.tmp 19)), (1, (Operand.tmp 22)), (2, (Operand.tmp 25)), (3, (Operand.tmp 27))]), 24, none⟩,
   ⟨some 29, (Op.call { callee := (Callee.builtin Builtin.append), args := #[(Operand.tmp 16), (Operand.tmp 28)], argTypes := #[24, 24] }), 24, none⟩,
   ⟨some 2, (Op.assign (Operand.tmp 29)), 24, none⟩,
   ⟨some 3, (Op.assign (Operand.const (Value.int IntKind.i64 0))), 25, none⟩]
def B29 : VC :=
  (.seq (.region r29_0) (.seq (.seq (.region r29_1) (.cond (Operand.tmp 8) (.seq (.region r29_2) .ret) .skip)) (.seq (.region r29_3) (.seq (.region r29_4) (.seq (.region r29_5) .ret)))))
theorem code29 : ∃ c, Try.f29.body = some c ∧ abs Try.f29.ntmps c = B29 := ⟨_, rfl, by kernel_rfl⟩
theorem hb29 : HasBody Try.prog 29 := hasBody_of Try.func29 (by kernel_rfl)
theorem res29 : Try.f29.results = #[(ResultVar.tmp 2), (ResultVar.tmp 3)] := rfl
theorem enter29 {w : World} {R : Value → World → Prop} (x0 : Value) (h : vc Try.prog B29 (retK Try.prog #[(ResultVar.tmp 2), (ResultVar.tmp 3)] R) [] (initEnv [x0] 0) w) : FnC Try.prog 29 #[x0] w R := by
  obtain ⟨c, h1, h2⟩ := code29
  exact hb29.fn (ret_of_vc mixed Try.func29 h1 (Nat.le_of_ble_eq_true rfl) B29 h2 h)
@[push_cast] theorem vr29_0 (Q : Post) (ds : List Deferred) (σ : Env) (w : World) : vc Try.prog (.region r29_0) Q ds σ w = vcOps Try.prog [⟨some 2, (Op.assign (Operand.const (Value.slice none 0 0))), 24, none⟩, ⟨some 3, (Op.assign (Operand.const (Value.int IntKind.i64 0))), 25, none⟩] (Q .normal ds) σ w := mk_eq rfl
@[push_cast] theorem vr29_1 (Q : Post) (ds : List Deferred) (σ : Env) (w : World) : vc Try.prog (.region r29_1) Q ds σ w = vcOps Try.prog [⟨some 6, (Op.move (Operand.tmp 0)), 24, none⟩, ⟨some 7, (Op.call { callee := (Callee.builtin Builtin.len), args := #[(Operand.tmp 6)], argTypes := #[24] }), 3, none⟩, ⟨some 8, (Op.binOp BinOp.gtr 3 (Operand.tmp 7) (Operand.const (Value.int IntKind.i64 16777216)) 3), 4, none⟩] (Q .normal ds) σ w := mk_eq rfl
@[push_cast] theorem vr29_2 (Q : Post) (ds : List Deferred) (σ : Env) (w : World) : vc Try.prog (.region r29_2) Q ds σ w = vcOps Try.prog [⟨some 2, (Op.assign (Operand.const (Value.slice none 0 0))), 24, none⟩, ⟨some 3, (Op.assign (Operand.const (Value.int IntKind.i64 21))), 25, none⟩] (Q .normal ds) σ w := mk_eq rfl
@[push_cast] theorem vr29_3 (Q : Post) (ds : List Deferred) (σ : Env) (w : World) : vc Try.prog (.region r29_3) Q ds σ w = vcOps Try.prog [⟨some 9, (Op.move (Operand.tmp 0)), 24, none⟩, ⟨some 10, (Op.call { callee := (Callee.builtin Builtin.len), args := #[(Operand.tmp 9)], argTypes := #[24] }), 3, none⟩, ⟨some 11, (Op.call { callee := (Callee.value (Operand.func 48)), args := #[(Operand.tmp 10)], argTypes := #[3] }), 24, none⟩, ⟨some 12, (Op.move (Operand.tmp 0)), 24, none⟩, ⟨some 13, (Op.call { callee := (Callee.builtin Builtin.append), args := #[(Operand.tmp 11), (Operand.tmp 12)], argTypes := #[24, 24] }), 24, none⟩, ⟨some 4, (Op.assign (Operand.tmp 13)), 24, none⟩] (Q .normal ds) σ w := mk_eq rfl
@[push_cast] theorem vr29_4 (Q : Post) (ds : List Deferred) (σ : Env) (w : World) : vc Try.prog (.region r29_4) Q ds σ w = vcOps Try.prog [⟨some 14, (Op.move (Operand.tmp 4)), 24, none⟩, ⟨some 15, (Op.call { callee := (Callee.value (Operand.func 33)), args := #[(Operand.tmp 14)], argTypes := #[24] }), 43, none⟩, ⟨some 5, (Op.assign (Operand.tmp 15)), 43, none⟩] (Q .normal ds) σ w := mk_eq rfl
@[push_cast] theorem vr29_5 (Q : Post) (ds : List Deferred) (σ : Env) (w : World) : vc Try.prog (.region r29_5) Q ds σ w = vcOps Try.prog [⟨some 16, (Op.move (Operand.tmp 4)), 24, none⟩, ⟨some 17, (Op.move (Operand.tmp 5)), 43, none⟩, ⟨some 18, (Op.binOp BinOp.quo 43 (Operand.tmp 17) (Operand.const (Value.int IntKind.u32 16777216)) 43), 43, none⟩, ⟨some 19, (Op.convert 43 5 (Operand.tmp 18)), 5, none⟩, ⟨some 20, (Op.move (Operand.tmp 5)), 43, none⟩, ⟨some 21, (Op.binOp BinOp.quo 43 (Operand.tmp 20) (Operand.const (Value.int IntKind.u32 65536)) 43), 43, none⟩, ⟨some 22, (Op.convert 43 5 (Operand.tmp 21)), 5, none⟩, ⟨some 23, (Op.move (Operand.tmp 5)), 43, none⟩, ⟨some 24, (Op.binOp BinOp.quo 43 (Operand.tmp 23) (Operand.const (Value.int IntKind.u32 256)) 43), 43, none⟩, ⟨some 25, (Op.convert 43 5 (Operand.tmp 24)), 5, none⟩, ⟨some 26, (Op.move (Operand.tmp 5)), 43, none⟩, ⟨some 27, (Op.convert 43 5 (Operand.tmp 26)), 5, none⟩, ⟨some 28, (Op.buildSlice 24 4 #[(0, (Operand.tmp 19)), (1, (Operand.tmp 22)), (2, (Operand.tmp 25)), (3, (Operand.tmp 27))]), 24, none⟩, ⟨some 29, (Op.call { callee := (Callee.builtin Builtin.append), args := #[(Operand.tmp 16), (Operand.tmp 28)], argTypes := #[24, 24] }), 24, none⟩, ⟨some 2, (Op.assign (Operand.tmp 29)), 24, none⟩, ⟨some 3, (Op.assign (Operand.const (Value.int IntKind.i64 0))), 25, none⟩] (Q .normal ds) σ w := mk_eq rfl
/-! 30 columbary/columbaryref02.First (params #[24], results #[(ResultVar.tmp 2), (ResultVar.tmp 3), (ResultVar.tmp 4)], 61 slots) -/
def r30_0 : List VOp :=
  [⟨some 2, (Op.assign (Operand.const (Value.slice none 0 0))), 24, none⟩,
   ⟨some 3, (Op.assign (Operand.const (Value.int IntKind.i64 0))), 3, none⟩,
   ⟨some 4, (Op.assign (Operand.const (Value.int IntKind.i64 0))), 25, none⟩]
def r30_1 : List VOp :=
  [⟨some 11, (Op.move (Operand.tmp 0)), 24, none⟩,
   ⟨some 12, (Op.build 72 #[(0, (Operand.tmp 11))]), 72, none⟩,
   ⟨some 13, (Op.box 72 (Operand.tmp 12)), 70, none⟩,
   ⟨some 5, (Op.assign (Operand.tmp 13)), 70, none⟩]
def r30_2 : List VOp :=
  [⟨some 15, (Op.move (Operand.tmp 5)), 70, none⟩,
   ⟨some 16, (Op.call { callee := (Callee.value (Operand.func 49)), args := #[(Operand.tmp 15), (Operand.const (Value.int IntKind.i64 0)), (Operand.const (Value.int IntKind.i64 16777216))], argTypes := #[70, 3, 3] }), 28, none⟩,
   ⟨some 14, (Op.move (Operand.tmp 16)), 28, none⟩,
   ⟨some 17, (Op.extract (Operand.tmp 14) 0), 3, none⟩,
   ⟨some 18, (Op.extract (Operand.tmp 14) 1), 25, none⟩,
   ⟨some 6, (Op.assign (Operand.tmp 17)), 3, none⟩,
   ⟨some 7, (Op.assign (Operand.tmp 18)), 25, none⟩]
def r30_3 : List VOp :=
  [⟨some 19, (Op.move (Operand.tmp 7)), 25, none⟩,
   ⟨some 20, (Op.binOp BinOp.neq 25 (Operand.tmp 19) (Operand.const (Value.int IntKind.i64 0)) 25), 4, none⟩,
   ⟨some 21, (Op.move (Operand.tmp 20)), 4, none⟩,
   ⟨some 22, (Op.move (Operand.tmp 6)), 3, some (21, false)⟩,
   ⟨some 23, (Op.move (Operand.tmp 0)), 24, some (21, false)⟩,
   ⟨some 24, (Op.call { callee := (Callee.builtin Builtin.len), args := #[(Operand.tmp 23)], argTypes := #[24] }), 3, some (21, false)⟩,
   ⟨some 25, (Op.move (Operand.tmp 5)), 70, some (21, false)⟩,
   ⟨some 26, (Op.nilCheck (Operand.tmp 25)), 0, some (21, false)⟩,
   ⟨some 27, (Op.fieldAddr 72 (Operand.tmp 26) 1), 0, some (21, false)⟩,
   ⟨some 28, (Op.load 3 (Operand.tmp 27)), 3, some (21, false)⟩,
   ⟨some 29, (Op.binOp BinOp.sub 3 (Operand.tmp 24) (Operand.tmp 28) 3), 3, some (21, false)⟩,
   ⟨some 30, (Op.binOp BinOp.sub 3 (Operand.tmp 29) (Operand.const (Value.int IntKind.i64 4)) 3), 3, some (21, false)⟩,
   ⟨some 31, (Op.binOp BinOp.gtr 3 (Operand.tmp 22) (Operand.tmp 30) 3), 4, some (21, false)⟩,
   ⟨some 32, (Op.pick (Operand.tmp 21) (Operand.const (Value.bool true)) (Operand.tmp 31)), 4, none⟩]
def r30_4 : List VOp :=
  [⟨some 2, (Op.assign (Operand.const (Value.slice none 0 0))), 24, none⟩,
   ⟨some 3, (Op.assign (Operand.const (Value.int IntKind.i64 0))), 3, none⟩,
   ⟨some 4, (Op.assign (Operand.const (Value.int IntKind.i64 21))), 25, none⟩]
def r30_5 : List VOp :=
  [⟨some 33, (Op.move (Operand.tmp 0)), 24, none⟩,
   ⟨some 34, (Op.move (Operand.tmp 5)), 70, none⟩,
   ⟨some 35, (Op.nilCheck (Operand.tmp 34)), 0, none⟩,
   ⟨some 36, (Op.fieldAddr 72 (Operand.tmp 35) 1), 0, none⟩,
   ⟨some 37, (Op.load 3 (Operand.tmp 36)), 3, none⟩,
   ⟨some 38, (Op.move (Operand.tmp 5)), 70, none⟩,
   ⟨some 39, (Op.nilCheck (Operand.tmp 38)), 0, none⟩,
   ⟨some 40, (Op.fieldAddr 72 (Operand.tmp 39) 1), 0, none⟩,
   ⟨some 41, (Op.load 3 (Operand.tmp 40)), 3, none⟩,
   ⟨some 42, (Op.move (Operand.tmp 6)), 3, none⟩,
   ⟨some 43, (Op.binOp BinOp.add 3 (Operand.tmp 41) (Operand.tmp 42) 3), 3, none⟩,
   ⟨some 44, (Op.slice 24 (Operand.tmp 33) (some (Operand.tmp 37)) (some (Operand.tmp 43)) none), 24, none⟩,
   ⟨some 8, (Op.assign (Operand.tmp 44)), 24, none⟩]
def r30_6 : List VOp :=
  [⟨some 46, (Op.move (Operand.tmp 8)), 24, none⟩,
   ⟨some 47, (Op.call { callee := (Callee.value (Operand.func 29)), args := #[(Operand.tmp 46)], argTypes := #[24] }), 26, none⟩,
   ⟨some 45, (Op.move (Operand.tmp 47)), 26, none⟩,
   ⟨some 48, (Op.extract (Operand.tmp 45) 0), 24, none⟩,
   ⟨some 49, (Op.extract (Operand.tmp 45) 1), 25, none⟩,
   ⟨some 9, (Op.assign (Operand.tmp 48)), 24, none⟩,
   ⟨some 10, (Op.assign (Operand.tmp 49)), 25, none⟩]
def r30_7 : List VOp :=
  [⟨some 50, (Op.move (Operand.tmp 9)), 24, none⟩,
   ⟨some 51, (Op.convert 24 9 (Operand.tmp 50)), 9, none⟩,
   ⟨some 52, (Op.move (Operand.tmp 0)), 24, none⟩,
   ⟨some 53, (Op.move (Operand.tmp 9)), 24, none⟩,
   ⟨some 54, (Op.call { callee := (Callee.builtin Builtin.len), args := #[(Operand.tmp 53)], argTypes := #[24] }), 3, none⟩,
   ⟨some 55, (Op.slice 24 (Operand.tmp 52) none (some (Operand.tmp 54)) none), 24, none⟩,
   ⟨some 56, (Op.convert 24 9 (Operand.tmp 55)), 9, none⟩,
   ⟨some 57, (Op.binOp BinOp.neq 9 (Operand.tmp 51) (Operand.tmp 56) 9), 4, none⟩]
def r30_8 : List VOp :=
  [⟨some 2, (Op.assign (Operand.const (Value.slice none 0 0))), 24, none⟩,
   ⟨some 3, (Op.assign (Operand.const (Value.int IntKind.i64 0))), 3, none⟩,
   ⟨some 4, (Op.assign (Operand.const (Value.int IntKind.i64 21))), 25, none⟩]
def r30_9 : List VOp :=
  [⟨some 58, (Op.move (Operand.tmp 8)), 24, none⟩,
   ⟨some 59, (Op.move (Operand.tmp 9)), 24, none⟩,
   ⟨some 60, (Op.call { callee := (Callee.builtin Builtin.len), args := #[(Operand.tmp 59)], argTypes := #[24] }), 3, none⟩,
   ⟨some 2, (Op.assign (Operand.tmp 58)), 24, none⟩,
   ⟨some 3, (Op.assign (Operand.tmp 60)), 3, none⟩,
   ⟨some 4, (Op.assign (Operand.const (Value.int IntKind.i64 0))), 25, none⟩]
def B30 : VC :=
  (.seq (.region r30_0) (.seq (.region r30_1) (.seq (.region r30_2) (.seq (.seq (.region r30_3) (.cond (Operand.tmp 32) (.seq (.region r30_4) .ret) .skip)) (.seq (.draw r30_5 3) (.seq (.region r30_6) (.seq (.seq (.draw r30_7 2) (.cond (Operand.tmp 57) (.seq (.region r30_8) .ret) .skip)) (.seq (.region r30_9) .ret))))))))
theorem code30 : ∃ c, Try.f30.body = some c ∧ abs Try.f30.ntmps c = B30 := ⟨_, rfl, by kernel_rfl⟩
theorem hb30 : HasBody Try.prog 30 := hasBody_of Try.func30 (by kernel_rfl)
theorem res30 : Try.f30.results = #[(ResultVar.tmp 2), (ResultVar.tmp 3), (ResultVar.tmp 4)] := rfl
theorem enter30 {w : World} {R : Value → World → Prop} (x0 : Value) (h : vc Try.prog B30 (retK Try.prog #[(ResultVar.tmp 2), (ResultVar.tmp 3), (ResultVar.tmp 4)] R) [] (initEnv [x0] 0) w) : FnC Try.prog 30 #[x0] w R := by
  obtain ⟨c, h1, h2⟩ := code30
  exact hb30.fn (ret_of_vc mixed Try.func30 h1 (Nat.le_of_ble_eq_true rfl) B30 h2 h)
@[push_cast] theorem vr30_0 (Q : Post) (ds : List Deferred) (σ : Env) (w : World) : vc Try.prog (.region r30_0) Q ds σ w = vcOps Try.prog [⟨some 2, (Op.assign (Operand.const (Value.slice none 0 0))), 24, none⟩, ⟨some 3, (Op.assign (Operand.const (Value.int IntKind.i64 0))), 3, none⟩, ⟨some 4, (Op.assign (Operand.const (Value.int IntKind.i64 0))), 25, none⟩] (Q .normal ds) σ w := mk_eq rfl
@[push_cast] theorem vr30_1 (Q : Post) (ds : List Deferred) (σ : Env) (w : World) : vc Try.prog (.region r30_1) Q ds σ w = vcOps Try.prog [⟨some 11, (Op.move (Operand.tmp 0)), 24, none⟩, ⟨some 12, (Op.build 72 #[(0, (Operand.tmp 11))]), 72, none⟩, ⟨some 13, (Op.box 72 (Operand.tmp 12)), 70, none⟩, ⟨some 5, (Op.assign (Operand.tmp 13)), 70, none⟩] (Q .normal ds) σ w := mk_eq rfl
@[push_cast] theorem vr30_2 (Q : Post) (ds : List Deferred) (σ : Env) (w : World) : vc Try.prog (.region r30_2) Q ds σ w = vcOps Try.prog [⟨some 15, (Op.move (Operand.tmp 5)), 70, none⟩, ⟨some 16, (Op.call { callee := (Callee.value (Operand.func 49)), args := #[(Operand.tmp 15), (Operand.const (Value.int IntKind.i64 0)), (Operand.const (Value.int IntKind.i64 16777216))], argTypes := #[70, 3, 3] }), 28, none⟩, ⟨some 14, (Op.move (Operand.tmp 16)), 28, none⟩, ⟨some 17, (Op.extract (Operand.tmp 14) 0), 3, none⟩, ⟨some 18, (Op.extract (Operand.tmp 14) 1), 25, none⟩, ⟨some 6, (Op.assign (Operand.tmp 17)), 3, none⟩, ⟨some 7, (Op.assign (Operand.tmp 18)), 25, none⟩] (Q .normal ds) σ w := mk_eq rfl
@[push_cast] theorem vr30_3 (Q : Post) (ds : List Deferred) (σ : Env) (w : World) : vc Try.prog (.region r30_3) Q ds σ w = vcOps Try.prog [⟨some 19, (Op.move (Operand.tmp 7)), 25, none⟩, ⟨some 20, (Op.binOp BinOp.neq 25 (Operand.tmp 19) (Operand.const (Value.int IntKind.i64 0)) 25), 4, none⟩, ⟨some 21, (Op.move (Operand.tmp 20)), 4, none⟩, ⟨some 22, (Op.move (Operand.tmp 6)), 3, some (21, false)⟩, ⟨some 23, (Op.move (Operand.tmp 0)), 24, some (21, false)⟩, ⟨some 24, (Op.call { callee := (Callee.builtin Builtin.len), args := #[(Operand.tmp 23)], argTypes := #[24] }), 3, some (21, false)⟩, ⟨some 25, (Op.move (Operand.tmp 5)), 70, some (21, false)⟩, ⟨some 26, (Op.nilCheck (Operand.tmp 25)), 0, some (21, false)⟩, ⟨some 27, (Op.fieldAddr 72 (Operand.tmp 26) 1), 0, some (21, false)⟩, ⟨some 28, (Op.load 3 (Operand.tmp 27)), 3, some (21, false)⟩, ⟨some 29, (Op.binOp BinOp.sub 3 (Operand.tmp 24) (Operand.tmp 28) 3), 3, some (21, false)⟩, ⟨some 30, (Op.binOp BinOp.sub 3 (Operand.tmp 29) (Operand.const (Value.int IntKind.i64 4)) 3), 3, some (21, false)⟩, ⟨some 31, (Op.binOp BinOp.gtr 3 (Operand.tmp 22) (Operand.tmp 30) 3), 4, some (21, false)⟩, ⟨some 32, (Op.pick (Operand.tmp 21) (Operand.const (Value.bool true)) (Operand.tmp 31)), 4, none⟩] (Q .normal ds) σ w := mk_eq rfl
@[push_cast] theorem vr30_4 (Q : Post) (ds : List Deferred) (σ : Env) (w : World) : vc Try.prog (.region r30_4) Q ds σ w = vcOps Try.prog [⟨some 2, (Op.assign (Operand.const (Value.slice none 0 0))), 24, none⟩, ⟨some 3, (Op.assign (Operand.const (Value.int IntKind.i64 0))), 3, none⟩, ⟨some 4, (Op.assign (Operand.const (Value.int IntKind.i64 21))), 25, none⟩] (Q .normal ds) σ w := mk_eq rfl
@[push_cast] theorem vr30_5 (Q : Post) (ds : List Deferred) (σ : Env) (w : World) : vc Try.prog (.draw r30_5 3) Q ds σ w = drawn Try.prog [(⟨some 33, (Op.move (Operand.tmp 0)), 24, none⟩, [0]), (⟨some 34, (Op.move (Operand.tmp 5)), 70, none⟩, [5]), (⟨some 35, (Op.nilCheck (Operand.tmp 34)), 0, none⟩, [34]), (⟨some 36, (Op.fieldAddr 72 (Operand.tmp 35) 1), 0, none⟩, [35]), (⟨some 37, (Op.load 3 (Operand.tmp 36)), 3, none⟩, [36]), (⟨some 38, (Op.move (Operand.tmp 5)), 70, none⟩, [5]), (⟨some 39, (Op.nilCheck (Operand.tmp 38)), 0, none⟩, [38]), (⟨some 40, (Op.fieldAddr 72 (Operand.tmp 39) 1), 0, none⟩, [39]), (⟨some 41, (Op.load 3 (Operand.tmp 40)), 3, none⟩, [40]), (⟨some 42, (Op.move (Operand.tmp 6)), 3, none⟩, [6]), (⟨some 43, (Op.binOp BinOp.add 3 (Operand.tmp 41) (Operand.tmp 42) 3), 3, none⟩, [41, 42]), (⟨some 44, (Op.slice 24 (Operand.tmp 33) (some (Operand.tmp 37)) (some (Operand.tmp 43)) none), 24, none⟩, [33, 37, 43]), (⟨some 8, (Op.assign (Operand.tmp 44)), 24, none⟩, [44])] 3 (Q .normal ds) σ w := mk_eq rfl
@[push_cast] theorem vr30_6 (Q : Post) (ds : List Deferred) (σ : Env) (w : World) : vc Try.prog (.region r30_6) Q ds σ w = vcOps Try.prog [⟨some 46, (Op.move (Operand.tmp 8)), 24, none⟩, ⟨some 47, (Op.call { callee := (Callee.value (Operand.func 29)), args := #[(Operand.tmp 46)], argTypes := #[24] }), 26, none⟩, ⟨some 45, (Op.move (Operand.tmp 47)), 26, none⟩, ⟨some 48, (Op.extract (Operand.tmp 45) 0), 24, none⟩, ⟨some 49, (Op.extract (Operand.tmp 45) 1), 25, none⟩, ⟨some 9, (Op.assign (Operand.tmp 48)), 24, none⟩, ⟨some 10, (Op.assign (Operand.tmp 49)), 25, none⟩] (Q .normal ds) σ w := mk_eq rfl
@[push_cast] theorem vr30_7 (Q : Post) (ds : List Deferred) (σ : Env) (w : World) : vc Try.prog (.draw r30_7 2) Q ds σ w = drawn Try.prog [(⟨some 50, (Op.move (Operand.tmp 9)), 24, none⟩, [9]), (⟨some 51, (Op.convert 24 9 (Operand.tmp 50)), 9, none⟩, [50]), (⟨some 52, (Op.move (Operand.tmp 0)), 24, none⟩, [0]), (⟨some 53, (Op.move (Operand.tmp 9)), 24, none⟩, [9]), (⟨some 54, (Op.call { callee := (Callee.builtin Builtin.len), args := #[(Operand.tmp 53)], argTypes := #[24] }), 3, none⟩, [53]), (⟨some 55, (Op.slice 24 (Operand.tmp 52) none (some (Operand.tmp 54)) none), 24, none⟩, [52, 54]), (⟨some 56, (Op.convert 24 9 (Operand.tmp 55)), 9, none⟩, [55]), (⟨some 57, (Op.binOp BinOp.neq 9 (Operand.tmp 51) (Operand.tmp 56) 9), 4, none⟩, [51, 56])] 2 (Q .normal ds) σ w := mk_eq rfl
@[push_cast] theorem vr30_8 (Q : Post) (ds : List Deferred) (σ : Env) (w : World) : vc Try.prog (.region r30_8) Q ds σ w = vcOps Try.prog [⟨some 2, (Op.assign (Operand.const (Value.slice none 0 0))), 24, none⟩, ⟨some 3, (Op.assign (Operand.const (Value.int IntKind.i64 0))), 3, none⟩, ⟨some 4, (Op.assign (Operand.const (Value.int IntKind.i64 21))), 25, none⟩] (Q .normal ds) σ w := mk_eq rfl
@[push_cast] theorem vr30_9 (Q : Post) (ds : List Deferred) (σ : Env) (w : World) : vc Try.prog (.region r30_9) Q ds σ w = vcOps Try.prog [⟨some 58, (Op.move (Operand.tmp 8)), 24, none⟩, ⟨some 59, (Op.move (Operand.tmp 9)), 24, none⟩, ⟨some 60, (Op.call { callee := (Callee.builtin Builtin.len), args := #[(Operand.tmp 59)], argTypes := #[24] }), 3, none⟩, ⟨some 2, (Op.assign (Operand.tmp 58)), 24, none⟩, ⟨some 3, (Op.assign (Operand.tmp 60)), 3, none⟩, ⟨some 4, (Op.assign (Operand.const (Value.int IntKind.i64 0))), 25, none⟩] (Q .normal ds) σ w := mk_eq rfl
/-! 31 columbary/check.Blocks (params #[24], results #[(ResultVar.tmp 2), (ResultVar.tmp 3)], 28 slots) -/
def W31_0 : List Nat := [2, 3, 4, 5, 6, 7, 8, 9, 10, 11, 12, 13, 14, 15, 16, 17, 18, 19, 20, 21, 22, 23, 24, 25, 26, 27]
@[push_cast] theorem W31_0_def : W31_0 = [2, 3, 4, 5, 6, 7, 8, 9, 10, 11, 12, 13, 14, 15, 16, 17, 18, 19, 20, 21, 22, 23, 24, 25, 26, 27] := mk_eq rfl
def r31_0 : List VOp :=
  [⟨some 2, (Op.assign (Operand.const (Value.slice none 0 0))), 51, none⟩,
   ⟨some 3, (Op.assign (Operand.const (Value.int IntKind.i64 0))), 3, none⟩]
def r31_1 : List VOp :=
  [⟨some 4, (Op.assign (Operand.const (Value.slice none 0 0))), 51, none⟩]
def r31_2 : List VOp :=
  [⟨some 5, (Op.assign (Operand.const (Value.int IntKind.i64 0))), 3, none⟩]
def r31_3 : List VOp :=
  [⟨some 10, (Op.move (Operand.tmp 0)), 24, none⟩,
   ⟨some 11, (Op.move (Operand.tmp 5)), 3, none⟩,
   ⟨some 12, (Op.slice 24 (Operand.tmp 10) (some (Operand.tmp 11)) none none), 24, none⟩,
   ⟨some 13, (Op.call { callee := (Callee.value (Operand.func 27)), args := #[(Operand.tmp 12)], argTypes := #[24] }), 45, none⟩,
   ⟨some 9, (Op.move (Operand.tmp 13)), 45, none⟩,
   ⟨some 14, (Op.extract (Operand.tmp 9) 0), 24, none⟩,
   ⟨some 15, (Op.extract (Operand.tmp 9) 1), 3, none⟩,
   ⟨some 16, (Op.extract (Operand.tmp 9) 2), 25, none⟩,
   ⟨some 6, (Op.assign (Operand.tmp 14)), 24, none⟩,
   ⟨some 7, (Op.assign (Operand.tmp 15)), 3, none⟩,
   ⟨some 8, (Op.assign (Operand.tmp 16)), 25, none⟩]
def r31_4 : List VOp :=
  [⟨some 17, (Op.move (Operand.tmp 8)), 25, none⟩,
   ⟨some 18, (Op.binOp BinOp.neq 25 (Operand.tmp 17) (Operand.const (Value.int IntKind.i64 0)) 25), 4, none⟩]
def r31_5 : List VOp :=
  [⟨some 19, (Op.move (Operand.tmp 4)), 51, none⟩,
   ⟨some 20, (Op.move (Operand.tmp 5)), 3, none⟩,
   ⟨some 2, (Op.assign (Operand.tmp 19)), 51, none⟩,
   ⟨some 3, (Op.assign (Operand.tmp 20)), 3, none⟩]
def r31_6 : List VOp :=
  [⟨some 21, (Op.move (Operand.tmp 4)), 51, none⟩,
   ⟨some 22, (Op.move (Operand.tmp 6)), 24, none⟩,
   ⟨some 23, (Op.buildSlice 51 1 #[(0, (Operand.tmp 22))]), 51, none⟩,
   ⟨some 24, (Op.call { callee := (Callee.builtin Builtin.append), args := #[(Operand.tmp 21), (Operand.tmp 23)], argTypes := #[51, 51] }), 51, none⟩,
   ⟨some 25, (Op.move (Operand.tmp 5)), 3, none⟩,
   ⟨some 26, (Op.move (Operand.tmp 7)), 3, none⟩,
   ⟨some 27, (Op.binOp BinOp.add 3 (Operand.tmp 25) (Operand.tmp 26) 3), 3, none⟩,
   ⟨some 4, (Op.assign (Operand.tmp 24)), 51, none⟩,
   ⟨some 5, (Op.assign (Operand.tmp 27)), 3, none⟩]
def B31 : VC :=
  (.seq (.region r31_0) (.seq (.region r31_1) (.seq (.region r31_2) (.block 0 (.loop (.block 1 (.seq (.region r31_3) (.seq (.seq (.region r31_4) (.cond (Operand.tmp 18) (.seq (.region r31_5) .ret) .skip)) (.region r31_6)))))))))
theorem code31 : ∃ c, Try.f31.body = some c ∧ abs Try.f31.ntmps c = B31 := ⟨_, rfl, by kernel_rfl⟩
theorem hb31 : HasBody Try.prog 31 := hasBody_of Try.func31 (by kernel_rfl)
theorem res31 : Try.f31.results = #[(ResultVar.tmp 2), (ResultVar.tmp 3)] := rfl
theorem enter31 {w : World} {R : Value → World → Prop} (x0 : Value) (h : vc Try.prog B31 (retK Try.prog #[(ResultVar.tmp 2), (ResultVar.tmp 3)] R) [] (initEnv [x0] 0) w) : FnC Try.prog 31 #[x0] w R := by
  obtain ⟨c, h1, h2⟩ := code31
  exact hb31.fn (ret_of_vc mixed Try.func31 h1 (Nat.le_of_ble_eq_true rfl) B31 h2 h)
@[push_cast] theorem vr31_0 (Q : Post) (ds : List Deferred) (σ : Env) (w : World) : vc Try.prog (.region r31_0) Q ds σ w = vcOps Try.prog [⟨some 2, (Op.assign (Operand.const (Value.slice none 0 0))), 51, none⟩, ⟨some 3, (Op.assign (Operand.const (Value.int IntKind.i64 0))), 3, none⟩] (Q .normal ds) σ w := mk_eq rfl
@[push_cast] theorem vr31_1 (Q : Post) (ds : List Deferred) (σ : Env) (w : World) : vc Try.prog (.region r31_1) Q ds σ w = vcOps Try.prog [⟨some 4, (Op.assign (Operand.const (Value.slice none 0 0))), 51, none⟩] (Q .normal ds) σ w := mk_eq rfl
@[push_cast] theorem vr31_2 (Q : Post) (ds : List Deferred) (σ : Env) (w : World) : vc Try.prog (.region r31_2) Q ds σ w = vcOps Try.prog [⟨some 5, (Op.assign (Operand.const (Value.int IntKind.i64 0))), 3, none⟩] (Q .normal ds) σ w := mk_eq rfl
@[push_cast] theorem vr31_3 (Q : Post) (ds : List Deferred) (σ : Env) (w : World) : vc Try.prog (.region r31_3) Q ds σ w = vcOps Try.prog [⟨some 10, (Op.move (Operand.tmp 0)), 24, none⟩, ⟨some 11, (Op.move (Operand.tmp 5)), 3, none⟩, ⟨some 12, (Op.slice 24 (Operand.tmp 10) (some (Operand.tmp 11)) none none), 24, none⟩, ⟨some 13, (Op.call { callee := (Callee.value (Operand.func 27)), args := #[(Operand.tmp 12)], argTypes := #[24] }), 45, none⟩, ⟨some 9, (Op.move (Operand.tmp 13)), 45, none⟩, ⟨some 14, (Op.extract (Operand.tmp 9) 0), 24, none⟩, ⟨some 15, (Op.extract (Operand.tmp 9) 1), 3, none⟩, ⟨some 16, (Op.extract (Operand.tmp 9) 2), 25, none⟩, ⟨some 6, (Op.assign (Operand.tmp 14)), 24, none⟩, ⟨some 7, (Op.assign (Operand.tmp 15)), 3, none⟩, ⟨some 8, (Op.assign (Operand.tmp 16)), 25, none⟩] (Q .normal ds) σ w := mk_eq rfl
@[push_cast] theorem vr31_4 (Q : Post) (ds : List Deferred) (σ : Env) (w : World) : vc Try.prog (.region r31_4) Q ds σ w = vcOps Try.prog [⟨some 17, (Op.move (Operand.tmp 8)), 25, none⟩, ⟨some 18, (Op.binOp BinOp.neq 25 (Operand.tmp 17) (Operand.const (Value.int IntKind.i64 0)) 25), 4, none⟩] (Q .normal ds) σ w := mk_eq rfl
@[push_cast] theorem vr31_5 (Q : Post) (ds : List Deferred) (σ : Env) (w : World) : vc Try.prog (.region r31_5) Q ds σ w = vcOps Try.prog [⟨some 19, (Op.move (Operand.tmp 4)), 51, none⟩, ⟨some 20, (Op.move (Operand.tmp 5)), 3, none⟩, ⟨some 2, (Op.assign (Operand.tmp 19)), 51, none⟩, ⟨some 3, (Op.assign (Operand.tmp 20)), 3, none⟩] (Q .normal ds) σ w := mk_eq rfl
@[push_cast] theorem vr31_6 (Q : Post) (ds : List Deferred) (σ : Env) (w : World) : vc Try.prog (.region r31_6) Q ds σ w = vcOps Try.prog [⟨some 21, (Op.move (Operand.tmp 4)), 51, none⟩, ⟨some 22, (Op.move (Operand.tmp 6)), 24, none⟩, ⟨some 23, (Op.buildSlice 51 1 #[(0, (Operand.tmp 22))]), 51, none⟩, ⟨some 24, (Op.call { callee := (Callee.builtin Builtin.append), args := #[(Operand.tmp 21), (Operand.tmp 23)], argTypes := #[51, 51] }), 51, none⟩, ⟨some 25, (Op.move (Operand.tmp 5)), 3, none⟩, ⟨some 26, (Op.move (Operand.tmp 7)), 3, none⟩, ⟨some 27, (Op.binOp BinOp.add 3 (Operand.tmp 25) (Operand.tmp 26) 3), 3, none⟩, ⟨some 4, (Op.assign (Operand.tmp 24)), 51, none⟩, ⟨some 5, (Op.assign (Operand.tmp 27)), 3, none⟩] (Q .normal ds) σ w := mk_eq rfl
/-! 32 columbary/columbaryref02.Blocks (params #[24], results #[(ResultVar.tmp 2), (ResultVar.tmp 3)], 32 slots) -/
def W32_0 : List Nat := [4, 5, 6, 7, 8, 9, 10, 11, 12, 13, 14, 15, 16, 17, 18, 19, 20, 21, 22, 23, 24, 25, 26, 27, 28, 29]
@[push_cast] theorem W32_0_def : W32_0 = [4, 5, 6, 7, 8, 9, 10, 11, 12, 13, 14, 15, 16, 17, 18, 19, 20, 21, 22, 23, 24, 25, 26, 27, 28, 29] := mk_eq rfl
def r32_0 : List VOp :=
  [⟨some 2, (Op.assign (Operand.const (Value.slice none 0 0))), 51, none⟩,
   ⟨some 3, (Op.assign (Operand.const (Value.int IntKind.i64 0))), 3, none⟩]
def r32_1 : List VOp :=
  [⟨some 4, (Op.assign (Operand.const (Value.slice none 0 0))), 51, none⟩]
def r32_2 : List VOp :=
  [⟨some 5, (Op.assign (Operand.const (Value.int IntKind.i64 0))), 3, none⟩]
def r32_3 : List VOp :=
  [⟨some 9, (Op.move (Operand.tmp 5)), 3, none⟩,
   ⟨some 10, (Op.move (Operand.tmp 0)), 24, none⟩,
   ⟨some 11, (Op.call { callee := (Callee.builtin Builtin.len), args := #[(Operand.tmp 10)], argTypes := #[24] }), 3, none⟩,
   ⟨some 12, (Op.binOp BinOp.leq 3 (Operand.tmp 9) (Operand.tmp 11) 3), 4, none⟩]
def r32_4 : List VOp :=
  [⟨some 14, (Op.move (Operand.tmp 0)), 24, none⟩,
   ⟨some 15, (Op.move (Operand.tmp 5)), 3, none⟩,
   ⟨some 16, (Op.slice 24 (Operand.tmp 14) (some (Operand.tmp 15)) none none), 24, none⟩,
   ⟨some 17, (Op.call { callee := (Callee.value (Operand.func 30)), args := #[(Operand.tmp 16)], argTypes := #[24] }), 45, none⟩,
   ⟨some 13, (Op.move (Operand.tmp 17)), 45, none⟩,
   ⟨some 18, (Op.extract (Operand.tmp 13) 0), 24, none⟩,
   ⟨some 19, (Op.extract (Operand.tmp 13) 1), 3, none⟩,
   ⟨some 20, (Op.extract (Operand.tmp 13) 2), 25, none⟩,
   ⟨some 6, (Op.assign (Operand.tmp 18)), 24, none⟩,
   ⟨some 7, (Op.assign (Operand.tmp 19)), 3, none⟩,
   ⟨some 8, (Op.assign (Operand.tmp 20)), 25, none⟩]
def r32_5 : List VOp :=
  [⟨some 21, (Op.move (Operand.tmp 8)), 25, none⟩,
   ⟨some 22, (Op.binOp BinOp.neq 25 (Operand.tmp 21) (Operand.const (Value.int IntKind.i64 0)) 25), 4, none⟩]
def r32_6 : List VOp :=
  [⟨some 23, (Op.move (Operand.tmp 4)), 51, none⟩,
   ⟨some 24, (Op.move (Operand.tmp 6)), 24, none⟩,
   ⟨some 25, (Op.buildSlice 51 1 #[(0, (Operand.tmp 24))]), 51, none⟩,
   ⟨some 26, (Op.call { callee := (Callee.builtin Builtin.append), args := #[(Operand.tmp 23), (Operand.tmp 25)], argTypes := #[51, 51] }), 51, none⟩,
   ⟨some 4, (Op.assign (Operand.tmp 26)), 51, none⟩]
def r32_7 : List VOp :=
  [⟨some 27, (Op.move (Operand.tmp 5)), 3, none⟩,
   ⟨some 28, (Op.move (Operand.tmp 7)), 3, none⟩,
   ⟨some 29, (Op.binOp BinOp.add 3 (Operand.tmp 27) (Operand.tmp 28) 3), 3, none⟩,
   ⟨some 5, (Op.assign (Operand.tmp 29)), 3, none⟩]
def r32_8 : List VOp :=
  [⟨some 30, (Op.move (Operand.tmp 4)), 51, none⟩,
   ⟨some 31, (Op.move (Operand.tmp 5)), 3, none⟩,
   ⟨some 2, (Op.assign (Operand.tmp 30)), 51, none⟩,
   ⟨some 3, (Op.assign (Operand.tmp 31)), 3, none⟩]
def B32 : VC :=
  (.seq (.region r32_0) (.seq (.region r32_1) (.seq (.region r32_2) (.seq (.block 0 (.loop (.seq (.seq (.region r32_3) (.cond (Operand.tmp 12) .skip (.exit 0))) (.block 1 (.seq (.region r32_4) (.seq (.seq (.region r32_5) (.cond (Operand.tmp 22) (.exit 0) .skip)) (.seq (.region r32_6) (.region r32_7)))))))) (.seq (.region r32_8) .ret)))))
theorem code32 : ∃ c, Try.f32.body = some c ∧ abs Try.f32.ntmps c = B32 := ⟨_, rfl, by kernel_rfl⟩
theorem hb32 : HasBody Try.prog 32 := hasBody_of Try.func32 (by kernel_rfl)
theorem res32 : Try.f32.results = #[(ResultVar.tmp 2), (ResultVar.tmp 3)] := rfl
theorem enter32 {w : World} {R : Value → World → Prop} (x0 : Value) (h : vc Try.prog B32 (retK Try.prog #[(ResultVar.tmp 2), (ResultVar.tmp 3)] R) [] (initEnv [x0] 0) w) : FnC Try.prog 32 #[x0] w R := by
  obtain ⟨c, h1, h2⟩ := code32
  exact hb32.fn (ret_of_vc mixed Try.func32 h1 (Nat.le_of_ble_eq_true rfl) B32 h2 h)
@[push_cast] theorem vr32_0 (Q : Post) (ds : List Deferred) (σ : Env) (w : World) : vc Try.prog (.region r32_0) Q ds σ w = vcOps Try.prog [⟨some 2, (Op.assign (Operand.const (Value.slice none 0 0))), 51, none⟩, ⟨some 3, (Op.assign (Operand.const (Value.int IntKind.i64 0))), 3, none⟩] (Q .normal ds) σ w := mk_eq rfl
@[push_cast] theorem vr32_1 (Q : Post) (ds : List Deferred) (σ : Env) (w : World) : vc Try.prog (.region r32_1) Q ds σ w = vcOps Try.prog [⟨some 4, (Op.assign (Operand.const (Value.slice none 0 0))), 51, none⟩] (Q .normal ds) σ w := mk_eq rfl
@[push_cast] theorem vr32_2 (Q : Post) (ds : List Deferred) (σ : Env) (w : World) : vc Try.prog (.region r32_2) Q ds σ w = vcOps Try.prog [⟨some 5, (Op.assign (Operand.const (Value.int IntKind.i64 0))), 3, none⟩] (Q .normal ds) σ w := mk_eq rfl
@[push_cast] theorem vr32_3 (Q : Post) (ds : List Deferred) (σ : Env) (w : World) : vc Try.prog (.region r32_3) Q ds σ w = vcOps Try.prog [⟨some 9, (Op.move (Operand.tmp 5)), 3, none⟩, ⟨some 10, (Op.move (Operand.tmp 0)), 24, none⟩, ⟨some 11, (Op.call { callee := (Callee.builtin Builtin.len), args := #[(Operand.tmp 10)], argTypes := #[24] }), 3, none⟩, ⟨some 12, (Op.binOp BinOp.leq 3 (Operand.tmp 9) (Operand.tmp 11) 3), 4, none⟩] (Q .normal ds) σ w := mk_eq rfl
@[push_cast] theorem vr32_4 (Q : Post) (ds : List Deferred) (σ : Env) (w : World) : vc Try.prog (.region r32_4) Q ds σ w = vcOps Try.prog [⟨some 14, (Op.move (Operand.tmp 0)), 24, none⟩, ⟨some 15, (Op.move (Operand.tmp 5)), 3, none⟩, ⟨some 16, (Op.slice 24 (Operand.tmp 14) (some (Operand.tmp 15)) none none), 24, none⟩, ⟨some 17, (Op.call { callee := (Callee.value (Operand.func 30)), args := #[(Operand.tmp 16)], argTypes := #[24] }), 45, none⟩, ⟨some 13, (Op.move (Operand.tmp 17)), 45, none⟩, ⟨some 18, (Op.extract (Operand.tmp 13) 0), 24, none⟩, ⟨some 19, (Op.extract (Operand.tmp 13) 1), 3, none⟩, ⟨some 20, (Op.extract (Operand.tmp 13) 2), 25, none⟩, ⟨some 6, (Op.assign (Operand.tmp 18)), 24, none⟩, ⟨some 7, (Op.assign (Operand.tmp 19)), 3, none⟩, ⟨some 8, (Op.assign (Operand.tmp 20)), 25, none⟩] (Q .normal ds) σ w := mk_eq rfl
@[push_cast] theorem vr32_5 (Q : Post) (ds : List Deferred) (σ : Env) (w : World) : vc Try.prog (.region r32_5) Q ds σ w = vcOps Try.prog [⟨some 21, (Op.move (Operand.tmp 8)), 25, none⟩, ⟨some 22, (Op.binOp BinOp.neq 25 (Operand.tmp 21) (Operand.const (Value.int IntKind.i64 0)) 25), 4, none⟩] (Q .normal ds) σ w := mk_eq rfl
@[push_cast] theorem vr32_6 (Q : Post) (ds : List Deferred) (σ : Env) (w : World) : vc Try.prog (.region r32_6) Q ds σ w = vcOps Try.prog [⟨some 23, (Op.move (Operand.tmp 4)), 51, none⟩, ⟨some 24, (Op.move (Operand.tmp 6)), 24, none⟩, ⟨some 25, (Op.buildSlice 51 1 #[(0, (Operand.tmp 24))]), 51, none⟩, ⟨some 26, (Op.call { callee := (Callee.builtin Builtin.append), args := #[(Operand.tmp 23), (Operand.tmp 25)], argTypes := #[51, 51] }), 51, none⟩, ⟨some 4, (Op.assign (Operand.tmp 26)), 51, none⟩] (Q .normal ds) σ w := mk_eq rfl
@[push_cast] theorem vr32_7 (Q : Post) (ds : List Deferred) (σ : Env) (w : World) : vc Try.prog (.region r32_7) Q ds σ w = vcOps Try.prog [⟨some 27, (Op.move (Operand.tmp 5)), 3, none⟩, ⟨some 28, (Op.move (Operand.tmp 7)), 3, none⟩, ⟨some 29, (Op.binOp BinOp.add 3 (Operand.tmp 27) (Operand.tmp 28) 3), 3, none⟩, ⟨some 5, (Op.assign (Operand.tmp 29)), 3, none⟩] (Q .normal ds) σ w := mk_eq rfl
@[push_cast] theorem vr32_8 (Q : Post) (ds : List Deferred) (σ : Env) (w : World) : vc Try.prog (.region r32_8) Q ds σ w = vcOps Try.prog [⟨some 30, (Op.move (Operand.tmp 4)), 51, none⟩, ⟨some 31, (Op.move (Operand.tmp 5)), 3, none⟩, ⟨some 2, (Op.assign (Operand.tmp 30)), 51, none⟩, ⟨some 3, (Op.assign (Operand.tmp 31)), 3, none⟩] (Q .normal ds) σ w := mk_eq rfl
/-! 33 columbary/columbaryref02.Sum (params #[24], results #[(ResultVar.tmp 2)], 38 slots) -/
def W33_0 : List Nat := [3, 4, 5, 6, 7, 8, 9, 10, 11, 12, 13, 14, 15, 16, 17, 18, 19, 20, 21, 22, 23, 24, 25, 26, 27, 28, 29, 30, 31, 32, 33, 34, 35]
@[push_cast] theorem W33_0_def : W33_0 = [3, 4, 5, 6, 7, 8, 9, 10, 11, 12, 13, 14, 15, 16, 17, 18, 19, 20, 21, 22, 23, 24, 25, 26, 27, 28, 29, 30, 31, 32, 33, 34, 35] := mk_eq rfl
def W33_1 : List Nat := [3, 5, 6, 7, 14, 15, 16, 17, 18, 19, 20, 21, 22, 23, 24, 25, 26, 27, 28, 29, 30, 31, 32, 33, 34, 35]
@[push_cast] theorem W33_1_def : W33_1 = [3, 5, 6, 7, 14, 15, 16, 17, 18, 19, 20, 21, 22, 23, 24, 25, 26, 27, 28, 29, 30, 31, 32, 33, 34, 35] := mk_eq rfl
def r33_0 : List VOp :=
  [⟨some 2, (Op.assign (Operand.const (Value.int IntKind.u32 0))), 43, none⟩]
def r33_1 : List VOp :=
  [⟨some 3, (Op.assign (Operand.const (Value.int IntKind.u32 4294967295))), 43, none⟩]
def r33_2 : List VOp :=
  [⟨some 4, (Op.assign (Operand.const (Value.int IntKind.i64 0))), 3, none⟩]
def r33_3 : List VOp :=
  [⟨some 8, (Op.move (Operand.tmp 4)), 3, none⟩,
   ⟨some 9, (Op.move (Operand.tmp 0)), 24, none⟩,
   ⟨some 10, (Op.call { callee := (Callee.builtin Builtin.len), args := #[(Operand.tmp 9)], argTypes := #[24] }), 3, none⟩,
   ⟨some 11, (Op.binOp BinOp.lss 3 (Operand.tmp 8) (Operand.tmp 10) 3), 4, none⟩]
def r33_5 : List VOp :=
  [⟨some 5, (Op.assign (Operand.const (Value.int IntKind.i64 0))), 3, none⟩]
def r33_6 : List VOp :=
  [⟨some 14, (Op.move (Operand.tmp 5)), 3, none⟩,
   ⟨some 15, (Op.binOp BinOp.lss 3 (Operand.tmp 14) (Operand.const (Value.int IntKind.i64 8)) 3), 4, none⟩]
def r33_8 : List VOp :=
  [⟨some 18, (Op.move (Operand.tmp 0)), 24, none⟩,
   ⟨some 19, (Op.move (Operand.tmp 4)), 3, none⟩,
   ⟨some 20, (Op.indexAddr 24 (Operand.tmp 18) (Operand.tmp 19)), 0, none⟩,
   ⟨some 21, (Op.load 5 (Operand.tmp 20)), 5, none⟩,
   ⟨some 22, (Op.move (Operand.tmp 5)), 3, none⟩,
   ⟨some 23, (Op.convert 3 33 (Operand.tmp 22)), 33, none⟩,
   ⟨some 24, (Op.binOp BinOp.shr 5 (Operand.tmp 21) (Operand.tmp 23) 33), 5, none⟩,
   ⟨some 25, (Op.convert 5 43 (Operand.tmp 24)), 43, none⟩,
   ⟨some 26, (Op.binOp BinOp.rem 43 (Operand.tmp 25) (Operand.const (Value.int IntKind.u32 2)) 43), 43, none⟩,
   ⟨some 6, (Op.assign (Operand.tmp 26)), 43, none⟩]
def r33_9 : List VOp :=
  [⟨some 27, (Op.move (Operand.tmp 3)), 43, none⟩,
   ⟨some 28, (Op.binOp BinOp.rem 43 (Operand.tmp 27) (Operand.const (Value.int IntKind.u32 2)) 43), 43, none⟩,
   ⟨some 7, (Op.assign (Operand.tmp 28)), 43, none⟩]
def r33_10 : List VOp :=
  [⟨some 29, (Op.move (Operand.tmp 3)), 43, none⟩,
   ⟨some 30, (Op.binOp BinOp.quo 43 (Operand.tmp 29) (Operand.const (Value.int IntKind.u32 2)) 43), 43, none⟩,
   ⟨some 3, (Op.assign (Operand.tmp 30)), 43, none⟩]
def r33_11 : List VOp :=
  [⟨some 31, (Op.move (Operand.tmp 6)), 43, none⟩,
   ⟨some 32, (Op.move (Operand.tmp 7)), 43, none⟩,
   ⟨some 33, (Op.binOp BinOp.neq 43 (Operand.tmp 31) (Operand.tmp 32) 43), 4, none⟩]
def r33_12 : List VOp :=
  [⟨some 34, (Op.move (Operand.tmp 3)), 43, none⟩,
   ⟨some 35, (Op.binOp BinOp.xor 43 (Operand.tmp 34) (Operand.const (Value.int IntKind.u32 2197175160)) 43), 43, none⟩,
   ⟨some 3, (Op.assign (Operand.tmp 35)), 43, none⟩]
def r33_7 : List VOp :=
  [⟨some 16, (Op.move (Operand.tmp 5)), 3, none⟩,
   ⟨some 17, (Op.binOp BinOp.add 3 (Operand.tmp 16) (Operand.const (Value.int IntKind.i64 1)) 3), 3, none⟩,
   ⟨some 5, (Op.assign (Operand.tmp 17)), 3, none⟩]
def r33_4 : List VOp :=
  [⟨some 12, (Op.move (Operand.tmp 4)), 3, none⟩,
   ⟨some 13, (Op.binOp BinOp.add 3 (Operand.tmp 12) (Operand.const (Value.int IntKind.i64 1)) 3), 3, none⟩,
   ⟨some 4, (Op.assign (Operand.tmp 13)), 3, none⟩]
def r33_13 : List VOp :=
  [⟨some 36, (Op.move (Operand.tmp 3)), 43, none⟩,
   ⟨some 37, (Op.binOp BinOp.sub 43 (Operand.const (Value.int IntKind.u32 4294967295)) (Operand.tmp 36) 43), 43, none⟩,
   ⟨some 2, (Op.assign (Operand.tmp 37)), 43, none⟩]
def B33 : VC :=
  (.seq (.region r33_0) (.seq (.region r33_1) (.seq (.seq (.region r33_2) (.block 0 (.loop (.seq (.seq (.region r33_3) (.cond (Operand.tmp 11) .skip (.exit 0))) (.seq (.block 1 (.seq (.region r33_5) (.block 2 (.loop (.seq (.seq (.region r33_6) (.cond (Operand.tmp 15) .skip (.exit 2))) (.seq (.block 3 (.seq (.region r33_8) (.seq (.region r33_9) (.seq (.region r33_10) (.seq (.region r33_11) (.cond (Operand.tmp 33) (.region r33_12) .skip)))))) (.region r33_7))))))) (.region r33_4)))))) (.seq (.region r33_13) .ret))))
theorem code33 : ∃ c, Try.f33.body = some c ∧ abs Try.f33.ntmps c = B33 := ⟨_, rfl, by kernel_rfl⟩
theorem hb33 : HasBody Try.prog 33 := hasBody_of Try.func33 (by kernel_rfl)
theorem res33 : Try.f33.results = #[(ResultVar.tmp 2)] := rfl
theorem enter33 {w : World} {R : Value → World → Prop} (x0 : Value) (h : vc Try.prog B33 (retK Try.prog #[(ResultVar.tmp 2)] R) [] (initEnv [x0] 0) w) : FnC Try.prog 33 #[x0] w R := by
  obtain ⟨c, h1, h2⟩ := code33
  exact hb33.fn (ret_of_vc mixed Try.func33 h1 (Nat.le_of_ble_eq_true rfl) B33 h2 h)
@[push_cast] theorem vr33_0 (Q : Post) (ds : List Deferred) (σ : Env) (w : World) : vc Try.prog (.region r33_0) Q ds σ w = vcOps Try.prog [⟨some 2, (Op.assign (Operand.const (Value.int IntKind.u32 0))), 43, none⟩] (Q .normal ds) σ w := mk_eq rfl
@[push_cast] theorem vr33_1 (Q : Post) (ds : List Deferred) (σ : Env) (w : World) : vc Try.prog (.region r33_1) Q ds σ w = vcOps Try.prog [⟨some 3, (Op.assign (Operand.const (Value.int IntKind.u32 4294967295))), 43, none⟩] (Q .normal ds) σ w := mk_eq rfl
@[push_cast] theorem vr33_2 (Q : Post) (ds : List Deferred) (σ : Env) (w : World) : vc Try.prog (.region r33_2) Q ds σ w = vcOps Try.prog [⟨some 4, (Op.assign (Operand.const (Value.int IntKind.i64 0))), 3, none⟩] (Q .normal ds) σ w := mk_eq rfl
@[push_cast] theorem vr33_3 (Q : Post) (ds : List Deferred) (σ : Env) (w : World) : vc Try.prog (.region r33_3) Q ds σ w = vcOps Try.prog [⟨some 8, (Op.move (Operand.tmp 4)), 3, none⟩, ⟨some 9, (Op.move (Operand.tmp 0)), 24, none⟩, ⟨some 10, (Op.call { callee := (Callee.builtin Builtin.len), args := #[(Operand.tmp 9)], argTypes := #[24] }), 3, none⟩, ⟨some 11, (Op.binOp BinOp.lss 3 (Operand.tmp 8) (Operand.tmp 10) 3), 4, none⟩] (Q .normal ds) σ w := mk_eq rfl
@[push_cast] theorem vr33_5 (Q : Post) (ds : List Deferred) (σ : Env) (w : World) : vc Try.prog (.region r33_5) Q ds σ w = vcOps Try.prog [⟨some 5, (Op.assign (Operand.const (Value.int IntKind.i64 0))), 3, none⟩] (Q .normal ds) σ w := mk_eq rfl
@[push_cast] theorem vr33_6 (Q : Post) (ds : List Deferred) (σ : Env) (w : World) : vc Try.prog (.region r33_6) Q ds σ w = vcOps Try.prog [⟨some 14, (Op.move (Operand.tmp 5)), 3, none⟩, ⟨some 15, (Op.binOp BinOp.lss 3 (Operand.tmp 14) (Operand.const (Value.int IntKind.i64 8)) 3), 4, none⟩] (Q .normal ds) σ w := mk_eq rfl
@[push_cast] theorem vr33_8 (Q : Post) (ds : List Deferred) (σ : Env) (w : World) : vc Try.prog (.region r33_8) Q ds σ w = vcOps Try.prog [⟨some 18, (Op.move (Operand.tmp 0)), 24, none⟩, ⟨some 19, (Op.move (Operand.tmp 4)), 3, none⟩, ⟨some 20, (Op.indexAddr 24 (Operand.tmp 18) (Operand.tmp 19)), 0, none⟩, ⟨some 21, (Op.load 5 (Operand.tmp 20)), 5, none⟩, ⟨some 22, (Op.move (Operand.tmp 5)), 3, none⟩, ⟨some 23, (Op.convert 3 33 (Operand.tmp 22)), 33, none⟩, ⟨some 24, (Op.binOp BinOp.shr 5 (Operand.tmp 21) (Operand.tmp 23) 33), 5, none⟩, ⟨some 25, (Op.convert 5 43 (Operand.tmp 24)), 43, none⟩, ⟨some 26, (Op.binOp BinOp.rem 43 (Operand.tmp 25) (Operand.const (Value.int IntKind.u32 2)) 43), 43, none⟩, ⟨some 6, (Op.assign (Operand.tmp 26)), 43, none⟩] (Q .normal ds) σ w := mk_eq rfl
@[push_cast] theorem vr33_9 (Q : Post) (ds : List Deferred) (σ : Env) (w : World) : vc Try.prog (.region r33_9) Q ds σ w = vcOps Try.prog [⟨some 27, (Op.move (Operand.tmp 3)), 43, none⟩, ⟨some 28, (Op.binOp BinOp.rem 43 (Operand.tmp 27) (Operand.const (Value.int IntKind.u32 2)) 43), 43, none⟩, ⟨some 7, (Op.assign (Operand.tmp 28)), 43, none⟩] (Q .normal ds) σ w := mk_eq rfl
@[push_cast] theorem vr33_10 (Q : Post) (ds : List Deferred) (σ : Env) (w : World) : vc Try.prog (.region r33_10) Q ds σ w = vcOps Try.prog [⟨some 29, (Op.move (Operand.tmp 3)), 43, none⟩, ⟨some 30, (Op.binOp BinOp.quo 43 (Operand.tmp 29) (Operand.const (Value.int IntKind.u32 2)) 43), 43, none⟩, ⟨some 3, (Op.assign (Operand.tmp 30)), 43, none⟩] (Q .normal ds) σ w := mk_eq rfl
@[push_cast] theorem vr33_11 (Q : Post) (ds : List Deferred) (σ : Env) (w : World) : vc Try.prog (.region r33_11) Q ds σ w = vcOps Try.prog [⟨some 31, (Op.move (Operand.tmp 6)), 43, none⟩, ⟨some 32, (Op.move (Operand.tmp 7)), 43, none⟩, ⟨some 33, (Op.binOp BinOp.neq 43 (Operand.tmp 31) (Operand.tmp 32) 43), 4, none⟩] (Q .normal ds) σ w := mk_eq rfl
@[push_cast] theorem vr33_12 (Q : Post) (ds : List Deferred) (σ : Env) (w : World) : vc Try.prog (.region r33_12) Q ds σ w = vcOps Try.prog [⟨some 34, (Op.move (Operand.tmp 3)), 43, none⟩, ⟨some 35, (Op.binOp BinOp.xor 43 (Operand.tmp 34) (Operand.const (Value.int IntKind.u32 2197175160)) 43), 43, none⟩, ⟨some 3, (Op.assign (Operand.tmp 35)), 43, none⟩] (Q .normal ds) σ w := mk_eq rfl
@[push_cast] theorem vr33_7 (Q : Post) (ds : List Deferred) (σ : Env) (w : World) : vc Try.prog (.region r33_7) Q ds σ w = vcOps Try.prog [⟨some 16, (Op.move (Operand.tmp 5)), 3, none⟩, ⟨some 17, (Op.binOp BinOp.add 3 (Operand.tmp 16) (Operand.const (Value.int IntKind.i64 1)) 3), 3, none⟩, ⟨some 5, (Op.assign (Operand.tmp 17)), 3, none⟩] (Q .normal ds) σ w := mk_eq rfl
@[push_cast] theorem vr33_4 (Q : Post) (ds : List Deferred) (σ : Env) (w : World) : vc Try.prog (.region r33_4) Q ds σ w = vcOps Try.prog [⟨some 12, (Op.move (Operand.tmp 4)), 3, none⟩, ⟨some 13, (Op.binOp BinOp.add 3 (Operand.tmp 12) (Operand.const (Value.int IntKind.i64 1)) 3), 3, none⟩, ⟨some 4, (Op.assign (Operand.tmp 13)), 3, none⟩] (Q .normal ds) σ w := mk_eq rfl
@[push_cast] theorem vr33_13 (Q : Post) (ds : List Deferred) (σ : Env) (w : World) : vc Try.prog (.region r33_13) Q ds σ w = vcOps Try.prog [⟨some 36, (Op.move (Operand.tmp 3)), 43, none⟩, ⟨some 37, (Op.binOp BinOp.sub 43 (Operand.const (Value.int IntKind.u32 4294967295)) (Operand.tmp 36) 43), 43, none⟩, ⟨some 2, (Op.assign (Operand.tmp 37)), 43, none⟩] (Q .normal ds) σ w := mk_eq rfl
/-! 34 columbary/columbaryref02.Same (params #[51, 51], results #[(ResultVar.tmp 4)], 28 slots) -/
def W34_0 : List Nat := [4, 5, 11, 12, 13, 14, 15, 16, 17, 18, 19, 20, 21, 22, 23, 24, 25, 26, 27]
@[push_cast] theorem W34_0_def : W34_0 = [4, 5, 11, 12, 13, 14, 15, 16, 17, 18, 19, 20, 21, 22, 23, 24, 25, 26, 27] := mk_eq rfl
def r34_0 : List VOp :=
  [⟨some 4, (Op.assign (Operand.const (Value.bool false))), 4, none⟩]
def r34_1 : List VOp :=
  [⟨some 6, (Op.move (Operand.tmp 0)), 51, none⟩,
   ⟨some 7, (Op.call { callee := (Callee.builtin Builtin.len), args := #[(Operand.tmp 6)], argTypes := #[51] }), 3, none⟩,
   ⟨some 8, (Op.move (Operand.tmp 1)), 51, none⟩,
   ⟨some 9, (Op.call { callee := (Callee.builtin Builtin.len), args := #[(Operand.tmp 8)], argTypes := #[51] }), 3, none⟩,
   ⟨some 10, (Op.binOp BinOp.neq 3 (Operand.tmp 7) (Operand.tmp 9) 3), 4, none⟩]
def r34_2 : List VOp :=
  [⟨some 4, (Op.assign (Operand.const (Value.bool false))), 4, none⟩]
def r34_3 : List VOp :=
  [⟨some 5, (Op.assign (Operand.const (Value.int IntKind.i64 0))), 3, none⟩]
def r34_4 : List VOp :=
  [⟨some 11, (Op.move (Operand.tmp 5)), 3, none⟩,
   ⟨some 12, (Op.move (Operand.tmp 0)), 51, none⟩,
   ⟨some 13, (Op.call { callee := (Callee.builtin Builtin.len), args := #[(Operand.tmp 12)], argTypes := #[51] }), 3, none⟩,
   ⟨some 14, (Op.binOp BinOp.lss 3 (Operand.tmp 11) (Operand.tmp 13) 3), 4, none⟩]
def r34_6 : List VOp :=
  [⟨some 17, (Op.move (Operand.tmp 0)), 51, none⟩,
   ⟨some 18, (Op.move (Operand.tmp 5)), 3, none⟩,
   ⟨some 19, (Op.indexAddr 51 (Operand.tmp 17) (Operand.tmp 18)), 0, none⟩,
   ⟨some 20, (Op.load 24 (Operand.tmp 19)), 24, none⟩,
   ⟨some 21, (Op.convert 24 9 (Operand.tmp 20)), 9, none⟩,
   ⟨some 22, (Op.move (Operand.tmp 1)), 51, none⟩,
   ⟨some 23, (Op.move (Operand.tmp 5)), 3, none⟩,
   ⟨some 24, (Op.indexAddr 51 (Operand.tmp 22) (Operand.tmp 23)), 0, none⟩,
   ⟨some 25, (Op.load 24 (Operand.tmp 24)), 24, none⟩,
   ⟨some 26, (Op.convert 24 9 (Operand.tmp 25)), 9, none⟩,
   ⟨some 27, (Op.binOp BinOp.neq 9 (Operand.tmp 21) (Operand.tmp 26) 9), 4, none⟩]
def r34_7 : List VOp :=
  [⟨some 4, (Op.assign (Operand.const (Value.bool false))), 4, none⟩]
def r34_5 : List VOp :=
  [⟨some 15, (Op.move (Operand.tmp 5)), 3, none⟩,
   ⟨some 16, (Op.binOp BinOp.add 3 (Operand.tmp 15) (Operand.const (Value.int IntKind.i64 1)) 3), 3, none⟩,
   ⟨some 5, (Op.assign (Operand.tmp 16)), 3, none⟩]
def r34_8 : List VOp :=
  [⟨some 4, (Op.assign (Operand.const (Value.bool true))), 4, none⟩]
def B34 : VC :=
  (.seq (.region r34_0) (.seq (.seq (.region r34_1) (.cond (Operand.tmp 10) (.seq (.region r34_2) .ret) .skip)) (.seq (.seq (.region r34_3) (.block 0 (.loop (.seq (.seq (.region r34_4) (.cond (Operand.tmp 14) .skip (.exit 0))) (.seq (.block 1 (.seq (.draw r34_6 2) (.cond (Operand.tmp 27) (.seq (.region r34_7) .ret) .skip))) (.region r34_5)))))) (.seq (.region r34_8) .ret))))
theorem code34 : ∃ c, Try.f34.body = some c ∧ abs Try.f34.ntmps c = B34 := ⟨_, rfl, by kernel_rfl⟩
theorem hb34 : HasBody Try.prog 34 := hasBody_of Try.func34 (by kernel_rfl)
theorem res34 : Try.f34.results = #[(ResultVar.tmp 4)] := rfl
theorem enter34 {w : World} {R : Value → World → Prop} (x0 x1 : Value) (h : vc Try.prog B34 (retK Try.prog #[(ResultVar.tmp 4)] R) [] (initEnv [x0, x1] 0) w) : FnC Try.prog 34 #[x0, x1] w R := by
  obtain ⟨c, h1, h2⟩ := code34
  exact hb34.fn (ret_of_vc mixed Try.func34 h1 (Nat.le_of_ble_eq_true rfl) B34 h2 h)
@[push_cast] theorem vr34_0 (Q : Post) (ds : List Deferred) (σ : Env) (w : World) : vc Try.prog (.region r34_0) Q ds σ w = vcOps Try.prog [⟨some 4, (Op.assign (Operand.const (Value.bool false))), 4, none⟩] (Q .normal ds) σ w := mk_eq rfl
@[push_cast] theorem vr34_1 (Q : Post) (ds : List Deferred) (σ : Env) (w : World) : vc Try.prog (.region r34_1) Q ds σ w = vcOps Try.prog [⟨some 6, (Op.move (Operand.tmp 0)), 51, none⟩, ⟨some 7, (Op.call { callee := (Callee.builtin Builtin.len), args := #[(Operand.tmp 6)], argTypes := #[51] }), 3, none⟩, ⟨some 8, (Op.move (Operand.tmp 1)), 51, none⟩, ⟨some 9, (Op.call { callee := (Callee.builtin Builtin.len), args := #[(Operand.tmp 8)], argTypes := #[51] }), 3, none⟩, ⟨some 10, (Op.binOp BinOp.neq 3 (Operand.tmp 7) (Operand.tmp 9) 3), 4, none⟩] (Q .normal ds) σ w := mk_eq rfl
@[push_cast] theorem vr34_2 (Q : Post) (ds : List Deferred) (σ : Env) (w : World) : vc Try.prog (.region r34_2) Q ds σ w = vcOps Try.prog [⟨some 4, (Op.assign (Operand.const (Value.bool false))), 4, none⟩] (Q .normal ds) σ w := mk_eq rfl
@[push_cast] theorem vr34_3 (Q : Post) (ds : List Deferred) (σ : Env) (w : World) : vc Try.prog (.region r34_3) Q ds σ w = vcOps Try.prog [⟨some 5, (Op.assign (Operand.const (Value.int IntKind.i64 0))), 3, none⟩] (Q .normal ds) σ w := mk_eq rfl
@[push_cast] theorem vr34_4 (Q : Post) (ds : List Deferred) (σ : Env) (w : World) : vc Try.prog (.region r34_4) Q ds σ w = vcOps Try.prog [⟨some 11, (Op.move (Operand.tmp 5)), 3, none⟩, ⟨some 12, (Op.move (Operand.tmp 0)), 51, none⟩, ⟨some 13, (Op.call { callee := (Callee.builtin Builtin.len), args := #[(Operand.tmp 12)], argTypes := #[51] }), 3, none⟩, ⟨some 14, (Op.binOp BinOp.lss 3 (Operand.tmp 11) (Operand.tmp 13) 3), 4, none⟩] (Q .normal ds) σ w := mk_eq rfl
@[push_cast] theorem vr34_6 (Q : Post) (ds : List Deferred) (σ : Env) (w : World) : vc Try.prog (.draw r34_6 2) Q ds σ w = drawn Try.prog [(⟨some 17, (Op.move (Operand.tmp 0)), 51, none⟩, [0]), (⟨some 18, (Op.move (Operand.tmp 5)), 3, none⟩, [5]), (⟨some 19, (Op.indexAddr 51 (Operand.tmp 17) (Operand.tmp 18)), 0, none⟩, [17, 18]), (⟨some 20, (Op.load 24 (Operand.tmp 19)), 24, none⟩, [19]), (⟨some 21, (Op.convert 24 9 (Operand.tmp 20)), 9, none⟩, [20]), (⟨some 22, (Op.move (Operand.tmp 1)), 51, none⟩, [1]), (⟨some 23, (Op.move (Operand.tmp 5)), 3, none⟩, [5]), (⟨some 24, (Op.indexAddr 51 (Operand.tmp 22) (Operand.tmp 23)), 0, none⟩, [22, 23]), (⟨some 25, (Op.load 24 (Operand.tmp 24)), 24, none⟩, [24]), (⟨some 26, (Op.convert 24 9 (Operand.tmp 25)), 9, none⟩, [25]), (⟨some 27, (Op.binOp BinOp.neq 9 (Operand.tmp 21) (Operand.tmp 26) 9), 4, none⟩, [21, 26])] 2 (Q .normal ds) σ w := mk_eq rfl
@[push_cast] theorem vr34_7 (Q : Post) (ds : List Deferred) (σ : Env) (w : World) : vc Try.prog (.region r34_7) Q ds σ w = vcOps Try.prog [⟨some 4, (Op.assign (Operand.const (Value.bool false))), 4, none⟩] (Q .normal ds) σ w := mk_eq rfl
@[push_cast] theorem vr34_5 (Q : Post) (ds : List Deferred) (σ : Env) (w : World) : vc Try.prog (.region r34_5) Q ds σ w = vcOps Try.prog [⟨some 15, (Op.move (Operand.tmp 5)), 3, none⟩, ⟨some 16, (Op.binOp BinOp.add 3 (Operand.tmp 15) (Operand.const (Value.int IntKind.i64 1)) 3), 3, none⟩, ⟨some 5, (Op.assign (Operand.tmp 16)), 3, none⟩] (Q .normal ds) σ w := mk_eq rfl
@[push_cast] theorem vr34_8 (Q : Post) (ds : List Deferred) (σ : Env) (w : World) : vc Try.prog (.region r34_8) Q ds σ w = vcOps Try.prog [⟨some 4, (Op.assign (Operand.const (Value.bool true))), 4, none⟩] (Q .normal ds) σ w := mk_eq rfl
/-! 39 bytes.Equal (params #[24, 24], results #[(ResultVar.tmp 4)], 10 slots) -/
def r39_0 : List VOp :=
  [⟨some 4, (Op.assign (Operand.const (Value.bool false))), 4, none⟩]
def r39_1 : List VOp :=
  [⟨some 5, (Op.move (Operand.tmp 0)), 24, none⟩,
   ⟨some 6, (Op.convert 24 9 (Operand.tmp 5)), 9, none⟩,
   ⟨some 7, (Op.move (Operand.tmp 1)), 24, none⟩,
   ⟨some 8, (Op.convert 24 9 (Operand.tmp 7)), 9, none⟩,
   ⟨some 9, (Op.binOp BinOp.eql 9 (Operand.tmp 6) (Operand.tmp 8) 9), 4, none⟩,
   ⟨some 4, (Op.assign (Operand.tmp 9)), 4, none⟩]
def B39 : VC :=
  (.seq (.region r39_0) (.seq (.region r39_1) .ret))
theorem code39 : ∃ c, Try.f39.body = some c ∧ abs Try.f39.ntmps c = B39 := ⟨_, rfl, by kernel_rfl⟩
theorem hb39 : HasBody Try.prog 39 := hasBody_of Try.func39 (by kernel_rfl)
theorem res39 : Try.f39.results = #[(ResultVar.tmp 4)] := rfl
theorem enter39 {w : World} {R : Value → World → Prop} (x0 x1 : Value) (h : vc Try.prog B39 (retK Try.prog #[(ResultVar.tmp 4)] R) [] (initEnv [x0, x1] 0) w) : FnC Try.prog 39 #[x0, x1] w R := by
  obtain ⟨c, h1, h2⟩ := code39
  exact hb39.fn (ret_of_vc mixed Try.func39 h1 (Nat.le_of_ble_eq_true rfl) B39 h2 h)
@[push_cast] theorem vr39_0 (Q : Post) (ds : List Deferred) (σ : Env) (w : World) : vc Try.prog (.region r39_0) Q ds σ w = vcOps Try.prog [⟨some 4, (Op.assign (Operand.const (Value.bool false))), 4, none⟩] (Q .normal ds) σ w := mk_eq rfl
@[push_cast] theorem vr39_1 (Q : Post) (ds : List Deferred) (σ : Env) (w : World) : vc Try.prog (.region r39_1) Q ds σ w = vcOps Try.prog [⟨some 5, (Op.move (Operand.tmp 0)), 24, none⟩, ⟨some 6, (Op.convert 24 9 (Operand.tmp 5)), 9, none⟩, ⟨some 7, (Op.move (Operand.tmp 1)), 24, none⟩, ⟨some 8, (Op.convert 24 9 (Operand.tmp 7)), 9, none⟩, ⟨some 9, (Op.binOp BinOp.eql 9 (Operand.tmp 6) (Operand.tmp 8) 9), 4, none⟩, ⟨some 4, (Op.assign (Operand.tmp 9)), 4, none⟩] (Q .normal ds) σ w := mk_eq rfl
/-! 42 columbary/check.four (params #[43], results #[(ResultVar.tmp 2)], 15 slots) -/
def r42_0 : List VOp :=
  [⟨some 2, (Op.assign (Operand.const (Value.slice none 0 0))), 24, none⟩]
def r42_1 : List VOp :=
  [⟨some 3, (Op.move (Operand.tmp 0)), 43, none⟩,
   ⟨some 4, (Op.binOp BinOp.shr 43 (Operand.tmp 3) (Operand.const (Value.int IntKind.u64 24)) 33), 43, none⟩,
   ⟨some 5, (Op.convert 43 5 (Operand.tmp 4)), 5, none⟩,
   ⟨some 6, (Op.move (Operand.tmp 0)), 43, none⟩,
   ⟨some 7, (Op.binOp BinOp.shr 43 (Operand.tmp 6) (Operand.const (Value.int IntKind.u64 16)) 33), 43, none⟩,
   ⟨some 8, (Op.convert 43 5 (Operand.tmp 7)), 5, none⟩,
   ⟨some 9, (Op.move (Operand.tmp 0)), 43, none⟩,
   ⟨some 10, (Op.binOp BinOp.shr 43 (Operand.tmp 9) (Operand.const (Value.int IntKind.u64 8)) 33), 43, none⟩,
   ⟨some 11, (Op.convert 43 5 (Operand.tmp 10)), 5, none⟩,
   ⟨some 12, (Op.move (Operand.tmp 0)), 43, none⟩,
   ⟨some 13, (Op.convert 43 5 (Operand.tmp 12)), 5, none⟩,
   ⟨some 14, (Op.buildSlice 24 4 #[(0, (Operand.tmp 5)), (1, (Operand.tmp 8)), (2, (Operand.tmp 11)), (3, (Operand.tmp 13))]), 24, none⟩,
   ⟨some 2, (Op.assign (Operand.tmp 14)), 24, none⟩]
def B42 : VC :=
  (.seq (.region r42_0) (.seq (.region r42_1) .ret))
theorem code42 : ∃ c, Try.f42.body = some c ∧ abs Try.f42.ntmps c = B42 := ⟨_, rfl, by kernel_rfl⟩
theorem hb42 : HasBody Try.prog 42 := hasBody_of Try.func42 (by kernel_rfl)
theorem res42 : Try.f42.results = #[(ResultVar.tmp 2)] := rfl
theorem enter42 {w : World} {R : Value → World → Prop} (x0 : Value) (h : vc Try.prog B42 (retK Try.prog #[(ResultVar.tmp 2)] R) [] (initEnv [x0] 0) w) : FnC Try.prog 42 #[x0] w R := by
  obtain ⟨c, h1, h2⟩ := code42
  exact hb42.fn (ret_of_vc mixed Try.func42 h1 (Nat.le_of_ble_eq_true rfl) B42 h2 h)
@[push_cast] theorem vr42_0 (Q : Post) (ds : List Deferred) (σ : Env) (w : World) : vc Try.prog (.region r42_0) Q ds σ w = vcOps Try.prog [⟨some 2, (Op.assign (Operand.const (Value.slice none 0 0))), 24, none⟩] (Q .normal ds) σ w := mk_eq rfl
@[push_cast] theorem vr42_1 (Q : Post) (ds : List Deferred) (σ : Env) (w : World) : vc Try.prog (.region r42_1) Q ds σ w = vcOps Try.prog [⟨some 3, (Op.move (Operand.tmp 0)), 43, none⟩, ⟨some 4, (Op.binOp BinOp.shr 43 (Operand.tmp 3) (Operand.const (Value.int IntKind.u64 24)) 33), 43, none⟩, ⟨some 5, (Op.convert 43 5 (Operand.tmp 4)), 5, none⟩, ⟨some 6, (Op.move (Operand.tmp 0)), 43, none⟩, ⟨some 7, (Op.binOp BinOp.shr 43 (Operand.tmp 6) (Operand.const (Value.int IntKind.u64 16)) 33), 43, none⟩, ⟨some 8, (Op.convert 43 5 (Operand.tmp 7)), 5, none⟩, ⟨some 9, (Op.move (Operand.tmp 0)), 43, none⟩, ⟨some 10, (Op.binOp BinOp.shr 43 (Operand.tmp 9) (Operand.const (Value.int IntKind.u64 8)) 33), 43, none⟩, ⟨some 11, (Op.convert 43 5 (Operand.tmp 10)), 5, none⟩, ⟨some 12, (Op.move (Operand.tmp 0)), 43, none⟩, ⟨some 13, (Op.convert 43 5 (Operand.tmp 12)), 5, none⟩, ⟨some 14, (Op.buildSlice 24 4 #[(0, (Operand.tmp 5)), (1, (Operand.tmp 8)), (2, (Operand.tmp 11)), (3, (Operand.tmp 13))]), 24, none⟩, ⟨some 2, (Op.assign (Operand.tmp 14)), 24, none⟩] (Q .normal ds) σ w := mk_eq rfl
/-! 47 columbary/check.table (params #[], results #[(ResultVar.cell 0 67)], 23 slots) -/
def W47_0 : List Nat := [2, 3, 4, 5, 6, 7, 8, 9, 10, 11, 12, 13, 14, 15, 16, 17, 18, 19, 20, 21]
@[push_cast] theorem W47_0_def : W47_0 = [2, 3, 4, 5, 6, 7, 8, 9, 10, 11, 12, 13, 14, 15, 16, 17, 18, 19, 20, 21] := mk_eq rfl
def W47_1 : List Nat := [3, 9, 10, 11, 12, 13, 14, 15, 16, 17]
@[push_cast] theorem W47_1_def : W47_1 = [3, 9, 10, 11, 12, 13, 14, 15, 16, 17] := mk_eq rfl
def r47_0 : List VOp :=
  [⟨some 0, (Op.alloc 67), 0, none⟩]
def r47_1 : List VOp :=
  [⟨some 1, (Op.alloc 67), 0, none⟩]
def r47_2 : List VOp :=
  [⟨some 4, (Op.move (Operand.const (Value.int IntKind.i64 0))), 3, none⟩]
def r47_3 : List VOp :=
  [⟨some 5, (Op.binOp BinOp.lss 3 (Operand.tmp 4) (Operand.const (Value.int IntKind.i64 16)) 3), 0, none⟩]
def r47_4 : List VOp :=
  [⟨some 6, (Op.move (Operand.tmp 4)), 3, none⟩,
   ⟨some 2, (Op.assign (Operand.tmp 6)), 3, none⟩]
def r47_5 : List VOp :=
  [⟨some 7, (Op.move (Operand.tmp 2)), 3, none⟩,
   ⟨some 8, (Op.convert 3 43 (Operand.tmp 7)), 43, none⟩,
   ⟨some 3, (Op.assign (Operand.tmp 8)), 43, none⟩]
def r47_6 : List VOp :=
  [⟨some 9, (Op.move (Operand.const (Value.int IntKind.i64 0))), 3, none⟩]
def r47_7 : List VOp :=
  [⟨some 10, (Op.binOp BinOp.lss 3 (Operand.tmp 9) (Operand.const (Value.int IntKind.i64 4)) 3), 4, none⟩]
def r47_8 : List VOp :=
  [⟨some 11, (Op.move (Operand.tmp 3)), 43, none⟩,
   ⟨some 12, (Op.binOp BinOp.shr 43 (Operand.tmp 11) (Operand.const (Value.int IntKind.u64 1)) 33), 43, none⟩,
   ⟨some 13, (Op.move (Operand.tmp 3)), 43, none⟩,
   ⟨some 14, (Op.binOp BinOp.and 43 (Operand.tmp 13) (Operand.const (Value.int IntKind.u32 1)) 43), 43, none⟩,
   ⟨some 15, (Op.binOp BinOp.mul 43 (Operand.const (Value.int IntKind.u32 2197175160)) (Operand.tmp 14) 43), 43, none⟩,
   ⟨some 16, (Op.binOp BinOp.xor 43 (Operand.tmp 12) (Operand.tmp 15) 43), 43, none⟩,
   ⟨some 3, (Op.assign (Operand.tmp 16)), 43, none⟩]
def r47_9 : List VOp :=
  [⟨some 17, (Op.binOp BinOp.add 3 (Operand.tmp 9) (Operand.const (Value.int IntKind.i64 1)) 3), 3, none⟩,
   ⟨some 9, (Op.move (Operand.tmp 17)), 3, none⟩]
def r47_10 : List VOp :=
  [⟨some 18, (Op.move (Operand.tmp 2)), 3, none⟩,
   ⟨some 19, (Op.move (Operand.tmp 3)), 43, none⟩,
   ⟨some 20, (Op.indexAddr 67 (Operand.tmp 1) (Operand.tmp 18)), 0, none⟩,
   ⟨none, (Op.store 43 (Operand.tmp 20) (Operand.tmp 19)), 0, none⟩]
def r47_11 : List VOp :=
  [⟨some 21, (Op.binOp BinOp.add 3 (Operand.tmp 4) (Operand.const (Value.int IntKind.i64 1)) 3), 3, none⟩,
   ⟨some 4, (Op.move (Operand.tmp 21)), 3, none⟩]
def r47_12 : List VOp :=
  [⟨some 22, (Op.load 67 (Operand.tmp 1)), 67, none⟩,
   ⟨none, (Op.store 67 (Operand.tmp 0) (Operand.tmp 22)), 0, none⟩]
def B47 : VC :=
  (.seq (.region r47_0) (.seq (.region r47_1) (.seq (.seq (.region r47_2) (.block 0 (.loop (.seq (.region r47_3) (.seq (.cond (Operand.tmp 5) .skip (.exit 0)) (.seq (.block 1 (.seq (.region r47_4) (.seq (.region r47_5) (.seq (.seq (.region r47_6) (.block 2 (.loop (.seq (.region r47_7) (.seq (.cond (Operand.tmp 10) .skip (.exit 2)) (.seq (.block 3 (.region r47_8)) (.region r47_9))))))) (.region r47_10))))) (.region r47_11))))))) (.seq (.region r47_12) .ret))))
theorem code47 : ∃ c, Try.f47.body = some c ∧ abs Try.f47.ntmps c = B47 := ⟨_, rfl, by kernel_rfl⟩
theorem hb47 : HasBody Try.prog 47 := hasBody_of Try.func47 (by kernel_rfl)
theorem res47 : Try.f47.results = #[(ResultVar.cell 0 67)] := rfl
theorem enter47 {w : World} {R : Value → World → Prop} (h : vc Try.prog B47 (retK Try.prog #[(ResultVar.cell 0 67)] R) [] (initEnv [] 0) w) : FnC Try.prog 47 #[] w R := by
  obtain ⟨c, h1, h2⟩ := code47
  exact hb47.fn (ret_of_vc mixed Try.func47 h1 (Nat.le_of_ble_eq_true rfl) B47 h2 h)
@[push_cast] theorem vr47_0 (Q : Post) (ds : List Deferred) (σ : Env) (w : World) : vc Try.prog (.region r47_0) Q ds σ w = vcOps Try.prog [⟨some 0, (Op.alloc 67), 0, none⟩] (Q .normal ds) σ w := mk_eq rfl
@[push_cast] theorem vr47_1 (Q : Post) (ds : List Deferred) (σ : Env) (w : World) : vc Try.prog (.region r47_1) Q ds σ w = vcOps Try.prog [⟨some 1, (Op.alloc 67), 0, none⟩] (Q .normal ds) σ w := mk_eq rfl
@[push_cast] theorem vr47_2 (Q : Post) (ds : List Deferred) (σ : Env) (w : World) : vc Try.prog (.region r47_2) Q ds σ w = vcOps Try.prog [⟨some 4, (Op.move (Operand.const (Value.int IntKind.i64 0))), 3, none⟩] (Q .normal ds) σ w := mk_eq rfl
@[push_cast] theorem vr47_3 (Q : Post) (ds : List Deferred) (σ : Env) (w : World) : vc Try.prog (.region r47_3) Q ds σ w = vcOps Try.prog [⟨some 5, (Op.binOp BinOp.lss 3 (Operand.tmp 4) (Operand.const (Value.int IntKind.i64 16)) 3), 0, none⟩] (Q .normal ds) σ w := mk_eq rfl
@[push_cast] theorem vr47_4 (Q : Post) (ds : List Deferred) (σ : Env) (w : World) : vc Try.prog (.region r47_4) Q ds σ w = vcOps Try.prog [⟨some 6, (Op.move (Operand.tmp 4)), 3, none⟩, ⟨some 2, (Op.assign (Operand.tmp 6)), 3, none⟩] (Q .normal ds) σ w := mk_eq rfl
@[push_cast] theorem vr47_5 (Q : Post) (ds : List Deferred) (σ : Env) (w : World) : vc Try.prog (.region r47_5) Q ds σ w = vcOps Try.prog [⟨some 7, (Op.move (Operand.tmp 2)), 3, none⟩, ⟨some 8, (Op.convert 3 43 (Operand.tmp 7)), 43, none⟩, ⟨some 3, (Op.assign (Operand.tmp 8)), 43, none⟩] (Q .normal ds) σ w := mk_eq rfl
@[push_cast] theorem vr47_6 (Q : Post) (ds : List Deferred) (σ : Env) (w : World) : vc Try.prog (.region r47_6) Q ds σ w = vcOps Try.prog [⟨some 9, (Op.move (Operand.const (Value.int IntKind.i64 0))), 3, none⟩] (Q .normal ds) σ w := mk_eq rfl
@[push_cast] theorem vr47_7 (Q : Post) (ds : List Deferred) (σ : Env) (w : World) : vc Try.prog (.region r47_7) Q ds σ w = vcOps Try.prog [⟨some 10, (Op.binOp BinOp.lss 3 (Operand.tmp 9) (Operand.const (Value.int IntKind.i64 4)) 3), 4, none⟩] (Q .normal ds) σ w := mk_eq rfl
@[push_cast] theorem vr47_8 (Q : Post) (ds : List Deferred) (σ : Env) (w : World) : vc Try.prog (.region r47_8) Q ds σ w = vcOps Try.prog [⟨some 11, (Op.move (Operand.tmp 3)), 43, none⟩, ⟨some 12, (Op.binOp BinOp.shr 43 (Operand.tmp 11) (Operand.const (Value.int IntKind.u64 1)) 33), 43, none⟩, ⟨some 13, (Op.move (Operand.tmp 3)), 43, none⟩, ⟨some 14, (Op.binOp BinOp.and 43 (Operand.tmp 13) (Operand.const (Value.int IntKind.u32 1)) 43), 43, none⟩, ⟨some 15, (Op.binOp BinOp.mul 43 (Operand.const (Value.int IntKind.u32 2197175160)) (Operand.tmp 14) 43), 43, none⟩, ⟨some 16, (Op.binOp BinOp.xor 43 (Operand.tmp 12) (Operand.tmp 15) 43), 43, none⟩, ⟨some 3, (Op.assign (Operand.tmp 16)), 43, none⟩] (Q .normal ds) σ w := mk_eq rfl
@[push_cast] theorem vr47_9 (Q : Post) (ds : List Deferred) (σ : Env) (w : World) : vc Try.prog (.region r47_9) Q ds σ w = vcOps Try.prog [⟨some 17, (Op.binOp BinOp.add 3 (Operand.tmp 9) (Operand.const (Value.int IntKind.i64 1)) 3), 3, none⟩, ⟨some 9, (Op.move (Operand.tmp 17)), 3, none⟩] (Q .normal ds) σ w := mk_eq rfl
@[push_cast] theorem vr47_10 (Q : Post) (ds : List Deferred) (σ : Env) (w : World) : vc Try.prog (.region r47_10) Q ds σ w = vcOps Try.prog [⟨some 18, (Op.move (Operand.tmp 2)), 3, none⟩, ⟨some 19, (Op.move (Operand.tmp 3)), 43, none⟩, ⟨some 20, (Op.indexAddr 67 (Operand.tmp 1) (Operand.tmp 18)), 0, none⟩, ⟨none, (Op.store 43 (Operand.tmp 20) (Operand.tmp 19)), 0, none⟩] (Q .normal ds) σ w := mk_eq rfl
@[push_cast] theorem vr47_11 (Q : Post) (ds : List Deferred) (σ : Env) (w : World) : vc Try.prog (.region r47_11) Q ds σ w = vcOps Try.prog [⟨some 21, (Op.binOp BinOp.add 3 (Operand.tmp 4) (Operand.const (Value.int IntKind.i64 1)) 3), 3, none⟩, ⟨some 4, (Op.move (Operand.tmp 21)), 3, none⟩] (Q .normal ds) σ w := mk_eq rfl
@[push_cast] theorem vr47_12 (Q : Post) (ds : List Deferred) (σ : Env) (w : World) : vc Try.prog (.region r47_12) Q ds σ w = vcOps Try.prog [⟨some 22, (Op.load 67 (Operand.tmp 1)), 67, none⟩, ⟨none, (Op.store 67 (Operand.tmp 0) (Operand.tmp 22)), 0, none⟩] (Q .normal ds) σ w := mk_eq rfl
@[push_cast] theorem bsl24_0_CodesC {K : Value → World → Prop} {w : World}  : vBuildSlice Try.prog 24 0 #[] K w = K (.slice (some ⟨w.heap.size, 0, none⟩) 0 0) (w.alloc (.cells #[] 5)) :=
  vBuildSlice_ok Try.underlying24 ti5 (by kernel_rfl) (by decide)
@[push_cast] theorem bsl24_1_CodesC {K : Value → World → Prop} {w : World} (x0 : Int) : vBuildSlice Try.prog 24 1 #[(0, (.int .u8 x0))] K w = K (.slice (some ⟨w.heap.size, 0, none⟩) 1 1) (w.alloc (.cells #[(.int .u8 x0)] 5)) :=
  vBuildSlice_ok Try.underlying24 ti5 (by kernel_rfl) (by decide)
@[push_cast] theorem bsl24_2_CodesC {K : Value → World → Prop} {w : World} (x0 : Int) (x1 : Int) : vBuildSlice Try.prog 24 2 #[(0, (.int .u8 x0)), (1, (.int .u8 x1))] K w = K (.slice (some ⟨w.heap.size, 0, none⟩) 2 2) (w.alloc (.cells #[(.int .u8 x0), (.int .u8 x1)] 5)) :=
  vBuildSlice_ok Try.underlying24 ti5 (by kernel_rfl) (by decide)
@[push_cast] theorem bsl24_4_CodesC {K : Value → World → Prop} {w : World} (x0 : Int) (x1 : Int) (x2 : Int) (x3 : Int) : vBuildSlice Try.prog 24 4 #[(0, (.int .u8 x0)), (1, (.int .u8 x1)), (2, (.int .u8 x2)), (3, (.int .u8 x3))] K w = K (.slice (some ⟨w.heap.size, 0, none⟩) 4 4) (w.alloc (.cells #[(.int .u8 x0), (.int .u8 x1), (.int .u8 x2), (.int .u8 x3)] 5)) :=
  vBuildSlice_ok Try.underlying24 ti5 (by kernel_rfl) (by decide)
@[push_cast] theorem bsl24_9_CodesC {K : Value → World → Prop} {w : World} (x0 : Int) (x1 : Int) (x2 : Int) (x3 : Int) (x4 : Int) (x5 : Int) (x6 : Int) (x7 : Int) (x8 : Int) : vBuildSlice Try.prog 24 9 #[(0, (.int .u8 x0)), (1, (.int .u8 x1)), (2, (.int .u8 x2)), (3, (.int .u8 x3)), (4, (.int .u8 x4)), (5, (.int .u8 x5)), (6, (.int .u8 x6)), (7, (.int .u8 x7)), (8, (.int .u8 x8))] K w = K (.slice (some ⟨w.heap.size, 0, none⟩) 9 9) (w.alloc (.cells #[(.int .u8 x0), (.int .u8 x1), (.int .u8 x2), (.int .u8 x3), (.int .u8 x4), (.int .u8 x5), (.int .u8 x6), (.int .u8 x7), (.int .u8 x8)] 5)) :=
  vBuildSlice_ok Try.underlying24 ti5 (by kernel_rfl) (by decide)
@[push_cast] theorem bsl51_1_CodesC {K : Value → World → Prop} {w : World} (x0o : Option Addr) (x0n x0c : Nat) : vBuildSlice Try.prog 51 1 #[(0, (.slice x0o x0n x0c))] K w = K (.slice (some ⟨w.heap.size, 0, none⟩) 1 1) (w.alloc (.cells #[(.slice x0o x0n x0c)] 24)) :=
  vBuildSlice_ok Try.underlying51 ti24 (by kernel_rfl) (by decide)
@[push_cast] theorem bld72_0_CodesC {K : Value → World → Prop} {w : World} (x0o : Option Addr) (x0n x0c : Nat) : vBuild Try.prog 72 #[(0, (.slice x0o x0n x0c))] K w = K (.agg #[(.slice x0o x0n x0c), (.int .i64 0), (.bool false)]) w :=
  vBuild_ok (by kernel_rfl)
end Go.Proofs.Ytkchefbnamiikaa
