/- The functions' code in the generator's form. Written by a program (codes.py) out of Lean's own print of the loaded translation. -/
import Derived.Test.YtgomibebepmlhaaTypes
namespace Go.Proofs.Ytgomibebepmlhaa
open Go.Vc
/-! 29 columbary/columbarylaw01.alive (params #[], results #[(ResultVar.tmp 0)], 57 slots) -/
def r29_0 : List VOp :=
  [⟨some 0, (Op.assign (Operand.const (Value.bool false))), 4, none⟩]
def r29_1 : List VOp :=
  [⟨some 7, (Op.call { callee := (Callee.value (Operand.func 34)), args := #[(Operand.const (Value.slice none 0 0)), (Operand.const (Value.int IntKind.i64 (-150)))], argTypes := #[40, 3] }), 40, none⟩,
   ⟨some 8, (Op.call { callee := (Callee.value (Operand.func 35)), args := #[(Operand.tmp 7), (Operand.const (Value.string { data := #[104, 105] }))], argTypes := #[40, 9] }), 40, none⟩,
   ⟨some 1, (Op.assign (Operand.tmp 8)), 40, none⟩]
def r29_2 : List VOp :=
  [⟨some 9, (Op.move (Operand.tmp 1)), 40, none⟩,
   ⟨some 10, (Op.call { callee := (Callee.value (Operand.func 38)), args := #[(Operand.tmp 9)], argTypes := #[40] }), 48, none⟩,
   ⟨some 2, (Op.assign (Operand.tmp 10)), 48, none⟩]
def r29_3 : List VOp :=
  [⟨some 12, (Op.move (Operand.tmp 2)), 48, none⟩,
   ⟨some 13, (Op.call { callee := (Callee.value (Operand.func 39)), args := #[(Operand.tmp 12), (Operand.const (Value.int IntKind.i64 (-200))), (Operand.const (Value.int IntKind.i64 0))], argTypes := #[48, 3, 3] }), 30, none⟩,
   ⟨some 11, (Op.move (Operand.tmp 13)), 30, none⟩,
   ⟨some 14, (Op.extract (Operand.tmp 11) 0), 3, none⟩,
   ⟨some 15, (Op.extract (Operand.tmp 11) 1), 23, none⟩,
   ⟨some 3, (Op.assign (Operand.tmp 14)), 3, none⟩,
   ⟨some 4, (Op.assign (Operand.tmp 15)), 23, none⟩]
def r29_4 : List VOp :=
  [⟨some 17, (Op.move (Operand.tmp 2)), 48, none⟩,
   ⟨some 18, (Op.call { callee := (Callee.value (Operand.func 40)), args := #[(Operand.tmp 17), (Operand.const (Value.int IntKind.i64 2))], argTypes := #[48, 3] }), 50, none⟩,
   ⟨some 16, (Op.move (Operand.tmp 18)), 50, none⟩,
   ⟨some 19, (Op.extract (Operand.tmp 16) 0), 9, none⟩,
   ⟨some 20, (Op.extract (Operand.tmp 16) 1), 23, none⟩,
   ⟨some 5, (Op.assign (Operand.tmp 19)), 9, none⟩,
   ⟨some 6, (Op.assign (Operand.tmp 20)), 23, none⟩]
def r29_5 : List VOp :=
  [⟨some 21, (Op.move (Operand.tmp 1)), 40, none⟩,
   ⟨some 22, (Op.call { callee := (Callee.builtin Builtin.len), args := #[(Operand.tmp 21)], argTypes := #[40] }), 3, none⟩,
   ⟨some 23, (Op.binOp BinOp.eql 3 (Operand.tmp 22) (Operand.const (Value.int IntKind.i64 5)) 3), 4, none⟩,
   ⟨some 24, (Op.move (Operand.tmp 23)), 4, none⟩,
   ⟨some 25, (Op.move (Operand.tmp 1)), 40, some (24, true)⟩,
   ⟨some 26, (Op.indexAddr 40 (Operand.tmp 25) (Operand.const (Value.int IntKind.i64 0))), 0, some (24, true)⟩,
   ⟨some 27, (Op.load 5 (Operand.tmp 26)), 5, some (24, true)⟩,
   ⟨some 28, (Op.binOp BinOp.eql 5 (Operand.tmp 27) (Operand.const (Value.int IntKind.u8 130)) 5), 4, some (24, true)⟩,
   ⟨some 29, (Op.pick (Operand.tmp 24) (Operand.tmp 28) (Operand.const (Value.bool false))), 4, none⟩,
   ⟨some 30, (Op.move (Operand.tmp 29)), 4, none⟩,
   ⟨some 31, (Op.move (Operand.tmp 1)), 40, some (30, true)⟩,
   ⟨some 32, (Op.indexAddr 40 (Operand.tmp 31) (Operand.const (Value.int IntKind.i64 1))), 0, some (30, true)⟩,
   ⟨some 33, (Op.load 5 (Operand.tmp 32)), 5, some (30, true)⟩,
   ⟨some 34, (Op.binOp BinOp.eql 5 (Operand.tmp 33) (Operand.const (Value.int IntKind.u8 43)) 5), 4, some (30, true)⟩,
   ⟨some 35, (Op.pick (Operand.tmp 30) (Operand.tmp 34) (Operand.const (Value.bool false))), 4, none⟩,
   ⟨some 36, (Op.move (Operand.tmp 35)), 4, none⟩,
   ⟨some 37, (Op.move (Operand.tmp 4)), 23, some (36, true)⟩,
   ⟨some 38, (Op.binOp BinOp.eql 23 (Operand.tmp 37) (Operand.const (Value.int IntKind.i64 0)) 23), 4, some (36, true)⟩,
   ⟨some 39, (Op.pick (Operand.tmp 36) (Operand.tmp 38) (Operand.const (Value.bool false))), 4, none⟩,
   ⟨some 40, (Op.move (Operand.tmp 39)), 4, none⟩,
   ⟨some 41, (Op.move (Operand.tmp 6)), 23, some (40, true)⟩,
   ⟨some 42, (Op.binOp BinOp.eql 23 (Operand.tmp 41) (Operand.const (Value.int IntKind.i64 0)) 23), 4, some (40, true)⟩,
   ⟨some 43, (Op.pick (Operand.tmp 40) (Operand.tmp 42) (Operand.const (Value.bool false))), 4, none⟩,
   ⟨some 44, (Op.move (Operand.tmp 43)), 4, none⟩,
   ⟨some 45, (Op.move (Operand.tmp 3)), 3, some (44, true)⟩,
   ⟨some 46, (Op.binOp BinOp.eql 3 (Operand.tmp 45) (Operand.const (Value.int IntKind.i64 (-150))) 3), 4, some (44, true)⟩,
   ⟨some 47, (Op.pick (Operand.tmp 44) (Operand.tmp 46) (Operand.const (Value.bool false))), 4, none⟩,
   ⟨some 48, (Op.move (Operand.tmp 47)), 4, none⟩,
   ⟨some 49, (Op.move (Operand.tmp 5)), 9, some (48, true)⟩,
   ⟨some 50, (Op.binOp BinOp.eql 9 (Operand.tmp 49) (Operand.const (Value.string { data := #[104, 105] })) 9), 4, some (48, true)⟩,
   ⟨some 51, (Op.pick (Operand.tmp 48) (Operand.tmp 50) (Operand.const (Value.bool false))), 4, none⟩,
   ⟨some 52, (Op.move (Operand.tmp 51)), 4, none⟩,
   ⟨some 53, (Op.move (Operand.tmp 2)), 48, some (52, true)⟩,
   ⟨some 54, (Op.call { callee := (Callee.value (Operand.func 41)), args := #[(Operand.tmp 53)], argTypes := #[48] }), 3, some (52, true)⟩,
   ⟨some 55, (Op.binOp BinOp.eql 3 (Operand.tmp 54) (Operand.const (Value.int IntKind.i64 0)) 3), 4, some (52, true)⟩,
   ⟨some 56, (Op.pick (Operand.tmp 52) (Operand.tmp 55) (Operand.const (Value.bool false))), 4, none⟩,
   ⟨some 0, (Op.assign (Operand.tmp 56)), 4, none⟩]
def B29 : VC :=
  (.seq (.region r29_0) (.seq (.region r29_1) (.seq (.region r29_2) (.seq (.region r29_3) (.seq (.region r29_4) (.seq (.region r29_5) .ret))))))
theorem code29 : ∃ c, Try.f29.body = some c ∧ abs Try.f29.ntmps c = B29 := ⟨_, rfl, by kernel_rfl⟩
theorem hb29 : HasBody Try.prog 29 := hasBody_of Try.func29 (by kernel_rfl)
theorem res29 : Try.f29.results = #[(ResultVar.tmp 0)] := rfl
theorem enter29 {w : World} {R : Value → World → Prop} (h : vc Try.prog B29 (retK Try.prog #[(ResultVar.tmp 0)] R) [] (initEnv [] 0) w) : FnC Try.prog 29 #[] w R := by
  obtain ⟨c, h1, h2⟩ := code29
  exact hb29.fn (ret_of_vc mixed Try.func29 h1 (Nat.le_of_ble_eq_true rfl) B29 h2 h)
@[push_cast] theorem vr29_0 (Q : Post) (ds : List Deferred) (σ : Env) (w : World) : vc Try.prog (.region r29_0) Q ds σ w = vcOps Try.prog [⟨some 0, (Op.assign (Operand.const (Value.bool false))), 4, none⟩] (Q .normal ds) σ w := mk_eq rfl
@[push_cast] theorem vr29_1 (Q : Post) (ds : List Deferred) (σ : Env) (w : World) : vc Try.prog (.region r29_1) Q ds σ w = vcOps Try.prog [⟨some 7, (Op.call { callee := (Callee.value (Operand.func 34)), args := #[(Operand.const (Value.slice none 0 0)), (Operand.const (Value.int IntKind.i64 (-150)))], argTypes := #[40, 3] }), 40, none⟩, ⟨some 8, (Op.call { callee := (Callee.value (Operand.func 35)), args := #[(Operand.tmp 7), (Operand.const (Value.string { data := #[104, 105] }))], argTypes := #[40, 9] }), 40, none⟩, ⟨some 1, (Op.assign (Operand.tmp 8)), 40, none⟩] (Q .normal ds) σ w := mk_eq rfl
@[push_cast] theorem vr29_2 (Q : Post) (ds : List Deferred) (σ : Env) (w : World) : vc Try.prog (.region r29_2) Q ds σ w = vcOps Try.prog [⟨some 9, (Op.move (Operand.tmp 1)), 40, none⟩, ⟨some 10, (Op.call { callee := (Callee.value (Operand.func 38)), args := #[(Operand.tmp 9)], argTypes := #[40] }), 48, none⟩, ⟨some 2, (Op.assign (Operand.tmp 10)), 48, none⟩] (Q .normal ds) σ w := mk_eq rfl
@[push_cast] theorem vr29_3 (Q : Post) (ds : List Deferred) (σ : Env) (w : World) : vc Try.prog (.region r29_3) Q ds σ w = vcOps Try.prog [⟨some 12, (Op.move (Operand.tmp 2)), 48, none⟩, ⟨some 13, (Op.call { callee := (Callee.value (Operand.func 39)), args := #[(Operand.tmp 12), (Operand.const (Value.int IntKind.i64 (-200))), (Operand.const (Value.int IntKind.i64 0))], argTypes := #[48, 3, 3] }), 30, none⟩, ⟨some 11, (Op.move (Operand.tmp 13)), 30, none⟩, ⟨some 14, (Op.extract (Operand.tmp 11) 0), 3, none⟩, ⟨some 15, (Op.extract (Operand.tmp 11) 1), 23, none⟩, ⟨some 3, (Op.assign (Operand.tmp 14)), 3, none⟩, ⟨some 4, (Op.assign (Operand.tmp 15)), 23, none⟩] (Q .normal ds) σ w := mk_eq rfl
@[push_cast] theorem vr29_4 (Q : Post) (ds : List Deferred) (σ : Env) (w : World) : vc Try.prog (.region r29_4) Q ds σ w = vcOps Try.prog [⟨some 17, (Op.move (Operand.tmp 2)), 48, none⟩, ⟨some 18, (Op.call { callee := (Callee.value (Operand.func 40)), args := #[(Operand.tmp 17), (Operand.const (Value.int IntKind.i64 2))], argTypes := #[48, 3] }), 50, none⟩, ⟨some 16, (Op.move (Operand.tmp 18)), 50, none⟩, ⟨some 19, (Op.extract (Operand.tmp 16) 0), 9, none⟩, ⟨some 20, (Op.extract (Operand.tmp 16) 1), 23, none⟩, ⟨some 5, (Op.assign (Operand.tmp 19)), 9, none⟩, ⟨some 6, (Op.assign (Operand.tmp 20)), 23, none⟩] (Q .normal ds) σ w := mk_eq rfl
@[push_cast] theorem vr29_5 (Q : Post) (ds : List Deferred) (σ : Env) (w : World) : vc Try.prog (.region r29_5) Q ds σ w = vcOps Try.prog [⟨some 21, (Op.move (Operand.tmp 1)), 40, none⟩, ⟨some 22, (Op.call { callee := (Callee.builtin Builtin.len), args := #[(Operand.tmp 21)], argTypes := #[40] }), 3, none⟩, ⟨some 23, (Op.binOp BinOp.eql 3 (Operand.tmp 22) (Operand.const (Value.int IntKind.i64 5)) 3), 4, none⟩, ⟨some 24, (Op.move (Operand.tmp 23)), 4, none⟩, ⟨some 25, (Op.move (Operand.tmp 1)), 40, some (24, true)⟩, ⟨some 26, (Op.indexAddr 40 (Operand.tmp 25) (Operand.const (Value.int IntKind.i64 0))), 0, some (24, true)⟩, ⟨some 27, (Op.load 5 (Operand.tmp 26)), 5, some (24, true)⟩, ⟨some 28, (Op.binOp BinOp.eql 5 (Operand.tmp 27) (Operand.const (Value.int IntKind.u8 130)) 5), 4, some (24, true)⟩, ⟨some 29, (Op.pick (Operand.tmp 24) (Operand.tmp 28) (Operand.const (Value.bool false))), 4, none⟩, ⟨some 30, (Op.move (Operand.tmp 29)), 4, none⟩, ⟨some 31, (Op.move (Operand.tmp 1)), 40, some (30, true)⟩, ⟨some 32, (Op.indexAddr 40 (Operand.tmp 31) (Operand.const (Value.int IntKind.i64 1))), 0, some (30, true)⟩, ⟨some 33, (Op.load 5 (Operand.tmp 32)), 5, some (30, true)⟩, ⟨some 34, (Op.binOp BinOp.eql 5 (Operand.tmp 33) (Operand.const (Value.int IntKind.u8 43)) 5), 4, some (30, true)⟩, ⟨some 35, (Op.pick (Operand.tmp 30) (Operand.tmp 34) (Operand.const (Value.bool false))), 4, none⟩, ⟨some 36, (Op.move (Operand.tmp 35)), 4, none⟩, ⟨some 37, (Op.move (Operand.tmp 4)), 23, some (36, true)⟩, ⟨some 38, (Op.binOp BinOp.eql 23 (Operand.tmp 37) (Operand.const (Value.int IntKind.i64 0)) 23), 4, some (36, true)⟩, ⟨some 39, (Op.pick (Operand.tmp 36) (Operand.tmp 38) (Operand.const (Value.bool false))), 4, none⟩, ⟨some 40, (Op.move (Operand.tmp 39)), 4, none⟩, ⟨some 41, (Op.move (Operand.tmp 6)), 23, some (40, true)⟩, ⟨some 42, (Op.binOp BinOp.eql 23 (Operand.tmp 41) (Operand.const (Value.int IntKind.i64 0)) 23), 4, some (40, true)⟩, ⟨some 43, (Op.pick (Operand.tmp 40) (Operand.tmp 42) (Operand.const (Value.bool false))), 4, none⟩, ⟨some 44, (Op.move (Operand.tmp 43)), 4, none⟩, ⟨some 45, (Op.move (Operand.tmp 3)), 3, some (44, true)⟩, ⟨some 46, (Op.binOp BinOp.eql 3 (Operand.tmp 45) (Operand.const (Value.int IntKind.i64 (-150))) 3), 4, some (44, true)⟩, ⟨some 47, (Op.pick (Operand.tmp 44) (Operand.tmp 46) (Operand.const (Value.bool false))), 4, none⟩, ⟨some 48, (Op.move (Operand.tmp 47)), 4, none⟩, ⟨some 49, (Op.move (Operand.tmp 5)), 9, some (48, true)⟩, ⟨some 50, (Op.binOp BinOp.eql 9 (Operand.tmp 49) (Operand.const (Value.string { data := #[104, 105] })) 9), 4, some (48, true)⟩, ⟨some 51, (Op.pick (Operand.tmp 48) (Operand.tmp 50) (Operand.const (Value.bool false))), 4, none⟩, ⟨some 52, (Op.move (Operand.tmp 51)), 4, none⟩, ⟨some 53, (Op.move (Operand.tmp 2)), 48, some (52, true)⟩, ⟨some 54, (Op.call { callee := (Callee.value (Operand.func 41)), args := #[(Operand.tmp 53)], argTypes := #[48] }), 3, some (52, true)⟩, ⟨some 55, (Op.binOp BinOp.eql 3 (Operand.tmp 54) (Operand.const (Value.int IntKind.i64 0)) 3), 4, some (52, true)⟩, ⟨some 56, (Op.pick (Operand.tmp 52) (Operand.tmp 55) (Operand.const (Value.bool false))), 4, none⟩, ⟨some 0, (Op.assign (Operand.tmp 56)), 4, none⟩] (Q .normal ds) σ w := mk_eq rfl
/-! 30 columbary/zig.Fold (params #[3], results #[(ResultVar.tmp 2)], 10 slots) -/
def r30_0 : List VOp :=
  [⟨some 2, (Op.assign (Operand.const (Value.int IntKind.u64 0))), 35, none⟩]
def r30_1 : List VOp :=
  [⟨some 3, (Op.move (Operand.tmp 0)), 3, none⟩,
   ⟨some 4, (Op.convert 3 35 (Operand.tmp 3)), 35, none⟩,
   ⟨some 5, (Op.binOp BinOp.shl 35 (Operand.tmp 4) (Operand.const (Value.int IntKind.u64 1)) 65), 35, none⟩,
   ⟨some 6, (Op.move (Operand.tmp 0)), 3, none⟩,
   ⟨some 7, (Op.binOp BinOp.shr 3 (Operand.tmp 6) (Operand.const (Value.int IntKind.u64 63)) 65), 3, none⟩,
   ⟨some 8, (Op.convert 3 35 (Operand.tmp 7)), 35, none⟩,
   ⟨some 9, (Op.binOp BinOp.xor 35 (Operand.tmp 5) (Operand.tmp 8) 35), 35, none⟩,
   ⟨some 2, (Op.assign (Operand.tmp 9)), 35, none⟩]
def B30 : VC :=
  (.seq (.region r30_0) (.seq (.region r30_1) .ret))
theorem code30 : ∃ c, Try.f30.body = some c ∧ abs Try.f30.ntmps c = B30 := ⟨_, rfl, by kernel_rfl⟩
theorem hb30 : HasBody Try.prog 30 := hasBody_of Try.func30 (by kernel_rfl)
theorem res30 : Try.f30.results = #[(ResultVar.tmp 2)] := rfl
theorem enter30 {w : World} {R : Value → World → Prop} (x0 : Value) (h : vc Try.prog B30 (retK Try.prog #[(ResultVar.tmp 2)] R) [] (initEnv [x0] 0) w) : FnC Try.prog 30 #[x0] w R := by
  obtain ⟨c, h1, h2⟩ := code30
  exact hb30.fn (ret_of_vc mixed Try.func30 h1 (Nat.le_of_ble_eq_true rfl) B30 h2 h)
@[push_cast] theorem vr30_0 (Q : Post) (ds : List Deferred) (σ : Env) (w : World) : vc Try.prog (.region r30_0) Q ds σ w = vcOps Try.prog [⟨some 2, (Op.assign (Operand.const (Value.int IntKind.u64 0))), 35, none⟩] (Q .normal ds) σ w := mk_eq rfl
@[push_cast] theorem vr30_1 (Q : Post) (ds : List Deferred) (σ : Env) (w : World) : vc Try.prog (.region r30_1) Q ds σ w = vcOps Try.prog [⟨some 3, (Op.move (Operand.tmp 0)), 3, none⟩, ⟨some 4, (Op.convert 3 35 (Operand.tmp 3)), 35, none⟩, ⟨some 5, (Op.binOp BinOp.shl 35 (Operand.tmp 4) (Operand.const (Value.int IntKind.u64 1)) 65), 35, none⟩, ⟨some 6, (Op.move (Operand.tmp 0)), 3, none⟩, ⟨some 7, (Op.binOp BinOp.shr 3 (Operand.tmp 6) (Operand.const (Value.int IntKind.u64 63)) 65), 3, none⟩, ⟨some 8, (Op.convert 3 35 (Operand.tmp 7)), 35, none⟩, ⟨some 9, (Op.binOp BinOp.xor 35 (Operand.tmp 5) (Operand.tmp 8) 35), 35, none⟩, ⟨some 2, (Op.assign (Operand.tmp 9)), 35, none⟩] (Q .normal ds) σ w := mk_eq rfl
/-! 31 columbary/columbaryref01.Fold (params #[3], results #[(ResultVar.tmp 2)], 14 slots) -/
def r31_0 : List VOp :=
  [⟨some 2, (Op.assign (Operand.const (Value.int IntKind.u64 0))), 35, none⟩]
def r31_1 : List VOp :=
  [⟨some 3, (Op.move (Operand.tmp 0)), 3, none⟩,
   ⟨some 4, (Op.binOp BinOp.geq 3 (Operand.tmp 3) (Operand.const (Value.int IntKind.i64 0)) 3), 4, none⟩]
def r31_2 : List VOp :=
  [⟨some 5, (Op.move (Operand.tmp 0)), 3, none⟩,
   ⟨some 6, (Op.convert 3 35 (Operand.tmp 5)), 35, none⟩,
   ⟨some 7, (Op.binOp BinOp.mul 35 (Operand.const (Value.int IntKind.u64 2)) (Operand.tmp 6) 35), 35, none⟩,
   ⟨some 2, (Op.assign (Operand.tmp 7)), 35, none⟩]
def r31_3 : List VOp :=
  [⟨some 8, (Op.move (Operand.tmp 0)), 3, none⟩,
   ⟨some 9, (Op.binOp BinOp.add 3 (Operand.tmp 8) (Operand.const (Value.int IntKind.i64 1)) 3), 3, none⟩,
   ⟨some 10, (Op.unOp UnOp.neg 3 (Operand.tmp 9)), 3, none⟩,
   ⟨some 11, (Op.convert 3 35 (Operand.tmp 10)), 35, none⟩,
   ⟨some 12, (Op.binOp BinOp.mul 35 (Operand.const (Value.int IntKind.u64 2)) (Operand.tmp 11) 35), 35, none⟩,
   ⟨some 13, (Op.binOp BinOp.add 35 (Operand.tmp 12) (Operand.const (Value.int IntKind.u64 1)) 35), 35, none⟩,
   ⟨some 2, (Op.assign (Operand.tmp 13)), 35, none⟩]
def B31 : VC :=
  (.seq (.region r31_0) (.seq (.seq (.region r31_1) (.cond (Operand.tmp 4) (.seq (.region r31_2) .ret) .skip)) (.seq (.region r31_3) .ret)))
theorem code31 : ∃ c, Try.f31.body = some c ∧ abs Try.f31.ntmps c = B31 := ⟨_, rfl, by kernel_rfl⟩
theorem hb31 : HasBody Try.prog 31 := hasBody_of Try.func31 (by kernel_rfl)
theorem res31 : Try.f31.results = #[(ResultVar.tmp 2)] := rfl
theorem enter31 {w : World} {R : Value → World → Prop} (x0 : Value) (h : vc Try.prog B31 (retK Try.prog #[(ResultVar.tmp 2)] R) [] (initEnv [x0] 0) w) : FnC Try.prog 31 #[x0] w R := by
  obtain ⟨c, h1, h2⟩ := code31
  exact hb31.fn (ret_of_vc mixed Try.func31 h1 (Nat.le_of_ble_eq_true rfl) B31 h2 h)
@[push_cast] theorem vr31_0 (Q : Post) (ds : List Deferred) (σ : Env) (w : World) : vc Try.prog (.region r31_0) Q ds σ w = vcOps Try.prog [⟨some 2, (Op.assign (Operand.const (Value.int IntKind.u64 0))), 35, none⟩] (Q .normal ds) σ w := mk_eq rfl
@[push_cast] theorem vr31_1 (Q : Post) (ds : List Deferred) (σ : Env) (w : World) : vc Try.prog (.region r31_1) Q ds σ w = vcOps Try.prog [⟨some 3, (Op.move (Operand.tmp 0)), 3, none⟩, ⟨some 4, (Op.binOp BinOp.geq 3 (Operand.tmp 3) (Operand.const (Value.int IntKind.i64 0)) 3), 4, none⟩] (Q .normal ds) σ w := mk_eq rfl
@[push_cast] theorem vr31_2 (Q : Post) (ds : List Deferred) (σ : Env) (w : World) : vc Try.prog (.region r31_2) Q ds σ w = vcOps Try.prog [⟨some 5, (Op.move (Operand.tmp 0)), 3, none⟩, ⟨some 6, (Op.convert 3 35 (Operand.tmp 5)), 35, none⟩, ⟨some 7, (Op.binOp BinOp.mul 35 (Operand.const (Value.int IntKind.u64 2)) (Operand.tmp 6) 35), 35, none⟩, ⟨some 2, (Op.assign (Operand.tmp 7)), 35, none⟩] (Q .normal ds) σ w := mk_eq rfl
@[push_cast] theorem vr31_3 (Q : Post) (ds : List Deferred) (σ : Env) (w : World) : vc Try.prog (.region r31_3) Q ds σ w = vcOps Try.prog [⟨some 8, (Op.move (Operand.tmp 0)), 3, none⟩, ⟨some 9, (Op.binOp BinOp.add 3 (Operand.tmp 8) (Operand.const (Value.int IntKind.i64 1)) 3), 3, none⟩, ⟨some 10, (Op.unOp UnOp.neg 3 (Operand.tmp 9)), 3, none⟩, ⟨some 11, (Op.convert 3 35 (Operand.tmp 10)), 35, none⟩, ⟨some 12, (Op.binOp BinOp.mul 35 (Operand.const (Value.int IntKind.u64 2)) (Operand.tmp 11) 35), 35, none⟩, ⟨some 13, (Op.binOp BinOp.add 35 (Operand.tmp 12) (Operand.const (Value.int IntKind.u64 1)) 35), 35, none⟩, ⟨some 2, (Op.assign (Operand.tmp 13)), 35, none⟩] (Q .normal ds) σ w := mk_eq rfl
/-! 32 columbary/zig.Unfold (params #[35], results #[(ResultVar.tmp 2)], 11 slots) -/
def r32_0 : List VOp :=
  [⟨some 2, (Op.assign (Operand.const (Value.int IntKind.i64 0))), 3, none⟩]
def r32_1 : List VOp :=
  [⟨some 3, (Op.move (Operand.tmp 0)), 35, none⟩,
   ⟨some 4, (Op.binOp BinOp.shr 35 (Operand.tmp 3) (Operand.const (Value.int IntKind.u64 1)) 65), 35, none⟩,
   ⟨some 5, (Op.convert 35 3 (Operand.tmp 4)), 3, none⟩,
   ⟨some 6, (Op.move (Operand.tmp 0)), 35, none⟩,
   ⟨some 7, (Op.binOp BinOp.and 35 (Operand.tmp 6) (Operand.const (Value.int IntKind.u64 1)) 35), 35, none⟩,
   ⟨some 8, (Op.convert 35 3 (Operand.tmp 7)), 3, none⟩,
   ⟨some 9, (Op.unOp UnOp.neg 3 (Operand.tmp 8)), 3, none⟩,
   ⟨some 10, (Op.binOp BinOp.xor 3 (Operand.tmp 5) (Operand.tmp 9) 3), 3, none⟩,
   ⟨some 2, (Op.assign (Operand.tmp 10)), 3, none⟩]
def B32 : VC :=
  (.seq (.region r32_0) (.seq (.region r32_1) .ret))
theorem code32 : ∃ c, Try.f32.body = some c ∧ abs Try.f32.ntmps c = B32 := ⟨_, rfl, by kernel_rfl⟩
theorem hb32 : HasBody Try.prog 32 := hasBody_of Try.func32 (by kernel_rfl)
theorem res32 : Try.f32.results = #[(ResultVar.tmp 2)] := rfl
theorem enter32 {w : World} {R : Value → World → Prop} (x0 : Value) (h : vc Try.prog B32 (retK Try.prog #[(ResultVar.tmp 2)] R) [] (initEnv [x0] 0) w) : FnC Try.prog 32 #[x0] w R := by
  obtain ⟨c, h1, h2⟩ := code32
  exact hb32.fn (ret_of_vc mixed Try.func32 h1 (Nat.le_of_ble_eq_true rfl) B32 h2 h)
@[push_cast] theorem vr32_0 (Q : Post) (ds : List Deferred) (σ : Env) (w : World) : vc Try.prog (.region r32_0) Q ds σ w = vcOps Try.prog [⟨some 2, (Op.assign (Operand.const (Value.int IntKind.i64 0))), 3, none⟩] (Q .normal ds) σ w := mk_eq rfl
@[push_cast] theorem vr32_1 (Q : Post) (ds : List Deferred) (σ : Env) (w : World) : vc Try.prog (.region r32_1) Q ds σ w = vcOps Try.prog [⟨some 3, (Op.move (Operand.tmp 0)), 35, none⟩, ⟨some 4, (Op.binOp BinOp.shr 35 (Operand.tmp 3) (Operand.const (Value.int IntKind.u64 1)) 65), 35, none⟩, ⟨some 5, (Op.convert 35 3 (Operand.tmp 4)), 3, none⟩, ⟨some 6, (Op.move (Operand.tmp 0)), 35, none⟩, ⟨some 7, (Op.binOp BinOp.and 35 (Operand.tmp 6) (Operand.const (Value.int IntKind.u64 1)) 35), 35, none⟩, ⟨some 8, (Op.convert 35 3 (Operand.tmp 7)), 3, none⟩, ⟨some 9, (Op.unOp UnOp.neg 3 (Operand.tmp 8)), 3, none⟩, ⟨some 10, (Op.binOp BinOp.xor 3 (Operand.tmp 5) (Operand.tmp 9) 3), 3, none⟩, ⟨some 2, (Op.assign (Operand.tmp 10)), 3, none⟩] (Q .normal ds) σ w := mk_eq rfl
/-! 33 columbary/columbaryref01.Unfold (params #[35], results #[(ResultVar.tmp 2)], 14 slots) -/
def r33_0 : List VOp :=
  [⟨some 2, (Op.assign (Operand.const (Value.int IntKind.i64 0))), 3, none⟩]
def r33_1 : List VOp :=
  [⟨some 3, (Op.move (Operand.tmp 0)), 35, none⟩,
   ⟨some 4, (Op.binOp BinOp.rem 35 (Operand.tmp 3) (Operand.const (Value.int IntKind.u64 2)) 35), 35, none⟩,
   ⟨some 5, (Op.binOp BinOp.eql 35 (Operand.tmp 4) (Operand.const (Value.int IntKind.u64 0)) 35), 4, none⟩]
def r33_2 : List VOp :=
  [⟨some 6, (Op.move (Operand.tmp 0)), 35, none⟩,
   ⟨some 7, (Op.binOp BinOp.quo 35 (Operand.tmp 6) (Operand.const (Value.int IntKind.u64 2)) 35), 35, none⟩,
   ⟨some 8, (Op.convert 35 3 (Operand.tmp 7)), 3, none⟩,
   ⟨some 2, (Op.assign (Operand.tmp 8)), 3, none⟩]
def r33_3 : List VOp :=
  [⟨some 9, (Op.move (Operand.tmp 0)), 35, none⟩,
   ⟨some 10, (Op.binOp BinOp.quo 35 (Operand.tmp 9) (Operand.const (Value.int IntKind.u64 2)) 35), 35, none⟩,
   ⟨some 11, (Op.convert 35 3 (Operand.tmp 10)), 3, none⟩,
   ⟨some 12, (Op.unOp UnOp.neg 3 (Operand.tmp 11)), 3, none⟩,
   ⟨some 13, (Op.binOp BinOp.sub 3 (Operand.tmp 12) (Operand.const (Value.int IntKind.i64 1)) 3), 3, none⟩,
   ⟨some 2, (Op.assign (Operand.tmp 13)), 3, none⟩]
def B33 : VC :=
  (.seq (.region r33_0) (.seq (.seq (.region r33_1) (.cond (Operand.tmp 5) (.seq (.region r33_2) .ret) .skip)) (.seq (.region r33_3) .ret)))
theorem code33 : ∃ c, Try.f33.body = some c ∧ abs Try.f33.ntmps c = B33 := ⟨_, rfl, by kernel_rfl⟩
theorem hb33 : HasBody Try.prog 33 := hasBody_of Try.func33 (by kernel_rfl)
theorem res33 : Try.f33.results = #[(ResultVar.tmp 2)] := rfl
theorem enter33 {w : World} {R : Value → World → Prop} (x0 : Value) (h : vc Try.prog B33 (retK Try.prog #[(ResultVar.tmp 2)] R) [] (initEnv [x0] 0) w) : FnC Try.prog 33 #[x0] w R := by
  obtain ⟨c, h1, h2⟩ := code33
  exact hb33.fn (ret_of_vc mixed Try.func33 h1 (Nat.le_of_ble_eq_true rfl) B33 h2 h)
@[push_cast] theorem vr33_0 (Q : Post) (ds : List Deferred) (σ : Env) (w : World) : vc Try.prog (.region r33_0) Q ds σ w = vcOps Try.prog [⟨some 2, (Op.assign (Operand.const (Value.int IntKind.i64 0))), 3, none⟩] (Q .normal ds) σ w := mk_eq rfl
@[push_cast] theorem vr33_1 (Q : Post) (ds : List Deferred) (σ : Env) (w : World) : vc Try.prog (.region r33_1) Q ds σ w = vcOps Try.prog [⟨some 3, (Op.move (Operand.tmp 0)), 35, none⟩, ⟨some 4, (Op.binOp BinOp.rem 35 (Operand.tmp 3) (Operand.const (Value.int IntKind.u64 2)) 35), 35, none⟩, ⟨some 5, (Op.binOp BinOp.eql 35 (Operand.tmp 4) (Operand.const (Value.int IntKind.u64 0)) 35), 4, none⟩] (Q .normal ds) σ w := mk_eq rfl
@[push_cast] theorem vr33_2 (Q : Post) (ds : List Deferred) (σ : Env) (w : World) : vc Try.prog (.region r33_2) Q ds σ w = vcOps Try.prog [⟨some 6, (Op.move (Operand.tmp 0)), 35, none⟩, ⟨some 7, (Op.binOp BinOp.quo 35 (Operand.tmp 6) (Operand.const (Value.int IntKind.u64 2)) 35), 35, none⟩, ⟨some 8, (Op.convert 35 3 (Operand.tmp 7)), 3, none⟩, ⟨some 2, (Op.assign (Operand.tmp 8)), 3, none⟩] (Q .normal ds) σ w := mk_eq rfl
@[push_cast] theorem vr33_3 (Q : Post) (ds : List Deferred) (σ : Env) (w : World) : vc Try.prog (.region r33_3) Q ds σ w = vcOps Try.prog [⟨some 9, (Op.move (Operand.tmp 0)), 35, none⟩, ⟨some 10, (Op.binOp BinOp.quo 35 (Operand.tmp 9) (Operand.const (Value.int IntKind.u64 2)) 35), 35, none⟩, ⟨some 11, (Op.convert 35 3 (Operand.tmp 10)), 3, none⟩, ⟨some 12, (Op.unOp UnOp.neg 3 (Operand.tmp 11)), 3, none⟩, ⟨some 13, (Op.binOp BinOp.sub 3 (Operand.tmp 12) (Operand.const (Value.int IntKind.i64 1)) 3), 3, none⟩, ⟨some 2, (Op.assign (Operand.tmp 13)), 3, none⟩] (Q .normal ds) σ w := mk_eq rfl
/-! 34 columbary/zig.Int (params #[40, 3], results #[(ResultVar.tmp 4)], 47 slots) -/
def W34_0 : List Nat := [0, 6, 7, 8, 17, 18, 19, 20, 21, 22, 23, 24, 25, 26, 27, 28, 29, 30, 31, 32, 33, 34, 35, 36, 37, 38, 39, 40, 41, 42, 43, 44, 45]
@[push_cast] theorem W34_0_def : W34_0 = [0, 6, 7, 8, 17, 18, 19, 20, 21, 22, 23, 24, 25, 26, 27, 28, 29, 30, 31, 32, 33, 34, 35, 36, 37, 38, 39, 40, 41, 42, 43, 44, 45] := mk_eq rfl
def r34_0 : List VOp :=
  [⟨some 4, (Op.assign (Operand.const (Value.slice none 0 0))), 40, none⟩]
def r34_1 : List VOp :=
  [⟨some 9, (Op.move (Operand.tmp 0)), 40, none⟩,
   ⟨some 10, (Op.move (Operand.tmp 0)), 40, none⟩,
   ⟨some 11, (Op.call { callee := (Callee.builtin Builtin.len), args := #[(Operand.tmp 10)], argTypes := #[40] }), 3, none⟩,
   ⟨some 12, (Op.move (Operand.tmp 0)), 40, none⟩,
   ⟨some 13, (Op.call { callee := (Callee.builtin Builtin.len), args := #[(Operand.tmp 12)], argTypes := #[40] }), 3, none⟩,
   ⟨some 14, (Op.slice 40 (Operand.tmp 9) none (some (Operand.tmp 11)) (some (Operand.tmp 13))), 40, none⟩,
   ⟨some 0, (Op.assign (Operand.tmp 14)), 40, none⟩]
def r34_2 : List VOp :=
  [⟨some 15, (Op.move (Operand.tmp 1)), 3, none⟩,
   ⟨some 16, (Op.call { callee := (Callee.value (Operand.func 30)), args := #[(Operand.tmp 15)], argTypes := #[3] }), 35, none⟩,
   ⟨some 5, (Op.assign (Operand.tmp 16)), 35, none⟩]
def r34_3 : List VOp :=
  [⟨some 17, (Op.move (Operand.const (Value.int IntKind.i64 0))), 3, none⟩]
def r34_4 : List VOp :=
  [⟨some 18, (Op.binOp BinOp.lss 3 (Operand.tmp 17) (Operand.const (Value.int IntKind.i64 10)) 3), 4, none⟩]
def r34_5 : List VOp :=
  [⟨some 19, (Op.move (Operand.tmp 17)), 3, none⟩,
   ⟨some 6, (Op.assign (Operand.tmp 19)), 3, none⟩]
def r34_6 : List VOp :=
  [⟨some 20, (Op.move (Operand.tmp 6)), 3, none⟩,
   ⟨some 21, (Op.binOp BinOp.sub 3 (Operand.const (Value.int IntKind.i64 9)) (Operand.tmp 20) 3), 3, none⟩,
   ⟨some 22, (Op.binOp BinOp.mul 3 (Operand.const (Value.int IntKind.i64 7)) (Operand.tmp 21) 3), 3, none⟩,
   ⟨some 7, (Op.assign (Operand.tmp 22)), 3, none⟩]
def r34_7 : List VOp :=
  [⟨some 23, (Op.move (Operand.tmp 5)), 35, none⟩,
   ⟨some 24, (Op.move (Operand.tmp 7)), 3, none⟩,
   ⟨some 25, (Op.binOp BinOp.shr 35 (Operand.tmp 23) (Operand.tmp 24) 3), 35, none⟩,
   ⟨some 26, (Op.convert 35 5 (Operand.tmp 25)), 5, none⟩,
   ⟨some 27, (Op.binOp BinOp.andNot 5 (Operand.tmp 26) (Operand.const (Value.int IntKind.u8 128)) 5), 5, none⟩,
   ⟨some 8, (Op.assign (Operand.tmp 27)), 5, none⟩]
def r34_8 : List VOp :=
  [⟨some 29, (Op.move (Operand.tmp 7)), 3, none⟩,
   ⟨some 30, (Op.binOp BinOp.eql 3 (Operand.tmp 29) (Operand.const (Value.int IntKind.i64 0)) 3), 4, none⟩,
   ⟨some 28, (Op.assign (Operand.tmp 30)), 4, none⟩]
def r34_9 : List VOp :=
  [⟨some 31, (Op.move (Operand.tmp 0)), 40, none⟩,
   ⟨some 32, (Op.move (Operand.tmp 8)), 5, none⟩,
   ⟨some 33, (Op.buildSlice 40 1 #[(0, (Operand.tmp 32))]), 40, none⟩,
   ⟨some 34, (Op.call { callee := (Callee.builtin Builtin.append), args := #[(Operand.tmp 31), (Operand.tmp 33)], argTypes := #[40, 40] }), 40, none⟩,
   ⟨some 0, (Op.assign (Operand.tmp 34)), 40, none⟩]
def r34_10 : List VOp :=
  [⟨some 36, (Op.move (Operand.tmp 5)), 35, none⟩,
   ⟨some 37, (Op.move (Operand.tmp 7)), 3, none⟩,
   ⟨some 38, (Op.binOp BinOp.shr 35 (Operand.tmp 36) (Operand.tmp 37) 3), 35, none⟩,
   ⟨some 39, (Op.binOp BinOp.gtr 35 (Operand.tmp 38) (Operand.const (Value.int IntKind.u64 0)) 35), 4, none⟩,
   ⟨some 35, (Op.assign (Operand.tmp 39)), 4, none⟩]
def r34_11 : List VOp :=
  [⟨some 40, (Op.move (Operand.tmp 0)), 40, none⟩,
   ⟨some 41, (Op.move (Operand.tmp 8)), 5, none⟩,
   ⟨some 42, (Op.binOp BinOp.or 5 (Operand.tmp 41) (Operand.const (Value.int IntKind.u8 128)) 5), 5, none⟩,
   ⟨some 43, (Op.buildSlice 40 1 #[(0, (Operand.tmp 42))]), 40, none⟩,
   ⟨some 44, (Op.call { callee := (Callee.builtin Builtin.append), args := #[(Operand.tmp 40), (Operand.tmp 43)], argTypes := #[40, 40] }), 40, none⟩,
   ⟨some 0, (Op.assign (Operand.tmp 44)), 40, none⟩]
def r34_12 : List VOp :=
  [⟨some 45, (Op.binOp BinOp.add 3 (Operand.tmp 17) (Operand.const (Value.int IntKind.i64 1)) 3), 3, none⟩,
   ⟨some 17, (Op.move (Operand.tmp 45)), 3, none⟩]
def r34_13 : List VOp :=
  [⟨some 46, (Op.move (Operand.tmp 0)), 40, none⟩,
   ⟨some 4, (Op.assign (Operand.tmp 46)), 40, none⟩]
def B34 : VC :=
  (.seq (.region r34_0) (.seq (.region r34_1) (.seq (.region r34_2) (.seq (.seq (.region r34_3) (.block 0 (.loop (.seq (.region r34_4) (.seq (.cond (Operand.tmp 18) .skip (.exit 0)) (.seq (.block 1 (.seq (.region r34_5) (.seq (.region r34_6) (.seq (.region r34_7) (.block 2 (.seq (.region r34_8) (.cond (Operand.tmp 28) (.region r34_9) (.seq (.region r34_10) (.cond (Operand.tmp 35) (.region r34_11) .skip))))))))) (.region r34_12))))))) (.seq (.region r34_13) .ret)))))
theorem code34 : ∃ c, Try.f34.body = some c ∧ abs Try.f34.ntmps c = B34 := ⟨_, rfl, by kernel_rfl⟩
theorem hb34 : HasBody Try.prog 34 := hasBody_of Try.func34 (by kernel_rfl)
theorem res34 : Try.f34.results = #[(ResultVar.tmp 4)] := rfl
theorem enter34 {w : World} {R : Value → World → Prop} (x0 x1 : Value) (h : vc Try.prog B34 (retK Try.prog #[(ResultVar.tmp 4)] R) [] (initEnv [x0, x1] 0) w) : FnC Try.prog 34 #[x0, x1] w R := by
  obtain ⟨c, h1, h2⟩ := code34
  exact hb34.fn (ret_of_vc mixed Try.func34 h1 (Nat.le_of_ble_eq_true rfl) B34 h2 h)
@[push_cast] theorem vr34_0 (Q : Post) (ds : List Deferred) (σ : Env) (w : World) : vc Try.prog (.region r34_0) Q ds σ w = vcOps Try.prog [⟨some 4, (Op.assign (Operand.const (Value.slice none 0 0))), 40, none⟩] (Q .normal ds) σ w := mk_eq rfl
@[push_cast] theorem vr34_1 (Q : Post) (ds : List Deferred) (σ : Env) (w : World) : vc Try.prog (.region r34_1) Q ds σ w = vcOps Try.prog [⟨some 9, (Op.move (Operand.tmp 0)), 40, none⟩, ⟨some 10, (Op.move (Operand.tmp 0)), 40, none⟩, ⟨some 11, (Op.call { callee := (Callee.builtin Builtin.len), args := #[(Operand.tmp 10)], argTypes := #[40] }), 3, none⟩, ⟨some 12, (Op.move (Operand.tmp 0)), 40, none⟩, ⟨some 13, (Op.call { callee := (Callee.builtin Builtin.len), args := #[(Operand.tmp 12)], argTypes := #[40] }), 3, none⟩, ⟨some 14, (Op.slice 40 (Operand.tmp 9) none (some (Operand.tmp 11)) (some (Operand.tmp 13))), 40, none⟩, ⟨some 0, (Op.assign (Operand.tmp 14)), 40, none⟩] (Q .normal ds) σ w := mk_eq rfl
@[push_cast] theorem vr34_2 (Q : Post) (ds : List Deferred) (σ : Env) (w : World) : vc Try.prog (.region r34_2) Q ds σ w = vcOps Try.prog [⟨some 15, (Op.move (Operand.tmp 1)), 3, none⟩, ⟨some 16, (Op.call { callee := (Callee.value (Operand.func 30)), args := #[(Operand.tmp 15)], argTypes := #[3] }), 35, none⟩, ⟨some 5, (Op.assign (Operand.tmp 16)), 35, none⟩] (Q .normal ds) σ w := mk_eq rfl
@[push_cast] theorem vr34_3 (Q : Post) (ds : List Deferred) (σ : Env) (w : World) : vc Try.prog (.region r34_3) Q ds σ w = vcOps Try.prog [⟨some 17, (Op.move (Operand.const (Value.int IntKind.i64 0))), 3, none⟩] (Q .normal ds) σ w := mk_eq rfl
@[push_cast] theorem vr34_4 (Q : Post) (ds : List Deferred) (σ : Env) (w : World) : vc Try.prog (.region r34_4) Q ds σ w = vcOps Try.prog [⟨some 18, (Op.binOp BinOp.lss 3 (Operand.tmp 17) (Operand.const (Value.int IntKind.i64 10)) 3), 4, none⟩] (Q .normal ds) σ w := mk_eq rfl
@[push_cast] theorem vr34_5 (Q : Post) (ds : List Deferred) (σ : Env) (w : World) : vc Try.prog (.region r34_5) Q ds σ w = vcOps Try.prog [⟨some 19, (Op.move (Operand.tmp 17)), 3, none⟩, ⟨some 6, (Op.assign (Operand.tmp 19)), 3, none⟩] (Q .normal ds) σ w := mk_eq rfl
@[push_cast] theorem vr34_6 (Q : Post) (ds : List Deferred) (σ : Env) (w : World) : vc Try.prog (.region r34_6) Q ds σ w = vcOps Try.prog [⟨some 20, (Op.move (Operand.tmp 6)), 3, none⟩, ⟨some 21, (Op.binOp BinOp.sub 3 (Operand.const (Value.int IntKind.i64 9)) (Operand.tmp 20) 3), 3, none⟩, ⟨some 22, (Op.binOp BinOp.mul 3 (Operand.const (Value.int IntKind.i64 7)) (Operand.tmp 21) 3), 3, none⟩, ⟨some 7, (Op.assign (Operand.tmp 22)), 3, none⟩] (Q .normal ds) σ w := mk_eq rfl
@[push_cast] theorem vr34_7 (Q : Post) (ds : List Deferred) (σ : Env) (w : World) : vc Try.prog (.region r34_7) Q ds σ w = vcOps Try.prog [⟨some 23, (Op.move (Operand.tmp 5)), 35, none⟩, ⟨some 24, (Op.move (Operand.tmp 7)), 3, none⟩, ⟨some 25, (Op.binOp BinOp.shr 35 (Operand.tmp 23) (Operand.tmp 24) 3), 35, none⟩, ⟨some 26, (Op.convert 35 5 (Operand.tmp 25)), 5, none⟩, ⟨some 27, (Op.binOp BinOp.andNot 5 (Operand.tmp 26) (Operand.const (Value.int IntKind.u8 128)) 5), 5, none⟩, ⟨some 8, (Op.assign (Operand.tmp 27)), 5, none⟩] (Q .normal ds) σ w := mk_eq rfl
@[push_cast] theorem vr34_8 (Q : Post) (ds : List Deferred) (σ : Env) (w : World) : vc Try.prog (.region r34_8) Q ds σ w = vcOps Try.prog [⟨some 29, (Op.move (Operand.tmp 7)), 3, none⟩, ⟨some 30, (Op.binOp BinOp.eql 3 (Operand.tmp 29) (Operand.const (Value.int IntKind.i64 0)) 3), 4, none⟩, ⟨some 28, (Op.assign (Operand.tmp 30)), 4, none⟩] (Q .normal ds) σ w := mk_eq rfl
@[push_cast] theorem vr34_9 (Q : Post) (ds : List Deferred) (σ : Env) (w : World) : vc Try.prog (.region r34_9) Q ds σ w = vcOps Try.prog [⟨some 31, (Op.move (Operand.tmp 0)), 40, none⟩, ⟨some 32, (Op.move (Operand.tmp 8)), 5, none⟩, ⟨some 33, (Op.buildSlice 40 1 #[(0, (Operand.tmp 32))]), 40, none⟩, ⟨some 34, (Op.call { callee := (Callee.builtin Builtin.append), args := #[(Operand.tmp 31), (Operand.tmp 33)], argTypes := #[40, 40] }), 40, none⟩, ⟨some 0, (Op.assign (Operand.tmp 34)), 40, none⟩] (Q .normal ds) σ w := mk_eq rfl
@[push_cast] theorem vr34_10 (Q : Post) (ds : List Deferred) (σ : Env) (w : World) : vc Try.prog (.region r34_10) Q ds σ w = vcOps Try.prog [⟨some 36, (Op.move (Operand.tmp 5)), 35, none⟩, ⟨some 37, (Op.move (Operand.tmp 7)), 3, none⟩, ⟨some 38, (Op.binOp BinOp.shr 35 (Operand.tmp 36) (Operand.tmp 37) 3), 35, none⟩, ⟨some 39, (Op.binOp BinOp.gtr 35 (Operand.tmp 38) (Operand.const (Value.int IntKind.u64 0)) 35), 4, none⟩, ⟨some 35, (Op.assign (Operand.tmp 39)), 4, none⟩] (Q .normal ds) σ w := mk_eq rfl
@[push_cast] theorem vr34_11 (Q : Post) (ds : List Deferred) (σ : Env) (w : World) : vc Try.prog (.region r34_11) Q ds σ w = vcOps Try.prog [⟨some 40, (Op.move (Operand.tmp 0)), 40, none⟩, ⟨some 41, (Op.move (Operand.tmp 8)), 5, none⟩, ⟨some 42, (Op.binOp BinOp.or 5 (Operand.tmp 41) (Operand.const (Value.int IntKind.u8 128)) 5), 5, none⟩, ⟨some 43, (Op.buildSlice 40 1 #[(0, (Operand.tmp 42))]), 40, none⟩, ⟨some 44, (Op.call { callee := (Callee.builtin Builtin.append), args := #[(Operand.tmp 40), (Operand.tmp 43)], argTypes := #[40, 40] }), 40, none⟩, ⟨some 0, (Op.assign (Operand.tmp 44)), 40, none⟩] (Q .normal ds) σ w := mk_eq rfl
@[push_cast] theorem vr34_12 (Q : Post) (ds : List Deferred) (σ : Env) (w : World) : vc Try.prog (.region r34_12) Q ds σ w = vcOps Try.prog [⟨some 45, (Op.binOp BinOp.add 3 (Operand.tmp 17) (Operand.const (Value.int IntKind.i64 1)) 3), 3, none⟩, ⟨some 17, (Op.move (Operand.tmp 45)), 3, none⟩] (Q .normal ds) σ w := mk_eq rfl
@[push_cast] theorem vr34_13 (Q : Post) (ds : List Deferred) (σ : Env) (w : World) : vc Try.prog (.region r34_13) Q ds σ w = vcOps Try.prog [⟨some 46, (Op.move (Operand.tmp 0)), 40, none⟩, ⟨some 4, (Op.assign (Operand.tmp 46)), 40, none⟩] (Q .normal ds) σ w := mk_eq rfl
/-! 35 columbary/zig.Text (params #[40, 9], results #[(ResultVar.tmp 4)], 11 slots) -/
def r35_0 : List VOp :=
  [⟨some 4, (Op.assign (Operand.const (Value.slice none 0 0))), 40, none⟩]
def r35_1 : List VOp :=
  [⟨some 5, (Op.move (Operand.tmp 0)), 40, none⟩,
   ⟨some 6, (Op.move (Operand.tmp 1)), 9, none⟩,
   ⟨some 7, (Op.call { callee := (Callee.builtin Builtin.len), args := #[(Operand.tmp 6)], argTypes := #[9] }), 3, none⟩,
   ⟨some 8, (Op.call { callee := (Callee.value (Operand.func 34)), args := #[(Operand.tmp 5), (Operand.tmp 7)], argTypes := #[40, 3] }), 40, none⟩,
   ⟨some 9, (Op.move (Operand.tmp 1)), 9, none⟩,
   ⟨some 10, (Op.call { callee := (Callee.builtin Builtin.append), args := #[(Operand.tmp 8), (Operand.tmp 9)], argTypes := #[40, 9] }), 40, none⟩,
   ⟨some 4, (Op.assign (Operand.tmp 10)), 40, none⟩]
def B35 : VC :=
  (.seq (.region r35_0) (.seq (.region r35_1) .ret))
theorem code35 : ∃ c, Try.f35.body = some c ∧ abs Try.f35.ntmps c = B35 := ⟨_, rfl, by kernel_rfl⟩
theorem hb35 : HasBody Try.prog 35 := hasBody_of Try.func35 (by kernel_rfl)
theorem res35 : Try.f35.results = #[(ResultVar.tmp 4)] := rfl
theorem enter35 {w : World} {R : Value → World → Prop} (x0 x1 : Value) (h : vc Try.prog B35 (retK Try.prog #[(ResultVar.tmp 4)] R) [] (initEnv [x0, x1] 0) w) : FnC Try.prog 35 #[x0, x1] w R := by
  obtain ⟨c, h1, h2⟩ := code35
  exact hb35.fn (ret_of_vc mixed Try.func35 h1 (Nat.le_of_ble_eq_true rfl) B35 h2 h)
@[push_cast] theorem vr35_0 (Q : Post) (ds : List Deferred) (σ : Env) (w : World) : vc Try.prog (.region r35_0) Q ds σ w = vcOps Try.prog [⟨some 4, (Op.assign (Operand.const (Value.slice none 0 0))), 40, none⟩] (Q .normal ds) σ w := mk_eq rfl
@[push_cast] theorem vr35_1 (Q : Post) (ds : List Deferred) (σ : Env) (w : World) : vc Try.prog (.region r35_1) Q ds σ w = vcOps Try.prog [⟨some 5, (Op.move (Operand.tmp 0)), 40, none⟩, ⟨some 6, (Op.move (Operand.tmp 1)), 9, none⟩, ⟨some 7, (Op.call { callee := (Callee.builtin Builtin.len), args := #[(Operand.tmp 6)], argTypes := #[9] }), 3, none⟩, ⟨some 8, (Op.call { callee := (Callee.value (Operand.func 34)), args := #[(Operand.tmp 5), (Operand.tmp 7)], argTypes := #[40, 3] }), 40, none⟩, ⟨some 9, (Op.move (Operand.tmp 1)), 9, none⟩, ⟨some 10, (Op.call { callee := (Callee.builtin Builtin.append), args := #[(Operand.tmp 8), (Operand.tmp 9)], argTypes := #[40, 9] }), 40, none⟩, ⟨some 4, (Op.assign (Operand.tmp 10)), 40, none⟩] (Q .normal ds) σ w := mk_eq rfl
/-! 36 columbary/columbaryref01.Int (params #[3], results #[(ResultVar.tmp 2)], 26 slots) -/
def W36_0 : List Nat := [3, 4, 5, 12, 13, 14, 15, 16, 17, 18, 19, 20, 21, 22, 23, 24]
@[push_cast] theorem W36_0_def : W36_0 = [3, 4, 5, 12, 13, 14, 15, 16, 17, 18, 19, 20, 21, 22, 23, 24] := mk_eq rfl
def r36_0 : List VOp :=
  [⟨some 2, (Op.assign (Operand.const (Value.slice none 0 0))), 40, none⟩]
def r36_1 : List VOp :=
  [⟨some 6, (Op.move (Operand.tmp 0)), 3, none⟩,
   ⟨some 7, (Op.call { callee := (Callee.value (Operand.func 31)), args := #[(Operand.tmp 6)], argTypes := #[3] }), 35, none⟩,
   ⟨some 3, (Op.assign (Operand.tmp 7)), 35, none⟩]
def r36_2 : List VOp :=
  [⟨some 8, (Op.move (Operand.tmp 3)), 35, none⟩,
   ⟨some 9, (Op.binOp BinOp.rem 35 (Operand.tmp 8) (Operand.const (Value.int IntKind.u64 128)) 35), 35, none⟩,
   ⟨some 10, (Op.convert 35 5 (Operand.tmp 9)), 5, none⟩,
   ⟨some 11, (Op.buildSlice 40 1 #[(0, (Operand.tmp 10))]), 40, none⟩,
   ⟨some 4, (Op.assign (Operand.tmp 11)), 40, none⟩]
def r36_3 : List VOp :=
  [⟨some 12, (Op.move (Operand.tmp 3)), 35, none⟩,
   ⟨some 13, (Op.binOp BinOp.geq 35 (Operand.tmp 12) (Operand.const (Value.int IntKind.u64 128)) 35), 4, none⟩]
def r36_4 : List VOp :=
  [⟨some 14, (Op.move (Operand.tmp 3)), 35, none⟩,
   ⟨some 15, (Op.binOp BinOp.quo 35 (Operand.tmp 14) (Operand.const (Value.int IntKind.u64 128)) 35), 35, none⟩,
   ⟨some 3, (Op.assign (Operand.tmp 15)), 35, none⟩]
def r36_5 : List VOp :=
  [⟨some 16, (Op.move (Operand.tmp 3)), 35, none⟩,
   ⟨some 17, (Op.binOp BinOp.rem 35 (Operand.tmp 16) (Operand.const (Value.int IntKind.u64 128)) 35), 35, none⟩,
   ⟨some 18, (Op.binOp BinOp.add 35 (Operand.const (Value.int IntKind.u64 128)) (Operand.tmp 17) 35), 35, none⟩,
   ⟨some 19, (Op.convert 35 5 (Operand.tmp 18)), 5, none⟩,
   ⟨some 20, (Op.buildSlice 40 1 #[(0, (Operand.tmp 19))]), 40, none⟩,
   ⟨some 5, (Op.assign (Operand.tmp 20)), 40, none⟩]
def r36_6 : List VOp :=
  [⟨some 21, (Op.move (Operand.tmp 5)), 40, none⟩,
   ⟨some 22, (Op.move (Operand.tmp 4)), 40, none⟩,
   ⟨some 23, (Op.call { callee := (Callee.builtin Builtin.append), args := #[(Operand.tmp 21), (Operand.tmp 22)], argTypes := #[40, 40] }), 40, none⟩,
   ⟨some 5, (Op.assign (Operand.tmp 23)), 40, none⟩]
def r36_7 : List VOp :=
  [⟨some 24, (Op.move (Operand.tmp 5)), 40, none⟩,
   ⟨some 4, (Op.assign (Operand.tmp 24)), 40, none⟩]
def r36_8 : List VOp :=
  [⟨some 25, (Op.move (Operand.tmp 4)), 40, none⟩,
   ⟨some 2, (Op.assign (Operand.tmp 25)), 40, none⟩]
def B36 : VC :=
  (.seq (.region r36_0) (.seq (.region r36_1) (.seq (.region r36_2) (.seq (.block 0 (.loop (.seq (.seq (.region r36_3) (.cond (Operand.tmp 13) .skip (.exit 0))) (.block 1 (.seq (.region r36_4) (.seq (.region r36_5) (.seq (.region r36_6) (.region r36_7)))))))) (.seq (.region r36_8) .ret)))))
theorem code36 : ∃ c, Try.f36.body = some c ∧ abs Try.f36.ntmps c = B36 := ⟨_, rfl, by kernel_rfl⟩
theorem hb36 : HasBody Try.prog 36 := hasBody_of Try.func36 (by kernel_rfl)
theorem res36 : Try.f36.results = #[(ResultVar.tmp 2)] := rfl
theorem enter36 {w : World} {R : Value → World → Prop} (x0 : Value) (h : vc Try.prog B36 (retK Try.prog #[(ResultVar.tmp 2)] R) [] (initEnv [x0] 0) w) : FnC Try.prog 36 #[x0] w R := by
  obtain ⟨c, h1, h2⟩ := code36
  exact hb36.fn (ret_of_vc mixed Try.func36 h1 (Nat.le_of_ble_eq_true rfl) B36 h2 h)
@[push_cast] theorem vr36_0 (Q : Post) (ds : List Deferred) (σ : Env) (w : World) : vc Try.prog (.region r36_0) Q ds σ w = vcOps Try.prog [⟨some 2, (Op.assign (Operand.const (Value.slice none 0 0))), 40, none⟩] (Q .normal ds) σ w := mk_eq rfl
@[push_cast] theorem vr36_1 (Q : Post) (ds : List Deferred) (σ : Env) (w : World) : vc Try.prog (.region r36_1) Q ds σ w = vcOps Try.prog [⟨some 6, (Op.move (Operand.tmp 0)), 3, none⟩, ⟨some 7, (Op.call { callee := (Callee.value (Operand.func 31)), args := #[(Operand.tmp 6)], argTypes := #[3] }), 35, none⟩, ⟨some 3, (Op.assign (Operand.tmp 7)), 35, none⟩] (Q .normal ds) σ w := mk_eq rfl
@[push_cast] theorem vr36_2 (Q : Post) (ds : List Deferred) (σ : Env) (w : World) : vc Try.prog (.region r36_2) Q ds σ w = vcOps Try.prog [⟨some 8, (Op.move (Operand.tmp 3)), 35, none⟩, ⟨some 9, (Op.binOp BinOp.rem 35 (Operand.tmp 8) (Operand.const (Value.int IntKind.u64 128)) 35), 35, none⟩, ⟨some 10, (Op.convert 35 5 (Operand.tmp 9)), 5, none⟩, ⟨some 11, (Op.buildSlice 40 1 #[(0, (Operand.tmp 10))]), 40, none⟩, ⟨some 4, (Op.assign (Operand.tmp 11)), 40, none⟩] (Q .normal ds) σ w := mk_eq rfl
@[push_cast] theorem vr36_3 (Q : Post) (ds : List Deferred) (σ : Env) (w : World) : vc Try.prog (.region r36_3) Q ds σ w = vcOps Try.prog [⟨some 12, (Op.move (Operand.tmp 3)), 35, none⟩, ⟨some 13, (Op.binOp BinOp.geq 35 (Operand.tmp 12) (Operand.const (Value.int IntKind.u64 128)) 35), 4, none⟩] (Q .normal ds) σ w := mk_eq rfl
@[push_cast] theorem vr36_4 (Q : Post) (ds : List Deferred) (σ : Env) (w : World) : vc Try.prog (.region r36_4) Q ds σ w = vcOps Try.prog [⟨some 14, (Op.move (Operand.tmp 3)), 35, none⟩, ⟨some 15, (Op.binOp BinOp.quo 35 (Operand.tmp 14) (Operand.const (Value.int IntKind.u64 128)) 35), 35, none⟩, ⟨some 3, (Op.assign (Operand.tmp 15)), 35, none⟩] (Q .normal ds) σ w := mk_eq rfl
@[push_cast] theorem vr36_5 (Q : Post) (ds : List Deferred) (σ : Env) (w : World) : vc Try.prog (.region r36_5) Q ds σ w = vcOps Try.prog [⟨some 16, (Op.move (Operand.tmp 3)), 35, none⟩, ⟨some 17, (Op.binOp BinOp.rem 35 (Operand.tmp 16) (Operand.const (Value.int IntKind.u64 128)) 35), 35, none⟩, ⟨some 18, (Op.binOp BinOp.add 35 (Operand.const (Value.int IntKind.u64 128)) (Operand.tmp 17) 35), 35, none⟩, ⟨some 19, (Op.convert 35 5 (Operand.tmp 18)), 5, none⟩, ⟨some 20, (Op.buildSlice 40 1 #[(0, (Operand.tmp 19))]), 40, none⟩, ⟨some 5, (Op.assign (Operand.tmp 20)), 40, none⟩] (Q .normal ds) σ w := mk_eq rfl
@[push_cast] theorem vr36_6 (Q : Post) (ds : List Deferred) (σ : Env) (w : World) : vc Try.prog (.region r36_6) Q ds σ w = vcOps Try.prog [⟨some 21, (Op.move (Operand.tmp 5)), 40, none⟩, ⟨some 22, (Op.move (Operand.tmp 4)), 40, none⟩, ⟨some 23, (Op.call { callee := (Callee.builtin Builtin.append), args := #[(Operand.tmp 21), (Operand.tmp 22)], argTypes := #[40, 40] }), 40, none⟩, ⟨some 5, (Op.assign (Operand.tmp 23)), 40, none⟩] (Q .normal ds) σ w := mk_eq rfl
@[push_cast] theorem vr36_7 (Q : Post) (ds : List Deferred) (σ : Env) (w : World) : vc Try.prog (.region r36_7) Q ds σ w = vcOps Try.prog [⟨some 24, (Op.move (Operand.tmp 5)), 40, none⟩, ⟨some 4, (Op.assign (Operand.tmp 24)), 40, none⟩] (Q .normal ds) σ w := mk_eq rfl
@[push_cast] theorem vr36_8 (Q : Post) (ds : List Deferred) (σ : Env) (w : World) : vc Try.prog (.region r36_8) Q ds σ w = vcOps Try.prog [⟨some 25, (Op.move (Operand.tmp 4)), 40, none⟩, ⟨some 2, (Op.assign (Operand.tmp 25)), 40, none⟩] (Q .normal ds) σ w := mk_eq rfl
/-! 37 columbary/columbaryref01.Text (params #[9], results #[(ResultVar.tmp 2)], 8 slots) -/
def r37_0 : List VOp :=
  [⟨some 2, (Op.assign (Operand.const (Value.slice none 0 0))), 40, none⟩]
def r37_1 : List VOp :=
  [⟨some 3, (Op.move (Operand.tmp 0)), 9, none⟩,
   ⟨some 4, (Op.call { callee := (Callee.builtin Builtin.len), args := #[(Operand.tmp 3)], argTypes := #[9] }), 3, none⟩,
   ⟨some 5, (Op.call { callee := (Callee.value (Operand.func 36)), args := #[(Operand.tmp 4)], argTypes := #[3] }), 40, none⟩,
   ⟨some 6, (Op.move (Operand.tmp 0)), 9, none⟩,
   ⟨some 7, (Op.call { callee := (Callee.builtin Builtin.append), args := #[(Operand.tmp 5), (Operand.tmp 6)], argTypes := #[40, 9] }), 40, none⟩,
   ⟨some 2, (Op.assign (Operand.tmp 7)), 40, none⟩]
def B37 : VC :=
  (.seq (.region r37_0) (.seq (.region r37_1) .ret))
theorem code37 : ∃ c, Try.f37.body = some c ∧ abs Try.f37.ntmps c = B37 := ⟨_, rfl, by kernel_rfl⟩
theorem hb37 : HasBody Try.prog 37 := hasBody_of Try.func37 (by kernel_rfl)
theorem res37 : Try.f37.results = #[(ResultVar.tmp 2)] := rfl
theorem enter37 {w : World} {R : Value → World → Prop} (x0 : Value) (h : vc Try.prog B37 (retK Try.prog #[(ResultVar.tmp 2)] R) [] (initEnv [x0] 0) w) : FnC Try.prog 37 #[x0] w R := by
  obtain ⟨c, h1, h2⟩ := code37
  exact hb37.fn (ret_of_vc mixed Try.func37 h1 (Nat.le_of_ble_eq_true rfl) B37 h2 h)
@[push_cast] theorem vr37_0 (Q : Post) (ds : List Deferred) (σ : Env) (w : World) : vc Try.prog (.region r37_0) Q ds σ w = vcOps Try.prog [⟨some 2, (Op.assign (Operand.const (Value.slice none 0 0))), 40, none⟩] (Q .normal ds) σ w := mk_eq rfl
@[push_cast] theorem vr37_1 (Q : Post) (ds : List Deferred) (σ : Env) (w : World) : vc Try.prog (.region r37_1) Q ds σ w = vcOps Try.prog [⟨some 3, (Op.move (Operand.tmp 0)), 9, none⟩, ⟨some 4, (Op.call { callee := (Callee.builtin Builtin.len), args := #[(Operand.tmp 3)], argTypes := #[9] }), 3, none⟩, ⟨some 5, (Op.call { callee := (Callee.value (Operand.func 36)), args := #[(Operand.tmp 4)], argTypes := #[3] }), 40, none⟩, ⟨some 6, (Op.move (Operand.tmp 0)), 9, none⟩, ⟨some 7, (Op.call { callee := (Callee.builtin Builtin.append), args := #[(Operand.tmp 5), (Operand.tmp 6)], argTypes := #[40, 9] }), 40, none⟩, ⟨some 2, (Op.assign (Operand.tmp 7)), 40, none⟩] (Q .normal ds) σ w := mk_eq rfl
/-! 38 columbary/zig.Open (params #[40], results #[(ResultVar.tmp 2)], 7 slots) -/
def r38_0 : List VOp :=
  [⟨some 2, (Op.assign (Operand.const (Value.pointer none))), 48, none⟩]
def r38_1 : List VOp :=
  [⟨some 3, (Op.move (Operand.tmp 0)), 40, none⟩,
   ⟨some 4, (Op.call { callee := (Callee.value (Operand.func 50)), args := #[(Operand.tmp 3)], argTypes := #[40] }), 40, none⟩,
   ⟨some 5, (Op.build 68 #[(0, (Operand.tmp 4))]), 68, none⟩,
   ⟨some 6, (Op.box 68 (Operand.tmp 5)), 48, none⟩,
   ⟨some 2, (Op.assign (Operand.tmp 6)), 48, none⟩]
def B38 : VC :=
  (.seq (.region r38_0) (.seq (.region r38_1) .ret))
theorem code38 : ∃ c, Try.f38.body = some c ∧ abs Try.f38.ntmps c = B38 := ⟨_, rfl, by kernel_rfl⟩
theorem hb38 : HasBody Try.prog 38 := hasBody_of Try.func38 (by kernel_rfl)
theorem res38 : Try.f38.results = #[(ResultVar.tmp 2)] := rfl
theorem enter38 {w : World} {R : Value → World → Prop} (x0 : Value) (h : vc Try.prog B38 (retK Try.prog #[(ResultVar.tmp 2)] R) [] (initEnv [x0] 0) w) : FnC Try.prog 38 #[x0] w R := by
  obtain ⟨c, h1, h2⟩ := code38
  exact hb38.fn (ret_of_vc mixed Try.func38 h1 (Nat.le_of_ble_eq_true rfl) B38 h2 h)
@[push_cast] theorem vr38_0 (Q : Post) (ds : List Deferred) (σ : Env) (w : World) : vc Try.prog (.region r38_0) Q ds σ w = vcOps Try.prog [⟨some 2, (Op.assign (Operand.const (Value.pointer none))), 48, none⟩] (Q .normal ds) σ w := mk_eq rfl
@[push_cast] theorem vr38_1 (Q : Post) (ds : List Deferred) (σ : Env) (w : World) : vc Try.prog (.region r38_1) Q ds σ w = vcOps Try.prog [⟨some 3, (Op.move (Operand.tmp 0)), 40, none⟩, ⟨some 4, (Op.call { callee := (Callee.value (Operand.func 50)), args := #[(Operand.tmp 3)], argTypes := #[40] }), 40, none⟩, ⟨some 5, (Op.build 68 #[(0, (Operand.tmp 4))]), 68, none⟩, ⟨some 6, (Op.box 68 (Operand.tmp 5)), 48, none⟩, ⟨some 2, (Op.assign (Operand.tmp 6)), 48, none⟩] (Q .normal ds) σ w := mk_eq rfl
/-! 39 (*columbary/zig.Reader).Int (params #[48, 3, 3], results #[(ResultVar.tmp 6), (ResultVar.tmp 7)], 42 slots) -/
def r39_0 : List VOp :=
  [⟨some 6, (Op.assign (Operand.const (Value.int IntKind.i64 0))), 3, none⟩,
   ⟨some 7, (Op.assign (Operand.const (Value.int IntKind.i64 0))), 23, none⟩]
def r39_1 : List VOp :=
  [⟨some 10, (Op.move (Operand.tmp 0)), 48, none⟩,
   ⟨some 11, (Op.binOp BinOp.eql 48 (Operand.tmp 10) (Operand.const (Value.pointer none)) 48), 4, none⟩]
def r39_2 : List VOp :=
  [⟨some 6, (Op.assign (Operand.const (Value.int IntKind.i64 0))), 3, none⟩,
   ⟨some 7, (Op.assign (Operand.const (Value.int IntKind.i64 1))), 23, none⟩]
def r39_3 : List VOp :=
  [⟨some 13, (Op.move (Operand.tmp 0)), 48, none⟩,
   ⟨some 14, (Op.nilCheck (Operand.tmp 13)), 0, none⟩,
   ⟨some 15, (Op.fieldAddr 68 (Operand.tmp 14) 0), 0, none⟩,
   ⟨some 16, (Op.load 40 (Operand.tmp 15)), 40, none⟩,
   ⟨some 17, (Op.call { callee := (Callee.value (Operand.func 51)), args := #[(Operand.tmp 16)], argTypes := #[40] }), 69, none⟩,
   ⟨some 12, (Op.move (Operand.tmp 17)), 69, none⟩,
   ⟨some 18, (Op.extract (Operand.tmp 12) 0), 3, none⟩,
   ⟨some 19, (Op.extract (Operand.tmp 12) 1), 3, none⟩,
   ⟨some 8, (Op.assign (Operand.tmp 18)), 3, none⟩,
   ⟨some 9, (Op.assign (Operand.tmp 19)), 3, none⟩]
def r39_4 : List VOp :=
  [⟨some 20, (Op.move (Operand.tmp 9)), 3, none⟩,
   ⟨some 21, (Op.binOp BinOp.eql 3 (Operand.tmp 20) (Operand.const (Value.int IntKind.i64 0)) 3), 4, none⟩,
   ⟨some 22, (Op.move (Operand.tmp 21)), 4, none⟩,
   ⟨some 23, (Op.move (Operand.tmp 8)), 3, some (22, false)⟩,
   ⟨some 24, (Op.move (Operand.tmp 1)), 3, some (22, false)⟩,
   ⟨some 25, (Op.binOp BinOp.lss 3 (Operand.tmp 23) (Operand.tmp 24) 3), 4, some (22, false)⟩,
   ⟨some 26, (Op.pick (Operand.tmp 22) (Operand.const (Value.bool true)) (Operand.tmp 25)), 4, none⟩,
   ⟨some 27, (Op.move (Operand.tmp 26)), 4, none⟩,
   ⟨some 28, (Op.move (Operand.tmp 8)), 3, some (27, false)⟩,
   ⟨some 29, (Op.move (Operand.tmp 2)), 3, some (27, false)⟩,
   ⟨some 30, (Op.binOp BinOp.gtr 3 (Operand.tmp 28) (Operand.tmp 29) 3), 4, some (27, false)⟩,
   ⟨some 31, (Op.pick (Operand.tmp 27) (Operand.const (Value.bool true)) (Operand.tmp 30)), 4, none⟩]
def r39_5 : List VOp :=
  [⟨some 6, (Op.assign (Operand.const (Value.int IntKind.i64 0))), 3, none⟩,
   ⟨some 7, (Op.assign (Operand.const (Value.int IntKind.i64 11))), 23, none⟩]
def r39_6 : List VOp :=
  [⟨some 32, (Op.move (Operand.tmp 0)), 48, none⟩,
   ⟨some 33, (Op.move (Operand.tmp 0)), 48, none⟩,
   ⟨some 34, (Op.nilCheck (Operand.tmp 33)), 0, none⟩,
   ⟨some 35, (Op.fieldAddr 68 (Operand.tmp 34) 0), 0, none⟩,
   ⟨some 36, (Op.load 40 (Operand.tmp 35)), 40, none⟩,
   ⟨some 37, (Op.move (Operand.tmp 9)), 3, none⟩,
   ⟨some 38, (Op.slice 40 (Operand.tmp 36) (some (Operand.tmp 37)) none none), 40, none⟩,
   ⟨some 39, (Op.nilCheck (Operand.tmp 32)), 0, none⟩,
   ⟨some 40, (Op.fieldAddr 68 (Operand.tmp 39) 0), 0, none⟩,
   ⟨none, (Op.store 40 (Operand.tmp 40) (Operand.tmp 38)), 0, none⟩]
def r39_7 : List VOp :=
  [⟨some 41, (Op.move (Operand.tmp 8)), 3, none⟩,
   ⟨some 6, (Op.assign (Operand.tmp 41)), 3, none⟩,
   ⟨some 7, (Op.assign (Operand.const (Value.int IntKind.i64 0))), 23, none⟩]
def B39 : VC :=
  (.seq (.region r39_0) (.seq (.seq (.region r39_1) (.cond (Operand.tmp 11) (.seq (.region r39_2) .ret) .skip)) (.seq (.region r39_3) (.seq (.seq (.region r39_4) (.cond (Operand.tmp 31) (.seq (.region r39_5) .ret) .skip)) (.seq (.region r39_6) (.seq (.region r39_7) .ret))))))
theorem code39 : ∃ c, Try.f39.body = some c ∧ abs Try.f39.ntmps c = B39 := ⟨_, rfl, by kernel_rfl⟩
theorem hb39 : HasBody Try.prog 39 := hasBody_of Try.func39 (by kernel_rfl)
theorem res39 : Try.f39.results = #[(ResultVar.tmp 6), (ResultVar.tmp 7)] := rfl
theorem enter39 {w : World} {R : Value → World → Prop} (x0 x1 x2 : Value) (h : vc Try.prog B39 (retK Try.prog #[(ResultVar.tmp 6), (ResultVar.tmp 7)] R) [] (initEnv [x0, x1, x2] 0) w) : FnC Try.prog 39 #[x0, x1, x2] w R := by
  obtain ⟨c, h1, h2⟩ := code39
  exact hb39.fn (ret_of_vc mixed Try.func39 h1 (Nat.le_of_ble_eq_true rfl) B39 h2 h)
@[push_cast] theorem vr39_0 (Q : Post) (ds : List Deferred) (σ : Env) (w : World) : vc Try.prog (.region r39_0) Q ds σ w = vcOps Try.prog [⟨some 6, (Op.assign (Operand.const (Value.int IntKind.i64 0))), 3, none⟩, ⟨some 7, (Op.assign (Operand.const (Value.int IntKind.i64 0))), 23, none⟩] (Q .normal ds) σ w := mk_eq rfl
@[push_cast] theorem vr39_1 (Q : Post) (ds : List Deferred) (σ : Env) (w : World) : vc Try.prog (.region r39_1) Q ds σ w = vcOps Try.prog [⟨some 10, (Op.move (Operand.tmp 0)), 48, none⟩, ⟨some 11, (Op.binOp BinOp.eql 48 (Operand.tmp 10) (Operand.const (Value.pointer none)) 48), 4, none⟩] (Q .normal ds) σ w := mk_eq rfl
@[push_cast] theorem vr39_2 (Q : Post) (ds : List Deferred) (σ : Env) (w : World) : vc Try.prog (.region r39_2) Q ds σ w = vcOps Try.prog [⟨some 6, (Op.assign (Operand.const (Value.int IntKind.i64 0))), 3, none⟩, ⟨some 7, (Op.assign (Operand.const (Value.int IntKind.i64 1))), 23, none⟩] (Q .normal ds) σ w := mk_eq rfl
@[push_cast] theorem vr39_3 (Q : Post) (ds : List Deferred) (σ : Env) (w : World) : vc Try.prog (.region r39_3) Q ds σ w = vcOps Try.prog [⟨some 13, (Op.move (Operand.tmp 0)), 48, none⟩, ⟨some 14, (Op.nilCheck (Operand.tmp 13)), 0, none⟩, ⟨some 15, (Op.fieldAddr 68 (Operand.tmp 14) 0), 0, none⟩, ⟨some 16, (Op.load 40 (Operand.tmp 15)), 40, none⟩, ⟨some 17, (Op.call { callee := (Callee.value (Operand.func 51)), args := #[(Operand.tmp 16)], argTypes := #[40] }), 69, none⟩, ⟨some 12, (Op.move (Operand.tmp 17)), 69, none⟩, ⟨some 18, (Op.extract (Operand.tmp 12) 0), 3, none⟩, ⟨some 19, (Op.extract (Operand.tmp 12) 1), 3, none⟩, ⟨some 8, (Op.assign (Operand.tmp 18)), 3, none⟩, ⟨some 9, (Op.assign (Operand.tmp 19)), 3, none⟩] (Q .normal ds) σ w := mk_eq rfl
@[push_cast] theorem vr39_4 (Q : Post) (ds : List Deferred) (σ : Env) (w : World) : vc Try.prog (.region r39_4) Q ds σ w = vcOps Try.prog [⟨some 20, (Op.move (Operand.tmp 9)), 3, none⟩, ⟨some 21, (Op.binOp BinOp.eql 3 (Operand.tmp 20) (Operand.const (Value.int IntKind.i64 0)) 3), 4, none⟩, ⟨some 22, (Op.move (Operand.tmp 21)), 4, none⟩, ⟨some 23, (Op.move (Operand.tmp 8)), 3, some (22, false)⟩, ⟨some 24, (Op.move (Operand.tmp 1)), 3, some (22, false)⟩, ⟨some 25, (Op.binOp BinOp.lss 3 (Operand.tmp 23) (Operand.tmp 24) 3), 4, some (22, false)⟩, ⟨some 26, (Op.pick (Operand.tmp 22) (Operand.const (Value.bool true)) (Operand.tmp 25)), 4, none⟩, ⟨some 27, (Op.move (Operand.tmp 26)), 4, none⟩, ⟨some 28, (Op.move (Operand.tmp 8)), 3, some (27, false)⟩, ⟨some 29, (Op.move (Operand.tmp 2)), 3, some (27, false)⟩, ⟨some 30, (Op.binOp BinOp.gtr 3 (Operand.tmp 28) (Operand.tmp 29) 3), 4, some (27, false)⟩, ⟨some 31, (Op.pick (Operand.tmp 27) (Operand.const (Value.bool true)) (Operand.tmp 30)), 4, none⟩] (Q .normal ds) σ w := mk_eq rfl
@[push_cast] theorem vr39_5 (Q : Post) (ds : List Deferred) (σ : Env) (w : World) : vc Try.prog (.region r39_5) Q ds σ w = vcOps Try.prog [⟨some 6, (Op.assign (Operand.const (Value.int IntKind.i64 0))), 3, none⟩, ⟨some 7, (Op.assign (Operand.const (Value.int IntKind.i64 11))), 23, none⟩] (Q .normal ds) σ w := mk_eq rfl
@[push_cast] theorem vr39_6 (Q : Post) (ds : List Deferred) (σ : Env) (w : World) : vc Try.prog (.region r39_6) Q ds σ w = vcOps Try.prog [⟨some 32, (Op.move (Operand.tmp 0)), 48, none⟩, ⟨some 33, (Op.move (Operand.tmp 0)), 48, none⟩, ⟨some 34, (Op.nilCheck (Operand.tmp 33)), 0, none⟩, ⟨some 35, (Op.fieldAddr 68 (Operand.tmp 34) 0), 0, none⟩, ⟨some 36, (Op.load 40 (Operand.tmp 35)), 40, none⟩, ⟨some 37, (Op.move (Operand.tmp 9)), 3, none⟩, ⟨some 38, (Op.slice 40 (Operand.tmp 36) (some (Operand.tmp 37)) none none), 40, none⟩, ⟨some 39, (Op.nilCheck (Operand.tmp 32)), 0, none⟩, ⟨some 40, (Op.fieldAddr 68 (Operand.tmp 39) 0), 0, none⟩, ⟨none, (Op.store 40 (Operand.tmp 40) (Operand.tmp 38)), 0, none⟩] (Q .normal ds) σ w := mk_eq rfl
@[push_cast] theorem vr39_7 (Q : Post) (ds : List Deferred) (σ : Env) (w : World) : vc Try.prog (.region r39_7) Q ds σ w = vcOps Try.prog [⟨some 41, (Op.move (Operand.tmp 8)), 3, none⟩, ⟨some 6, (Op.assign (Operand.tmp 41)), 3, none⟩, ⟨some 7, (Op.assign (Operand.const (Value.int IntKind.i64 0))), 23, none⟩] (Q .normal ds) σ w := mk_eq rfl
/-! 40 (*columbary/zig.Reader).Text (params #[48, 3], results #[(ResultVar.tmp 4), (ResultVar.tmp 5)], 63 slots) -/
def r40_0 : List VOp :=
  [⟨some 4, (Op.assign (Operand.const (Value.string { data := #[] }))), 9, none⟩,
   ⟨some 5, (Op.assign (Operand.const (Value.int IntKind.i64 0))), 23, none⟩]
def r40_1 : List VOp :=
  [⟨some 9, (Op.move (Operand.tmp 0)), 48, none⟩,
   ⟨some 10, (Op.binOp BinOp.eql 48 (Operand.tmp 9) (Operand.const (Value.pointer none)) 48), 4, none⟩]
def r40_2 : List VOp :=
  [⟨some 4, (Op.assign (Operand.const (Value.string { data := #[] }))), 9, none⟩,
   ⟨some 5, (Op.assign (Operand.const (Value.int IntKind.i64 1))), 23, none⟩]
def r40_3 : List VOp :=
  [⟨some 12, (Op.move (Operand.tmp 0)), 48, none⟩,
   ⟨some 13, (Op.nilCheck (Operand.tmp 12)), 0, none⟩,
   ⟨some 14, (Op.fieldAddr 68 (Operand.tmp 13) 0), 0, none⟩,
   ⟨some 15, (Op.load 40 (Operand.tmp 14)), 40, none⟩,
   ⟨some 16, (Op.call { callee := (Callee.value (Operand.func 51)), args := #[(Operand.tmp 15)], argTypes := #[40] }), 69, none⟩,
   ⟨some 11, (Op.move (Operand.tmp 16)), 69, none⟩,
   ⟨some 17, (Op.extract (Operand.tmp 11) 0), 3, none⟩,
   ⟨some 18, (Op.extract (Operand.tmp 11) 1), 3, none⟩,
   ⟨some 6, (Op.assign (Operand.tmp 17)), 3, none⟩,
   ⟨some 7, (Op.assign (Operand.tmp 18)), 3, none⟩]
def r40_4 : List VOp :=
  [⟨some 19, (Op.move (Operand.tmp 7)), 3, none⟩,
   ⟨some 20, (Op.binOp BinOp.eql 3 (Operand.tmp 19) (Operand.const (Value.int IntKind.i64 0)) 3), 4, none⟩,
   ⟨some 21, (Op.move (Operand.tmp 20)), 4, none⟩,
   ⟨some 22, (Op.move (Operand.tmp 6)), 3, some (21, false)⟩,
   ⟨some 23, (Op.binOp BinOp.lss 3 (Operand.tmp 22) (Operand.const (Value.int IntKind.i64 0)) 3), 4, some (21, false)⟩,
   ⟨some 24, (Op.pick (Operand.tmp 21) (Operand.const (Value.bool true)) (Operand.tmp 23)), 4, none⟩,
   ⟨some 25, (Op.move (Operand.tmp 24)), 4, none⟩,
   ⟨some 26, (Op.move (Operand.tmp 6)), 3, some (25, false)⟩,
   ⟨some 27, (Op.move (Operand.tmp 1)), 3, some (25, false)⟩,
   ⟨some 28, (Op.binOp BinOp.gtr 3 (Operand.tmp 26) (Operand.tmp 27) 3), 4, some (25, false)⟩,
   ⟨some 29, (Op.pick (Operand.tmp 25) (Operand.const (Value.bool true)) (Operand.tmp 28)), 4, none⟩,
   ⟨some 30, (Op.move (Operand.tmp 29)), 4, none⟩,
   ⟨some 31, (Op.move (Operand.tmp 6)), 3, some (30, false)⟩,
   ⟨some 32, (Op.move (Operand.tmp 0)), 48, some (30, false)⟩,
   ⟨some 33, (Op.nilCheck (Operand.tmp 32)), 0, some (30, false)⟩,
   ⟨some 34, (Op.fieldAddr 68 (Operand.tmp 33) 0), 0, some (30, false)⟩,
   ⟨some 35, (Op.load 40 (Operand.tmp 34)), 40, some (30, false)⟩,
   ⟨some 36, (Op.call { callee := (Callee.builtin Builtin.len), args := #[(Operand.tmp 35)], argTypes := #[40] }), 3, some (30, false)⟩,
   ⟨some 37, (Op.move (Operand.tmp 7)), 3, some (30, false)⟩,
   ⟨some 38, (Op.binOp BinOp.sub 3 (Operand.tmp 36) (Operand.tmp 37) 3), 3, some (30, false)⟩,
   ⟨some 39, (Op.binOp BinOp.gtr 3 (Operand.tmp 31) (Operand.tmp 38) 3), 4, some (30, false)⟩,
   ⟨some 40, (Op.pick (Operand.tmp 30) (Operand.const (Value.bool true)) (Operand.tmp 39)), 4, none⟩]
def r40_5 : List VOp :=
  [⟨some 4, (Op.assign (Operand.const (Value.string { data := #[] }))), 9, none⟩,
   ⟨some 5, (Op.assign (Operand.const (Value.int IntKind.i64 11))), 23, none⟩]
def r40_6 : List VOp :=
  [⟨some 41, (Op.move (Operand.tmp 0)), 48, none⟩,
   ⟨some 42, (Op.nilCheck (Operand.tmp 41)), 0, none⟩,
   ⟨some 43, (Op.fieldAddr 68 (Operand.tmp 42) 0), 0, none⟩,
   ⟨some 44, (Op.load 40 (Operand.tmp 43)), 40, none⟩,
   ⟨some 45, (Op.move (Operand.tmp 7)), 3, none⟩,
   ⟨some 46, (Op.move (Operand.tmp 7)), 3, none⟩,
   ⟨some 47, (Op.move (Operand.tmp 6)), 3, none⟩,
   ⟨some 48, (Op.binOp BinOp.add 3 (Operand.tmp 46) (Operand.tmp 47) 3), 3, none⟩,
   ⟨some 49, (Op.slice 40 (Operand.tmp 44) (some (Operand.tmp 45)) (some (Operand.tmp 48)) none), 40, none⟩,
   ⟨some 50, (Op.convert 40 9 (Operand.tmp 49)), 9, none⟩,
   ⟨some 8, (Op.assign (Operand.tmp 50)), 9, none⟩]
def r40_7 : List VOp :=
  [⟨some 51, (Op.move (Operand.tmp 0)), 48, none⟩,
   ⟨some 52, (Op.move (Operand.tmp 0)), 48, none⟩,
   ⟨some 53, (Op.nilCheck (Operand.tmp 52)), 0, none⟩,
   ⟨some 54, (Op.fieldAddr 68 (Operand.tmp 53) 0), 0, none⟩,
   ⟨some 55, (Op.load 40 (Operand.tmp 54)), 40, none⟩,
   ⟨some 56, (Op.move (Operand.tmp 7)), 3, none⟩,
   ⟨some 57, (Op.move (Operand.tmp 6)), 3, none⟩,
   ⟨some 58, (Op.binOp BinOp.add 3 (Operand.tmp 56) (Operand.tmp 57) 3), 3, none⟩,
   ⟨some 59, (Op.slice 40 (Operand.tmp 55) (some (Operand.tmp 58)) none none), 40, none⟩,
   ⟨some 60, (Op.nilCheck (Operand.tmp 51)), 0, none⟩,
   ⟨some 61, (Op.fieldAddr 68 (Operand.tmp 60) 0), 0, none⟩,
   ⟨none, (Op.store 40 (Operand.tmp 61) (Operand.tmp 59)), 0, none⟩]
def r40_8 : List VOp :=
  [⟨some 62, (Op.move (Operand.tmp 8)), 9, none⟩,
   ⟨some 4, (Op.assign (Operand.tmp 62)), 9, none⟩,
   ⟨some 5, (Op.assign (Operand.const (Value.int IntKind.i64 0))), 23, none⟩]
def B40 : VC :=
  (.seq (.region r40_0) (.seq (.seq (.region r40_1) (.cond (Operand.tmp 10) (.seq (.region r40_2) .ret) .skip)) (.seq (.region r40_3) (.seq (.seq (.region r40_4) (.cond (Operand.tmp 40) (.seq (.region r40_5) .ret) .skip)) (.seq (.region r40_6) (.seq (.region r40_7) (.seq (.region r40_8) .ret)))))))
theorem code40 : ∃ c, Try.f40.body = some c ∧ abs Try.f40.ntmps c = B40 := ⟨_, rfl, by kernel_rfl⟩
theorem hb40 : HasBody Try.prog 40 := hasBody_of Try.func40 (by kernel_rfl)
theorem res40 : Try.f40.results = #[(ResultVar.tmp 4), (ResultVar.tmp 5)] := rfl
theorem enter40 {w : World} {R : Value → World → Prop} (x0 x1 : Value) (h : vc Try.prog B40 (retK Try.prog #[(ResultVar.tmp 4), (ResultVar.tmp 5)] R) [] (initEnv [x0, x1] 0) w) : FnC Try.prog 40 #[x0, x1] w R := by
  obtain ⟨c, h1, h2⟩ := code40
  exact hb40.fn (ret_of_vc mixed Try.func40 h1 (Nat.le_of_ble_eq_true rfl) B40 h2 h)
@[push_cast] theorem vr40_0 (Q : Post) (ds : List Deferred) (σ : Env) (w : World) : vc Try.prog (.region r40_0) Q ds σ w = vcOps Try.prog [⟨some 4, (Op.assign (Operand.const (Value.string { data := #[] }))), 9, none⟩, ⟨some 5, (Op.assign (Operand.const (Value.int IntKind.i64 0))), 23, none⟩] (Q .normal ds) σ w := mk_eq rfl
@[push_cast] theorem vr40_1 (Q : Post) (ds : List Deferred) (σ : Env) (w : World) : vc Try.prog (.region r40_1) Q ds σ w = vcOps Try.prog [⟨some 9, (Op.move (Operand.tmp 0)), 48, none⟩, ⟨some 10, (Op.binOp BinOp.eql 48 (Operand.tmp 9) (Operand.const (Value.pointer none)) 48), 4, none⟩] (Q .normal ds) σ w := mk_eq rfl
@[push_cast] theorem vr40_2 (Q : Post) (ds : List Deferred) (σ : Env) (w : World) : vc Try.prog (.region r40_2) Q ds σ w = vcOps Try.prog [⟨some 4, (Op.assign (Operand.const (Value.string { data := #[] }))), 9, none⟩, ⟨some 5, (Op.assign (Operand.const (Value.int IntKind.i64 1))), 23, none⟩] (Q .normal ds) σ w := mk_eq rfl
@[push_cast] theorem vr40_3 (Q : Post) (ds : List Deferred) (σ : Env) (w : World) : vc Try.prog (.region r40_3) Q ds σ w = vcOps Try.prog [⟨some 12, (Op.move (Operand.tmp 0)), 48, none⟩, ⟨some 13, (Op.nilCheck (Operand.tmp 12)), 0, none⟩, ⟨some 14, (Op.fieldAddr 68 (Operand.tmp 13) 0), 0, none⟩, ⟨some 15, (Op.load 40 (Operand.tmp 14)), 40, none⟩, ⟨some 16, (Op.call { callee := (Callee.value (Operand.func 51)), args := #[(Operand.tmp 15)], argTypes := #[40] }), 69, none⟩, ⟨some 11, (Op.move (Operand.tmp 16)), 69, none⟩, ⟨some 17, (Op.extract (Operand.tmp 11) 0), 3, none⟩, ⟨some 18, (Op.extract (Operand.tmp 11) 1), 3, none⟩, ⟨some 6, (Op.assign (Operand.tmp 17)), 3, none⟩, ⟨some 7, (Op.assign (Operand.tmp 18)), 3, none⟩] (Q .normal ds) σ w := mk_eq rfl
@[push_cast] theorem vr40_4 (Q : Post) (ds : List Deferred) (σ : Env) (w : World) : vc Try.prog (.region r40_4) Q ds σ w = vcOps Try.prog [⟨some 19, (Op.move (Operand.tmp 7)), 3, none⟩, ⟨some 20, (Op.binOp BinOp.eql 3 (Operand.tmp 19) (Operand.const (Value.int IntKind.i64 0)) 3), 4, none⟩, ⟨some 21, (Op.move (Operand.tmp 20)), 4, none⟩, ⟨some 22, (Op.move (Operand.tmp 6)), 3, some (21, false)⟩, ⟨some 23, (Op.binOp BinOp.lss 3 (Operand.tmp 22) (Operand.const (Value.int IntKind.i64 0)) 3), 4, some (21, false)⟩, ⟨some 24, (Op.pick (Operand.tmp 21) (Operand.const (Value.bool true)) (Operand.tmp 23)), 4, none⟩, ⟨some 25, (Op.move (Operand.tmp 24)), 4, none⟩, ⟨some 26, (Op.move (Operand.tmp 6)), 3, some (25, false)⟩, ⟨some 27, (Op.move (Operand.tmp 1)), 3, some (25, false)⟩, ⟨some 28, (Op.binOp BinOp.gtr 3 (Operand.tmp 26) (Operand.tmp 27) 3), 4, some (25, false)⟩, ⟨some 29, (Op.pick (Operand.tmp 25) (Operand.const (Value.bool true)) (Operand.tmp 28)), 4, none⟩, ⟨some 30, (Op.move (Operand.tmp 29)), 4, none⟩, ⟨some 31, (Op.move (Operand.tmp 6)), 3, some (30, false)⟩, ⟨some 32, (Op.move (Operand.tmp 0)), 48, some (30, false)⟩, ⟨some 33, (Op.nilCheck (Operand.tmp 32)), 0, some (30, false)⟩, ⟨some 34, (Op.fieldAddr 68 (Operand.tmp 33) 0), 0, some (30, false)⟩, ⟨some 35, (Op.load 40 (Operand.tmp 34)), 40, some (30, false)⟩, ⟨some 36, (Op.call { callee := (Callee.builtin Builtin.len), args := #[(Operand.tmp 35)], argTypes := #[40] }), 3, some (30, false)⟩, ⟨some 37, (Op.move (Operand.tmp 7)), 3, some (30, false)⟩, ⟨some 38, (Op.binOp BinOp.sub 3 (Operand.tmp 36) (Operand.tmp 37) 3), 3, some (30, false)⟩, ⟨some 39, (Op.binOp BinOp.gtr 3 (Operand.tmp 31) (Operand.tmp 38) 3), 4, some (30, false)⟩, ⟨some 40, (Op.pick (Operand.tmp 30) (Operand.const (Value.bool true)) (Operand.tmp 39)), 4, none⟩] (Q .normal ds) σ w := mk_eq rfl
@[push_cast] theorem vr40_5 (Q : Post) (ds : List Deferred) (σ : Env) (w : World) : vc Try.prog (.region r40_5) Q ds σ w = vcOps Try.prog [⟨some 4, (Op.assign (Operand.const (Value.string { data := #[] }))), 9, none⟩, ⟨some 5, (Op.assign (Operand.const (Value.int IntKind.i64 11))), 23, none⟩] (Q .normal ds) σ w := mk_eq rfl
@[push_cast] theorem vr40_6 (Q : Post) (ds : List Deferred) (σ : Env) (w : World) : vc Try.prog (.region r40_6) Q ds σ w = vcOps Try.prog [⟨some 41, (Op.move (Operand.tmp 0)), 48, none⟩, ⟨some 42, (Op.nilCheck (Operand.tmp 41)), 0, none⟩, ⟨some 43, (Op.fieldAddr 68 (Operand.tmp 42) 0), 0, none⟩, ⟨some 44, (Op.load 40 (Operand.tmp 43)), 40, none⟩, ⟨some 45, (Op.move (Operand.tmp 7)), 3, none⟩, ⟨some 46, (Op.move (Operand.tmp 7)), 3, none⟩, ⟨some 47, (Op.move (Operand.tmp 6)), 3, none⟩, ⟨some 48, (Op.binOp BinOp.add 3 (Operand.tmp 46) (Operand.tmp 47) 3), 3, none⟩, ⟨some 49, (Op.slice 40 (Operand.tmp 44) (some (Operand.tmp 45)) (some (Operand.tmp 48)) none), 40, none⟩, ⟨some 50, (Op.convert 40 9 (Operand.tmp 49)), 9, none⟩, ⟨some 8, (Op.assign (Operand.tmp 50)), 9, none⟩] (Q .normal ds) σ w := mk_eq rfl
@[push_cast] theorem vr40_7 (Q : Post) (ds : List Deferred) (σ : Env) (w : World) : vc Try.prog (.region r40_7) Q ds σ w = vcOps Try.prog [⟨some 51, (Op.move (Operand.tmp 0)), 48, none⟩, ⟨some 52, (Op.move (Operand.tmp 0)), 48, none⟩, ⟨some 53, (Op.nilCheck (Operand.tmp 52)), 0, none⟩, ⟨some 54, (Op.fieldAddr 68 (Operand.tmp 53) 0), 0, none⟩, ⟨some 55, (Op.load 40 (Operand.tmp 54)), 40, none⟩, ⟨some 56, (Op.move (Operand.tmp 7)), 3, none⟩, ⟨some 57, (Op.move (Operand.tmp 6)), 3, none⟩, ⟨some 58, (Op.binOp BinOp.add 3 (Operand.tmp 56) (Operand.tmp 57) 3), 3, none⟩, ⟨some 59, (Op.slice 40 (Operand.tmp 55) (some (Operand.tmp 58)) none none), 40, none⟩, ⟨some 60, (Op.nilCheck (Operand.tmp 51)), 0, none⟩, ⟨some 61, (Op.fieldAddr 68 (Operand.tmp 60) 0), 0, none⟩, ⟨none, (Op.store 40 (Operand.tmp 61) (Operand.tmp 59)), 0, none⟩] (Q .normal ds) σ w := mk_eq rfl
@[push_cast] theorem vr40_8 (Q : Post) (ds : List Deferred) (σ : Env) (w : World) : vc Try.prog (.region r40_8) Q ds σ w = vcOps Try.prog [⟨some 62, (Op.move (Operand.tmp 8)), 9, none⟩, ⟨some 4, (Op.assign (Operand.tmp 62)), 9, none⟩, ⟨some 5, (Op.assign (Operand.const (Value.int IntKind.i64 0))), 23, none⟩] (Q .normal ds) σ w := mk_eq rfl
/-! 41 (*columbary/zig.Reader).Left (params #[48], results #[(ResultVar.tmp 2)], 10 slots) -/
def r41_0 : List VOp :=
  [⟨some 2, (Op.assign (Operand.const (Value.int IntKind.i64 0))), 3, none⟩]
def r41_1 : List VOp :=
  [⟨some 3, (Op.move (Operand.tmp 0)), 48, none⟩,
   ⟨some 4, (Op.binOp BinOp.eql 48 (Operand.tmp 3) (Operand.const (Value.pointer none)) 48), 4, none⟩]
def r41_2 : List VOp :=
  [⟨some 2, (Op.assign (Operand.const (Value.int IntKind.i64 0))), 3, none⟩]
def r41_3 : List VOp :=
  [⟨some 5, (Op.move (Operand.tmp 0)), 48, none⟩,
   ⟨some 6, (Op.nilCheck (Operand.tmp 5)), 0, none⟩,
   ⟨some 7, (Op.fieldAddr 68 (Operand.tmp 6) 0), 0, none⟩,
   ⟨some 8, (Op.load 40 (Operand.tmp 7)), 40, none⟩,
   ⟨some 9, (Op.call { callee := (Callee.builtin Builtin.len), args := #[(Operand.tmp 8)], argTypes := #[40] }), 3, none⟩,
   ⟨some 2, (Op.assign (Operand.tmp 9)), 3, none⟩]
def B41 : VC :=
  (.seq (.region r41_0) (.seq (.seq (.region r41_1) (.cond (Operand.tmp 4) (.seq (.region r41_2) .ret) .skip)) (.seq (.region r41_3) .ret)))
theorem code41 : ∃ c, Try.f41.body = some c ∧ abs Try.f41.ntmps c = B41 := ⟨_, rfl, by kernel_rfl⟩
theorem hb41 : HasBody Try.prog 41 := hasBody_of Try.func41 (by kernel_rfl)
theorem res41 : Try.f41.results = #[(ResultVar.tmp 2)] := rfl
theorem enter41 {w : World} {R : Value → World → Prop} (x0 : Value) (h : vc Try.prog B41 (retK Try.prog #[(ResultVar.tmp 2)] R) [] (initEnv [x0] 0) w) : FnC Try.prog 41 #[x0] w R := by
  obtain ⟨c, h1, h2⟩ := code41
  exact hb41.fn (ret_of_vc mixed Try.func41 h1 (Nat.le_of_ble_eq_true rfl) B41 h2 h)
@[push_cast] theorem vr41_0 (Q : Post) (ds : List Deferred) (σ : Env) (w : World) : vc Try.prog (.region r41_0) Q ds σ w = vcOps Try.prog [⟨some 2, (Op.assign (Operand.const (Value.int IntKind.i64 0))), 3, none⟩] (Q .normal ds) σ w := mk_eq rfl
@[push_cast] theorem vr41_1 (Q : Post) (ds : List Deferred) (σ : Env) (w : World) : vc Try.prog (.region r41_1) Q ds σ w = vcOps Try.prog [⟨some 3, (Op.move (Operand.tmp 0)), 48, none⟩, ⟨some 4, (Op.binOp BinOp.eql 48 (Operand.tmp 3) (Operand.const (Value.pointer none)) 48), 4, none⟩] (Q .normal ds) σ w := mk_eq rfl
@[push_cast] theorem vr41_2 (Q : Post) (ds : List Deferred) (σ : Env) (w : World) : vc Try.prog (.region r41_2) Q ds σ w = vcOps Try.prog [⟨some 2, (Op.assign (Operand.const (Value.int IntKind.i64 0))), 3, none⟩] (Q .normal ds) σ w := mk_eq rfl
@[push_cast] theorem vr41_3 (Q : Post) (ds : List Deferred) (σ : Env) (w : World) : vc Try.prog (.region r41_3) Q ds σ w = vcOps Try.prog [⟨some 5, (Op.move (Operand.tmp 0)), 48, none⟩, ⟨some 6, (Op.nilCheck (Operand.tmp 5)), 0, none⟩, ⟨some 7, (Op.fieldAddr 68 (Operand.tmp 6) 0), 0, none⟩, ⟨some 8, (Op.load 40 (Operand.tmp 7)), 40, none⟩, ⟨some 9, (Op.call { callee := (Callee.builtin Builtin.len), args := #[(Operand.tmp 8)], argTypes := #[40] }), 3, none⟩, ⟨some 2, (Op.assign (Operand.tmp 9)), 3, none⟩] (Q .normal ds) σ w := mk_eq rfl
/-! 42 (*columbary/columbaryref01.Reader).Int (params #[55, 3, 3], results #[(ResultVar.tmp 6), (ResultVar.tmp 7)], 43 slots) -/
def r42_0 : List VOp :=
  [⟨some 6, (Op.assign (Operand.const (Value.int IntKind.i64 0))), 3, none⟩,
   ⟨some 7, (Op.assign (Operand.const (Value.int IntKind.i64 0))), 23, none⟩]
def r42_1 : List VOp :=
  [⟨some 12, (Op.move (Operand.tmp 0)), 55, none⟩,
   ⟨some 13, (Op.call { callee := (Callee.value (Operand.func 52)), args := #[(Operand.tmp 12)], argTypes := #[55] }), 71, none⟩,
   ⟨some 11, (Op.move (Operand.tmp 13)), 71, none⟩,
   ⟨some 14, (Op.extract (Operand.tmp 11) 0), 35, none⟩,
   ⟨some 15, (Op.extract (Operand.tmp 11) 1), 3, none⟩,
   ⟨some 8, (Op.assign (Operand.tmp 14)), 35, none⟩,
   ⟨some 9, (Op.assign (Operand.tmp 15)), 3, none⟩]
def r42_2 : List VOp :=
  [⟨some 16, (Op.move (Operand.tmp 8)), 35, none⟩,
   ⟨some 17, (Op.call { callee := (Callee.value (Operand.func 33)), args := #[(Operand.tmp 16)], argTypes := #[35] }), 3, none⟩,
   ⟨some 10, (Op.assign (Operand.tmp 17)), 3, none⟩]
def r42_3 : List VOp :=
  [⟨some 18, (Op.move (Operand.tmp 9)), 3, none⟩,
   ⟨some 19, (Op.binOp BinOp.eql 3 (Operand.tmp 18) (Operand.const (Value.int IntKind.i64 0)) 3), 4, none⟩,
   ⟨some 20, (Op.move (Operand.tmp 19)), 4, none⟩,
   ⟨some 21, (Op.move (Operand.tmp 10)), 3, some (20, false)⟩,
   ⟨some 22, (Op.move (Operand.tmp 1)), 3, some (20, false)⟩,
   ⟨some 23, (Op.binOp BinOp.lss 3 (Operand.tmp 21) (Operand.tmp 22) 3), 4, some (20, false)⟩,
   ⟨some 24, (Op.pick (Operand.tmp 20) (Operand.const (Value.bool true)) (Operand.tmp 23)), 4, none⟩,
   ⟨some 25, (Op.move (Operand.tmp 24)), 4, none⟩,
   ⟨some 26, (Op.move (Operand.tmp 10)), 3, some (25, false)⟩,
   ⟨some 27, (Op.move (Operand.tmp 2)), 3, some (25, false)⟩,
   ⟨some 28, (Op.binOp BinOp.gtr 3 (Operand.tmp 26) (Operand.tmp 27) 3), 4, some (25, false)⟩,
   ⟨some 29, (Op.pick (Operand.tmp 25) (Operand.const (Value.bool true)) (Operand.tmp 28)), 4, none⟩]
def r42_4 : List VOp :=
  [⟨some 30, (Op.move (Operand.tmp 0)), 55, none⟩,
   ⟨some 31, (Op.nilCheck (Operand.tmp 30)), 0, none⟩,
   ⟨some 32, (Op.fieldAddr 57 (Operand.tmp 31) 2), 0, none⟩,
   ⟨none, (Op.store 4 (Operand.tmp 32) (Operand.const (Value.bool true))), 0, none⟩]
def r42_5 : List VOp :=
  [⟨some 6, (Op.assign (Operand.const (Value.int IntKind.i64 0))), 3, none⟩,
   ⟨some 7, (Op.assign (Operand.const (Value.int IntKind.i64 11))), 23, none⟩]
def r42_6 : List VOp :=
  [⟨some 33, (Op.move (Operand.tmp 0)), 55, none⟩,
   ⟨some 34, (Op.move (Operand.tmp 0)), 55, none⟩,
   ⟨some 35, (Op.nilCheck (Operand.tmp 34)), 0, none⟩,
   ⟨some 36, (Op.fieldAddr 57 (Operand.tmp 35) 1), 0, none⟩,
   ⟨some 37, (Op.load 3 (Operand.tmp 36)), 3, none⟩,
   ⟨some 38, (Op.move (Operand.tmp 9)), 3, none⟩,
   ⟨some 39, (Op.binOp BinOp.add 3 (Operand.tmp 37) (Operand.tmp 38) 3), 3, none⟩,
   ⟨some 40, (Op.nilCheck (Operand.tmp 33)), 0, none⟩,
   ⟨some 41, (Op.fieldAddr 57 (Operand.tmp 40) 1), 0, none⟩,
   ⟨none, (Op.store 3 (Operand.tmp 41) (Operand.tmp 39)), 0, none⟩]
def r42_7 : List VOp :=
  [⟨some 42, (Op.move (Operand.tmp 10)), 3, none⟩,
   ⟨some 6, (Op.assign (Operand.tmp 42)), 3, none⟩,
   ⟨some 7, (Op.assign (Operand.const (Value.int IntKind.i64 0))), 23, none⟩]
def B42 : VC :=
  (.seq (.region r42_0) (.seq (.region r42_1) (.seq (.region r42_2) (.seq (.seq (.region r42_3) (.cond (Operand.tmp 29) (.seq (.region r42_4) (.seq (.region r42_5) .ret)) .skip)) (.seq (.region r42_6) (.seq (.region r42_7) .ret))))))
theorem code42 : ∃ c, Try.f42.body = some c ∧ abs Try.f42.ntmps c = B42 := ⟨_, rfl, by kernel_rfl⟩
theorem hb42 : HasBody Try.prog 42 := hasBody_of Try.func42 (by kernel_rfl)
theorem res42 : Try.f42.results = #[(ResultVar.tmp 6), (ResultVar.tmp 7)] := rfl
theorem enter42 {w : World} {R : Value → World → Prop} (x0 x1 x2 : Value) (h : vc Try.prog B42 (retK Try.prog #[(ResultVar.tmp 6), (ResultVar.tmp 7)] R) [] (initEnv [x0, x1, x2] 0) w) : FnC Try.prog 42 #[x0, x1, x2] w R := by
  obtain ⟨c, h1, h2⟩ := code42
  exact hb42.fn (ret_of_vc mixed Try.func42 h1 (Nat.le_of_ble_eq_true rfl) B42 h2 h)
@[push_cast] theorem vr42_0 (Q : Post) (ds : List Deferred) (σ : Env) (w : World) : vc Try.prog (.region r42_0) Q ds σ w = vcOps Try.prog [⟨some 6, (Op.assign (Operand.const (Value.int IntKind.i64 0))), 3, none⟩, ⟨some 7, (Op.assign (Operand.const (Value.int IntKind.i64 0))), 23, none⟩] (Q .normal ds) σ w := mk_eq rfl
@[push_cast] theorem vr42_1 (Q : Post) (ds : List Deferred) (σ : Env) (w : World) : vc Try.prog (.region r42_1) Q ds σ w = vcOps Try.prog [⟨some 12, (Op.move (Operand.tmp 0)), 55, none⟩, ⟨some 13, (Op.call { callee := (Callee.value (Operand.func 52)), args := #[(Operand.tmp 12)], argTypes := #[55] }), 71, none⟩, ⟨some 11, (Op.move (Operand.tmp 13)), 71, none⟩, ⟨some 14, (Op.extract (Operand.tmp 11) 0), 35, none⟩, ⟨some 15, (Op.extract (Operand.tmp 11) 1), 3, none⟩, ⟨some 8, (Op.assign (Operand.tmp 14)), 35, none⟩, ⟨some 9, (Op.assign (Operand.tmp 15)), 3, none⟩] (Q .normal ds) σ w := mk_eq rfl
@[push_cast] theorem vr42_2 (Q : Post) (ds : List Deferred) (σ : Env) (w : World) : vc Try.prog (.region r42_2) Q ds σ w = vcOps Try.prog [⟨some 16, (Op.move (Operand.tmp 8)), 35, none⟩, ⟨some 17, (Op.call { callee := (Callee.value (Operand.func 33)), args := #[(Operand.tmp 16)], argTypes := #[35] }), 3, none⟩, ⟨some 10, (Op.assign (Operand.tmp 17)), 3, none⟩] (Q .normal ds) σ w := mk_eq rfl
@[push_cast] theorem vr42_3 (Q : Post) (ds : List Deferred) (σ : Env) (w : World) : vc Try.prog (.region r42_3) Q ds σ w = vcOps Try.prog [⟨some 18, (Op.move (Operand.tmp 9)), 3, none⟩, ⟨some 19, (Op.binOp BinOp.eql 3 (Operand.tmp 18) (Operand.const (Value.int IntKind.i64 0)) 3), 4, none⟩, ⟨some 20, (Op.move (Operand.tmp 19)), 4, none⟩, ⟨some 21, (Op.move (Operand.tmp 10)), 3, some (20, false)⟩, ⟨some 22, (Op.move (Operand.tmp 1)), 3, some (20, false)⟩, ⟨some 23, (Op.binOp BinOp.lss 3 (Operand.tmp 21) (Operand.tmp 22) 3), 4, some (20, false)⟩, ⟨some 24, (Op.pick (Operand.tmp 20) (Operand.const (Value.bool true)) (Operand.tmp 23)), 4, none⟩, ⟨some 25, (Op.move (Operand.tmp 24)), 4, none⟩, ⟨some 26, (Op.move (Operand.tmp 10)), 3, some (25, false)⟩, ⟨some 27, (Op.move (Operand.tmp 2)), 3, some (25, false)⟩, ⟨some 28, (Op.binOp BinOp.gtr 3 (Operand.tmp 26) (Operand.tmp 27) 3), 4, some (25, false)⟩, ⟨some 29, (Op.pick (Operand.tmp 25) (Operand.const (Value.bool true)) (Operand.tmp 28)), 4, none⟩] (Q .normal ds) σ w := mk_eq rfl
@[push_cast] theorem vr42_4 (Q : Post) (ds : List Deferred) (σ : Env) (w : World) : vc Try.prog (.region r42_4) Q ds σ w = vcOps Try.prog [⟨some 30, (Op.move (Operand.tmp 0)), 55, none⟩, ⟨some 31, (Op.nilCheck (Operand.tmp 30)), 0, none⟩, ⟨some 32, (Op.fieldAddr 57 (Operand.tmp 31) 2), 0, none⟩, ⟨none, (Op.store 4 (Operand.tmp 32) (Operand.const (Value.bool true))), 0, none⟩] (Q .normal ds) σ w := mk_eq rfl
@[push_cast] theorem vr42_5 (Q : Post) (ds : List Deferred) (σ : Env) (w : World) : vc Try.prog (.region r42_5) Q ds σ w = vcOps Try.prog [⟨some 6, (Op.assign (Operand.const (Value.int IntKind.i64 0))), 3, none⟩, ⟨some 7, (Op.assign (Operand.const (Value.int IntKind.i64 11))), 23, none⟩] (Q .normal ds) σ w := mk_eq rfl
@[push_cast] theorem vr42_6 (Q : Post) (ds : List Deferred) (σ : Env) (w : World) : vc Try.prog (.region r42_6) Q ds σ w = vcOps Try.prog [⟨some 33, (Op.move (Operand.tmp 0)), 55, none⟩, ⟨some 34, (Op.move (Operand.tmp 0)), 55, none⟩, ⟨some 35, (Op.nilCheck (Operand.tmp 34)), 0, none⟩, ⟨some 36, (Op.fieldAddr 57 (Operand.tmp 35) 1), 0, none⟩, ⟨some 37, (Op.load 3 (Operand.tmp 36)), 3, none⟩, ⟨some 38, (Op.move (Operand.tmp 9)), 3, none⟩, ⟨some 39, (Op.binOp BinOp.add 3 (Operand.tmp 37) (Operand.tmp 38) 3), 3, none⟩, ⟨some 40, (Op.nilCheck (Operand.tmp 33)), 0, none⟩, ⟨some 41, (Op.fieldAddr 57 (Operand.tmp 40) 1), 0, none⟩, ⟨none, (Op.store 3 (Operand.tmp 41) (Operand.tmp 39)), 0, none⟩] (Q .normal ds) σ w := mk_eq rfl
@[push_cast] theorem vr42_7 (Q : Post) (ds : List Deferred) (σ : Env) (w : World) : vc Try.prog (.region r42_7) Q ds σ w = vcOps Try.prog [⟨some 42, (Op.move (Operand.tmp 10)), 3, none⟩, ⟨some 6, (Op.assign (Operand.tmp 42)), 3, none⟩, ⟨some 7, (Op.assign (Operand.const (Value.int IntKind.i64 0))), 23, none⟩] (Q .normal ds) σ w := mk_eq rfl
/-! 43 (*columbary/columbaryref01.Reader).Text (params #[55, 3], results #[(ResultVar.tmp 4), (ResultVar.tmp 5)], 67 slots) -/
def r43_0 : List VOp :=
  [⟨some 4, (Op.assign (Operand.const (Value.string { data := #[] }))), 9, none⟩,
   ⟨some 5, (Op.assign (Operand.const (Value.int IntKind.i64 0))), 23, none⟩]
def r43_1 : List VOp :=
  [⟨some 9, (Op.move (Operand.tmp 0)), 55, none⟩,
   ⟨some 10, (Op.nilCheck (Operand.tmp 9)), 0, none⟩,
   ⟨some 11, (Op.fieldAddr 57 (Operand.tmp 10) 1), 0, none⟩,
   ⟨some 12, (Op.load 3 (Operand.tmp 11)), 3, none⟩,
   ⟨some 6, (Op.assign (Operand.tmp 12)), 3, none⟩]
def r43_2 : List VOp :=
  [⟨some 14, (Op.move (Operand.tmp 0)), 55, none⟩,
   ⟨some 15, (Op.move (Operand.tmp 1)), 3, none⟩,
   ⟨some 16, (Op.call { callee := (Callee.value (Operand.func 42)), args := #[(Operand.tmp 14), (Operand.const (Value.int IntKind.i64 0)), (Operand.tmp 15)], argTypes := #[55, 3, 3] }), 30, none⟩,
   ⟨some 13, (Op.move (Operand.tmp 16)), 30, none⟩,
   ⟨some 17, (Op.extract (Operand.tmp 13) 0), 3, none⟩,
   ⟨some 18, (Op.extract (Operand.tmp 13) 1), 23, none⟩,
   ⟨some 7, (Op.assign (Operand.tmp 17)), 3, none⟩,
   ⟨some 8, (Op.assign (Operand.tmp 18)), 23, none⟩]
def r43_3 : List VOp :=
  [⟨some 19, (Op.move (Operand.tmp 8)), 23, none⟩,
   ⟨some 20, (Op.binOp BinOp.neq 23 (Operand.tmp 19) (Operand.const (Value.int IntKind.i64 0)) 23), 4, none⟩,
   ⟨some 21, (Op.move (Operand.tmp 20)), 4, none⟩,
   ⟨some 22, (Op.move (Operand.tmp 7)), 3, some (21, false)⟩,
   ⟨some 23, (Op.move (Operand.tmp 0)), 55, some (21, false)⟩,
   ⟨some 24, (Op.nilCheck (Operand.tmp 23)), 0, some (21, false)⟩,
   ⟨some 25, (Op.fieldAddr 57 (Operand.tmp 24) 0), 0, some (21, false)⟩,
   ⟨some 26, (Op.load 40 (Operand.tmp 25)), 40, some (21, false)⟩,
   ⟨some 27, (Op.call { callee := (Callee.builtin Builtin.len), args := #[(Operand.tmp 26)], argTypes := #[40] }), 3, some (21, false)⟩,
   ⟨some 28, (Op.move (Operand.tmp 0)), 55, some (21, false)⟩,
   ⟨some 29, (Op.nilCheck (Operand.tmp 28)), 0, some (21, false)⟩,
   ⟨some 30, (Op.fieldAddr 57 (Operand.tmp 29) 1), 0, some (21, false)⟩,
   ⟨some 31, (Op.load 3 (Operand.tmp 30)), 3, some (21, false)⟩,
   ⟨some 32, (Op.binOp BinOp.sub 3 (Operand.tmp 27) (Operand.tmp 31) 3), 3, some (21, false)⟩,
   ⟨some 33, (Op.binOp BinOp.gtr 3 (Operand.tmp 22) (Operand.tmp 32) 3), 4, some (21, false)⟩,
   ⟨some 34, (Op.pick (Operand.tmp 21) (Operand.const (Value.bool true)) (Operand.tmp 33)), 4, none⟩]
def r43_4 : List VOp :=
  [⟨some 35, (Op.move (Operand.tmp 0)), 55, none⟩,
   ⟨some 36, (Op.move (Operand.tmp 6)), 3, none⟩,
   ⟨some 37, (Op.nilCheck (Operand.tmp 35)), 0, none⟩,
   ⟨some 38, (Op.fieldAddr 57 (Operand.tmp 37) 1), 0, none⟩,
   ⟨none, (Op.store 3 (Operand.tmp 38) (Operand.tmp 36)), 0, none⟩]
def r43_5 : List VOp :=
  [⟨some 39, (Op.move (Operand.tmp 0)), 55, none⟩,
   ⟨some 40, (Op.nilCheck (Operand.tmp 39)), 0, none⟩,
   ⟨some 41, (Op.fieldAddr 57 (Operand.tmp 40) 2), 0, none⟩,
   ⟨none, (Op.store 4 (Operand.tmp 41) (Operand.const (Value.bool true))), 0, none⟩]
def r43_6 : List VOp :=
  [⟨some 4, (Op.assign (Operand.const (Value.string { data := #[] }))), 9, none⟩,
   ⟨some 5, (Op.assign (Operand.const (Value.int IntKind.i64 11))), 23, none⟩]
def r43_7 : List VOp :=
  [⟨some 42, (Op.move (Operand.tmp 0)), 55, none⟩,
   ⟨some 43, (Op.move (Operand.tmp 0)), 55, none⟩,
   ⟨some 44, (Op.nilCheck (Operand.tmp 43)), 0, none⟩,
   ⟨some 45, (Op.fieldAddr 57 (Operand.tmp 44) 1), 0, none⟩,
   ⟨some 46, (Op.load 3 (Operand.tmp 45)), 3, none⟩,
   ⟨some 47, (Op.move (Operand.tmp 7)), 3, none⟩,
   ⟨some 48, (Op.binOp BinOp.add 3 (Operand.tmp 46) (Operand.tmp 47) 3), 3, none⟩,
   ⟨some 49, (Op.nilCheck (Operand.tmp 42)), 0, none⟩,
   ⟨some 50, (Op.fieldAddr 57 (Operand.tmp 49) 1), 0, none⟩,
   ⟨none, (Op.store 3 (Operand.tmp 50) (Operand.tmp 48)), 0, none⟩]
def r43_8 : List VOp :=
  [⟨some 51, (Op.move (Operand.tmp 0)), 55, none⟩,
   ⟨some 52, (Op.nilCheck (Operand.tmp 51)), 0, none⟩,
   ⟨some 53, (Op.fieldAddr 57 (Operand.tmp 52) 0), 0, none⟩,
   ⟨some 54, (Op.load 40 (Operand.tmp 53)), 40, none⟩,
   ⟨some 55, (Op.move (Operand.tmp 0)), 55, none⟩,
   ⟨some 56, (Op.nilCheck (Operand.tmp 55)), 0, none⟩,
   ⟨some 57, (Op.fieldAddr 57 (Operand.tmp 56) 1), 0, none⟩,
   ⟨some 58, (Op.load 3 (Operand.tmp 57)), 3, none⟩,
   ⟨some 59, (Op.move (Operand.tmp 7)), 3, none⟩,
   ⟨some 60, (Op.binOp BinOp.sub 3 (Operand.tmp 58) (Operand.tmp 59) 3), 3, none⟩,
   ⟨some 61, (Op.move (Operand.tmp 0)), 55, none⟩,
   ⟨some 62, (Op.nilCheck (Operand.tmp 61)), 0, none⟩,
   ⟨some 63, (Op.fieldAddr 57 (Operand.tmp 62) 1), 0, none⟩,
   ⟨some 64, (Op.load 3 (Operand.tmp 63)), 3, none⟩,
   ⟨some 65, (Op.slice 40 (Operand.tmp 54) (some (Operand.tmp 60)) (some (Operand.tmp 64)) none), 40, none⟩,
   ⟨some 66, (Op.convert 40 9 (Operand.tmp 65)), 9, none⟩,
   ⟨some 4, (Op.assign (Operand.tmp 66)), 9, none⟩,
   ⟨some 5, (Op.assign (Operand.const (Value.int IntKind.i64 0))), 23, none⟩]
def B43 : VC :=
  (.seq (.region r43_0) (.seq (.region r43_1) (.seq (.region r43_2) (.seq (.seq (.draw r43_3 true) (.cond (Operand.tmp 34) (.seq (.region r43_4) (.seq (.region r43_5) (.seq (.region r43_6) .ret))) .skip)) (.seq (.region r43_7) (.seq (.draw r43_8 true) .ret))))))
theorem code43 : ∃ c, Try.f43.body = some c ∧ abs Try.f43.ntmps c = B43 := ⟨_, rfl, by kernel_rfl⟩
theorem hb43 : HasBody Try.prog 43 := hasBody_of Try.func43 (by kernel_rfl)
theorem res43 : Try.f43.results = #[(ResultVar.tmp 4), (ResultVar.tmp 5)] := rfl
theorem enter43 {w : World} {R : Value → World → Prop} (x0 x1 : Value) (h : vc Try.prog B43 (retK Try.prog #[(ResultVar.tmp 4), (ResultVar.tmp 5)] R) [] (initEnv [x0, x1] 0) w) : FnC Try.prog 43 #[x0, x1] w R := by
  obtain ⟨c, h1, h2⟩ := code43
  exact hb43.fn (ret_of_vc mixed Try.func43 h1 (Nat.le_of_ble_eq_true rfl) B43 h2 h)
@[push_cast] theorem vr43_0 (Q : Post) (ds : List Deferred) (σ : Env) (w : World) : vc Try.prog (.region r43_0) Q ds σ w = vcOps Try.prog [⟨some 4, (Op.assign (Operand.const (Value.string { data := #[] }))), 9, none⟩, ⟨some 5, (Op.assign (Operand.const (Value.int IntKind.i64 0))), 23, none⟩] (Q .normal ds) σ w := mk_eq rfl
@[push_cast] theorem vr43_1 (Q : Post) (ds : List Deferred) (σ : Env) (w : World) : vc Try.prog (.region r43_1) Q ds σ w = vcOps Try.prog [⟨some 9, (Op.move (Operand.tmp 0)), 55, none⟩, ⟨some 10, (Op.nilCheck (Operand.tmp 9)), 0, none⟩, ⟨some 11, (Op.fieldAddr 57 (Operand.tmp 10) 1), 0, none⟩, ⟨some 12, (Op.load 3 (Operand.tmp 11)), 3, none⟩, ⟨some 6, (Op.assign (Operand.tmp 12)), 3, none⟩] (Q .normal ds) σ w := mk_eq rfl
@[push_cast] theorem vr43_2 (Q : Post) (ds : List Deferred) (σ : Env) (w : World) : vc Try.prog (.region r43_2) Q ds σ w = vcOps Try.prog [⟨some 14, (Op.move (Operand.tmp 0)), 55, none⟩, ⟨some 15, (Op.move (Operand.tmp 1)), 3, none⟩, ⟨some 16, (Op.call { callee := (Callee.value (Operand.func 42)), args := #[(Operand.tmp 14), (Operand.const (Value.int IntKind.i64 0)), (Operand.tmp 15)], argTypes := #[55, 3, 3] }), 30, none⟩, ⟨some 13, (Op.move (Operand.tmp 16)), 30, none⟩, ⟨some 17, (Op.extract (Operand.tmp 13) 0), 3, none⟩, ⟨some 18, (Op.extract (Operand.tmp 13) 1), 23, none⟩, ⟨some 7, (Op.assign (Operand.tmp 17)), 3, none⟩, ⟨some 8, (Op.assign (Operand.tmp 18)), 23, none⟩] (Q .normal ds) σ w := mk_eq rfl
@[push_cast] theorem vr43_3 (Q : Post) (ds : List Deferred) (σ : Env) (w : World) : vc Try.prog (.draw r43_3 true) Q ds σ w = drawn Try.prog [(⟨some 19, (Op.move (Operand.tmp 8)), 23, none⟩, [8]), (⟨some 20, (Op.binOp BinOp.neq 23 (Operand.tmp 19) (Operand.const (Value.int IntKind.i64 0)) 23), 4, none⟩, [19]), (⟨some 21, (Op.move (Operand.tmp 20)), 4, none⟩, [20]), (⟨some 22, (Op.move (Operand.tmp 7)), 3, some (21, false)⟩, [7, 21]), (⟨some 23, (Op.move (Operand.tmp 0)), 55, some (21, false)⟩, [0, 21]), (⟨some 24, (Op.nilCheck (Operand.tmp 23)), 0, some (21, false)⟩, [23, 21]), (⟨some 25, (Op.fieldAddr 57 (Operand.tmp 24) 0), 0, some (21, false)⟩, [24, 21]), (⟨some 26, (Op.load 40 (Operand.tmp 25)), 40, some (21, false)⟩, [25, 21]), (⟨some 27, (Op.call { callee := (Callee.builtin Builtin.len), args := #[(Operand.tmp 26)], argTypes := #[40] }), 3, some (21, false)⟩, [26, 21]), (⟨some 28, (Op.move (Operand.tmp 0)), 55, some (21, false)⟩, [0, 21]), (⟨some 29, (Op.nilCheck (Operand.tmp 28)), 0, some (21, false)⟩, [28, 21]), (⟨some 30, (Op.fieldAddr 57 (Operand.tmp 29) 1), 0, some (21, false)⟩, [29, 21]), (⟨some 31, (Op.load 3 (Operand.tmp 30)), 3, some (21, false)⟩, [30, 21]), (⟨some 32, (Op.binOp BinOp.sub 3 (Operand.tmp 27) (Operand.tmp 31) 3), 3, some (21, false)⟩, [27, 31, 21]), (⟨some 33, (Op.binOp BinOp.gtr 3 (Operand.tmp 22) (Operand.tmp 32) 3), 4, some (21, false)⟩, [22, 32, 21]), (⟨some 34, (Op.pick (Operand.tmp 21) (Operand.const (Value.bool true)) (Operand.tmp 33)), 4, none⟩, [21, 33])] true (Q .normal ds) σ w := mk_eq rfl
@[push_cast] theorem vr43_4 (Q : Post) (ds : List Deferred) (σ : Env) (w : World) : vc Try.prog (.region r43_4) Q ds σ w = vcOps Try.prog [⟨some 35, (Op.move (Operand.tmp 0)), 55, none⟩, ⟨some 36, (Op.move (Operand.tmp 6)), 3, none⟩, ⟨some 37, (Op.nilCheck (Operand.tmp 35)), 0, none⟩, ⟨some 38, (Op.fieldAddr 57 (Operand.tmp 37) 1), 0, none⟩, ⟨none, (Op.store 3 (Operand.tmp 38) (Operand.tmp 36)), 0, none⟩] (Q .normal ds) σ w := mk_eq rfl
@[push_cast] theorem vr43_5 (Q : Post) (ds : List Deferred) (σ : Env) (w : World) : vc Try.prog (.region r43_5) Q ds σ w = vcOps Try.prog [⟨some 39, (Op.move (Operand.tmp 0)), 55, none⟩, ⟨some 40, (Op.nilCheck (Operand.tmp 39)), 0, none⟩, ⟨some 41, (Op.fieldAddr 57 (Operand.tmp 40) 2), 0, none⟩, ⟨none, (Op.store 4 (Operand.tmp 41) (Operand.const (Value.bool true))), 0, none⟩] (Q .normal ds) σ w := mk_eq rfl
@[push_cast] theorem vr43_6 (Q : Post) (ds : List Deferred) (σ : Env) (w : World) : vc Try.prog (.region r43_6) Q ds σ w = vcOps Try.prog [⟨some 4, (Op.assign (Operand.const (Value.string { data := #[] }))), 9, none⟩, ⟨some 5, (Op.assign (Operand.const (Value.int IntKind.i64 11))), 23, none⟩] (Q .normal ds) σ w := mk_eq rfl
@[push_cast] theorem vr43_7 (Q : Post) (ds : List Deferred) (σ : Env) (w : World) : vc Try.prog (.region r43_7) Q ds σ w = vcOps Try.prog [⟨some 42, (Op.move (Operand.tmp 0)), 55, none⟩, ⟨some 43, (Op.move (Operand.tmp 0)), 55, none⟩, ⟨some 44, (Op.nilCheck (Operand.tmp 43)), 0, none⟩, ⟨some 45, (Op.fieldAddr 57 (Operand.tmp 44) 1), 0, none⟩, ⟨some 46, (Op.load 3 (Operand.tmp 45)), 3, none⟩, ⟨some 47, (Op.move (Operand.tmp 7)), 3, none⟩, ⟨some 48, (Op.binOp BinOp.add 3 (Operand.tmp 46) (Operand.tmp 47) 3), 3, none⟩, ⟨some 49, (Op.nilCheck (Operand.tmp 42)), 0, none⟩, ⟨some 50, (Op.fieldAddr 57 (Operand.tmp 49) 1), 0, none⟩, ⟨none, (Op.store 3 (Operand.tmp 50) (Operand.tmp 48)), 0, none⟩] (Q .normal ds) σ w := mk_eq rfl
@[push_cast] theorem vr43_8 (Q : Post) (ds : List Deferred) (σ : Env) (w : World) : vc Try.prog (.draw r43_8 true) Q ds σ w = drawn Try.prog [(⟨some 51, (Op.move (Operand.tmp 0)), 55, none⟩, [0]), (⟨some 52, (Op.nilCheck (Operand.tmp 51)), 0, none⟩, [51]), (⟨some 53, (Op.fieldAddr 57 (Operand.tmp 52) 0), 0, none⟩, [52]), (⟨some 54, (Op.load 40 (Operand.tmp 53)), 40, none⟩, [53]), (⟨some 55, (Op.move (Operand.tmp 0)), 55, none⟩, [0]), (⟨some 56, (Op.nilCheck (Operand.tmp 55)), 0, none⟩, [55]), (⟨some 57, (Op.fieldAddr 57 (Operand.tmp 56) 1), 0, none⟩, [56]), (⟨some 58, (Op.load 3 (Operand.tmp 57)), 3, none⟩, [57]), (⟨some 59, (Op.move (Operand.tmp 7)), 3, none⟩, [7]), (⟨some 60, (Op.binOp BinOp.sub 3 (Operand.tmp 58) (Operand.tmp 59) 3), 3, none⟩, [58, 59]), (⟨some 61, (Op.move (Operand.tmp 0)), 55, none⟩, [0]), (⟨some 62, (Op.nilCheck (Operand.tmp 61)), 0, none⟩, [61]), (⟨some 63, (Op.fieldAddr 57 (Operand.tmp 62) 1), 0, none⟩, [62]), (⟨some 64, (Op.load 3 (Operand.tmp 63)), 3, none⟩, [63]), (⟨some 65, (Op.slice 40 (Operand.tmp 54) (some (Operand.tmp 60)) (some (Operand.tmp 64)) none), 40, none⟩, [54, 60, 64]), (⟨some 66, (Op.convert 40 9 (Operand.tmp 65)), 9, none⟩, [65]), (⟨some 4, (Op.assign (Operand.tmp 66)), 9, none⟩, [66]), (⟨some 5, (Op.assign (Operand.const (Value.int IntKind.i64 0))), 23, none⟩, [])] true (Q .normal ds) σ w := mk_eq rfl
/-! 44 (*columbary/zig.Reader).Bytes (params #[48, 3], results #[(ResultVar.tmp 4), (ResultVar.tmp 5)], 39 slots) -/
def r44_0 : List VOp :=
  [⟨some 4, (Op.assign (Operand.const (Value.slice none 0 0))), 40, none⟩,
   ⟨some 5, (Op.assign (Operand.const (Value.int IntKind.i64 0))), 23, none⟩]
def r44_1 : List VOp :=
  [⟨some 8, (Op.move (Operand.tmp 0)), 48, none⟩,
   ⟨some 9, (Op.binOp BinOp.eql 48 (Operand.tmp 8) (Operand.const (Value.pointer none)) 48), 4, none⟩,
   ⟨some 7, (Op.assign (Operand.tmp 9)), 4, none⟩]
def r44_2 : List VOp :=
  [⟨some 4, (Op.assign (Operand.const (Value.slice none 0 0))), 40, none⟩,
   ⟨some 5, (Op.assign (Operand.const (Value.int IntKind.i64 1))), 23, none⟩]
def r44_3 : List VOp :=
  [⟨some 11, (Op.move (Operand.tmp 1)), 3, none⟩,
   ⟨some 12, (Op.binOp BinOp.lss 3 (Operand.tmp 11) (Operand.const (Value.int IntKind.i64 0)) 3), 4, none⟩,
   ⟨some 13, (Op.move (Operand.tmp 12)), 4, none⟩,
   ⟨some 14, (Op.move (Operand.tmp 1)), 3, some (13, false)⟩,
   ⟨some 15, (Op.move (Operand.tmp 0)), 48, some (13, false)⟩,
   ⟨some 16, (Op.nilCheck (Operand.tmp 15)), 0, some (13, false)⟩,
   ⟨some 17, (Op.fieldAddr 68 (Operand.tmp 16) 0), 0, some (13, false)⟩,
   ⟨some 18, (Op.load 40 (Operand.tmp 17)), 40, some (13, false)⟩,
   ⟨some 19, (Op.call { callee := (Callee.builtin Builtin.len), args := #[(Operand.tmp 18)], argTypes := #[40] }), 3, some (13, false)⟩,
   ⟨some 20, (Op.binOp BinOp.gtr 3 (Operand.tmp 14) (Operand.tmp 19) 3), 4, some (13, false)⟩,
   ⟨some 21, (Op.pick (Operand.tmp 13) (Operand.const (Value.bool true)) (Operand.tmp 20)), 4, none⟩,
   ⟨some 10, (Op.assign (Operand.tmp 21)), 4, none⟩]
def r44_4 : List VOp :=
  [⟨some 4, (Op.assign (Operand.const (Value.slice none 0 0))), 40, none⟩,
   ⟨some 5, (Op.assign (Operand.const (Value.int IntKind.i64 11))), 23, none⟩]
def r44_5 : List VOp :=
  [⟨some 22, (Op.move (Operand.tmp 0)), 48, none⟩,
   ⟨some 23, (Op.nilCheck (Operand.tmp 22)), 0, none⟩,
   ⟨some 24, (Op.fieldAddr 68 (Operand.tmp 23) 0), 0, none⟩,
   ⟨some 25, (Op.load 40 (Operand.tmp 24)), 40, none⟩,
   ⟨some 26, (Op.move (Operand.tmp 1)), 3, none⟩,
   ⟨some 27, (Op.slice 40 (Operand.tmp 25) none (some (Operand.tmp 26)) none), 40, none⟩,
   ⟨some 28, (Op.call { callee := (Callee.value (Operand.func 50)), args := #[(Operand.tmp 27)], argTypes := #[40] }), 40, none⟩,
   ⟨some 6, (Op.assign (Operand.tmp 28)), 40, none⟩]
def r44_6 : List VOp :=
  [⟨some 29, (Op.move (Operand.tmp 0)), 48, none⟩,
   ⟨some 30, (Op.move (Operand.tmp 0)), 48, none⟩,
   ⟨some 31, (Op.nilCheck (Operand.tmp 30)), 0, none⟩,
   ⟨some 32, (Op.fieldAddr 68 (Operand.tmp 31) 0), 0, none⟩,
   ⟨some 33, (Op.load 40 (Operand.tmp 32)), 40, none⟩,
   ⟨some 34, (Op.move (Operand.tmp 1)), 3, none⟩,
   ⟨some 35, (Op.slice 40 (Operand.tmp 33) (some (Operand.tmp 34)) none none), 40, none⟩,
   ⟨some 36, (Op.nilCheck (Operand.tmp 29)), 0, none⟩,
   ⟨some 37, (Op.fieldAddr 68 (Operand.tmp 36) 0), 0, none⟩,
   ⟨none, (Op.store 40 (Operand.tmp 37) (Operand.tmp 35)), 0, none⟩]
def r44_7 : List VOp :=
  [⟨some 38, (Op.move (Operand.tmp 6)), 40, none⟩,
   ⟨some 4, (Op.assign (Operand.tmp 38)), 40, none⟩,
   ⟨some 5, (Op.assign (Operand.const (Value.int IntKind.i64 0))), 23, none⟩]
def B44 : VC :=
  (.seq (.region r44_0) (.seq (.block 0 (.seq (.region r44_1) (.cond (Operand.tmp 7) (.seq (.region r44_2) .ret) (.seq (.region r44_3) (.cond (Operand.tmp 10) (.seq (.region r44_4) .ret) .skip))))) (.seq (.region r44_5) (.seq (.region r44_6) (.seq (.region r44_7) .ret)))))
theorem code44 : ∃ c, Try.f44.body = some c ∧ abs Try.f44.ntmps c = B44 := ⟨_, rfl, by kernel_rfl⟩
theorem hb44 : HasBody Try.prog 44 := hasBody_of Try.func44 (by kernel_rfl)
theorem res44 : Try.f44.results = #[(ResultVar.tmp 4), (ResultVar.tmp 5)] := rfl
theorem enter44 {w : World} {R : Value → World → Prop} (x0 x1 : Value) (h : vc Try.prog B44 (retK Try.prog #[(ResultVar.tmp 4), (ResultVar.tmp 5)] R) [] (initEnv [x0, x1] 0) w) : FnC Try.prog 44 #[x0, x1] w R := by
  obtain ⟨c, h1, h2⟩ := code44
  exact hb44.fn (ret_of_vc mixed Try.func44 h1 (Nat.le_of_ble_eq_true rfl) B44 h2 h)
@[push_cast] theorem vr44_0 (Q : Post) (ds : List Deferred) (σ : Env) (w : World) : vc Try.prog (.region r44_0) Q ds σ w = vcOps Try.prog [⟨some 4, (Op.assign (Operand.const (Value.slice none 0 0))), 40, none⟩, ⟨some 5, (Op.assign (Operand.const (Value.int IntKind.i64 0))), 23, none⟩] (Q .normal ds) σ w := mk_eq rfl
@[push_cast] theorem vr44_1 (Q : Post) (ds : List Deferred) (σ : Env) (w : World) : vc Try.prog (.region r44_1) Q ds σ w = vcOps Try.prog [⟨some 8, (Op.move (Operand.tmp 0)), 48, none⟩, ⟨some 9, (Op.binOp BinOp.eql 48 (Operand.tmp 8) (Operand.const (Value.pointer none)) 48), 4, none⟩, ⟨some 7, (Op.assign (Operand.tmp 9)), 4, none⟩] (Q .normal ds) σ w := mk_eq rfl
@[push_cast] theorem vr44_2 (Q : Post) (ds : List Deferred) (σ : Env) (w : World) : vc Try.prog (.region r44_2) Q ds σ w = vcOps Try.prog [⟨some 4, (Op.assign (Operand.const (Value.slice none 0 0))), 40, none⟩, ⟨some 5, (Op.assign (Operand.const (Value.int IntKind.i64 1))), 23, none⟩] (Q .normal ds) σ w := mk_eq rfl
@[push_cast] theorem vr44_3 (Q : Post) (ds : List Deferred) (σ : Env) (w : World) : vc Try.prog (.region r44_3) Q ds σ w = vcOps Try.prog [⟨some 11, (Op.move (Operand.tmp 1)), 3, none⟩, ⟨some 12, (Op.binOp BinOp.lss 3 (Operand.tmp 11) (Operand.const (Value.int IntKind.i64 0)) 3), 4, none⟩, ⟨some 13, (Op.move (Operand.tmp 12)), 4, none⟩, ⟨some 14, (Op.move (Operand.tmp 1)), 3, some (13, false)⟩, ⟨some 15, (Op.move (Operand.tmp 0)), 48, some (13, false)⟩, ⟨some 16, (Op.nilCheck (Operand.tmp 15)), 0, some (13, false)⟩, ⟨some 17, (Op.fieldAddr 68 (Operand.tmp 16) 0), 0, some (13, false)⟩, ⟨some 18, (Op.load 40 (Operand.tmp 17)), 40, some (13, false)⟩, ⟨some 19, (Op.call { callee := (Callee.builtin Builtin.len), args := #[(Operand.tmp 18)], argTypes := #[40] }), 3, some (13, false)⟩, ⟨some 20, (Op.binOp BinOp.gtr 3 (Operand.tmp 14) (Operand.tmp 19) 3), 4, some (13, false)⟩, ⟨some 21, (Op.pick (Operand.tmp 13) (Operand.const (Value.bool true)) (Operand.tmp 20)), 4, none⟩, ⟨some 10, (Op.assign (Operand.tmp 21)), 4, none⟩] (Q .normal ds) σ w := mk_eq rfl
@[push_cast] theorem vr44_4 (Q : Post) (ds : List Deferred) (σ : Env) (w : World) : vc Try.prog (.region r44_4) Q ds σ w = vcOps Try.prog [⟨some 4, (Op.assign (Operand.const (Value.slice none 0 0))), 40, none⟩, ⟨some 5, (Op.assign (Operand.const (Value.int IntKind.i64 11))), 23, none⟩] (Q .normal ds) σ w := mk_eq rfl
@[push_cast] theorem vr44_5 (Q : Post) (ds : List Deferred) (σ : Env) (w : World) : vc Try.prog (.region r44_5) Q ds σ w = vcOps Try.prog [⟨some 22, (Op.move (Operand.tmp 0)), 48, none⟩, ⟨some 23, (Op.nilCheck (Operand.tmp 22)), 0, none⟩, ⟨some 24, (Op.fieldAddr 68 (Operand.tmp 23) 0), 0, none⟩, ⟨some 25, (Op.load 40 (Operand.tmp 24)), 40, none⟩, ⟨some 26, (Op.move (Operand.tmp 1)), 3, none⟩, ⟨some 27, (Op.slice 40 (Operand.tmp 25) none (some (Operand.tmp 26)) none), 40, none⟩, ⟨some 28, (Op.call { callee := (Callee.value (Operand.func 50)), args := #[(Operand.tmp 27)], argTypes := #[40] }), 40, none⟩, ⟨some 6, (Op.assign (Operand.tmp 28)), 40, none⟩] (Q .normal ds) σ w := mk_eq rfl
@[push_cast] theorem vr44_6 (Q : Post) (ds : List Deferred) (σ : Env) (w : World) : vc Try.prog (.region r44_6) Q ds σ w = vcOps Try.prog [⟨some 29, (Op.move (Operand.tmp 0)), 48, none⟩, ⟨some 30, (Op.move (Operand.tmp 0)), 48, none⟩, ⟨some 31, (Op.nilCheck (Operand.tmp 30)), 0, none⟩, ⟨some 32, (Op.fieldAddr 68 (Operand.tmp 31) 0), 0, none⟩, ⟨some 33, (Op.load 40 (Operand.tmp 32)), 40, none⟩, ⟨some 34, (Op.move (Operand.tmp 1)), 3, none⟩, ⟨some 35, (Op.slice 40 (Operand.tmp 33) (some (Operand.tmp 34)) none none), 40, none⟩, ⟨some 36, (Op.nilCheck (Operand.tmp 29)), 0, none⟩, ⟨some 37, (Op.fieldAddr 68 (Operand.tmp 36) 0), 0, none⟩, ⟨none, (Op.store 40 (Operand.tmp 37) (Operand.tmp 35)), 0, none⟩] (Q .normal ds) σ w := mk_eq rfl
@[push_cast] theorem vr44_7 (Q : Post) (ds : List Deferred) (σ : Env) (w : World) : vc Try.prog (.region r44_7) Q ds σ w = vcOps Try.prog [⟨some 38, (Op.move (Operand.tmp 6)), 40, none⟩, ⟨some 4, (Op.assign (Operand.tmp 38)), 40, none⟩, ⟨some 5, (Op.assign (Operand.const (Value.int IntKind.i64 0))), 23, none⟩] (Q .normal ds) σ w := mk_eq rfl
/-! 45 (*columbary/columbaryref01.Reader).Bytes (params #[55, 3], results #[(ResultVar.tmp 4), (ResultVar.tmp 5)], 49 slots) -/
def r45_0 : List VOp :=
  [⟨some 4, (Op.assign (Operand.const (Value.slice none 0 0))), 40, none⟩,
   ⟨some 5, (Op.assign (Operand.const (Value.int IntKind.i64 0))), 23, none⟩]
def r45_1 : List VOp :=
  [⟨some 6, (Op.move (Operand.tmp 1)), 3, none⟩,
   ⟨some 7, (Op.binOp BinOp.lss 3 (Operand.tmp 6) (Operand.const (Value.int IntKind.i64 0)) 3), 4, none⟩,
   ⟨some 8, (Op.move (Operand.tmp 7)), 4, none⟩,
   ⟨some 9, (Op.move (Operand.tmp 1)), 3, some (8, false)⟩,
   ⟨some 10, (Op.move (Operand.tmp 0)), 55, some (8, false)⟩,
   ⟨some 11, (Op.nilCheck (Operand.tmp 10)), 0, some (8, false)⟩,
   ⟨some 12, (Op.fieldAddr 57 (Operand.tmp 11) 0), 0, some (8, false)⟩,
   ⟨some 13, (Op.load 40 (Operand.tmp 12)), 40, some (8, false)⟩,
   ⟨some 14, (Op.call { callee := (Callee.builtin Builtin.len), args := #[(Operand.tmp 13)], argTypes := #[40] }), 3, some (8, false)⟩,
   ⟨some 15, (Op.move (Operand.tmp 0)), 55, some (8, false)⟩,
   ⟨some 16, (Op.nilCheck (Operand.tmp 15)), 0, some (8, false)⟩,
   ⟨some 17, (Op.fieldAddr 57 (Operand.tmp 16) 1), 0, some (8, false)⟩,
   ⟨some 18, (Op.load 3 (Operand.tmp 17)), 3, some (8, false)⟩,
   ⟨some 19, (Op.binOp BinOp.sub 3 (Operand.tmp 14) (Operand.tmp 18) 3), 3, some (8, false)⟩,
   ⟨some 20, (Op.binOp BinOp.gtr 3 (Operand.tmp 9) (Operand.tmp 19) 3), 4, some (8, false)⟩,
   ⟨some 21, (Op.pick (Operand.tmp 8) (Operand.const (Value.bool true)) (Operand.tmp 20)), 4, none⟩]
def r45_2 : List VOp :=
  [⟨some 22, (Op.move (Operand.tmp 0)), 55, none⟩,
   ⟨some 23, (Op.nilCheck (Operand.tmp 22)), 0, none⟩,
   ⟨some 24, (Op.fieldAddr 57 (Operand.tmp 23) 2), 0, none⟩,
   ⟨none, (Op.store 4 (Operand.tmp 24) (Operand.const (Value.bool true))), 0, none⟩]
def r45_3 : List VOp :=
  [⟨some 4, (Op.assign (Operand.const (Value.slice none 0 0))), 40, none⟩,
   ⟨some 5, (Op.assign (Operand.const (Value.int IntKind.i64 11))), 23, none⟩]
def r45_4 : List VOp :=
  [⟨some 25, (Op.move (Operand.tmp 0)), 55, none⟩,
   ⟨some 26, (Op.move (Operand.tmp 0)), 55, none⟩,
   ⟨some 27, (Op.nilCheck (Operand.tmp 26)), 0, none⟩,
   ⟨some 28, (Op.fieldAddr 57 (Operand.tmp 27) 1), 0, none⟩,
   ⟨some 29, (Op.load 3 (Operand.tmp 28)), 3, none⟩,
   ⟨some 30, (Op.move (Operand.tmp 1)), 3, none⟩,
   ⟨some 31, (Op.binOp BinOp.add 3 (Operand.tmp 29) (Operand.tmp 30) 3), 3, none⟩,
   ⟨some 32, (Op.nilCheck (Operand.tmp 25)), 0, none⟩,
   ⟨some 33, (Op.fieldAddr 57 (Operand.tmp 32) 1), 0, none⟩,
   ⟨none, (Op.store 3 (Operand.tmp 33) (Operand.tmp 31)), 0, none⟩]
def r45_5 : List VOp :=
  [⟨some 34, (Op.move (Operand.tmp 0)), 55, none⟩,
   ⟨some 35, (Op.nilCheck (Operand.tmp 34)), 0, none⟩,
   ⟨some 36, (Op.fieldAddr 57 (Operand.tmp 35) 0), 0, none⟩,
   ⟨some 37, (Op.load 40 (Operand.tmp 36)), 40, none⟩,
   ⟨some 38, (Op.move (Operand.tmp 0)), 55, none⟩,
   ⟨some 39, (Op.nilCheck (Operand.tmp 38)), 0, none⟩,
   ⟨some 40, (Op.fieldAddr 57 (Operand.tmp 39) 1), 0, none⟩,
   ⟨some 41, (Op.load 3 (Operand.tmp 40)), 3, none⟩,
   ⟨some 42, (Op.move (Operand.tmp 1)), 3, none⟩,
   ⟨some 43, (Op.binOp BinOp.sub 3 (Operand.tmp 41) (Operand.tmp 42) 3), 3, none⟩,
   ⟨some 44, (Op.move (Operand.tmp 0)), 55, none⟩,
   ⟨some 45, (Op.nilCheck (Operand.tmp 44)), 0, none⟩,
   ⟨some 46, (Op.fieldAddr 57 (Operand.tmp 45) 1), 0, none⟩,
   ⟨some 47, (Op.load 3 (Operand.tmp 46)), 3, none⟩,
   ⟨some 48, (Op.slice 40 (Operand.tmp 37) (some (Operand.tmp 43)) (some (Operand.tmp 47)) none), 40, none⟩,
   ⟨some 4, (Op.assign (Operand.tmp 48)), 40, none⟩,
   ⟨some 5, (Op.assign (Operand.const (Value.int IntKind.i64 0))), 23, none⟩]
def B45 : VC :=
  (.seq (.region r45_0) (.seq (.seq (.draw r45_1 true) (.cond (Operand.tmp 21) (.seq (.region r45_2) (.seq (.region r45_3) .ret)) .skip)) (.seq (.region r45_4) (.seq (.draw r45_5 true) .ret))))
theorem code45 : ∃ c, Try.f45.body = some c ∧ abs Try.f45.ntmps c = B45 := ⟨_, rfl, by kernel_rfl⟩
theorem hb45 : HasBody Try.prog 45 := hasBody_of Try.func45 (by kernel_rfl)
theorem res45 : Try.f45.results = #[(ResultVar.tmp 4), (ResultVar.tmp 5)] := rfl
theorem enter45 {w : World} {R : Value → World → Prop} (x0 x1 : Value) (h : vc Try.prog B45 (retK Try.prog #[(ResultVar.tmp 4), (ResultVar.tmp 5)] R) [] (initEnv [x0, x1] 0) w) : FnC Try.prog 45 #[x0, x1] w R := by
  obtain ⟨c, h1, h2⟩ := code45
  exact hb45.fn (ret_of_vc mixed Try.func45 h1 (Nat.le_of_ble_eq_true rfl) B45 h2 h)
@[push_cast] theorem vr45_0 (Q : Post) (ds : List Deferred) (σ : Env) (w : World) : vc Try.prog (.region r45_0) Q ds σ w = vcOps Try.prog [⟨some 4, (Op.assign (Operand.const (Value.slice none 0 0))), 40, none⟩, ⟨some 5, (Op.assign (Operand.const (Value.int IntKind.i64 0))), 23, none⟩] (Q .normal ds) σ w := mk_eq rfl
@[push_cast] theorem vr45_1 (Q : Post) (ds : List Deferred) (σ : Env) (w : World) : vc Try.prog (.draw r45_1 true) Q ds σ w = drawn Try.prog [(⟨some 6, (Op.move (Operand.tmp 1)), 3, none⟩, [1]), (⟨some 7, (Op.binOp BinOp.lss 3 (Operand.tmp 6) (Operand.const (Value.int IntKind.i64 0)) 3), 4, none⟩, [6]), (⟨some 8, (Op.move (Operand.tmp 7)), 4, none⟩, [7]), (⟨some 9, (Op.move (Operand.tmp 1)), 3, some (8, false)⟩, [1, 8]), (⟨some 10, (Op.move (Operand.tmp 0)), 55, some (8, false)⟩, [0, 8]), (⟨some 11, (Op.nilCheck (Operand.tmp 10)), 0, some (8, false)⟩, [10, 8]), (⟨some 12, (Op.fieldAddr 57 (Operand.tmp 11) 0), 0, some (8, false)⟩, [11, 8]), (⟨some 13, (Op.load 40 (Operand.tmp 12)), 40, some (8, false)⟩, [12, 8]), (⟨some 14, (Op.call { callee := (Callee.builtin Builtin.len), args := #[(Operand.tmp 13)], argTypes := #[40] }), 3, some (8, false)⟩, [13, 8]), (⟨some 15, (Op.move (Operand.tmp 0)), 55, some (8, false)⟩, [0, 8]), (⟨some 16, (Op.nilCheck (Operand.tmp 15)), 0, some (8, false)⟩, [15, 8]), (⟨some 17, (Op.fieldAddr 57 (Operand.tmp 16) 1), 0, some (8, false)⟩, [16, 8]), (⟨some 18, (Op.load 3 (Operand.tmp 17)), 3, some (8, false)⟩, [17, 8]), (⟨some 19, (Op.binOp BinOp.sub 3 (Operand.tmp 14) (Operand.tmp 18) 3), 3, some (8, false)⟩, [14, 18, 8]), (⟨some 20, (Op.binOp BinOp.gtr 3 (Operand.tmp 9) (Operand.tmp 19) 3), 4, some (8, false)⟩, [9, 19, 8]), (⟨some 21, (Op.pick (Operand.tmp 8) (Operand.const (Value.bool true)) (Operand.tmp 20)), 4, none⟩, [8, 20])] true (Q .normal ds) σ w := mk_eq rfl
@[push_cast] theorem vr45_2 (Q : Post) (ds : List Deferred) (σ : Env) (w : World) : vc Try.prog (.region r45_2) Q ds σ w = vcOps Try.prog [⟨some 22, (Op.move (Operand.tmp 0)), 55, none⟩, ⟨some 23, (Op.nilCheck (Operand.tmp 22)), 0, none⟩, ⟨some 24, (Op.fieldAddr 57 (Operand.tmp 23) 2), 0, none⟩, ⟨none, (Op.store 4 (Operand.tmp 24) (Operand.const (Value.bool true))), 0, none⟩] (Q .normal ds) σ w := mk_eq rfl
@[push_cast] theorem vr45_3 (Q : Post) (ds : List Deferred) (σ : Env) (w : World) : vc Try.prog (.region r45_3) Q ds σ w = vcOps Try.prog [⟨some 4, (Op.assign (Operand.const (Value.slice none 0 0))), 40, none⟩, ⟨some 5, (Op.assign (Operand.const (Value.int IntKind.i64 11))), 23, none⟩] (Q .normal ds) σ w := mk_eq rfl
@[push_cast] theorem vr45_4 (Q : Post) (ds : List Deferred) (σ : Env) (w : World) : vc Try.prog (.region r45_4) Q ds σ w = vcOps Try.prog [⟨some 25, (Op.move (Operand.tmp 0)), 55, none⟩, ⟨some 26, (Op.move (Operand.tmp 0)), 55, none⟩, ⟨some 27, (Op.nilCheck (Operand.tmp 26)), 0, none⟩, ⟨some 28, (Op.fieldAddr 57 (Operand.tmp 27) 1), 0, none⟩, ⟨some 29, (Op.load 3 (Operand.tmp 28)), 3, none⟩, ⟨some 30, (Op.move (Operand.tmp 1)), 3, none⟩, ⟨some 31, (Op.binOp BinOp.add 3 (Operand.tmp 29) (Operand.tmp 30) 3), 3, none⟩, ⟨some 32, (Op.nilCheck (Operand.tmp 25)), 0, none⟩, ⟨some 33, (Op.fieldAddr 57 (Operand.tmp 32) 1), 0, none⟩, ⟨none, (Op.store 3 (Operand.tmp 33) (Operand.tmp 31)), 0, none⟩] (Q .normal ds) σ w := mk_eq rfl
@[push_cast] theorem vr45_5 (Q : Post) (ds : List Deferred) (σ : Env) (w : World) : vc Try.prog (.draw r45_5 true) Q ds σ w = drawn Try.prog [(⟨some 34, (Op.move (Operand.tmp 0)), 55, none⟩, [0]), (⟨some 35, (Op.nilCheck (Operand.tmp 34)), 0, none⟩, [34]), (⟨some 36, (Op.fieldAddr 57 (Operand.tmp 35) 0), 0, none⟩, [35]), (⟨some 37, (Op.load 40 (Operand.tmp 36)), 40, none⟩, [36]), (⟨some 38, (Op.move (Operand.tmp 0)), 55, none⟩, [0]), (⟨some 39, (Op.nilCheck (Operand.tmp 38)), 0, none⟩, [38]), (⟨some 40, (Op.fieldAddr 57 (Operand.tmp 39) 1), 0, none⟩, [39]), (⟨some 41, (Op.load 3 (Operand.tmp 40)), 3, none⟩, [40]), (⟨some 42, (Op.move (Operand.tmp 1)), 3, none⟩, [1]), (⟨some 43, (Op.binOp BinOp.sub 3 (Operand.tmp 41) (Operand.tmp 42) 3), 3, none⟩, [41, 42]), (⟨some 44, (Op.move (Operand.tmp 0)), 55, none⟩, [0]), (⟨some 45, (Op.nilCheck (Operand.tmp 44)), 0, none⟩, [44]), (⟨some 46, (Op.fieldAddr 57 (Operand.tmp 45) 1), 0, none⟩, [45]), (⟨some 47, (Op.load 3 (Operand.tmp 46)), 3, none⟩, [46]), (⟨some 48, (Op.slice 40 (Operand.tmp 37) (some (Operand.tmp 43)) (some (Operand.tmp 47)) none), 40, none⟩, [37, 43, 47]), (⟨some 4, (Op.assign (Operand.tmp 48)), 40, none⟩, [48]), (⟨some 5, (Op.assign (Operand.const (Value.int IntKind.i64 0))), 23, none⟩, [])] true (Q .normal ds) σ w := mk_eq rfl
/-! 50 bytes.Clone (params #[40], results #[(ResultVar.tmp 2)], 8 slots) -/
def r50_0 : List VOp :=
  [⟨some 2, (Op.assign (Operand.const (Value.slice none 0 0))), 40, none⟩]
def r50_1 : List VOp :=
  [⟨some 3, (Op.move (Operand.tmp 0)), 40, none⟩,
   ⟨some 4, (Op.binOp BinOp.eql 40 (Operand.tmp 3) (Operand.const (Value.slice none 0 0)) 40), 4, none⟩]
def r50_2 : List VOp :=
  [⟨some 2, (Op.assign (Operand.const (Value.slice none 0 0))), 40, none⟩]
def r50_3 : List VOp :=
  [⟨some 5, (Op.buildSlice 40 0 #[]), 40, none⟩,
   ⟨some 6, (Op.move (Operand.tmp 0)), 40, none⟩,
   ⟨some 7, (Op.call { callee := (Callee.builtin Builtin.append), args := #[(Operand.tmp 5), (Operand.tmp 6)], argTypes := #[40, 40] }), 40, none⟩,
   ⟨some 2, (Op.assign (Operand.tmp 7)), 40, none⟩]
def B50 : VC :=
  (.seq (.region r50_0) (.seq (.seq (.region r50_1) (.cond (Operand.tmp 4) (.seq (.region r50_2) .ret) .skip)) (.seq (.region r50_3) .ret)))
theorem code50 : ∃ c, Try.f50.body = some c ∧ abs Try.f50.ntmps c = B50 := ⟨_, rfl, by kernel_rfl⟩
theorem hb50 : HasBody Try.prog 50 := hasBody_of Try.func50 (by kernel_rfl)
theorem res50 : Try.f50.results = #[(ResultVar.tmp 2)] := rfl
theorem enter50 {w : World} {R : Value → World → Prop} (x0 : Value) (h : vc Try.prog B50 (retK Try.prog #[(ResultVar.tmp 2)] R) [] (initEnv [x0] 0) w) : FnC Try.prog 50 #[x0] w R := by
  obtain ⟨c, h1, h2⟩ := code50
  exact hb50.fn (ret_of_vc mixed Try.func50 h1 (Nat.le_of_ble_eq_true rfl) B50 h2 h)
@[push_cast] theorem vr50_0 (Q : Post) (ds : List Deferred) (σ : Env) (w : World) : vc Try.prog (.region r50_0) Q ds σ w = vcOps Try.prog [⟨some 2, (Op.assign (Operand.const (Value.slice none 0 0))), 40, none⟩] (Q .normal ds) σ w := mk_eq rfl
@[push_cast] theorem vr50_1 (Q : Post) (ds : List Deferred) (σ : Env) (w : World) : vc Try.prog (.region r50_1) Q ds σ w = vcOps Try.prog [⟨some 3, (Op.move (Operand.tmp 0)), 40, none⟩, ⟨some 4, (Op.binOp BinOp.eql 40 (Operand.tmp 3) (Operand.const (Value.slice none 0 0)) 40), 4, none⟩] (Q .normal ds) σ w := mk_eq rfl
@[push_cast] theorem vr50_2 (Q : Post) (ds : List Deferred) (σ : Env) (w : World) : vc Try.prog (.region r50_2) Q ds σ w = vcOps Try.prog [⟨some 2, (Op.assign (Operand.const (Value.slice none 0 0))), 40, none⟩] (Q .normal ds) σ w := mk_eq rfl
@[push_cast] theorem vr50_3 (Q : Post) (ds : List Deferred) (σ : Env) (w : World) : vc Try.prog (.region r50_3) Q ds σ w = vcOps Try.prog [⟨some 5, (Op.buildSlice 40 0 #[]), 40, none⟩, ⟨some 6, (Op.move (Operand.tmp 0)), 40, none⟩, ⟨some 7, (Op.call { callee := (Callee.builtin Builtin.append), args := #[(Operand.tmp 5), (Operand.tmp 6)], argTypes := #[40, 40] }), 40, none⟩, ⟨some 2, (Op.assign (Operand.tmp 7)), 40, none⟩] (Q .normal ds) σ w := mk_eq rfl
/-! 51 columbary/zig.next (params #[40], results #[(ResultVar.tmp 2), (ResultVar.tmp 3)], 43 slots) -/
def W51_0 : List Nat := [2, 3, 4, 5, 6, 13, 14, 15, 16, 17, 18, 19, 20, 21, 22, 23, 24, 25, 26, 27, 28, 29, 30, 31, 32, 33, 34, 35, 36, 37, 38, 39, 40, 41, 42]
@[push_cast] theorem W51_0_def : W51_0 = [2, 3, 4, 5, 6, 13, 14, 15, 16, 17, 18, 19, 20, 21, 22, 23, 24, 25, 26, 27, 28, 29, 30, 31, 32, 33, 34, 35, 36, 37, 38, 39, 40, 41, 42] := mk_eq rfl
def r51_0 : List VOp :=
  [⟨some 2, (Op.assign (Operand.const (Value.int IntKind.i64 0))), 3, none⟩,
   ⟨some 3, (Op.assign (Operand.const (Value.int IntKind.i64 0))), 3, none⟩]
def r51_1 : List VOp :=
  [⟨some 4, (Op.assign (Operand.const (Value.int IntKind.u64 0))), 35, none⟩]
def r51_2 : List VOp :=
  [⟨some 7, (Op.move (Operand.tmp 0)), 40, none⟩,
   ⟨some 8, (Op.move (Operand.tmp 0)), 40, none⟩,
   ⟨some 9, (Op.call { callee := (Callee.builtin Builtin.len), args := #[(Operand.tmp 8)], argTypes := #[40] }), 3, none⟩,
   ⟨some 10, (Op.call { callee := (Callee.builtin Builtin.min), args := #[(Operand.tmp 9), (Operand.const (Value.int IntKind.i64 10))], argTypes := #[3, 3] }), 3, none⟩,
   ⟨some 11, (Op.slice 40 (Operand.tmp 7) none (some (Operand.tmp 10)) none), 40, none⟩,
   ⟨some 12, (Op.call { callee := (Callee.builtin Builtin.len), args := #[(Operand.tmp 11)], argTypes := #[40] }), 3, none⟩,
   ⟨some 13, (Op.move (Operand.const (Value.int IntKind.i64 0))), 3, none⟩]
def r51_3 : List VOp :=
  [⟨some 14, (Op.binOp BinOp.lss 3 (Operand.tmp 13) (Operand.tmp 12) 3), 0, none⟩]
def r51_4 : List VOp :=
  [⟨some 15, (Op.move (Operand.tmp 13)), 3, none⟩,
   ⟨some 16, (Op.indexAddr 40 (Operand.tmp 11) (Operand.tmp 13)), 0, none⟩,
   ⟨some 17, (Op.load 5 (Operand.tmp 16)), 5, none⟩,
   ⟨some 5, (Op.assign (Operand.tmp 15)), 3, none⟩,
   ⟨some 6, (Op.assign (Operand.tmp 17)), 5, none⟩]
def r51_5 : List VOp :=
  [⟨some 18, (Op.move (Operand.tmp 5)), 3, none⟩,
   ⟨some 19, (Op.binOp BinOp.eql 3 (Operand.tmp 18) (Operand.const (Value.int IntKind.i64 0)) 3), 4, none⟩,
   ⟨some 20, (Op.move (Operand.tmp 19)), 4, none⟩,
   ⟨some 21, (Op.move (Operand.tmp 6)), 5, some (20, true)⟩,
   ⟨some 22, (Op.binOp BinOp.eql 5 (Operand.tmp 21) (Operand.const (Value.int IntKind.u8 128)) 5), 4, some (20, true)⟩,
   ⟨some 23, (Op.pick (Operand.tmp 20) (Operand.tmp 22) (Operand.const (Value.bool false))), 4, none⟩,
   ⟨some 24, (Op.move (Operand.tmp 23)), 4, none⟩,
   ⟨some 25, (Op.move (Operand.tmp 4)), 35, some (24, false)⟩,
   ⟨some 26, (Op.binOp BinOp.shr 35 (Operand.tmp 25) (Operand.const (Value.int IntKind.u64 57)) 65), 35, some (24, false)⟩,
   ⟨some 27, (Op.binOp BinOp.gtr 35 (Operand.tmp 26) (Operand.const (Value.int IntKind.u64 0)) 35), 4, some (24, false)⟩,
   ⟨some 28, (Op.pick (Operand.tmp 24) (Operand.const (Value.bool true)) (Operand.tmp 27)), 4, none⟩]
def r51_6 : List VOp :=
  [⟨some 2, (Op.assign (Operand.const (Value.int IntKind.i64 0))), 3, none⟩,
   ⟨some 3, (Op.assign (Operand.const (Value.int IntKind.i64 0))), 3, none⟩]
def r51_7 : List VOp :=
  [⟨some 29, (Op.move (Operand.tmp 4)), 35, none⟩,
   ⟨some 30, (Op.binOp BinOp.shl 35 (Operand.tmp 29) (Operand.const (Value.int IntKind.u64 7)) 65), 35, none⟩,
   ⟨some 31, (Op.move (Operand.tmp 6)), 5, none⟩,
   ⟨some 32, (Op.binOp BinOp.andNot 5 (Operand.tmp 31) (Operand.const (Value.int IntKind.u8 128)) 5), 5, none⟩,
   ⟨some 33, (Op.convert 5 35 (Operand.tmp 32)), 35, none⟩,
   ⟨some 34, (Op.binOp BinOp.or 35 (Operand.tmp 30) (Operand.tmp 33) 35), 35, none⟩,
   ⟨some 4, (Op.assign (Operand.tmp 34)), 35, none⟩]
def r51_8 : List VOp :=
  [⟨some 35, (Op.move (Operand.tmp 6)), 5, none⟩,
   ⟨some 36, (Op.binOp BinOp.and 5 (Operand.tmp 35) (Operand.const (Value.int IntKind.u8 128)) 5), 5, none⟩,
   ⟨some 37, (Op.binOp BinOp.eql 5 (Operand.tmp 36) (Operand.const (Value.int IntKind.u8 0)) 5), 4, none⟩]
def r51_9 : List VOp :=
  [⟨some 38, (Op.move (Operand.tmp 4)), 35, none⟩,
   ⟨some 39, (Op.call { callee := (Callee.value (Operand.func 32)), args := #[(Operand.tmp 38)], argTypes := #[35] }), 3, none⟩,
   ⟨some 40, (Op.move (Operand.tmp 5)), 3, none⟩,
   ⟨some 41, (Op.binOp BinOp.add 3 (Operand.tmp 40) (Operand.const (Value.int IntKind.i64 1)) 3), 3, none⟩,
   ⟨some 2, (Op.assign (Operand.tmp 39)), 3, none⟩,
   ⟨some 3, (Op.assign (Operand.tmp 41)), 3, none⟩]
def r51_10 : List VOp :=
  [⟨some 42, (Op.binOp BinOp.add 3 (Operand.tmp 13) (Operand.const (Value.int IntKind.i64 1)) 3), 3, none⟩,
   ⟨some 13, (Op.move (Operand.tmp 42)), 3, none⟩]
def r51_11 : List VOp :=
  [⟨some 2, (Op.assign (Operand.const (Value.int IntKind.i64 0))), 3, none⟩,
   ⟨some 3, (Op.assign (Operand.const (Value.int IntKind.i64 0))), 3, none⟩]
def B51 : VC :=
  (.seq (.region r51_0) (.seq (.region r51_1) (.seq (.seq (.region r51_2) (.block 0 (.loop (.seq (.region r51_3) (.seq (.cond (Operand.tmp 14) .skip (.exit 0)) (.seq (.block 1 (.seq (.region r51_4) (.seq (.seq (.region r51_5) (.cond (Operand.tmp 28) (.seq (.region r51_6) .ret) .skip)) (.seq (.region r51_7) (.seq (.region r51_8) (.cond (Operand.tmp 37) (.seq (.region r51_9) .ret) .skip)))))) (.region r51_10))))))) (.seq (.region r51_11) .ret))))
theorem code51 : ∃ c, Try.f51.body = some c ∧ abs Try.f51.ntmps c = B51 := ⟨_, rfl, by kernel_rfl⟩
theorem hb51 : HasBody Try.prog 51 := hasBody_of Try.func51 (by kernel_rfl)
theorem res51 : Try.f51.results = #[(ResultVar.tmp 2), (ResultVar.tmp 3)] := rfl
theorem enter51 {w : World} {R : Value → World → Prop} (x0 : Value) (h : vc Try.prog B51 (retK Try.prog #[(ResultVar.tmp 2), (ResultVar.tmp 3)] R) [] (initEnv [x0] 0) w) : FnC Try.prog 51 #[x0] w R := by
  obtain ⟨c, h1, h2⟩ := code51
  exact hb51.fn (ret_of_vc mixed Try.func51 h1 (Nat.le_of_ble_eq_true rfl) B51 h2 h)
@[push_cast] theorem vr51_0 (Q : Post) (ds : List Deferred) (σ : Env) (w : World) : vc Try.prog (.region r51_0) Q ds σ w = vcOps Try.prog [⟨some 2, (Op.assign (Operand.const (Value.int IntKind.i64 0))), 3, none⟩, ⟨some 3, (Op.assign (Operand.const (Value.int IntKind.i64 0))), 3, none⟩] (Q .normal ds) σ w := mk_eq rfl
@[push_cast] theorem vr51_1 (Q : Post) (ds : List Deferred) (σ : Env) (w : World) : vc Try.prog (.region r51_1) Q ds σ w = vcOps Try.prog [⟨some 4, (Op.assign (Operand.const (Value.int IntKind.u64 0))), 35, none⟩] (Q .normal ds) σ w := mk_eq rfl
@[push_cast] theorem vr51_2 (Q : Post) (ds : List Deferred) (σ : Env) (w : World) : vc Try.prog (.region r51_2) Q ds σ w = vcOps Try.prog [⟨some 7, (Op.move (Operand.tmp 0)), 40, none⟩, ⟨some 8, (Op.move (Operand.tmp 0)), 40, none⟩, ⟨some 9, (Op.call { callee := (Callee.builtin Builtin.len), args := #[(Operand.tmp 8)], argTypes := #[40] }), 3, none⟩, ⟨some 10, (Op.call { callee := (Callee.builtin Builtin.min), args := #[(Operand.tmp 9), (Operand.const (Value.int IntKind.i64 10))], argTypes := #[3, 3] }), 3, none⟩, ⟨some 11, (Op.slice 40 (Operand.tmp 7) none (some (Operand.tmp 10)) none), 40, none⟩, ⟨some 12, (Op.call { callee := (Callee.builtin Builtin.len), args := #[(Operand.tmp 11)], argTypes := #[40] }), 3, none⟩, ⟨some 13, (Op.move (Operand.const (Value.int IntKind.i64 0))), 3, none⟩] (Q .normal ds) σ w := mk_eq rfl
@[push_cast] theorem vr51_3 (Q : Post) (ds : List Deferred) (σ : Env) (w : World) : vc Try.prog (.region r51_3) Q ds σ w = vcOps Try.prog [⟨some 14, (Op.binOp BinOp.lss 3 (Operand.tmp 13) (Operand.tmp 12) 3), 0, none⟩] (Q .normal ds) σ w := mk_eq rfl
@[push_cast] theorem vr51_4 (Q : Post) (ds : List Deferred) (σ : Env) (w : World) : vc Try.prog (.region r51_4) Q ds σ w = vcOps Try.prog [⟨some 15, (Op.move (Operand.tmp 13)), 3, none⟩, ⟨some 16, (Op.indexAddr 40 (Operand.tmp 11) (Operand.tmp 13)), 0, none⟩, ⟨some 17, (Op.load 5 (Operand.tmp 16)), 5, none⟩, ⟨some 5, (Op.assign (Operand.tmp 15)), 3, none⟩, ⟨some 6, (Op.assign (Operand.tmp 17)), 5, none⟩] (Q .normal ds) σ w := mk_eq rfl
@[push_cast] theorem vr51_5 (Q : Post) (ds : List Deferred) (σ : Env) (w : World) : vc Try.prog (.region r51_5) Q ds σ w = vcOps Try.prog [⟨some 18, (Op.move (Operand.tmp 5)), 3, none⟩, ⟨some 19, (Op.binOp BinOp.eql 3 (Operand.tmp 18) (Operand.const (Value.int IntKind.i64 0)) 3), 4, none⟩, ⟨some 20, (Op.move (Operand.tmp 19)), 4, none⟩, ⟨some 21, (Op.move (Operand.tmp 6)), 5, some (20, true)⟩, ⟨some 22, (Op.binOp BinOp.eql 5 (Operand.tmp 21) (Operand.const (Value.int IntKind.u8 128)) 5), 4, some (20, true)⟩, ⟨some 23, (Op.pick (Operand.tmp 20) (Operand.tmp 22) (Operand.const (Value.bool false))), 4, none⟩, ⟨some 24, (Op.move (Operand.tmp 23)), 4, none⟩, ⟨some 25, (Op.move (Operand.tmp 4)), 35, some (24, false)⟩, ⟨some 26, (Op.binOp BinOp.shr 35 (Operand.tmp 25) (Operand.const (Value.int IntKind.u64 57)) 65), 35, some (24, false)⟩, ⟨some 27, (Op.binOp BinOp.gtr 35 (Operand.tmp 26) (Operand.const (Value.int IntKind.u64 0)) 35), 4, some (24, false)⟩, ⟨some 28, (Op.pick (Operand.tmp 24) (Operand.const (Value.bool true)) (Operand.tmp 27)), 4, none⟩] (Q .normal ds) σ w := mk_eq rfl
@[push_cast] theorem vr51_6 (Q : Post) (ds : List Deferred) (σ : Env) (w : World) : vc Try.prog (.region r51_6) Q ds σ w = vcOps Try.prog [⟨some 2, (Op.assign (Operand.const (Value.int IntKind.i64 0))), 3, none⟩, ⟨some 3, (Op.assign (Operand.const (Value.int IntKind.i64 0))), 3, none⟩] (Q .normal ds) σ w := mk_eq rfl
@[push_cast] theorem vr51_7 (Q : Post) (ds : List Deferred) (σ : Env) (w : World) : vc Try.prog (.region r51_7) Q ds σ w = vcOps Try.prog [⟨some 29, (Op.move (Operand.tmp 4)), 35, none⟩, ⟨some 30, (Op.binOp BinOp.shl 35 (Operand.tmp 29) (Operand.const (Value.int IntKind.u64 7)) 65), 35, none⟩, ⟨some 31, (Op.move (Operand.tmp 6)), 5, none⟩, ⟨some 32, (Op.binOp BinOp.andNot 5 (Operand.tmp 31) (Operand.const (Value.int IntKind.u8 128)) 5), 5, none⟩, ⟨some 33, (Op.convert 5 35 (Operand.tmp 32)), 35, none⟩, ⟨some 34, (Op.binOp BinOp.or 35 (Operand.tmp 30) (Operand.tmp 33) 35), 35, none⟩, ⟨some 4, (Op.assign (Operand.tmp 34)), 35, none⟩] (Q .normal ds) σ w := mk_eq rfl
@[push_cast] theorem vr51_8 (Q : Post) (ds : List Deferred) (σ : Env) (w : World) : vc Try.prog (.region r51_8) Q ds σ w = vcOps Try.prog [⟨some 35, (Op.move (Operand.tmp 6)), 5, none⟩, ⟨some 36, (Op.binOp BinOp.and 5 (Operand.tmp 35) (Operand.const (Value.int IntKind.u8 128)) 5), 5, none⟩, ⟨some 37, (Op.binOp BinOp.eql 5 (Operand.tmp 36) (Operand.const (Value.int IntKind.u8 0)) 5), 4, none⟩] (Q .normal ds) σ w := mk_eq rfl
@[push_cast] theorem vr51_9 (Q : Post) (ds : List Deferred) (σ : Env) (w : World) : vc Try.prog (.region r51_9) Q ds σ w = vcOps Try.prog [⟨some 38, (Op.move (Operand.tmp 4)), 35, none⟩, ⟨some 39, (Op.call { callee := (Callee.value (Operand.func 32)), args := #[(Operand.tmp 38)], argTypes := #[35] }), 3, none⟩, ⟨some 40, (Op.move (Operand.tmp 5)), 3, none⟩, ⟨some 41, (Op.binOp BinOp.add 3 (Operand.tmp 40) (Operand.const (Value.int IntKind.i64 1)) 3), 3, none⟩, ⟨some 2, (Op.assign (Operand.tmp 39)), 3, none⟩, ⟨some 3, (Op.assign (Operand.tmp 41)), 3, none⟩] (Q .normal ds) σ w := mk_eq rfl
@[push_cast] theorem vr51_10 (Q : Post) (ds : List Deferred) (σ : Env) (w : World) : vc Try.prog (.region r51_10) Q ds σ w = vcOps Try.prog [⟨some 42, (Op.binOp BinOp.add 3 (Operand.tmp 13) (Operand.const (Value.int IntKind.i64 1)) 3), 3, none⟩, ⟨some 13, (Op.move (Operand.tmp 42)), 3, none⟩] (Q .normal ds) σ w := mk_eq rfl
@[push_cast] theorem vr51_11 (Q : Post) (ds : List Deferred) (σ : Env) (w : World) : vc Try.prog (.region r51_11) Q ds σ w = vcOps Try.prog [⟨some 2, (Op.assign (Operand.const (Value.int IntKind.i64 0))), 3, none⟩, ⟨some 3, (Op.assign (Operand.const (Value.int IntKind.i64 0))), 3, none⟩] (Q .normal ds) σ w := mk_eq rfl
/-! 52 (*columbary/columbaryref01.Reader).number (params #[55], results #[(ResultVar.tmp 2), (ResultVar.tmp 3)], 58 slots) -/
def W52_0 : List Nat := [2, 3, 4, 5, 6, 7, 8, 9, 10, 11, 12, 13, 14, 15, 16, 17, 18, 19, 20, 21, 22, 23, 24, 25, 26, 27, 28, 29, 30, 31, 32, 33, 34, 35, 36, 37, 38, 39, 40, 41, 42, 43, 44, 45, 46, 47, 48, 49, 50, 51, 52, 53, 54, 55, 56, 57]
@[push_cast] theorem W52_0_def : W52_0 = [2, 3, 4, 5, 6, 7, 8, 9, 10, 11, 12, 13, 14, 15, 16, 17, 18, 19, 20, 21, 22, 23, 24, 25, 26, 27, 28, 29, 30, 31, 32, 33, 34, 35, 36, 37, 38, 39, 40, 41, 42, 43, 44, 45, 46, 47, 48, 49, 50, 51, 52, 53, 54, 55, 56, 57] := mk_eq rfl
def r52_0 : List VOp :=
  [⟨some 2, (Op.assign (Operand.const (Value.int IntKind.u64 0))), 35, none⟩,
   ⟨some 3, (Op.assign (Operand.const (Value.int IntKind.i64 0))), 3, none⟩]
def r52_1 : List VOp :=
  [⟨some 4, (Op.assign (Operand.const (Value.int IntKind.u64 0))), 35, none⟩]
def r52_2 : List VOp :=
  [⟨some 5, (Op.assign (Operand.const (Value.int IntKind.i64 0))), 3, none⟩]
def r52_3 : List VOp :=
  [⟨some 7, (Op.move (Operand.tmp 5)), 3, none⟩,
   ⟨some 8, (Op.binOp BinOp.lss 3 (Operand.tmp 7) (Operand.const (Value.int IntKind.i64 10)) 3), 4, none⟩,
   ⟨some 9, (Op.move (Operand.tmp 8)), 4, none⟩,
   ⟨some 10, (Op.move (Operand.tmp 0)), 55, some (9, true)⟩,
   ⟨some 11, (Op.nilCheck (Operand.tmp 10)), 0, some (9, true)⟩,
   ⟨some 12, (Op.fieldAddr 57 (Operand.tmp 11) 1), 0, some (9, true)⟩,
   ⟨some 13, (Op.load 3 (Operand.tmp 12)), 3, some (9, true)⟩,
   ⟨some 14, (Op.move (Operand.tmp 5)), 3, some (9, true)⟩,
   ⟨some 15, (Op.binOp BinOp.add 3 (Operand.tmp 13) (Operand.tmp 14) 3), 3, some (9, true)⟩,
   ⟨some 16, (Op.move (Operand.tmp 0)), 55, some (9, true)⟩,
   ⟨some 17, (Op.nilCheck (Operand.tmp 16)), 0, some (9, true)⟩,
   ⟨some 18, (Op.fieldAddr 57 (Operand.tmp 17) 0), 0, some (9, true)⟩,
   ⟨some 19, (Op.load 40 (Operand.tmp 18)), 40, some (9, true)⟩,
   ⟨some 20, (Op.call { callee := (Callee.builtin Builtin.len), args := #[(Operand.tmp 19)], argTypes := #[40] }), 3, some (9, true)⟩,
   ⟨some 21, (Op.binOp BinOp.lss 3 (Operand.tmp 15) (Operand.tmp 20) 3), 4, some (9, true)⟩,
   ⟨some 22, (Op.pick (Operand.tmp 9) (Operand.tmp 21) (Operand.const (Value.bool false))), 4, none⟩]
def r52_5 : List VOp :=
  [⟨some 25, (Op.move (Operand.tmp 0)), 55, none⟩,
   ⟨some 26, (Op.nilCheck (Operand.tmp 25)), 0, none⟩,
   ⟨some 27, (Op.fieldAddr 57 (Operand.tmp 26) 0), 0, none⟩,
   ⟨some 28, (Op.load 40 (Operand.tmp 27)), 40, none⟩,
   ⟨some 29, (Op.move (Operand.tmp 0)), 55, none⟩,
   ⟨some 30, (Op.nilCheck (Operand.tmp 29)), 0, none⟩,
   ⟨some 31, (Op.fieldAddr 57 (Operand.tmp 30) 1), 0, none⟩,
   ⟨some 32, (Op.load 3 (Operand.tmp 31)), 3, none⟩,
   ⟨some 33, (Op.move (Operand.tmp 5)), 3, none⟩,
   ⟨some 34, (Op.binOp BinOp.add 3 (Operand.tmp 32) (Operand.tmp 33) 3), 3, none⟩,
   ⟨some 35, (Op.indexAddr 40 (Operand.tmp 28) (Operand.tmp 34)), 0, none⟩,
   ⟨some 36, (Op.load 5 (Operand.tmp 35)), 5, none⟩,
   ⟨some 6, (Op.assign (Operand.tmp 36)), 5, none⟩]
def r52_6 : List VOp :=
  [⟨some 37, (Op.move (Operand.tmp 5)), 3, none⟩,
   ⟨some 38, (Op.binOp BinOp.eql 3 (Operand.tmp 37) (Operand.const (Value.int IntKind.i64 0)) 3), 4, none⟩,
   ⟨some 39, (Op.move (Operand.tmp 38)), 4, none⟩,
   ⟨some 40, (Op.move (Operand.tmp 6)), 5, some (39, true)⟩,
   ⟨some 41, (Op.binOp BinOp.eql 5 (Operand.tmp 40) (Operand.const (Value.int IntKind.u8 128)) 5), 4, some (39, true)⟩,
   ⟨some 42, (Op.pick (Operand.tmp 39) (Operand.tmp 41) (Operand.const (Value.bool false))), 4, none⟩,
   ⟨some 43, (Op.move (Operand.tmp 42)), 4, none⟩,
   ⟨some 44, (Op.move (Operand.tmp 4)), 35, some (43, false)⟩,
   ⟨some 45, (Op.binOp BinOp.gtr 35 (Operand.tmp 44) (Operand.const (Value.int IntKind.u64 144115188075855871)) 35), 4, some (43, false)⟩,
   ⟨some 46, (Op.pick (Operand.tmp 43) (Operand.const (Value.bool true)) (Operand.tmp 45)), 4, none⟩]
def r52_7 : List VOp :=
  [⟨some 2, (Op.assign (Operand.const (Value.int IntKind.u64 0))), 35, none⟩,
   ⟨some 3, (Op.assign (Operand.const (Value.int IntKind.i64 0))), 3, none⟩]
def r52_8 : List VOp :=
  [⟨some 47, (Op.move (Operand.tmp 4)), 35, none⟩,
   ⟨some 48, (Op.binOp BinOp.mul 35 (Operand.const (Value.int IntKind.u64 128)) (Operand.tmp 47) 35), 35, none⟩,
   ⟨some 49, (Op.move (Operand.tmp 6)), 5, none⟩,
   ⟨some 50, (Op.binOp BinOp.rem 5 (Operand.tmp 49) (Operand.const (Value.int IntKind.u8 128)) 5), 5, none⟩,
   ⟨some 51, (Op.convert 5 35 (Operand.tmp 50)), 35, none⟩,
   ⟨some 52, (Op.binOp BinOp.add 35 (Operand.tmp 48) (Operand.tmp 51) 35), 35, none⟩,
   ⟨some 4, (Op.assign (Operand.tmp 52)), 35, none⟩]
def r52_9 : List VOp :=
  [⟨some 53, (Op.move (Operand.tmp 6)), 5, none⟩,
   ⟨some 54, (Op.binOp BinOp.lss 5 (Operand.tmp 53) (Operand.const (Value.int IntKind.u8 128)) 5), 4, none⟩]
def r52_10 : List VOp :=
  [⟨some 55, (Op.move (Operand.tmp 4)), 35, none⟩,
   ⟨some 56, (Op.move (Operand.tmp 5)), 3, none⟩,
   ⟨some 57, (Op.binOp BinOp.add 3 (Operand.tmp 56) (Operand.const (Value.int IntKind.i64 1)) 3), 3, none⟩,
   ⟨some 2, (Op.assign (Operand.tmp 55)), 35, none⟩,
   ⟨some 3, (Op.assign (Operand.tmp 57)), 3, none⟩]
def r52_4 : List VOp :=
  [⟨some 23, (Op.move (Operand.tmp 5)), 3, none⟩,
   ⟨some 24, (Op.binOp BinOp.add 3 (Operand.tmp 23) (Operand.const (Value.int IntKind.i64 1)) 3), 3, none⟩,
   ⟨some 5, (Op.assign (Operand.tmp 24)), 3, none⟩]
def r52_11 : List VOp :=
  [⟨some 2, (Op.assign (Operand.const (Value.int IntKind.u64 0))), 35, none⟩,
   ⟨some 3, (Op.assign (Operand.const (Value.int IntKind.i64 0))), 3, none⟩]
def B52 : VC :=
  (.seq (.region r52_0) (.seq (.region r52_1) (.seq (.seq (.region r52_2) (.block 0 (.loop (.seq (.seq (.draw r52_3 true) (.cond (Operand.tmp 22) .skip (.exit 0))) (.seq (.block 1 (.seq (.draw r52_5 true) (.seq (.seq (.region r52_6) (.cond (Operand.tmp 46) (.seq (.region r52_7) .ret) .skip)) (.seq (.region r52_8) (.seq (.region r52_9) (.cond (Operand.tmp 54) (.seq (.region r52_10) .ret) .skip)))))) (.region r52_4)))))) (.seq (.region r52_11) .ret))))
theorem code52 : ∃ c, Try.f52.body = some c ∧ abs Try.f52.ntmps c = B52 := ⟨_, rfl, by kernel_rfl⟩
theorem hb52 : HasBody Try.prog 52 := hasBody_of Try.func52 (by kernel_rfl)
theorem res52 : Try.f52.results = #[(ResultVar.tmp 2), (ResultVar.tmp 3)] := rfl
theorem enter52 {w : World} {R : Value → World → Prop} (x0 : Value) (h : vc Try.prog B52 (retK Try.prog #[(ResultVar.tmp 2), (ResultVar.tmp 3)] R) [] (initEnv [x0] 0) w) : FnC Try.prog 52 #[x0] w R := by
  obtain ⟨c, h1, h2⟩ := code52
  exact hb52.fn (ret_of_vc mixed Try.func52 h1 (Nat.le_of_ble_eq_true rfl) B52 h2 h)
@[push_cast] theorem vr52_0 (Q : Post) (ds : List Deferred) (σ : Env) (w : World) : vc Try.prog (.region r52_0) Q ds σ w = vcOps Try.prog [⟨some 2, (Op.assign (Operand.const (Value.int IntKind.u64 0))), 35, none⟩, ⟨some 3, (Op.assign (Operand.const (Value.int IntKind.i64 0))), 3, none⟩] (Q .normal ds) σ w := mk_eq rfl
@[push_cast] theorem vr52_1 (Q : Post) (ds : List Deferred) (σ : Env) (w : World) : vc Try.prog (.region r52_1) Q ds σ w = vcOps Try.prog [⟨some 4, (Op.assign (Operand.const (Value.int IntKind.u64 0))), 35, none⟩] (Q .normal ds) σ w := mk_eq rfl
@[push_cast] theorem vr52_2 (Q : Post) (ds : List Deferred) (σ : Env) (w : World) : vc Try.prog (.region r52_2) Q ds σ w = vcOps Try.prog [⟨some 5, (Op.assign (Operand.const (Value.int IntKind.i64 0))), 3, none⟩] (Q .normal ds) σ w := mk_eq rfl
@[push_cast] theorem vr52_3 (Q : Post) (ds : List Deferred) (σ : Env) (w : World) : vc Try.prog (.draw r52_3 true) Q ds σ w = drawn Try.prog [(⟨some 7, (Op.move (Operand.tmp 5)), 3, none⟩, [5]), (⟨some 8, (Op.binOp BinOp.lss 3 (Operand.tmp 7) (Operand.const (Value.int IntKind.i64 10)) 3), 4, none⟩, [7]), (⟨some 9, (Op.move (Operand.tmp 8)), 4, none⟩, [8]), (⟨some 10, (Op.move (Operand.tmp 0)), 55, some (9, true)⟩, [0, 9]), (⟨some 11, (Op.nilCheck (Operand.tmp 10)), 0, some (9, true)⟩, [10, 9]), (⟨some 12, (Op.fieldAddr 57 (Operand.tmp 11) 1), 0, some (9, true)⟩, [11, 9]), (⟨some 13, (Op.load 3 (Operand.tmp 12)), 3, some (9, true)⟩, [12, 9]), (⟨some 14, (Op.move (Operand.tmp 5)), 3, some (9, true)⟩, [5, 9]), (⟨some 15, (Op.binOp BinOp.add 3 (Operand.tmp 13) (Operand.tmp 14) 3), 3, some (9, true)⟩, [13, 14, 9]), (⟨some 16, (Op.move (Operand.tmp 0)), 55, some (9, true)⟩, [0, 9]), (⟨some 17, (Op.nilCheck (Operand.tmp 16)), 0, some (9, true)⟩, [16, 9]), (⟨some 18, (Op.fieldAddr 57 (Operand.tmp 17) 0), 0, some (9, true)⟩, [17, 9]), (⟨some 19, (Op.load 40 (Operand.tmp 18)), 40, some (9, true)⟩, [18, 9]), (⟨some 20, (Op.call { callee := (Callee.builtin Builtin.len), args := #[(Operand.tmp 19)], argTypes := #[40] }), 3, some (9, true)⟩, [19, 9]), (⟨some 21, (Op.binOp BinOp.lss 3 (Operand.tmp 15) (Operand.tmp 20) 3), 4, some (9, true)⟩, [15, 20, 9]), (⟨some 22, (Op.pick (Operand.tmp 9) (Operand.tmp 21) (Operand.const (Value.bool false))), 4, none⟩, [9, 21])] true (Q .normal ds) σ w := mk_eq rfl
@[push_cast] theorem vr52_5 (Q : Post) (ds : List Deferred) (σ : Env) (w : World) : vc Try.prog (.draw r52_5 true) Q ds σ w = drawn Try.prog [(⟨some 25, (Op.move (Operand.tmp 0)), 55, none⟩, [0]), (⟨some 26, (Op.nilCheck (Operand.tmp 25)), 0, none⟩, [25]), (⟨some 27, (Op.fieldAddr 57 (Operand.tmp 26) 0), 0, none⟩, [26]), (⟨some 28, (Op.load 40 (Operand.tmp 27)), 40, none⟩, [27]), (⟨some 29, (Op.move (Operand.tmp 0)), 55, none⟩, [0]), (⟨some 30, (Op.nilCheck (Operand.tmp 29)), 0, none⟩, [29]), (⟨some 31, (Op.fieldAddr 57 (Operand.tmp 30) 1), 0, none⟩, [30]), (⟨some 32, (Op.load 3 (Operand.tmp 31)), 3, none⟩, [31]), (⟨some 33, (Op.move (Operand.tmp 5)), 3, none⟩, [5]), (⟨some 34, (Op.binOp BinOp.add 3 (Operand.tmp 32) (Operand.tmp 33) 3), 3, none⟩, [32, 33]), (⟨some 35, (Op.indexAddr 40 (Operand.tmp 28) (Operand.tmp 34)), 0, none⟩, [28, 34]), (⟨some 36, (Op.load 5 (Operand.tmp 35)), 5, none⟩, [35]), (⟨some 6, (Op.assign (Operand.tmp 36)), 5, none⟩, [36])] true (Q .normal ds) σ w := mk_eq rfl
@[push_cast] theorem vr52_6 (Q : Post) (ds : List Deferred) (σ : Env) (w : World) : vc Try.prog (.region r52_6) Q ds σ w = vcOps Try.prog [⟨some 37, (Op.move (Operand.tmp 5)), 3, none⟩, ⟨some 38, (Op.binOp BinOp.eql 3 (Operand.tmp 37) (Operand.const (Value.int IntKind.i64 0)) 3), 4, none⟩, ⟨some 39, (Op.move (Operand.tmp 38)), 4, none⟩, ⟨some 40, (Op.move (Operand.tmp 6)), 5, some (39, true)⟩, ⟨some 41, (Op.binOp BinOp.eql 5 (Operand.tmp 40) (Operand.const (Value.int IntKind.u8 128)) 5), 4, some (39, true)⟩, ⟨some 42, (Op.pick (Operand.tmp 39) (Operand.tmp 41) (Operand.const (Value.bool false))), 4, none⟩, ⟨some 43, (Op.move (Operand.tmp 42)), 4, none⟩, ⟨some 44, (Op.move (Operand.tmp 4)), 35, some (43, false)⟩, ⟨some 45, (Op.binOp BinOp.gtr 35 (Operand.tmp 44) (Operand.const (Value.int IntKind.u64 144115188075855871)) 35), 4, some (43, false)⟩, ⟨some 46, (Op.pick (Operand.tmp 43) (Operand.const (Value.bool true)) (Operand.tmp 45)), 4, none⟩] (Q .normal ds) σ w := mk_eq rfl
@[push_cast] theorem vr52_7 (Q : Post) (ds : List Deferred) (σ : Env) (w : World) : vc Try.prog (.region r52_7) Q ds σ w = vcOps Try.prog [⟨some 2, (Op.assign (Operand.const (Value.int IntKind.u64 0))), 35, none⟩, ⟨some 3, (Op.assign (Operand.const (Value.int IntKind.i64 0))), 3, none⟩] (Q .normal ds) σ w := mk_eq rfl
@[push_cast] theorem vr52_8 (Q : Post) (ds : List Deferred) (σ : Env) (w : World) : vc Try.prog (.region r52_8) Q ds σ w = vcOps Try.prog [⟨some 47, (Op.move (Operand.tmp 4)), 35, none⟩, ⟨some 48, (Op.binOp BinOp.mul 35 (Operand.const (Value.int IntKind.u64 128)) (Operand.tmp 47) 35), 35, none⟩, ⟨some 49, (Op.move (Operand.tmp 6)), 5, none⟩, ⟨some 50, (Op.binOp BinOp.rem 5 (Operand.tmp 49) (Operand.const (Value.int IntKind.u8 128)) 5), 5, none⟩, ⟨some 51, (Op.convert 5 35 (Operand.tmp 50)), 35, none⟩, ⟨some 52, (Op.binOp BinOp.add 35 (Operand.tmp 48) (Operand.tmp 51) 35), 35, none⟩, ⟨some 4, (Op.assign (Operand.tmp 52)), 35, none⟩] (Q .normal ds) σ w := mk_eq rfl
@[push_cast] theorem vr52_9 (Q : Post) (ds : List Deferred) (σ : Env) (w : World) : vc Try.prog (.region r52_9) Q ds σ w = vcOps Try.prog [⟨some 53, (Op.move (Operand.tmp 6)), 5, none⟩, ⟨some 54, (Op.binOp BinOp.lss 5 (Operand.tmp 53) (Operand.const (Value.int IntKind.u8 128)) 5), 4, none⟩] (Q .normal ds) σ w := mk_eq rfl
@[push_cast] theorem vr52_10 (Q : Post) (ds : List Deferred) (σ : Env) (w : World) : vc Try.prog (.region r52_10) Q ds σ w = vcOps Try.prog [⟨some 55, (Op.move (Operand.tmp 4)), 35, none⟩, ⟨some 56, (Op.move (Operand.tmp 5)), 3, none⟩, ⟨some 57, (Op.binOp BinOp.add 3 (Operand.tmp 56) (Operand.const (Value.int IntKind.i64 1)) 3), 3, none⟩, ⟨some 2, (Op.assign (Operand.tmp 55)), 35, none⟩, ⟨some 3, (Op.assign (Operand.tmp 57)), 3, none⟩] (Q .normal ds) σ w := mk_eq rfl
@[push_cast] theorem vr52_4 (Q : Post) (ds : List Deferred) (σ : Env) (w : World) : vc Try.prog (.region r52_4) Q ds σ w = vcOps Try.prog [⟨some 23, (Op.move (Operand.tmp 5)), 3, none⟩, ⟨some 24, (Op.binOp BinOp.add 3 (Operand.tmp 23) (Operand.const (Value.int IntKind.i64 1)) 3), 3, none⟩, ⟨some 5, (Op.assign (Operand.tmp 24)), 3, none⟩] (Q .normal ds) σ w := mk_eq rfl
@[push_cast] theorem vr52_11 (Q : Post) (ds : List Deferred) (σ : Env) (w : World) : vc Try.prog (.region r52_11) Q ds σ w = vcOps Try.prog [⟨some 2, (Op.assign (Operand.const (Value.int IntKind.u64 0))), 35, none⟩, ⟨some 3, (Op.assign (Operand.const (Value.int IntKind.i64 0))), 3, none⟩] (Q .normal ds) σ w := mk_eq rfl
@[push_cast] theorem bsl40_0_CodesZ {K : Value → World → Prop} {w : World}  : vBuildSlice Try.prog 40 0 #[] K w = K (.slice (some ⟨w.heap.size, 0, none⟩) 0 0) (w.alloc (.cells #[] 5)) :=
  vBuildSlice_ok Try.underlying40 ti5 (by kernel_rfl) (by decide)
@[push_cast] theorem bsl40_1_CodesZ {K : Value → World → Prop} {w : World} (x0 : Int) : vBuildSlice Try.prog 40 1 #[(0, (.int .u8 x0))] K w = K (.slice (some ⟨w.heap.size, 0, none⟩) 1 1) (w.alloc (.cells #[(.int .u8 x0)] 5)) :=
  vBuildSlice_ok Try.underlying40 ti5 (by kernel_rfl) (by decide)
@[push_cast] theorem bld68_0_CodesZ {K : Value → World → Prop} {w : World} (x0o : Option Addr) (x0n x0c : Nat) : vBuild Try.prog 68 #[(0, (.slice x0o x0n x0c))] K w = K (.agg #[(.slice x0o x0n x0c)]) w :=
  vBuild_ok (by kernel_rfl)
end Go.Proofs.Ytgomibebepmlhaa
