/- The functions' code in the generator's form. Written by a program (codes.py) out of Lean's own print of the loaded translation. -/
import Derived.Lib.ConvBytes
import Derived.Lib.AppendStr
import Derived.Laws.BytesArg
import Derived.Test.YtcajkjbempagaaaPartE
set_option linter.all false
section
namespace Go.Proofs.Ytcajkjbempagaaa
open Go.Vc
set_option maxRecDepth 100000
variable (Q : Post) (ds : List Deferred) (σ : Env) (w : World)
@[push_cast] theorem vzR (r : List VOp) (Q : Post) (ds : List Deferred) (σ : Env) (w : World) : vc Try.prog (.region r) Q ds σ w = vcOps Try.prog r (Q .normal ds) σ w := mk_eq rfl
def dzR (q : List (VOp × List Nat)) : List VOp := q.map (·.1)
abbrev VzD (q l : List (VOp × List Nat)) (n : Nat) : Prop := ∀ (Q : Post) (ds : List Deferred) (σ : Env) (w : World), vc Try.prog (.draw (dzR q) n) Q ds σ w = drawn Try.prog l n (Q .normal ds) σ w
abbrev VzS (q l : List (VOp × List Nat)) (n : Nat) (ls : List Nat) : Prop := ∀ (Q : Post) (ds : List Deferred) (σ : Env) (w : World), vc Try.prog (.drawS (dzR q) n ls) Q ds σ w = drawnS Try.prog l n ls (Q .normal ds) σ w
abbrev VzE (q l : List (VOp × List Nat)) (n : Nat) : Prop := ∀ (Q : Post) (ds : List Deferred) (σ : Env) (w : World), vc Try.prog (.drawR (dzR q) n) Q ds σ w = drawnR Try.prog l n (Q .normal ds) σ w
theorem vzD {q l : List (VOp × List Nat)} (h : q = l) (e : withReads (dzR l) = l) (n : Nat) : VzD q l n := fun Q ds σ w => mk_eq (by subst h; show drawn _ (withReads _) _ _ _ _ = _; rw [e])
theorem vzS {q l : List (VOp × List Nat)} (h : q = l) (e : withReads (dzR l) = l) (n : Nat) (ls : List Nat) : VzS q l n ls := fun Q ds σ w => mk_eq (by subst h; show drawnS _ (withReads _) _ _ _ _ _ = _; rw [e])
theorem vzE {q l : List (VOp × List Nat)} (h : q = l) (e : withReads (dzR l) = l) (n : Nat) : VzE q l n := fun Q ds σ w => mk_eq (by subst h; show drawnR _ (withReads _) _ _ _ _ = _; rw [e])
abbrev Ent (f : FuncId) (B : VC) (rs : Array ResultVar) (l : List Value) : Prop := ∀ {w : World} {R : Value → World → Prop}, vc Try.prog B (retK Try.prog rs R) [] (initEnv l 0) w → FnC Try.prog f l.toArray w R
theorem ent {f : FuncId} {fn : Func} {B : VC} {rs : Array ResultVar} {l : List Value} {tt : Bool} (hc : ∃ c, fn.body = some c ∧ absM false fn.ntmps tt c = B) (hb : HasBody Try.prog f) (hf : Try.prog.funcs[f]? = some fn) (hn : Nat.ble l.length fn.ntmps = true) (hr : fn.results = rs) : Ent f B rs l := by
  intro w R h
  obtain ⟨c, h1, h2⟩ := hc
  subst hr
  exact hb.fn (ret_of_vc mixed hf h1 (by simpa using Nat.le_of_ble_eq_true hn) B h2 h)
abbrev mv (d s t : Nat) : VOp := ⟨some d, .move (.tmp s), t, none⟩
abbrev lda (d t s : Nat) : VOp := ⟨some d, .load t (.tmp s), t, none⟩
abbrev asg (d s t : Nat) : VOp := ⟨some d, .assign (.tmp s), t, none⟩
abbrev ext (d s i t : Nat) : VOp := ⟨some d, .extract (.tmp s) i, t, none⟩
abbrev fad (d t s i : Nat) : VOp := ⟨some d, .fieldAddr t (.tmp s) i, 0, none⟩
abbrev iad (d t s i : Nat) : VOp := ⟨some d, .indexAddr t (.tmp s) (.tmp i), 0, none⟩
abbrev zA (a1 : Nat) : VOp := ⟨none, .store 4 (.tmp a1) (.const (.bool true)), 0, none⟩
abbrev zB (a0 : Nat) (a1 : Nat) (a2 : Nat) : VOp := ⟨none, .store a0 (.tmp a1) (.tmp a2), 0, none⟩
abbrev zC (a0 : Nat) (a1 : Nat) : VOp := ⟨some a0, .alloc a1, 0, none⟩
abbrev zD (a0 : Nat) : VOp := ⟨some a0, .assign (.const (.bool false)), 4, none⟩
abbrev zE (a0 : Nat) : VOp := ⟨some a0, .assign (.const (.bool true)), 4, none⟩
abbrev zF (a0 : Nat) (a1 : Int) (a2 : Nat) : VOp := ⟨some a0, .assign (.const (.int .i64 a1)), a2, none⟩
abbrev zG (a0 : Nat) (a1 : Int) : VOp := ⟨some a0, .assign (.const (.int .u32 a1)), 101, none⟩
abbrev zH (a0 : Nat) : VOp := ⟨some a0, .assign (.const (.int .u64 0)), 108, none⟩
abbrev zI (a0 : Nat) (a1 : Nat) : VOp := ⟨some a0, .assign (.const (.pointer none)), a1, none⟩
abbrev zJ (a0 : Nat) (a3 : Nat) : VOp := ⟨some a0, .assign (.const (.slice none 0 0)), a3, none⟩
abbrev zK (a0 : Nat) (a2 : Nat) (a3 : Int) : VOp := ⟨some a0, .binOp .add 3 (.tmp a2) (.const (.int .i64 a3)) 3, 3, none⟩
abbrev zL (a0 : Nat) (a1 : Nat) (a2 : Nat) (a3 : Nat) : VOp := ⟨some a0, .binOp .add a1 (.tmp a2) (.tmp a3) a1, a1, none⟩
abbrev zM (a0 : Nat) (a1 : Nat) (a2 : Nat) (a3 : Int) : VOp := ⟨some a0, .binOp .eql a1 (.tmp a2) (.const (.int .i64 a3)) a1, 4, none⟩
abbrev zN (a0 : Nat) (a1 : Nat) (a2 : Nat) (a3 : Int) (a6 : Nat) : VOp := ⟨some a0, .binOp .eql a1 (.tmp a2) (.const (.int .i64 a3)) a1, 4, some (a6, true)⟩
abbrev zO (a0 : Nat) (a1 : Nat) (a2 : Nat) (a3 : Int) (a5 : Nat) (a6 : Nat) : VOp := ⟨some a0, .binOp .eql a1 (.tmp a2) (.const (.int .u8 a3)) a1, a5, some (a6, false)⟩
abbrev zP (a0 : Nat) (a1 : Nat) (a2 : Nat) : VOp := ⟨some a0, .binOp .eql a1 (.tmp a2) (.const (.pointer none)) a1, 4, none⟩
abbrev zQ (a0 : Nat) (a1 : Nat) (a2 : Nat) (a4 : Nat) (a5 : Nat) : VOp := ⟨some a0, .binOp .eql a1 (.tmp a2) (.const (.pointer none)) a1, a4, some (a5, false)⟩
abbrev zR (a0 : Nat) (a1 : Nat) (a2 : Nat) (a3 : Nat) (a6 : Nat) : VOp := ⟨some a0, .binOp .eql a1 (.tmp a2) (.tmp a3) a1, 4, some (a6, true)⟩
abbrev zS (a0 : Nat) (a2 : Nat) (a3 : Int) : VOp := ⟨some a0, .binOp .geq 3 (.tmp a2) (.const (.int .i64 a3)) 3, 4, none⟩
abbrev zT (a0 : Nat) (a2 : Nat) (a3 : Int) : VOp := ⟨some a0, .binOp .gtr 3 (.tmp a2) (.const (.int .i64 a3)) 3, 4, none⟩
abbrev zU (a0 : Nat) (a2 : Nat) (a3 : Int) (a6 : Nat) : VOp := ⟨some a0, .binOp .gtr 3 (.tmp a2) (.const (.int .i64 a3)) 3, 4, some (a6, false)⟩
abbrev zV (a0 : Nat) (a2 : Nat) (a3 : Nat) (a6 : Nat) : VOp := ⟨some a0, .binOp .gtr 3 (.tmp a2) (.tmp a3) 3, 4, some (a6, false)⟩
abbrev zW (a0 : Nat) (a2 : Nat) (a3 : Int) (a6 : Nat) : VOp := ⟨some a0, .binOp .leq 3 (.tmp a2) (.const (.int .i64 a3)) 3, 4, some (a6, true)⟩
abbrev zX (a0 : Nat) (a2 : Nat) (a3 : Int) (a5 : Nat) : VOp := ⟨some a0, .binOp .lss 3 (.tmp a2) (.const (.int .i64 a3)) 3, a5, none⟩
abbrev zY (a0 : Nat) (a2 : Nat) (a3 : Nat) (a5 : Nat) : VOp := ⟨some a0, .binOp .lss 3 (.tmp a2) (.tmp a3) 3, a5, none⟩
abbrev zZ (a0 : Nat) (a1 : Nat) (a2 : Int) (a3 : Nat) : VOp := ⟨some a0, .binOp .mul a1 (.const (.int .u64 a2)) (.tmp a3) a1, a1, none⟩
abbrev zBA (a0 : Nat) (a2 : Nat) (a3 : Int) : VOp := ⟨some a0, .binOp .neq 29 (.tmp a2) (.const (.int .i64 a3)) 29, 4, none⟩
abbrev zBB (a0 : Nat) (a2 : Nat) (a6 : Nat) : VOp := ⟨some a0, .binOp .neq 29 (.tmp a2) (.const (.int .i64 0)) 29, 4, some (a6, false)⟩
abbrev zBC (a0 : Nat) (a1 : Nat) (a2 : Nat) (a3 : Nat) : VOp := ⟨some a0, .binOp .neq a1 (.tmp a2) (.tmp a3) a1, 4, none⟩
abbrev zBD (a0 : Nat) (a2 : Nat) (a3 : Int) : VOp := ⟨some a0, .binOp .quo 101 (.tmp a2) (.const (.int .u32 a3)) 101, 101, none⟩
abbrev zBE (a0 : Nat) (a1 : Nat) (a2 : Nat) (a3 : Int) : VOp := ⟨some a0, .binOp .quo a1 (.tmp a2) (.const (.int .u64 a3)) a1, a1, none⟩
abbrev zBF (a0 : Nat) (a1 : Nat) (a2 : Nat) (a3 : Int) : VOp := ⟨some a0, .binOp .rem a1 (.tmp a2) (.const (.int .u64 a3)) a1, a1, none⟩
abbrev zBG (a0 : Nat) (a1 : Nat) (a2 : Nat) (a3 : Int) : VOp := ⟨some a0, .binOp .shr a1 (.tmp a2) (.const (.int .u64 a3)) 122, a1, none⟩
abbrev zBH (a0 : Nat) (a2 : Nat) (a3 : Nat) : VOp := ⟨some a0, .binOp .sub 3 (.tmp a2) (.tmp a3) 3, 3, none⟩
abbrev zBI (a0 : Nat) (a1 : Nat) (a2 : Nat) (a3 : Nat) : VOp := ⟨some a0, .binOp .xor a1 (.tmp a2) (.tmp a3) a1, a1, none⟩
abbrev zBJ (a0 : Nat) (a1 : Nat) (a2 : Nat) (a3 : Nat) : VOp := ⟨some a0, .box a1 (.tmp a2), a3, none⟩
abbrev zBK (a0 : Nat) (a1 : Nat) (a2 : Nat) (a3 : Nat) : VOp := ⟨some a0, .build a1 #[(a2, (.tmp a3))], a1, none⟩
abbrev zBL (a0 : Nat) : VOp := ⟨some a0, .build 43 #[], 43, none⟩
abbrev zBM (a0 : Nat) (a1 : Nat) (a4 : Nat) : VOp := ⟨some a0, .buildSlice a1 1 #[(0, (.tmp a4))], a1, none⟩
abbrev zBN (a0 : Nat) (a1 : Nat) (a2 : Nat) (a3 : Nat) (a4 : Nat) : VOp := ⟨some a0, .call ⟨.builtin .append, #[.tmp a1, .tmp a2], #[a3, a4]⟩, a3, none⟩
abbrev zBO (a0 : Nat) (a1 : Nat) (a2 : Nat) : VOp := ⟨some a0, .call ⟨.builtin .len, #[.tmp a1], #[a2]⟩, 3, none⟩
abbrev zBP (a0 : Nat) (a1 : Nat) (a2 : Nat) (a4 : Nat) : VOp := ⟨some a0, .call ⟨.builtin .len, #[.tmp a1], #[a2]⟩, 3, some (a4, false)⟩
abbrev zBQ (a0 : Nat) (a1 : Nat) (a2 : Nat) (a4 : Nat) : VOp := ⟨some a0, .call ⟨.builtin .len, #[.tmp a1], #[a2]⟩, 3, some (a4, true)⟩
abbrev zBR (a0 : Nat) (a2 : Int) : VOp := ⟨some a0, .call ⟨.value (.func 9), #[(.const (.int .i64 a2))], #[3]⟩, 30, none⟩
abbrev zBS (a0 : Nat) (a1 : Nat) (a2 : Nat) (a4 : Int) (a5 : Nat) (a8 : Nat) : VOp := ⟨some a0, .call ⟨.value (.func a1), #[(.tmp a2), (.const (.int .i64 0)), (.const (.int .i64 a4))], #[a5, 3, 3]⟩, a8, none⟩
abbrev zBT (a0 : Nat) (a1 : Nat) (a2 : Nat) (a3 : Int) (a4 : Nat) (a5 : Nat) (a6 : Nat) : VOp := ⟨some a0, .call ⟨.value (.func a1), #[(.tmp a2), (.const (.int .i64 a3))], #[a4, a5]⟩, a6, none⟩
abbrev zBU (a0 : Nat) (a1 : Nat) (a2 : Nat) (a3 : Nat) (a4 : Nat) (a5 : Nat) (a6 : Nat) (a7 : Nat) (a8 : Nat) : VOp := ⟨some a0, .call ⟨.value (.func a1), #[.tmp a2, .tmp a3, .tmp a4], #[a5, a6, a7]⟩, a8, none⟩
abbrev zBV (a0 : Nat) (a1 : Nat) (a2 : Nat) (a3 : Nat) (a4 : Nat) (a5 : Nat) (a6 : Nat) : VOp := ⟨some a0, .call ⟨.value (.func a1), #[.tmp a2, .tmp a3], #[a4, a5]⟩, a6, none⟩
abbrev zBW (a0 : Nat) (a1 : Nat) (a2 : Nat) (a3 : Nat) (a4 : Nat) (a5 : Nat) (a6 : Nat) (a7 : Nat) : VOp := ⟨some a0, .call ⟨.value (.func a1), #[.tmp a2, .tmp a3], #[a4, a5]⟩, a6, some (a7, true)⟩
abbrev zBX (a0 : Nat) (a1 : Nat) (a2 : Nat) (a3 : Nat) (a4 : Nat) : VOp := ⟨some a0, .call ⟨.value (.func a1), #[.tmp a2], #[a3]⟩, a4, none⟩
abbrev zBY (a0 : Nat) (a1 : Nat) (a2 : Nat) (a3 : Nat) (a4 : Nat) (a5 : Nat) : VOp := ⟨some a0, .call ⟨.value (.func a1), #[.tmp a2], #[a3]⟩, a4, some (a5, false)⟩
abbrev zBZ (a0 : Nat) (a1 : Nat) (a2 : Nat) : VOp := ⟨some a0, .call ⟨.value (.func a1), #[], #[]⟩, a2, none⟩
abbrev zCA (a0 : Nat) (a1 : Nat) (a2 : Nat) (a3 : Nat) : VOp := ⟨some a0, .convert a1 a2 (.tmp a3), a2, none⟩
abbrev zCB (a0 : Nat) (a1 : Nat) (a2 : Nat) (a3 : Nat) (a5 : Nat) : VOp := ⟨some a0, .fieldAddr a1 (.tmp a2) a3, 0, some (a5, false)⟩
abbrev zCC (a0 : Nat) (a1 : Nat) (a2 : Nat) (a3 : Nat) (a5 : Nat) : VOp := ⟨some a0, .fieldAddr a1 (.tmp a2) a3, 0, some (a5, true)⟩
abbrev zCD (a0 : Nat) (a2 : Nat) (a3 : Nat) (a5 : Nat) : VOp := ⟨some a0, .index 9 (.tmp a2) (.tmp a3), 5, some (a5, false)⟩
abbrev zCE (a0 : Nat) (a1 : Nat) (a2 : Nat) (a3 : Int) : VOp := ⟨some a0, .indexAddr a1 (.tmp a2) (.const (.int .i64 a3)), 0, none⟩
abbrev zCF (a0 : Nat) (a1 : Nat) (a2 : Nat) (a3 : Int) (a5 : Nat) : VOp := ⟨some a0, .indexAddr a1 (.tmp a2) (.const (.int .i64 a3)), 0, some (a5, true)⟩
abbrev zCG (a0 : Nat) (a1 : Nat) (a2 : Nat) (a4 : Nat) : VOp := ⟨some a0, .load a1 (.tmp a2), a1, some (a4, false)⟩
abbrev zCH (a0 : Nat) (a1 : Nat) (a2 : Nat) (a4 : Nat) : VOp := ⟨some a0, .load a1 (.tmp a2), a1, some (a4, true)⟩
abbrev zCI (a0 : Nat) : VOp := ⟨some a0, .move (.const (.int .i64 0)), 3, none⟩
abbrev zCJ (a0 : Nat) (a1 : Nat) (a2 : Nat) (a3 : Nat) : VOp := ⟨some a0, .move (.tmp a1), a2, some (a3, false)⟩
abbrev zCK (a0 : Nat) (a1 : Nat) (a2 : Nat) (a3 : Nat) : VOp := ⟨some a0, .move (.tmp a1), a2, some (a3, true)⟩
abbrev zCL (a0 : Nat) (a1 : Nat) : VOp := ⟨some a0, .nilCheck (.tmp a1), 0, none⟩
abbrev zCM (a0 : Nat) (a1 : Nat) (a3 : Nat) : VOp := ⟨some a0, .nilCheck (.tmp a1), 0, some (a3, false)⟩
abbrev zCN (a0 : Nat) (a1 : Nat) (a2 : Nat) : VOp := ⟨some a0, .pick (.tmp a1) (.const (.bool true)) (.tmp a2), 4, none⟩
abbrev zCO (a0 : Nat) (a1 : Nat) (a2 : Nat) : VOp := ⟨some a0, .pick (.tmp a1) (.tmp a2) (.const (.bool false)), 4, none⟩
abbrev zCP (a0 : Nat) (a1 : Nat) (a2 : Nat) (a3 : Nat) : VOp := ⟨some a0, .slice a1 (.tmp a2) (some (.tmp a3)) none none, a1, none⟩
abbrev zCQ (a0 : Nat) (a1 : Nat) (a2 : Nat) (a3 : Nat) : VOp := ⟨some a0, .slice a1 (.tmp a2) none (some (.tmp a3)) none, a1, none⟩
abbrev zCR (a0 : Nat) (a2 : Nat) : VOp := ⟨some a0, .unOp .not 4 (.tmp a2), 4, none⟩
abbrev zCS (a0 : Nat) (a2 : Nat) (a4 : Nat) : VOp := ⟨some a0, .unOp .not 4 (.tmp a2), 4, some (a4, false)⟩
abbrev zCT (a0 : Nat) (a2 : Nat) (a4 : Nat) : VOp := ⟨some a0, .unOp .not 4 (.tmp a2), 4, some (a4, true)⟩
/-! 9 columbary/vault.New (params #[3], results #[(.tmp 2), (.tmp 3)], 14 slots) -/
abbrev r9_0 : List VOp :=
  [zI 2 28,
   zF 3 0 29]
abbrev r9_1 : List VOp :=
  [mv 4 0 3,
   zX 5 4 0 4,
   mv 6 5 4,
   zCJ 7 0 3 6,
   zU 8 7 16777216 6,
   zCN 9 6 8]
abbrev r9_2 : List VOp :=
  [zI 2 28,
   zF 3 1 29]
abbrev r9_3 : List VOp :=
  [mv 10 0 3,
   ⟨some 11, .makeMap 64 none, 64, none⟩,
   ⟨some 12, .build 66 #[(0, (.tmp 10)), (1, (.const (.int .i64 (-1)))), (2, (.tmp 11))], 66, none⟩,
   zBJ 13 66 12 28,
   asg 2 13 28,
   zF 3 0 29]
def B9 : VC :=
  (.seq (.region r9_0) (.seq (.seq (.region r9_1) (.cond (.tmp 9) (.seq (.region r9_2) .ret) .skip)) (.seq (.region r9_3) .ret)))
theorem code9 : ∃ c, Try.f9.body = some c ∧ abs Try.f9.ntmps c = B9 := ⟨_, rfl, by kernel_rfl⟩
theorem hb9 : HasBody Try.prog 9 := hasBody_of Try.func9 (by kernel_rfl)
theorem enter9 (x0 : Value) : Ent 9 B9 #[(.tmp 2), (.tmp 3)] [x0] := ent code9 hb9 Try.func9 rfl rfl
/-! 10 (*columbary/vault.Vault).Append (params #[28, 9, 25], results #[(.tmp 6)], 61 slots) -/
abbrev r10_0 : List VOp :=
  [zF 6 0 29]
abbrev r10_1 : List VOp :=
  [mv 11 0 28,
   mv 12 1 9,
   ⟨some 13, .call ⟨.value (.func 26), #[(.tmp 11), (.tmp 12), (.const (.bool false))], #[28, 9, 4]⟩, 29, none⟩,
   asg 7 13 29]
abbrev r10_2 : List VOp :=
  [mv 14 7 29,
   zBA 15 14 0]
abbrev r10_3 : List VOp :=
  [mv 16 7 29,
   asg 6 16 29]
abbrev r10_4 : List VOp :=
  [mv 17 0 28,
   zBX 18 27 17 28 29,
   asg 8 18 29]
abbrev r10_5 : List VOp :=
  [mv 19 8 29,
   zBA 20 19 0]
abbrev r10_6 : List VOp :=
  [mv 21 8 29,
   asg 6 21 29]
abbrev r10_7 : List VOp :=
  [mv 23 0 28,
   zCL 24 23,
   fad 25 66 24 2,
   lda 26 64 25,
   mv 27 1 9,
   ⟨some 28, .lookup 64 (.tmp 26) (.tmp 27) true, 71, none⟩,
   mv 22 28 71,
   ext 29 22 0 70,
   ext 30 22 1 4,
   zC 9 70,
   zB 70 9 29,
   asg 10 30 4]
abbrev r10_8 : List VOp :=
  [mv 31 2 25,
   zBO 32 31 25,
   mv 33 0 28,
   zBX 34 28 33 28 3,
   ⟨some 35, .binOp .gtr 3 (.tmp 32) (.tmp 34) 3, 4, none⟩,
   mv 36 35 4,
   zCJ 37 10 4 36,
   zCS 38 37 36,
   zCJ 39 38 4 36,
   zCK 40 0 28 39,
   ⟨some 41, .nilCheck (.tmp 40), 0, some (39, true)⟩,
   zCC 42 66 41 2 39,
   zCH 43 64 42 39,
   zBQ 44 43 64 39,
   ⟨some 45, .binOp .geq 3 (.tmp 44) (.const (.int .i64 200)) 3, 4, some (39, true)⟩,
   ⟨some 46, .pick (.tmp 39) (.tmp 45) (.const (.bool false)), 4, some (36, false)⟩,
   zCN 47 36 46]
abbrev r10_9 : List VOp :=
  [zF 6 32 29]
def r10_10 : List (VOp × List Nat) := [(⟨some 48, .move (.tmp 0), 28, none⟩, [0]), (⟨some 49, .nilCheck (.tmp 48), 0, none⟩, [48]), (⟨some 50, .fieldAddr 66 (.tmp 49) 2, 0, none⟩, [49]), (⟨some 51, .load 64 (.tmp 50), 64, none⟩, [50]), (⟨some 52, .move (.tmp 1), 9, none⟩, [1]), (⟨some 53, .fieldAddr 70 (.tmp 9) 0, 0, none⟩, [9]), (⟨some 54, .load 25 (.tmp 53), 25, none⟩, [53]), (⟨some 55, .move (.tmp 2), 25, none⟩, [2]), (⟨some 56, .buildSlice 76 2 #[(0, (.tmp 54)), (1, (.tmp 55))], 76, none⟩, [54, 55]), (⟨some 57, .call ⟨.value (.func 29), #[.tmp 56], #[76]⟩, 25, none⟩, [56]), (⟨some 58, .fieldAddr 70 (.tmp 9) 1, 0, none⟩, [9]), (⟨some 59, .load 3 (.tmp 58), 3, none⟩, [58]), (⟨some 60, .build 70 #[(0, (.tmp 57)), (1, (.tmp 59))], 70, none⟩, [57, 59]), (⟨none, .mapUpdate 64 (.tmp 51) (.tmp 52) (.tmp 60), 0, none⟩, [51, 52, 60])]
abbrev r10_11 : List VOp :=
  [zF 6 0 29]
def B10 : VC :=
  (.seq (.region r10_0) (.seq (.seq (.region r10_1) (.seq (.region r10_2) (.cond (.tmp 15) (.seq (.region r10_3) .ret) .skip))) (.seq (.seq (.region r10_4) (.seq (.region r10_5) (.cond (.tmp 20) (.seq (.region r10_6) .ret) .skip))) (.seq (.region r10_7) (.seq (.seq (.region r10_8) (.cond (.tmp 47) (.seq (.region r10_9) .ret) .skip)) (.seq (.draw (dzR r10_10) 2) (.seq (.region r10_11) .ret)))))))
theorem code10 : ∃ c, Try.f10.body = some c ∧ abs Try.f10.ntmps c = B10 := ⟨_, rfl, by kernel_rfl⟩
theorem hb10 : HasBody Try.prog 10 := hasBody_of Try.func10 (by kernel_rfl)
theorem enter10 (x0 x1 x2 : Value) : Ent 10 B10 #[(.tmp 6)] [x0, x1, x2] := ent code10 hb10 Try.func10 rfl rfl
@[push_cast] def vr10_10 := vzD r10_10.eq_1 rfl 2
/-! 18 (*columbary/vault.Vault).Arm (params #[28, 3], results #[(.tmp 4)], 15 slots) -/
abbrev r18_0 : List VOp :=
  [zF 4 0 29]
abbrev r18_1 : List VOp :=
  [mv 5 0 28,
   zP 6 28 5,
   mv 7 6 4,
   zCJ 8 1 3 7,
   ⟨some 9, .binOp .lss 3 (.tmp 8) (.const (.int .i64 0)) 3, 4, some (7, false)⟩,
   zCN 10 7 9]
abbrev r18_2 : List VOp :=
  [zF 4 1 29]
abbrev r18_3 : List VOp :=
  [mv 11 0 28,
   mv 12 1 3,
   zCL 13 11,
   fad 14 66 13 1,
   zB 3 14 12]
abbrev r18_4 : List VOp :=
  [zF 4 0 29]
def B18 : VC :=
  (.seq (.region r18_0) (.seq (.seq (.region r18_1) (.cond (.tmp 10) (.seq (.region r18_2) .ret) .skip)) (.seq (.region r18_3) (.seq (.region r18_4) .ret))))
theorem code18 : ∃ c, Try.f18.body = some c ∧ abs Try.f18.ntmps c = B18 := ⟨_, rfl, by kernel_rfl⟩
theorem hb18 : HasBody Try.prog 18 := hasBody_of Try.func18 (by kernel_rfl)
theorem enter18 (x0 x1 : Value) : Ent 18 B18 #[(.tmp 4)] [x0, x1] := ent code18 hb18 Try.func18 rfl rfl
/-! 20 (*columbary/vault.Vault).Broken (params #[28], results #[(.tmp 2)], 12 slots) -/
abbrev r20_0 : List VOp :=
  [zD 2]
abbrev r20_1 : List VOp :=
  [mv 3 0 28,
   ⟨some 4, .binOp .neq 28 (.tmp 3) (.const (.pointer none)) 28, 4, none⟩,
   mv 5 4 4,
   zCK 6 0 28 5,
   ⟨some 7, .nilCheck (.tmp 6), 0, some (5, true)⟩,
   zCC 8 66 7 1 5,
   zCH 9 3 8 5,
   zN 10 3 9 0 5,
   zCO 11 5 10,
   asg 2 11 4]
def B20 : VC :=
  (.seq (.region r20_0) (.seq (.region r20_1) .ret))
theorem code20 : ∃ c, Try.f20.body = some c ∧ abs Try.f20.ntmps c = B20 := ⟨_, rfl, by kernel_rfl⟩
theorem hb20 : HasBody Try.prog 20 := hasBody_of Try.func20 (by kernel_rfl)
theorem enter20 (x0 : Value) : Ent 20 B20 #[(.tmp 2)] [x0] := ent code20 hb20 Try.func20 rfl rfl
/-! 21 (*columbary/vault.Vault).Crash (params #[28, 3], results #[(.tmp 4)], 53 slots) -/
@[push_cast] def W21_0 : List Nat := [6, 7, 8, 23, 24, 25, 26, 27, 28, 29, 30, 31, 32, 33, 34, 35, 36, 37, 38, 39, 40, 41, 42, 43, 44, 45, 46, 47, 48, 49, 50, 51]
abbrev r21_0 : List VOp :=
  [zI 4 28]
abbrev r21_1 : List VOp :=
  [mv 9 0 28,
   zP 10 28 9]
abbrev r21_2 : List VOp :=
  [zI 4 28]
abbrev r21_3 : List VOp :=
  [mv 11 0 28,
   zCL 12 11,
   fad 13 66 12 0,
   lda 14 3 13,
   ⟨some 15, .makeMap 64 none, 64, none⟩,
   ⟨some 16, .build 66 #[(0, (.tmp 14)), (1, (.const (.int .i64 (-1)))), (2, (.tmp 15))], 66, none⟩,
   zBJ 17 66 16 28,
   asg 5 17 28]
abbrev r21_4 : List VOp :=
  [mv 18 0 28,
   zCL 19 18,
   fad 20 66 19 2,
   lda 21 64 20,
   ⟨some 22, .range 64 (.tmp 21), 0, none⟩]
abbrev r21_5 : List VOp :=
  [⟨some 23, .next (.tmp 22) false, 0, none⟩,
   ext 24 23 0 4]
abbrev r21_6 : List VOp :=
  [⟨some 25, .entry (.tmp 22), 0, none⟩,
   ext 26 25 0 9,
   ext 27 25 1 70,
   zC 7 70,
   asg 6 26 9,
   zB 70 7 27]
abbrev r21_7 : List VOp :=
  [fad 28 70 7 1,
   lda 29 3 28,
   mv 30 1 3,
   ⟨some 31, .call ⟨.builtin .max, #[(.tmp 30), (.const (.int .i64 0))], #[3, 3]⟩, 3, none⟩,
   fad 32 70 7 0,
   lda 33 25 32,
   zBO 34 33 25,
   fad 35 70 7 1,
   lda 36 3 35,
   zBH 37 34 36,
   ⟨some 38, .call ⟨.builtin .min, #[.tmp 31, .tmp 37], #[3, 3]⟩, 3, none⟩,
   zL 39 3 29 38,
   asg 8 39 3]
def r21_8 : List (VOp × List Nat) := [(⟨some 40, .move (.tmp 5), 28, none⟩, [5]), (⟨some 41, .nilCheck (.tmp 40), 0, none⟩, [40]), (⟨some 42, .fieldAddr 66 (.tmp 41) 2, 0, none⟩, [41]), (⟨some 43, .load 64 (.tmp 42), 64, none⟩, [42]), (⟨some 44, .move (.tmp 6), 9, none⟩, [6]), (⟨some 45, .fieldAddr 70 (.tmp 7) 0, 0, none⟩, [7]), (⟨some 46, .load 25 (.tmp 45), 25, none⟩, [45]), (⟨some 47, .move (.tmp 8), 3, none⟩, [8]), (⟨some 48, .slice 25 (.tmp 46) none (some (.tmp 47)) none, 25, none⟩, [46, 47]), (⟨some 49, .call ⟨.value (.func 46), #[.tmp 48], #[25]⟩, 25, none⟩, [48]), (⟨some 50, .move (.tmp 8), 3, none⟩, [8]), (⟨some 51, .build 70 #[(0, (.tmp 49)), (1, (.tmp 50))], 70, none⟩, [49, 50]), (⟨none, .mapUpdate 64 (.tmp 43) (.tmp 44) (.tmp 51), 0, none⟩, [43, 44, 51])]
abbrev r21_9 : List VOp :=
  [mv 52 5 28,
   asg 4 52 28]
def B21 : VC :=
  (.seq (.region r21_0) (.seq (.seq (.region r21_1) (.cond (.tmp 10) (.seq (.region r21_2) .ret) .skip)) (.seq (.region r21_3) (.seq (.seq (.region r21_4) (.block 0 (.loop (.seq (.region r21_5) (.seq (.cond (.tmp 24) .skip (.exit 0)) (.block 1 (.seq (.region r21_6) (.seq (.region r21_7) (.draw (dzR r21_8) 2))))))))) (.seq (.region r21_9) .ret)))))
theorem code21 : ∃ c, Try.f21.body = some c ∧ abs Try.f21.ntmps c = B21 := ⟨_, rfl, by kernel_rfl⟩
theorem hb21 : HasBody Try.prog 21 := hasBody_of Try.func21 (by kernel_rfl)
theorem enter21 (x0 x1 : Value) : Ent 21 B21 #[(.tmp 4)] [x0, x1] := ent code21 hb21 Try.func21 rfl rfl
@[push_cast] def vr21_8 := vzD r21_8.eq_1 rfl 2
/-! 23 columbary/columbaryref10.Right (params #[24], results #[(.tmp 2)], 57 slots) -/
@[push_cast] def W23_0 : List Nat := [2, 4, 5, 6, 14, 15, 16, 17, 18, 19, 20, 21, 22, 23, 24, 25, 26, 27, 28, 29, 30, 31, 32, 33, 34, 35, 36, 37, 38, 39, 40]
@[push_cast] def W23_1 : List Nat := [2, 6, 27, 28, 29, 30, 31, 32, 33, 34, 35, 36, 37, 38, 39, 40]
abbrev r23_0 : List VOp :=
  [zBJ 1 24 0 0,
   zD 2]
def r23_1 : List (VOp × List Nat) := [(⟨some 7, .buildSlice 22 0 #[], 22, none⟩, []), (⟨some 8, .fieldAddr 24 (.tmp 1) 0, 0, none⟩, [1]), (⟨some 9, .load 22 (.tmp 8), 22, none⟩, [8]), (⟨some 10, .call ⟨.builtin .append, #[.tmp 7, .tmp 9], #[22, 22]⟩, 22, none⟩, [7, 9]), (⟨some 11, .fieldAddr 24 (.tmp 1) 1, 0, none⟩, [1]), (⟨some 12, .load 22 (.tmp 11), 22, none⟩, [11]), (⟨some 13, .call ⟨.builtin .append, #[.tmp 10, .tmp 12], #[22, 22]⟩, 22, none⟩, [10, 12]), (⟨some 3, .assign (.tmp 13), 22, none⟩, [13])]
abbrev r23_2 : List VOp :=
  [zF 4 0 3]
abbrev r23_3 : List VOp :=
  [mv 14 4 3,
   mv 15 3 22,
   zBO 16 15 22,
   zY 17 14 16 4]
abbrev r23_5 : List VOp :=
  [mv 20 3 22,
   mv 21 4 3,
   iad 22 22 20 21,
   lda 23 9 22,
   zBX 24 48 23 9 4,
   asg 5 24 4]
abbrev r23_6 : List VOp :=
  [mv 25 5 4,
   zCR 26 25]
abbrev r23_7 : List VOp :=
  [zD 2]
abbrev r23_8 : List VOp :=
  [zF 6 0 3]
abbrev r23_9 : List VOp :=
  [mv 27 6 3,
   mv 28 4 3,
   zY 29 27 28 4]
def r23_11 : List (VOp × List Nat) := [(⟨some 32, .move (.tmp 3), 22, none⟩, [3]), (⟨some 33, .move (.tmp 6), 3, none⟩, [6]), (⟨some 34, .indexAddr 22 (.tmp 32) (.tmp 33), 0, none⟩, [32, 33]), (⟨some 35, .load 9 (.tmp 34), 9, none⟩, [34]), (⟨some 36, .move (.tmp 3), 22, none⟩, [3]), (⟨some 37, .move (.tmp 4), 3, none⟩, [4]), (⟨some 38, .indexAddr 22 (.tmp 36) (.tmp 37), 0, none⟩, [36, 37]), (⟨some 39, .load 9 (.tmp 38), 9, none⟩, [38]), (⟨some 40, .binOp .eql 9 (.tmp 35) (.tmp 39) 9, 4, none⟩, [35, 39])]
abbrev r23_12 : List VOp :=
  [zD 2]
abbrev r23_10 : List VOp :=
  [mv 30 6 3,
   zK 31 30 1,
   asg 6 31 3]
abbrev r23_4 : List VOp :=
  [mv 18 4 3,
   zK 19 18 1,
   asg 4 19 3]
abbrev r23_13 : List VOp :=
  [fad 41 24 1 0,
   lda 42 22 41,
   zBO 43 42 22,
   zS 44 43 1,
   mv 45 44 4,
   zCC 46 24 1 0 45,
   zCH 47 22 46 45,
   zBQ 48 47 22 45,
   zW 49 48 6 45,
   zCO 50 45 49,
   mv 51 50 4,
   zCC 52 24 1 1 51,
   zCH 53 22 52 51,
   zBQ 54 53 22 51,
   zW 55 54 4 51,
   zCO 56 51 55,
   asg 2 56 4]
def B23 : VC :=
  (.seq (.region r23_0) (.seq (.draw (dzR r23_1) 3) (.seq (.seq (.region r23_2) (.block 0 (.loop (.seq (.seq (.region r23_3) (.cond (.tmp 17) .skip (.exit 0))) (.seq (.block 1 (.seq (.region r23_5) (.seq (.seq (.region r23_6) (.cond (.tmp 26) (.seq (.region r23_7) .ret) .skip)) (.seq (.region r23_8) (.block 2 (.loop (.seq (.seq (.region r23_9) (.cond (.tmp 29) .skip (.exit 2))) (.seq (.block 3 (.seq (.draw (dzR r23_11) 2) (.cond (.tmp 40) (.seq (.region r23_12) .ret) .skip))) (.region r23_10))))))))) (.region r23_4)))))) (.seq (.region r23_13) .ret))))
theorem code23 : ∃ c, Try.f23.body = some c ∧ abs Try.f23.ntmps c = B23 := ⟨_, rfl, by kernel_rfl⟩
theorem hb23 : HasBody Try.prog 23 := hasBody_of Try.func23 (by kernel_rfl)
theorem enter23 (x0 : Value) : Ent 23 B23 #[(.tmp 2)] [x0] := ent code23 hb23 Try.func23 rfl rfl
@[push_cast] def vr23_1 := vzD r23_1.eq_1 rfl 3
@[push_cast] def vr23_11 := vzD r23_11.eq_1 rfl 2
/-! 25 (*columbary/vault.Vault).Read (params #[28, 9], results #[(.tmp 4), (.tmp 5)], 23 slots) -/
abbrev r25_0 : List VOp :=
  [zJ 4 25,
   zD 5]
abbrev r25_1 : List VOp :=
  [mv 8 0 28,
   zP 9 28 8]
abbrev r25_2 : List VOp :=
  [zJ 4 25,
   zD 5]
abbrev r25_3 : List VOp :=
  [mv 11 0 28,
   zCL 12 11,
   fad 13 66 12 2,
   lda 14 64 13,
   mv 15 1 9,
   ⟨some 16, .lookup 64 (.tmp 14) (.tmp 15) true, 71, none⟩,
   mv 10 16 71,
   ext 17 10 0 70,
   ext 18 10 1 4,
   zC 6 70,
   zB 70 6 17,
   asg 7 18 4]
abbrev r25_4 : List VOp :=
  [fad 19 70 6 0,
   lda 20 25 19,
   zBX 21 46 20 25 25,
   mv 22 7 4,
   asg 4 21 25,
   asg 5 22 4]
def B25 : VC :=
  (.seq (.region r25_0) (.seq (.seq (.region r25_1) (.cond (.tmp 9) (.seq (.region r25_2) .ret) .skip)) (.seq (.region r25_3) (.seq (.region r25_4) .ret))))
theorem code25 : ∃ c, Try.f25.body = some c ∧ abs Try.f25.ntmps c = B25 := ⟨_, rfl, by kernel_rfl⟩
theorem hb25 : HasBody Try.prog 25 := hasBody_of Try.func25 (by kernel_rfl)
theorem enter25 (x0 x1 : Value) : Ent 25 B25 #[(.tmp 4), (.tmp 5)] [x0, x1] := ent code25 hb25 Try.func25 rfl rfl
/-! 26 (*columbary/vault.Vault).may (params #[28, 9, 4], results #[(.tmp 6)], 30 slots) -/
abbrev r26_0 : List VOp :=
  [zF 6 0 29]
abbrev r26_1 : List VOp :=
  [mv 9 0 28,
   zP 10 28 9]
abbrev r26_2 : List VOp :=
  [zF 6 1 29]
abbrev r26_3 : List VOp :=
  [mv 12 0 28,
   zCL 13 12,
   fad 14 66 13 2,
   lda 15 64 14,
   mv 16 1 9,
   ⟨some 17, .lookup 64 (.tmp 15) (.tmp 16) true, 71, none⟩,
   mv 11 17 71,
   ext 18 11 0 70,
   ext 19 11 1 4,
   zC 7 70,
   zB 70 7 18,
   asg 8 19 4]
abbrev r26_4 : List VOp :=
  [mv 20 1 9,
   zBX 21 49 20 9 4,
   zCR 22 21,
   mv 23 22 4,
   zCJ 24 2 4 23,
   zCJ 25 24 4 23,
   zCK 26 8 4 25,
   zCT 27 26 25,
   ⟨some 28, .pick (.tmp 25) (.tmp 27) (.const (.bool false)), 4, some (23, false)⟩,
   zCN 29 23 28]
abbrev r26_5 : List VOp :=
  [zF 6 31 29]
abbrev r26_6 : List VOp :=
  [zF 6 0 29]
def B26 : VC :=
  (.seq (.region r26_0) (.seq (.seq (.region r26_1) (.cond (.tmp 10) (.seq (.region r26_2) .ret) .skip)) (.seq (.seq (.region r26_3) (.seq (.region r26_4) (.cond (.tmp 29) (.seq (.region r26_5) .ret) .skip))) (.seq (.region r26_6) .ret))))
theorem code26 : ∃ c, Try.f26.body = some c ∧ abs Try.f26.ntmps c = B26 := ⟨_, rfl, by kernel_rfl⟩
theorem hb26 : HasBody Try.prog 26 := hasBody_of Try.func26 (by kernel_rfl)
theorem enter26 (x0 x1 x2 : Value) : Ent 26 B26 #[(.tmp 6)] [x0, x1, x2] := ent code26 hb26 Try.func26 rfl rfl
/-! 27 (*columbary/vault.Vault).burns (params #[28], results #[(.tmp 2)], 20 slots) -/
abbrev r27_0 : List VOp :=
  [zF 2 0 29]
abbrev r27_1 : List VOp :=
  [mv 3 0 28,
   zCL 4 3,
   fad 5 66 4 1,
   lda 6 3 5,
   zT 7 6 0]
abbrev r27_2 : List VOp :=
  [mv 8 0 28,
   zCL 9 8,
   fad 10 66 9 1,
   lda 11 3 10,
   ⟨some 12, .binOp .sub 3 (.tmp 11) (.const (.int .i64 1)) 3, 3, none⟩,
   zCL 13 8,
   fad 14 66 13 1,
   zB 3 14 12]
abbrev r27_3 : List VOp :=
  [mv 15 0 28,
   zCL 16 15,
   fad 17 66 16 1,
   lda 18 3 17,
   zM 19 3 18 0]
abbrev r27_4 : List VOp :=
  [zF 2 272 29]
abbrev r27_5 : List VOp :=
  [zF 2 0 29]
def B27 : VC :=
  (.seq (.region r27_0) (.seq (.seq (.region r27_1) (.cond (.tmp 7) (.region r27_2) .skip)) (.seq (.seq (.region r27_3) (.cond (.tmp 19) (.seq (.region r27_4) .ret) .skip)) (.seq (.region r27_5) .ret))))
theorem code27 : ∃ c, Try.f27.body = some c ∧ abs Try.f27.ntmps c = B27 := ⟨_, rfl, by kernel_rfl⟩
theorem hb27 : HasBody Try.prog 27 := hasBody_of Try.func27 (by kernel_rfl)
theorem enter27 (x0 : Value) : Ent 27 B27 #[(.tmp 2)] [x0] := ent code27 hb27 Try.func27 rfl rfl
/-! 28 (*columbary/vault.Vault).Free (params #[28], results #[(.tmp 2)], 27 slots) -/
@[push_cast] def W28_0 : List Nat := [3, 5, 17, 18, 19, 20, 21, 22, 23, 24, 25]
abbrev r28_0 : List VOp :=
  [zF 2 0 3]
abbrev r28_1 : List VOp :=
  [mv 6 0 28,
   zP 7 28 6]
abbrev r28_2 : List VOp :=
  [zF 2 0 3]
abbrev r28_3 : List VOp :=
  [mv 8 0 28,
   zCL 9 8,
   fad 10 66 9 0,
   lda 11 3 10,
   asg 3 11 3]
abbrev r28_4 : List VOp :=
  [mv 12 0 28,
   zCL 13 12,
   fad 14 66 13 2,
   lda 15 64 14,
   ⟨some 16, .range 64 (.tmp 15), 0, none⟩]
abbrev r28_5 : List VOp :=
  [⟨some 17, .next (.tmp 16) false, 0, none⟩,
   ext 18 17 0 4]
abbrev r28_6 : List VOp :=
  [⟨some 19, .entry (.tmp 16), 0, none⟩,
   ext 20 19 1 70,
   zC 5 70,
   zB 70 5 20]
abbrev r28_7 : List VOp :=
  [mv 21 3 3,
   fad 22 70 5 0,
   lda 23 25 22,
   zBO 24 23 25,
   zBH 25 21 24,
   asg 3 25 3]
abbrev r28_8 : List VOp :=
  [mv 26 3 3,
   asg 2 26 3]
def B28 : VC :=
  (.seq (.region r28_0) (.seq (.seq (.region r28_1) (.cond (.tmp 7) (.seq (.region r28_2) .ret) .skip)) (.seq (.region r28_3) (.seq (.seq (.region r28_4) (.block 0 (.loop (.seq (.region r28_5) (.seq (.cond (.tmp 18) .skip (.exit 0)) (.block 1 (.seq (.region r28_6) (.region r28_7)))))))) (.seq (.region r28_8) .ret)))))
theorem code28 : ∃ c, Try.f28.body = some c ∧ abs Try.f28.ntmps c = B28 := ⟨_, rfl, by kernel_rfl⟩
theorem hb28 : HasBody Try.prog 28 := hasBody_of Try.func28 (by kernel_rfl)
theorem enter28 (x0 : Value) : Ent 28 B28 #[(.tmp 2)] [x0] := ent code28 hb28 Try.func28 rfl rfl
/-! 29 slices.Concat[[]byte,byte] (params #[76], results #[(.tmp 2)], 36 slots) -/
@[push_cast] def W29_0 : List Nat := [3, 5, 11, 12, 13, 14, 15, 16, 17, 18, 19, 20, 21, 22]
@[push_cast] def W29_1 : List Nat := [6, 8, 27, 28, 29, 30, 31, 32, 33, 34]
abbrev r29_0 : List VOp :=
  [zJ 2 25]
abbrev r29_1 : List VOp :=
  [zF 3 0 3]
abbrev r29_2 : List VOp :=
  [mv 9 0 76,
   zBO 10 9 76,
   zCI 11]
abbrev r29_3 : List VOp :=
  [zY 12 11 10 0]
abbrev r29_4 : List VOp :=
  [iad 13 76 9 11,
   lda 14 25 13,
   asg 5 14 25]
abbrev r29_5 : List VOp :=
  [mv 15 3 3,
   mv 16 5 25,
   zBO 17 16 25,
   zL 18 3 15 17,
   asg 3 18 3]
abbrev r29_6 : List VOp :=
  [mv 19 3 3,
   zX 20 19 0 4]
abbrev r29_7 : List VOp :=
  [⟨some 21, .makeInterface 9 (.const (.string { data := #[108, 101, 110, 32, 111, 117, 116, 32, 111, 102, 32, 114, 97, 110, 103, 101] })), 20, none⟩,
   ⟨none, .panic (.tmp 21), 0, none⟩]
abbrev r29_8 : List VOp :=
  [zK 22 11 1,
   mv 11 22 3]
abbrev r29_9 : List VOp :=
  [mv 23 3 3,
   ⟨some 24, .call ⟨.value (.func 50), #[(.const (.slice none 0 0)), .tmp 23], #[25, 3]⟩, 25, none⟩,
   asg 6 24 25]
abbrev r29_10 : List VOp :=
  [mv 25 0 76,
   zBO 26 25 76,
   zCI 27]
abbrev r29_11 : List VOp :=
  [zY 28 27 26 0]
abbrev r29_12 : List VOp :=
  [iad 29 76 25 27,
   lda 30 25 29,
   asg 8 30 25]
abbrev r29_13 : List VOp :=
  [mv 31 6 25,
   mv 32 8 25,
   zBN 33 31 32 25 25,
   asg 6 33 25]
abbrev r29_14 : List VOp :=
  [zK 34 27 1,
   mv 27 34 3]
abbrev r29_15 : List VOp :=
  [mv 35 6 25,
   asg 2 35 25]
def B29 : VC :=
  (.seq (.region r29_0) (.seq (.region r29_1) (.seq (.seq (.region r29_2) (.block 0 (.loop (.seq (.region r29_3) (.seq (.cond (.tmp 12) .skip (.exit 0)) (.seq (.block 1 (.seq (.region r29_4) (.seq (.region r29_5) (.seq (.region r29_6) (.cond (.tmp 20) (.region r29_7) .skip))))) (.region r29_8))))))) (.seq (.region r29_9) (.seq (.seq (.region r29_10) (.block 2 (.loop (.seq (.region r29_11) (.seq (.cond (.tmp 28) .skip (.exit 2)) (.seq (.block 3 (.seq (.region r29_12) (.region r29_13))) (.region r29_14))))))) (.seq (.region r29_15) .ret))))))
theorem code29 : ∃ c, Try.f29.body = some c ∧ abs Try.f29.ntmps c = B29 := ⟨_, rfl, by kernel_rfl⟩
theorem hb29 : HasBody Try.prog 29 := hasBody_of Try.func29 (by kernel_rfl)
theorem enter29 (x0 : Value) : Ent 29 B29 #[(.tmp 2)] [x0] := ent code29 hb29 Try.func29 rfl rfl
/-! 30 columbary/check.First (params #[25], results #[(.tmp 2), (.tmp 3), (.tmp 4)], 59 slots) -/
abbrev r30_0 : List VOp :=
  [zJ 2 25,
   zF 3 0 3,
   zF 4 0 29]
abbrev r30_1 : List VOp :=
  [mv 13 0 25,
   zBX 14 37 13 25 83,
   asg 5 14 83]
abbrev r30_2 : List VOp :=
  [mv 16 5 83,
   zBS 17 51 16 16777216 83 96,
   mv 15 17 96,
   ext 18 15 0 3,
   ext 19 15 1 29,
   asg 6 18 3,
   asg 7 19 29]
abbrev r30_3 : List VOp :=
  [mv 21 5 83,
   mv 22 6 3,
   zBV 23 52 21 22 83 3 45,
   mv 20 23 45,
   ext 24 20 0 25,
   ext 25 20 1 29,
   asg 8 24 25,
   asg 9 25 29]
abbrev r30_4 : List VOp :=
  [mv 26 0 25,
   zBO 27 26 25,
   mv 28 5 83,
   zBX 29 40 28 83 3,
   zBH 30 27 29,
   asg 10 30 3]
abbrev r30_5 : List VOp :=
  [mv 32 5 83,
   zBT 33 52 32 4 83 3 45,
   mv 31 33 45,
   ext 34 31 0 25,
   ext 35 31 1 29,
   asg 11 34 25,
   asg 12 35 29]
abbrev r30_6 : List VOp :=
  [mv 36 7 29,
   zBA 37 36 0,
   mv 38 37 4,
   zCJ 39 9 29 38,
   zBB 40 39 38,
   zCN 41 38 40,
   mv 42 41 4,
   zCJ 43 12 29 42,
   zBB 44 43 42,
   zCN 45 42 44,
   mv 46 45 4,
   zCJ 47 11 25 46,
   zCJ 48 0 25 46,
   zCJ 49 10 3 46,
   ⟨some 50, .slice 25 (.tmp 48) none (some (.tmp 49)) none, 25, some (46, false)⟩,
   zBY 51 55 50 25 101 46,
   zBY 52 54 51 101 25 46,
   ⟨some 53, .call ⟨.value (.func 53), #[.tmp 47, .tmp 52], #[25, 25]⟩, 4, some (46, false)⟩,
   zCS 54 53 46,
   zCN 55 46 54]
abbrev r30_7 : List VOp :=
  [zJ 2 25,
   zF 3 0 3,
   zF 4 21 29]
abbrev r30_8 : List VOp :=
  [mv 56 8 25,
   mv 57 10 3,
   zK 58 57 4,
   asg 2 56 25,
   asg 3 58 3,
   zF 4 0 29]
def B30 : VC :=
  (.seq (.region r30_0) (.seq (.region r30_1) (.seq (.region r30_2) (.seq (.region r30_3) (.seq (.region r30_4) (.seq (.region r30_5) (.seq (.seq (.region r30_6) (.cond (.tmp 55) (.seq (.region r30_7) .ret) .skip)) (.seq (.region r30_8) .ret))))))))
theorem code30 : ∃ c, Try.f30.body = some c ∧ abs Try.f30.ntmps c = B30 := ⟨_, rfl, by kernel_rfl⟩
theorem hb30 : HasBody Try.prog 30 := hasBody_of Try.func30 (by kernel_rfl)
theorem enter30 (x0 : Value) : Ent 30 B30 #[(.tmp 2), (.tmp 3), (.tmp 4)] [x0] := ent code30 hb30 Try.func30 rfl rfl
/-! 31 columbary/columbaryref02.Blocks (params #[25], results #[(.tmp 2), (.tmp 3)], 32 slots) -/
@[push_cast] def W31_0 : List Nat := [4, 5, 6, 7, 8, 9, 10, 11, 12, 13, 14, 15, 16, 17, 18, 19, 20, 21, 22, 23, 24, 25, 26, 27, 28, 29]
abbrev r31_0 : List VOp :=
  [zJ 2 76,
   zF 3 0 3]
abbrev r31_1 : List VOp :=
  [zJ 4 76]
abbrev r31_2 : List VOp :=
  [zF 5 0 3]
abbrev r31_3 : List VOp :=
  [mv 9 5 3,
   mv 10 0 25,
   zBO 11 10 25,
   ⟨some 12, .binOp .leq 3 (.tmp 9) (.tmp 11) 3, 4, none⟩]
abbrev r31_4 : List VOp :=
  [mv 14 0 25,
   mv 15 5 3,
   zCP 16 25 14 15,
   zBX 17 56 16 25 74,
   mv 13 17 74,
   ext 18 13 0 25,
   ext 19 13 1 3,
   ext 20 13 2 29,
   asg 6 18 25,
   asg 7 19 3,
   asg 8 20 29]
abbrev r31_5 : List VOp :=
  [mv 21 8 29,
   zBA 22 21 0]
abbrev r31_6 : List VOp :=
  [mv 23 4 76,
   mv 24 6 25,
   zBM 25 76 24,
   zBN 26 23 25 76 76,
   asg 4 26 76]
abbrev r31_7 : List VOp :=
  [mv 27 5 3,
   mv 28 7 3,
   zL 29 3 27 28,
   asg 5 29 3]
abbrev r31_8 : List VOp :=
  [mv 30 4 76,
   mv 31 5 3,
   asg 2 30 76,
   asg 3 31 3]
def B31 : VC :=
  (.seq (.region r31_0) (.seq (.region r31_1) (.seq (.region r31_2) (.seq (.block 0 (.loop (.seq (.seq (.region r31_3) (.cond (.tmp 12) .skip (.exit 0))) (.block 1 (.seq (.region r31_4) (.seq (.seq (.region r31_5) (.cond (.tmp 22) (.exit 0) .skip)) (.seq (.region r31_6) (.region r31_7)))))))) (.seq (.region r31_8) .ret)))))
theorem code31 : ∃ c, Try.f31.body = some c ∧ abs Try.f31.ntmps c = B31 := ⟨_, rfl, by kernel_rfl⟩
theorem hb31 : HasBody Try.prog 31 := hasBody_of Try.func31 (by kernel_rfl)
theorem enter31 (x0 : Value) : Ent 31 B31 #[(.tmp 2), (.tmp 3)] [x0] := ent code31 hb31 Try.func31 rfl rfl
/-! 33 columbary/columbaryref02.Block (params #[25], results #[(.tmp 2), (.tmp 3)], 30 slots) -/
abbrev r33_0 : List VOp :=
  [zJ 2 25,
   zF 3 0 29]
abbrev r33_1 : List VOp :=
  [mv 6 0 25,
   zBO 7 6 25,
   zT 8 7 16777216]
abbrev r33_2 : List VOp :=
  [zJ 2 25,
   zF 3 21 29]
abbrev r33_3 : List VOp :=
  [mv 9 0 25,
   zBO 10 9 25,
   zBX 11 61 10 3 25,
   mv 12 0 25,
   zBN 13 11 12 25 25,
   asg 4 13 25]
abbrev r33_4 : List VOp :=
  [mv 14 4 25,
   zBX 15 62 14 25 101,
   asg 5 15 101]
abbrev r33_5 : List VOp :=
  [mv 16 4 25,
   mv 17 5 101,
   zBD 18 17 16777216,
   zCA 19 101 5 18,
   mv 20 5 101,
   zBD 21 20 65536,
   zCA 22 101 5 21,
   mv 23 5 101,
   zBD 24 23 256,
   zCA 25 101 5 24,
   mv 26 5 101,
   zCA 27 101 5 26,
   ⟨some 28, .buildSlice 25 4 #[(0, (.tmp 19)), (1, (.tmp 22)), (2, (.tmp 25)), (3, (.tmp 27))], 25, none⟩,
   zBN 29 16 28 25 25,
   asg 2 29 25,
   zF 3 0 29]
def B33 : VC :=
  (.seq (.region r33_0) (.seq (.seq (.region r33_1) (.cond (.tmp 8) (.seq (.region r33_2) .ret) .skip)) (.seq (.region r33_3) (.seq (.region r33_4) (.seq (.region r33_5) .ret)))))
theorem code33 : ∃ c, Try.f33.body = some c ∧ abs Try.f33.ntmps c = B33 := ⟨_, rfl, by kernel_rfl⟩
theorem hb33 : HasBody Try.prog 33 := hasBody_of Try.func33 (by kernel_rfl)
theorem enter33 (x0 : Value) : Ent 33 B33 #[(.tmp 2), (.tmp 3)] [x0] := ent code33 hb33 Try.func33 rfl rfl
/-! 35 columbary/zig.Int (params #[25, 3], results #[(.tmp 4)], 47 slots) -/
@[push_cast] def W35_0 : List Nat := [0, 6, 7, 8, 17, 18, 19, 20, 21, 22, 23, 24, 25, 26, 27, 28, 29, 30, 31, 32, 33, 34, 35, 36, 37, 38, 39, 40, 41, 42, 43, 44, 45]
abbrev r35_0 : List VOp :=
  [zJ 4 25]
abbrev r35_1 : List VOp :=
  [mv 9 0 25,
   mv 10 0 25,
   zBO 11 10 25,
   mv 12 0 25,
   zBO 13 12 25,
   ⟨some 14, .slice 25 (.tmp 9) none (some (.tmp 11)) (some (.tmp 13)), 25, none⟩,
   asg 0 14 25]
abbrev r35_2 : List VOp :=
  [mv 15 1 3,
   zBX 16 64 15 3 108,
   asg 5 16 108]
abbrev r35_3 : List VOp :=
  [zCI 17]
abbrev r35_4 : List VOp :=
  [zX 18 17 10 4]
abbrev r35_5 : List VOp :=
  [mv 19 17 3,
   asg 6 19 3]
abbrev r35_6 : List VOp :=
  [mv 20 6 3,
   ⟨some 21, .binOp .sub 3 (.const (.int .i64 9)) (.tmp 20) 3, 3, none⟩,
   ⟨some 22, .binOp .mul 3 (.const (.int .i64 7)) (.tmp 21) 3, 3, none⟩,
   asg 7 22 3]
abbrev r35_7 : List VOp :=
  [mv 23 5 108,
   mv 24 7 3,
   ⟨some 25, .binOp .shr 108 (.tmp 23) (.tmp 24) 3, 108, none⟩,
   zCA 26 108 5 25,
   ⟨some 27, .binOp .andNot 5 (.tmp 26) (.const (.int .u8 128)) 5, 5, none⟩,
   asg 8 27 5]
abbrev r35_8 : List VOp :=
  [mv 29 7 3,
   zM 30 3 29 0,
   asg 28 30 4]
abbrev r35_9 : List VOp :=
  [mv 31 0 25,
   mv 32 8 5,
   zBM 33 25 32,
   zBN 34 31 33 25 25,
   asg 0 34 25]
abbrev r35_10 : List VOp :=
  [mv 36 5 108,
   mv 37 7 3,
   ⟨some 38, .binOp .shr 108 (.tmp 36) (.tmp 37) 3, 108, none⟩,
   ⟨some 39, .binOp .gtr 108 (.tmp 38) (.const (.int .u64 0)) 108, 4, none⟩,
   asg 35 39 4]
abbrev r35_11 : List VOp :=
  [mv 40 0 25,
   mv 41 8 5,
   ⟨some 42, .binOp .or 5 (.tmp 41) (.const (.int .u8 128)) 5, 5, none⟩,
   zBM 43 25 42,
   zBN 44 40 43 25 25,
   asg 0 44 25]
abbrev r35_12 : List VOp :=
  [zK 45 17 1,
   mv 17 45 3]
abbrev r35_13 : List VOp :=
  [mv 46 0 25,
   asg 4 46 25]
def B35 : VC :=
  (.seq (.region r35_0) (.seq (.region r35_1) (.seq (.region r35_2) (.seq (.seq (.region r35_3) (.block 0 (.loop (.seq (.region r35_4) (.seq (.cond (.tmp 18) .skip (.exit 0)) (.seq (.block 1 (.seq (.region r35_5) (.seq (.region r35_6) (.seq (.region r35_7) (.block 2 (.seq (.region r35_8) (.cond (.tmp 28) (.region r35_9) (.seq (.region r35_10) (.cond (.tmp 35) (.region r35_11) .skip))))))))) (.region r35_12))))))) (.seq (.region r35_13) .ret)))))
theorem code35 : ∃ c, Try.f35.body = some c ∧ abs Try.f35.ntmps c = B35 := ⟨_, rfl, by kernel_rfl⟩
theorem hb35 : HasBody Try.prog 35 := hasBody_of Try.func35 (by kernel_rfl)
theorem enter35 (x0 x1 : Value) : Ent 35 B35 #[(.tmp 4)] [x0, x1] := ent code35 hb35 Try.func35 rfl rfl
/-! 36 columbary/zig.Text (params #[25, 9], results #[(.tmp 4)], 11 slots) -/
abbrev r36_0 : List VOp :=
  [zJ 4 25]
abbrev r36_1 : List VOp :=
  [mv 5 0 25,
   mv 6 1 9,
   zBO 7 6 9,
   zBV 8 35 5 7 25 3 25,
   mv 9 1 9,
   zBN 10 8 9 25 9,
   asg 4 10 25]
def B36 : VC :=
  (.seq (.region r36_0) (.seq (.region r36_1) .ret))
theorem code36 : ∃ c, Try.f36.body = some c ∧ abs Try.f36.ntmps c = B36 := ⟨_, rfl, by kernel_rfl⟩
theorem hb36 : HasBody Try.prog 36 := hasBody_of Try.func36 (by kernel_rfl)
theorem enter36 (x0 x1 : Value) : Ent 36 B36 #[(.tmp 4)] [x0, x1] := ent code36 hb36 Try.func36 rfl rfl
/-! 37 columbary/zig.Open (params #[25], results #[(.tmp 2)], 7 slots) -/
abbrev r37_0 : List VOp :=
  [zI 2 83]
abbrev r37_1 : List VOp :=
  [mv 3 0 25,
   zBX 4 46 3 25 25,
   zBK 5 111 0 4,
   zBJ 6 111 5 83,
   asg 2 6 83]
def B37 : VC :=
  (.seq (.region r37_0) (.seq (.region r37_1) .ret))
theorem code37 : ∃ c, Try.f37.body = some c ∧ abs Try.f37.ntmps c = B37 := ⟨_, rfl, by kernel_rfl⟩
theorem hb37 : HasBody Try.prog 37 := hasBody_of Try.func37 (by kernel_rfl)
theorem enter37 (x0 : Value) : Ent 37 B37 #[(.tmp 2)] [x0] := ent code37 hb37 Try.func37 rfl rfl
/-! 40 (*columbary/zig.Reader).Left (params #[83], results #[(.tmp 2)], 10 slots) -/
abbrev r40_0 : List VOp :=
  [zF 2 0 3]
abbrev r40_1 : List VOp :=
  [mv 3 0 83,
   zP 4 83 3]
abbrev r40_2 : List VOp :=
  [zF 2 0 3]
abbrev r40_3 : List VOp :=
  [mv 5 0 83,
   zCL 6 5,
   fad 7 111 6 0,
   lda 8 25 7,
   zBO 9 8 25,
   asg 2 9 3]
def B40 : VC :=
  (.seq (.region r40_0) (.seq (.seq (.region r40_1) (.cond (.tmp 4) (.seq (.region r40_2) .ret) .skip)) (.seq (.region r40_3) .ret)))
theorem code40 : ∃ c, Try.f40.body = some c ∧ abs Try.f40.ntmps c = B40 := ⟨_, rfl, by kernel_rfl⟩
theorem hb40 : HasBody Try.prog 40 := hasBody_of Try.func40 (by kernel_rfl)
theorem enter40 (x0 : Value) : Ent 40 B40 #[(.tmp 2)] [x0] := ent code40 hb40 Try.func40 rfl rfl
/-! 41 columbary/columbaryref03.Texts (params #[22, 22], results #[(.tmp 4)], 26 slots) -/
@[push_cast] def W41_0 : List Nat := [4, 5, 11, 12, 13, 14, 15, 16, 17, 18, 19, 20, 21, 22, 23, 24, 25]
abbrev r41_0 : List VOp :=
  [zD 4]
abbrev r41_1 : List VOp :=
  [mv 6 0 22,
   zBO 7 6 22,
   mv 8 1 22,
   zBO 9 8 22,
   zBC 10 3 7 9]
abbrev r41_2 : List VOp :=
  [zD 4]
abbrev r41_3 : List VOp :=
  [zF 5 0 3]
abbrev r41_4 : List VOp :=
  [mv 11 5 3,
   mv 12 0 22,
   zBO 13 12 22,
   zY 14 11 13 4]
def r41_6 : List (VOp × List Nat) := [(⟨some 17, .move (.tmp 0), 22, none⟩, [0]), (⟨some 18, .move (.tmp 5), 3, none⟩, [5]), (⟨some 19, .indexAddr 22 (.tmp 17) (.tmp 18), 0, none⟩, [17, 18]), (⟨some 20, .load 9 (.tmp 19), 9, none⟩, [19]), (⟨some 21, .move (.tmp 1), 22, none⟩, [1]), (⟨some 22, .move (.tmp 5), 3, none⟩, [5]), (⟨some 23, .indexAddr 22 (.tmp 21) (.tmp 22), 0, none⟩, [21, 22]), (⟨some 24, .load 9 (.tmp 23), 9, none⟩, [23]), (⟨some 25, .binOp .neq 9 (.tmp 20) (.tmp 24) 9, 4, none⟩, [20, 24])]
abbrev r41_7 : List VOp :=
  [zD 4]
abbrev r41_5 : List VOp :=
  [mv 15 5 3,
   zK 16 15 1,
   asg 5 16 3]
abbrev r41_8 : List VOp :=
  [zE 4]
def B41 : VC :=
  (.seq (.region r41_0) (.seq (.seq (.region r41_1) (.cond (.tmp 10) (.seq (.region r41_2) .ret) .skip)) (.seq (.seq (.region r41_3) (.block 0 (.loop (.seq (.seq (.region r41_4) (.cond (.tmp 14) .skip (.exit 0))) (.seq (.block 1 (.seq (.draw (dzR r41_6) 2) (.cond (.tmp 25) (.seq (.region r41_7) .ret) .skip))) (.region r41_5)))))) (.seq (.region r41_8) .ret))))
theorem code41 : ∃ c, Try.f41.body = some c ∧ abs Try.f41.ntmps c = B41 := ⟨_, rfl, by kernel_rfl⟩
theorem hb41 : HasBody Try.prog 41 := hasBody_of Try.func41 (by kernel_rfl)
theorem enter41 (x0 x1 : Value) : Ent 41 B41 #[(.tmp 4)] [x0, x1] := ent code41 hb41 Try.func41 rfl rfl
@[push_cast] def vr41_6 := vzD r41_6.eq_1 rfl 2
/-! 42 columbary/columbaryref04.Ints (params #[39, 39], results #[(.tmp 4)], 26 slots) -/
@[push_cast] def W42_0 : List Nat := [4, 5, 11, 12, 13, 14, 15, 16, 17, 18, 19, 20, 21, 22, 23, 24, 25]
abbrev r42_0 : List VOp :=
  [zD 4]
abbrev r42_1 : List VOp :=
  [mv 6 0 39,
   zBO 7 6 39,
   mv 8 1 39,
   zBO 9 8 39,
   zBC 10 3 7 9]
abbrev r42_2 : List VOp :=
  [zD 4]
abbrev r42_3 : List VOp :=
  [zF 5 0 3]
abbrev r42_4 : List VOp :=
  [mv 11 5 3,
   mv 12 0 39,
   zBO 13 12 39,
   zY 14 11 13 4]
def r42_6 : List (VOp × List Nat) := [(⟨some 17, .move (.tmp 0), 39, none⟩, [0]), (⟨some 18, .move (.tmp 5), 3, none⟩, [5]), (⟨some 19, .indexAddr 39 (.tmp 17) (.tmp 18), 0, none⟩, [17, 18]), (⟨some 20, .load 3 (.tmp 19), 3, none⟩, [19]), (⟨some 21, .move (.tmp 1), 39, none⟩, [1]), (⟨some 22, .move (.tmp 5), 3, none⟩, [5]), (⟨some 23, .indexAddr 39 (.tmp 21) (.tmp 22), 0, none⟩, [21, 22]), (⟨some 24, .load 3 (.tmp 23), 3, none⟩, [23]), (⟨some 25, .binOp .neq 3 (.tmp 20) (.tmp 24) 3, 4, none⟩, [20, 24])]
abbrev r42_7 : List VOp :=
  [zD 4]
abbrev r42_5 : List VOp :=
  [mv 15 5 3,
   zK 16 15 1,
   asg 5 16 3]
abbrev r42_8 : List VOp :=
  [zE 4]
def B42 : VC :=
  (.seq (.region r42_0) (.seq (.seq (.region r42_1) (.cond (.tmp 10) (.seq (.region r42_2) .ret) .skip)) (.seq (.seq (.region r42_3) (.block 0 (.loop (.seq (.seq (.region r42_4) (.cond (.tmp 14) .skip (.exit 0))) (.seq (.block 1 (.seq (.draw (dzR r42_6) 2) (.cond (.tmp 25) (.seq (.region r42_7) .ret) .skip))) (.region r42_5)))))) (.seq (.region r42_8) .ret))))
theorem code42 : ∃ c, Try.f42.body = some c ∧ abs Try.f42.ntmps c = B42 := ⟨_, rfl, by kernel_rfl⟩
theorem hb42 : HasBody Try.prog 42 := hasBody_of Try.func42 (by kernel_rfl)
theorem enter42 (x0 x1 : Value) : Ent 42 B42 #[(.tmp 4)] [x0, x1] := ent code42 hb42 Try.func42 rfl rfl
@[push_cast] def vr42_6 := vzD r42_6.eq_1 rfl 2
/-! 43 columbary/check.Block (params #[25], results #[(.tmp 2), (.tmp 3)], 18 slots) -/
abbrev r43_0 : List VOp :=
  [zJ 2 25,
   zF 3 0 29]
abbrev r43_1 : List VOp :=
  [mv 5 0 25,
   zBO 6 5 25,
   zT 7 6 16777216]
abbrev r43_2 : List VOp :=
  [zJ 2 25,
   zF 3 21 29]
abbrev r43_3 : List VOp :=
  [mv 8 0 25,
   zBO 9 8 25,
   ⟨some 10, .call ⟨.value (.func 35), #[(.const (.slice none 0 0)), .tmp 9], #[25, 3]⟩, 25, none⟩,
   mv 11 0 25,
   zBN 12 10 11 25 25,
   asg 4 12 25]
abbrev r43_4 : List VOp :=
  [mv 13 4 25,
   mv 14 4 25,
   zBX 15 55 14 25 101,
   zBX 16 54 15 101 25,
   zBN 17 13 16 25 25,
   asg 2 17 25,
   zF 3 0 29]
def B43 : VC :=
  (.seq (.region r43_0) (.seq (.seq (.region r43_1) (.cond (.tmp 7) (.seq (.region r43_2) .ret) .skip)) (.seq (.region r43_3) (.seq (.region r43_4) .ret))))
theorem code43 : ∃ c, Try.f43.body = some c ∧ abs Try.f43.ntmps c = B43 := ⟨_, rfl, by kernel_rfl⟩
theorem hb43 : HasBody Try.prog 43 := hasBody_of Try.func43 (by kernel_rfl)
theorem enter43 (x0 : Value) : Ent 43 B43 #[(.tmp 2), (.tmp 3)] [x0] := ent code43 hb43 Try.func43 rfl rfl
/-! 44 (*columbary/vault.Vault).Sync (params #[28, 9], results #[(.tmp 4)], 36 slots) -/
abbrev r44_0 : List VOp :=
  [zF 4 0 29]
abbrev r44_1 : List VOp :=
  [mv 8 0 28,
   mv 9 1 9,
   ⟨some 10, .call ⟨.value (.func 26), #[(.tmp 8), (.tmp 9), (.const (.bool true))], #[28, 9, 4]⟩, 29, none⟩,
   asg 5 10 29]
abbrev r44_2 : List VOp :=
  [mv 11 5 29,
   zBA 12 11 0]
abbrev r44_3 : List VOp :=
  [mv 13 5 29,
   asg 4 13 29]
abbrev r44_4 : List VOp :=
  [mv 14 0 28,
   zBX 15 27 14 28 29,
   asg 6 15 29]
abbrev r44_5 : List VOp :=
  [mv 16 6 29,
   zBA 17 16 0]
abbrev r44_6 : List VOp :=
  [mv 18 6 29,
   asg 4 18 29]
abbrev r44_7 : List VOp :=
  [mv 19 0 28,
   zCL 20 19,
   fad 21 66 20 2,
   lda 22 64 21,
   mv 23 1 9,
   ⟨some 24, .lookup 64 (.tmp 22) (.tmp 23) false, 70, none⟩,
   zC 7 70,
   zB 70 7 24]
def r44_8 : List (VOp × List Nat) := [(⟨some 25, .move (.tmp 0), 28, none⟩, [0]), (⟨some 26, .nilCheck (.tmp 25), 0, none⟩, [25]), (⟨some 27, .fieldAddr 66 (.tmp 26) 2, 0, none⟩, [26]), (⟨some 28, .load 64 (.tmp 27), 64, none⟩, [27]), (⟨some 29, .move (.tmp 1), 9, none⟩, [1]), (⟨some 30, .fieldAddr 70 (.tmp 7) 0, 0, none⟩, [7]), (⟨some 31, .load 25 (.tmp 30), 25, none⟩, [30]), (⟨some 32, .fieldAddr 70 (.tmp 7) 0, 0, none⟩, [7]), (⟨some 33, .load 25 (.tmp 32), 25, none⟩, [32]), (⟨some 34, .call ⟨.builtin .len, #[.tmp 33], #[25]⟩, 3, none⟩, [33]), (⟨some 35, .build 70 #[(0, (.tmp 31)), (1, (.tmp 34))], 70, none⟩, [31, 34]), (⟨none, .mapUpdate 64 (.tmp 28) (.tmp 29) (.tmp 35), 0, none⟩, [28, 29, 35])]
abbrev r44_9 : List VOp :=
  [zF 4 0 29]
def B44 : VC :=
  (.seq (.region r44_0) (.seq (.seq (.region r44_1) (.seq (.region r44_2) (.cond (.tmp 12) (.seq (.region r44_3) .ret) .skip))) (.seq (.seq (.region r44_4) (.seq (.region r44_5) (.cond (.tmp 17) (.seq (.region r44_6) .ret) .skip))) (.seq (.region r44_7) (.seq (.draw (dzR r44_8) 2) (.seq (.region r44_9) .ret))))))
theorem code44 : ∃ c, Try.f44.body = some c ∧ abs Try.f44.ntmps c = B44 := ⟨_, rfl, by kernel_rfl⟩
theorem hb44 : HasBody Try.prog 44 := hasBody_of Try.func44 (by kernel_rfl)
theorem enter44 (x0 x1 : Value) : Ent 44 B44 #[(.tmp 4)] [x0, x1] := ent code44 hb44 Try.func44 rfl rfl
@[push_cast] def vr44_8 := vzD r44_8.eq_1 rfl 2
/-! 45 columbary/columbaryref10.Check (params #[24, 41], results #[(.tmp 4)], 68 slots) -/
@[push_cast] def W45_0 : List Nat := [4, 5, 6, 24, 25, 26, 27, 28, 29, 30, 31, 32, 33, 34, 35, 36, 37, 38]
@[push_cast] def W45_1 : List Nat := [4, 7, 39, 40, 41, 42, 43, 44, 45, 46, 47, 48, 49, 50, 51, 52, 53, 54, 55, 56, 57, 58, 59]
abbrev r45_0 : List VOp :=
  [zBJ 2 24 0 0,
   zBJ 3 41 1 0,
   zF 4 0 29]
abbrev r45_1 : List VOp :=
  [fad 8 41 3 1,
   lda 9 22 8,
   zBO 10 9 22,
   fad 11 24 2 0,
   lda 12 22 11,
   zBO 13 12 22,
   zBC 14 3 10 13,
   mv 15 14 4,
   zCB 16 41 3 2 15,
   zCG 17 39 16 15,
   zBP 18 17 39 15,
   zCB 19 24 2 1 15,
   zCG 20 22 19 15,
   zBP 21 20 22 15,
   ⟨some 22, .binOp .neq 3 (.tmp 18) (.tmp 21) 3, 4, some (15, false)⟩,
   zCN 23 15 22]
abbrev r45_2 : List VOp :=
  [zF 4 101 29]
abbrev r45_3 : List VOp :=
  [zF 5 0 3]
abbrev r45_4 : List VOp :=
  [mv 24 5 3,
   fad 25 41 3 1,
   lda 26 22 25,
   zBO 27 26 22,
   zY 28 24 27 4]
abbrev r45_6 : List VOp :=
  [fad 31 41 3 1,
   lda 32 22 31,
   mv 33 5 3,
   iad 34 22 32 33,
   lda 35 9 34,
   zBX 36 68 35 9 4,
   asg 6 36 4]
abbrev r45_7 : List VOp :=
  [mv 37 6 4,
   zCR 38 37]
abbrev r45_8 : List VOp :=
  [zF 4 102 29]
abbrev r45_5 : List VOp :=
  [mv 29 5 3,
   zK 30 29 1,
   asg 5 30 3]
abbrev r45_9 : List VOp :=
  [zF 7 0 3]
abbrev r45_10 : List VOp :=
  [mv 39 7 3,
   fad 40 41 3 2,
   lda 41 39 40,
   zBO 42 41 39,
   zY 43 39 42 4]
abbrev r45_12 : List VOp :=
  [fad 46 41 3 2,
   lda 47 39 46,
   mv 48 7 3,
   iad 49 39 47 48,
   lda 50 3 49,
   ⟨some 51, .binOp .lss 3 (.tmp 50) (.const (.int .i64 (-4611686018427387904))) 3, 4, none⟩,
   mv 52 51 4,
   zCB 53 41 3 2 52,
   zCG 54 39 53 52,
   zCJ 55 7 3 52,
   ⟨some 56, .indexAddr 39 (.tmp 54) (.tmp 55), 0, some (52, false)⟩,
   zCG 57 3 56 52,
   zU 58 57 4611686018427387904 52,
   zCN 59 52 58]
abbrev r45_13 : List VOp :=
  [zF 4 102 29]
abbrev r45_11 : List VOp :=
  [mv 44 7 3,
   zK 45 44 1,
   asg 7 45 3]
abbrev r45_14 : List VOp :=
  [fad 60 41 3 0,
   lda 61 3 60,
   zX 62 61 0 4,
   mv 63 62 4,
   zCB 64 41 3 0 63,
   zCG 65 3 64 63,
   zU 66 65 1099511627776 63,
   zCN 67 63 66]
abbrev r45_15 : List VOp :=
  [zF 4 181 29]
abbrev r45_16 : List VOp :=
  [zF 4 0 29]
def B45 : VC :=
  (.seq (.region r45_0) (.seq (.seq (.region r45_1) (.cond (.tmp 23) (.seq (.region r45_2) .ret) .skip)) (.seq (.seq (.region r45_3) (.block 0 (.loop (.seq (.seq (.region r45_4) (.cond (.tmp 28) .skip (.exit 0))) (.seq (.block 1 (.seq (.region r45_6) (.seq (.region r45_7) (.cond (.tmp 38) (.seq (.region r45_8) .ret) .skip)))) (.region r45_5)))))) (.seq (.seq (.region r45_9) (.block 2 (.loop (.seq (.seq (.region r45_10) (.cond (.tmp 43) .skip (.exit 2))) (.seq (.block 3 (.seq (.region r45_12) (.cond (.tmp 59) (.seq (.region r45_13) .ret) .skip))) (.region r45_11)))))) (.seq (.seq (.region r45_14) (.cond (.tmp 67) (.seq (.region r45_15) .ret) .skip)) (.seq (.region r45_16) .ret))))))
theorem code45 : ∃ c, Try.f45.body = some c ∧ abs Try.f45.ntmps c = B45 := ⟨_, rfl, by kernel_rfl⟩
theorem hb45 : HasBody Try.prog 45 := hasBody_of Try.func45 (by kernel_rfl)
theorem enter45 (x0 x1 : Value) : Ent 45 B45 #[(.tmp 4)] [x0, x1] := ent code45 hb45 Try.func45 rfl rfl
/-! 46 bytes.Clone (params #[25], results #[(.tmp 2)], 8 slots) -/
abbrev r46_0 : List VOp :=
  [zJ 2 25]
abbrev r46_1 : List VOp :=
  [mv 3 0 25,
   ⟨some 4, .binOp .eql 25 (.tmp 3) (.const (.slice none 0 0)) 25, 4, none⟩]
abbrev r46_2 : List VOp :=
  [zJ 2 25]
abbrev r46_3 : List VOp :=
  [⟨some 5, .buildSlice 25 0 #[], 25, none⟩,
   mv 6 0 25,
   zBN 7 5 6 25 25,
   asg 2 7 25]
def B46 : VC :=
  (.seq (.region r46_0) (.seq (.seq (.region r46_1) (.cond (.tmp 4) (.seq (.region r46_2) .ret) .skip)) (.seq (.region r46_3) .ret)))
theorem code46 : ∃ c, Try.f46.body = some c ∧ abs Try.f46.ntmps c = B46 := ⟨_, rfl, by kernel_rfl⟩
theorem hb46 : HasBody Try.prog 46 := hasBody_of Try.func46 (by kernel_rfl)
theorem enter46 (x0 : Value) : Ent 46 B46 #[(.tmp 2)] [x0] := ent code46 hb46 Try.func46 rfl rfl
/-! 47 columbary/columbarylaw10.Fits (params #[22], results #[(.tmp 2)], 20 slots) -/
@[push_cast] def W47_0 : List Nat := [2, 3, 4, 5, 6, 7, 8, 9, 10, 11, 12, 13, 14, 15, 16, 17, 18, 19]
abbrev r47_0 : List VOp :=
  [zD 2]
abbrev r47_1 : List VOp :=
  [zF 3 0 3]
abbrev r47_2 : List VOp :=
  [mv 4 3 3,
   mv 5 0 22,
   zBO 6 5 22,
   zY 7 4 6 4]
abbrev r47_4 : List VOp :=
  [mv 10 3 3,
   zM 11 3 10 20,
   mv 12 11 4,
   zCJ 13 0 22 12,
   zCJ 14 3 3 12,
   ⟨some 15, .indexAddr 22 (.tmp 13) (.tmp 14), 0, some (12, false)⟩,
   zCG 16 9 15 12,
   zBP 17 16 9 12,
   zU 18 17 80 12,
   zCN 19 12 18]
abbrev r47_5 : List VOp :=
  [zD 2]
abbrev r47_3 : List VOp :=
  [mv 8 3 3,
   zK 9 8 1,
   asg 3 9 3]
abbrev r47_6 : List VOp :=
  [zE 2]
def B47 : VC :=
  (.seq (.region r47_0) (.seq (.seq (.region r47_1) (.block 0 (.loop (.seq (.seq (.region r47_2) (.cond (.tmp 7) .skip (.exit 0))) (.seq (.block 1 (.seq (.region r47_4) (.cond (.tmp 19) (.seq (.region r47_5) .ret) .skip))) (.region r47_3)))))) (.seq (.region r47_6) .ret)))
theorem code47 : ∃ c, Try.f47.body = some c ∧ abs Try.f47.ntmps c = B47 := ⟨_, rfl, by kernel_rfl⟩
theorem hb47 : HasBody Try.prog 47 := hasBody_of Try.func47 (by kernel_rfl)
theorem enter47 (x0 : Value) : Ent 47 B47 #[(.tmp 2)] [x0] := ent code47 hb47 Try.func47 rfl rfl
/-! 48 columbary/columbaryref10.Name (params #[9], results #[(.tmp 2)], 71 slots) -/
@[push_cast] def W48_0 : List Nat := [2, 4, 9, 10, 11, 12, 13, 14, 15, 16, 17, 18, 19, 20]
@[push_cast] def W48_1 : List Nat := [2, 5, 6, 7, 21, 22, 23, 24, 25, 26, 27, 28, 29, 30, 31, 32, 33, 34, 35, 36, 37, 38, 39, 40, 41, 42, 43, 44, 45, 46, 47, 48, 49, 50, 51, 52, 53, 54, 55, 56, 57, 58, 59, 60, 61, 62]
abbrev r48_0 : List VOp :=
  [zD 2]
abbrev r48_1 : List VOp :=
  [zBZ 8 69 22,
   asg 3 8 22]
abbrev r48_2 : List VOp :=
  [zF 4 0 3]
abbrev r48_3 : List VOp :=
  [mv 9 4 3,
   mv 10 3 22,
   zBO 11 10 22,
   zY 12 9 11 4]
abbrev r48_5 : List VOp :=
  [mv 15 3 22,
   mv 16 4 3,
   iad 17 22 15 16,
   lda 18 9 17,
   mv 19 0 9,
   ⟨some 20, .binOp .eql 9 (.tmp 18) (.tmp 19) 9, 4, none⟩]
abbrev r48_6 : List VOp :=
  [zD 2]
abbrev r48_4 : List VOp :=
  [mv 13 4 3,
   zK 14 13 1,
   asg 4 14 3]
abbrev r48_7 : List VOp :=
  [zF 5 0 3]
abbrev r48_8 : List VOp :=
  [mv 21 5 3,
   mv 22 0 9,
   zBO 23 22 9,
   zY 24 21 23 4]
abbrev r48_10 : List VOp :=
  [mv 27 0 9,
   mv 28 5 3,
   ⟨some 29, .index 9 (.tmp 27) (.tmp 28), 5, none⟩,
   ⟨some 30, .binOp .geq 5 (.tmp 29) (.const (.int .u8 97)) 5, 4, none⟩,
   mv 31 30 4,
   zCK 32 0 9 31,
   zCK 33 5 3 31,
   ⟨some 34, .index 9 (.tmp 32) (.tmp 33), 5, some (31, true)⟩,
   ⟨some 35, .binOp .leq 5 (.tmp 34) (.const (.int .u8 122)) 5, 4, some (31, true)⟩,
   zCO 36 31 35,
   asg 6 36 4]
abbrev r48_11 : List VOp :=
  [mv 37 0 9,
   mv 38 5 3,
   ⟨some 39, .index 9 (.tmp 37) (.tmp 38), 5, none⟩,
   ⟨some 40, .binOp .geq 5 (.tmp 39) (.const (.int .u8 48)) 5, 4, none⟩,
   mv 41 40 4,
   zCK 42 0 9 41,
   zCK 43 5 3 41,
   ⟨some 44, .index 9 (.tmp 42) (.tmp 43), 5, some (41, true)⟩,
   ⟨some 45, .binOp .leq 5 (.tmp 44) (.const (.int .u8 57)) 5, 4, some (41, true)⟩,
   zCO 46 41 45,
   mv 47 46 4,
   zCJ 48 0 9 47,
   zCJ 49 5 3 47,
   zCD 50 48 49 47,
   zO 51 5 50 95 4 47,
   zCN 52 47 51,
   asg 7 52 4]
abbrev r48_12 : List VOp :=
  [mv 53 6 4,
   zCR 54 53,
   mv 55 54 4,
   zCK 56 7 4 55,
   zCT 57 56 55,
   zCK 58 57 4 55,
   zCJ 59 5 3 58,
   ⟨some 60, .binOp .eql 3 (.tmp 59) (.const (.int .i64 0)) 3, 4, some (58, false)⟩,
   ⟨some 61, .pick (.tmp 58) (.const (.bool true)) (.tmp 60), 4, some (55, true)⟩,
   zCO 62 55 61]
abbrev r48_13 : List VOp :=
  [zD 2]
abbrev r48_9 : List VOp :=
  [mv 25 5 3,
   zK 26 25 1,
   asg 5 26 3]
abbrev r48_14 : List VOp :=
  [mv 63 0 9,
   zBO 64 63 9,
   zS 65 64 1,
   mv 66 65 4,
   zCK 67 0 9 66,
   zBQ 68 67 9 66,
   zW 69 68 12 66,
   zCO 70 66 69,
   asg 2 70 4]
def B48 : VC :=
  (.seq (.region r48_0) (.seq (.region r48_1) (.seq (.seq (.region r48_2) (.block 0 (.loop (.seq (.seq (.region r48_3) (.cond (.tmp 12) .skip (.exit 0))) (.seq (.block 1 (.seq (.region r48_5) (.cond (.tmp 20) (.seq (.region r48_6) .ret) .skip))) (.region r48_4)))))) (.seq (.seq (.region r48_7) (.block 2 (.loop (.seq (.seq (.region r48_8) (.cond (.tmp 24) .skip (.exit 2))) (.seq (.block 3 (.seq (.region r48_10) (.seq (.region r48_11) (.seq (.region r48_12) (.cond (.tmp 62) (.seq (.region r48_13) .ret) .skip))))) (.region r48_9)))))) (.seq (.region r48_14) .ret)))))
theorem code48 : ∃ c, Try.f48.body = some c ∧ abs Try.f48.ntmps c = B48 := ⟨_, rfl, by kernel_rfl⟩
theorem hb48 : HasBody Try.prog 48 := hasBody_of Try.func48 (by kernel_rfl)
theorem enter48 (x0 : Value) : Ent 48 B48 #[(.tmp 2)] [x0] := ent code48 hb48 Try.func48 rfl rfl
/-! 49 columbary/vault.named (params #[9], results #[(.tmp 2)], 15 slots) -/
abbrev r49_0 : List VOp :=
  [zD 2]
abbrev r49_1 : List VOp :=
  [mv 3 0 9,
   ⟨some 4, .binOp .neq 9 (.tmp 3) (.const (.string { data := #[] })) 9, 4, none⟩,
   mv 5 4 4,
   zCK 6 0 9 5,
   zBQ 7 6 9 5,
   zW 8 7 12 5,
   zCO 9 5 8,
   mv 10 9 4,
   zCK 11 0 9 10,
   ⟨some 12, .call ⟨.value (.func 70), #[(.tmp 11), (.func 71)], #[9, 119]⟩, 4, some (10, true)⟩,
   zCT 13 12 10,
   zCO 14 10 13,
   asg 2 14 4]
def B49 : VC :=
  (.seq (.region r49_0) (.seq (.region r49_1) .ret))
theorem code49 : ∃ c, Try.f49.body = some c ∧ abs Try.f49.ntmps c = B49 := ⟨_, rfl, by kernel_rfl⟩
theorem hb49 : HasBody Try.prog 49 := hasBody_of Try.func49 (by kernel_rfl)
theorem enter49 (x0 : Value) : Ent 49 B49 #[(.tmp 2)] [x0] := ent code49 hb49 Try.func49 rfl rfl
/-! 50 slices.Grow[[]byte,byte] (params #[25, 3], results #[(.tmp 4)], 27 slots) -/
abbrev r50_0 : List VOp :=
  [zJ 4 25]
abbrev r50_1 : List VOp :=
  [mv 5 1 3,
   zX 6 5 0 4]
abbrev r50_2 : List VOp :=
  [⟨some 7, .makeInterface 9 (.const (.string { data := #[99, 97, 110, 110, 111, 116, 32, 98, 101, 32, 110, 101, 103, 97, 116, 105, 118, 101] })), 20, none⟩,
   ⟨none, .panic (.tmp 7), 0, none⟩]
abbrev r50_3 : List VOp :=
  [mv 8 1 3,
   mv 9 0 25,
   ⟨some 10, .call ⟨.builtin .cap, #[.tmp 9], #[25]⟩, 3, none⟩,
   mv 11 0 25,
   zBO 12 11 25,
   zBH 13 10 12,
   zBH 14 8 13,
   asg 1 14 3]
abbrev r50_4 : List VOp :=
  [mv 15 1 3,
   zT 16 15 0]
abbrev r50_5 : List VOp :=
  [mv 17 0 25,
   mv 18 0 25,
   ⟨some 19, .call ⟨.builtin .cap, #[.tmp 18], #[25]⟩, 3, none⟩,
   zCQ 20 25 17 19,
   mv 21 1 3,
   zBN 22 20 21 25 3,
   mv 23 0 25,
   zBO 24 23 25,
   zCQ 25 25 22 24,
   asg 0 25 25]
abbrev r50_6 : List VOp :=
  [mv 26 0 25,
   asg 4 26 25]
def B50 : VC :=
  (.seq (.region r50_0) (.seq (.seq (.region r50_1) (.cond (.tmp 6) (.region r50_2) .skip)) (.seq (.seq (.region r50_3) (.seq (.region r50_4) (.cond (.tmp 16) (.region r50_5) .skip))) (.seq (.region r50_6) .ret))))
theorem code50 : ∃ c, Try.f50.body = some c ∧ abs Try.f50.ntmps c = B50 := ⟨_, rfl, by kernel_rfl⟩
theorem hb50 : HasBody Try.prog 50 := hasBody_of Try.func50 (by kernel_rfl)
theorem enter50 (x0 x1 : Value) : Ent 50 B50 #[(.tmp 4)] [x0, x1] := ent code50 hb50 Try.func50 rfl rfl
/-! 51 (*columbary/zig.Reader).Int (params #[83, 3, 3], results #[(.tmp 6), (.tmp 7)], 42 slots) -/
abbrev r51_0 : List VOp :=
  [zF 6 0 3,
   zF 7 0 29]
abbrev r51_1 : List VOp :=
  [mv 10 0 83,
   zP 11 83 10]
abbrev r51_2 : List VOp :=
  [zF 6 0 3,
   zF 7 1 29]
abbrev r51_3 : List VOp :=
  [mv 13 0 83,
   zCL 14 13,
   fad 15 111 14 0,
   lda 16 25 15,
   zBX 17 73 16 25 120,
   mv 12 17 120,
   ext 18 12 0 3,
   ext 19 12 1 3,
   asg 8 18 3,
   asg 9 19 3]
abbrev r51_4 : List VOp :=
  [mv 20 9 3,
   zM 21 3 20 0,
   mv 22 21 4,
   zCJ 23 8 3 22,
   zCJ 24 1 3 22,
   ⟨some 25, .binOp .lss 3 (.tmp 23) (.tmp 24) 3, 4, some (22, false)⟩,
   zCN 26 22 25,
   mv 27 26 4,
   zCJ 28 8 3 27,
   zCJ 29 2 3 27,
   zV 30 28 29 27,
   zCN 31 27 30]
abbrev r51_5 : List VOp :=
  [zF 6 0 3,
   zF 7 11 29]
abbrev r51_6 : List VOp :=
  [mv 32 0 83,
   mv 33 0 83,
   zCL 34 33,
   fad 35 111 34 0,
   lda 36 25 35,
   mv 37 9 3,
   zCP 38 25 36 37,
   zCL 39 32,
   fad 40 111 39 0,
   zB 25 40 38]
abbrev r51_7 : List VOp :=
  [mv 41 8 3,
   asg 6 41 3,
   zF 7 0 29]
def B51 : VC :=
  (.seq (.region r51_0) (.seq (.seq (.region r51_1) (.cond (.tmp 11) (.seq (.region r51_2) .ret) .skip)) (.seq (.region r51_3) (.seq (.seq (.region r51_4) (.cond (.tmp 31) (.seq (.region r51_5) .ret) .skip)) (.seq (.region r51_6) (.seq (.region r51_7) .ret))))))
theorem code51 : ∃ c, Try.f51.body = some c ∧ abs Try.f51.ntmps c = B51 := ⟨_, rfl, by kernel_rfl⟩
theorem hb51 : HasBody Try.prog 51 := hasBody_of Try.func51 (by kernel_rfl)
theorem enter51 (x0 x1 x2 : Value) : Ent 51 B51 #[(.tmp 6), (.tmp 7)] [x0, x1, x2] := ent code51 hb51 Try.func51 rfl rfl
/-! 52 (*columbary/zig.Reader).Bytes (params #[83, 3], results #[(.tmp 4), (.tmp 5)], 39 slots) -/
abbrev r52_0 : List VOp :=
  [zJ 4 25,
   zF 5 0 29]
abbrev r52_1 : List VOp :=
  [mv 8 0 83,
   zP 9 83 8,
   asg 7 9 4]
abbrev r52_2 : List VOp :=
  [zJ 4 25,
   zF 5 1 29]
abbrev r52_3 : List VOp :=
  [mv 11 1 3,
   zX 12 11 0 4,
   mv 13 12 4,
   zCJ 14 1 3 13,
   zCJ 15 0 83 13,
   zCM 16 15 13,
   zCB 17 111 16 0 13,
   zCG 18 25 17 13,
   zBP 19 18 25 13,
   zV 20 14 19 13,
   zCN 21 13 20,
   asg 10 21 4]
abbrev r52_4 : List VOp :=
  [zJ 4 25,
   zF 5 11 29]
abbrev r52_5 : List VOp :=
  [mv 22 0 83,
   zCL 23 22,
   fad 24 111 23 0,
   lda 25 25 24,
   mv 26 1 3,
   zCQ 27 25 25 26,
   zBX 28 46 27 25 25,
   asg 6 28 25]
abbrev r52_6 : List VOp :=
  [mv 29 0 83,
   mv 30 0 83,
   zCL 31 30,
   fad 32 111 31 0,
   lda 33 25 32,
   mv 34 1 3,
   zCP 35 25 33 34,
   zCL 36 29,
   fad 37 111 36 0,
   zB 25 37 35]
abbrev r52_7 : List VOp :=
  [mv 38 6 25,
   asg 4 38 25,
   zF 5 0 29]
def B52 : VC :=
  (.seq (.region r52_0) (.seq (.block 0 (.seq (.region r52_1) (.cond (.tmp 7) (.seq (.region r52_2) .ret) (.seq (.region r52_3) (.cond (.tmp 10) (.seq (.region r52_4) .ret) .skip))))) (.seq (.region r52_5) (.seq (.region r52_6) (.seq (.region r52_7) .ret)))))
theorem code52 : ∃ c, Try.f52.body = some c ∧ abs Try.f52.ntmps c = B52 := ⟨_, rfl, by kernel_rfl⟩
theorem hb52 : HasBody Try.prog 52 := hasBody_of Try.func52 (by kernel_rfl)
theorem enter52 (x0 x1 : Value) : Ent 52 B52 #[(.tmp 4), (.tmp 5)] [x0, x1] := ent code52 hb52 Try.func52 rfl rfl
/-! 53 bytes.Equal (params #[25, 25], results #[(.tmp 4)], 10 slots) -/
abbrev r53_0 : List VOp :=
  [zD 4]
abbrev r53_1 : List VOp :=
  [mv 5 0 25,
   zCA 6 25 9 5,
   mv 7 1 25,
   zCA 8 25 9 7,
   ⟨some 9, .binOp .eql 9 (.tmp 6) (.tmp 8) 9, 4, none⟩,
   asg 4 9 4]
def B53 : VC :=
  (.seq (.region r53_0) (.seq (.region r53_1) .ret))
theorem code53 : ∃ c, Try.f53.body = some c ∧ abs Try.f53.ntmps c = B53 := ⟨_, rfl, by kernel_rfl⟩
theorem hb53 : HasBody Try.prog 53 := hasBody_of Try.func53 (by kernel_rfl)
theorem enter53 (x0 x1 : Value) : Ent 53 B53 #[(.tmp 4)] [x0, x1] := ent code53 hb53 Try.func53 rfl rfl
/-! 54 columbary/check.four (params #[101], results #[(.tmp 2)], 15 slots) -/
abbrev r54_0 : List VOp :=
  [zJ 2 25]
abbrev r54_1 : List VOp :=
  [mv 3 0 101,
   zBG 4 101 3 24,
   zCA 5 101 5 4,
   mv 6 0 101,
   zBG 7 101 6 16,
   zCA 8 101 5 7,
   mv 9 0 101,
   zBG 10 101 9 8,
   zCA 11 101 5 10,
   mv 12 0 101,
   zCA 13 101 5 12,
   ⟨some 14, .buildSlice 25 4 #[(0, (.tmp 5)), (1, (.tmp 8)), (2, (.tmp 11)), (3, (.tmp 13))], 25, none⟩,
   asg 2 14 25]
def B54 : VC :=
  (.seq (.region r54_0) (.seq (.region r54_1) .ret))
theorem code54 : ∃ c, Try.f54.body = some c ∧ abs Try.f54.ntmps c = B54 := ⟨_, rfl, by kernel_rfl⟩
theorem hb54 : HasBody Try.prog 54 := hasBody_of Try.func54 (by kernel_rfl)
theorem enter54 (x0 : Value) : Ent 54 B54 #[(.tmp 2)] [x0] := ent code54 hb54 Try.func54 rfl rfl
/-! 55 columbary/check.Sum (params #[25], results #[(.tmp 2)], 31 slots) -/
@[push_cast] def W55_0 : List Nat := [4, 6, 10, 11, 12, 13, 14, 15, 16, 17, 18, 19, 20, 21, 22, 23, 24, 25, 26, 27, 28]
@[push_cast] def W55_1 : List Nat := [4, 18, 19, 20, 21, 22, 23, 24, 25, 26, 27]
abbrev r55_0 : List VOp :=
  [zG 2 0]
abbrev r55_1 : List VOp :=
  [zBZ 7 74 123,
   zC 3 123,
   zB 123 3 7]
abbrev r55_2 : List VOp :=
  [zG 4 4294967295]
abbrev r55_3 : List VOp :=
  [mv 8 0 25,
   zBO 9 8 25,
   zCI 10]
abbrev r55_4 : List VOp :=
  [zY 11 10 9 0]
abbrev r55_5 : List VOp :=
  [iad 12 25 8 10,
   lda 13 5 12,
   asg 6 13 5]
abbrev r55_6 : List VOp :=
  [mv 14 4 101,
   mv 15 6 5,
   zCA 16 5 101 15,
   zBI 17 101 14 16,
   asg 4 17 101]
abbrev r55_7 : List VOp :=
  [zCI 18]
abbrev r55_8 : List VOp :=
  [zX 19 18 2 4]
abbrev r55_9 : List VOp :=
  [mv 20 4 101,
   zBG 21 101 20 4,
   mv 22 4 101,
   ⟨some 23, .binOp .and 101 (.tmp 22) (.const (.int .u32 15)) 101, 101, none⟩,
   iad 24 123 3 23,
   lda 25 101 24,
   zBI 26 101 21 25,
   asg 4 26 101]
abbrev r55_10 : List VOp :=
  [zK 27 18 1,
   mv 18 27 3]
abbrev r55_11 : List VOp :=
  [zK 28 10 1,
   mv 10 28 3]
abbrev r55_12 : List VOp :=
  [mv 29 4 101,
   ⟨some 30, .unOp .xor 101 (.tmp 29), 101, none⟩,
   asg 2 30 101]
def B55 : VC :=
  (.seq (.region r55_0) (.seq (.region r55_1) (.seq (.region r55_2) (.seq (.seq (.region r55_3) (.block 0 (.loop (.seq (.region r55_4) (.seq (.cond (.tmp 11) .skip (.exit 0)) (.seq (.block 1 (.seq (.region r55_5) (.seq (.region r55_6) (.seq (.region r55_7) (.block 2 (.loop (.seq (.region r55_8) (.seq (.cond (.tmp 19) .skip (.exit 2)) (.seq (.block 3 (.region r55_9)) (.region r55_10)))))))))) (.region r55_11))))))) (.seq (.region r55_12) .ret)))))
theorem code55 : ∃ c, Try.f55.body = some c ∧ abs Try.f55.ntmps c = B55 := ⟨_, rfl, by kernel_rfl⟩
theorem hb55 : HasBody Try.prog 55 := hasBody_of Try.func55 (by kernel_rfl)
theorem enter55 (x0 : Value) : Ent 55 B55 #[(.tmp 2)] [x0] := ent code55 hb55 Try.func55 rfl rfl
/-! 56 columbary/columbaryref02.First (params #[25], results #[(.tmp 2), (.tmp 3), (.tmp 4)], 61 slots) -/
abbrev r56_0 : List VOp :=
  [zJ 2 25,
   zF 3 0 3,
   zF 4 0 29]
abbrev r56_1 : List VOp :=
  [mv 11 0 25,
   zBK 12 105 0 11,
   zBJ 13 105 12 103,
   asg 5 13 103]
abbrev r56_2 : List VOp :=
  [mv 15 5 103,
   zBS 16 75 15 16777216 103 96,
   mv 14 16 96,
   ext 17 14 0 3,
   ext 18 14 1 29,
   asg 6 17 3,
   asg 7 18 29]
abbrev r56_3 : List VOp :=
  [mv 19 7 29,
   zBA 20 19 0,
   mv 21 20 4,
   zCJ 22 6 3 21,
   zCJ 23 0 25 21,
   zBP 24 23 25 21,
   zCJ 25 5 103 21,
   zCM 26 25 21,
   zCB 27 105 26 1 21,
   zCG 28 3 27 21,
   ⟨some 29, .binOp .sub 3 (.tmp 24) (.tmp 28) 3, 3, some (21, false)⟩,
   ⟨some 30, .binOp .sub 3 (.tmp 29) (.const (.int .i64 4)) 3, 3, some (21, false)⟩,
   zV 31 22 30 21,
   zCN 32 21 31]
abbrev r56_4 : List VOp :=
  [zJ 2 25,
   zF 3 0 3,
   zF 4 21 29]
def r56_5 : List (VOp × List Nat) := [(⟨some 33, .move (.tmp 0), 25, none⟩, [0]), (⟨some 34, .move (.tmp 5), 103, none⟩, [5]), (⟨some 35, .nilCheck (.tmp 34), 0, none⟩, [34]), (⟨some 36, .fieldAddr 105 (.tmp 35) 1, 0, none⟩, [35]), (⟨some 37, .load 3 (.tmp 36), 3, none⟩, [36]), (⟨some 38, .move (.tmp 5), 103, none⟩, [5]), (⟨some 39, .nilCheck (.tmp 38), 0, none⟩, [38]), (⟨some 40, .fieldAddr 105 (.tmp 39) 1, 0, none⟩, [39]), (⟨some 41, .load 3 (.tmp 40), 3, none⟩, [40]), (⟨some 42, .move (.tmp 6), 3, none⟩, [6]), (⟨some 43, .binOp .add 3 (.tmp 41) (.tmp 42) 3, 3, none⟩, [41, 42]), (⟨some 44, .slice 25 (.tmp 33) (some (.tmp 37)) (some (.tmp 43)) none, 25, none⟩, [33, 37, 43]), (⟨some 8, .assign (.tmp 44), 25, none⟩, [44])]
abbrev r56_6 : List VOp :=
  [mv 46 8 25,
   zBX 47 33 46 25 45,
   mv 45 47 45,
   ext 48 45 0 25,
   ext 49 45 1 29,
   asg 9 48 25,
   asg 10 49 29]
def r56_7 : List (VOp × List Nat) := [(⟨some 50, .move (.tmp 9), 25, none⟩, [9]), (⟨some 51, .convert 25 9 (.tmp 50), 9, none⟩, [50]), (⟨some 52, .move (.tmp 0), 25, none⟩, [0]), (⟨some 53, .move (.tmp 9), 25, none⟩, [9]), (⟨some 54, .call ⟨.builtin .len, #[.tmp 53], #[25]⟩, 3, none⟩, [53]), (⟨some 55, .slice 25 (.tmp 52) none (some (.tmp 54)) none, 25, none⟩, [52, 54]), (⟨some 56, .convert 25 9 (.tmp 55), 9, none⟩, [55]), (⟨some 57, .binOp .neq 9 (.tmp 51) (.tmp 56) 9, 4, none⟩, [51, 56])]
abbrev r56_8 : List VOp :=
  [zJ 2 25,
   zF 3 0 3,
   zF 4 21 29]
abbrev r56_9 : List VOp :=
  [mv 58 8 25,
   mv 59 9 25,
   zBO 60 59 25,
   asg 2 58 25,
   asg 3 60 3,
   zF 4 0 29]
def B56 : VC :=
  (.seq (.region r56_0) (.seq (.region r56_1) (.seq (.region r56_2) (.seq (.seq (.region r56_3) (.cond (.tmp 32) (.seq (.region r56_4) .ret) .skip)) (.seq (.draw (dzR r56_5) 3) (.seq (.region r56_6) (.seq (.seq (.draw (dzR r56_7) 2) (.cond (.tmp 57) (.seq (.region r56_8) .ret) .skip)) (.seq (.region r56_9) .ret))))))))
theorem code56 : ∃ c, Try.f56.body = some c ∧ abs Try.f56.ntmps c = B56 := ⟨_, rfl, by kernel_rfl⟩
theorem hb56 : HasBody Try.prog 56 := hasBody_of Try.func56 (by kernel_rfl)
theorem enter56 (x0 : Value) : Ent 56 B56 #[(.tmp 2), (.tmp 3), (.tmp 4)] [x0] := ent code56 hb56 Try.func56 rfl rfl
@[push_cast] def vr56_5 := vzD r56_5.eq_1 rfl 3
@[push_cast] def vr56_7 := vzD r56_7.eq_1 rfl 2
/-! 61 columbary/columbaryref01.Int (params #[3], results #[(.tmp 2)], 26 slots) -/
@[push_cast] def W61_0 : List Nat := [3, 4, 5, 12, 13, 14, 15, 16, 17, 18, 19, 20, 21, 22, 23, 24]
abbrev r61_0 : List VOp :=
  [zJ 2 25]
abbrev r61_1 : List VOp :=
  [mv 6 0 3,
   zBX 7 78 6 3 108,
   asg 3 7 108]
abbrev r61_2 : List VOp :=
  [mv 8 3 108,
   zBF 9 108 8 128,
   zCA 10 108 5 9,
   zBM 11 25 10,
   asg 4 11 25]
abbrev r61_3 : List VOp :=
  [mv 12 3 108,
   ⟨some 13, .binOp .geq 108 (.tmp 12) (.const (.int .u64 128)) 108, 4, none⟩]
abbrev r61_4 : List VOp :=
  [mv 14 3 108,
   zBE 15 108 14 128,
   asg 3 15 108]
abbrev r61_5 : List VOp :=
  [mv 16 3 108,
   zBF 17 108 16 128,
   ⟨some 18, .binOp .add 108 (.const (.int .u64 128)) (.tmp 17) 108, 108, none⟩,
   zCA 19 108 5 18,
   zBM 20 25 19,
   asg 5 20 25]
abbrev r61_6 : List VOp :=
  [mv 21 5 25,
   mv 22 4 25,
   zBN 23 21 22 25 25,
   asg 5 23 25]
abbrev r61_7 : List VOp :=
  [mv 24 5 25,
   asg 4 24 25]
abbrev r61_8 : List VOp :=
  [mv 25 4 25,
   asg 2 25 25]
def B61 : VC :=
  (.seq (.region r61_0) (.seq (.region r61_1) (.seq (.region r61_2) (.seq (.block 0 (.loop (.seq (.seq (.region r61_3) (.cond (.tmp 13) .skip (.exit 0))) (.block 1 (.seq (.region r61_4) (.seq (.region r61_5) (.seq (.region r61_6) (.region r61_7)))))))) (.seq (.region r61_8) .ret)))))
theorem code61 : ∃ c, Try.f61.body = some c ∧ abs Try.f61.ntmps c = B61 := ⟨_, rfl, by kernel_rfl⟩
theorem hb61 : HasBody Try.prog 61 := hasBody_of Try.func61 (by kernel_rfl)
theorem enter61 (x0 : Value) : Ent 61 B61 #[(.tmp 2)] [x0] := ent code61 hb61 Try.func61 rfl rfl
/-! 62 columbary/columbaryref02.Sum (params #[25], results #[(.tmp 2)], 38 slots) -/
@[push_cast] def W62_0 : List Nat := [3, 4, 5, 6, 7, 8, 9, 10, 11, 12, 13, 14, 15, 16, 17, 18, 19, 20, 21, 22, 23, 24, 25, 26, 27, 28, 29, 30, 31, 32, 33, 34, 35]
@[push_cast] def W62_1 : List Nat := [3, 5, 6, 7, 14, 15, 16, 17, 18, 19, 20, 21, 22, 23, 24, 25, 26, 27, 28, 29, 30, 31, 32, 33, 34, 35]
abbrev r62_0 : List VOp :=
  [zG 2 0]
abbrev r62_1 : List VOp :=
  [zG 3 4294967295]
abbrev r62_2 : List VOp :=
  [zF 4 0 3]
abbrev r62_3 : List VOp :=
  [mv 8 4 3,
   mv 9 0 25,
   zBO 10 9 25,
   zY 11 8 10 4]
abbrev r62_5 : List VOp :=
  [zF 5 0 3]
abbrev r62_6 : List VOp :=
  [mv 14 5 3,
   zX 15 14 8 4]
abbrev r62_8 : List VOp :=
  [mv 18 0 25,
   mv 19 4 3,
   iad 20 25 18 19,
   lda 21 5 20,
   mv 22 5 3,
   zCA 23 3 122 22,
   ⟨some 24, .binOp .shr 5 (.tmp 21) (.tmp 23) 122, 5, none⟩,
   zCA 25 5 101 24,
   ⟨some 26, .binOp .rem 101 (.tmp 25) (.const (.int .u32 2)) 101, 101, none⟩,
   asg 6 26 101]
abbrev r62_9 : List VOp :=
  [mv 27 3 101,
   ⟨some 28, .binOp .rem 101 (.tmp 27) (.const (.int .u32 2)) 101, 101, none⟩,
   asg 7 28 101]
abbrev r62_10 : List VOp :=
  [mv 29 3 101,
   zBD 30 29 2,
   asg 3 30 101]
abbrev r62_11 : List VOp :=
  [mv 31 6 101,
   mv 32 7 101,
   zBC 33 101 31 32]
abbrev r62_12 : List VOp :=
  [mv 34 3 101,
   ⟨some 35, .binOp .xor 101 (.tmp 34) (.const (.int .u32 2197175160)) 101, 101, none⟩,
   asg 3 35 101]
abbrev r62_7 : List VOp :=
  [mv 16 5 3,
   zK 17 16 1,
   asg 5 17 3]
abbrev r62_4 : List VOp :=
  [mv 12 4 3,
   zK 13 12 1,
   asg 4 13 3]
abbrev r62_13 : List VOp :=
  [mv 36 3 101,
   ⟨some 37, .binOp .sub 101 (.const (.int .u32 4294967295)) (.tmp 36) 101, 101, none⟩,
   asg 2 37 101]
def B62 : VC :=
  (.seq (.region r62_0) (.seq (.region r62_1) (.seq (.seq (.region r62_2) (.block 0 (.loop (.seq (.seq (.region r62_3) (.cond (.tmp 11) .skip (.exit 0))) (.seq (.block 1 (.seq (.region r62_5) (.block 2 (.loop (.seq (.seq (.region r62_6) (.cond (.tmp 15) .skip (.exit 2))) (.seq (.block 3 (.seq (.region r62_8) (.seq (.region r62_9) (.seq (.region r62_10) (.seq (.region r62_11) (.cond (.tmp 33) (.region r62_12) .skip)))))) (.region r62_7))))))) (.region r62_4)))))) (.seq (.region r62_13) .ret))))
theorem code62 : ∃ c, Try.f62.body = some c ∧ abs Try.f62.ntmps c = B62 := ⟨_, rfl, by kernel_rfl⟩
theorem hb62 : HasBody Try.prog 62 := hasBody_of Try.func62 (by kernel_rfl)
theorem enter62 (x0 : Value) : Ent 62 B62 #[(.tmp 2)] [x0] := ent code62 hb62 Try.func62 rfl rfl
/-! 63 columbary/schema.Check (params #[24, 41], results #[(.tmp 4)], 39 slots) -/
abbrev r63_0 : List VOp :=
  [zBJ 2 24 0 0,
   zBJ 3 41 1 0,
   zF 4 0 29]
abbrev r63_1 : List VOp :=
  [fad 6 41 3 1,
   lda 7 22 6,
   zBO 8 7 22,
   fad 9 24 2 0,
   lda 10 22 9,
   zBO 11 10 22,
   zBC 12 3 8 11,
   mv 13 12 4,
   zCB 14 41 3 2 13,
   zCG 15 39 14 13,
   zBP 16 15 39 13,
   zCB 17 24 2 1 13,
   zCG 18 22 17 13,
   zBP 19 18 22 13,
   ⟨some 20, .binOp .neq 3 (.tmp 16) (.tmp 19) 3, 4, some (13, false)⟩,
   zCN 21 13 20,
   asg 5 21 4]
abbrev r63_2 : List VOp :=
  [zF 4 101 29]
abbrev r63_3 : List VOp :=
  [fad 23 41 3 1,
   lda 24 22 23,
   ⟨some 25, .call ⟨.value (.func 79), #[(.tmp 24), (.func 80)], #[22, 95]⟩, 4, none⟩,
   asg 22 25 4]
abbrev r63_4 : List VOp :=
  [zF 4 102 29]
abbrev r63_5 : List VOp :=
  [fad 27 41 3 2,
   lda 28 39 27,
   ⟨some 29, .call ⟨.value (.func 82), #[(.tmp 28), (.func 83)], #[39, 128]⟩, 4, none⟩,
   asg 26 29 4]
abbrev r63_6 : List VOp :=
  [zF 4 102 29]
abbrev r63_7 : List VOp :=
  [fad 31 41 3 0,
   lda 32 3 31,
   zX 33 32 0 4,
   mv 34 33 4,
   zCB 35 41 3 0 34,
   zCG 36 3 35 34,
   zU 37 36 1099511627776 34,
   zCN 38 34 37,
   asg 30 38 4]
abbrev r63_8 : List VOp :=
  [zF 4 181 29]
abbrev r63_9 : List VOp :=
  [zF 4 0 29]
def B63 : VC :=
  (.seq (.region r63_0) (.seq (.block 0 (.seq (.region r63_1) (.cond (.tmp 5) (.seq (.region r63_2) .ret) (.seq (.region r63_3) (.cond (.tmp 22) (.seq (.region r63_4) .ret) (.seq (.region r63_5) (.cond (.tmp 26) (.seq (.region r63_6) .ret) (.seq (.region r63_7) (.cond (.tmp 30) (.seq (.region r63_8) .ret) .skip))))))))) (.seq (.region r63_9) .ret)))
theorem code63 : ∃ c, Try.f63.body = some c ∧ abs Try.f63.ntmps c = B63 := ⟨_, rfl, by kernel_rfl⟩
theorem hb63 : HasBody Try.prog 63 := hasBody_of Try.func63 (by kernel_rfl)
theorem enter63 (x0 x1 : Value) : Ent 63 B63 #[(.tmp 4)] [x0, x1] := ent code63 hb63 Try.func63 rfl rfl
/-! 64 columbary/zig.Fold (params #[3], results #[(.tmp 2)], 10 slots) -/
abbrev r64_0 : List VOp :=
  [zH 2]
abbrev r64_1 : List VOp :=
  [mv 3 0 3,
   zCA 4 3 108 3,
   ⟨some 5, .binOp .shl 108 (.tmp 4) (.const (.int .u64 1)) 122, 108, none⟩,
   mv 6 0 3,
   zBG 7 3 6 63,
   zCA 8 3 108 7,
   zBI 9 108 5 8,
   asg 2 9 108]
def B64 : VC :=
  (.seq (.region r64_0) (.seq (.region r64_1) .ret))
theorem code64 : ∃ c, Try.f64.body = some c ∧ abs Try.f64.ntmps c = B64 := ⟨_, rfl, by kernel_rfl⟩
theorem hb64 : HasBody Try.prog 64 := hasBody_of Try.func64 (by kernel_rfl)
theorem enter64 (x0 : Value) : Ent 64 B64 #[(.tmp 2)] [x0] := ent code64 hb64 Try.func64 rfl rfl
/-! 66 (*columbary/zig.Reader).Text (params #[83, 3], results #[(.tmp 4), (.tmp 5)], 63 slots) -/
abbrev r66_0 : List VOp :=
  [⟨some 4, .assign (.const (.string { data := #[] })), 9, none⟩,
   zF 5 0 29]
abbrev r66_1 : List VOp :=
  [mv 9 0 83,
   zP 10 83 9]
abbrev r66_2 : List VOp :=
  [⟨some 4, .assign (.const (.string { data := #[] })), 9, none⟩,
   zF 5 1 29]
abbrev r66_3 : List VOp :=
  [mv 12 0 83,
   zCL 13 12,
   fad 14 111 13 0,
   lda 15 25 14,
   zBX 16 73 15 25 120,
   mv 11 16 120,
   ext 17 11 0 3,
   ext 18 11 1 3,
   asg 6 17 3,
   asg 7 18 3]
abbrev r66_4 : List VOp :=
  [mv 19 7 3,
   zM 20 3 19 0,
   mv 21 20 4,
   zCJ 22 6 3 21,
   ⟨some 23, .binOp .lss 3 (.tmp 22) (.const (.int .i64 0)) 3, 4, some (21, false)⟩,
   zCN 24 21 23,
   mv 25 24 4,
   zCJ 26 6 3 25,
   zCJ 27 1 3 25,
   zV 28 26 27 25,
   zCN 29 25 28,
   mv 30 29 4,
   zCJ 31 6 3 30,
   zCJ 32 0 83 30,
   zCM 33 32 30,
   zCB 34 111 33 0 30,
   zCG 35 25 34 30,
   zBP 36 35 25 30,
   zCJ 37 7 3 30,
   ⟨some 38, .binOp .sub 3 (.tmp 36) (.tmp 37) 3, 3, some (30, false)⟩,
   zV 39 31 38 30,
   zCN 40 30 39]
abbrev r66_5 : List VOp :=
  [⟨some 4, .assign (.const (.string { data := #[] })), 9, none⟩,
   zF 5 11 29]
abbrev r66_6 : List VOp :=
  [mv 41 0 83,
   zCL 42 41,
   fad 43 111 42 0,
   lda 44 25 43,
   mv 45 7 3,
   mv 46 7 3,
   mv 47 6 3,
   zL 48 3 46 47,
   ⟨some 49, .slice 25 (.tmp 44) (some (.tmp 45)) (some (.tmp 48)) none, 25, none⟩,
   zCA 50 25 9 49,
   asg 8 50 9]
abbrev r66_7 : List VOp :=
  [mv 51 0 83,
   mv 52 0 83,
   zCL 53 52,
   fad 54 111 53 0,
   lda 55 25 54,
   mv 56 7 3,
   mv 57 6 3,
   zL 58 3 56 57,
   zCP 59 25 55 58,
   zCL 60 51,
   fad 61 111 60 0,
   zB 25 61 59]
abbrev r66_8 : List VOp :=
  [mv 62 8 9,
   asg 4 62 9,
   zF 5 0 29]
def B66 : VC :=
  (.seq (.region r66_0) (.seq (.seq (.region r66_1) (.cond (.tmp 10) (.seq (.region r66_2) .ret) .skip)) (.seq (.region r66_3) (.seq (.seq (.region r66_4) (.cond (.tmp 40) (.seq (.region r66_5) .ret) .skip)) (.seq (.region r66_6) (.seq (.region r66_7) (.seq (.region r66_8) .ret)))))))
theorem code66 : ∃ c, Try.f66.body = some c ∧ abs Try.f66.ntmps c = B66 := ⟨_, rfl, by kernel_rfl⟩
theorem hb66 : HasBody Try.prog 66 := hasBody_of Try.func66 (by kernel_rfl)
theorem enter66 (x0 x1 : Value) : Ent 66 B66 #[(.tmp 4), (.tmp 5)] [x0, x1] := ent code66 hb66 Try.func66 rfl rfl
/-! 68 columbary/columbaryref10.Value (params #[9], results #[(.tmp 2)], 35 slots) -/
@[push_cast] def W68_0 : List Nat := [2, 3, 4, 5, 6, 7, 8, 9, 10, 11, 12, 13, 14, 15, 16, 17, 18, 19, 20, 21, 22, 23, 24, 25, 26, 27, 28, 29, 30, 31]
abbrev r68_0 : List VOp :=
  [zD 2]
abbrev r68_1 : List VOp :=
  [zF 3 0 3]
abbrev r68_2 : List VOp :=
  [mv 4 3 3,
   mv 5 0 9,
   zBO 6 5 9,
   zY 7 4 6 4]
abbrev r68_4 : List VOp :=
  [mv 10 0 9,
   mv 11 3 3,
   ⟨some 12, .index 9 (.tmp 10) (.tmp 11), 5, none⟩,
   ⟨some 13, .binOp .lss 5 (.tmp 12) (.const (.int .u8 32)) 5, 4, none⟩,
   mv 14 13 4,
   zCJ 15 0 9 14,
   zCJ 16 3 3 14,
   zCD 17 15 16 14,
   ⟨some 18, .binOp .gtr 5 (.tmp 17) (.const (.int .u8 126)) 5, 4, some (14, false)⟩,
   zCN 19 14 18,
   mv 20 19 4,
   zCJ 21 0 9 20,
   zCJ 22 3 3 20,
   zCD 23 21 22 20,
   zO 24 5 23 34 4 20,
   zCN 25 20 24,
   mv 26 25 4,
   zCJ 27 0 9 26,
   zCJ 28 3 3 26,
   zCD 29 27 28 26,
   zO 30 5 29 92 4 26,
   zCN 31 26 30]
abbrev r68_5 : List VOp :=
  [zD 2]
abbrev r68_3 : List VOp :=
  [mv 8 3 3,
   zK 9 8 1,
   asg 3 9 3]
abbrev r68_6 : List VOp :=
  [mv 32 0 9,
   zBO 33 32 9,
   ⟨some 34, .binOp .leq 3 (.tmp 33) (.const (.int .i64 24)) 3, 4, none⟩,
   asg 2 34 4]
def B68 : VC :=
  (.seq (.region r68_0) (.seq (.seq (.region r68_1) (.block 0 (.loop (.seq (.seq (.region r68_2) (.cond (.tmp 7) .skip (.exit 0))) (.seq (.block 1 (.seq (.region r68_4) (.cond (.tmp 31) (.seq (.region r68_5) .ret) .skip))) (.region r68_3)))))) (.seq (.region r68_6) .ret)))
theorem code68 : ∃ c, Try.f68.body = some c ∧ abs Try.f68.ntmps c = B68 := ⟨_, rfl, by kernel_rfl⟩
theorem hb68 : HasBody Try.prog 68 := hasBody_of Try.func68 (by kernel_rfl)
theorem enter68 (x0 : Value) : Ent 68 B68 #[(.tmp 2)] [x0] := ent code68 hb68 Try.func68 rfl rfl
/-! 69 columbary/columbaryref10.words (params #[], results #[(.tmp 0)], 2 slots) -/
abbrev r69_0 : List VOp :=
  [zJ 0 22]
abbrev r69_1 : List VOp :=
  [⟨some 1, .buildSlice 22 20 #[(0, (.const (.string { data := #[99, 111, 117, 110, 116] }))), (1, (.const (.string { data := #[115, 117, 109] }))), (2, (.const (.string { data := #[109, 105, 110] }))), (3, (.const (.string { data := #[109, 97, 120] }))), (4, (.const (.string { data := #[102, 114, 111, 109] }))), (5, (.const (.string { data := #[116, 111] }))), (6, (.const (.string { data := #[98, 121] }))), (7, (.const (.string { data := #[101, 118, 101, 114, 121] }))), (8, (.const (.string { data := #[119, 104, 101, 114, 101] }))), (9, (.const (.string { data := #[104, 97, 118, 105, 110, 103] }))), (10, (.const (.string { data := #[111, 114, 100, 101, 114] }))), (11, (.const (.string { data := #[108, 105, 109, 105, 116] }))), (12, (.const (.string { data := #[97, 110, 100] }))), (13, (.const (.string { data := #[111, 114] }))), (14, (.const (.string { data := #[110, 111, 116] }))), (15, (.const (.string { data := #[105, 115] }))), (16, (.const (.string { data := #[110, 117, 108, 108] }))), (17, (.const (.string { data := #[97, 115, 99] }))), (18, (.const (.string { data := #[100, 101, 115, 99] }))), (19, (.const (.string { data := #[115, 101, 108, 101, 99, 116] })))], 22, none⟩,
   asg 0 1 22]
def B69 : VC :=
  (.seq (.region r69_0) (.seq (.region r69_1) .ret))
theorem code69 : ∃ c, Try.f69.body = some c ∧ abs Try.f69.ntmps c = B69 := ⟨_, rfl, by kernel_rfl⟩
theorem hb69 : HasBody Try.prog 69 := hasBody_of Try.func69 (by kernel_rfl)
theorem enter69 : Ent 69 B69 #[(.tmp 0)] [] := ent code69 hb69 Try.func69 rfl rfl
/-! 71 columbary/vault.named$1 (params #[21], results #[(.tmp 2)], 6 slots) -/
abbrev r71_0 : List VOp :=
  [zD 2]
abbrev r71_1 : List VOp :=
  [mv 3 0 21,
   ⟨some 4, .call { callee := (.value (.func 72)), args := #[(.const (.string { data := #[97, 98, 99, 100, 101, 102, 103, 104, 105, 106, 107, 108, 109, 110, 111, 112, 113, 114, 115, 116, 117, 118, 119, 120, 121, 122, 48, 49, 50, 51, 52, 53, 54, 55, 56, 57, 46] })), (.tmp 3)], argTypes := #[9, 21] }, 4, none⟩,
   zCR 5 4,
   asg 2 5 4]
def B71 : VC :=
  (.seq (.region r71_0) (.seq (.region r71_1) .ret))
theorem code71 : ∃ c, Try.f71.body = some c ∧ abs Try.f71.ntmps c = B71 := ⟨_, rfl, by kernel_rfl⟩
theorem hb71 : HasBody Try.prog 71 := hasBody_of Try.func71 (by kernel_rfl)
theorem enter71 (x0 : Value) : Ent 71 B71 #[(.tmp 2)] [x0] := ent code71 hb71 Try.func71 rfl rfl
/-! 73 columbary/zig.next (params #[25], results #[(.tmp 2), (.tmp 3)], 43 slots) -/
@[push_cast] def W73_0 : List Nat := [2, 3, 4, 5, 6, 13, 14, 15, 16, 17, 18, 19, 20, 21, 22, 23, 24, 25, 26, 27, 28, 29, 30, 31, 32, 33, 34, 35, 36, 37, 38, 39, 40, 41, 42]
abbrev r73_0 : List VOp :=
  [zF 2 0 3,
   zF 3 0 3]
abbrev r73_1 : List VOp :=
  [zH 4]
abbrev r73_2 : List VOp :=
  [mv 7 0 25,
   mv 8 0 25,
   zBO 9 8 25,
   ⟨some 10, .call ⟨.builtin .min, #[(.tmp 9), (.const (.int .i64 10))], #[3, 3]⟩, 3, none⟩,
   zCQ 11 25 7 10,
   zBO 12 11 25,
   zCI 13]
abbrev r73_3 : List VOp :=
  [zY 14 13 12 0]
abbrev r73_4 : List VOp :=
  [mv 15 13 3,
   iad 16 25 11 13,
   lda 17 5 16,
   asg 5 15 3,
   asg 6 17 5]
abbrev r73_5 : List VOp :=
  [mv 18 5 3,
   zM 19 3 18 0,
   mv 20 19 4,
   zCK 21 6 5 20,
   ⟨some 22, .binOp .eql 5 (.tmp 21) (.const (.int .u8 128)) 5, 4, some (20, true)⟩,
   zCO 23 20 22,
   mv 24 23 4,
   zCJ 25 4 108 24,
   ⟨some 26, .binOp .shr 108 (.tmp 25) (.const (.int .u64 57)) 122, 108, some (24, false)⟩,
   ⟨some 27, .binOp .gtr 108 (.tmp 26) (.const (.int .u64 0)) 108, 4, some (24, false)⟩,
   zCN 28 24 27]
abbrev r73_6 : List VOp :=
  [zF 2 0 3,
   zF 3 0 3]
abbrev r73_7 : List VOp :=
  [mv 29 4 108,
   ⟨some 30, .binOp .shl 108 (.tmp 29) (.const (.int .u64 7)) 122, 108, none⟩,
   mv 31 6 5,
   ⟨some 32, .binOp .andNot 5 (.tmp 31) (.const (.int .u8 128)) 5, 5, none⟩,
   zCA 33 5 108 32,
   ⟨some 34, .binOp .or 108 (.tmp 30) (.tmp 33) 108, 108, none⟩,
   asg 4 34 108]
abbrev r73_8 : List VOp :=
  [mv 35 6 5,
   ⟨some 36, .binOp .and 5 (.tmp 35) (.const (.int .u8 128)) 5, 5, none⟩,
   ⟨some 37, .binOp .eql 5 (.tmp 36) (.const (.int .u8 0)) 5, 4, none⟩]
abbrev r73_9 : List VOp :=
  [mv 38 4 108,
   zBX 39 86 38 108 3,
   mv 40 5 3,
   zK 41 40 1,
   asg 2 39 3,
   asg 3 41 3]
abbrev r73_10 : List VOp :=
  [zK 42 13 1,
   mv 13 42 3]
abbrev r73_11 : List VOp :=
  [zF 2 0 3,
   zF 3 0 3]
def B73 : VC :=
  (.seq (.region r73_0) (.seq (.region r73_1) (.seq (.seq (.region r73_2) (.block 0 (.loop (.seq (.region r73_3) (.seq (.cond (.tmp 14) .skip (.exit 0)) (.seq (.block 1 (.seq (.region r73_4) (.seq (.seq (.region r73_5) (.cond (.tmp 28) (.seq (.region r73_6) .ret) .skip)) (.seq (.region r73_7) (.seq (.region r73_8) (.cond (.tmp 37) (.seq (.region r73_9) .ret) .skip)))))) (.region r73_10))))))) (.seq (.region r73_11) .ret))))
theorem code73 : ∃ c, Try.f73.body = some c ∧ abs Try.f73.ntmps c = B73 := ⟨_, rfl, by kernel_rfl⟩
theorem hb73 : HasBody Try.prog 73 := hasBody_of Try.func73 (by kernel_rfl)
theorem enter73 (x0 : Value) : Ent 73 B73 #[(.tmp 2), (.tmp 3)] [x0] := ent code73 hb73 Try.func73 rfl rfl
/-! 74 columbary/check.table (params #[], results #[(.cell 0 123)], 23 slots) -/
@[push_cast] def W74_0 : List Nat := [2, 3, 4, 5, 6, 7, 8, 9, 10, 11, 12, 13, 14, 15, 16, 17, 18, 19, 20, 21]
@[push_cast] def W74_1 : List Nat := [3, 9, 10, 11, 12, 13, 14, 15, 16, 17]
abbrev r74_0 : List VOp :=
  [zC 0 123]
abbrev r74_1 : List VOp :=
  [zC 1 123]
abbrev r74_2 : List VOp :=
  [zCI 4]
abbrev r74_3 : List VOp :=
  [zX 5 4 16 0]
abbrev r74_4 : List VOp :=
  [mv 6 4 3,
   asg 2 6 3]
abbrev r74_5 : List VOp :=
  [mv 7 2 3,
   zCA 8 3 101 7,
   asg 3 8 101]
abbrev r74_6 : List VOp :=
  [zCI 9]
abbrev r74_7 : List VOp :=
  [zX 10 9 4 4]
abbrev r74_8 : List VOp :=
  [mv 11 3 101,
   zBG 12 101 11 1,
   mv 13 3 101,
   ⟨some 14, .binOp .and 101 (.tmp 13) (.const (.int .u32 1)) 101, 101, none⟩,
   ⟨some 15, .binOp .mul 101 (.const (.int .u32 2197175160)) (.tmp 14) 101, 101, none⟩,
   zBI 16 101 12 15,
   asg 3 16 101]
abbrev r74_9 : List VOp :=
  [zK 17 9 1,
   mv 9 17 3]
abbrev r74_10 : List VOp :=
  [mv 18 2 3,
   mv 19 3 101,
   iad 20 123 1 18,
   zB 101 20 19]
abbrev r74_11 : List VOp :=
  [zK 21 4 1,
   mv 4 21 3]
abbrev r74_12 : List VOp :=
  [lda 22 123 1,
   zB 123 0 22]
def B74 : VC :=
  (.seq (.region r74_0) (.seq (.region r74_1) (.seq (.seq (.region r74_2) (.block 0 (.loop (.seq (.region r74_3) (.seq (.cond (.tmp 5) .skip (.exit 0)) (.seq (.block 1 (.seq (.region r74_4) (.seq (.region r74_5) (.seq (.seq (.region r74_6) (.block 2 (.loop (.seq (.region r74_7) (.seq (.cond (.tmp 10) .skip (.exit 2)) (.seq (.block 3 (.region r74_8)) (.region r74_9))))))) (.region r74_10))))) (.region r74_11))))))) (.seq (.region r74_12) .ret))))
theorem code74 : ∃ c, Try.f74.body = some c ∧ abs Try.f74.ntmps c = B74 := ⟨_, rfl, by kernel_rfl⟩
theorem hb74 : HasBody Try.prog 74 := hasBody_of Try.func74 (by kernel_rfl)
theorem enter74 : Ent 74 B74 #[(.cell 0 123)] [] := ent code74 hb74 Try.func74 rfl rfl
/-! 75 (*columbary/columbaryref01.Reader).Int (params #[103, 3, 3], results #[(.tmp 6), (.tmp 7)], 43 slots) -/
abbrev r75_0 : List VOp :=
  [zF 6 0 3,
   zF 7 0 29]
abbrev r75_1 : List VOp :=
  [mv 12 0 103,
   zBX 13 87 12 103 132,
   mv 11 13 132,
   ext 14 11 0 108,
   ext 15 11 1 3,
   asg 8 14 108,
   asg 9 15 3]
abbrev r75_2 : List VOp :=
  [mv 16 8 108,
   zBX 17 88 16 108 3,
   asg 10 17 3]
abbrev r75_3 : List VOp :=
  [mv 18 9 3,
   zM 19 3 18 0,
   mv 20 19 4,
   zCJ 21 10 3 20,
   zCJ 22 1 3 20,
   ⟨some 23, .binOp .lss 3 (.tmp 21) (.tmp 22) 3, 4, some (20, false)⟩,
   zCN 24 20 23,
   mv 25 24 4,
   zCJ 26 10 3 25,
   zCJ 27 2 3 25,
   zV 28 26 27 25,
   zCN 29 25 28]
abbrev r75_4 : List VOp :=
  [mv 30 0 103,
   zCL 31 30,
   fad 32 105 31 2,
   zA 32]
abbrev r75_5 : List VOp :=
  [zF 6 0 3,
   zF 7 11 29]
abbrev r75_6 : List VOp :=
  [mv 33 0 103,
   mv 34 0 103,
   zCL 35 34,
   fad 36 105 35 1,
   lda 37 3 36,
   mv 38 9 3,
   zL 39 3 37 38,
   zCL 40 33,
   fad 41 105 40 1,
   zB 3 41 39]
abbrev r75_7 : List VOp :=
  [mv 42 10 3,
   asg 6 42 3,
   zF 7 0 29]
def B75 : VC :=
  (.seq (.region r75_0) (.seq (.region r75_1) (.seq (.region r75_2) (.seq (.seq (.region r75_3) (.cond (.tmp 29) (.seq (.region r75_4) (.seq (.region r75_5) .ret)) .skip)) (.seq (.region r75_6) (.seq (.region r75_7) .ret))))))
theorem code75 : ∃ c, Try.f75.body = some c ∧ abs Try.f75.ntmps c = B75 := ⟨_, rfl, by kernel_rfl⟩
theorem hb75 : HasBody Try.prog 75 := hasBody_of Try.func75 (by kernel_rfl)
theorem enter75 (x0 x1 x2 : Value) : Ent 75 B75 #[(.tmp 6), (.tmp 7)] [x0, x1, x2] := ent code75 hb75 Try.func75 rfl rfl
/-! 76 (*columbary/columbaryref01.Reader).Text (params #[103, 3], results #[(.tmp 4), (.tmp 5)], 67 slots) -/
abbrev r76_0 : List VOp :=
  [⟨some 4, .assign (.const (.string { data := #[] })), 9, none⟩,
   zF 5 0 29]
abbrev r76_1 : List VOp :=
  [mv 9 0 103,
   zCL 10 9,
   fad 11 105 10 1,
   lda 12 3 11,
   asg 6 12 3]
abbrev r76_2 : List VOp :=
  [mv 14 0 103,
   mv 15 1 3,
   ⟨some 16, .call ⟨.value (.func 75), #[(.tmp 14), (.const (.int .i64 0)), .tmp 15], #[103, 3, 3]⟩, 96, none⟩,
   mv 13 16 96,
   ext 17 13 0 3,
   ext 18 13 1 29,
   asg 7 17 3,
   asg 8 18 29]
def r76_3 : List (VOp × List Nat) := [(⟨some 19, .move (.tmp 8), 29, none⟩, [8]), (⟨some 20, .binOp .neq 29 (.tmp 19) (.const (.int .i64 0)) 29, 4, none⟩, [19]), (⟨some 21, .move (.tmp 20), 4, none⟩, [20]), (⟨some 22, .move (.tmp 7), 3, some (21, false)⟩, [7, 21]), (⟨some 23, .move (.tmp 0), 103, some (21, false)⟩, [0, 21]), (⟨some 24, .nilCheck (.tmp 23), 0, some (21, false)⟩, [23, 21]), (⟨some 25, .fieldAddr 105 (.tmp 24) 0, 0, some (21, false)⟩, [24, 21]), (⟨some 26, .load 25 (.tmp 25), 25, some (21, false)⟩, [25, 21]), (⟨some 27, .call ⟨.builtin .len, #[.tmp 26], #[25]⟩, 3, some (21, false)⟩, [26, 21]), (⟨some 28, .move (.tmp 0), 103, some (21, false)⟩, [0, 21]), (⟨some 29, .nilCheck (.tmp 28), 0, some (21, false)⟩, [28, 21]), (⟨some 30, .fieldAddr 105 (.tmp 29) 1, 0, some (21, false)⟩, [29, 21]), (⟨some 31, .load 3 (.tmp 30), 3, some (21, false)⟩, [30, 21]), (⟨some 32, .binOp .sub 3 (.tmp 27) (.tmp 31) 3, 3, some (21, false)⟩, [27, 31, 21]), (⟨some 33, .binOp .gtr 3 (.tmp 22) (.tmp 32) 3, 4, some (21, false)⟩, [22, 32, 21]), (⟨some 34, .pick (.tmp 21) (.const (.bool true)) (.tmp 33), 4, none⟩, [21, 33])]
abbrev r76_4 : List VOp :=
  [mv 35 0 103,
   mv 36 6 3,
   zCL 37 35,
   fad 38 105 37 1,
   zB 3 38 36]
abbrev r76_5 : List VOp :=
  [mv 39 0 103,
   zCL 40 39,
   fad 41 105 40 2,
   zA 41]
abbrev r76_6 : List VOp :=
  [⟨some 4, .assign (.const (.string { data := #[] })), 9, none⟩,
   zF 5 11 29]
abbrev r76_7 : List VOp :=
  [mv 42 0 103,
   mv 43 0 103,
   zCL 44 43,
   fad 45 105 44 1,
   lda 46 3 45,
   mv 47 7 3,
   zL 48 3 46 47,
   zCL 49 42,
   fad 50 105 49 1,
   zB 3 50 48]
def r76_8 : List (VOp × List Nat) := [(⟨some 51, .move (.tmp 0), 103, none⟩, [0]), (⟨some 52, .nilCheck (.tmp 51), 0, none⟩, [51]), (⟨some 53, .fieldAddr 105 (.tmp 52) 0, 0, none⟩, [52]), (⟨some 54, .load 25 (.tmp 53), 25, none⟩, [53]), (⟨some 55, .move (.tmp 0), 103, none⟩, [0]), (⟨some 56, .nilCheck (.tmp 55), 0, none⟩, [55]), (⟨some 57, .fieldAddr 105 (.tmp 56) 1, 0, none⟩, [56]), (⟨some 58, .load 3 (.tmp 57), 3, none⟩, [57]), (⟨some 59, .move (.tmp 7), 3, none⟩, [7]), (⟨some 60, .binOp .sub 3 (.tmp 58) (.tmp 59) 3, 3, none⟩, [58, 59]), (⟨some 61, .move (.tmp 0), 103, none⟩, [0]), (⟨some 62, .nilCheck (.tmp 61), 0, none⟩, [61]), (⟨some 63, .fieldAddr 105 (.tmp 62) 1, 0, none⟩, [62]), (⟨some 64, .load 3 (.tmp 63), 3, none⟩, [63]), (⟨some 65, .slice 25 (.tmp 54) (some (.tmp 60)) (some (.tmp 64)) none, 25, none⟩, [54, 60, 64]), (⟨some 66, .convert 25 9 (.tmp 65), 9, none⟩, [65]), (⟨some 4, .assign (.tmp 66), 9, none⟩, [66]), (⟨some 5, .assign (.const (.int .i64 0)), 29, none⟩, [])]
def B76 : VC :=
  (.seq (.region r76_0) (.seq (.region r76_1) (.seq (.region r76_2) (.seq (.seq (.draw (dzR r76_3) 3) (.cond (.tmp 34) (.seq (.region r76_4) (.seq (.region r76_5) (.seq (.region r76_6) .ret))) .skip)) (.seq (.region r76_7) (.seq (.draw (dzR r76_8) 5) .ret))))))
theorem code76 : ∃ c, Try.f76.body = some c ∧ abs Try.f76.ntmps c = B76 := ⟨_, rfl, by kernel_rfl⟩
theorem hb76 : HasBody Try.prog 76 := hasBody_of Try.func76 (by kernel_rfl)
theorem enter76 (x0 x1 : Value) : Ent 76 B76 #[(.tmp 4), (.tmp 5)] [x0, x1] := ent code76 hb76 Try.func76 rfl rfl
@[push_cast] def vr76_3 := vzD r76_3.eq_1 rfl 3
@[push_cast] def vr76_8 := vzD r76_8.eq_1 rfl 5
/-! 77 columbary/columbaryref01.Text (params #[9], results #[(.tmp 2)], 8 slots) -/
abbrev r77_0 : List VOp :=
  [zJ 2 25]
abbrev r77_1 : List VOp :=
  [mv 3 0 9,
   zBO 4 3 9,
   zBX 5 61 4 3 25,
   mv 6 0 9,
   zBN 7 5 6 25 9,
   asg 2 7 25]
def B77 : VC :=
  (.seq (.region r77_0) (.seq (.region r77_1) .ret))
theorem code77 : ∃ c, Try.f77.body = some c ∧ abs Try.f77.ntmps c = B77 := ⟨_, rfl, by kernel_rfl⟩
theorem hb77 : HasBody Try.prog 77 := hasBody_of Try.func77 (by kernel_rfl)
theorem enter77 (x0 : Value) : Ent 77 B77 #[(.tmp 2)] [x0] := ent code77 hb77 Try.func77 rfl rfl
/-! 78 columbary/columbaryref01.Fold (params #[3], results #[(.tmp 2)], 14 slots) -/
abbrev r78_0 : List VOp :=
  [zH 2]
abbrev r78_1 : List VOp :=
  [mv 3 0 3,
   zS 4 3 0]
abbrev r78_2 : List VOp :=
  [mv 5 0 3,
   zCA 6 3 108 5,
   zZ 7 108 2 6,
   asg 2 7 108]
abbrev r78_3 : List VOp :=
  [mv 8 0 3,
   zK 9 8 1,
   ⟨some 10, .unOp .neg 3 (.tmp 9), 3, none⟩,
   zCA 11 3 108 10,
   zZ 12 108 2 11,
   ⟨some 13, .binOp .add 108 (.tmp 12) (.const (.int .u64 1)) 108, 108, none⟩,
   asg 2 13 108]
def B78 : VC :=
  (.seq (.region r78_0) (.seq (.seq (.region r78_1) (.cond (.tmp 4) (.seq (.region r78_2) .ret) .skip)) (.seq (.region r78_3) .ret)))
theorem code78 : ∃ c, Try.f78.body = some c ∧ abs Try.f78.ntmps c = B78 := ⟨_, rfl, by kernel_rfl⟩
theorem hb78 : HasBody Try.prog 78 := hasBody_of Try.func78 (by kernel_rfl)
theorem enter78 (x0 : Value) : Ent 78 B78 #[(.tmp 2)] [x0] := ent code78 hb78 Try.func78 rfl rfl
/-! 79 slices.ContainsFunc[[]string,string] (params #[22, 95], results #[(.tmp 4)], 9 slots) -/
abbrev r79_0 : List VOp :=
  [zD 4]
abbrev r79_1 : List VOp :=
  [mv 5 0 22,
   mv 6 1 95,
   zBV 7 89 5 6 22 95 3,
   zS 8 7 0,
   asg 4 8 4]
def B79 : VC :=
  (.seq (.region r79_0) (.seq (.region r79_1) .ret))
theorem code79 : ∃ c, Try.f79.body = some c ∧ abs Try.f79.ntmps c = B79 := ⟨_, rfl, by kernel_rfl⟩
theorem hb79 : HasBody Try.prog 79 := hasBody_of Try.func79 (by kernel_rfl)
theorem enter79 (x0 x1 : Value) : Ent 79 B79 #[(.tmp 4)] [x0, x1] := ent code79 hb79 Try.func79 rfl rfl
/-! 80 columbary/schema.Check$1 (params #[9], results #[(.tmp 2)], 6 slots) -/
abbrev r80_0 : List VOp :=
  [zD 2]
abbrev r80_1 : List VOp :=
  [mv 3 0 9,
   zBX 4 81 3 9 4,
   zCR 5 4,
   asg 2 5 4]
def B80 : VC :=
  (.seq (.region r80_0) (.seq (.region r80_1) .ret))
theorem code80 : ∃ c, Try.f80.body = some c ∧ abs Try.f80.ntmps c = B80 := ⟨_, rfl, by kernel_rfl⟩
theorem hb80 : HasBody Try.prog 80 := hasBody_of Try.func80 (by kernel_rfl)
theorem enter80 (x0 : Value) : Ent 80 B80 #[(.tmp 2)] [x0] := ent code80 hb80 Try.func80 rfl rfl
/-! 81 columbary/schema.Value (params #[9], results #[(.tmp 2)], 16 slots) -/
abbrev r81_0 : List VOp :=
  [zD 2]
abbrev r81_1 : List VOp :=
  [mv 3 0 9,
   zBO 4 3 9,
   ⟨some 5, .binOp .leq 3 (.tmp 4) (.const (.int .i64 24)) 3, 4, none⟩,
   mv 6 5 4,
   zCK 7 0 9 6,
   ⟨some 8, .call { callee := (.value (.func 90)), args := #[(.tmp 7), (.const (.string { data := #[34, 92] }))], argTypes := #[9, 9] }, 4, some (6, true)⟩,
   zCT 9 8 6,
   zCO 10 6 9,
   mv 11 10 4,
   zCK 12 0 9 11,
   ⟨some 13, .call ⟨.value (.func 70), #[(.tmp 12), (.func 91)], #[9, 119]⟩, 4, some (11, true)⟩,
   zCT 14 13 11,
   zCO 15 11 14,
   asg 2 15 4]
def B81 : VC :=
  (.seq (.region r81_0) (.seq (.region r81_1) .ret))
theorem code81 : ∃ c, Try.f81.body = some c ∧ abs Try.f81.ntmps c = B81 := ⟨_, rfl, by kernel_rfl⟩
theorem hb81 : HasBody Try.prog 81 := hasBody_of Try.func81 (by kernel_rfl)
theorem enter81 (x0 : Value) : Ent 81 B81 #[(.tmp 2)] [x0] := ent code81 hb81 Try.func81 rfl rfl
/-! 82 slices.ContainsFunc[[]int,int] (params #[39, 128], results #[(.tmp 4)], 9 slots) -/
abbrev r82_0 : List VOp :=
  [zD 4]
abbrev r82_1 : List VOp :=
  [mv 5 0 39,
   mv 6 1 128,
   zBV 7 92 5 6 39 128 3,
   zS 8 7 0,
   asg 4 8 4]
def B82 : VC :=
  (.seq (.region r82_0) (.seq (.region r82_1) .ret))
theorem code82 : ∃ c, Try.f82.body = some c ∧ abs Try.f82.ntmps c = B82 := ⟨_, rfl, by kernel_rfl⟩
theorem hb82 : HasBody Try.prog 82 := hasBody_of Try.func82 (by kernel_rfl)
theorem enter82 (x0 x1 : Value) : Ent 82 B82 #[(.tmp 4)] [x0, x1] := ent code82 hb82 Try.func82 rfl rfl
/-! 83 columbary/schema.Check$2 (params #[3], results #[(.tmp 2)], 9 slots) -/
abbrev r83_0 : List VOp :=
  [zD 2]
abbrev r83_1 : List VOp :=
  [mv 3 0 3,
   ⟨some 4, .binOp .lss 3 (.tmp 3) (.const (.int .i64 (-4611686018427387904))) 3, 4, none⟩,
   mv 5 4 4,
   zCJ 6 0 3 5,
   zU 7 6 4611686018427387904 5,
   zCN 8 5 7,
   asg 2 8 4]
def B83 : VC :=
  (.seq (.region r83_0) (.seq (.region r83_1) .ret))
theorem code83 : ∃ c, Try.f83.body = some c ∧ abs Try.f83.ntmps c = B83 := ⟨_, rfl, by kernel_rfl⟩
theorem hb83 : HasBody Try.prog 83 := hasBody_of Try.func83 (by kernel_rfl)
theorem enter83 (x0 : Value) : Ent 83 B83 #[(.tmp 2)] [x0] := ent code83 hb83 Try.func83 rfl rfl
/-! 86 columbary/zig.Unfold (params #[108], results #[(.tmp 2)], 11 slots) -/
abbrev r86_0 : List VOp :=
  [zF 2 0 3]
abbrev r86_1 : List VOp :=
  [mv 3 0 108,
   zBG 4 108 3 1,
   zCA 5 108 3 4,
   mv 6 0 108,
   ⟨some 7, .binOp .and 108 (.tmp 6) (.const (.int .u64 1)) 108, 108, none⟩,
   zCA 8 108 3 7,
   ⟨some 9, .unOp .neg 3 (.tmp 8), 3, none⟩,
   zBI 10 3 5 9,
   asg 2 10 3]
def B86 : VC :=
  (.seq (.region r86_0) (.seq (.region r86_1) .ret))
theorem code86 : ∃ c, Try.f86.body = some c ∧ abs Try.f86.ntmps c = B86 := ⟨_, rfl, by kernel_rfl⟩
theorem hb86 : HasBody Try.prog 86 := hasBody_of Try.func86 (by kernel_rfl)
theorem enter86 (x0 : Value) : Ent 86 B86 #[(.tmp 2)] [x0] := ent code86 hb86 Try.func86 rfl rfl
/-! 87 (*columbary/columbaryref01.Reader).number (params #[103], results #[(.tmp 2), (.tmp 3)], 58 slots) -/
@[push_cast] def W87_0 : List Nat := [2, 3, 4, 5, 6, 7, 8, 9, 10, 11, 12, 13, 14, 15, 16, 17, 18, 19, 20, 21, 22, 23, 24, 25, 26, 27, 28, 29, 30, 31, 32, 33, 34, 35, 36, 37, 38, 39, 40, 41, 42, 43, 44, 45, 46, 47, 48, 49, 50, 51, 52, 53, 54, 55, 56, 57]
abbrev r87_0 : List VOp :=
  [zH 2,
   zF 3 0 3]
abbrev r87_1 : List VOp :=
  [zH 4]
abbrev r87_2 : List VOp :=
  [zF 5 0 3]
def r87_3 : List (VOp × List Nat) := [(⟨some 7, .move (.tmp 5), 3, none⟩, [5]), (⟨some 8, .binOp .lss 3 (.tmp 7) (.const (.int .i64 10)) 3, 4, none⟩, [7]), (⟨some 9, .move (.tmp 8), 4, none⟩, [8]), (⟨some 10, .move (.tmp 0), 103, some (9, true)⟩, [0, 9]), (⟨some 11, .nilCheck (.tmp 10), 0, some (9, true)⟩, [10, 9]), (⟨some 12, .fieldAddr 105 (.tmp 11) 1, 0, some (9, true)⟩, [11, 9]), (⟨some 13, .load 3 (.tmp 12), 3, some (9, true)⟩, [12, 9]), (⟨some 14, .move (.tmp 5), 3, some (9, true)⟩, [5, 9]), (⟨some 15, .binOp .add 3 (.tmp 13) (.tmp 14) 3, 3, some (9, true)⟩, [13, 14, 9]), (⟨some 16, .move (.tmp 0), 103, some (9, true)⟩, [0, 9]), (⟨some 17, .nilCheck (.tmp 16), 0, some (9, true)⟩, [16, 9]), (⟨some 18, .fieldAddr 105 (.tmp 17) 0, 0, some (9, true)⟩, [17, 9]), (⟨some 19, .load 25 (.tmp 18), 25, some (9, true)⟩, [18, 9]), (⟨some 20, .call ⟨.builtin .len, #[.tmp 19], #[25]⟩, 3, some (9, true)⟩, [19, 9]), (⟨some 21, .binOp .lss 3 (.tmp 15) (.tmp 20) 3, 4, some (9, true)⟩, [15, 20, 9]), (⟨some 22, .pick (.tmp 9) (.tmp 21) (.const (.bool false)), 4, none⟩, [9, 21])]
def r87_5 : List (VOp × List Nat) := [(⟨some 25, .move (.tmp 0), 103, none⟩, [0]), (⟨some 26, .nilCheck (.tmp 25), 0, none⟩, [25]), (⟨some 27, .fieldAddr 105 (.tmp 26) 0, 0, none⟩, [26]), (⟨some 28, .load 25 (.tmp 27), 25, none⟩, [27]), (⟨some 29, .move (.tmp 0), 103, none⟩, [0]), (⟨some 30, .nilCheck (.tmp 29), 0, none⟩, [29]), (⟨some 31, .fieldAddr 105 (.tmp 30) 1, 0, none⟩, [30]), (⟨some 32, .load 3 (.tmp 31), 3, none⟩, [31]), (⟨some 33, .move (.tmp 5), 3, none⟩, [5]), (⟨some 34, .binOp .add 3 (.tmp 32) (.tmp 33) 3, 3, none⟩, [32, 33]), (⟨some 35, .indexAddr 25 (.tmp 28) (.tmp 34), 0, none⟩, [28, 34]), (⟨some 36, .load 5 (.tmp 35), 5, none⟩, [35]), (⟨some 6, .assign (.tmp 36), 5, none⟩, [36])]
abbrev r87_6 : List VOp :=
  [mv 37 5 3,
   zM 38 3 37 0,
   mv 39 38 4,
   zCK 40 6 5 39,
   ⟨some 41, .binOp .eql 5 (.tmp 40) (.const (.int .u8 128)) 5, 4, some (39, true)⟩,
   zCO 42 39 41,
   mv 43 42 4,
   zCJ 44 4 108 43,
   ⟨some 45, .binOp .gtr 108 (.tmp 44) (.const (.int .u64 144115188075855871)) 108, 4, some (43, false)⟩,
   zCN 46 43 45]
abbrev r87_7 : List VOp :=
  [zH 2,
   zF 3 0 3]
abbrev r87_8 : List VOp :=
  [mv 47 4 108,
   zZ 48 108 128 47,
   mv 49 6 5,
   ⟨some 50, .binOp .rem 5 (.tmp 49) (.const (.int .u8 128)) 5, 5, none⟩,
   zCA 51 5 108 50,
   zL 52 108 48 51,
   asg 4 52 108]
abbrev r87_9 : List VOp :=
  [mv 53 6 5,
   ⟨some 54, .binOp .lss 5 (.tmp 53) (.const (.int .u8 128)) 5, 4, none⟩]
abbrev r87_10 : List VOp :=
  [mv 55 4 108,
   mv 56 5 3,
   zK 57 56 1,
   asg 2 55 108,
   asg 3 57 3]
abbrev r87_4 : List VOp :=
  [mv 23 5 3,
   zK 24 23 1,
   asg 5 24 3]
abbrev r87_11 : List VOp :=
  [zH 2,
   zF 3 0 3]
def B87 : VC :=
  (.seq (.region r87_0) (.seq (.region r87_1) (.seq (.seq (.region r87_2) (.block 0 (.loop (.seq (.seq (.draw (dzR r87_3) 3) (.cond (.tmp 22) .skip (.exit 0))) (.seq (.block 1 (.seq (.draw (dzR r87_5) 4) (.seq (.seq (.region r87_6) (.cond (.tmp 46) (.seq (.region r87_7) .ret) .skip)) (.seq (.region r87_8) (.seq (.region r87_9) (.cond (.tmp 54) (.seq (.region r87_10) .ret) .skip)))))) (.region r87_4)))))) (.seq (.region r87_11) .ret))))
theorem code87 : ∃ c, Try.f87.body = some c ∧ abs Try.f87.ntmps c = B87 := ⟨_, rfl, by kernel_rfl⟩
theorem hb87 : HasBody Try.prog 87 := hasBody_of Try.func87 (by kernel_rfl)
theorem enter87 (x0 : Value) : Ent 87 B87 #[(.tmp 2), (.tmp 3)] [x0] := ent code87 hb87 Try.func87 rfl rfl
@[push_cast] def vr87_3 := vzD r87_3.eq_1 rfl 3
@[push_cast] def vr87_5 := vzD r87_5.eq_1 rfl 4
/-! 88 columbary/columbaryref01.Unfold (params #[108], results #[(.tmp 2)], 14 slots) -/
abbrev r88_0 : List VOp :=
  [zF 2 0 3]
abbrev r88_1 : List VOp :=
  [mv 3 0 108,
   zBF 4 108 3 2,
   ⟨some 5, .binOp .eql 108 (.tmp 4) (.const (.int .u64 0)) 108, 4, none⟩]
abbrev r88_2 : List VOp :=
  [mv 6 0 108,
   zBE 7 108 6 2,
   zCA 8 108 3 7,
   asg 2 8 3]
abbrev r88_3 : List VOp :=
  [mv 9 0 108,
   zBE 10 108 9 2,
   zCA 11 108 3 10,
   ⟨some 12, .unOp .neg 3 (.tmp 11), 3, none⟩,
   ⟨some 13, .binOp .sub 3 (.tmp 12) (.const (.int .i64 1)) 3, 3, none⟩,
   asg 2 13 3]
def B88 : VC :=
  (.seq (.region r88_0) (.seq (.seq (.region r88_1) (.cond (.tmp 5) (.seq (.region r88_2) .ret) .skip)) (.seq (.region r88_3) .ret)))
theorem code88 : ∃ c, Try.f88.body = some c ∧ abs Try.f88.ntmps c = B88 := ⟨_, rfl, by kernel_rfl⟩
theorem hb88 : HasBody Try.prog 88 := hasBody_of Try.func88 (by kernel_rfl)
theorem enter88 (x0 : Value) : Ent 88 B88 #[(.tmp 2)] [x0] := ent code88 hb88 Try.func88 rfl rfl
/-! 89 slices.IndexFunc[[]string,string] (params #[22, 95], results #[(.tmp 4)], 19 slots) -/
@[push_cast] def W89_0 : List Nat := [4, 5, 8, 9, 10, 11, 12, 13, 14, 15, 16, 17, 18]
abbrev r89_0 : List VOp :=
  [zF 4 0 3]
abbrev r89_1 : List VOp :=
  [mv 6 0 22,
   zBO 7 6 22,
   zCI 8]
abbrev r89_2 : List VOp :=
  [zY 9 8 7 0]
abbrev r89_3 : List VOp :=
  [mv 10 8 3,
   asg 5 10 3]
abbrev r89_4 : List VOp :=
  [mv 11 1 95,
   mv 12 0 22,
   mv 13 5 3,
   iad 14 22 12 13,
   lda 15 9 14,
   ⟨some 16, .call ⟨.value (.tmp 11), #[.tmp 15], #[9]⟩, 4, none⟩]
abbrev r89_5 : List VOp :=
  [mv 17 5 3,
   asg 4 17 3]
abbrev r89_6 : List VOp :=
  [zK 18 8 1,
   mv 8 18 3]
abbrev r89_7 : List VOp :=
  [⟨some 4, .assign (.const (.int .i64 (-1))), 3, none⟩]
def B89 : VC :=
  (.seq (.region r89_0) (.seq (.seq (.region r89_1) (.block 0 (.loop (.seq (.region r89_2) (.seq (.cond (.tmp 9) .skip (.exit 0)) (.seq (.block 1 (.seq (.region r89_3) (.seq (.region r89_4) (.cond (.tmp 16) (.seq (.region r89_5) .ret) .skip)))) (.region r89_6))))))) (.seq (.region r89_7) .ret)))
theorem code89 : ∃ c, Try.f89.body = some c ∧ abs Try.f89.ntmps c = B89 := ⟨_, rfl, by kernel_rfl⟩
theorem hb89 : HasBody Try.prog 89 := hasBody_of Try.func89 (by kernel_rfl)
theorem enter89 (x0 x1 : Value) : Ent 89 B89 #[(.tmp 4)] [x0, x1] := ent code89 hb89 Try.func89 rfl rfl
/-! 91 columbary/schema.Value$1 (params #[21], results #[(.tmp 2)], 9 slots) -/
abbrev r91_0 : List VOp :=
  [zD 2]
abbrev r91_1 : List VOp :=
  [mv 3 0 21,
   ⟨some 4, .binOp .lss 21 (.tmp 3) (.const (.int .i32 32)) 21, 4, none⟩,
   mv 5 4 4,
   zCJ 6 0 21 5,
   ⟨some 7, .binOp .gtr 21 (.tmp 6) (.const (.int .i32 126)) 21, 4, some (5, false)⟩,
   zCN 8 5 7,
   asg 2 8 4]
def B91 : VC :=
  (.seq (.region r91_0) (.seq (.region r91_1) .ret))
theorem code91 : ∃ c, Try.f91.body = some c ∧ abs Try.f91.ntmps c = B91 := ⟨_, rfl, by kernel_rfl⟩
theorem hb91 : HasBody Try.prog 91 := hasBody_of Try.func91 (by kernel_rfl)
theorem enter91 (x0 : Value) : Ent 91 B91 #[(.tmp 2)] [x0] := ent code91 hb91 Try.func91 rfl rfl
/-! 92 slices.IndexFunc[[]int,int] (params #[39, 128], results #[(.tmp 4)], 19 slots) -/
@[push_cast] def W92_0 : List Nat := [4, 5, 8, 9, 10, 11, 12, 13, 14, 15, 16, 17, 18]
abbrev r92_0 : List VOp :=
  [zF 4 0 3]
abbrev r92_1 : List VOp :=
  [mv 6 0 39,
   zBO 7 6 39,
   zCI 8]
abbrev r92_2 : List VOp :=
  [zY 9 8 7 0]
abbrev r92_3 : List VOp :=
  [mv 10 8 3,
   asg 5 10 3]
abbrev r92_4 : List VOp :=
  [mv 11 1 128,
   mv 12 0 39,
   mv 13 5 3,
   iad 14 39 12 13,
   lda 15 3 14,
   ⟨some 16, .call ⟨.value (.tmp 11), #[.tmp 15], #[3]⟩, 4, none⟩]
abbrev r92_5 : List VOp :=
  [mv 17 5 3,
   asg 4 17 3]
abbrev r92_6 : List VOp :=
  [zK 18 8 1,
   mv 8 18 3]
abbrev r92_7 : List VOp :=
  [⟨some 4, .assign (.const (.int .i64 (-1))), 3, none⟩]
def B92 : VC :=
  (.seq (.region r92_0) (.seq (.seq (.region r92_1) (.block 0 (.loop (.seq (.region r92_2) (.seq (.cond (.tmp 9) .skip (.exit 0)) (.seq (.block 1 (.seq (.region r92_3) (.seq (.region r92_4) (.cond (.tmp 16) (.seq (.region r92_5) .ret) .skip)))) (.region r92_6))))))) (.seq (.region r92_7) .ret)))
theorem code92 : ∃ c, Try.f92.body = some c ∧ abs Try.f92.ntmps c = B92 := ⟨_, rfl, by kernel_rfl⟩
theorem hb92 : HasBody Try.prog 92 := hasBody_of Try.func92 (by kernel_rfl)
theorem enter92 (x0 x1 : Value) : Ent 92 B92 #[(.tmp 4)] [x0, x1] := ent code92 hb92 Try.func92 rfl rfl
@[push_cast] theorem bsl22_0_CodesJ {K : Value → World → Prop} {w : World}  : vBuildSlice Try.prog 22 0 #[] K w = K (.slice (some ⟨w.heap.size, 0, none⟩) 0 0) (w.alloc (.cells #[] 9)) :=
  vBuildSlice_ok Try.underlying22 ti9 (by kernel_rfl) (by decide)
@[push_cast] theorem bsl22_20_CodesJ {K : Value → World → Prop} {w : World} (x0 : ByteArray) (x1 : ByteArray) (x2 : ByteArray) (x3 : ByteArray) (x4 : ByteArray) (x5 : ByteArray) (x6 : ByteArray) (x7 : ByteArray) (x8 : ByteArray) (x9 : ByteArray) (x10 : ByteArray) (x11 : ByteArray) (x12 : ByteArray) (x13 : ByteArray) (x14 : ByteArray) (x15 : ByteArray) (x16 : ByteArray) (x17 : ByteArray) (x18 : ByteArray) (x19 : ByteArray) : vBuildSlice Try.prog 22 20 #[(0, (.string x0)), (1, (.string x1)), (2, (.string x2)), (3, (.string x3)), (4, (.string x4)), (5, (.string x5)), (6, (.string x6)), (7, (.string x7)), (8, (.string x8)), (9, (.string x9)), (10, (.string x10)), (11, (.string x11)), (12, (.string x12)), (13, (.string x13)), (14, (.string x14)), (15, (.string x15)), (16, (.string x16)), (17, (.string x17)), (18, (.string x18)), (19, (.string x19))] K w = K (.slice (some ⟨w.heap.size, 0, none⟩) 20 20) (w.alloc (.cells #[(.string x0), (.string x1), (.string x2), (.string x3), (.string x4), (.string x5), (.string x6), (.string x7), (.string x8), (.string x9), (.string x10), (.string x11), (.string x12), (.string x13), (.string x14), (.string x15), (.string x16), (.string x17), (.string x18), (.string x19)] 9)) :=
  vBuildSlice_ok Try.underlying22 ti9 (by kernel_rfl) (by decide)
@[push_cast] theorem bsl25_0_CodesJ {K : Value → World → Prop} {w : World}  : vBuildSlice Try.prog 25 0 #[] K w = K (.slice (some ⟨w.heap.size, 0, none⟩) 0 0) (w.alloc (.cells #[] 5)) :=
  vBuildSlice_ok Try.underlying25 ti5 (by kernel_rfl) (by decide)
@[push_cast] theorem bsl25_1_CodesJ {K : Value → World → Prop} {w : World} (x0 : Int) : vBuildSlice Try.prog 25 1 #[(0, (.int .u8 x0))] K w = K (.slice (some ⟨w.heap.size, 0, none⟩) 1 1) (w.alloc (.cells #[(.int .u8 x0)] 5)) :=
  vBuildSlice_ok Try.underlying25 ti5 (by kernel_rfl) (by decide)
@[push_cast] theorem bsl25_4_CodesJ {K : Value → World → Prop} {w : World} (x0 : Int) (x1 : Int) (x2 : Int) (x3 : Int) : vBuildSlice Try.prog 25 4 #[(0, (.int .u8 x0)), (1, (.int .u8 x1)), (2, (.int .u8 x2)), (3, (.int .u8 x3))] K w = K (.slice (some ⟨w.heap.size, 0, none⟩) 4 4) (w.alloc (.cells #[(.int .u8 x0), (.int .u8 x1), (.int .u8 x2), (.int .u8 x3)] 5)) :=
  vBuildSlice_ok Try.underlying25 ti5 (by kernel_rfl) (by decide)
@[push_cast] theorem bsl76_1_CodesJ {K : Value → World → Prop} {w : World} (x0o : Option Addr) (x0n x0c : Nat) : vBuildSlice Try.prog 76 1 #[(0, (.slice x0o x0n x0c))] K w = K (.slice (some ⟨w.heap.size, 0, none⟩) 1 1) (w.alloc (.cells #[(.slice x0o x0n x0c)] 25)) :=
  vBuildSlice_ok Try.underlying76 ti25 (by kernel_rfl) (by decide)
@[push_cast] theorem bsl76_2_CodesJ {K : Value → World → Prop} {w : World} (x0o : Option Addr) (x0n x0c : Nat) (x1o : Option Addr) (x1n x1c : Nat) : vBuildSlice Try.prog 76 2 #[(0, (.slice x0o x0n x0c)), (1, (.slice x1o x1n x1c))] K w = K (.slice (some ⟨w.heap.size, 0, none⟩) 2 2) (w.alloc (.cells #[(.slice x0o x0n x0c), (.slice x1o x1n x1c)] 25)) :=
  vBuildSlice_ok Try.underlying76 ti25 (by kernel_rfl) (by decide)
@[push_cast] theorem bld66_0_1_2_CodesJ {K : Value → World → Prop} {w : World} (x0 : Int) (x1 : Int) (x2 : Option Nat) : vBuild Try.prog 66 #[(0, (.int .i64 x0)), (1, (.int .i64 x1)), (2, (.map x2))] K w = K (.agg #[(.int .i64 x0), (.int .i64 x1), (.map x2)]) w :=
  vBuild_ok (by kernel_rfl)
@[push_cast] theorem bld70_0_1_CodesJ {K : Value → World → Prop} {w : World} (x0o : Option Addr) (x0n x0c : Nat) (x1 : Int) : vBuild Try.prog 70 #[(0, (.slice x0o x0n x0c)), (1, (.int .i64 x1))] K w = K (.agg #[(.slice x0o x0n x0c), (.int .i64 x1)]) w :=
  vBuild_ok (by kernel_rfl)
@[push_cast] theorem bld105_0_CodesJ {K : Value → World → Prop} {w : World} (x0o : Option Addr) (x0n x0c : Nat) : vBuild Try.prog 105 #[(0, (.slice x0o x0n x0c))] K w = K (.agg #[(.slice x0o x0n x0c), (.int .i64 0), (.bool false)]) w :=
  vBuild_ok (by kernel_rfl)
@[push_cast] theorem bld111_0_CodesJ {K : Value → World → Prop} {w : World} (x0o : Option Addr) (x0n x0c : Nat) : vBuild Try.prog 111 #[(0, (.slice x0o x0n x0c))] K w = K (.agg #[(.slice x0o x0n x0c)]) w :=
  vBuild_ok (by kernel_rfl)
end Go.Proofs.Ytcajkjbempagaaa
end
section
namespace Go.Proofs.Ytcajkjbempagaaa
end Go.Proofs.Ytcajkjbempagaaa
end
section
namespace Go.Vc
theorem ofInt_nat (n : Nat) (w : Nat) : BitVec.ofInt w (n : Int) = BitVec.ofNat w n := by
  apply BitVec.eq_of_toNat_eq
  simp [BitVec.toNat_ofInt]
theorem wrap_u64_nat {n : Nat} (h : n < 18446744073709551616) : IntKind.u64.wrap (n : Int) = n := wrap_u64 (by omega)
theorem bitI_and64 (a b : Int) : bitI .and .u64 a b = IntKind.u64.wrap ((BitVec.ofInt 64 a &&& BitVec.ofInt 64 b).toNat : Int) := rfl
theorem bitI_or64 (a b : Int) : bitI .or .u64 a b = IntKind.u64.wrap ((BitVec.ofInt 64 a ||| BitVec.ofInt 64 b).toNat : Int) := rfl
theorem bitI_xor64 (a b : Int) : bitI .xor .u64 a b = IntKind.u64.wrap ((BitVec.ofInt 64 a ^^^ BitVec.ofInt 64 b).toNat : Int) := rfl
theorem bitI_xori (a b : Int) : bitI .xor .i64 a b = IntKind.i64.wrap ((BitVec.ofInt 64 a ^^^ BitVec.ofInt 64 b).toNat : Int) := rfl
theorem bit_u64_and (a b : Nat) (ha : a < 18446744073709551616) : bitI .and .u64 a b = ((a &&& b : Nat) : Int) := by
  have h1 : a &&& b ≤ a := Nat.and_le_left
  rw [bitI_and64]
  simp only [ofInt_nat, BitVec.toNat_and, BitVec.toNat_ofNat]
  rw [← Nat.and_mod_two_pow, Nat.mod_eq_of_lt (by omega)]
  exact wrap_u64_nat (by omega)
theorem bit_u64_or (a b : Nat) (ha : a < 18446744073709551616) (hb : b < 18446744073709551616) : bitI .or .u64 a b = ((a ||| b : Nat) : Int) := by
  have h1 : a ||| b < 2 ^ 64 := Nat.or_lt_two_pow ha hb
  rw [bitI_or64]
  simp only [ofInt_nat, BitVec.toNat_or, BitVec.toNat_ofNat]
  rw [Nat.mod_eq_of_lt (show a < 2 ^ 64 by omega), Nat.mod_eq_of_lt (show b < 2 ^ 64 by omega)]
  exact wrap_u64_nat (by omega)
theorem bit_u64_xor (a b : Nat) (ha : a < 18446744073709551616) (hb : b < 18446744073709551616) : bitI .xor .u64 a b = ((a ^^^ b : Nat) : Int) := by
  have h1 : a ^^^ b < 2 ^ 64 := Nat.xor_lt_two_pow ha hb
  rw [bitI_xor64]
  simp only [ofInt_nat, BitVec.toNat_xor, BitVec.toNat_ofNat]
  rw [Nat.mod_eq_of_lt (show a < 2 ^ 64 by omega), Nat.mod_eq_of_lt (show b < 2 ^ 64 by omega)]
  exact wrap_u64_nat (by omega)
theorem xor_u64_zero (a : Int) (ha : 0 ≤ a ∧ a < 18446744073709551616) : bitI .xor .u64 a 0 = a := by
  obtain ⟨n, rfl⟩ := Int.eq_ofNat_of_zero_le ha.1
  have := bit_u64_xor n 0 (by omega) (by omega)
  simpa using this
theorem xor_u64_ones (a : Int) (ha : 0 ≤ a ∧ a < 18446744073709551616) : bitI .xor .u64 a 18446744073709551615 = 18446744073709551615 - a := by
  obtain ⟨n, rfl⟩ := Int.eq_ofNat_of_zero_le ha.1
  have h := bit_u64_xor n 18446744073709551615 (by omega) (by omega)
  have e : n ^^^ 18446744073709551615 = 18446744073709551615 - n := by
    have h1 : (BitVec.ofNat 64 n ^^^ BitVec.allOnes 64).toNat = (~~~(BitVec.ofNat 64 n)).toNat := by rw [BitVec.xor_allOnes]
    simp only [BitVec.toNat_xor, BitVec.toNat_ofNat, BitVec.toNat_allOnes, BitVec.toNat_not] at h1
    rw [Nat.mod_eq_of_lt (show n < 2 ^ 64 by omega)] at h1
    simpa using h1
  rw [e] at h
  have : ((18446744073709551615 : Nat) : Int) = 18446744073709551615 := rfl
  rw [this] at h
  rw [h]; omega
theorem xor_i64_zero (a : Int) (ha : -9223372036854775808 ≤ a ∧ a ≤ 9223372036854775807) : bitI .xor .i64 a 0 = a := by
  rw [bitI_xori]
  have : BitVec.ofInt 64 0 = 0#64 := rfl
  rw [this, BitVec.xor_zero, BitVec.toNat_ofInt]
  simp only [IntKind.wrap_i64]
  omega
theorem xor_i64_ones (a : Int) (ha : -9223372036854775808 ≤ a ∧ a ≤ 9223372036854775807) : bitI .xor .i64 a (-1) = -a - 1 := by
  rw [bitI_xori]
  have : BitVec.ofInt 64 (-1) = BitVec.allOnes 64 := rfl
  rw [this, BitVec.xor_allOnes, BitVec.toNat_not, BitVec.toNat_ofInt]
  simp only [IntKind.wrap_i64]
  omega
theorem b8_andNot : ∀ c : Fin 256, bitI .andNot .u8 (c.val : Int) 128 = ((c.val % 128 : Nat) : Int) := by decide +kernel
theorem b8_and : ∀ c : Fin 256, bitI .and .u8 (c.val : Int) 128 = if c.val < 128 then 0 else 128 := by decide +kernel
theorem b8_or : ∀ c : Fin 128, bitI .or .u8 (c.val : Int) 128 = ((c.val + 128 : Nat) : Int) := by decide +kernel
theorem andNot_byte (c : UInt8) : bitI .andNot .u8 (c.toNat : Int) 128 = ((c.toNat % 128 : Nat) : Int) := b8_andNot ⟨c.toNat, c.toNat_lt⟩
theorem and_byte (c : UInt8) : bitI .and .u8 (c.toNat : Int) 128 = if c.toNat < 128 then 0 else 128 := b8_and ⟨c.toNat, c.toNat_lt⟩
theorem or_byte (n : Nat) (h : n < 128) : bitI .or .u8 (n : Int) 128 = ((n + 128 : Nat) : Int) := b8_or ⟨n, h⟩
theorem or_shift7 (u x : Nat) (hu : u < 144115188075855872) (hx : x < 128) : bitI .or .u64 ((u * 128 : Nat) : Int) (x : Int) = ((u * 128 + x : Nat) : Int) := by
  rw [bit_u64_or _ _ (by omega) (by omega)]
  have := Nat.two_pow_add_eq_or_of_lt (i := 7) (b := x) hx u
  rw [Nat.mul_comm u 128]
  rw [show (128 : Nat) = 2 ^ 7 from rfl, this]
theorem low7 (c : UInt8) : bitI .andNot .u8 (c.toNat : Int) 128 = (c.toNat : Int) % 128 := by rw [andNot_byte]; omega
theorem top8 (c : UInt8) : bitI .and .u8 (c.toNat : Int) 128 = (c.toNat : Int) / 128 * 128 := by
  rw [and_byte]; have := c.toNat_lt; split <;> omega
theorem cat7 (u : Nat) (c : UInt8) (hu : (u : Int) < 144115188075855872) : bitI .or .u64 ((u : Int) * 128) ((c.toNat : Int) % 128) = (u : Int) * 128 + (c.toNat : Int) % 128 := by
  have := or_shift7 u (c.toNat % 128) (by omega) (by omega)
  push_cast at this
  exact this
end Go.Vc
end
section
namespace Go.Vc
open Go.RowKit
/-! ### worlds that have only grown -/
theorem Later.size {w w' : World} (h : Later w w') : w.heap.size ≤ w'.heap.size := Below.size h
theorem Later.alloc {w w' : World} (h : Later w w') (o : Obj) : Later w (w'.alloc o) := Below.alloc h (Below.size h) o
theorem later_alloc (w : World) (o : Obj) : Later w (w.alloc o) := (Later.refl w).alloc o
theorem Later.grown {w w1 w' : World} {row : Option Nat} (h : Later w w1) (hg : w1.grownBy w' row) (hr : ∀ k, row = some k → w.heap.size ≤ k) : Later w w' := Below.grown h hg (Below.size h) hr
theorem Later.frozen {w w' : World} (h : Later w w') {a : Addr} (ha : a.block < w.heap.size) : w'.frozen? a = w.frozen? a := Below.frozen h ha
theorem Later.heap {w w' : World} (h : Later w w') {b : Nat} (hb : b < w.heap.size) : w'.heap[b]? = w.heap[b]? := h.block b hb
/-! ### addresses -/
theorem addr_add_add (a : Addr) (m n : Nat) : (a.add m).add n = a.add (m + n) := by
  unfold Addr.add
  by_cases h1 : m = 0
  · subst h1; simp
  · by_cases h2 : n = 0
    · subst h2; simp [h1]
    · have : ¬ m + n = 0 := by omega
      simp [h1, h2, this, Nat.add_assoc]
theorem addr_add_block (a : Addr) (n : Nat) : (a.add n).block = a.block := by unfold Addr.add; split <;> rfl
theorem addr_add_eq (b o n : Nat) : (⟨b, o, none⟩ : Addr).add n = ⟨b, o + n, none⟩ := by unfold Addr.add; split <;> simp_all
theorem lt_of_cell {w : World} {a : Addr} {v : Value} (h : w.cell? a = some v) : a.block < w.heap.size := World.block_lt_of_cell? w a h
/-! ### slices that read as lists of cells: n elements of s cells each -/
def SlN (w : World) (s : Nat) (v : Value) (n : Nat) (xs : List Value) : Prop :=
  xs.length = n * s ∧ ((v = .slice none 0 0 ∧ n = 0) ∨ ∃ a c, v = .slice (some a) n c ∧ n ≤ c ∧ c ≤ maxLen ∧ ∀ i x, xs[i]? = some x → w.cell? (a.add i) = some x)
def Sl (w : World) (v : Value) (xs : List Value) : Prop := SlN w 1 v xs.length xs
theorem SlN.nil (w : World) (s : Nat) : SlN w s (.slice none 0 0) 0 [] := ⟨by simp, .inl ⟨rfl, rfl⟩⟩
theorem Sl.nil (w : World) : Sl w (.slice none 0 0) [] := SlN.nil w 1
theorem SlN.later {w w' : World} {s n : Nat} {v : Value} {xs : List Value} (h : SlN w s v n xs) (hl : Later w w') : SlN w' s v n xs := by
  obtain ⟨h0, h⟩ := h
  refine ⟨h0, ?_⟩
  rcases h with h | ⟨a, c, hv, h1, h2, h3⟩
  · exact .inl h
  · exact .inr ⟨a, c, hv, h1, h2, fun i x hx => hl.cell (h3 i x hx)⟩
theorem Sl.later {w w' : World} {v : Value} {xs : List Value} (h : Sl w v xs) (hl : Later w w') : Sl w' v xs := SlN.later h hl
theorem SlN.open {w : World} {s n : Nat} {v : Value} {xs : List Value} (h : SlN w s v n xs) : ∃ o c, v = .slice o n c ∧ n ≤ c ∧ c ≤ maxLen ∧ xs.length = n * s ∧ (o = none → n = 0 ∧ c = 0) ∧ (∀ a, o = some a → ∀ i x, xs[i]? = some x → w.cell? (a.add i) = some x) := by
  obtain ⟨h0, h⟩ := h
  rcases h with ⟨rfl, rfl⟩ | ⟨a, c, rfl, h1, h2, h3⟩
  · exact ⟨none, 0, rfl, Nat.le_refl _, Nat.zero_le _, h0, fun _ => ⟨rfl, rfl⟩, by intro a ha; cases ha⟩
  · exact ⟨some a, c, rfl, h1, h2, h0, (fun h => by cases h), by intro a' ha; cases ha; exact h3⟩
theorem Sl.open {w : World} {v : Value} {xs : List Value} (h : Sl w v xs) : ∃ o c, v = .slice o xs.length c ∧ xs.length ≤ c ∧ c ≤ maxLen ∧ (o = none → xs = [] ∧ c = 0) ∧ (∀ a, o = some a → ∀ i x, xs[i]? = some x → w.cell? (a.add i) = some x) := by
  obtain ⟨o, c, hv, h1, h2, h3, h4, h5⟩ := SlN.open h
  exact ⟨o, c, hv, h1, h2, fun ho => ⟨List.eq_nil_of_length_eq_zero (h4 ho).1, (h4 ho).2⟩, h5⟩
theorem SlN.mk {w : World} {s : Nat} {o : Option Addr} {xs : List Value} {n c : Nat} (hn : xs.length = n * s) (h1 : n ≤ c) (h2 : c ≤ maxLen) (h0 : o = none → n = 0 ∧ c = 0) (h3 : ∀ a, o = some a → ∀ i x, xs[i]? = some x → w.cell? (a.add i) = some x) : SlN w s (.slice o n c) n xs := by
  refine ⟨hn, ?_⟩
  cases o with
  | none => obtain ⟨rfl, rfl⟩ := h0 rfl; exact .inl ⟨rfl, rfl⟩
  | some a => exact .inr ⟨a, c, rfl, h1, h2, h3 a rfl⟩
theorem SlN.len {w : World} {s : Nat} {a : Option Addr} {xs : List Value} {n n' c : Nat} (h : SlN w s (.slice a n c) n' xs) : n = n' ∧ n ≤ c ∧ c ≤ maxLen ∧ xs.length = n * s ∧ (a = none → n = 0 ∧ c = 0) := by
  obtain ⟨o, c', hv, h1, h2, h0, h3, _⟩ := h.open
  simp only [Value.slice.injEq] at hv
  obtain ⟨rfl, rfl, rfl⟩ := hv
  exact ⟨rfl, h1, h2, h0, h3⟩
theorem SlN.at {w : World} {s : Nat} {a : Addr} {xs : List Value} {n n' c : Nat} (h : SlN w s (.slice (some a) n c) n' xs) {i : Nat} {x : Value} (hx : xs[i]? = some x) : w.cell? (a.add i) = some x := by
  obtain ⟨o, c', hv, h1, h2, h0, _, h3⟩ := h.open
  simp only [Value.slice.injEq] at hv
  obtain ⟨rfl, rfl, rfl⟩ := hv
  exact h3 a rfl i x hx
theorem SlN.sub {w : World} {s : Nat} {a : Option Addr} {xs : List Value} {n n' c : Nat} (h : SlN w s (.slice a n c) n' xs) {l k m : Nat} (hl : l ≤ k) (hk : k ≤ n) (hm : k ≤ m) (hc : m ≤ c) :
    SlN w s (.slice (if m = l then a else a.map (·.add (l * s))) (k - l) (m - l)) (k - l) ((xs.take (k * s)).drop (l * s)) := by
  obtain ⟨rfl, h1, h2, h3, h0⟩ := h.len
  have hks : k * s ≤ n * s := Nat.mul_le_mul_right _ hk
  have hls : l * s ≤ k * s := Nat.mul_le_mul_right _ hl
  refine SlN.mk (by simp [Nat.sub_mul]; omega) (by omega) (by omega) ?_ ?_
  · intro ho
    have ha : a = none := by
      split at ho
      · exact ho
      · cases a with | none => rfl | some _ => cases ho
    obtain ⟨rfl, rfl⟩ := h0 ha
    omega
  · intro b hb i x hx
    rw [List.getElem?_drop, List.getElem?_take] at hx
    split at hx
    · rename_i hlt
      split at hb
      · rename_i e
        have : k = l := by omega
        subst this; omega
      · cases a with
        | none => cases hb
        | some a =>
          simp only [Option.map_some, Option.some.injEq] at hb
          subst hb
          rw [addr_add_add]
          exact h.at hx
    · cases hx
theorem SlN.part {w : World} {s : Nat} {a : Option Addr} {xs : List Value} {n n' c : Nat} (h : SlN w s (.slice a n c) n' xs) {l k m : Int} (h0 : 0 ≤ l) (hl : l ≤ k) (hk : k ≤ n) (hm : k ≤ m) (hc : m ≤ c) :
    SlN w s (.slice (slAddr a l m s) (k - l).toNat (m - l).toNat) (k - l).toNat ((xs.take (k.toNat * s)).drop (l.toNat * s)) := by
  have := h.sub (l := l.toNat) (k := k.toNat) (m := m.toNat) (by omega) (by omega) (by omega) (by omega)
  have e1 : (m.toNat = l.toNat) = (m = l) := by rw [eq_iff_iff]; omega
  have e2 : (k - l).toNat = k.toNat - l.toNat := by omega
  have e3 : (m - l).toNat = m.toNat - l.toNat := by omega
  unfold slAddr
  rw [e2, e3]
  simpa only [e1] using this
theorem Sl.len {w : World} {a : Option Addr} {xs : List Value} {n c : Nat} (h : Sl w (.slice a n c) xs) : n = xs.length ∧ n ≤ c ∧ c ≤ maxLen ∧ (a = none → xs = [] ∧ c = 0) := by
  obtain ⟨h1, h2, h3, h4, h5⟩ := SlN.len h
  refine ⟨h1, h2, h3, fun ha => ⟨List.eq_nil_of_length_eq_zero ?_, (h5 ha).2⟩⟩
  rw [h4, (h5 ha).1]
theorem Sl.at {w : World} {a : Addr} {xs : List Value} {n c : Nat} (h : Sl w (.slice (some a) n c) xs) {i : Nat} {x : Value} (hx : xs[i]? = some x) : w.cell? (a.add i) = some x := SlN.at h hx
theorem Sl.part {w : World} {a : Option Addr} {xs : List Value} {n c : Nat} (h : Sl w (.slice a n c) xs) {l k m : Int} (h0 : 0 ≤ l) (hl : l ≤ k) (hk : k ≤ n) (hm : k ≤ m) (hc : m ≤ c) :
    Sl w (.slice (slAddr a l m 1) (k - l).toNat (m - l).toNat) ((xs.take k.toNat).drop l.toNat) := by
  have hn := h.len.1
  have := SlN.part h h0 hl hk hm hc
  unfold Sl
  have e : ((xs.take k.toNat).drop l.toNat).length = (k - l).toNat := by simp; omega
  rw [e]
  simpa using this
theorem SlN.full {w : World} {s : Nat} {a : Option Addr} {xs : List Value} {n n' c : Nat} (h : SlN w s (.slice a n c) n' xs) : SlN w s (.slice a n n) n' xs := by
  obtain ⟨rfl, h1, h2, h3, h0⟩ := h.len
  exact SlN.mk h3 (Nat.le_refl _) (by omega) (fun ha => ⟨(h0 ha).1, (h0 ha).1⟩) (fun b hb i x hx => by subst hb; exact h.at hx)
theorem Sl.full {w : World} {a : Option Addr} {xs : List Value} {n c : Nat} (h : Sl w (.slice a n c) xs) : Sl w (.slice a n n) xs := SlN.full h
theorem SlN.of_own {w : World} {base s : Nat} {e : TypeId} {v : Value} {n : Nat} {xs : List Value} (h : w.ownsRow base e s v n xs) : SlN w s v n xs := by
  obtain ⟨hl, h⟩ := h
  refine ⟨hl, ?_⟩
  rcases h with ⟨rfl, rfl⟩ | ⟨g, cap, cur, rfl, hb, hh, h1, h2, h3, h4⟩
  · exact .inl ⟨rfl, rfl⟩
  · refine .inr ⟨⟨g, 0, none⟩, cap, rfl, h1, h2, fun i x hx => ?_⟩
    rw [addr_add_eq, Nat.zero_add]
    have hi : i < n * s := by have := (List.getElem?_eq_some_iff.1 hx).1; omega
    simp only [World.cell?, hh]
    rw [← h4, List.getElem?_take, if_pos hi] at hx
    simpa using hx
theorem Sl.of_own {w : World} {base : Nat} {e : TypeId} {v : Value} {n : Nat} {xs : List Value} (h : w.ownsRow base e 1 v n xs) : Sl w v xs := by
  have := SlN.of_own h
  have e : n = xs.length := by have := h.1; omega
  subst e; exact this
theorem own_n {w : World} {base : Nat} {e : TypeId} {v : Value} {n : Nat} {xs : List Value} (h : w.ownsRow base e 1 v n xs) : n = xs.length := by have := h.1; omega
theorem own_later {w w' : World} {base s : Nat} {e : TypeId} {v : Value} {n : Nat} {xs : List Value} (h : w.ownsRow base e s v n xs) (hl : Later w w') : w'.ownsRow base e s v n xs := by
  obtain ⟨h0, h⟩ := h
  refine ⟨h0, ?_⟩
  rcases h with h | ⟨g, cap, cur, hv, hb, hh, h⟩
  · exact .inl h
  · exact .inr ⟨g, cap, cur, hv, hb, (hl.heap (Array.getElem?_eq_some_iff.1 hh).1).trans hh, h⟩
theorem own_base {w : World} {base base' s : Nat} {e : TypeId} {v : Value} {n : Nat} {xs : List Value} (h : w.ownsRow base e s v n xs) (hb : base' ≤ base) : w.ownsRow base' e s v n xs := by
  obtain ⟨h0, h⟩ := h
  refine ⟨h0, ?_⟩
  rcases h with h | ⟨g, cap, cur, hv, hb', hh⟩
  · exact .inl h
  · exact .inr ⟨g, cap, cur, hv, Nat.le_trans hb hb', hh⟩
/-! ### append -/
theorem heap_new_drew (w : World) (o : Obj) : (w.drew.alloc o).heap[w.heap.size]? = some o := by
  show (w.heap.push o)[w.heap.size]? = _
  simp
theorem heap_old_drew (w : World) (o : Obj) (k : Nat) (hk : k < w.heap.size) : (w.drew.alloc o).heap[k]? = w.heap[k]? := by
  show (w.heap.push o)[k]? = _
  rw [Array.getElem?_push, if_neg (by omega)]
section
variable {P : Program} {w : World} {K : Value → World → Prop} {t e ty : TypeId} {z : Value} {s b : Nat}
theorem run_append_nil_src (ht : P.underlying t = some (.slice e)) (hi : (P.info? e).map (fun i => (i.zero, i.size, i.bytes)) = some (some z, s, b)) (o : Option Addr) (n c : Nat) (hn : n ≤ c) (ho : o = none → n = 0) :
    (Builtin.append_ #[t, t] ty #[.slice o n c, .slice none 0 0]).run P w = .ok (.slice o n c) w := by
  obtain ⟨i, hi1, _, _, _⟩ := info_parts hi
  cases o with
  | none => simp [Builtin.append_, run_underlying ht, sizeOf, typeInfo, hi1, Builtin.lenOf, Builtin.firstCells, hn]
  | some a => simp [Builtin.append_, run_underlying ht, sizeOf, typeInfo, hi1, Builtin.lenOf, Builtin.firstCells, hn, storeCells]
theorem vAppend_own (ht : P.underlying t = some (.slice e)) (hi : (P.info? e).map (fun i => (i.zero, i.size, i.bytes)) = some (some z, s, b)) (hzs : z.cells.size = s) (hsz : 0 < s)
    {base : Nat} {v x : Value} {n m : Nat} {xs news : List Value} (hown : w.ownsRow base e s v n xs) (hx : SlN w s x m news) (h1 : ∀ u ∈ news, u.oneCell' = true) (h63 : n + m ≤ maxLen) (hb : (n + m) * b ≤ 140737488355328) (hbase : base ≤ w.heap.size)
    (hK : ∀ v' w', w'.ownsRow base e s v' (n + m) (xs ++ news) → w.grownBy w' v.ownBlock → (v' = .slice none 0 0 ↔ v = .slice none 0 0 ∧ m = 0) → K v' w') : vAppend P #[t, t] ty #[v, x] K w := by
  obtain ⟨i, hi1, hz, hsi, hbi⟩ := info_parts hi
  unfold vAppend
  obtain ⟨hl, hx⟩ := hx
  rcases hx with ⟨rfl, rfl⟩ | ⟨a, c, rfl, hc1, hc2, hc3⟩
  · have hnews : news = [] := List.eq_nil_of_length_eq_zero (by simpa using hl)
    subst hnews
    have hsl := SlN.of_own hown
    obtain ⟨o, c, rfl, h1, h2, h3, h4, _⟩ := hsl.open
    rw [run_val_pure (run_append_nil_src ht hi o n c h1 (fun ho => (h4 ho).1))]
    refine hK _ _ (by simpa using hown) ⟨rfl, rfl, rfl, Nat.le_refl _, fun _ _ _ => rfl⟩ ?_
    constructor
    · intro h; exact ⟨h, rfl⟩
    · intro h; exact h.1
  · obtain ⟨v', w', hr, h2, h3, h4⟩ := run_append_own (P := P) w base t ty e i z s b ht hi1 hz hsi hbi hzs hsz v n xs hown a m c news hl hc3 h1 h63 hb hbase
    rw [run_val_pure hr]
    exact hK _ _ h2 h3 h4
theorem vAppend_full (ht : P.underlying t = some (.slice e)) (hi : (P.info? e).map (fun i => (i.zero, i.size, i.bytes)) = some (some z, s, b)) (hzs : z.cells.size = s)
    {base : Nat} {o : Option Addr} {x : Value} {n m : Nat} {xs news : List Value} (hv : SlN w s (.slice o n n) n xs) (hx : SlN w s x m news) (hm : 0 < m) (h63 : n + m ≤ maxLen) (hb : (n + m) * b ≤ 140737488355328) (hbase : base ≤ w.heap.size)
    (hK : ∀ v' w', w'.ownsRow base e s v' (n + m) (xs ++ news) → Later w w' → K v' w') : vAppend P #[t, t] ty #[.slice o n n, x] K w := by
  obtain ⟨i, hi1, hz, rfl, rfl⟩ := info_parts hi
  unfold vAppend
  obtain ⟨hl, hx⟩ := hx
  rcases hx with ⟨rfl, rfl⟩ | ⟨a, c, rfl, hc1, hc2, hc3⟩
  · omega
  have hsmall : n + m ≤ 9223372036854775807 := by simp only [maxLen] at h63; omega
  obtain ⟨_, _, hnm, hxl, h0⟩ := hv.len
  have grown : ∀ (old : Nat), (w.drew.alloc (.cells (xs.toArray ++ news.toArray ++ Builtin.zeroCells z.cells (grownCap w (n + m) old e - (n + m))) e)).ownsRow base e i.size
        (.slice (some ⟨w.heap.size, 0, none⟩) (n + m) (grownCap w (n + m) old e)) (n + m) (xs ++ news) ∧
      Later w (w.drew.alloc (.cells (xs.toArray ++ news.toArray ++ Builtin.zeroCells z.cells (grownCap w (n + m) old e - (n + m))) e)) := by
    intro old
    have hge := grownCap_ge w (n + m) old e
    have hcm : grownCap w (n + m) old e ≤ maxLen := grownCap_le_maxLen w (n + m) old e h63
    refine ⟨⟨by rw [List.length_append, hxl, hl, Nat.add_mul], .inr ⟨w.heap.size, _, _, rfl, hbase, heap_new_drew w _, hge, hcm, ?_, ?_⟩⟩, ⟨rfl, rfl, rfl, by simp, fun k hk => heap_old_drew w _ k hk⟩⟩
    · simp only [Array.size_append, List.size_toArray, size_zeroCells, hzs, hxl, hl, ← Nat.add_mul]
      congr 1
      omega
    · simp only [Array.toList_append, List.append_assoc]
      rw [← List.append_assoc]
      have : (n + m) * i.size = (xs ++ news).length := by rw [List.length_append, hxl, hl, Nat.add_mul]
      rw [this]
      exact List.take_left
  cases o with
  | none =>
    obtain ⟨rfl, _⟩ := h0 rfl
    have hxs : xs = [] := List.eq_nil_of_length_eq_zero (by simpa using hxl)
    subst hxs
    have hr := run_append_nil (P := P) w t ty e i z ht hi1 hz a m c news hl hc3 (by omega) (by omega) (by have hb := hb; simp only [Nat.zero_add] at hb; omega)
    have hg := grown 0
    simp only [Nat.zero_add, List.nil_append, Array.empty_append] at hg
    rw [run_val_pure hr]
    exact hK _ _ (by simpa using hg.1) hg.2
  | some ad =>
    have hr := run_append_grow (P := P) w t ty e i z ht hi1 hz ad n n xs hxl (fun j u hu => hv.at hu) a m c news hl hc3 (by omega) (by omega) (growslice_fits (by omega) hb)
    have hg := grown n
    rw [run_val_pure hr]
    exact hK _ _ hg.1 hg.2
end
theorem heap_new (w : World) (o : Obj) : (w.alloc o).heap[w.heap.size]? = some o := by
  show (w.heap.push o)[w.heap.size]? = _
  simp
theorem SlN.lit (w : World) (l : List Value) (e : TypeId) (s n : Nat) (h : l.length = n * s) (hn : n ≤ maxLen) : SlN (w.alloc (.cells l.toArray e)) s (.slice (some ⟨w.heap.size, 0, none⟩) n n) n l := by
  refine SlN.mk h (Nat.le_refl _) hn (fun h => by cases h) ?_
  intro a ha i x hx
  simp only [Option.some.injEq] at ha
  subst ha
  rw [addr_add_eq, Nat.zero_add]
  have : (w.alloc (.cells l.toArray e)).heap[w.heap.size]? = some (.cells l.toArray e) := heap_new w _
  simp only [World.cell?, this]
  simpa using hx
theorem Sl.lit (w : World) (l : List Value) (e : TypeId) (hn : l.length ≤ maxLen) : Sl (w.alloc (.cells l.toArray e)) (.slice (some ⟨w.heap.size, 0, none⟩) l.length l.length) l := SlN.lit w l e 1 l.length (by simp) hn
theorem Sl.one (w : World) (x : Value) (e : TypeId) : Sl (w.alloc (.cells #[x] e)) (.slice (some ⟨w.heap.size, 0, none⟩) 1 1) [x] := Sl.lit w [x] e (by unfold maxLen; simp)
theorem own_nil (w : World) (base : Nat) (e : TypeId) (s : Nat) : w.ownsRow base e s (.slice none 0 0) 0 [] := World.ownsRow_nil w base e s
theorem own_alloc {w : World} {base s : Nat} {e : TypeId} {v : Value} {n : Nat} {xs : List Value} (h : w.ownsRow base e s v n xs) (o : Obj) : (w.alloc o).ownsRow base e s v n xs := World.ownsRow.alloc h o
theorem Later.appended {w w2 w' : World} {base s n : Nat} {e : TypeId} {v : Value} {xs : List Value} (hl : Later w w2) (hown : w2.ownsRow base e s v n xs) (hb : w.heap.size ≤ base) (hg : w2.grownBy w' v.ownBlock) : Later w w' :=
  hl.grown hg fun k hk => by have := (World.ownsRow.lt hown) k hk; omega
theorem vAppend_one {P : Program} {w : World} {K : Value → World → Prop} {t e ty : TypeId} {z : Value} {b : Nat} (ht : P.underlying t = some (.slice e)) (hi : (P.info? e).map (fun i => (i.zero, i.size, i.bytes)) = some (some z, 1, b)) (hzs : z.cells.size = 1)
    {base : Nat} {v x : Value} {n : Nat} {xs : List Value} (hown : w.ownsRow base e 1 v n xs) (h1 : x.oneCell' = true) (h63 : n + 1 ≤ maxLen) (hb : (n + 1) * b ≤ 140737488355328) (hbase : base ≤ w.heap.size)
    (hK : ∀ v' w', w'.ownsRow base e 1 v' (n + 1) (xs ++ [x]) → (∀ w0, Later w0 w → w0.heap.size ≤ base → Later w0 w') → K v' w') : vAppend P #[t, t] ty #[v, .slice (some ⟨w.heap.size, 0, none⟩) 1 1] K (w.alloc (.cells #[x] e)) := by
  refine vAppend_own ht hi hzs (by omega) (own_alloc hown _) (Sl.one w x e) (by simpa using h1) h63 hb (by simp; omega) ?_
  intro v' w' ho hg _
  exact hK v' w' ho fun w0 hl hb => (hl.alloc _).appended (own_alloc hown _) hb hg
/-! ### bytes and texts -/
def u8v (c : UInt8) : Value := .int .u8 c.toNat
theorem u8vs_one (l : List UInt8) : ∀ u ∈ l.map u8v, u.oneCell' = true := by
  intro u hu
  obtain ⟨c, _, rfl⟩ := List.mem_map.1 hu
  rfl
def strOf (l : List UInt8) : ByteArray := ⟨l.toArray⟩
theorem strOf_inj {a b : List UInt8} : strOf a = strOf b ↔ a = b := by
  constructor
  · intro h; have := congrArg (fun x : ByteArray => x.data.toList) h; simpa [strOf] using this
  · intro h; rw [h]
theorem strOf_size (l : List UInt8) : (strOf l).size = l.length := rfl
theorem strOf_data (s : ByteArray) : strOf s.data.toList = s := by cases s; rfl
section
variable {P : Program} {w : World} {K : Value → World → Prop}
theorem cellsAt_of (n : Nat) : ∀ (a : Addr) (xs : List Value), xs.length = n → (∀ i x, xs[i]? = some x → w.cell? (a.add i) = some x) → cellsAt w a n = some xs := by
  induction n with
  | zero => intro a xs h _; simp [cellsAt, List.eq_nil_of_length_eq_zero h]
  | succ n ih =>
    intro a xs h hc
    cases xs with
    | nil => simp at h
    | cons x xs =>
      have h0 := hc 0 x rfl
      rw [addr_add_zero] at h0
      simp only [cellsAt, h0]
      rw [ih (a.add 1) xs (by simpa using h) (fun i y hy => by
        rw [addr_add_add, Nat.add_comm 1 i]; exact hc (i + 1) y (by simpa using hy))]
theorem foldl_push (l : List UInt8) : ∀ s : ByteArray, (l.map fun c => ((c.toNat : Nat) : Int)).foldl (fun r n => r.push (UInt8.ofNat n.toNat)) s = s ++ strOf l := by
  induction l with
  | nil => intro s; simp [strOf]; apply ByteArray.ext; simp
  | cons c l ih =>
    intro s
    simp only [List.map_cons, List.foldl_cons, Int.toNat_natCast, UInt8.ofNat_toNat]
    rw [ih]
    apply ByteArray.ext
    simp [strOf, ByteArray.data_append]
theorem run_conv_bytes {s d e : TypeId} (hs : P.underlying s = some (.slice e)) (hd : P.underlying d = some .string) (he : P.underlying e = some (.int .u8)) {v : Value} {l : List UInt8} (h : Sl w v (l.map u8v)) :
    (convert s d v).run P w = .ok (.string (strOf l)) w := by
  obtain ⟨o, c, rfl, h1, h2, h3, h4⟩ := h.open
  rw [run_convert_bytes_string w s d e o _ c hs he hd]
  cases o with
  | none =>
    obtain ⟨h5, _⟩ := h3 rfl
    have : l = [] := by simpa using h5
    subst this
    rfl
  | some a =>
    have hc : (loadCells a (l.map u8v).length).run P w = .ok ((l.map fun c => ((c.toNat : Nat) : Int)).map (Value.int .u8)).toArray w := by
      rw [run_loadCells' (cs := l.map u8v) (cellsAt_of _ a _ rfl (h4 a rfl))]
      simp [u8v, Function.comp_def]
    rw [run_bytesToString w a _ c _ hc, foldl_push]
    have : ByteArray.empty ++ strOf l = strOf l := by apply ByteArray.ext; simp [strOf, ByteArray.data_append]
    rw [this]
theorem vConv_bytes {s d e : TypeId} (hs : P.underlying s = some (.slice e)) (hd : P.underlying d = some .string) (he : P.underlying e = some (.int .u8)) {o : Option Addr} {n c : Nat} {l : List UInt8} (h : Sl w (.slice o n c) (l.map u8v)) (hk : K (.string (strOf l)) w) :
    vConvD P s d (some (.slice e)) (some .string) (.slice o n c) K w := by
  show vcUp P K ((val (convert s d (.slice o n c))).run P w)
  rw [run_val_pure (run_conv_bytes hs hd he h)]; exact hk
theorem qConv_bytes {s d e ty : TypeId} {x : Operand} {σ : Env} {K : Value → Prop} (hs : P.underlying s = some (.slice e)) (hd : P.underlying d = some .string) (he : P.underlying e = some (.int .u8)) {o : Option Addr} {n c : Nat} {l : List UInt8} (hx : ev σ x = .slice o n c) (h : Sl w (.slice o n c) (l.map u8v)) (hk : K (.string (strOf l))) :
    qConv P s d x ty σ (some (.slice e)) (some .string) (.slice o n c) K w := by
  unfold qConv
  refine ⟨.string (strOf l), fun w' hl => ?_, hk⟩
  have : exe P (.convert s d x) ty σ w' = .ok (.value (.string (strOf l))) w' := by
    unfold exe; simp only [execOp]
    rw [hx]; exact run_val_pure (run_conv_bytes hs hd he (h.later hl))
  rw [this]; exact ⟨rfl, rfl⟩
theorem vAppend_str {t u e ty : TypeId} (ht : P.underlying t = some (.slice e)) (hu : P.underlying u = some .string) (hi : (P.info? e).map (fun i => (i.zero, i.size, i.bytes)) = some (some (.int .u8 0), 1, 1))
    {base : Nat} {v : Value} {s : ByteArray} {n : Nat} {xs : List Value} (hown : w.ownsRow base e 1 v n xs) (h63 : n + s.size ≤ 140737488355328) (hbase : base ≤ w.heap.size)
    (hK : ∀ v' w', w'.ownsRow base e 1 v' (n + s.size) (xs ++ s.data.toList.map u8v) → (∀ w0, Later w0 w → w0.heap.size ≤ base → Later w0 w') → K v' w') : vAppend P #[t, u] ty #[v, .string s] K w := by
  obtain ⟨i, hi1, hz, hsi, hbi⟩ := info_parts hi
  obtain ⟨v', w', hr, h2, h3, h4⟩ := Lib.run_append_own_string (P := P) w base t u ty e i ht hu hi1 hz hsi hbi v n xs hown s (by unfold maxLen; omega) h63 hbase
  unfold vAppend
  rw [run_val_pure hr]
  exact hK _ _ h2 fun w0 hl hb => hl.appended hown hb h3
end
def OwnB (w : World) (B : Nat) (e : TypeId) (v : Value) (l : List UInt8) : Prop := w.ownsRow B e 1 v l.length (l.map u8v)
theorem OwnB.sl {w : World} {B : Nat} {e : TypeId} {v : Value} {l : List UInt8} (h : OwnB w B e v l) : Sl w v (l.map u8v) := Sl.of_own h
theorem OwnB.later {w w' : World} {B : Nat} {e : TypeId} {v : Value} {l : List UInt8} (h : OwnB w B e v l) (hl : Later w w') : OwnB w' B e v l := own_later h hl
theorem OwnB.base {w : World} {B B' : Nat} {e : TypeId} {v : Value} {l : List UInt8} (h : OwnB w B e v l) (hb : B' ≤ B) : OwnB w B' e v l := own_base h hb
theorem OwnB.slice {w : World} {B : Nat} {e : TypeId} {v : Value} {l : List UInt8} (h : OwnB w B e v l) : ∃ o c, v = .slice o l.length c := by
  obtain ⟨o, c, hv, _⟩ := h.sl.open
  exact ⟨o, c, by simpa using hv⟩
theorem Sl.slice {w : World} {v : Value} {l : List Value} (h : Sl w v l) : ∃ o c, v = .slice o l.length c := by
  obtain ⟨o, c, hv, _⟩ := h.open
  exact ⟨o, c, hv⟩
end Go.Vc
end
section
set_option linter.unusedSimpArgs false
namespace Go.Proofs.Ytcajkjbempagaaa
open Go.Vc
set_option maxRecDepth 100000
def I64 (n : Int) : Prop := -9223372036854775808 ≤ n ∧ n ≤ 9223372036854775807
def U64 (n : Int) : Prop := 0 ≤ n ∧ n ≤ 18446744073709551615
def foldI (n : Int) : Int := if 0 ≤ n then 2 * n else -2 * n - 1
def unfoldI (u : Int) : Int := if u % 2 = 0 then u / 2 else -(u / 2) - 1
theorem foldI_u64 {n : Int} (h : I64 n) : U64 (foldI n) := by unfold foldI; unfold I64 at h; unfold U64; split <;> omega
theorem unfoldI_i64 {n : Int} (h : U64 n) : I64 (unfoldI n) := by unfold unfoldI; unfold U64 at h; unfold I64; split <;> omega
theorem unfold_fold (n : Int) : unfoldI (foldI n) = n := by unfold foldI unfoldI; split <;> split <;> omega
theorem fold_unfold {u : Int} (h : 0 ≤ u) : foldI (unfoldI u) = u := by unfold foldI unfoldI; split <;> split <;> omega
theorem zFold_c (n : Int) (w : World) (h : I64 n) : FnC Try.prog 64 #[.int .i64 n] w fun v w' => v = .int .u64 (foldI n) ∧ w' = w := by
  unfold I64 at h
  refine enter64 _ ?_
  unfold B64
  simp (disch := omega) only [push_cast, seval]
  unfold foldI
  by_cases h0 : 0 ≤ n
  · have e1 : n / 9223372036854775808 = 0 := by omega
    have e2 : IntKind.u64.wrap n = n := wrap_u64 (by omega)
    have e3 : IntKind.u64.wrap (n * 2) = n * 2 := wrap_u64 (by omega)
    have e4 : IntKind.u64.wrap 0 = 0 := rfl
    rw [e1, e2, e3, e4, xor_u64_zero _ (by omega), if_pos h0]
    congr 1; omega
  · have e1 : n / 9223372036854775808 = -1 := by omega
    have e2 : IntKind.u64.wrap n = n + 18446744073709551616 := by rw [IntKind.wrap_u64]; omega
    have e3 : IntKind.u64.wrap ((n + 18446744073709551616) * 2) = n * 2 + 18446744073709551616 := by rw [IntKind.wrap_u64]; omega
    have e4 : IntKind.u64.wrap (-1) = 18446744073709551615 := rfl
    rw [e1, e2, e3, e4, xor_u64_ones _ (by omega), if_neg h0]
    congr 1; omega
theorem zUnfold_c (u : Int) (w : World) (h : U64 u) : FnC Try.prog 86 #[.int .u64 u] w fun v w' => v = .int .i64 (unfoldI u) ∧ w' = w := by
  unfold U64 at h
  refine enter86 _ ?_
  unfold B86
  simp (disch := omega) only [push_cast, seval]
  obtain ⟨m, rfl⟩ := Int.eq_ofNat_of_zero_le h.1
  have e1 : bitI .and .u64 (m : Int) 1 = ((m % 2 : Nat) : Int) := by
    have := bit_u64_and m 1 (by omega)
    rw [Nat.and_one_is_mod] at this; exact this
  have e2 : IntKind.i64.wrap ((m % 2 : Nat) : Int) = ((m % 2 : Nat) : Int) := wrap_i64 (by omega)
  have e3 : IntKind.i64.wrap (0 - ((m % 2 : Nat) : Int)) = 0 - ((m % 2 : Nat) : Int) := wrap_i64 (by omega)
  rw [e1, e2, e3]
  unfold unfoldI
  by_cases h0 : m % 2 = 0
  · have : (0 : Int) - ((m % 2 : Nat) : Int) = 0 := by omega
    rw [this, xor_i64_zero _ (by omega), if_pos (by omega)]
  · have : (0 : Int) - ((m % 2 : Nat) : Int) = -1 := by omega
    rw [this, xor_i64_ones _ (by omega), if_neg (by omega)]
theorem rFold_c (n : Int) (w : World) (h : I64 n) : FnC Try.prog 78 #[.int .i64 n] w fun v w' => v = .int .u64 (foldI n) ∧ w' = w := by
  unfold I64 at h
  refine enter78 _ ?_
  unfold B78
  simp (disch := omega) only [push_cast, seval]
  unfold foldI
  first | refine iD (fun h0 => ?_) (fun h0 => ?_) | refine iE (fun h0 => ?_) (fun h0 => ?_) | refine iQ (fun h0 => ?_) (fun h0 => ?_) | refine iV (fun h0 => ?_) (fun h0 => ?_)
  · simp (disch := omega) only [push_cast, seval]
    rw [if_pos h0]
  · simp (disch := omega) only [push_cast, seval]
    rw [if_neg h0]; congr 1; omega
theorem rUnfold_c (u : Int) (w : World) (h : U64 u) : FnC Try.prog 88 #[.int .u64 u] w fun v w' => v = .int .i64 (unfoldI u) ∧ w' = w := by
  unfold U64 at h
  refine enter88 _ ?_
  unfold B88
  simp (disch := omega) only [push_cast, seval]
  unfold unfoldI
  first | refine iD (fun h0 => ?_) (fun h0 => ?_) | refine iE (fun h0 => ?_) (fun h0 => ?_) | refine iQ (fun h0 => ?_) (fun h0 => ?_) | refine iV (fun h0 => ?_) (fun h0 => ?_)
  · simp (disch := omega) only [push_cast, seval]
    rw [if_pos h0]
  · simp (disch := omega) only [push_cast, seval]
    rw [if_neg h0]; congr 1; omega
end Go.Proofs.Ytcajkjbempagaaa
end
