/- The functions' code in the generator's form. Written by a program (codes.py) out of Lean's own print of the loaded translation. -/
import Derived.Test.YtnofalhkapmcnaaGreatPartD
set_option linter.all false
section
namespace Go.Proofs.YtnofalhkapmcnaaGreat
open Go.Vc
set_option maxRecDepth 100000
variable (Q : Post) (ds : List Deferred) (σ : Env) (w : World)
@[push_cast] theorem vR (r : List VOp) (Q : Post) (ds : List Deferred) (σ : Env) (w : World) : vc Tryz.prog (.region r) Q ds σ w = vcOps Tryz.prog r (Q .normal ds) σ w := mk_eq rfl
def dR (q : List (VOp × List Nat)) : List VOp := q.map (·.1)
abbrev VD (q l : List (VOp × List Nat)) (n : Nat) : Prop := ∀ (Q : Post) (ds : List Deferred) (σ : Env) (w : World), vc Tryz.prog (.draw (dR q) n) Q ds σ w = drawn Tryz.prog l n (Q .normal ds) σ w
abbrev VS (q l : List (VOp × List Nat)) (n : Nat) (ls : List Nat) : Prop := ∀ (Q : Post) (ds : List Deferred) (σ : Env) (w : World), vc Tryz.prog (.drawS (dR q) n ls) Q ds σ w = drawnS Tryz.prog l n ls (Q .normal ds) σ w
abbrev VE (q l : List (VOp × List Nat)) (n : Nat) : Prop := ∀ (Q : Post) (ds : List Deferred) (σ : Env) (w : World), vc Tryz.prog (.drawR (dR q) n) Q ds σ w = drawnR Tryz.prog l n (Q .normal ds) σ w
theorem vD {q l : List (VOp × List Nat)} (h : q = l) (e : withReads (dR l) = l) (n : Nat) : VD q l n := fun Q ds σ w => mk_eq (by subst h; show drawn _ (withReads _) _ _ _ _ = _; rw [e])
theorem vS {q l : List (VOp × List Nat)} (h : q = l) (e : withReads (dR l) = l) (n : Nat) (ls : List Nat) : VS q l n ls := fun Q ds σ w => mk_eq (by subst h; show drawnS _ (withReads _) _ _ _ _ _ = _; rw [e])
theorem vE {q l : List (VOp × List Nat)} (h : q = l) (e : withReads (dR l) = l) (n : Nat) : VE q l n := fun Q ds σ w => mk_eq (by subst h; show drawnR _ (withReads _) _ _ _ _ = _; rw [e])
abbrev Ent (f : FuncId) (B : VC) (rs : Array ResultVar) (l : List Value) : Prop := ∀ {w : World} {R : Value → World → Prop}, vc Tryz.prog B (retK Tryz.prog rs R) [] (initEnv l 0) w → FnC Tryz.prog f l.toArray w R
theorem ent {f : FuncId} {fn : Func} {B : VC} {rs : Array ResultVar} {l : List Value} {tt : Bool} (hc : ∃ c, fn.body = some c ∧ absM false fn.ntmps tt c = B) (hb : HasBody Tryz.prog f) (hf : Tryz.prog.funcs[f]? = some fn) (hn : Nat.ble l.length fn.ntmps = true) (hr : fn.results = rs) : Ent f B rs l := by
  intro w R h
  obtain ⟨c, h1, h2⟩ := hc
  subst hr
  exact hb.fn (ret_of_vc mixed hf h1 (by simpa using Nat.le_of_ble_eq_true hn) B h2 h)
abbrev mv (d s t : Nat) : VOp := ⟨some d, .move (.tmp s), t, none⟩
abbrev lda (d t s : Nat) : VOp := ⟨some d, .load t (.tmp s), t, none⟩
abbrev asg (d s t : Nat) : VOp := ⟨some d, .assign (.tmp s), t, none⟩
abbrev ext (d s i t : Nat) : VOp := ⟨some d, .extract (.tmp s) i, t, none⟩
abbrev fad (d t s i : Nat) : VOp := ⟨some d, .fieldAddr t (.tmp s) i, 0, none⟩
abbrev iad (d t s i : Nat) : VOp := ⟨some d, .indexAddr t (.tmp s) (.tmp i), 0, none⟩
abbrev zA (a0 : Nat) (a1 : Nat) (a2 : Nat) : VOp := ⟨none, .store a0 (.tmp a1) (.tmp a2), 0, none⟩
abbrev zB (a0 : Nat) (a1 : Nat) : VOp := ⟨some a0, .alloc a1, 0, none⟩
abbrev zC (a0 : Nat) : VOp := ⟨some a0, .assign (.const (.bool false)), 4, none⟩
abbrev zD (a0 : Nat) : VOp := ⟨some a0, .assign (.const (.bool true)), 4, none⟩
abbrev zE (a0 : Nat) (a1 : Int) (a2 : Nat) : VOp := ⟨some a0, .assign (.const (.int .i64 a1)), a2, none⟩
abbrev zF (a0 : Nat) (a3 : Nat) : VOp := ⟨some a0, .assign (.const (.slice none 0 0)), a3, none⟩
abbrev zG (a0 : Nat) (a2 : Nat) : VOp := ⟨some a0, .binOp .add 3 (.tmp a2) (.const (.int .i64 1)) 3, 3, none⟩
abbrev zH (a0 : Nat) (a2 : Nat) (a3 : Nat) : VOp := ⟨some a0, .binOp .add 3 (.tmp a2) (.tmp a3) 3, 3, none⟩
abbrev zI (a0 : Nat) (a1 : Nat) (a2 : Nat) (a3 : Int) : VOp := ⟨some a0, .binOp .eql a1 (.tmp a2) (.const (.int .i64 a3)) a1, 4, none⟩
abbrev zJ (a0 : Nat) (a1 : Nat) (a2 : Nat) (a3 : Int) (a6 : Nat) : VOp := ⟨some a0, .binOp .eql a1 (.tmp a2) (.const (.int .i64 a3)) a1, 4, some (a6, false)⟩
abbrev zK (a0 : Nat) (a1 : Nat) (a2 : Nat) (a3 : Int) (a6 : Nat) : VOp := ⟨some a0, .binOp .eql a1 (.tmp a2) (.const (.int .i64 a3)) a1, 4, some (a6, true)⟩
abbrev zL (a0 : Nat) (a1 : Nat) (a2 : Nat) (a3 : Int) (a5 : Nat) (a6 : Nat) : VOp := ⟨some a0, .binOp .eql a1 (.tmp a2) (.const (.int .u8 a3)) a1, a5, some (a6, false)⟩
abbrev zM (a0 : Nat) (a1 : Nat) (a2 : Nat) (a3 : Nat) : VOp := ⟨some a0, .binOp .eql a1 (.tmp a2) (.tmp a3) a1, 4, none⟩
abbrev zN (a0 : Nat) (a1 : Nat) (a2 : Nat) (a3 : Nat) (a6 : Nat) : VOp := ⟨some a0, .binOp .eql a1 (.tmp a2) (.tmp a3) a1, 4, some (a6, true)⟩
abbrev zO (a0 : Nat) (a1 : Nat) (a2 : Nat) (a3 : Int) : VOp := ⟨some a0, .binOp .geq a1 (.tmp a2) (.const (.int .i64 a3)) a1, 4, none⟩
abbrev zP (a0 : Nat) (a1 : Nat) (a2 : Nat) (a3 : Int) (a5 : Nat) (a6 : Nat) : VOp := ⟨some a0, .binOp .geq a1 (.tmp a2) (.const (.int .i64 a3)) a1, a5, some (a6, true)⟩
abbrev zQ (a0 : Nat) (a2 : Nat) (a3 : Int) : VOp := ⟨some a0, .binOp .gtr 3 (.tmp a2) (.const (.int .i64 a3)) 3, 4, none⟩
abbrev zR (a0 : Nat) (a2 : Nat) (a3 : Int) (a6 : Nat) : VOp := ⟨some a0, .binOp .gtr 3 (.tmp a2) (.const (.int .i64 a3)) 3, 4, some (a6, false)⟩
abbrev zS (a0 : Nat) (a1 : Nat) (a2 : Nat) (a3 : Nat) : VOp := ⟨some a0, .binOp .gtr a1 (.tmp a2) (.tmp a3) a1, 4, none⟩
abbrev zT (a0 : Nat) (a1 : Nat) (a2 : Nat) (a3 : Int) (a6 : Nat) : VOp := ⟨some a0, .binOp .leq a1 (.tmp a2) (.const (.int .i64 a3)) a1, 4, some (a6, true)⟩
abbrev zU (a0 : Nat) (a2 : Nat) (a3 : Nat) : VOp := ⟨some a0, .binOp .leq 3 (.tmp a2) (.tmp a3) 3, 4, none⟩
abbrev zV (a0 : Nat) (a2 : Nat) (a3 : Nat) (a6 : Nat) : VOp := ⟨some a0, .binOp .leq 3 (.tmp a2) (.tmp a3) 3, 4, some (a6, true)⟩
abbrev zW (a0 : Nat) (a1 : Nat) (a2 : Nat) (a3 : Int) (a5 : Nat) : VOp := ⟨some a0, .binOp .lss a1 (.tmp a2) (.const (.int .i64 a3)) a1, a5, none⟩
abbrev zX (a0 : Nat) (a1 : Nat) (a2 : Nat) (a3 : Nat) (a5 : Nat) : VOp := ⟨some a0, .binOp .lss a1 (.tmp a2) (.tmp a3) a1, a5, none⟩
abbrev zY (a0 : Nat) (a2 : Nat) (a3 : Nat) (a6 : Nat) : VOp := ⟨some a0, .binOp .lss 3 (.tmp a2) (.tmp a3) 3, 4, some (a6, true)⟩
abbrev zZ (a0 : Nat) (a3 : Nat) : VOp := ⟨some a0, .binOp .mul 3 (.const (.int .i64 2)) (.tmp a3) 3, 3, none⟩
abbrev zBA (a0 : Nat) (a1 : Nat) (a2 : Nat) : VOp := ⟨some a0, .binOp .neq a1 (.tmp a2) (.const (.int .i64 0)) a1, 4, none⟩
abbrev zBB (a0 : Nat) (a1 : Nat) (a2 : Nat) (a3 : Nat) : VOp := ⟨some a0, .binOp .neq a1 (.tmp a2) (.tmp a3) a1, 4, none⟩
abbrev zBC (a0 : Nat) (a2 : Nat) : VOp := ⟨some a0, .binOp .shr 150 (.tmp a2) (.const (.int .u64 1)) 150, 150, none⟩
abbrev zBD (a0 : Nat) (a2 : Nat) : VOp := ⟨some a0, .binOp .sub 3 (.tmp a2) (.const (.int .i64 1)) 3, 3, none⟩
abbrev zBE (a0 : Nat) (a2 : Nat) (a3 : Nat) : VOp := ⟨some a0, .binOp .sub 3 (.tmp a2) (.tmp a3) 3, 3, none⟩
abbrev zBF (a0 : Nat) (a1 : Nat) (a2 : Nat) : VOp := ⟨some a0, .box a1 (.tmp a2), 0, none⟩
abbrev zBG (a0 : Nat) (a1 : Nat) (a2 : Nat) (a3 : Int) (a4 : Nat) (a5 : Int) (a6 : Nat) (a7 : Int) : VOp := ⟨some a0, .build a1 #[(a2, (.const (.int .i64 a3))), (a4, (.const (.int .i64 a5))), (a6, (.const (.int .i64 a7)))], a1, none⟩
abbrev zBH (a0 : Nat) (a1 : Nat) (a2 : Nat) (a3 : Int) (a4 : Nat) (a5 : Nat) (a6 : Nat) (a7 : Int) (a8 : Nat) (a9 : Nat) : VOp := ⟨some a0, .build a1 #[(a2, (.const (.int .i64 a3))), (a4, (.tmp a5)), (a6, (.const (.int .i64 a7))), (a8, (.tmp a9))], a1, none⟩
abbrev zBI (a0 : Nat) (a1 : Nat) : VOp := ⟨some a0, .build a1 #[], a1, none⟩
abbrev zBJ (a0 : Nat) (a1 : Nat) (a4 : Nat) : VOp := ⟨some a0, .buildSlice a1 1 #[(0, (.tmp a4))], a1, none⟩
abbrev zBK (a0 : Nat) (a1 : Nat) : VOp := ⟨some a0, .buildSlice a1 0 #[], a1, none⟩
abbrev zBL (a0 : Nat) (a1 : Nat) (a2 : Nat) (a3 : Nat) : VOp := ⟨some a0, .call ⟨.builtin .append, #[.tmp a1, .tmp a2], #[a3, a3]⟩, a3, none⟩
abbrev zBM (a0 : Nat) (a1 : Nat) (a2 : Nat) : VOp := ⟨some a0, .call ⟨.builtin .len, #[.tmp a1], #[a2]⟩, 3, none⟩
abbrev zBN (a0 : Nat) (a1 : Nat) (a2 : Nat) (a4 : Nat) : VOp := ⟨some a0, .call ⟨.builtin .len, #[.tmp a1], #[a2]⟩, 3, some (a4, false)⟩
abbrev zBO (a0 : Nat) (a1 : Nat) (a2 : Nat) (a4 : Nat) : VOp := ⟨some a0, .call ⟨.builtin .len, #[.tmp a1], #[a2]⟩, 3, some (a4, true)⟩
abbrev zBP (a0 : Nat) (a1 : Nat) (a2 : Nat) : VOp := ⟨some a0, .call ⟨.builtin .max, #[.tmp a1, .tmp a2], #[3, 3]⟩, 3, none⟩
abbrev zBQ (a0 : Nat) (a1 : Nat) (a2 : Nat) (a3 : Nat) : VOp := ⟨some a0, .call ⟨.builtin .min, #[.tmp a1, .tmp a2], #[a3, a3]⟩, a3, none⟩
abbrev zBR (a0 : Nat) (a1 : Nat) (a2 : Nat) (a3 : Nat) (a4 : Nat) (a5 : Nat) (a6 : Nat) (a7 : Nat) (a11 : Nat) : VOp := ⟨some a0, .call ⟨.value (.func a1), #[.tmp a2, .tmp a3, .tmp a4, .tmp a5, .tmp a6], #[a7, 3, 3, 3, a11]⟩, 0, none⟩
abbrev zBS (a0 : Nat) (a1 : Nat) (a2 : Nat) (a3 : Nat) (a4 : Nat) (a5 : Nat) (a6 : Nat) (a9 : Nat) : VOp := ⟨some a0, .call ⟨.value (.func a1), #[.tmp a2, .tmp a3, .tmp a4, .tmp a5], #[a6, 3, 3, a9]⟩, 0, none⟩
abbrev zBT (a0 : Nat) (a1 : Nat) (a2 : Nat) (a3 : Nat) (a4 : Nat) (a5 : Nat) (a6 : Nat) (a7 : Nat) (a8 : Nat) : VOp := ⟨some a0, .call ⟨.value (.func a1), #[.tmp a2, .tmp a3, .tmp a4], #[a5, a6, a7]⟩, a8, none⟩
abbrev zBU (a0 : Nat) (a1 : Nat) (a2 : Nat) (a3 : Nat) (a4 : Nat) (a5 : Nat) (a6 : Nat) : VOp := ⟨some a0, .call ⟨.value (.func a1), #[.tmp a2, .tmp a3], #[a4, a5]⟩, a6, none⟩
abbrev zBV (a0 : Nat) (a1 : Nat) (a2 : Nat) (a3 : Nat) (a4 : Nat) (a5 : Nat) (a6 : Nat) (a7 : Nat) : VOp := ⟨some a0, .call ⟨.value (.func a1), #[.tmp a2, .tmp a3], #[a4, a5]⟩, a6, some (a7, true)⟩
abbrev zBW (a0 : Nat) (a1 : Nat) (a2 : Nat) (a3 : Nat) (a4 : Nat) : VOp := ⟨some a0, .call ⟨.value (.func a1), #[.tmp a2], #[a3]⟩, a4, none⟩
abbrev zBX (a0 : Nat) (a1 : Nat) (a2 : Nat) (a3 : Nat) (a5 : Nat) : VOp := ⟨some a0, .call ⟨.value (.func a1), #[.tmp a2], #[a3]⟩, 4, some (a5, false)⟩
abbrev zBY (a0 : Nat) (a1 : Nat) (a2 : Nat) : VOp := ⟨some a0, .call ⟨.value (.func a1), #[], #[]⟩, a2, none⟩
abbrev zBZ (a0 : Nat) (a1 : Nat) (a2 : Nat) (a3 : Nat) (a4 : Nat) : VOp := ⟨some a0, .call ⟨.value (.tmp a1), #[.tmp a2], #[a3]⟩, a4, none⟩
abbrev zCA (a0 : Nat) (a1 : Nat) (a2 : Nat) (a3 : Nat) : VOp := ⟨some a0, .convert a1 a2 (.tmp a3), a2, none⟩
abbrev zCB (a0 : Nat) (a1 : Nat) (a2 : Nat) (a3 : Nat) (a5 : Nat) : VOp := ⟨some a0, .fieldAddr a1 (.tmp a2) a3, 0, some (a5, false)⟩
abbrev zCC (a0 : Nat) (a1 : Nat) (a2 : Nat) (a3 : Nat) (a5 : Nat) : VOp := ⟨some a0, .fieldAddr a1 (.tmp a2) a3, 0, some (a5, true)⟩
abbrev zCD (a0 : Nat) (a2 : Nat) (a3 : Nat) (a5 : Nat) : VOp := ⟨some a0, .index 9 (.tmp a2) (.tmp a3), 5, some (a5, false)⟩
abbrev zCE (a0 : Nat) (a1 : Nat) (a2 : Nat) (a3 : Int) (a5 : Nat) : VOp := ⟨some a0, .indexAddr a1 (.tmp a2) (.const (.int .i64 a3)), 0, some (a5, true)⟩
abbrev zCF (a0 : Nat) (a1 : Nat) (a2 : Nat) (a4 : Nat) : VOp := ⟨some a0, .load a1 (.tmp a2), a1, some (a4, false)⟩
abbrev zCG (a0 : Nat) (a1 : Nat) (a2 : Nat) (a4 : Nat) : VOp := ⟨some a0, .load a1 (.tmp a2), a1, some (a4, true)⟩
abbrev zCH (a0 : Nat) (a1 : Nat) (a2 : Nat) (a3 : Nat) (a4 : Nat) : VOp := ⟨some a0, .makeFunc (Fn.func a1) #[] #[(.tmp a2), (.tmp a3)], a4, none⟩
abbrev zCI (a0 : Nat) (a1 : Nat) (a2 : Nat) (a3 : Nat) : VOp := ⟨some a0, .makeFunc (Fn.func a1) #[] #[(.tmp a2)], a3, none⟩
abbrev zCJ (a0 : Nat) : VOp := ⟨some a0, .move (.const (.int .i64 0)), 3, none⟩
abbrev zCK (a0 : Nat) (a1 : Nat) (a2 : Nat) (a3 : Nat) : VOp := ⟨some a0, .move (.tmp a1), a2, some (a3, false)⟩
abbrev zCL (a0 : Nat) (a1 : Nat) (a2 : Nat) (a3 : Nat) : VOp := ⟨some a0, .move (.tmp a1), a2, some (a3, true)⟩
abbrev zCM (a0 : Nat) (a1 : Nat) (a2 : Nat) : VOp := ⟨some a0, .pick (.tmp a1) (.const (.bool true)) (.tmp a2), 4, none⟩
abbrev zCN (a0 : Nat) (a1 : Nat) (a2 : Nat) : VOp := ⟨some a0, .pick (.tmp a1) (.tmp a2) (.const (.bool false)), 4, none⟩
abbrev zCO (a0 : Nat) (a1 : Nat) (a2 : Nat) (a4 : Nat) : VOp := ⟨some a0, .pick (.tmp a1) (.tmp a2) (.const (.bool false)), 4, some (a4, false)⟩
abbrev zCP (a0 : Nat) (a1 : Nat) (a2 : Nat) (a3 : Nat) : VOp := ⟨some a0, .slice a1 (.tmp a2) (some (.tmp a3)) none none, a1, none⟩
abbrev zCQ (a0 : Nat) (a1 : Nat) (a2 : Nat) (a3 : Nat) : VOp := ⟨some a0, .slice a1 (.tmp a2) none (some (.tmp a3)) none, a1, none⟩
abbrev zCR (a0 : Nat) (a2 : Nat) : VOp := ⟨some a0, .unOp .not 4 (.tmp a2), 4, none⟩
abbrev zCS (a0 : Nat) (a2 : Nat) (a4 : Nat) : VOp := ⟨some a0, .unOp .not 4 (.tmp a2), 4, some (a4, false)⟩
/-! 14 columbary/columbarylaw23.Fits (params #[24, 32], results #[(.tmp 4)], 57 slots) -/
abbrev r14_0 : List VOp :=
  [zBF 2 24 0,
   zBF 3 32 1,
   zC 4]
abbrev r14_1 : List VOp :=
  [fad 10 24 2 0,
   lda 11 22 10,
   zBW 12 38 11 22 4,
   asg 5 12 4]
abbrev r14_2 : List VOp :=
  [fad 13 24 2 1,
   lda 14 22 13,
   zBW 15 38 14 22 4,
   asg 6 15 4]
abbrev r14_3 : List VOp :=
  [fad 16 32 3 4,
   lda 17 22 16,
   zBW 18 38 17 22 4,
   asg 7 18 4]
abbrev r14_4 : List VOp :=
  [mv 19 5 4,
   zCR 20 19,
   mv 21 20 4,
   zCK 22 6 4 21,
   zCS 23 22 21,
   zCM 24 21 23,
   mv 25 24 4,
   zCK 26 7 4 25,
   zCS 27 26 25,
   zCM 28 25 27,
   mv 29 28 4,
   zCB 30 32 3 0 29,
   zCF 31 25 30 29,
   zBN 32 31 25 29,
   zR 33 32 30 29,
   zCM 34 29 33,
   mv 35 34 4,
   zCB 36 32 3 6 35,
   zCF 37 30 36 35,
   zBN 38 37 30 35,
   zR 39 38 30 35,
   zCM 40 35 39,
   mv 41 40 4,
   zCB 42 32 3 5 41,
   zCF 43 29 42 41,
   ⟨some 44, .call ⟨.value (.func 39), #[(.tmp 43), (.const (.int .i64 300))], #[29, 3]⟩, 3, some (41, false)⟩,
   ⟨some 45, .binOp .geq 3 (.tmp 44) (.const (.int .i64 300)) 3, 4, some (41, false)⟩,
   zCM 46 41 45]
abbrev r14_5 : List VOp :=
  [zC 4]
abbrev r14_6 : List VOp :=
  [lda 47 24 2,
   zBW 48 40 47 24 4,
   asg 8 48 4]
abbrev r14_7 : List VOp :=
  [fad 49 32 3 5,
   lda 50 29 49,
   zBW 51 41 50 29 3,
   asg 9 51 3]
abbrev r14_8 : List VOp :=
  [mv 52 8 4,
   mv 53 52 4,
   zCL 54 9 3 53,
   zT 55 3 54 60 53,
   zCN 56 53 55,
   asg 4 56 4]
def B14 : VC :=
  (.seq (.region r14_0) (.seq (.region r14_1) (.seq (.region r14_2) (.seq (.region r14_3) (.seq (.seq (.region r14_4) (.cond (.tmp 46) (.seq (.region r14_5) .ret) .skip)) (.seq (.region r14_6) (.seq (.region r14_7) (.seq (.region r14_8) .ret))))))))
theorem code14 : ∃ c, Tryz.f14.body = some c ∧ abs Tryz.f14.ntmps c = B14 := ⟨_, rfl, by kernel_rfl⟩
theorem hb14 : HasBody Tryz.prog 14 := hasBody_of Tryz.func14 (by kernel_rfl)
theorem enter14 (x0 x1 : Value) : Ent 14 B14 #[(.tmp 4)] [x0, x1] := ent code14 hb14 Tryz.func14 rfl rfl
/-! 17 columbary/columbaryref23.Check (params #[24, 32], results #[(.tmp 4)], 21 slots) -/
abbrev r17_0 : List VOp :=
  [zBF 2 24 0,
   zBF 3 32 1,
   zE 4 0 37]
abbrev r17_1 : List VOp :=
  [lda 8 32 3,
   zBW 9 45 8 32 4,
   asg 5 9 4]
abbrev r17_2 : List VOp :=
  [mv 10 5 4,
   zCR 11 10]
abbrev r17_3 : List VOp :=
  [zE 4 221 37]
abbrev r17_4 : List VOp :=
  [lda 12 24 2,
   lda 13 32 3,
   zBU 14 46 12 13 24 32 4,
   asg 6 14 4]
abbrev r17_5 : List VOp :=
  [mv 15 6 4,
   zCR 16 15]
abbrev r17_6 : List VOp :=
  [zE 4 231 37]
abbrev r17_7 : List VOp :=
  [lda 17 32 3,
   zBW 18 47 17 32 4,
   asg 7 18 4]
abbrev r17_8 : List VOp :=
  [mv 19 7 4,
   zCR 20 19]
abbrev r17_9 : List VOp :=
  [zE 4 232 37]
abbrev r17_10 : List VOp :=
  [zE 4 0 37]
def B17 : VC :=
  (.seq (.region r17_0) (.seq (.region r17_1) (.seq (.seq (.region r17_2) (.cond (.tmp 11) (.seq (.region r17_3) .ret) .skip)) (.seq (.region r17_4) (.seq (.seq (.region r17_5) (.cond (.tmp 16) (.seq (.region r17_6) .ret) .skip)) (.seq (.region r17_7) (.seq (.seq (.region r17_8) (.cond (.tmp 20) (.seq (.region r17_9) .ret) .skip)) (.seq (.region r17_10) .ret))))))))
theorem code17 : ∃ c, Tryz.f17.body = some c ∧ abs Tryz.f17.ntmps c = B17 := ⟨_, rfl, by kernel_rfl⟩
theorem hb17 : HasBody Tryz.prog 17 := hasBody_of Tryz.func17 (by kernel_rfl)
theorem enter17 (x0 x1 : Value) : Ent 17 B17 #[(.tmp 4)] [x0, x1] := ent code17 hb17 Tryz.func17 rfl rfl
/-! 18 columbary/columbaryref03.Texts (params #[22, 22], results #[(.tmp 4)], 26 slots) -/
@[push_cast] def W18_0 : List Nat := [4, 5, 11, 12, 13, 14, 15, 16, 17, 18, 19, 20, 21, 22, 23, 24, 25]
abbrev r18_0 : List VOp :=
  [zC 4]
abbrev r18_1 : List VOp :=
  [mv 6 0 22,
   zBM 7 6 22,
   mv 8 1 22,
   zBM 9 8 22,
   zBB 10 3 7 9]
abbrev r18_2 : List VOp :=
  [zC 4]
abbrev r18_3 : List VOp :=
  [zE 5 0 3]
abbrev r18_4 : List VOp :=
  [mv 11 5 3,
   mv 12 0 22,
   zBM 13 12 22,
   zX 14 3 11 13 4]
def r18_6 : List (VOp × List Nat) := [(⟨some 17, .move (.tmp 0), 22, none⟩, [0]), (⟨some 18, .move (.tmp 5), 3, none⟩, [5]), (⟨some 19, .indexAddr 22 (.tmp 17) (.tmp 18), 0, none⟩, [17, 18]), (⟨some 20, .load 9 (.tmp 19), 9, none⟩, [19]), (⟨some 21, .move (.tmp 1), 22, none⟩, [1]), (⟨some 22, .move (.tmp 5), 3, none⟩, [5]), (⟨some 23, .indexAddr 22 (.tmp 21) (.tmp 22), 0, none⟩, [21, 22]), (⟨some 24, .load 9 (.tmp 23), 9, none⟩, [23]), (⟨some 25, .binOp .neq 9 (.tmp 20) (.tmp 24) 9, 4, none⟩, [20, 24])]
abbrev r18_7 : List VOp :=
  [zC 4]
abbrev r18_5 : List VOp :=
  [mv 15 5 3,
   zG 16 15,
   asg 5 16 3]
abbrev r18_8 : List VOp :=
  [zD 4]
def B18 : VC :=
  (.seq (.region r18_0) (.seq (.seq (.region r18_1) (.cond (.tmp 10) (.seq (.region r18_2) .ret) .skip)) (.seq (.seq (.region r18_3) (.block 0 (.loop (.seq (.seq (.region r18_4) (.cond (.tmp 14) .skip (.exit 0))) (.seq (.block 1 (.seq (.draw (dR r18_6) 2) (.cond (.tmp 25) (.seq (.region r18_7) .ret) .skip))) (.region r18_5)))))) (.seq (.region r18_8) .ret))))
theorem code18 : ∃ c, Tryz.f18.body = some c ∧ abs Tryz.f18.ntmps c = B18 := ⟨_, rfl, by kernel_rfl⟩
theorem hb18 : HasBody Tryz.prog 18 := hasBody_of Tryz.func18 (by kernel_rfl)
theorem enter18 (x0 x1 : Value) : Ent 18 B18 #[(.tmp 4)] [x0, x1] := ent code18 hb18 Tryz.func18 rfl rfl
@[push_cast] def vr18_6 := vD r18_6.eq_1 rfl 2
/-! 30 columbary/columbaryref10.Find (params #[22, 9], results #[(.tmp 4), (.tmp 5)], 20 slots) -/
@[push_cast] def W30_0 : List Nat := [4, 5, 6, 7, 8, 9, 10, 11, 12, 13, 14, 15, 16, 17, 18, 19]
abbrev r30_0 : List VOp :=
  [zE 4 0 3,
   zC 5]
abbrev r30_1 : List VOp :=
  [zE 6 0 3]
abbrev r30_2 : List VOp :=
  [mv 7 6 3,
   mv 8 0 22,
   zBM 9 8 22,
   zX 10 3 7 9 4]
abbrev r30_4 : List VOp :=
  [mv 13 0 22,
   mv 14 6 3,
   iad 15 22 13 14,
   lda 16 9 15,
   mv 17 1 9,
   zM 18 9 16 17]
abbrev r30_5 : List VOp :=
  [mv 19 6 3,
   asg 4 19 3,
   zD 5]
abbrev r30_3 : List VOp :=
  [mv 11 6 3,
   zG 12 11,
   asg 6 12 3]
abbrev r30_6 : List VOp :=
  [zE 4 0 3,
   zC 5]
def B30 : VC :=
  (.seq (.region r30_0) (.seq (.seq (.region r30_1) (.block 0 (.loop (.seq (.seq (.region r30_2) (.cond (.tmp 10) .skip (.exit 0))) (.seq (.block 1 (.seq (.region r30_4) (.cond (.tmp 18) (.seq (.region r30_5) .ret) .skip))) (.region r30_3)))))) (.seq (.region r30_6) .ret)))
theorem code30 : ∃ c, Tryz.f30.body = some c ∧ abs Tryz.f30.ntmps c = B30 := ⟨_, rfl, by kernel_rfl⟩
theorem hb30 : HasBody Tryz.prog 30 := hasBody_of Tryz.func30 (by kernel_rfl)
theorem enter30 (x0 x1 : Value) : Ent 30 B30 #[(.tmp 4), (.tmp 5)] [x0, x1] := ent code30 hb30 Tryz.func30 rfl rfl
/-! 38 columbary/columbarylaw10.Fits (params #[22], results #[(.tmp 2)], 20 slots) -/
@[push_cast] def W38_0 : List Nat := [2, 3, 4, 5, 6, 7, 8, 9, 10, 11, 12, 13, 14, 15, 16, 17, 18, 19]
abbrev r38_0 : List VOp :=
  [zC 2]
abbrev r38_1 : List VOp :=
  [zE 3 0 3]
abbrev r38_2 : List VOp :=
  [mv 4 3 3,
   mv 5 0 22,
   zBM 6 5 22,
   zX 7 3 4 6 4]
abbrev r38_4 : List VOp :=
  [mv 10 3 3,
   zI 11 3 10 20,
   mv 12 11 4,
   zCK 13 0 22 12,
   zCK 14 3 3 12,
   ⟨some 15, .indexAddr 22 (.tmp 13) (.tmp 14), 0, some (12, false)⟩,
   zCF 16 9 15 12,
   zBN 17 16 9 12,
   zR 18 17 80 12,
   zCM 19 12 18]
abbrev r38_5 : List VOp :=
  [zC 2]
abbrev r38_3 : List VOp :=
  [mv 8 3 3,
   zG 9 8,
   asg 3 9 3]
abbrev r38_6 : List VOp :=
  [zD 2]
def B38 : VC :=
  (.seq (.region r38_0) (.seq (.seq (.region r38_1) (.block 0 (.loop (.seq (.seq (.region r38_2) (.cond (.tmp 7) .skip (.exit 0))) (.seq (.block 1 (.seq (.region r38_4) (.cond (.tmp 19) (.seq (.region r38_5) .ret) .skip))) (.region r38_3)))))) (.seq (.region r38_6) .ret)))
theorem code38 : ∃ c, Tryz.f38.body = some c ∧ abs Tryz.f38.ntmps c = B38 := ⟨_, rfl, by kernel_rfl⟩
theorem hb38 : HasBody Tryz.prog 38 := hasBody_of Tryz.func38 (by kernel_rfl)
theorem enter38 (x0 : Value) : Ent 38 B38 #[(.tmp 2)] [x0] := ent code38 hb38 Tryz.func38 rfl rfl
/-! 39 columbary/columbarylaw23.parts (params #[29, 3], results #[(.tmp 4)], 40 slots) -/
@[push_cast] def W39_0 : List Nat := [5, 6, 16, 17, 18, 19, 20, 21, 22, 23, 24, 25, 26, 27, 28, 29, 30, 31, 32, 33, 34, 35, 36, 37, 38]
abbrev r39_0 : List VOp :=
  [zBF 2 29 0,
   zE 4 0 3]
abbrev r39_1 : List VOp :=
  [fad 7 29 2 1,
   lda 8 9 7,
   zBM 9 8 9,
   fad 10 29 2 2,
   lda 11 9 10,
   zBM 12 11 9,
   zH 13 9 12,
   ⟨some 14, .binOp .quo 3 (.tmp 13) (.const (.int .i64 100)) 3, 3, none⟩,
   ⟨some 15, .binOp .add 3 (.const (.int .i64 1)) (.tmp 14) 3, 3, none⟩,
   asg 5 15 3]
abbrev r39_2 : List VOp :=
  [zE 6 0 3]
abbrev r39_3 : List VOp :=
  [mv 16 6 3,
   fad 17 29 2 3,
   lda 18 27 17,
   zBM 19 18 27,
   zX 20 3 16 19 4,
   mv 21 20 4,
   zCL 22 5 3 21,
   zCL 23 1 3 21,
   zY 24 22 23 21,
   zCN 25 21 24]
abbrev r39_5 : List VOp :=
  [mv 28 5 3,
   fad 29 29 2 3,
   lda 30 27 29,
   mv 31 6 3,
   iad 32 27 30 31,
   lda 33 29 32,
   mv 34 1 3,
   mv 35 5 3,
   zBE 36 34 35,
   zBU 37 39 33 36 29 3 3,
   zH 38 28 37,
   asg 5 38 3]
abbrev r39_4 : List VOp :=
  [mv 26 6 3,
   zG 27 26,
   asg 6 27 3]
abbrev r39_6 : List VOp :=
  [mv 39 5 3,
   asg 4 39 3]
def B39 : VC :=
  (.seq (.region r39_0) (.seq (.region r39_1) (.seq (.seq (.region r39_2) (.block 0 (.loop (.seq (.seq (.region r39_3) (.cond (.tmp 25) .skip (.exit 0))) (.seq (.block 1 (.region r39_5)) (.region r39_4)))))) (.seq (.region r39_6) .ret))))
theorem code39 : ∃ c, Tryz.f39.body = some c ∧ abs Tryz.f39.ntmps c = B39 := ⟨_, rfl, by kernel_rfl⟩
theorem hb39 : HasBody Tryz.prog 39 := hasBody_of Tryz.func39 (by kernel_rfl)
theorem enter39 (x0 x1 : Value) : Ent 39 B39 #[(.tmp 4)] [x0, x1] := ent code39 hb39 Tryz.func39 rfl rfl
/-! 40 columbary/columbaryref10.Right (params #[24], results #[(.tmp 2)], 57 slots) -/
@[push_cast] def W40_0 : List Nat := [2, 4, 5, 6, 14, 15, 16, 17, 18, 19, 20, 21, 22, 23, 24, 25, 26, 27, 28, 29, 30, 31, 32, 33, 34, 35, 36, 37, 38, 39, 40]
@[push_cast] def W40_1 : List Nat := [2, 6, 27, 28, 29, 30, 31, 32, 33, 34, 35, 36, 37, 38, 39, 40]
abbrev r40_0 : List VOp :=
  [zBF 1 24 0,
   zC 2]
def r40_1 : List (VOp × List Nat) := [(⟨some 7, .buildSlice 22 0 #[], 22, none⟩, []), (⟨some 8, .fieldAddr 24 (.tmp 1) 0, 0, none⟩, [1]), (⟨some 9, .load 22 (.tmp 8), 22, none⟩, [8]), (⟨some 10, .call ⟨.builtin .append, #[.tmp 7, .tmp 9], #[22, 22]⟩, 22, none⟩, [7, 9]), (⟨some 11, .fieldAddr 24 (.tmp 1) 1, 0, none⟩, [1]), (⟨some 12, .load 22 (.tmp 11), 22, none⟩, [11]), (⟨some 13, .call ⟨.builtin .append, #[.tmp 10, .tmp 12], #[22, 22]⟩, 22, none⟩, [10, 12]), (⟨some 3, .assign (.tmp 13), 22, none⟩, [13])]
abbrev r40_2 : List VOp :=
  [zE 4 0 3]
abbrev r40_3 : List VOp :=
  [mv 14 4 3,
   mv 15 3 22,
   zBM 16 15 22,
   zX 17 3 14 16 4]
abbrev r40_5 : List VOp :=
  [mv 20 3 22,
   mv 21 4 3,
   iad 22 22 20 21,
   lda 23 9 22,
   zBW 24 76 23 9 4,
   asg 5 24 4]
abbrev r40_6 : List VOp :=
  [mv 25 5 4,
   zCR 26 25]
abbrev r40_7 : List VOp :=
  [zC 2]
abbrev r40_8 : List VOp :=
  [zE 6 0 3]
abbrev r40_9 : List VOp :=
  [mv 27 6 3,
   mv 28 4 3,
   zX 29 3 27 28 4]
def r40_11 : List (VOp × List Nat) := [(⟨some 32, .move (.tmp 3), 22, none⟩, [3]), (⟨some 33, .move (.tmp 6), 3, none⟩, [6]), (⟨some 34, .indexAddr 22 (.tmp 32) (.tmp 33), 0, none⟩, [32, 33]), (⟨some 35, .load 9 (.tmp 34), 9, none⟩, [34]), (⟨some 36, .move (.tmp 3), 22, none⟩, [3]), (⟨some 37, .move (.tmp 4), 3, none⟩, [4]), (⟨some 38, .indexAddr 22 (.tmp 36) (.tmp 37), 0, none⟩, [36, 37]), (⟨some 39, .load 9 (.tmp 38), 9, none⟩, [38]), (⟨some 40, .binOp .eql 9 (.tmp 35) (.tmp 39) 9, 4, none⟩, [35, 39])]
abbrev r40_12 : List VOp :=
  [zC 2]
abbrev r40_10 : List VOp :=
  [mv 30 6 3,
   zG 31 30,
   asg 6 31 3]
abbrev r40_4 : List VOp :=
  [mv 18 4 3,
   zG 19 18,
   asg 4 19 3]
abbrev r40_13 : List VOp :=
  [fad 41 24 1 0,
   lda 42 22 41,
   zBM 43 42 22,
   zO 44 3 43 1,
   mv 45 44 4,
   zCC 46 24 1 0 45,
   zCG 47 22 46 45,
   zBO 48 47 22 45,
   zT 49 3 48 6 45,
   zCN 50 45 49,
   mv 51 50 4,
   zCC 52 24 1 1 51,
   zCG 53 22 52 51,
   zBO 54 53 22 51,
   zT 55 3 54 4 51,
   zCN 56 51 55,
   asg 2 56 4]
def B40 : VC :=
  (.seq (.region r40_0) (.seq (.draw (dR r40_1) 3) (.seq (.seq (.region r40_2) (.block 0 (.loop (.seq (.seq (.region r40_3) (.cond (.tmp 17) .skip (.exit 0))) (.seq (.block 1 (.seq (.region r40_5) (.seq (.seq (.region r40_6) (.cond (.tmp 26) (.seq (.region r40_7) .ret) .skip)) (.seq (.region r40_8) (.block 2 (.loop (.seq (.seq (.region r40_9) (.cond (.tmp 29) .skip (.exit 2))) (.seq (.block 3 (.seq (.draw (dR r40_11) 2) (.cond (.tmp 40) (.seq (.region r40_12) .ret) .skip))) (.region r40_10))))))))) (.region r40_4)))))) (.seq (.region r40_13) .ret))))
theorem code40 : ∃ c, Tryz.f40.body = some c ∧ abs Tryz.f40.ntmps c = B40 := ⟨_, rfl, by kernel_rfl⟩
theorem hb40 : HasBody Tryz.prog 40 := hasBody_of Tryz.func40 (by kernel_rfl)
theorem enter40 (x0 : Value) : Ent 40 B40 #[(.tmp 2)] [x0] := ent code40 hb40 Tryz.func40 rfl rfl
@[push_cast] def vr40_1 := vD r40_1.eq_1 rfl 3
@[push_cast] def vr40_11 := vD r40_11.eq_1 rfl 2
/-! 41 columbary/columbaryref22.Depth (params #[29], results #[(.tmp 2)], 22 slots) -/
@[push_cast] def W41_0 : List Nat := [3, 4, 5, 6, 7, 8, 9, 10, 11, 12, 13, 14, 15, 16, 17, 18, 19]
abbrev r41_0 : List VOp :=
  [zBF 1 29 0,
   zE 2 0 3]
abbrev r41_1 : List VOp :=
  [zE 3 0 3]
abbrev r41_2 : List VOp :=
  [zE 4 0 3]
abbrev r41_3 : List VOp :=
  [mv 5 4 3,
   fad 6 29 1 3,
   lda 7 27 6,
   zBM 8 7 27,
   zX 9 3 5 8 4]
abbrev r41_5 : List VOp :=
  [mv 12 3 3,
   fad 13 29 1 3,
   lda 14 27 13,
   mv 15 4 3,
   iad 16 27 14 15,
   lda 17 29 16,
   zBW 18 41 17 29 3,
   zBP 19 12 18,
   asg 3 19 3]
abbrev r41_4 : List VOp :=
  [mv 10 4 3,
   zG 11 10,
   asg 4 11 3]
abbrev r41_6 : List VOp :=
  [mv 20 3 3,
   zG 21 20,
   asg 2 21 3]
def B41 : VC :=
  (.seq (.region r41_0) (.seq (.region r41_1) (.seq (.seq (.region r41_2) (.block 0 (.loop (.seq (.seq (.region r41_3) (.cond (.tmp 9) .skip (.exit 0))) (.seq (.block 1 (.region r41_5)) (.region r41_4)))))) (.seq (.region r41_6) .ret))))
theorem code41 : ∃ c, Tryz.f41.body = some c ∧ abs Tryz.f41.ntmps c = B41 := ⟨_, rfl, by kernel_rfl⟩
theorem hb41 : HasBody Tryz.prog 41 := hasBody_of Tryz.func41 (by kernel_rfl)
theorem enter41 (x0 : Value) : Ent 41 B41 #[(.tmp 2)] [x0] := ent code41 hb41 Tryz.func41 rfl rfl
/-! 45 columbary/columbaryref23.shape (params #[32], results #[(.tmp 2)], 106 slots) -/
@[push_cast] def W45_0 : List Nat := [2, 3, 4, 30, 31, 32, 33, 34, 35, 36, 37, 38, 39, 40, 41, 42, 43, 44]
@[push_cast] def W45_1 : List Nat := [2, 5, 6, 7, 45, 46, 47, 48, 49, 50, 51, 52, 53, 54, 55, 56, 57, 58, 59, 60, 61, 62, 63, 64, 65, 66, 67, 68, 69, 70, 71, 72, 73, 74, 75, 76, 77, 78, 79, 80, 81]
abbrev r45_0 : List VOp :=
  [zBF 1 32 0,
   zC 2]
abbrev r45_1 : List VOp :=
  [fad 8 32 1 0,
   lda 9 25 8,
   zBM 10 9 25,
   zW 11 3 10 1 4,
   mv 12 11 4,
   zCB 13 32 1 0 12,
   zCF 14 25 13 12,
   zBN 15 14 25 12,
   zR 16 15 8 12,
   zCM 17 12 16,
   mv 18 17 4,
   zCB 19 32 1 4 18,
   zCF 20 22 19 18,
   zBN 21 20 22 18,
   zR 22 21 6 18,
   zCM 23 18 22,
   mv 24 23 4,
   zCB 25 32 1 6 24,
   zCF 26 30 25 24,
   zBN 27 26 30 24,
   zR 28 27 8 24,
   zCM 29 24 28]
abbrev r45_2 : List VOp :=
  [zC 2]
abbrev r45_3 : List VOp :=
  [zE 3 0 3]
abbrev r45_4 : List VOp :=
  [mv 30 3 3,
   fad 31 32 1 0,
   lda 32 25 31,
   zBM 33 32 25,
   zX 34 3 30 33 4]
abbrev r45_6 : List VOp :=
  [fad 37 32 1 0,
   lda 38 25 37,
   mv 39 3 3,
   iad 40 25 38 39,
   lda 41 58 40,
   zBW 42 94 41 58 4,
   asg 4 42 4]
abbrev r45_7 : List VOp :=
  [mv 43 4 4,
   zCR 44 43]
abbrev r45_8 : List VOp :=
  [zC 2]
abbrev r45_5 : List VOp :=
  [mv 35 3 3,
   zG 36 35,
   asg 3 36 3]
abbrev r45_9 : List VOp :=
  [zE 5 0 3]
abbrev r45_10 : List VOp :=
  [mv 45 5 3,
   fad 46 32 1 6,
   lda 47 30 46,
   zBM 48 47 30,
   zX 49 3 45 48 4]
abbrev r45_12 : List VOp :=
  [fad 52 32 1 6,
   lda 53 30 52,
   mv 54 5 3,
   iad 55 30 53 54,
   lda 56 103 55,
   zB 6 103,
   zA 103 6 56]
abbrev r45_13 : List VOp :=
  [fad 57 103 6 0,
   lda 58 58 57,
   zBW 59 94 58 58 4,
   asg 7 59 4]
abbrev r45_14 : List VOp :=
  [mv 60 7 4,
   zCR 61 60,
   mv 62 61 4,
   zCB 63 103 6 1 62,
   zCF 64 3 63 62,
   ⟨some 65, .binOp .lss 3 (.tmp 64) (.const (.int .i64 (-1))) 3, 4, some (62, false)⟩,
   zCM 66 62 65,
   mv 67 66 4,
   zCB 68 103 6 1 67,
   zCF 69 3 68 67,
   zR 70 69 1 67,
   zCM 71 67 70,
   mv 72 71 4,
   zCB 73 103 6 2 72,
   zCF 74 3 73 72,
   ⟨some 75, .binOp .lss 3 (.tmp 74) (.const (.int .i64 (-4611686018427387904))) 3, 4, some (72, false)⟩,
   zCM 76 72 75,
   mv 77 76 4,
   zCB 78 103 6 2 77,
   zCF 79 3 78 77,
   zR 80 79 4611686018427387904 77,
   zCM 81 77 80]
abbrev r45_15 : List VOp :=
  [zC 2]
abbrev r45_11 : List VOp :=
  [mv 50 5 3,
   zG 51 50,
   asg 5 51 3]
abbrev r45_16 : List VOp :=
  [fad 82 32 1 5,
   fad 83 29 82 0,
   lda 84 26 83,
   zI 85 26 84 0]
abbrev r45_17 : List VOp :=
  [fad 86 32 1 5,
   fad 87 29 86 3,
   lda 88 27 87,
   zBM 89 88 27,
   zI 90 3 89 0,
   mv 91 90 4,
   zCC 92 32 1 5 91,
   zCC 93 29 92 1 91,
   zCG 94 9 93 91,
   ⟨some 95, .binOp .eql 9 (.tmp 94) (.const (.string { data := #[] })) 9, 4, some (91, true)⟩,
   zCN 96 91 95,
   mv 97 96 4,
   zCC 98 32 1 5 97,
   zCC 99 29 98 2 97,
   zCG 100 9 99 97,
   ⟨some 101, .binOp .eql 9 (.tmp 100) (.const (.string { data := #[] })) 9, 4, some (97, true)⟩,
   zCN 102 97 101,
   asg 2 102 4]
abbrev r45_18 : List VOp :=
  [fad 103 32 1 5,
   lda 104 29 103,
   ⟨some 105, .call ⟨.value (.func 95), #[(.tmp 104), (.const (.int .i64 30))], #[29, 3]⟩, 4, none⟩,
   asg 2 105 4]
def B45 : VC :=
  (.seq (.region r45_0) (.seq (.seq (.region r45_1) (.cond (.tmp 29) (.seq (.region r45_2) .ret) .skip)) (.seq (.seq (.region r45_3) (.block 0 (.loop (.seq (.seq (.region r45_4) (.cond (.tmp 34) .skip (.exit 0))) (.seq (.block 1 (.seq (.region r45_6) (.seq (.region r45_7) (.cond (.tmp 44) (.seq (.region r45_8) .ret) .skip)))) (.region r45_5)))))) (.seq (.seq (.region r45_9) (.block 2 (.loop (.seq (.seq (.region r45_10) (.cond (.tmp 49) .skip (.exit 2))) (.seq (.block 3 (.seq (.region r45_12) (.seq (.region r45_13) (.seq (.region r45_14) (.cond (.tmp 81) (.seq (.region r45_15) .ret) .skip))))) (.region r45_11)))))) (.seq (.seq (.region r45_16) (.cond (.tmp 85) (.seq (.region r45_17) .ret) .skip)) (.seq (.region r45_18) .ret))))))
theorem code45 : ∃ c, Tryz.f45.body = some c ∧ abs Tryz.f45.ntmps c = B45 := ⟨_, rfl, by kernel_rfl⟩
theorem hb45 : HasBody Tryz.prog 45 := hasBody_of Tryz.func45 (by kernel_rfl)
theorem enter45 (x0 : Value) : Ent 45 B45 #[(.tmp 2)] [x0] := ent code45 hb45 Tryz.func45 rfl rfl
/-! 46 columbary/columbaryref23.names (params #[24, 32], results #[(.tmp 4)], 72 slots) -/
@[push_cast] def W46_0 : List Nat := [4, 6, 7, 8, 21, 22, 23, 24, 25, 26, 27, 28, 29, 30, 31, 32, 33, 34, 35, 36, 37, 38]
@[push_cast] def W46_1 : List Nat := [4, 9, 10, 39, 40, 41, 42, 43, 44, 45, 46, 47, 48, 49, 50, 51, 52, 53, 54]
@[push_cast] def W46_2 : List Nat := [4, 11, 12, 55, 56, 57, 58, 59, 60, 61, 62, 63, 64, 65, 66, 67, 68, 69, 70, 71]
abbrev r46_0 : List VOp :=
  [zBF 2 24 0,
   zBF 3 32 1,
   zC 4]
def r46_1 : List (VOp × List Nat) := [(⟨some 13, .buildSlice 22 0 #[], 22, none⟩, []), (⟨some 14, .fieldAddr 32 (.tmp 3) 4, 0, none⟩, [3]), (⟨some 15, .load 22 (.tmp 14), 22, none⟩, [14]), (⟨some 16, .call ⟨.builtin .append, #[.tmp 13, .tmp 15], #[22, 22]⟩, 22, none⟩, [13, 15]), (⟨some 17, .fieldAddr 32 (.tmp 3) 5, 0, none⟩, [3]), (⟨some 18, .load 29 (.tmp 17), 29, none⟩, [17]), (⟨some 19, .call ⟨.value (.func 53), #[.tmp 18], #[29]⟩, 22, none⟩, [18]), (⟨some 20, .call ⟨.builtin .append, #[.tmp 16, .tmp 19], #[22, 22]⟩, 22, none⟩, [16, 19]), (⟨some 5, .assign (.tmp 20), 22, none⟩, [20])]
abbrev r46_2 : List VOp :=
  [zE 6 0 3]
abbrev r46_3 : List VOp :=
  [mv 21 6 3,
   mv 22 5 22,
   zBM 23 22 22,
   zX 24 3 21 23 4]
def r46_5 : List (VOp × List Nat) := [(⟨some 28, .fieldAddr 24 (.tmp 2) 0, 0, none⟩, [2]), (⟨some 29, .load 22 (.tmp 28), 22, none⟩, [28]), (⟨some 30, .move (.tmp 5), 22, none⟩, [5]), (⟨some 31, .move (.tmp 6), 3, none⟩, [6]), (⟨some 32, .indexAddr 22 (.tmp 30) (.tmp 31), 0, none⟩, [30, 31]), (⟨some 33, .load 9 (.tmp 32), 9, none⟩, [32]), (⟨some 34, .call ⟨.value (.func 30), #[.tmp 29, .tmp 33], #[22, 9]⟩, 62, none⟩, [29, 33]), (⟨some 27, .move (.tmp 34), 62, none⟩, [34]), (⟨some 35, .extract (.tmp 27) 0, 3, none⟩, [27]), (⟨some 36, .extract (.tmp 27) 1, 4, none⟩, [27]), (⟨some 7, .assign (.tmp 35), 3, none⟩, [35]), (⟨some 8, .assign (.tmp 36), 4, none⟩, [36])]
abbrev r46_6 : List VOp :=
  [mv 37 8 4,
   zCR 38 37]
abbrev r46_7 : List VOp :=
  [zC 4]
abbrev r46_4 : List VOp :=
  [mv 25 6 3,
   zG 26 25,
   asg 6 26 3]
abbrev r46_8 : List VOp :=
  [zE 9 0 3]
abbrev r46_9 : List VOp :=
  [mv 39 9 3,
   fad 40 32 3 0,
   lda 41 25 40,
   zBM 42 41 25,
   zX 43 3 39 42 4]
def r46_11 : List (VOp × List Nat) := [(⟨some 46, .load 24 (.tmp 2), 24, none⟩, [2]), (⟨some 47, .fieldAddr 32 (.tmp 3) 0, 0, none⟩, [3]), (⟨some 48, .load 25 (.tmp 47), 25, none⟩, [47]), (⟨some 49, .move (.tmp 9), 3, none⟩, [9]), (⟨some 50, .indexAddr 25 (.tmp 48) (.tmp 49), 0, none⟩, [48, 49]), (⟨some 51, .load 58 (.tmp 50), 58, none⟩, [50]), (⟨some 52, .call ⟨.value (.func 96), #[.tmp 46, .tmp 51], #[24, 58]⟩, 4, none⟩, [46, 51]), (⟨some 10, .assign (.tmp 52), 4, none⟩, [52])]
abbrev r46_12 : List VOp :=
  [mv 53 10 4,
   zCR 54 53]
abbrev r46_13 : List VOp :=
  [zC 4]
abbrev r46_10 : List VOp :=
  [mv 44 9 3,
   zG 45 44,
   asg 9 45 3]
abbrev r46_14 : List VOp :=
  [zE 11 0 3]
abbrev r46_15 : List VOp :=
  [mv 55 11 3,
   fad 56 32 3 6,
   lda 57 30 56,
   zBM 58 57 30,
   zX 59 3 55 58 4]
def r46_17 : List (VOp × List Nat) := [(⟨some 62, .load 24 (.tmp 2), 24, none⟩, [2]), (⟨some 63, .fieldAddr 32 (.tmp 3) 6, 0, none⟩, [3]), (⟨some 64, .load 30 (.tmp 63), 30, none⟩, [63]), (⟨some 65, .move (.tmp 11), 3, none⟩, [11]), (⟨some 66, .indexAddr 30 (.tmp 64) (.tmp 65), 0, none⟩, [64, 65]), (⟨some 67, .fieldAddr 103 (.tmp 66) 0, 0, none⟩, [66]), (⟨some 68, .load 58 (.tmp 67), 58, none⟩, [67]), (⟨some 69, .call ⟨.value (.func 96), #[.tmp 62, .tmp 68], #[24, 58]⟩, 4, none⟩, [62, 68]), (⟨some 12, .assign (.tmp 69), 4, none⟩, [69])]
abbrev r46_18 : List VOp :=
  [mv 70 12 4,
   zCR 71 70]
abbrev r46_19 : List VOp :=
  [zC 4]
abbrev r46_16 : List VOp :=
  [mv 60 11 3,
   zG 61 60,
   asg 11 61 3]
abbrev r46_20 : List VOp :=
  [zD 4]
def B46 : VC :=
  (.seq (.region r46_0) (.seq (.draw (dR r46_1) 4) (.seq (.seq (.region r46_2) (.block 0 (.loop (.seq (.seq (.region r46_3) (.cond (.tmp 24) .skip (.exit 0))) (.seq (.block 1 (.seq (.draw (dR r46_5) 2) (.seq (.region r46_6) (.cond (.tmp 38) (.seq (.region r46_7) .ret) .skip)))) (.region r46_4)))))) (.seq (.seq (.region r46_8) (.block 2 (.loop (.seq (.seq (.region r46_9) (.cond (.tmp 43) .skip (.exit 2))) (.seq (.block 3 (.seq (.draw (dR r46_11) 3) (.seq (.region r46_12) (.cond (.tmp 54) (.seq (.region r46_13) .ret) .skip)))) (.region r46_10)))))) (.seq (.seq (.region r46_14) (.block 4 (.loop (.seq (.seq (.region r46_15) (.cond (.tmp 59) .skip (.exit 4))) (.seq (.block 5 (.seq (.draw (dR r46_17) 3) (.seq (.region r46_18) (.cond (.tmp 71) (.seq (.region r46_19) .ret) .skip)))) (.region r46_16)))))) (.seq (.region r46_20) .ret))))))
theorem code46 : ∃ c, Tryz.f46.body = some c ∧ abs Tryz.f46.ntmps c = B46 := ⟨_, rfl, by kernel_rfl⟩
theorem hb46 : HasBody Tryz.prog 46 := hasBody_of Tryz.func46 (by kernel_rfl)
theorem enter46 (x0 x1 : Value) : Ent 46 B46 #[(.tmp 4)] [x0, x1] := ent code46 hb46 Tryz.func46 rfl rfl
@[push_cast] def vr46_1 := vD r46_1.eq_1 rfl 4
@[push_cast] def vr46_5 := vD r46_5.eq_1 rfl 2
@[push_cast] def vr46_11 := vD r46_11.eq_1 rfl 3
@[push_cast] def vr46_17 := vD r46_17.eq_1 rfl 3
/-! 47 columbary/columbaryref23.types (params #[32], results #[(.tmp 2)], 89 slots) -/
@[push_cast] def W47_0 : List Nat := [2, 3, 4, 8, 9, 10, 11, 12, 13, 14, 15, 16, 17, 18, 19, 20, 21, 22, 23, 24, 25, 26, 27, 28, 29, 30]
@[push_cast] def W47_1 : List Nat := [2, 4, 15, 16, 17, 18, 19, 20, 21, 22, 23, 24, 25, 26, 27, 28, 29, 30]
abbrev r47_0 : List VOp :=
  [zBF 1 32 0,
   zC 2]
abbrev r47_1 : List VOp :=
  [zE 3 0 3]
abbrev r47_2 : List VOp :=
  [mv 8 3 3,
   fad 9 32 1 4,
   lda 10 22 9,
   zBM 11 10 22,
   zX 12 3 8 11 4]
abbrev r47_4 : List VOp :=
  [zE 4 0 3]
abbrev r47_5 : List VOp :=
  [mv 15 4 3,
   mv 16 3 3,
   zX 17 3 15 16 4]
def r47_7 : List (VOp × List Nat) := [(⟨some 20, .fieldAddr 32 (.tmp 1) 4, 0, none⟩, [1]), (⟨some 21, .load 22 (.tmp 20), 22, none⟩, [20]), (⟨some 22, .move (.tmp 3), 3, none⟩, [3]), (⟨some 23, .indexAddr 22 (.tmp 21) (.tmp 22), 0, none⟩, [21, 22]), (⟨some 24, .load 9 (.tmp 23), 9, none⟩, [23]), (⟨some 25, .fieldAddr 32 (.tmp 1) 4, 0, none⟩, [1]), (⟨some 26, .load 22 (.tmp 25), 22, none⟩, [25]), (⟨some 27, .move (.tmp 4), 3, none⟩, [4]), (⟨some 28, .indexAddr 22 (.tmp 26) (.tmp 27), 0, none⟩, [26, 27]), (⟨some 29, .load 9 (.tmp 28), 9, none⟩, [28]), (⟨some 30, .binOp .eql 9 (.tmp 24) (.tmp 29) 9, 4, none⟩, [24, 29])]
abbrev r47_8 : List VOp :=
  [zC 2]
abbrev r47_6 : List VOp :=
  [mv 18 4 3,
   zG 19 18,
   asg 4 19 3]
abbrev r47_3 : List VOp :=
  [mv 13 3 3,
   zG 14 13,
   asg 3 14 3]
abbrev r47_9 : List VOp :=
  [fad 31 32 1 5,
   lda 32 29 31,
   zBW 33 97 32 29 4,
   asg 5 33 4]
abbrev r47_10 : List VOp :=
  [fad 34 32 1 3,
   lda 35 3 34,
   zI 36 3 35 0,
   mv 37 36 4,
   zCB 38 32 1 3 37,
   zCF 39 3 38 37,
   zBX 40 98 39 3 37,
   zCM 41 37 40,
   asg 6 41 4]
abbrev r47_11 : List VOp :=
  [fad 42 32 1 0,
   lda 43 25 42,
   zBM 44 43 25,
   asg 7 44 3]
abbrev r47_12 : List VOp :=
  [mv 45 5 4,
   mv 46 45 4,
   zCL 47 6 4 46,
   zCN 48 46 47,
   mv 49 48 4,
   zCC 50 32 1 1 49,
   zCG 51 3 50 49,
   zP 52 3 51 0 4 49,
   zCN 53 49 52,
   mv 54 53 4,
   zCC 55 32 1 1 54,
   zCG 56 3 55 54,
   zCC 57 32 1 2 54,
   zCG 58 3 57 54,
   zY 59 56 58 54,
   zCN 60 54 59,
   mv 61 60 4,
   zCC 62 32 1 2 61,
   zCG 63 3 62 61,
   zT 64 3 63 1099511627776 61,
   zCN 65 61 64,
   mv 66 65 4,
   zCC 67 32 1 7 66,
   zCG 68 3 67 66,
   zCL 69 7 3 66,
   ⟨some 70, .unOp .neg 3 (.tmp 69), 3, some (66, true)⟩,
   ⟨some 71, .binOp .geq 3 (.tmp 68) (.tmp 70) 3, 4, some (66, true)⟩,
   zCN 72 66 71,
   mv 73 72 4,
   zCC 74 32 1 7 73,
   zCG 75 3 74 73,
   zCL 76 7 3 73,
   zV 77 75 76 73,
   zCN 78 73 77,
   mv 79 78 4,
   zCC 80 32 1 8 79,
   zCG 81 3 80 79,
   zP 82 3 81 0 4 79,
   zCN 83 79 82,
   mv 84 83 4,
   zCC 85 32 1 8 84,
   zCG 86 3 85 84,
   zT 87 3 86 1000 84,
   zCN 88 84 87,
   asg 2 88 4]
def B47 : VC :=
  (.seq (.region r47_0) (.seq (.seq (.region r47_1) (.block 0 (.loop (.seq (.seq (.region r47_2) (.cond (.tmp 12) .skip (.exit 0))) (.seq (.block 1 (.seq (.region r47_4) (.block 2 (.loop (.seq (.seq (.region r47_5) (.cond (.tmp 17) .skip (.exit 2))) (.seq (.block 3 (.seq (.draw (dR r47_7) 2) (.cond (.tmp 30) (.seq (.region r47_8) .ret) .skip))) (.region r47_6))))))) (.region r47_3)))))) (.seq (.region r47_9) (.seq (.region r47_10) (.seq (.region r47_11) (.seq (.region r47_12) .ret))))))
theorem code47 : ∃ c, Tryz.f47.body = some c ∧ abs Tryz.f47.ntmps c = B47 := ⟨_, rfl, by kernel_rfl⟩
theorem hb47 : HasBody Tryz.prog 47 := hasBody_of Tryz.func47 (by kernel_rfl)
theorem enter47 (x0 : Value) : Ent 47 B47 #[(.tmp 2)] [x0] := ent code47 hb47 Tryz.func47 rfl rfl
@[push_cast] def vr47_7 := vD r47_7.eq_1 rfl 2
/-! 53 columbary/columbaryref23.dims (params #[29], results #[(.tmp 2)], 34 slots) -/
@[push_cast] def W53_0 : List Nat := [3, 4, 18, 19, 20, 21, 22, 23, 24, 25, 26, 27, 28, 29, 30, 31, 32]
abbrev r53_0 : List VOp :=
  [zBF 1 29 0,
   zF 2 22]
abbrev r53_1 : List VOp :=
  [zF 3 22]
abbrev r53_2 : List VOp :=
  [fad 5 29 1 0,
   lda 6 26 5,
   zI 7 26 6 1,
   mv 8 7 4,
   zCB 9 29 1 0 8,
   zCF 10 26 9 8,
   zJ 11 26 10 2 8,
   zCM 12 8 11]
abbrev r53_3 : List VOp :=
  [mv 13 3 22,
   fad 14 29 1 1,
   lda 15 9 14,
   zBJ 16 22 15,
   zBL 17 13 16 22,
   asg 3 17 22]
abbrev r53_4 : List VOp :=
  [zE 4 0 3]
abbrev r53_5 : List VOp :=
  [mv 18 4 3,
   fad 19 29 1 3,
   lda 20 27 19,
   zBM 21 20 27,
   zX 22 3 18 21 4]
abbrev r53_7 : List VOp :=
  [mv 25 3 22,
   fad 26 29 1 3,
   lda 27 27 26,
   mv 28 4 3,
   iad 29 27 27 28,
   lda 30 29 29,
   zBW 31 53 30 29 22,
   zBL 32 25 31 22,
   asg 3 32 22]
abbrev r53_6 : List VOp :=
  [mv 23 4 3,
   zG 24 23,
   asg 4 24 3]
abbrev r53_8 : List VOp :=
  [mv 33 3 22,
   asg 2 33 22]
def B53 : VC :=
  (.seq (.region r53_0) (.seq (.region r53_1) (.seq (.seq (.region r53_2) (.cond (.tmp 12) (.region r53_3) .skip)) (.seq (.seq (.region r53_4) (.block 0 (.loop (.seq (.seq (.region r53_5) (.cond (.tmp 22) .skip (.exit 0))) (.seq (.block 1 (.region r53_7)) (.region r53_6)))))) (.seq (.region r53_8) .ret)))))
theorem code53 : ∃ c, Tryz.f53.body = some c ∧ abs Tryz.f53.ntmps c = B53 := ⟨_, rfl, by kernel_rfl⟩
theorem hb53 : HasBody Tryz.prog 53 := hasBody_of Tryz.func53 (by kernel_rfl)
theorem enter53 (x0 : Value) : Ent 53 B53 #[(.tmp 2)] [x0] := ent code53 hb53 Tryz.func53 rfl rfl
/-! 60 cmp.Compare[int] (params #[3, 3], results #[(.tmp 4)], 20 slots) -/
abbrev r60_0 : List VOp :=
  [zE 4 0 3]
abbrev r60_1 : List VOp :=
  [mv 7 0 3,
   zBW 8 109 7 3 4,
   asg 5 8 4]
abbrev r60_2 : List VOp :=
  [mv 9 1 3,
   zBW 10 109 9 3 4,
   asg 6 10 4]
abbrev r60_3 : List VOp :=
  [mv 11 5 4]
abbrev r60_4 : List VOp :=
  [mv 12 6 4]
abbrev r60_5 : List VOp :=
  [zE 4 0 3]
abbrev r60_6 : List VOp :=
  [⟨some 4, .assign (.const (.int .i64 (-1))), 3, none⟩]
abbrev r60_7 : List VOp :=
  [mv 13 6 4]
abbrev r60_8 : List VOp :=
  [zE 4 1 3]
abbrev r60_9 : List VOp :=
  [mv 14 0 3,
   mv 15 1 3,
   zX 16 3 14 15 4]
abbrev r60_10 : List VOp :=
  [⟨some 4, .assign (.const (.int .i64 (-1))), 3, none⟩]
abbrev r60_11 : List VOp :=
  [mv 17 0 3,
   mv 18 1 3,
   zS 19 3 17 18]
abbrev r60_12 : List VOp :=
  [zE 4 1 3]
abbrev r60_13 : List VOp :=
  [zE 4 0 3]
def B60 : VC :=
  (.seq (.region r60_0) (.seq (.region r60_1) (.seq (.region r60_2) (.seq (.seq (.region r60_3) (.cond (.tmp 11) (.seq (.seq (.region r60_4) (.cond (.tmp 12) (.seq (.region r60_5) .ret) .skip)) (.seq (.region r60_6) .ret)) .skip)) (.seq (.seq (.region r60_7) (.cond (.tmp 13) (.seq (.region r60_8) .ret) .skip)) (.seq (.seq (.region r60_9) (.cond (.tmp 16) (.seq (.region r60_10) .ret) .skip)) (.seq (.seq (.region r60_11) (.cond (.tmp 19) (.seq (.region r60_12) .ret) .skip)) (.seq (.region r60_13) .ret))))))))
theorem code60 : ∃ c, Tryz.f60.body = some c ∧ abs Tryz.f60.ntmps c = B60 := ⟨_, rfl, by kernel_rfl⟩
theorem hb60 : HasBody Tryz.prog 60 := hasBody_of Tryz.func60 (by kernel_rfl)
theorem enter60 (x0 x1 : Value) : Ent 60 B60 #[(.tmp 4)] [x0, x1] := ent code60 hb60 Tryz.func60 rfl rfl
/-! 76 columbary/columbaryref10.Name (params #[9], results #[(.tmp 2)], 71 slots) -/
@[push_cast] def W76_0 : List Nat := [2, 4, 9, 10, 11, 12, 13, 14, 15, 16, 17, 18, 19, 20]
@[push_cast] def W76_1 : List Nat := [2, 5, 6, 7, 21, 22, 23, 24, 25, 26, 27, 28, 29, 30, 31, 32, 33, 34, 35, 36, 37, 38, 39, 40, 41, 42, 43, 44, 45, 46, 47, 48, 49, 50, 51, 52, 53, 54, 55, 56, 57, 58, 59, 60, 61, 62]
abbrev r76_0 : List VOp :=
  [zC 2]
abbrev r76_1 : List VOp :=
  [zBY 8 118 22,
   asg 3 8 22]
abbrev r76_2 : List VOp :=
  [zE 4 0 3]
abbrev r76_3 : List VOp :=
  [mv 9 4 3,
   mv 10 3 22,
   zBM 11 10 22,
   zX 12 3 9 11 4]
abbrev r76_5 : List VOp :=
  [mv 15 3 22,
   mv 16 4 3,
   iad 17 22 15 16,
   lda 18 9 17,
   mv 19 0 9,
   zM 20 9 18 19]
abbrev r76_6 : List VOp :=
  [zC 2]
abbrev r76_4 : List VOp :=
  [mv 13 4 3,
   zG 14 13,
   asg 4 14 3]
abbrev r76_7 : List VOp :=
  [zE 5 0 3]
abbrev r76_8 : List VOp :=
  [mv 21 5 3,
   mv 22 0 9,
   zBM 23 22 9,
   zX 24 3 21 23 4]
abbrev r76_10 : List VOp :=
  [mv 27 0 9,
   mv 28 5 3,
   ⟨some 29, .index 9 (.tmp 27) (.tmp 28), 5, none⟩,
   ⟨some 30, .binOp .geq 5 (.tmp 29) (.const (.int .u8 97)) 5, 4, none⟩,
   mv 31 30 4,
   zCL 32 0 9 31,
   zCL 33 5 3 31,
   ⟨some 34, .index 9 (.tmp 32) (.tmp 33), 5, some (31, true)⟩,
   ⟨some 35, .binOp .leq 5 (.tmp 34) (.const (.int .u8 122)) 5, 4, some (31, true)⟩,
   zCN 36 31 35,
   asg 6 36 4]
abbrev r76_11 : List VOp :=
  [mv 37 0 9,
   mv 38 5 3,
   ⟨some 39, .index 9 (.tmp 37) (.tmp 38), 5, none⟩,
   ⟨some 40, .binOp .geq 5 (.tmp 39) (.const (.int .u8 48)) 5, 4, none⟩,
   mv 41 40 4,
   zCL 42 0 9 41,
   zCL 43 5 3 41,
   ⟨some 44, .index 9 (.tmp 42) (.tmp 43), 5, some (41, true)⟩,
   ⟨some 45, .binOp .leq 5 (.tmp 44) (.const (.int .u8 57)) 5, 4, some (41, true)⟩,
   zCN 46 41 45,
   mv 47 46 4,
   zCK 48 0 9 47,
   zCK 49 5 3 47,
   zCD 50 48 49 47,
   zL 51 5 50 95 4 47,
   zCM 52 47 51,
   asg 7 52 4]
abbrev r76_12 : List VOp :=
  [mv 53 6 4,
   zCR 54 53,
   mv 55 54 4,
   zCL 56 7 4 55,
   ⟨some 57, .unOp .not 4 (.tmp 56), 4, some (55, true)⟩,
   zCL 58 57 4 55,
   zCK 59 5 3 58,
   zJ 60 3 59 0 58,
   ⟨some 61, .pick (.tmp 58) (.const (.bool true)) (.tmp 60), 4, some (55, true)⟩,
   zCN 62 55 61]
abbrev r76_13 : List VOp :=
  [zC 2]
abbrev r76_9 : List VOp :=
  [mv 25 5 3,
   zG 26 25,
   asg 5 26 3]
abbrev r76_14 : List VOp :=
  [mv 63 0 9,
   zBM 64 63 9,
   zO 65 3 64 1,
   mv 66 65 4,
   zCL 67 0 9 66,
   zBO 68 67 9 66,
   zT 69 3 68 12 66,
   zCN 70 66 69,
   asg 2 70 4]
def B76 : VC :=
  (.seq (.region r76_0) (.seq (.region r76_1) (.seq (.seq (.region r76_2) (.block 0 (.loop (.seq (.seq (.region r76_3) (.cond (.tmp 12) .skip (.exit 0))) (.seq (.block 1 (.seq (.region r76_5) (.cond (.tmp 20) (.seq (.region r76_6) .ret) .skip))) (.region r76_4)))))) (.seq (.seq (.region r76_7) (.block 2 (.loop (.seq (.seq (.region r76_8) (.cond (.tmp 24) .skip (.exit 2))) (.seq (.block 3 (.seq (.region r76_10) (.seq (.region r76_11) (.seq (.region r76_12) (.cond (.tmp 62) (.seq (.region r76_13) .ret) .skip))))) (.region r76_9)))))) (.seq (.region r76_14) .ret)))))
theorem code76 : ∃ c, Tryz.f76.body = some c ∧ abs Tryz.f76.ntmps c = B76 := ⟨_, rfl, by kernel_rfl⟩
theorem hb76 : HasBody Tryz.prog 76 := hasBody_of Tryz.func76 (by kernel_rfl)
theorem enter76 (x0 : Value) : Ent 76 B76 #[(.tmp 2)] [x0] := ent code76 hb76 Tryz.func76 rfl rfl
/-! 94 columbary/columbaryref23.term (params #[58], results #[(.tmp 2)], 20 slots) -/
abbrev r94_0 : List VOp :=
  [zBF 1 58 0,
   zC 2]
abbrev r94_1 : List VOp :=
  [fad 3 58 1 0,
   lda 4 56 3,
   zO 5 56 4 0,
   mv 6 5 4,
   zCC 7 58 1 0 6,
   zCG 8 56 7 6,
   zT 9 56 8 3 6,
   zCN 10 6 9,
   mv 11 10 4,
   zCC 12 58 1 0 11,
   zCG 13 56 12 11,
   zK 14 56 13 0 11,
   zCC 15 58 1 1 11,
   zCG 16 9 15 11,
   ⟨some 17, .binOp .eql 9 (.tmp 16) (.const (.string { data := #[] })) 9, 4, some (11, true)⟩,
   zN 18 4 14 17 11,
   zCN 19 11 18,
   asg 2 19 4]
def B94 : VC :=
  (.seq (.region r94_0) (.seq (.region r94_1) .ret))
theorem code94 : ∃ c, Tryz.f94.body = some c ∧ abs Tryz.f94.ntmps c = B94 := ⟨_, rfl, by kernel_rfl⟩
theorem hb94 : HasBody Tryz.prog 94 := hasBody_of Tryz.func94 (by kernel_rfl)
theorem enter94 (x0 : Value) : Ent 94 B94 #[(.tmp 2)] [x0] := ent code94 hb94 Tryz.func94 rfl rfl
/-! 95 columbary/columbaryref23.form (params #[29, 3], results #[(.tmp 4)], 72 slots) -/
@[push_cast] def W95_0 : List Nat := [4, 6, 7, 13, 14, 15, 16, 17, 18, 19, 20, 21, 22, 23, 24, 25, 26, 27]
abbrev r95_0 : List VOp :=
  [zBF 2 29 0,
   zC 4]
abbrev r95_1 : List VOp :=
  [fad 8 29 2 3,
   lda 9 27 8,
   zBM 10 9 27,
   asg 5 10 3]
abbrev r95_2 : List VOp :=
  [mv 11 1 3,
   zI 12 3 11 0]
abbrev r95_3 : List VOp :=
  [zC 4]
abbrev r95_4 : List VOp :=
  [zE 6 0 3]
abbrev r95_5 : List VOp :=
  [mv 13 6 3,
   mv 14 5 3,
   zX 15 3 13 14 4]
abbrev r95_7 : List VOp :=
  [fad 18 29 2 3,
   lda 19 27 18,
   mv 20 6 3,
   iad 21 27 19 20,
   lda 22 29 21,
   mv 23 1 3,
   zBD 24 23,
   zBU 25 95 22 24 29 3 4,
   asg 7 25 4]
abbrev r95_8 : List VOp :=
  [mv 26 7 4,
   zCR 27 26]
abbrev r95_9 : List VOp :=
  [zC 4]
abbrev r95_6 : List VOp :=
  [mv 16 6 3,
   zG 17 16,
   asg 6 17 3]
abbrev r95_10 : List VOp :=
  [fad 28 29 2 0,
   lda 29 26 28]
abbrev r95_11 : List VOp :=
  [zI 31 26 29 1,
   asg 30 31 4]
abbrev r95_12 : List VOp :=
  [mv 32 5 3,
   zI 33 3 32 0,
   asg 4 33 4]
abbrev r95_13 : List VOp :=
  [zI 35 26 29 2,
   asg 34 35 4]
abbrev r95_14 : List VOp :=
  [mv 36 5 3,
   zI 37 3 36 0,
   mv 38 37 4,
   zCC 39 29 2 2 38,
   zCG 40 9 39 38,
   ⟨some 41, .binOp .eql 9 (.tmp 40) (.const (.string { data := #[] })) 9, 4, some (38, true)⟩,
   zCN 42 38 41,
   asg 4 42 4]
abbrev r95_15 : List VOp :=
  [zI 44 26 29 3,
   asg 43 44 4]
abbrev r95_16 : List VOp :=
  [mv 45 5 3,
   zI 46 3 45 1,
   mv 47 46 4,
   zCC 48 29 2 1 47,
   zCG 49 9 48 47,
   ⟨some 50, .binOp .eql 9 (.tmp 49) (.const (.string { data := #[] })) 9, 4, some (47, true)⟩,
   zCN 51 47 50,
   mv 52 51 4,
   zCC 53 29 2 2 52,
   zCG 54 9 53 52,
   ⟨some 55, .binOp .eql 9 (.tmp 54) (.const (.string { data := #[] })) 9, 4, some (52, true)⟩,
   zCN 56 52 55,
   asg 4 56 4]
abbrev r95_17 : List VOp :=
  [zI 58 26 29 4,
   asg 57 58 4]
abbrev r95_18 : List VOp :=
  [zI 59 26 29 5,
   asg 57 59 4]
abbrev r95_19 : List VOp :=
  [mv 60 5 3,
   zO 61 3 60 2,
   mv 62 61 4,
   zCC 63 29 2 1 62,
   zCG 64 9 63 62,
   ⟨some 65, .binOp .eql 9 (.tmp 64) (.const (.string { data := #[] })) 9, 4, some (62, true)⟩,
   zCN 66 62 65,
   mv 67 66 4,
   zCC 68 29 2 2 67,
   zCG 69 9 68 67,
   ⟨some 70, .binOp .eql 9 (.tmp 69) (.const (.string { data := #[] })) 9, 4, some (67, true)⟩,
   zCN 71 67 70,
   asg 4 71 4]
abbrev r95_20 : List VOp :=
  [zC 4]
def B95 : VC :=
  (.seq (.region r95_0) (.seq (.region r95_1) (.seq (.seq (.region r95_2) (.cond (.tmp 12) (.seq (.region r95_3) .ret) .skip)) (.seq (.seq (.region r95_4) (.block 0 (.loop (.seq (.seq (.region r95_5) (.cond (.tmp 15) .skip (.exit 0))) (.seq (.block 1 (.seq (.region r95_7) (.seq (.region r95_8) (.cond (.tmp 27) (.seq (.region r95_9) .ret) .skip)))) (.region r95_6)))))) (.seq (.seq (.region r95_10) (.block 2 (.seq (.region r95_11) (.cond (.tmp 30) (.seq (.region r95_12) .ret) (.seq (.region r95_13) (.cond (.tmp 34) (.seq (.region r95_14) .ret) (.seq (.region r95_15) (.cond (.tmp 43) (.seq (.region r95_16) .ret) (.seq (.seq (.region r95_17) (.cond (.tmp 57) .skip (.region r95_18))) (.cond (.tmp 57) (.seq (.region r95_19) .ret) .skip)))))))))) (.seq (.region r95_20) .ret))))))
theorem code95 : ∃ c, Tryz.f95.body = some c ∧ abs Tryz.f95.ntmps c = B95 := ⟨_, rfl, by kernel_rfl⟩
theorem hb95 : HasBody Tryz.prog 95 := hasBody_of Tryz.func95 (by kernel_rfl)
theorem enter95 (x0 x1 : Value) : Ent 95 B95 #[(.tmp 4)] [x0, x1] := ent code95 hb95 Tryz.func95 rfl rfl
/-! 96 columbary/columbaryref23.metric (params #[24, 58], results #[(.tmp 4)], 21 slots) -/
abbrev r96_0 : List VOp :=
  [zBF 2 24 0,
   zBF 3 58 1,
   zC 4]
abbrev r96_1 : List VOp :=
  [fad 8 24 2 1,
   lda 9 22 8,
   fad 10 58 3 1,
   lda 11 9 10,
   zBU 12 30 9 11 22 9 62,
   mv 7 12 62,
   ext 13 7 0 3,
   ext 14 7 1 4,
   asg 5 13 3,
   asg 6 14 4]
abbrev r96_2 : List VOp :=
  [fad 15 58 3 0,
   lda 16 56 15,
   zI 17 56 16 0,
   mv 18 17 4,
   zCK 19 6 4 18,
   zCM 20 18 19,
   asg 4 20 4]
def B96 : VC :=
  (.seq (.region r96_0) (.seq (.region r96_1) (.seq (.region r96_2) .ret)))
theorem code96 : ∃ c, Tryz.f96.body = some c ∧ abs Tryz.f96.ntmps c = B96 := ⟨_, rfl, by kernel_rfl⟩
theorem hb96 : HasBody Tryz.prog 96 := hasBody_of Tryz.func96 (by kernel_rfl)
theorem enter96 (x0 x1 : Value) : Ent 96 B96 #[(.tmp 4)] [x0, x1] := ent code96 hb96 Tryz.func96 rfl rfl
/-! 97 columbary/columbaryref23.values (params #[29], results #[(.tmp 2)], 27 slots) -/
@[push_cast] def W97_0 : List Nat := [3, 4, 5, 9, 10, 11, 12, 13, 14, 15, 16, 17, 18, 19, 20, 21, 22, 23, 24, 25]
abbrev r97_0 : List VOp :=
  [zBF 1 29 0,
   zC 2]
abbrev r97_1 : List VOp :=
  [fad 6 29 1 2,
   lda 7 9 6,
   zBW 8 103 7 9 4,
   asg 3 8 4]
abbrev r97_2 : List VOp :=
  [zE 4 0 3]
abbrev r97_3 : List VOp :=
  [mv 9 4 3,
   fad 10 29 1 3,
   lda 11 27 10,
   zBM 12 11 27,
   zX 13 3 9 12 4]
abbrev r97_5 : List VOp :=
  [fad 16 29 1 3,
   lda 17 27 16,
   mv 18 4 3,
   iad 19 27 17 18,
   lda 20 29 19,
   zBW 21 97 20 29 4,
   asg 5 21 4]
abbrev r97_6 : List VOp :=
  [mv 22 3 4,
   mv 23 22 4,
   zCL 24 5 4 23,
   zCN 25 23 24,
   asg 3 25 4]
abbrev r97_4 : List VOp :=
  [mv 14 4 3,
   zG 15 14,
   asg 4 15 3]
abbrev r97_7 : List VOp :=
  [mv 26 3 4,
   asg 2 26 4]
def B97 : VC :=
  (.seq (.region r97_0) (.seq (.region r97_1) (.seq (.seq (.region r97_2) (.block 0 (.loop (.seq (.seq (.region r97_3) (.cond (.tmp 13) .skip (.exit 0))) (.seq (.block 1 (.seq (.region r97_5) (.region r97_6))) (.region r97_4)))))) (.seq (.region r97_7) .ret))))
theorem code97 : ∃ c, Tryz.f97.body = some c ∧ abs Tryz.f97.ntmps c = B97 := ⟨_, rfl, by kernel_rfl⟩
theorem hb97 : HasBody Tryz.prog 97 := hasBody_of Tryz.func97 (by kernel_rfl)
theorem enter97 (x0 : Value) : Ent 97 B97 #[(.tmp 2)] [x0] := ent code97 hb97 Tryz.func97 rfl rfl
/-! 98 columbary/columbaryref11.Right (params #[3], results #[(.tmp 2)], 9 slots) -/
abbrev r98_0 : List VOp :=
  [zC 2]
abbrev r98_1 : List VOp :=
  [mv 3 0 3,
   zO 4 3 3 1,
   mv 5 4 4,
   zCL 6 0 3 5,
   zT 7 3 6 1048576 5,
   zCN 8 5 7,
   asg 2 8 4]
def B98 : VC :=
  (.seq (.region r98_0) (.seq (.region r98_1) .ret))
theorem code98 : ∃ c, Tryz.f98.body = some c ∧ abs Tryz.f98.ntmps c = B98 := ⟨_, rfl, by kernel_rfl⟩
theorem hb98 : HasBody Tryz.prog 98 := hasBody_of Tryz.func98 (by kernel_rfl)
theorem enter98 (x0 : Value) : Ent 98 B98 #[(.tmp 2)] [x0] := ent code98 hb98 Tryz.func98 rfl rfl
/-! 103 columbary/columbaryref10.Value (params #[9], results #[(.tmp 2)], 35 slots) -/
@[push_cast] def W103_0 : List Nat := [2, 3, 4, 5, 6, 7, 8, 9, 10, 11, 12, 13, 14, 15, 16, 17, 18, 19, 20, 21, 22, 23, 24, 25, 26, 27, 28, 29, 30, 31]
abbrev r103_0 : List VOp :=
  [zC 2]
abbrev r103_1 : List VOp :=
  [zE 3 0 3]
abbrev r103_2 : List VOp :=
  [mv 4 3 3,
   mv 5 0 9,
   zBM 6 5 9,
   zX 7 3 4 6 4]
abbrev r103_4 : List VOp :=
  [mv 10 0 9,
   mv 11 3 3,
   ⟨some 12, .index 9 (.tmp 10) (.tmp 11), 5, none⟩,
   ⟨some 13, .binOp .lss 5 (.tmp 12) (.const (.int .u8 32)) 5, 4, none⟩,
   mv 14 13 4,
   zCK 15 0 9 14,
   zCK 16 3 3 14,
   zCD 17 15 16 14,
   ⟨some 18, .binOp .gtr 5 (.tmp 17) (.const (.int .u8 126)) 5, 4, some (14, false)⟩,
   zCM 19 14 18,
   mv 20 19 4,
   zCK 21 0 9 20,
   zCK 22 3 3 20,
   zCD 23 21 22 20,
   zL 24 5 23 34 4 20,
   zCM 25 20 24,
   mv 26 25 4,
   zCK 27 0 9 26,
   zCK 28 3 3 26,
   zCD 29 27 28 26,
   zL 30 5 29 92 4 26,
   zCM 31 26 30]
abbrev r103_5 : List VOp :=
  [zC 2]
abbrev r103_3 : List VOp :=
  [mv 8 3 3,
   zG 9 8,
   asg 3 9 3]
abbrev r103_6 : List VOp :=
  [mv 32 0 9,
   zBM 33 32 9,
   ⟨some 34, .binOp .leq 3 (.tmp 33) (.const (.int .i64 24)) 3, 4, none⟩,
   asg 2 34 4]
def B103 : VC :=
  (.seq (.region r103_0) (.seq (.seq (.region r103_1) (.block 0 (.loop (.seq (.seq (.region r103_2) (.cond (.tmp 7) .skip (.exit 0))) (.seq (.block 1 (.seq (.region r103_4) (.cond (.tmp 31) (.seq (.region r103_5) .ret) .skip))) (.region r103_3)))))) (.seq (.region r103_6) .ret)))
theorem code103 : ∃ c, Tryz.f103.body = some c ∧ abs Tryz.f103.ntmps c = B103 := ⟨_, rfl, by kernel_rfl⟩
theorem hb103 : HasBody Tryz.prog 103 := hasBody_of Tryz.func103 (by kernel_rfl)
theorem enter103 (x0 : Value) : Ent 103 B103 #[(.tmp 2)] [x0] := ent code103 hb103 Tryz.func103 rfl rfl
/-! 109 cmp.isNaN[int] (params #[3], results #[(.tmp 2)], 6 slots) -/
abbrev r109_0 : List VOp :=
  [zC 2]
abbrev r109_1 : List VOp :=
  [mv 3 0 3,
   mv 4 0 3,
   zBB 5 3 3 4,
   asg 2 5 4]
def B109 : VC :=
  (.seq (.region r109_0) (.seq (.region r109_1) .ret))
theorem code109 : ∃ c, Tryz.f109.body = some c ∧ abs Tryz.f109.ntmps c = B109 := ⟨_, rfl, by kernel_rfl⟩
theorem hb109 : HasBody Tryz.prog 109 := hasBody_of Tryz.func109 (by kernel_rfl)
theorem enter109 (x0 : Value) : Ent 109 B109 #[(.tmp 2)] [x0] := ent code109 hb109 Tryz.func109 rfl rfl
/-! 114 cmp.Or[int] (params #[59], results #[(.tmp 2)], 18 slots) -/
@[push_cast] def W114_0 : List Nat := [2, 5, 8, 9, 10, 11, 12, 13, 14, 15, 16]
abbrev r114_0 : List VOp :=
  [zE 2 0 3]
abbrev r114_1 : List VOp :=
  [zE 3 0 3]
abbrev r114_2 : List VOp :=
  [mv 6 0 59,
   zBM 7 6 59,
   zCJ 8]
abbrev r114_3 : List VOp :=
  [zX 9 3 8 7 0]
abbrev r114_4 : List VOp :=
  [iad 10 59 6 8,
   lda 11 3 10,
   asg 5 11 3]
abbrev r114_5 : List VOp :=
  [mv 12 5 3,
   mv 13 3 3,
   zBB 14 3 12 13]
abbrev r114_6 : List VOp :=
  [mv 15 5 3,
   asg 2 15 3]
abbrev r114_7 : List VOp :=
  [zG 16 8,
   mv 8 16 3]
abbrev r114_8 : List VOp :=
  [mv 17 3 3,
   asg 2 17 3]
def B114 : VC :=
  (.seq (.region r114_0) (.seq (.region r114_1) (.seq (.seq (.region r114_2) (.block 0 (.loop (.seq (.region r114_3) (.seq (.cond (.tmp 9) .skip (.exit 0)) (.seq (.block 1 (.seq (.region r114_4) (.seq (.region r114_5) (.cond (.tmp 14) (.seq (.region r114_6) .ret) .skip)))) (.region r114_7))))))) (.seq (.region r114_8) .ret))))
theorem code114 : ∃ c, Tryz.f114.body = some c ∧ abs Tryz.f114.ntmps c = B114 := ⟨_, rfl, by kernel_rfl⟩
theorem hb114 : HasBody Tryz.prog 114 := hasBody_of Tryz.func114 (by kernel_rfl)
theorem enter114 (x0 : Value) : Ent 114 B114 #[(.tmp 2)] [x0] := ent code114 hb114 Tryz.func114 rfl rfl
/-! 115 slices.Compare[[]string,string] (params #[22, 22], results #[(.tmp 4)], 36 slots) -/
@[push_cast] def W115_0 : List Nat := [4, 5, 6, 7, 8, 11, 12, 13, 14, 15, 16, 17, 18, 19, 20, 21, 22, 23, 24, 25, 26, 27, 28, 29, 30]
abbrev r115_0 : List VOp :=
  [zE 4 0 3]
abbrev r115_1 : List VOp :=
  [mv 9 0 22,
   zBM 10 9 22,
   zCJ 11]
abbrev r115_2 : List VOp :=
  [zX 12 3 11 10 0]
abbrev r115_3 : List VOp :=
  [mv 13 11 3,
   iad 14 22 9 11,
   lda 15 9 14,
   asg 5 13 3,
   asg 6 15 9]
abbrev r115_4 : List VOp :=
  [mv 16 5 3,
   mv 17 1 22,
   zBM 18 17 22,
   ⟨some 19, .binOp .geq 3 (.tmp 16) (.tmp 18) 3, 4, none⟩]
abbrev r115_5 : List VOp :=
  [zE 4 1 3]
abbrev r115_6 : List VOp :=
  [mv 20 1 22,
   mv 21 5 3,
   iad 22 22 20 21,
   lda 23 9 22,
   asg 7 23 9]
abbrev r115_7 : List VOp :=
  [mv 24 6 9,
   mv 25 7 9,
   zBU 26 140 24 25 9 9 3,
   asg 8 26 3]
abbrev r115_8 : List VOp :=
  [mv 27 8 3,
   zBA 28 3 27]
abbrev r115_9 : List VOp :=
  [mv 29 8 3,
   asg 4 29 3]
abbrev r115_10 : List VOp :=
  [zG 30 11,
   mv 11 30 3]
abbrev r115_11 : List VOp :=
  [mv 31 0 22,
   zBM 32 31 22,
   mv 33 1 22,
   zBM 34 33 22,
   zX 35 3 32 34 4]
abbrev r115_12 : List VOp :=
  [⟨some 4, .assign (.const (.int .i64 (-1))), 3, none⟩]
abbrev r115_13 : List VOp :=
  [zE 4 0 3]
def B115 : VC :=
  (.seq (.region r115_0) (.seq (.seq (.region r115_1) (.block 0 (.loop (.seq (.region r115_2) (.seq (.cond (.tmp 12) .skip (.exit 0)) (.seq (.block 1 (.seq (.region r115_3) (.seq (.seq (.region r115_4) (.cond (.tmp 19) (.seq (.region r115_5) .ret) .skip)) (.seq (.region r115_6) (.seq (.region r115_7) (.seq (.region r115_8) (.cond (.tmp 28) (.seq (.region r115_9) .ret) .skip))))))) (.region r115_10))))))) (.seq (.seq (.region r115_11) (.cond (.tmp 35) (.seq (.region r115_12) .ret) .skip)) (.seq (.region r115_13) .ret))))
theorem code115 : ∃ c, Tryz.f115.body = some c ∧ abs Tryz.f115.ntmps c = B115 := ⟨_, rfl, by kernel_rfl⟩
theorem hb115 : HasBody Tryz.prog 115 := hasBody_of Tryz.func115 (by kernel_rfl)
theorem enter115 (x0 x1 : Value) : Ent 115 B115 #[(.tmp 4)] [x0, x1] := ent code115 hb115 Tryz.func115 rfl rfl
/-! 118 columbary/columbaryref10.words (params #[], results #[(.tmp 0)], 2 slots) -/
abbrev r118_0 : List VOp :=
  [zF 0 22]
abbrev r118_1 : List VOp :=
  [⟨some 1, .buildSlice 22 20 #[(0, (.const (.string { data := #[99, 111, 117, 110, 116] }))), (1, (.const (.string { data := #[115, 117, 109] }))), (2, (.const (.string { data := #[109, 105, 110] }))), (3, (.const (.string { data := #[109, 97, 120] }))), (4, (.const (.string { data := #[102, 114, 111, 109] }))), (5, (.const (.string { data := #[116, 111] }))), (6, (.const (.string { data := #[98, 121] }))), (7, (.const (.string { data := #[101, 118, 101, 114, 121] }))), (8, (.const (.string { data := #[119, 104, 101, 114, 101] }))), (9, (.const (.string { data := #[104, 97, 118, 105, 110, 103] }))), (10, (.const (.string { data := #[111, 114, 100, 101, 114] }))), (11, (.const (.string { data := #[108, 105, 109, 105, 116] }))), (12, (.const (.string { data := #[97, 110, 100] }))), (13, (.const (.string { data := #[111, 114] }))), (14, (.const (.string { data := #[110, 111, 116] }))), (15, (.const (.string { data := #[105, 115] }))), (16, (.const (.string { data := #[110, 117, 108, 108] }))), (17, (.const (.string { data := #[97, 115, 99] }))), (18, (.const (.string { data := #[100, 101, 115, 99] }))), (19, (.const (.string { data := #[115, 101, 108, 101, 99, 116] })))], 22, none⟩,
   asg 0 1 22]
def B118 : VC :=
  (.seq (.region r118_0) (.seq (.region r118_1) .ret))
theorem code118 : ∃ c, Tryz.f118.body = some c ∧ abs Tryz.f118.ntmps c = B118 := ⟨_, rfl, by kernel_rfl⟩
theorem hb118 : HasBody Tryz.prog 118 := hasBody_of Tryz.func118 (by kernel_rfl)
theorem enter118 : Ent 118 B118 #[(.tmp 0)] [] := ent code118 hb118 Tryz.func118 rfl rfl
/-! 140 cmp.Compare[string] (params #[9, 9], results #[(.tmp 4)], 20 slots) -/
abbrev r140_0 : List VOp :=
  [zE 4 0 3]
abbrev r140_1 : List VOp :=
  [mv 7 0 9,
   zBW 8 149 7 9 4,
   asg 5 8 4]
abbrev r140_2 : List VOp :=
  [mv 9 1 9,
   zBW 10 149 9 9 4,
   asg 6 10 4]
abbrev r140_3 : List VOp :=
  [mv 11 5 4]
abbrev r140_4 : List VOp :=
  [mv 12 6 4]
abbrev r140_5 : List VOp :=
  [zE 4 0 3]
abbrev r140_6 : List VOp :=
  [⟨some 4, .assign (.const (.int .i64 (-1))), 3, none⟩]
abbrev r140_7 : List VOp :=
  [mv 13 6 4]
abbrev r140_8 : List VOp :=
  [zE 4 1 3]
abbrev r140_9 : List VOp :=
  [mv 14 0 9,
   mv 15 1 9,
   zX 16 9 14 15 4]
abbrev r140_10 : List VOp :=
  [⟨some 4, .assign (.const (.int .i64 (-1))), 3, none⟩]
abbrev r140_11 : List VOp :=
  [mv 17 0 9,
   mv 18 1 9,
   zS 19 9 17 18]
abbrev r140_12 : List VOp :=
  [zE 4 1 3]
abbrev r140_13 : List VOp :=
  [zE 4 0 3]
def B140 : VC :=
  (.seq (.region r140_0) (.seq (.region r140_1) (.seq (.region r140_2) (.seq (.seq (.region r140_3) (.cond (.tmp 11) (.seq (.seq (.region r140_4) (.cond (.tmp 12) (.seq (.region r140_5) .ret) .skip)) (.seq (.region r140_6) .ret)) .skip)) (.seq (.seq (.region r140_7) (.cond (.tmp 13) (.seq (.region r140_8) .ret) .skip)) (.seq (.seq (.region r140_9) (.cond (.tmp 16) (.seq (.region r140_10) .ret) .skip)) (.seq (.seq (.region r140_11) (.cond (.tmp 19) (.seq (.region r140_12) .ret) .skip)) (.seq (.region r140_13) .ret))))))))
theorem code140 : ∃ c, Tryz.f140.body = some c ∧ abs Tryz.f140.ntmps c = B140 := ⟨_, rfl, by kernel_rfl⟩
theorem hb140 : HasBody Tryz.prog 140 := hasBody_of Tryz.func140 (by kernel_rfl)
theorem enter140 (x0 x1 : Value) : Ent 140 B140 #[(.tmp 4)] [x0, x1] := ent code140 hb140 Tryz.func140 rfl rfl
/-! 149 cmp.isNaN[string] (params #[9], results #[(.tmp 2)], 6 slots) -/
abbrev r149_0 : List VOp :=
  [zC 2]
abbrev r149_1 : List VOp :=
  [mv 3 0 9,
   mv 4 0 9,
   zBB 5 9 3 4,
   asg 2 5 4]
def B149 : VC :=
  (.seq (.region r149_0) (.seq (.region r149_1) .ret))
theorem code149 : ∃ c, Tryz.f149.body = some c ∧ abs Tryz.f149.ntmps c = B149 := ⟨_, rfl, by kernel_rfl⟩
theorem hb149 : HasBody Tryz.prog 149 := hasBody_of Tryz.func149 (by kernel_rfl)
theorem enter149 (x0 : Value) : Ent 149 B149 #[(.tmp 2)] [x0] := ent code149 hb149 Tryz.func149 rfl rfl
@[push_cast] theorem bsl22_0_Codes7B {K : Value → World → Prop} {w : World}  : vBuildSlice Tryz.prog 22 0 #[] K w = K (.slice (some ⟨w.heap.size, 0, none⟩) 0 0) (w.alloc (.cells #[] 9)) :=
  vBuildSlice_ok Tryz.underlying22 ti9 (by kernel_rfl) (by decide)
@[push_cast] theorem bsl22_1_Codes7B {K : Value → World → Prop} {w : World} (x0 : ByteArray) : vBuildSlice Tryz.prog 22 1 #[(0, (.string x0))] K w = K (.slice (some ⟨w.heap.size, 0, none⟩) 1 1) (w.alloc (.cells #[(.string x0)] 9)) :=
  vBuildSlice_ok Tryz.underlying22 ti9 (by kernel_rfl) (by decide)
@[push_cast] theorem bsl22_20_Codes7B {K : Value → World → Prop} {w : World} (x0 : ByteArray) (x1 : ByteArray) (x2 : ByteArray) (x3 : ByteArray) (x4 : ByteArray) (x5 : ByteArray) (x6 : ByteArray) (x7 : ByteArray) (x8 : ByteArray) (x9 : ByteArray) (x10 : ByteArray) (x11 : ByteArray) (x12 : ByteArray) (x13 : ByteArray) (x14 : ByteArray) (x15 : ByteArray) (x16 : ByteArray) (x17 : ByteArray) (x18 : ByteArray) (x19 : ByteArray) : vBuildSlice Tryz.prog 22 20 #[(0, (.string x0)), (1, (.string x1)), (2, (.string x2)), (3, (.string x3)), (4, (.string x4)), (5, (.string x5)), (6, (.string x6)), (7, (.string x7)), (8, (.string x8)), (9, (.string x9)), (10, (.string x10)), (11, (.string x11)), (12, (.string x12)), (13, (.string x13)), (14, (.string x14)), (15, (.string x15)), (16, (.string x16)), (17, (.string x17)), (18, (.string x18)), (19, (.string x19))] K w = K (.slice (some ⟨w.heap.size, 0, none⟩) 20 20) (w.alloc (.cells #[(.string x0), (.string x1), (.string x2), (.string x3), (.string x4), (.string x5), (.string x6), (.string x7), (.string x8), (.string x9), (.string x10), (.string x11), (.string x12), (.string x13), (.string x14), (.string x15), (.string x16), (.string x17), (.string x18), (.string x19)] 9)) :=
  vBuildSlice_ok Tryz.underlying22 ti9 (by kernel_rfl) (by decide)
end Go.Proofs.YtnofalhkapmcnaaGreat
end
section
set_option linter.unusedSimpArgs false
namespace Go.Vc
mutual
def FT.cnt : FT → Nat
  | .mk _ _ _ _ l => FT.cntL l + 1
def FT.cntL : List FT → Nat
  | [] => 0
  | k :: l => k.cnt + FT.cntL l
end

mutual
def FT.prt : FT → Int → Int
  | .mk _ d v _ l, left => FT.prtL l (1 + ((d.size : Int) + (v.size : Int)) / 100) left
def FT.prtL : List FT → Int → Int → Int
  | [], n, _ => n
  | k :: l, n, left => if n < left then FT.prtL l (n + k.prt (left - n)) left else n
end
def FT.len0 (f : FT) : Int := 1 + ((f.dim.size : Int) + (f.value.size : Int)) / 100
theorem FT.prt_is (f : FT) (left : Int) : f.prt left = FT.prtL f.kids f.len0 left := by cases f; rfl
theorem FT.cnt_is (f : FT) : f.cnt = FT.cntL f.kids + 1 := by cases f; rfl
theorem FT.prtL_stop {l : List FT} {n left : Int} (h : ¬ n < left) : FT.prtL l n left = n := by
  cases l with
  | nil => rfl
  | cons k l => show (if n < left then _ else n) = n; rw [if_neg h]
theorem FT.prtL_go {k : FT} {l : List FT} {n left : Int} (h : n < left) : FT.prtL (k :: l) n left = FT.prtL l (n + k.prt (left - n)) left := by
  show (if n < left then _ else n) = _; rw [if_pos h]
theorem FT.prt_rng {w : World} : ∀ f : FT, f.Ok w → ∀ left : Int, 0 ≤ left → 1 ≤ f.prt left ∧ f.prt left ≤ left + 3000000000000 := by
  intro f
  induction f using FT.ind with
  | h f ih =>
    intro hf left hl
    obtain ⟨_, h2, h3, _, h5⟩ := FT.ok_iff.1 hf
    rw [FT.prt_is]
    have aux : ∀ (l : List FT), (∀ k ∈ l, k.Ok w ∧ ∀ left : Int, 0 ≤ left → 1 ≤ k.prt left ∧ k.prt left ≤ left + 3000000000000) → ∀ n : Int, 1 ≤ n → n ≤ left + 3000000000000 → 1 ≤ FT.prtL l n left ∧ FT.prtL l n left ≤ left + 3000000000000 := by
      intro l
      induction l with
      | nil => intro _ n h1 h2; exact ⟨h1, h2⟩
      | cons k l ihl =>
        intro hk n h1 h2
        by_cases hn : n < left
        · rw [FT.prtL_go hn]
          have := (hk k (by simp)).2 (left - n) (by omega)
          exact ihl (fun x hx => hk x (by simp [hx])) _ (by omega) (by omega)
        · rw [FT.prtL_stop hn]; exact ⟨h1, h2⟩
    have : 1 ≤ f.len0 ∧ f.len0 ≤ 3000000000000 := by unfold FT.len0; omega
    exact aux f.kids (fun k hk => ⟨h5 k hk, ih k hk (h5 k hk)⟩) f.len0 (by omega) (by omega)
theorem FT.cnt_prt : ∀ f : FT, ∀ left : Int, f.prt left < left → (f.cnt : Int) ≤ f.prt left := by
  intro f
  induction f using FT.ind with
  | h f ih =>
    intro left hl
    rw [FT.prt_is] at hl ⊢
    rw [FT.cnt_is]
    have aux : ∀ (l : List FT), (∀ k ∈ l, ∀ left : Int, k.prt left < left → (k.cnt : Int) ≤ k.prt left) → ∀ n : Int, FT.prtL l n left < left → n + (FT.cntL l : Int) ≤ FT.prtL l n left := by
      intro l
      induction l with
      | nil => intro _ n _; show n + 0 ≤ n; omega
      | cons k l ihl =>
        intro hk n h2
        have e : FT.cntL (k :: l) = k.cnt + FT.cntL l := rfl
        by_cases hn : n < left
        · rw [FT.prtL_go hn] at h2 ⊢
          have h3 := ihl (fun x hx => hk x (by simp [hx])) _ h2
          have h4 := hk k (by simp) (left - n) (by omega)
          omega
        · rw [FT.prtL_stop hn] at h2; exact absurd h2 hn
    have h3 := aux f.kids ih f.len0 hl
    have : 1 ≤ f.len0 := by unfold FT.len0; omega
    omega
theorem FT.cntL_mem {k : FT} : ∀ {l : List FT}, k ∈ l → k.cnt ≤ FT.cntL l
  | x :: l, h => by
    have e : FT.cntL (x :: l) = x.cnt + FT.cntL l := rfl
    rcases List.mem_cons.1 h with rfl | h
    · omega
    · have := FT.cntL_mem h; omega
theorem FT.cntL_len : ∀ l : List FT, l.length ≤ FT.cntL l
  | [] => Nat.le_refl _
  | k :: l => by
    have e : FT.cntL (k :: l) = k.cnt + FT.cntL l := rfl
    have := FT.cntL_len l
    have := FT.cnt_is k
    simp only [List.length_cons]; omega
theorem FT.deep_cnt : ∀ f : FT, f.deep ≤ f.cnt := by
  intro f
  induction f using FT.ind with
  | h f ih =>
    obtain ⟨op, d, v, kv, l⟩ := f
    show FT.deepL l + 1 ≤ FT.cntL l + 1
    replace ih : ∀ k ∈ l, k.deep ≤ k.cnt := ih
    induction l with
    | nil => exact Nat.le_refl _
    | cons k l ihl =>
      have h1 := ih k (by simp)
      have h2 := ihl (fun x hx => ih x (by simp [hx]))
      show max k.deep (FT.deepL l) + 1 ≤ k.cnt + FT.cntL l + 1
      omega
theorem FT.dims_cnt : ∀ f : FT, f.dims.length ≤ f.cnt := by
  intro f
  induction f using FT.ind with
  | h f ih =>
    obtain ⟨op, d, v, kv, l⟩ := f
    show (_ ++ FT.dimsL l).length ≤ FT.cntL l + 1
    replace ih : ∀ k ∈ l, k.dims.length ≤ k.cnt := ih
    have h0 : (FT.dimsL l).length ≤ FT.cntL l := by
      induction l with
      | nil => exact Nat.le_refl _
      | cons k l ihl =>
        have h1 := ih k (by simp)
        have h2 := ihl (fun x hx => ih x (by simp [hx]))
        show (k.dims ++ FT.dimsL l).length ≤ k.cnt + FT.cntL l
        rw [List.length_append]; omega
    rw [List.length_append]
    split <;> simp <;> omega
end Go.Vc
namespace Go.Proofs.YtnofalhkapmcnaaGreat
open Go.Vc
set_option maxRecDepth 100000
theorem ftBox (w : World) (f : FT) : Later w (w.alloc (.cells (ftC f).toArray 29)) ∧ (w.alloc (.cells (ftC f).toArray 29)).heap.size = w.heap.size + 1 ∧ Blk (w.alloc (.cells (ftC f).toArray 29)) w.heap.size (ftC f).toArray 29 := ⟨later_alloc _ _, World.size_alloc _ _, Blk.new _ _ _⟩
theorem ftAt {w : World} {k : Nat} {f : FT} (h : Blk w k (ftC f).toArray 29) : w.cell? ⟨k, 0, none⟩ = some (.int .i64 f.op) ∧ w.cell? ⟨k, 1, none⟩ = some (.string f.dim) ∧ w.cell? ⟨k, 2, none⟩ = some (.string f.value) ∧ w.cell? ⟨k, 3, none⟩ = some f.kv :=
  ⟨h.cell 0, h.cell 1, h.cell 2, h.cell 3⟩
theorem ftLater {w w' : World} {k : Nat} {f : FT} (h : Blk w k (ftC f).toArray 29) (hl : Later w w') : Blk w' k (ftC f).toArray 29 := h.chg (Chg.of_later (ks := []) hl) (by simp)
theorem parts_c : ∀ (f : FT) (left : Int) (w : World), 0 ≤ left → left ≤ 300 → f.Ok w → FnC Tryz.prog 39 #[.agg (ftC f).toArray, .int .i64 left] w fun v w' => v = .int .i64 (f.prt left) ∧ Later w w' := by
  intro f
  induction f using FT.ind with
  | h f ih =>
  intro left w hl0 hl1 hf
  obtain ⟨h1, h2, h3, h4, h5⟩ := FT.ok_iff.1 hf
  obtain ⟨o, c, hkv, hc1, hc2⟩ := RecS.slice h4
  refine enter39 _ _ ?_
  unfold B39
  have eca : (Value.agg (ftC f).toArray).cells = (ftC f).toArray := rfl
  obtain ⟨l1, s1, B1⟩ := ftBox w f
  repeat' (first | (simp (disch := omega) only [push_cast, seval, eca]) | refine iX ?_ ?_ <;> intros | refine aI (by omega) ?_ | refine dq ?_)
  generalize w.alloc (.cells (ftC f).toArray 29) = w1 at *
  generalize w.heap.size = kf at *
  obtain ⟨a0, a1, a2, a3⟩ := ftAt B1
  repeat' (first | (simp (disch := omega) only [push_cast, seval, a0, a1, a2, a3, addr_add_eq, Nat.zero_add]) | refine iX ?_ ?_ <;> intros | refine aI (by omega) ?_ | refine dq ?_)
  have hrng := FT.prt_rng f hf left hl0
  have hl00 : 1 ≤ f.len0 ∧ f.len0 ≤ 3000000000000 := by unfold FT.len0; omega
  refine vc_loop W39_0 (fun p : Nat × Int => [(5, .int .i64 p.2), (6, .int .i64 (p.1 : Int))]) (fun p w' => p.1 ≤ f.kids.length ∧ Later w1 w' ∧ 1 ≤ p.2 ∧ p.2 ≤ left + 3000000000000 ∧ FT.prtL (f.kids.drop p.1) p.2 left = f.prt left) (fun p => f.kids.length - p.1) (0, f.len0) (by decide) ?_ ?_ ?_
  · simp (disch := omega) only [push_cast, seval]
    try rfl
  · exact ⟨Nat.zero_le _, Later.refl _, hl00.1, by dsimp only; omega, by rw [FT.prt_is]; rfl⟩
  rintro ⟨i, n⟩ uu w2 ⟨hi, l2, hn1, hn2, he⟩
  dsimp only at hi hn1 hn2 he ⊢
  obtain ⟨b0, b1, b2, b3⟩ := ftAt (ftLater B1 l2)
  rw [hkv] at b3
  by_cases hik : i < f.kids.length
  case neg =>
    have hd : decide ((i : Int) < (f.kids.length : Int)) = false := decide_eq_false (by omega)
    rw [List.drop_of_length_le (by omega)] at he
    have he : n = f.prt left := he
    repeat' (first | (simp (disch := omega) only [push_cast, seval, b3, hd, addr_add_eq, Nat.zero_add]) | refine iX ?_ ?_ <;> intros | refine aI (by omega) ?_ | refine dq ?_)
    first | exact ⟨(by rw [he]), (l1.trans l2)⟩ | exact (l1.trans l2)
  have hd : decide ((i : Int) < (f.kids.length : Int)) = true := decide_eq_true (by omega)
  rw [List.drop_eq_getElem_cons hik] at he
  by_cases hnl : n < left
  case neg =>
    have hd2 := decide_eq_false hnl
    rw [FT.prtL_stop hnl] at he
    repeat' (first | (simp (disch := omega) only [push_cast, seval, b3, hd, hd2, addr_add_eq, Nat.zero_add]) | refine iX ?_ ?_ <;> intros | refine aI (by omega) ?_ | refine dq ?_)
    first | exact ⟨(by rw [he]), (l1.trans l2)⟩ | exact (l1.trans l2)
  have hd2 := decide_eq_true hnl
  rw [FT.prtL_go hnl] at he
  rw [hkv] at h4
  obtain ⟨a, rfl, fa⟩ := RecS.at ftC_len (h4.later (l1.trans l2)) hik
  have hk := h5 _ (List.getElem_mem hik)
  have hpr := FT.prt_rng _ hk (left - n) (by omega)
  repeat' (first | (simp (disch := omega) only [push_cast, seval, b3, hd, hd2, fa, addr_add_eq, Nat.zero_add]) | refine iX ?_ ?_ <;> intros | refine aI (by omega) ?_ | refine dq ?_)
  refine (ih _ (List.getElem_mem hik) (left - n) w2 (by omega) (by omega) (hk.later (l1.trans l2))).mono ?_
  rintro _ w3 ⟨rfl, l3⟩
  repeat' (first | (simp (disch := omega) only [push_cast, seval]) | refine iX ?_ ?_ <;> intros | refine aI (by omega) ?_ | refine dq ?_)
  exact ⟨rfl, (i + 1, n + (f.kids[i]).prt (left - n)), by simp (disch := omega) only [push_cast, seval], ⟨by dsimp only; omega, l2.trans l3, by dsimp only; omega, by dsimp only; omega, he⟩, by dsimp only; omega⟩
theorem depth_c : ∀ (f : FT) (w : World), f.cnt ≤ 1000000 → f.Ok w → FnC Tryz.prog 41 #[.agg (ftC f).toArray] w fun v w' => v = .int .i64 (f.deep : Int) ∧ Later w w' := by
  intro f
  induction f using FT.ind with
  | h f ih =>
  intro w hcn hf
  obtain ⟨h1, h2, h3, h4, h5⟩ := FT.ok_iff.1 hf
  obtain ⟨o, c, hkv, hc1, hc2⟩ := RecS.slice h4
  refine enter41 _ ?_
  unfold B41
  have eca : (Value.agg (ftC f).toArray).cells = (ftC f).toArray := rfl
  obtain ⟨l1, s1, B1⟩ := ftBox w f
  repeat' (first | (simp (disch := omega) only [push_cast, seval, eca]) | refine iX ?_ ?_ <;> intros | refine aI (by omega) ?_ | refine dq ?_)
  generalize w.alloc (.cells (ftC f).toArray 29) = w1 at *
  generalize w.heap.size = kf at *
  have hcl := FT.cntL_len f.kids
  have hci := FT.cnt_is f
  have hmx : ∀ i, i ≤ f.kids.length → (f.kids.take i).foldl (fun n k => max n k.deep) 0 ≤ 1000000 := by
    intro i _
    have : ∀ (l : List FT) (n : Nat), n ≤ 1000000 → (∀ k ∈ l, k.deep ≤ 1000000) → l.foldl (fun n k => max n k.deep) n ≤ 1000000 := by
      intro l
      induction l with
      | nil => intro n h _; exact h
      | cons k l ihl =>
        intro n h hk
        have := hk k (by simp)
        exact ihl _ (by show max n k.deep ≤ _; omega) (fun x hx => hk x (by simp [hx]))
    refine this _ _ (by omega) fun k hk => ?_
    have := FT.deep_cnt k
    have := FT.cntL_mem (List.mem_of_mem_take hk)
    omega
  refine vc_loop W41_0 (fun i : Nat => [(3, .int .i64 (((f.kids.take i).foldl (fun n k => max n k.deep) 0 : Nat) : Int)), (4, .int .i64 (i : Int))]) (fun i w' => i ≤ f.kids.length ∧ Later w1 w') (fun i => f.kids.length - i) 0 (by decide) ?_ ?_ ?_
  · simp (disch := omega) only [push_cast, seval]
    try rfl
  · exact ⟨Nat.zero_le _, Later.refl _⟩
  rintro i uu w2 ⟨hi, l2⟩
  obtain ⟨b0, b1, b2, b3⟩ := ftAt (ftLater B1 l2)
  rw [hkv] at b3
  by_cases hik : i < f.kids.length
  case neg =>
    have hd : decide ((i : Int) < (f.kids.length : Int)) = false := decide_eq_false (by omega)
    have hm := hmx i hi
    have hdp := FT.deep_is f
    rw [List.take_of_length_le (by omega)] at hm ⊢
    have hdp' : ((f.kids.foldl (fun n k => max n k.deep) 0 : Nat) : Int) + 1 = (f.deep : Int) := by omega
    repeat' (first | (simp (disch := omega) only [push_cast, seval, b3, hd, addr_add_eq, Nat.zero_add]) | refine iX ?_ ?_ <;> intros | refine aI (by omega) ?_ | refine dq ?_)
    first | exact ⟨(by rw [hdp']), (l1.trans l2)⟩ | exact (l1.trans l2)
  have hd : decide ((i : Int) < (f.kids.length : Int)) = true := decide_eq_true (by omega)
  rw [hkv] at h4
  obtain ⟨a, rfl, fa⟩ := RecS.at ftC_len (h4.later (l1.trans l2)) hik
  have hk := h5 _ (List.getElem_mem hik)
  have hkc := FT.cntL_mem (List.getElem_mem hik)
  have hkd := FT.deep_cnt (f.kids[i])
  have hm := hmx i hi
  have hst : (f.kids.take (i + 1)).foldl (fun n k => max n k.deep) 0 = max ((f.kids.take i).foldl (fun n k => max n k.deep) 0) (f.kids[i]).deep := by
    rw [List.take_succ_eq_append_getElem hik, List.foldl_append]; rfl
  repeat' (first | (simp (disch := omega) only [push_cast, seval, b3, hd, fa, addr_add_eq, Nat.zero_add]) | refine iX ?_ ?_ <;> intros | refine aI (by omega) ?_ | refine dq ?_)
  refine (ih _ (List.getElem_mem hik) w2 (by omega) (hk.later (l1.trans l2))).mono ?_
  rintro _ w3 ⟨rfl, l3⟩
  repeat' (first | (simp (disch := omega) only [push_cast, seval]) | refine iX ?_ ?_ <;> intros | refine aI (by omega) ?_ | refine dq ?_)
  have hst' : ((List.foldl (fun n k => max n k.deep) 0 (List.take (i + 1) f.kids) : Nat) : Int) = max ((List.foldl (fun n k => max n k.deep) 0 (List.take i f.kids) : Nat) : Int) ((f.kids[i]).deep : Int) := by rw [hst]; omega
  exact ⟨rfl, i + 1, by simp (disch := omega) only [push_cast, seval, hst'], ⟨by omega, l2.trans l3⟩, by dsimp only; omega⟩
end Go.Proofs.YtnofalhkapmcnaaGreat
end
section
namespace Go.Key
open Go.Stab
theorem bl_tri : ∀ (a b : List UInt8), (Op.bytesLess a b = true ∧ Op.bytesLess b a = false ∧ a ≠ b) ∨ (a = b ∧ Op.bytesLess a b = false) ∨ (Op.bytesLess a b = false ∧ Op.bytesLess b a = true ∧ a ≠ b)
  | [], [] => .inr (.inl ⟨rfl, rfl⟩)
  | [], _ :: _ => .inl ⟨rfl, rfl, by simp⟩
  | _ :: _, [] => .inr (.inr ⟨rfl, rfl, by simp⟩)
  | x :: a, y :: b => by
    rcases UInt8.lt_or_lt_of_ne (a := x) (b := y) |> fun h => (Decidable.em (x = y)).imp id h with e | e | e
    · subst e
      have hx : ¬ x < x := UInt8.lt_irrefl x
      rcases bl_tri a b with ⟨h1, h2, h3⟩ | ⟨h1, h2⟩ | ⟨h1, h2, h3⟩
      · exact .inl ⟨by simp [Op.bytesLess, h1], by simp [Op.bytesLess, h2, hx], by simpa using h3⟩
      · exact .inr (.inl ⟨by rw [h1], by simp [Op.bytesLess, h2, hx]⟩)
      · exact .inr (.inr ⟨by simp [Op.bytesLess, h1, hx], by simp [Op.bytesLess, h2], by simpa using h3⟩)
    · have n : ¬ y < x := fun h => UInt8.lt_irrefl _ (UInt8.lt_trans h e)
      have ne : x ≠ y := fun h => by subst h; exact UInt8.lt_irrefl _ e
      exact .inl ⟨by simp [Op.bytesLess, e], by simp [Op.bytesLess, n, Ne.symm ne], by simp [ne]⟩
    · have n : ¬ x < y := fun h => UInt8.lt_irrefl _ (UInt8.lt_trans h e)
      have ne : x ≠ y := fun h => by subst h; exact UInt8.lt_irrefl _ e
      exact .inr (.inr ⟨by simp [Op.bytesLess, n, ne], by simp [Op.bytesLess, e], by simp [ne]⟩)
theorem bl_trans : ∀ (a b c : List UInt8), Op.bytesLess a b = true → Op.bytesLess b c = true → Op.bytesLess a c = true
  | _, [], _, h, _ => by simp [Op.bytesLess] at h
  | _, _ :: _, [], _, h => by simp [Op.bytesLess] at h
  | [], _ :: _, _ :: _, _, _ => rfl
  | x :: a, y :: b, z :: c, h, g => by
    simp only [Op.bytesLess, Bool.or_eq_true, decide_eq_true_eq, Bool.and_eq_true, beq_iff_eq] at h g ⊢
    rcases h with h | ⟨rfl, h⟩ <;> rcases g with g | ⟨rfl, g⟩
    · exact .inl (UInt8.lt_trans h g)
    · exact .inl h
    · exact .inl g
    · exact .inr ⟨rfl, bl_trans a b c h g⟩
def blt (a b : ByteArray) : Bool := Op.bytesLess a.data.toList b.data.toList
theorem ba_ext {a b : ByteArray} (h : a.data.toList = b.data.toList) : a = b := by
  cases a; cases b
  congr
  exact Array.ext' h
theorem blt_tri (a b : ByteArray) : (blt a b = true ∧ blt b a = false ∧ a ≠ b) ∨ (a = b ∧ blt a b = false) ∨ (blt a b = false ∧ blt b a = true ∧ a ≠ b) := by
  rcases bl_tri a.data.toList b.data.toList with ⟨h1, h2, h3⟩ | ⟨h1, h2⟩ | ⟨h1, h2, h3⟩
  · exact .inl ⟨h1, h2, fun e => h3 (by rw [e])⟩
  · exact .inr (.inl ⟨ba_ext h1, h2⟩)
  · exact .inr (.inr ⟨h1, h2, fun e => h3 (by rw [e])⟩)
def cstr (a b : ByteArray) : Int := if blt a b = true then -1 else if a = b then 0 else 1
theorem cstr_is (a b : ByteArray) : (cstr a b = -1 ∧ cstr b a = 1 ∧ blt a b = true) ∨ (cstr a b = 0 ∧ cstr b a = 0 ∧ a = b) ∨ (cstr a b = 1 ∧ cstr b a = -1 ∧ blt b a = true) := by
  rcases blt_tri a b with ⟨h1, h2, h3⟩ | ⟨h1, h2⟩ | ⟨h1, h2, h3⟩
  · exact .inl ⟨by simp [cstr, h1], by simp [cstr, h2, Ne.symm h3], h1⟩
  · subst h1; exact .inr (.inl ⟨by simp [cstr, h2], by simp [cstr, h2], rfl⟩)
  · exact .inr (.inr ⟨by simp [cstr, h1, h3], by simp [cstr, h2], h2⟩)
def clist : List ByteArray → List ByteArray → Int
  | [], [] => 0
  | [], _ :: _ => -1
  | _ :: _, [] => 1
  | a :: x, b :: y => if cstr a b = 0 then clist x y else cstr a b
theorem clist_is : ∀ (a b : List ByteArray), (clist a b = -1 ∧ clist b a = 1 ∧ a ≠ b) ∨ (clist a b = 0 ∧ clist b a = 0 ∧ a = b) ∨ (clist a b = 1 ∧ clist b a = -1 ∧ a ≠ b)
  | [], [] => .inr (.inl ⟨rfl, rfl, rfl⟩)
  | [], _ :: _ => .inl ⟨rfl, rfl, by simp⟩
  | _ :: _, [] => .inr (.inr ⟨rfl, rfl, by simp⟩)
  | x :: a, y :: b => by
    rcases cstr_is x y with ⟨h1, h2, h3⟩ | ⟨h1, h2, h3⟩ | ⟨h1, h2, h3⟩
    · refine .inl ⟨by simp [clist, h1], by simp [clist, h2], fun e => ?_⟩
      obtain ⟨rfl, _⟩ := List.cons.inj e
      rw [h1] at h2; cases h2
    · subst h3
      rcases clist_is a b with ⟨g1, g2, g3⟩ | ⟨g1, g2, g3⟩ | ⟨g1, g2, g3⟩
      · exact .inl ⟨by simp [clist, h1, g1], by simp [clist, h1, g2], by simp [g3]⟩
      · exact .inr (.inl ⟨by simp [clist, h1, g1], by simp [clist, h1, g2], by simp [g3]⟩)
      · exact .inr (.inr ⟨by simp [clist, h1, g1], by simp [clist, h1, g2], by simp [g3]⟩)
    · refine .inr (.inr ⟨by simp [clist, h1], by simp [clist, h2], fun e => ?_⟩)
      obtain ⟨rfl, _⟩ := List.cons.inj e
      rw [h1] at h2; cases h2
theorem cstr_trans {a b c : ByteArray} (h : cstr a b = -1) (g : cstr b c = -1) : cstr a c = -1 := by
  have h1 : blt a b = true := by
    rcases cstr_is a b with h' | h' | h'
    · exact h'.2.2
    · rw [h] at h'; cases h'.1
    · rw [h] at h'; cases h'.1
  have h2 : blt b c = true := by
    rcases cstr_is b c with h' | h' | h'
    · exact h'.2.2
    · rw [g] at h'; cases h'.1
    · rw [g] at h'; cases h'.1
  have : blt a c = true := bl_trans _ _ _ h1 h2
  simp [cstr, this]
theorem clist_trans : ∀ (a b c : List ByteArray), clist a b = -1 → clist b c = -1 → clist a c = -1
  | [], [], _, h, _ => by simp [clist] at h
  | _ :: _, [], _, h, _ => by simp [clist] at h
  | _, _ :: _, [], _, h => by simp [clist] at h
  | [], _ :: _, _ :: _, _, _ => rfl
  | x :: a, y :: b, z :: c, h, g => by
    simp only [clist] at h g ⊢
    by_cases e1 : cstr x y = 0
    · have exy : x = y := by
        rcases cstr_is x y with h' | h' | h'
        · rw [e1] at h'; cases h'.1
        · exact h'.2.2
        · rw [e1] at h'; cases h'.1
      subst exy
      rw [if_pos e1] at h
      by_cases e2 : cstr x z = 0
      · rw [if_pos e2] at g ⊢
        exact clist_trans a b c h g
      · rw [if_neg e2] at g ⊢
        exact g
    · rw [if_neg e1] at h
      by_cases e2 : cstr y z = 0
      · have eyz : y = z := by
          rcases cstr_is y z with h' | h' | h'
          · rw [e2] at h'; cases h'.1
          · exact h'.2.2
          · rw [e2] at h'; cases h'.1
        subst eyz
        rw [if_neg (by rw [h]; decide), h]
      · rw [if_neg e2] at g
        have := cstr_trans h g
        rw [if_neg (by rw [this]; decide), this]
def ckey (t : Int) (d : List ByteArray) (t' : Int) (d' : List ByteArray) : Int := if t < t' then -1 else if t' < t then 1 else clist d d'
theorem ckey_is (t : Int) (d : List ByteArray) (t' : Int) (d' : List ByteArray) : (ckey t d t' d' = -1 ∧ ckey t' d' t d = 1 ∧ ¬ (t = t' ∧ d = d')) ∨ (ckey t d t' d' = 0 ∧ ckey t' d' t d = 0 ∧ t = t' ∧ d = d') ∨ (ckey t d t' d' = 1 ∧ ckey t' d' t d = -1 ∧ ¬ (t = t' ∧ d = d')) := by
  unfold ckey
  by_cases h1 : t < t'
  · exact .inl ⟨if_pos h1, by rw [if_neg (by omega), if_pos h1], by omega⟩
  · by_cases h2 : t' < t
    · exact .inr (.inr ⟨by rw [if_neg h1, if_pos h2], if_pos h2, by omega⟩)
    · have e : t = t' := by omega
      subst e
      rw [if_neg h1, if_neg h1, if_neg h1, if_neg h1]
      rcases clist_is d d' with ⟨g1, g2, g3⟩ | ⟨g1, g2, g3⟩ | ⟨g1, g2, g3⟩
      · exact .inl ⟨g1, g2, fun h => g3 h.2⟩
      · exact .inr (.inl ⟨g1, g2, rfl, g3⟩)
      · exact .inr (.inr ⟨g1, g2, fun h => g3 h.2⟩)
theorem ckey_trans {t t' t'' : Int} {d d' d'' : List ByteArray} (h : ckey t d t' d' = -1) (g : ckey t' d' t'' d'' = -1) : ckey t d t'' d'' = -1 := by
  unfold ckey at *
  split at h
  · split at g
    · rw [if_pos (by omega)]
    · split at g
      · cases g
      · rw [if_pos (by omega)]
  · split at h
    · cases h
    · split at g
      · rw [if_pos (by omega)]
      · split at g
        · cases g
        · rw [if_neg (by omega), if_neg (by omega)]
          exact clist_trans _ _ _ h g
theorem swo_key {α : Type} (t : α → Int) (d : α → List ByteArray) : Swo (fun a b : α => decide (ckey (t a) (d a) (t b) (d b) < 0)) where
  asym a b h := by
    have h : ckey (t a) (d a) (t b) (d b) < 0 := of_decide_eq_true h
    rcases ckey_is (t a) (d a) (t b) (d b) with h' | h' | h' <;> exact decide_eq_false (by omega)
  ntr a b c h g := by
    have h : ¬ ckey (t b) (d b) (t a) (d a) < 0 := of_decide_eq_false h
    have g : ¬ ckey (t c) (d c) (t b) (d b) < 0 := of_decide_eq_false g
    refine decide_eq_false ?_
    rcases ckey_is (t a) (d a) (t b) (d b) with h1 | h1 | h1
    · rcases ckey_is (t b) (d b) (t c) (d c) with h2 | h2 | h2
      · have := ckey_trans h1.1 h2.1
        rcases ckey_is (t a) (d a) (t c) (d c) with h3 | h3 | h3 <;> omega
      · rw [← h2.2.2.1, ← h2.2.2.2]; exact h
      · omega
    · rw [h1.2.2.1, h1.2.2.2]; exact g
    · omega
end Go.Key
end
section
set_option linter.unusedSimpArgs false
namespace Go.Proofs.YtnofalhkapmcnaaGreat
open Go.Vc Go.Key
set_option maxRecDepth 100000
abbrev StS (w : World) (v : Value) (l : List ByteArray) : Prop := Sl w v (l.map Value.string)
theorem StS.atS {w : World} {a : Addr} {l : List ByteArray} {n c : Nat} (h : StS w (.slice (some a) n c) l) {i : Nat} (hi : i < l.length) : w.cell? (a.add i) = some (.string l[i]) := Sl.at h (by simp [hi])
@[push_cast] theorem vBinS_gtr {P : Program} {t : TypeId} {x y : Operand} {m n : ByteArray} {K : Value → World → Prop} {w : World} : vBin P .gtr t x y (.string m) (.string n) K w = K (.bool (!(Op.bytesLess m.data.toList n.data.toList || decide (m = n)))) w := mk_eq rfl
theorem nanS_c (s : ByteArray) (w : World) : FnC Tryz.prog 149 #[.string s] w fun r w' => r = .bool false ∧ w' = w := by
  refine enter149 _ ?_
  unfold B149
  repeat' (first | (simp (disch := omega) only [push_cast, seval, decide_true, Bool.not_true]) | refine iX ?_ ?_ <;> intros | refine aI (by omega) ?_ | refine dq ?_)
  all_goals simp
theorem nanI_c (n : Int) (w : World) : FnC Tryz.prog 109 #[.int .i64 n] w fun r w' => r = .bool false ∧ w' = w := by
  refine enter109 _ ?_
  unfold B109
  repeat' (first | (simp (disch := omega) only [push_cast, seval, decide_true, Bool.not_true]) | refine iX ?_ ?_ <;> intros | refine aI (by omega) ?_ | refine dq ?_)
  all_goals simp
theorem cmpS_c (a b : ByteArray) (w : World) : FnC Tryz.prog 140 #[.string a, .string b] w fun r w' => r = .int .i64 (cstr a b) ∧ w' = w := by
  refine enter140 _ _ ?_
  unfold B140
  repeat' (first | (simp (disch := omega) only [push_cast, seval]) | refine iX ?_ ?_ <;> intros | refine aI (by omega) ?_ | refine dq ?_)
  refine (nanS_c a w).mono ?_
  rintro _ w0 ⟨rfl, h0⟩; obtain rfl := h0.symm
  repeat' (first | (simp (disch := omega) only [push_cast, seval]) | refine iX ?_ ?_ <;> intros | refine aI (by omega) ?_ | refine dq ?_)
  refine (nanS_c b w).mono ?_
  rintro _ w0 ⟨rfl, h0⟩; obtain rfl := h0.symm
  rcases blt_tri a b with ⟨h1, h2, h3⟩ | ⟨h1, h2⟩ | ⟨h1, h2, h3⟩
  · have h1' : Op.bytesLess a.data.toList b.data.toList = true := h1
    have e : cstr a b = -1 := by simp [cstr, h1]
    repeat' (first | (simp (disch := omega) only [push_cast, seval, h1']) | refine iX ?_ ?_ <;> intros | refine aI (by omega) ?_ | refine dq ?_)
    simp [e]
  · subst h1
    have h2' : Op.bytesLess a.data.toList a.data.toList = false := h2
    have e : cstr a a = 0 := by simp [cstr, h2]
    repeat' (first | (simp (disch := omega) only [push_cast, seval, h2', decide_true, Bool.or_true, Bool.false_or, Bool.not_true]) | refine iX ?_ ?_ <;> intros | refine aI (by omega) ?_ | refine dq ?_)
    simp [e]
  · have h1' : Op.bytesLess a.data.toList b.data.toList = false := h1
    have h4 : decide (a = b) = false := decide_eq_false h3
    have e : cstr a b = 1 := by simp [cstr, h1, h3]
    repeat' (first | (simp (disch := omega) only [push_cast, seval, h1', h4, Bool.or_false, Bool.false_or, Bool.not_false]) | refine iX ?_ ?_ <;> intros | refine aI (by omega) ?_ | refine dq ?_)
    simp [e]
theorem cmpI_c (a b : Int) (w : World) : FnC Tryz.prog 60 #[.int .i64 a, .int .i64 b] w fun r w' => r = .int .i64 (if a < b then -1 else if b < a then 1 else 0) ∧ w' = w := by
  refine enter60 _ _ ?_
  unfold B60
  repeat' (first | (simp (disch := omega) only [push_cast, seval]) | refine iX ?_ ?_ <;> intros | refine aI (by omega) ?_ | refine dq ?_)
  refine (nanI_c a w).mono ?_
  rintro _ w0 ⟨rfl, h0⟩; obtain rfl := h0.symm
  repeat' (first | (simp (disch := omega) only [push_cast, seval]) | refine iX ?_ ?_ <;> intros | refine aI (by omega) ?_ | refine dq ?_)
  refine (nanI_c b w).mono ?_
  rintro _ w0 ⟨rfl, h0⟩; obtain rfl := h0.symm
  by_cases h1 : a < b
  · repeat' (first | (simp (disch := omega) only [push_cast, seval]) | refine iX ?_ ?_ <;> intros | refine aI (by omega) ?_ | refine dq ?_)
    simp [h1]
  · by_cases h2 : b < a
    · repeat' (first | (simp (disch := omega) only [push_cast, seval]) | refine iX ?_ ?_ <;> intros | refine aI (by omega) ?_ | refine dq ?_)
      simp [h1, h2]
    · repeat' (first | (simp (disch := omega) only [push_cast, seval]) | refine iX ?_ ?_ <;> intros | refine aI (by omega) ?_ | refine dq ?_)
      simp [h1, h2]
theorem cmpOr_c (x y : Int) (v : Value) (w : World) (h : Sl w v (([x, y] : List Int).map i64v)) : FnC Tryz.prog 114 #[v] w fun r w' => r = .int .i64 (if x = 0 then y else x) ∧ w' = w := by
  obtain ⟨o, c, rfl, g1, g2, h, g3⟩ := h.openM
  have hL : ([x, y] : List Int).length = 2 := rfl
  rw [hL] at h g1
  obtain ⟨a, rfl⟩ := h.some (i := 0) (by simp)
  have c0 : w.cell? a = some (.int .i64 x) := by simpa [addr_add_zero] using h.atI (i := 0) (by simp)
  have c1 : w.cell? (a.add 1) = some (.int .i64 y) := h.atI (i := 1) (by simp)
  rw [hL]
  clear hL
  refine enter114 _ ?_
  unfold B114
  repeat' (first | (simp (disch := omega) only [push_cast, seval]) | refine iX ?_ ?_ <;> intros | refine aI (by omega) ?_ | refine dq ?_)
  refine vc_loop W114_0 (fun i : Nat => [(2, .int .i64 0), (8, .int .i64 (i : Int))]) (fun i w' => i ≤ 2 ∧ w' = w ∧ (1 ≤ i → x = 0) ∧ (2 ≤ i → y = 0)) (fun i => 2 - i) 0 (by decide) ?_ ?_ ?_
  · simp (disch := omega) only [push_cast, seval]
  · exact ⟨by omega, rfl, by omega, by omega⟩
  rintro i uu w1 ⟨hi, hw, hx, hy⟩
  obtain rfl := hw.symm
  match i, hi with
  | 0, _ =>
    by_cases h0 : x = 0
    · subst h0
      repeat' (first | (simp (disch := omega) only [push_cast, seval, c0]) | refine iX ?_ ?_ <;> intros | refine aI (by omega) ?_ | refine dq ?_)
      exact ⟨rfl, 1, by simp (disch := omega) only [push_cast, seval], ⟨by omega, rfl, by simp, by simp⟩, by dsimp only; omega⟩
    · repeat' (first | (simp (disch := omega) only [push_cast, seval, c0]) | refine iX ?_ ?_ <;> intros | refine aI (by omega) ?_ | refine dq ?_)
      simp [h0]
  | 1, _ =>
    have hx := hx (by omega)
    subst hx
    by_cases h0 : y = 0
    · subst h0
      repeat' (first | (simp (disch := omega) only [push_cast, seval, c1]) | refine iX ?_ ?_ <;> intros | refine aI (by omega) ?_ | refine dq ?_)
      exact ⟨rfl, 2, by simp (disch := omega) only [push_cast, seval], ⟨by omega, rfl, by simp, by simp⟩, by dsimp only; omega⟩
    · repeat' (first | (simp (disch := omega) only [push_cast, seval, c1]) | refine iX ?_ ?_ <;> intros | refine aI (by omega) ?_ | refine dq ?_)
      all_goals simp
  | 2, _ =>
    have hx := hx (by omega)
    have hy := hy (by omega)
    subst hx
    subst hy
    repeat' (first | (simp (disch := omega) only [push_cast, seval]) | refine iX ?_ ?_ <;> intros | refine aI (by omega) ?_ | refine dq ?_)
    all_goals simp
theorem clist_step {a b : List ByteArray} {i : Nat} (ha : i < a.length) (hb : i < b.length) : clist (a.drop i) (b.drop i) = if cstr a[i] b[i] = 0 then clist (a.drop (i + 1)) (b.drop (i + 1)) else cstr a[i] b[i] := by
  rw [List.drop_eq_getElem_cons ha, List.drop_eq_getElem_cons hb, clist]
theorem clist_l {a b : List ByteArray} {i : Nat} (ha : i < a.length) (hb : b.length ≤ i) : clist (a.drop i) (b.drop i) = 1 := by
  rw [List.drop_eq_getElem_cons ha, List.drop_eq_nil_of_le hb, clist]
theorem clist_r {a b : List ByteArray} {i : Nat} (ha : a.length ≤ i) (hb : i < b.length) : clist (a.drop i) (b.drop i) = -1 := by
  rw [List.drop_eq_getElem_cons hb, List.drop_eq_nil_of_le ha, clist]
theorem clist_n {a b : List ByteArray} {i : Nat} (ha : a.length ≤ i) (hb : b.length ≤ i) : clist (a.drop i) (b.drop i) = 0 := by
  rw [List.drop_eq_nil_of_le hb, List.drop_eq_nil_of_le ha, clist]
theorem scmp_c (u v : Value) (a b : List ByteArray) (w : World) (hu : StS w u a) (hv : StS w v b) : FnC Tryz.prog 115 #[u, v] w fun r w' => r = .int .i64 (clist a b) ∧ w' = w := by
  obtain ⟨oa, ca, rfl, g1, g2, hu, g3⟩ := hu.openM
  obtain ⟨ob, cb, rfl, k1, k2, hv, k3⟩ := hv.openM
  refine enter115 _ _ ?_
  unfold B115
  repeat' (first | (simp (disch := omega) only [push_cast, seval]) | refine iX ?_ ?_ <;> intros | refine aI (by omega) ?_ | refine dq ?_)
  refine vc_loop W115_0 (fun i : Nat => [(4, .int .i64 0), (11, .int .i64 (i : Int))])
    (fun i w' => i ≤ a.length ∧ i ≤ b.length ∧ w' = w ∧ clist (a.drop i) (b.drop i) = clist a b) (fun i => a.length - i) 0 (by decide) ?_ ?_ ?_
  · simp (disch := omega) only [push_cast, seval]
  · exact ⟨by omega, by omega, rfl, by simp⟩
  rintro i uu w0 ⟨hi, hib, hw, he⟩
  obtain rfl := hw.symm
  by_cases ha : i < a.length
  · obtain ⟨aa, rfl⟩ := hu.some ha
    have c1 := StS.atS hu ha
    by_cases hb : i < b.length
    · obtain ⟨bb, rfl⟩ := hv.some hb
      have c2 := StS.atS hv hb
      rw [clist_step ha hb] at he
      repeat' (first | (simp (disch := omega) only [push_cast, seval, c1, c2]) | refine iX ?_ ?_ <;> intros | refine aI (by omega) ?_ | refine dq ?_)
      refine (cmpS_c _ _ w).mono ?_
      rintro _ w0 ⟨rfl, h0⟩; obtain rfl := h0.symm
      by_cases h0 : cstr a[i] b[i] = 0
      · rw [if_pos h0] at he
        repeat' (first | (simp (disch := omega) only [push_cast, seval, h0]) | refine iX ?_ ?_ <;> intros | refine aI (by omega) ?_ | refine dq ?_)
        exact ⟨rfl, i + 1, by simp (disch := omega) only [push_cast, seval], ⟨by omega, by omega, rfl, he⟩, by dsimp only; omega⟩
      · rw [if_neg h0] at he
        repeat' (first | (simp (disch := omega) only [push_cast, seval]) | refine iX ?_ ?_ <;> intros | refine aI (by omega) ?_ | refine dq ?_)
        simp [he]
    · have hb' : b.length ≤ i := by omega
      rw [clist_l ha hb'] at he
      repeat' (first | (simp (disch := omega) only [push_cast, seval, c1]) | refine iX ?_ ?_ <;> intros | refine aI (by omega) ?_ | refine dq ?_)
      simp [← he]
  · by_cases hb : i < b.length
    · rw [clist_r (by omega) hb] at he
      repeat' (first | (simp (disch := omega) only [push_cast, seval]) | refine iX ?_ ?_ <;> intros | refine aI (by omega) ?_ | refine dq ?_)
      simp [← he]
    · rw [clist_n (by omega) (by omega)] at he
      repeat' (first | (simp (disch := omega) only [push_cast, seval]) | refine iX ?_ ?_ <;> intros | refine aI (by omega) ?_ | refine dq ?_)
      simp [← he]
theorem texts_c (u v : Value) (a b : List ByteArray) (w : World) (hu : StS w u a) (hv : StS w v b) : FnC Tryz.prog 18 #[u, v] w fun r w' => r = .bool (decide (a = b)) ∧ Later w w' := by
  obtain ⟨oa, ca, rfl, g1, g2, hu, g3⟩ := hu.openM
  obtain ⟨ob, cb, rfl, k1, k2, hv, k3⟩ := hv.openM
  refine enter18 _ _ ?_
  unfold B18
  by_cases hlen : a.length = b.length
  · repeat' (first | (simp (disch := omega) only [push_cast, seval]) | refine iX ?_ ?_ <;> intros | refine aI (by omega) ?_ | refine dq ?_)
    refine vc_loop W18_0 (fun i : Nat => [(4, .bool false), (5, .int .i64 (i : Int))])
      (fun i w' => i ≤ a.length ∧ Later w w' ∧ a.take i = b.take i) (fun i => a.length - i) 0 (by decide) ?_ ?_ ?_
    · simp (disch := omega) only [push_cast, seval]
    · exact ⟨by omega, Later.refl _, by simp⟩
    rintro i uu w0 ⟨hi, hl, he⟩
    by_cases ha : i < a.length
    · have hb : i < b.length := by omega
      obtain ⟨aa, rfl⟩ := hu.some ha
      obtain ⟨bb, rfl⟩ := hv.some hb
      have c1 := StS.atS (hu.later hl) ha
      have c2 := StS.atS (hv.later hl) hb
      by_cases hab : a[i] = b[i]
      · repeat' (first | (simp (disch := omega) only [push_cast, seval, c1, c2, hab, decide_true, Bool.not_true]) | refine iX ?_ ?_ <;> intros | refine aI (by omega) ?_ | refine dq ?_)
        intro w1 hl1
        repeat' (first | (simp (disch := omega) only [push_cast, seval]) | refine iX ?_ ?_ <;> intros | refine aI (by omega) ?_ | refine dq ?_)
        refine ⟨rfl, i + 1, by simp (disch := omega) only [push_cast, seval], ⟨by omega, hl.trans hl1, ?_⟩, by simp; omega⟩
        rw [take_snoc a i ha, take_snoc b i hb, he, hab]
      · have hne : a ≠ b := fun e => by subst e; exact hab rfl
        repeat' (first | (simp (disch := omega) only [push_cast, seval, c1, c2, hab, decide_false, Bool.not_false]) | refine iX ?_ ?_ <;> intros | refine aI (by omega) ?_ | refine dq ?_)
        intro w1 hl1
        repeat' (first | (simp (disch := omega) only [push_cast, seval]) | refine iX ?_ ?_ <;> intros | refine aI (by omega) ?_ | refine dq ?_)
        simp [hne, hl.trans hl1]
    · have e : i = a.length := by omega
      subst e
      rw [List.take_length, hlen, List.take_length] at he
      repeat' (first | (simp (disch := omega) only [push_cast, seval]) | refine iX ?_ ?_ <;> intros | refine aI (by omega) ?_ | refine dq ?_)
      simp [he, hl]
  · have hne : a ≠ b := fun e => by subst e; exact hlen rfl
    repeat' (first | (simp (disch := omega) only [push_cast, seval]) | refine iX ?_ ?_ <;> intros | refine aI (by omega) ?_ | refine dq ?_)
    simp [hne, Later.refl]
end Go.Proofs.YtnofalhkapmcnaaGreat
end
section
set_option linter.unusedSimpArgs false
namespace Go.Proofs.YtnofalhkapmcnaaGreat
open Go.Vc Go.Key
set_option maxRecDepth 100000
def vlB (b : UInt8) : Bool := decide (32 ≤ b.toNat) && decide (b.toNat ≤ 126) && !decide (b.toNat = 34) && !decide (b.toNat = 92)
def VlOk (s : ByteArray) : Prop := (∀ i (h : i < s.size), vlB s[i] = true) ∧ s.size ≤ 24
instance (s : ByteArray) : Decidable (VlOk s) := inferInstanceAs (Decidable ((∀ i (h : i < s.size), vlB s[i] = true) ∧ s.size ≤ 24))
theorem dvalue_c (s : ByteArray) (w : World) (hs : s.size ≤ 9223372036854775807) : FnC Tryz.prog 103 #[.string s] w fun r w' => r = .bool (decide (VlOk s)) ∧ w' = w := by
  refine enter103 _ ?_
  unfold B103
  repeat' (first | (simp (disch := omega) only [push_cast, seval]) | refine iX ?_ ?_ <;> intros | refine aI (by omega) ?_ | refine dq ?_)
  refine vc_loop W103_0 (fun i : Nat => [(2, .bool false), (3, .int .i64 (i : Int))])
    (fun i w' => i ≤ s.size ∧ w' = w ∧ ∀ j (h : j < s.size), j < i → vlB s[j] = true) (fun i => s.size - i) 0 (by decide) ?_ ?_ ?_
  · simp (disch := omega) only [push_cast, seval]
  · exact ⟨by omega, rfl, fun j _ hj => absurd hj (Nat.not_lt_zero _)⟩
  rintro i uu w0 ⟨hi, h0, hA⟩
  obtain rfl := h0.symm
  by_cases hlt : i < s.size
  · have hg : s[i]? = some s[i] := getElem?_pos s i hlt
    by_cases hv : vlB s[i] = true
    · have hv' := hv
      simp only [vlB, Bool.and_eq_true, decide_eq_true_eq, Bool.not_eq_true', decide_eq_false_iff_not] at hv'
      repeat' (first | (simp (disch := omega) only [push_cast, seval, hg]) | refine iX ?_ ?_ <;> intros | refine aI (by omega) ?_ | refine dq ?_)
      refine ⟨rfl, i + 1, by simp (disch := omega) only [push_cast, seval], ⟨by omega, rfl, fun j hj hji => ?_⟩, by dsimp only; omega⟩
      by_cases h : j < i
      · exact hA j hj h
      · have : j = i := by omega
        subst this
        exact hv
    · have hno : decide (VlOk s) = false := decide_eq_false fun h => hv (h.1 i hlt)
      have hv' : ¬ (32 ≤ s[i].toNat ∧ s[i].toNat ≤ 126 ∧ ¬ s[i].toNat = 34 ∧ ¬ s[i].toNat = 92) := by
        intro hh
        apply hv
        simp only [vlB, Bool.and_eq_true, decide_eq_true_eq, Bool.not_eq_true', decide_eq_false_iff_not]
        exact ⟨⟨⟨hh.1, hh.2.1⟩, hh.2.2.1⟩, hh.2.2.2⟩
      repeat' (first | (simp (disch := omega) only [push_cast, seval, hg]) | refine iX ?_ ?_ <;> intros | refine aI (by omega) ?_ | refine dq ?_)
      all_goals first
        | exact ⟨by rw [hno], trivial⟩
        | exact ⟨by rw [hno], rfl⟩
        | (rw [hno])
        | (exfalso; omega)
  · by_cases h24 : s.size ≤ 24
    · have hyes : decide (VlOk s) = true := decide_eq_true ⟨fun j hj => hA j hj (by omega), h24⟩
      repeat' (first | (simp (disch := omega) only [push_cast, seval]) | refine iX ?_ ?_ <;> intros | refine aI (by omega) ?_ | refine dq ?_)
      rw [hyes]
      exact congrArg Value.bool (decide_eq_true (by omega))
    · have hno : decide (VlOk s) = false := decide_eq_false fun h => h24 h.2
      repeat' (first | (simp (disch := omega) only [push_cast, seval]) | refine iX ?_ ?_ <;> intros | refine aI (by omega) ?_ | refine dq ?_)
      rw [hno]
      exact congrArg Value.bool (decide_eq_false (by omega))
def wordsL : List ByteArray := [⟨#[99, 111, 117, 110, 116]⟩, ⟨#[115, 117, 109]⟩, ⟨#[109, 105, 110]⟩, ⟨#[109, 97, 120]⟩, ⟨#[102, 114, 111, 109]⟩, ⟨#[116, 111]⟩, ⟨#[98, 121]⟩, ⟨#[101, 118, 101, 114, 121]⟩, ⟨#[119, 104, 101, 114, 101]⟩, ⟨#[104, 97, 118, 105, 110, 103]⟩, ⟨#[111, 114, 100, 101, 114]⟩, ⟨#[108, 105, 109, 105, 116]⟩, ⟨#[97, 110, 100]⟩, ⟨#[111, 114]⟩, ⟨#[110, 111, 116]⟩, ⟨#[105, 115]⟩, ⟨#[110, 117, 108, 108]⟩, ⟨#[97, 115, 99]⟩, ⟨#[100, 101, 115, 99]⟩, ⟨#[115, 101, 108, 101, 99, 116]⟩]
theorem words_c (w : World) : FnC Tryz.prog 118 #[] w fun r w' => StS w' r wordsL ∧ Later w w' := by
  refine enter118 ?_
  unfold B118
  repeat' (first | (simp (disch := omega) only [push_cast, seval]) | refine iX ?_ ?_ <;> intros | refine aI (by omega) ?_ | refine dq ?_)
  exact ⟨Sl.of_blk (xs := wordsL.map Value.string) (Blk.new w _ _) rfl (by unfold maxLen; omega), later_alloc _ _⟩
def nmB (i : Nat) (b : UInt8) : Prop := (97 ≤ b.toNat ∧ b.toNat ≤ 122) ∨ (i ≠ 0 ∧ ((48 ≤ b.toNat ∧ b.toNat ≤ 57) ∨ b.toNat = 95))
instance (i : Nat) (b : UInt8) : Decidable (nmB i b) := inferInstanceAs (Decidable (_ ∨ _))
def NmOk (s : ByteArray) : Prop := (∀ x ∈ wordsL, x ≠ s) ∧ (∀ i (h : i < s.size), nmB i s[i]) ∧ 1 ≤ s.size ∧ s.size ≤ 12
instance (s : ByteArray) : Decidable (NmOk s) := inferInstanceAs (Decidable ((∀ x ∈ wordsL, x ≠ s) ∧ (∀ i (h : i < s.size), nmB i s[i]) ∧ 1 ≤ s.size ∧ s.size ≤ 12))
theorem dname_c (s : ByteArray) (w : World) (hs : s.size ≤ 9223372036854775807) : FnC Tryz.prog 76 #[.string s] w fun r w' => r = .bool (decide (NmOk s)) ∧ Later w w' := by
  refine enter76 _ ?_
  unfold B76
  repeat' (first | (simp (disch := omega) only [push_cast, seval]) | refine iX ?_ ?_ <;> intros | refine aI (by omega) ?_ | refine dq ?_)
  refine (words_c w).mono ?_
  rintro v w1 ⟨hW, l1⟩
  obtain ⟨o, c, rfl⟩ := Sl.slice hW
  have hl : (wordsL.map Value.string).length = 20 := rfl
  rw [hl]
  rw [hl] at hW
  repeat' (first | (simp (disch := omega) only [push_cast, seval]) | refine iX ?_ ?_ <;> intros | refine aI (by omega) ?_ | refine dq ?_)
  refine vc_loop W76_0 (fun i : Nat => [(2, .bool false), (4, .int .i64 (i : Int))])
    (fun i w' => i ≤ 20 ∧ Later w1 w' ∧ ∀ j (h : j < wordsL.length), j < i → wordsL[j] ≠ s) (fun i => 20 - i) 0 (by decide) ?_ ?_ ?_
  · simp (disch := omega) only [push_cast, seval]
  · exact ⟨by omega, Later.refl _, fun j _ hj => absurd hj (Nat.not_lt_zero _)⟩
  rintro i uu w2 ⟨hi, l2, hA⟩
  by_cases hlt : i < wordsL.length
  · have hlt' : i < 20 := hlt
    cases o with
    | none => have := Sl.len hW; simp [wordsL] at this
    | some a =>
    have hc := StS.atS (Sl.later hW l2) hlt
    by_cases hv : wordsL[i] = s
    · have hno : decide (NmOk s) = false := decide_eq_false fun h => h.1 _ (List.getElem_mem hlt) hv
      repeat' (first | (simp (disch := omega) only [push_cast, seval, hc, hv, decide_true]) | refine iX ?_ ?_ <;> intros | refine aI (by omega) ?_ | refine dq ?_)
      first | exact ⟨by rw [hno], (l1.trans l2)⟩ | exact (l1.trans l2)
    · repeat' (first | (simp (disch := omega) only [push_cast, seval, hc, hv, decide_false]) | refine iX ?_ ?_ <;> intros | refine aI (by omega) ?_ | refine dq ?_)
      refine ⟨rfl, i + 1, by simp (disch := omega) only [push_cast, seval], ⟨by omega, l2, fun j hj hji => ?_⟩, by dsimp only; omega⟩
      by_cases h : j < i
      · exact hA j hj h
      · have : j = i := by omega
        subst this
        exact hv
  have hi20 : i = 20 := by have : wordsL.length = 20 := rfl; omega
  subst hi20
  have hmem : ∀ x ∈ wordsL, x ≠ s := by
    intro x hm
    obtain ⟨j, hj, rfl⟩ := List.getElem_of_mem hm
    exact hA j hj hj
  have l12 := l1.trans l2
  repeat' (first | (simp (disch := omega) only [push_cast, seval]) | refine iX ?_ ?_ <;> intros | refine aI (by omega) ?_ | refine dq ?_)
  refine vc_loop W76_1 (fun i : Nat => [(2, .bool false), (5, .int .i64 (i : Int))])
    (fun i w' => i ≤ s.size ∧ w' = w2 ∧ ∀ j (h : j < s.size), j < i → nmB j s[j]) (fun i => s.size - i) 0 (by decide) ?_ ?_ ?_
  · simp (disch := omega) only [push_cast, seval]
  · exact ⟨by omega, rfl, fun j _ hj => absurd hj (Nat.not_lt_zero _)⟩
  rintro i uu2 w0 ⟨hi, h0, hB⟩
  obtain rfl := h0.symm
  by_cases hlt : i < s.size
  · have hg : s[i]? = some s[i] := getElem?_pos s i hlt
    have hno : ¬ nmB i s[i] → decide (NmOk s) = false := fun hv => decide_eq_false fun h => hv (h.2.1 i hlt)
    have hyes : nmB i s[i] → ∀ j (h : j < s.size), j < i + 1 → nmB j s[j] := by
      intro hv j hj hji
      by_cases h : j < i
      · exact hB j hj h
      · have : j = i := by omega
        subst this
        exact hv
    generalize hN : nmB i s[i] = N at hno hyes
    unfold nmB at hN
    generalize s[i] = ch at *
    repeat' (first | (simp (disch := omega) only [push_cast, seval, hg]) | refine iX ?_ ?_ <;> intros | refine aI (by omega) ?_ | refine dq ?_)
    all_goals first
      | (have hn : ¬ N := by rw [← hN]; omega
         first | exact ⟨by rw [hno hn], l12⟩ | (rw [hno hn]))
      | (have hn : N := by rw [← hN]; omega
         exact ⟨rfl, i + 1, by simp (disch := omega) only [push_cast, seval], ⟨by omega, rfl, hyes hn⟩, by dsimp only; omega⟩)
  · have hall : ∀ j (h : j < s.size), nmB j s[j] := fun j hj => hB j hj (by omega)
    have hd : decide (NmOk s) = (decide (1 ≤ s.size) && decide (s.size ≤ 12)) := by
      rw [← Bool.decide_and]
      exact decide_eq_decide.2 ⟨fun h => h.2.2, fun h => ⟨hmem, hall, h⟩⟩
    by_cases h1 : 1 ≤ s.size
    · by_cases h2 : s.size ≤ 12
      · rw [hd, decide_eq_true h1, decide_eq_true h2]
        repeat' (first | (simp (disch := omega) only [push_cast, seval]) | refine iX ?_ ?_ <;> intros | refine aI (by omega) ?_ | refine dq ?_)
        first | exact ⟨congrArg Value.bool (decide_eq_true (by omega)), l12⟩ | exact l12
      · rw [hd, decide_eq_true h1, decide_eq_false h2]
        repeat' (first | (simp (disch := omega) only [push_cast, seval]) | refine iX ?_ ?_ <;> intros | refine aI (by omega) ?_ | refine dq ?_)
        first | exact ⟨congrArg Value.bool (decide_eq_false (by omega)), l12⟩ | exact l12
    · rw [hd, decide_eq_false h1]
      repeat' (first | (simp (disch := omega) only [push_cast, seval]) | refine iX ?_ ?_ <;> intros | refine aI (by omega) ?_ | refine dq ?_)
      first | exact ⟨rfl, l12⟩ | exact l12
def F10 (l : List ByteArray) : Prop := l.length ≤ 20 ∧ ∀ s ∈ l, s.size ≤ 80
instance (l : List ByteArray) : Decidable (F10 l) := inferInstanceAs (Decidable (_ ∧ _))
theorem fits10_c (v : Value) (l : List ByteArray) (w : World) (h : StS w v l) (hs : ∀ s ∈ l, s.size ≤ 9223372036854775807) : FnC Tryz.prog 38 #[v] w fun r w' => r = .bool (decide (F10 l)) ∧ w' = w := by
  obtain ⟨o, c, rfl⟩ := Sl.slice h
  rw [List.length_map] at h ⊢
  refine enter38 _ ?_
  unfold B38
  have hbig := (Sl.len h).2.1
  have hbig2 := (Sl.len h).2.2.1
  unfold maxLen at hbig2
  repeat' (first | (simp (disch := omega) only [push_cast, seval]) | refine iX ?_ ?_ <;> intros | refine aI (by omega) ?_ | refine dq ?_)
  refine vc_loop W38_0 (fun i : Nat => [(2, .bool false), (3, .int .i64 (i : Int))])
    (fun i w' => i ≤ l.length ∧ i ≤ 20 ∧ w' = w ∧ ∀ j (h : j < l.length), j < i → l[j].size ≤ 80) (fun i => l.length - i) 0 (by decide) ?_ ?_ ?_
  · simp (disch := omega) only [push_cast, seval]
  · exact ⟨by omega, by omega, rfl, fun j _ hj => absurd hj (Nat.not_lt_zero _)⟩
  rintro i uu w0 ⟨hi, hi20, h0, hA⟩
  obtain rfl := h0.symm
  by_cases hlt : i < l.length
  · cases o with
    | none => have := (Sl.len h).2.2.2 rfl; simp at this; rw [this.1] at hlt; simp at hlt
    | some a =>
    have hc := StS.atS h hlt
    have hz := hs _ (List.getElem_mem hlt)
    by_cases h20 : i = 20
    · have hno : decide (F10 l) = false := decide_eq_false fun h => by have := h.1; omega
      subst h20
      repeat' (first | (simp (disch := omega) only [push_cast, seval, hc]) | refine iX ?_ ?_ <;> intros | refine aI (by omega) ?_ | refine dq ?_)
      first | exact ⟨by rw [hno], trivial⟩ | (rw [hno])
    · by_cases h80 : l[i].size ≤ 80
      · repeat' (first | (simp (disch := omega) only [push_cast, seval, hc]) | refine iX ?_ ?_ <;> intros | refine aI (by omega) ?_ | refine dq ?_)
        refine ⟨rfl, i + 1, by simp (disch := omega) only [push_cast, seval], ⟨by omega, by omega, rfl, fun j hj hji => ?_⟩, by dsimp only; omega⟩
        by_cases h : j < i
        · exact hA j hj h
        · have : j = i := by omega
          subst this
          exact h80
      · have hno : decide (F10 l) = false := decide_eq_false fun h => h80 (h.2 _ (List.getElem_mem _))
        repeat' (first | (simp (disch := omega) only [push_cast, seval, hc]) | refine iX ?_ ?_ <;> intros | refine aI (by omega) ?_ | refine dq ?_)
        first | exact ⟨by rw [hno], trivial⟩ | (rw [hno])
  · have hyes : decide (F10 l) = true := decide_eq_true ⟨by omega, fun s hs => by
      obtain ⟨j, hj, rfl⟩ := List.getElem_of_mem hs
      exact hA j hj (by omega)⟩
    repeat' (first | (simp (disch := omega) only [push_cast, seval]) | refine iX ?_ ?_ <;> intros | refine aI (by omega) ?_ | refine dq ?_)
    rw [hyes]
end Go.Proofs.YtnofalhkapmcnaaGreat
end
section
set_option linter.unusedSimpArgs false
namespace Go.Proofs.YtnofalhkapmcnaaGreat
open Go.Vc Go.Key
set_option maxRecDepth 100000
theorem own_is (op : Int) (d v : ByteArray) (n : Nat) : decide (FT.own op d v n) =
    (if op = 1 then decide (n = 0) else if op = 2 then decide (n = 0) && decide (v = ⟨#[]⟩) else if op = 3 then decide (n = 1) && decide (d = ⟨#[]⟩) && decide (v = ⟨#[]⟩) else if op = 4 ∨ op = 5 then decide (2 ≤ n) && decide (d = ⟨#[]⟩) && decide (v = ⟨#[]⟩) else false) := by
  have e : ∀ s : ByteArray, (s.size = 0) ↔ s = ⟨#[]⟩ := by
    intro s
    constructor
    · intro h
      obtain ⟨a⟩ := s
      have : a.size = 0 := h
      rw [Array.size_eq_zero_iff] at this
      rw [this]
    · rintro rfl; rfl
  unfold FT.own
  simp only [e]
  by_cases h1 : op = 1
  · subst h1; simp
  by_cases h2 : op = 2
  · subst h2; simp
  by_cases h3 : op = 3
  · subst h3; simp [Bool.and_assoc]
  by_cases h4 : op = 4
  · subst h4; simp [Bool.and_assoc]
  by_cases h5 : op = 5
  · subst h5; simp [Bool.and_assoc]
  simp [h1, h2, h3, h4, h5]
set_option maxHeartbeats 400000 in
theorem form_c : ∀ (f : FT) (deep : Nat) (w : World), deep ≤ 1000000 → f.Ok w → FnC Tryz.prog 95 #[.agg (ftC f).toArray, .int .i64 (deep : Int)] w fun v w' => v = .bool (f.form deep) ∧ Later w w' := by
  intro f
  induction f using FT.ind with
  | h f ih =>
  intro deep w hdp hf
  obtain ⟨h1, h2, h3, h4, h5⟩ := FT.ok_iff.1 hf
  obtain ⟨o, c, hkv, hc1, hc2⟩ := RecS.slice h4
  refine enter95 _ _ ?_
  unfold B95
  have eca : (Value.agg (ftC f).toArray).cells = (ftC f).toArray := rfl
  obtain ⟨l1, s1, B1⟩ := ftBox w f
  rw [FT.form_is]
  repeat' (first | (simp (disch := omega) only [push_cast, seval, eca]) | refine iX ?_ ?_ <;> intros | refine aI (by omega) ?_ | refine dq ?_)
  generalize w.alloc (.cells (ftC f).toArray 29) = w1 at *
  generalize w.heap.size = kf at *
  obtain ⟨a0, a1, a2, a3⟩ := ftAt B1
  rw [hkv] at a3
  by_cases hz : deep = 0
  · subst hz
    have hd : decide (((0 : Nat) : Int) = 0) = true := rfl
    repeat' (first | (simp (disch := omega) only [push_cast, seval, a3, hd, addr_add_eq, Nat.zero_add]) | refine iX ?_ ?_ <;> intros | refine aI (by omega) ?_ | refine dq ?_)
    first | exact ⟨rfl, l1⟩ | exact l1
  have hd : decide ((deep : Int) = 0) = false := decide_eq_false (by omega)
  have hdd : (deep : Int) - 1 = ((deep - 1 : Nat) : Int) := by omega
  have hdb : (deep == 0) = false := by simp [hz]
  repeat' (first | (simp (disch := omega) only [push_cast, seval, a3, hd, addr_add_eq, Nat.zero_add]) | refine iX ?_ ?_ <;> intros | refine aI (by omega) ?_ | refine dq ?_)
  refine vc_loop W95_0 (fun i : Nat => [(4, .bool false), (6, .int .i64 (i : Int))]) (fun i w' => i ≤ f.kids.length ∧ Later w1 w' ∧ (f.kids.take i).all (fun k => k.form (deep - 1)) = true) (fun i => f.kids.length - i) 0 (by decide) ?_ ?_ ?_
  · simp (disch := omega) only [push_cast, seval]
  · exact ⟨Nat.zero_le _, Later.refl _, rfl⟩
  rintro i uu w2 ⟨hi, l2, hall⟩
  obtain ⟨b0, b1, b2, b3⟩ := ftAt (ftLater B1 l2)
  rw [hkv] at b3
  by_cases hik : i < f.kids.length
  · have hd2 : decide ((i : Int) < (f.kids.length : Int)) = true := decide_eq_true (by omega)
    rw [hkv] at h4
    obtain ⟨a, rfl, fa⟩ := RecS.at ftC_len (h4.later (l1.trans l2)) hik
    have hk := h5 _ (List.getElem_mem hik)
    have hst : (f.kids.take (i + 1)).all (fun k => k.form (deep - 1)) = (f.kids[i]).form (deep - 1) := by
      rw [List.take_succ_eq_append_getElem hik, List.all_append, hall]; simp
    have hcall := ih _ (List.getElem_mem hik) (deep - 1) w2 (by omega) (hk.later (l1.trans l2))
    rw [← hdd] at hcall
    repeat' (first | (simp (disch := omega) only [push_cast, seval, b3, hd2, fa, addr_add_eq, Nat.zero_add]) | refine iX ?_ ?_ <;> intros | refine aI (by omega) ?_ | refine dq ?_)
    refine hcall.mono ?_
    rintro _ w3 ⟨rfl, l3⟩
    cases hkf : (f.kids[i]).form (deep - 1) with
    | true =>
      repeat' (first | (simp (disch := omega) only [push_cast, seval]) | refine iX ?_ ?_ <;> intros | refine aI (by omega) ?_ | refine dq ?_)
      exact ⟨rfl, i + 1, by simp (disch := omega) only [push_cast, seval], ⟨by omega, l2.trans l3, by rw [hst, hkf]⟩, by dsimp only; omega⟩
    | false =>
      have hf0 : f.kids.all (fun k => k.form (deep - 1)) = false := by
        rw [List.all_eq_false]
        exact ⟨_, List.getElem_mem hik, by simp [hkf]⟩
      rw [hf0]
      repeat' (first | (simp (disch := omega) only [push_cast, seval]) | refine iX ?_ ?_ <;> intros | refine aI (by omega) ?_ | refine dq ?_)
      first | exact ⟨(by simp), (l1.trans (l2.trans l3))⟩ | exact (l1.trans (l2.trans l3))
  · have hd2 : decide ((i : Int) < (f.kids.length : Int)) = false := decide_eq_false (by omega)
    rw [List.take_of_length_le (by omega)] at hall
    rw [hall, own_is, hdb]
    have hl := l1.trans l2
    by_cases k1 : f.op = 1
    · have e1 : decide (f.op = 1) = true := decide_eq_true k1
      rw [if_pos k1]
      repeat' (first | (simp (disch := omega) only [push_cast, seval, b0, b1, b2, b3, hd2, e1, addr_add_eq, Nat.zero_add]) | refine iX ?_ ?_ <;> intros | refine aI (by omega) ?_ | refine dq ?_)
      first | exact ⟨(by simp), hl⟩ | exact hl
    have e1 : decide (f.op = 1) = false := decide_eq_false k1
    by_cases k2 : f.op = 2
    · have e2 : decide (f.op = 2) = true := decide_eq_true k2
      rw [if_neg k1, if_pos k2]
      repeat' (first | (simp (disch := omega) only [push_cast, seval, b0, b1, b2, b3, hd2, e1, e2, addr_add_eq, Nat.zero_add]) | refine iX ?_ ?_ <;> intros | refine aI (by omega) ?_ | refine dq ?_)
      all_goals (refine ⟨congrArg Value.bool ?_, hl⟩)
      all_goals (clear ih h1 h2 h3 h4 h5 a0 a1 a2 a3 b0 b1 b2 b3 B1 l1 l2 hall hl s1 eca)
      all_goals (try (have hnat : ∀ n : Nat, ((f.kids.length : Int) = (n : Int)) = (f.kids.length = n) := fun n => by rw [Int.ofNat_inj]))
      all_goals simp_all
      all_goals (first | omega | done)
    have e2 : decide (f.op = 2) = false := decide_eq_false k2
    by_cases k3 : f.op = 3
    · have e3 : decide (f.op = 3) = true := decide_eq_true k3
      rw [if_neg k1, if_neg k2, if_pos k3]
      repeat' (first | (simp (disch := omega) only [push_cast, seval, b0, b1, b2, b3, hd2, e1, e2, e3, addr_add_eq, Nat.zero_add]) | refine iX ?_ ?_ <;> intros | refine aI (by omega) ?_ | refine dq ?_)
      all_goals (refine ⟨congrArg Value.bool ?_, hl⟩)
      all_goals (clear ih h1 h2 h3 h4 h5 a0 a1 a2 a3 b0 b1 b2 b3 B1 l1 l2 hall hl s1 eca)
      all_goals (try (have hnat : ∀ n : Nat, ((f.kids.length : Int) = (n : Int)) = (f.kids.length = n) := fun n => by rw [Int.ofNat_inj]))
      all_goals simp_all
      all_goals (first | omega | done)
    have e3 : decide (f.op = 3) = false := decide_eq_false k3
    by_cases k4 : f.op = 4
    · have e4 : decide (f.op = 4) = true := decide_eq_true k4
      rw [if_neg k1, if_neg k2, if_neg k3, if_pos (Or.inl k4)]
      repeat' (first | (simp (disch := omega) only [push_cast, seval, b0, b1, b2, b3, hd2, e1, e2, e3, e4, addr_add_eq, Nat.zero_add]) | refine iX ?_ ?_ <;> intros | refine aI (by omega) ?_ | refine dq ?_)
      all_goals (refine ⟨congrArg Value.bool ?_, hl⟩)
      all_goals (clear ih h1 h2 h3 h4 h5 a0 a1 a2 a3 b0 b1 b2 b3 B1 l1 l2 hall hl s1 eca)
      all_goals (try (have hnat : ∀ n : Nat, ((f.kids.length : Int) = (n : Int)) = (f.kids.length = n) := fun n => by rw [Int.ofNat_inj]))
      all_goals simp_all
      all_goals (first | omega | done)
    have e4 : decide (f.op = 4) = false := decide_eq_false k4
    by_cases k5 : f.op = 5
    · have e5 : decide (f.op = 5) = true := decide_eq_true k5
      rw [if_neg k1, if_neg k2, if_neg k3, if_pos (Or.inr k5)]
      repeat' (first | (simp (disch := omega) only [push_cast, seval, b0, b1, b2, b3, hd2, e1, e2, e3, e4, e5, addr_add_eq, Nat.zero_add]) | refine iX ?_ ?_ <;> intros | refine aI (by omega) ?_ | refine dq ?_)
      all_goals (refine ⟨congrArg Value.bool ?_, hl⟩)
      all_goals (clear ih h1 h2 h3 h4 h5 a0 a1 a2 a3 b0 b1 b2 b3 B1 l1 l2 hall hl s1 eca)
      all_goals (try (have hnat : ∀ n : Nat, ((f.kids.length : Int) = (n : Int)) = (f.kids.length = n) := fun n => by rw [Int.ofNat_inj]))
      all_goals simp_all
      all_goals (first | omega | done)
    have e5 : decide (f.op = 5) = false := decide_eq_false k5
    rw [if_neg k1, if_neg k2, if_neg k3, if_neg (by omega)]
    repeat' (first | (simp (disch := omega) only [push_cast, seval, b0, b1, b2, b3, hd2, e1, e2, e3, e4, e5, addr_add_eq, Nat.zero_add]) | refine iX ?_ ?_ <;> intros | refine aI (by omega) ?_ | refine dq ?_)
    first | exact ⟨(by simp), hl⟩ | exact hl
end Go.Proofs.YtnofalhkapmcnaaGreat
end
section
set_option linter.unusedSimpArgs false
namespace Go.Vc
open Go.RowKit in
theorem vAppend_fresh {P : Program} {w : World} {K : Value → World → Prop} {t e ty : TypeId} {z : Value} {s b : Nat} (ht : P.underlying t = some (.slice e)) (hi : (P.info? e).map (fun i => (i.zero, i.size, i.bytes)) = some (some z, s, b)) (hzs : z.cells.size = s) (hsz : 0 < s)
    {db : Nat} {x : Value} {m : Nat} {news : List Value} (hx : SlN w s x m news) (h63 : m ≤ maxLen) (hb : m * b ≤ 140737488355328)
    (hK : ∀ v' w', (m = 0 → v' = .slice (some ⟨db, 0, none⟩) 0 0 ∧ w' = w) → (0 < m → w'.ownsRow w.heap.size e s v' m news ∧ Later w w') → K v' w') : vAppend P #[t, t] ty #[.slice (some ⟨db, 0, none⟩) 0 0, x] K w := by
  obtain ⟨i, hi1, hz, hsi, hbi⟩ := info_parts hi
  unfold vAppend
  obtain ⟨hl, hr⟩ := hx
  rcases hr with ⟨rfl, rfl⟩ | ⟨ad, c, rfl, hc1, hc2, hc3⟩
  · rw [run_val_pure (run_append_nil_src ht hi (some ⟨db, 0, none⟩) 0 0 (Nat.le_refl _) (fun ho => by cases ho))]
    exact hK _ _ (fun _ => ⟨rfl, rfl⟩) (fun h => absurd h (Nat.lt_irrefl _))
  · by_cases hm : m = 0
    · subst hm
      have hn : news = [] := List.eq_nil_of_length_eq_zero (by simpa using hl)
      subst hn
      have hrun := run_append_room_cells (P := P) w t ty e i ht hi1 db 0 0 0 ad 0 c [] (by simp) (fun j u h => by simp at h) (fun u h => by simp at h) (by omega) (fun j h => by simp at h) (fun j h => by simp at h)
      rw [run_val_pure hrun]
      exact hK _ _ (fun _ => ⟨rfl, rfl⟩) (fun h => absurd h (Nat.lt_irrefl _))
    · obtain ⟨v', w', hrun, ho, hg⟩ := run_append_arg_grows (P := P) w t ty e i z s b ht hi1 hz hsi hbi hzs hsz ⟨db, 0, none⟩ 0 0 [] (by simp) (fun j u h => by simp at h) ad m c news hl hc3 (by omega) (by omega) (by simpa using hb)
      rw [run_val_pure hrun]
      refine hK _ _ (fun h => absurd h hm) (fun _ => ⟨by simpa using ho, hg.os, hg.tape, hg.output, hg.size, fun k hk => hg.block k hk (by simp)⟩)
theorem nR_app {P : Program} {args : Array Operand} {ts : Array TypeId} {ty : TypeId} {rs : List Nat} {Ns : NS} {σ : Env} {w : World} {Kv : Value → Prop} {Kn : (Value → World → Prop) → Prop} (V' : Value → World → Prop) (hV' : Stb w V')
    (h : ∀ σ' w', Later w w' → psis Ns σ w' σ' rs → vAppend P ts ty (args.map (ev σ')) (fun v w'' => Later w' w'' ∧ V' v w'') w') (hk : Kn V') : nR P (.call ⟨.builtin .append, args, ts⟩) ty rs Ns σ w Kv Kn :=
  .inr ⟨V', hV', fun σ' w' hl hp => nUp_val (h σ' w' hl hp), hk⟩
end Go.Vc
namespace Go.Proofs.YtnofalhkapmcnaaGreat
open Go.Vc Go.Key
set_option maxRecDepth 100000
abbrev OwnS (w : World) (B : Nat) (v : Value) (l : List ByteArray) : Prop := w.ownsRow B 9 1 v l.length (l.map Value.string)
theorem stb_ownS (w0 : World) (B : Nat) (l : List ByteArray) : Stb w0 (fun v w => OwnS w B v l) := fun _ _ _ _ hl h => own_later h hl
def Lit0 (B : Nat) (v : Value) (w : World) : Prop := (∃ b, v = .slice (some ⟨b, 0, none⟩) 0 0) ∧ OwnS w B v []
theorem stb_lit0 (w0 : World) (B : Nat) : Stb w0 (Lit0 B) := fun _ _ _ _ hl h => ⟨h.1, own_later h.2 hl⟩
theorem box2 (w : World) (a b : Value) (e : TypeId) : Later w (w.alloc (.cells #[a, b] e)) ∧ (w.alloc (.cells #[a, b] e)).heap.size = w.heap.size + 1 ∧ ∀ w', Later (w.alloc (.cells #[a, b] e)) w' → w'.cell? ⟨w.heap.size, 0, none⟩ = some a ∧ w'.cell? ⟨w.heap.size, 1, none⟩ = some b ∧ cellsAt w' ⟨w.heap.size, 0, none⟩ 2 = some [a, b] := by
  refine ⟨later_alloc _ _, World.size_alloc _ _, fun w' hl => ?_⟩
  have := (Blk.new w #[a, b] e).chg (Chg.of_later (ks := []) hl) (by simp)
  exact ⟨this.cell 0, this.cell 1, Blk.cellsAt (l := [a, b]) this⟩
def StZ (l : List ByteArray) : Prop := ∀ s ∈ l, s.size ≤ 9223372036854775807
structure ScIs (w : World) (dv mv : Value) (d m : List ByteArray) : Prop where
  dS : StS w dv d
  mS : StS w mv m
  dZ : StZ d
  mZ : StZ m
theorem ScIs.later {w w' : World} {dv mv : Value} {d m : List ByteArray} (h : ScIs w dv mv d m) (hl : Later w w') : ScIs w' dv mv d m := ⟨Sl.later h.dS hl, Sl.later h.mS hl, h.dZ, h.mZ⟩
def scV (dv mv : Value) : Value := .agg #[dv, mv]
def ScOk (d m : List ByteArray) : Prop := (∀ x ∈ d ++ m, NmOk x) ∧ (d ++ m).Pairwise (fun x y => x ≠ y) ∧ 1 ≤ d.length ∧ d.length ≤ 6 ∧ m.length ≤ 4
instance (d m : List ByteArray) : Decidable (ScOk d m) := inferInstanceAs (Decidable ((∀ x ∈ d ++ m, NmOk x) ∧ (d ++ m).Pairwise (fun x y => x ≠ y) ∧ 1 ≤ d.length ∧ d.length ≤ 6 ∧ m.length ≤ 4))
theorem StS.n {w : World} {v : Value} {l : List ByteArray} (h : StS w v l) : SlN w 1 v l.length (l.map Value.string) := by
  have := h
  unfold StS Sl at this
  rwa [List.length_map] at this
theorem vAppend_ss {w : World} {K : Value → World → Prop} {ty : TypeId} {B : Nat} {v x : Value} {l r : List ByteArray} (hown : OwnS w B v l) (hx : StS w x r) (h63 : l.length + r.length ≤ 100000000) (hbase : B ≤ w.heap.size)
    (hK : ∀ v' w', OwnS w' B v' (l ++ r) → w.grownBy w' v.ownBlock → (v'.ownBlock = v.ownBlock ∨ v'.ownBlock = some w.heap.size) → K v' w') : vAppend Tryz.prog #[22, 22] ty #[v, x] K w := by
  refine vAppend_at Tryz.underlying22 ti9 rfl (by decide) hown hx.n ?_ (by unfold maxLen; omega) (by omega) hbase ?_
  · intro u hu
    obtain ⟨p, hp, rfl⟩ := List.mem_map.1 hu
    rfl
  · intro v' w' ho hg hs
    refine hK v' w' ?_ hg hs
    unfold OwnS
    simpa using ho
theorem ok_step {L : List ByteArray} {i : Nat} (hi : i < L.length) (hd : (L.take i).Pairwise (fun x y => x ≠ y)) (hn : ∀ j (h : j < L.length), j < i → L[j] ≠ L[i]) : (L.take (i + 1)).Pairwise (fun x y => x ≠ y) := by
  rw [take_snoc L i hi, List.pairwise_append]
  refine ⟨hd, by simp, fun a ha b hb => ?_⟩
  rw [List.mem_singleton.1 hb]
  obtain ⟨j, hj, rfl⟩ := List.getElem_of_mem ha
  rw [List.length_take] at hj
  rw [List.getElem_take]
  exact hn j (by omega) (by omega)
theorem dschema_c (dv mv : Value) (d m : List ByteArray) (w : World) (h : ScIs w dv mv d m) (fd : d.length ≤ 2000000) (fm : m.length ≤ 2000000) : FnC Tryz.prog 40 #[scV dv mv] w fun r w' => r = .bool (decide (ScOk d m)) ∧ Later w w' := by
  unfold scV
  obtain ⟨od, cd, hdv⟩ := Sl.slice h.dS
  obtain ⟨om, cm, hmv⟩ := Sl.slice h.mS
  rw [List.length_map] at hdv hmv
  refine enter40 _ ?_
  unfold B40
  obtain ⟨l1, s1, F⟩ := box2 w dv mv 24
  have eca : (Value.agg #[dv, mv]).cells = #[dv, mv] := rfl
  repeat' (first | (simp (disch := omega) only [push_cast, seval, eca, s1]) | refine iX ?_ ?_ <;> intros | refine aI (by omega) ?_ | fail)
  generalize w.alloc (.cells #[dv, mv] 24) = w1 at *
  obtain ⟨a0, a1, _⟩ := F w1 (Later.refl _)
  have h1 := h.later l1
  refine drawn_k 6 ?_
  repeat' (first | (simp (disch := omega) only [push_cast, seval, a0, a1, addr_add_eq, Nat.zero_add]) | refine iX ?_ ?_ <;> intros | refine aI (by omega) ?_ | fail)
  refine nB_of _ (Lit0 w1.heap.size) (stb_lit0 _ _) (fun w' hl => ?_) ?_
  · repeat' (first | (simp (disch := omega) only [push_cast, seval]) | refine iX ?_ ?_ <;> intros | refine aI (by omega) ?_ | fail)
    exact ⟨later_alloc _ _, ⟨_, rfl⟩, own_lit w' [] _ 1 0 rfl (by unfold maxLen; omega) hl.size⟩
  repeat' (first | (simp (disch := omega) only [push_cast, seval, a0, a1, addr_add_eq, Nat.zero_add]) | refine iX ?_ ?_ <;> intros | refine aI (by omega) ?_ | fail)
  refine nR_app (fun v w' => OwnS w' w1.heap.size v d) (stb_ownS _ _ _) (fun σ' w' hl hp => ?_) ?_
  · obtain ⟨hp26, hp28, _⟩ := hp
    obtain ⟨⟨lb, h26⟩, h26o⟩ : Lit0 w1.heap.size (σ' 7) w' := hp26
    have h28 : σ' 9 = dv := hp28
    have hsn := (h1.later hl).dS.n
    rw [h26] at h26o
    repeat' (first | (simp (disch := omega) only [push_cast, seval, h28, h26]) | refine iX ?_ ?_ <;> intros | refine aI (by omega) ?_ | fail)
    refine vAppend_fresh Tryz.underlying22 ti9 rfl (by decide) hsn (by unfold maxLen; omega) (by omega) ?_
    intro v' w'' h0 h1
    rcases Nat.eq_zero_or_pos d.length with hz | hz
    · obtain ⟨rfl, rfl⟩ := h0 hz
      have : d = [] := List.length_eq_zero_iff.1 hz
      rw [this]
      exact ⟨Later.refl _, h26o⟩
    · obtain ⟨ho, hll⟩ := h1 hz
      exact ⟨hll, own_base ho hl.size⟩
  repeat' (first | (simp (disch := omega) only [push_cast, seval, a0, a1, addr_add_eq, Nat.zero_add]) | refine iX ?_ ?_ <;> intros | refine aI (by omega) ?_ | fail)
  rintro w2 l2 X hX _ _
  refine vAppend_ss hX (h1.later l2).mS (by omega) l2.size ?_
  intro v3 w3 ho3 hg3 _
  have l13 := l2.appended hX (Nat.le_refl _) hg3
  have hL := Sl.of_own ho3
  have hLn : (d ++ m).length = d.length + m.length := List.length_append
  have hZ : StZ (d ++ m) := fun s hs => by
    rcases List.mem_append.1 hs with hs | hs
    · exact h.dZ s hs
    · exact h.mZ s hs
  have hL : StS w3 v3 (d ++ m) := hL
  have hOk : ScOk d m = ((∀ x ∈ d ++ m, NmOk x) ∧ (d ++ m).Pairwise (fun x y => x ≠ y) ∧ 1 ≤ d.length ∧ d.length ≤ 6 ∧ m.length ≤ 4) := rfl
  generalize d ++ m = L at *
  obtain ⟨o3, c3, rfl⟩ := Sl.slice hL
  rw [List.length_map] at hL ⊢
  clear hX ho3 hg3
  repeat' (first | (simp (disch := omega) only [push_cast, seval]) | refine iX ?_ ?_ <;> intros | refine aI (by omega) ?_ | refine dq ?_)
  refine vc_loop W40_0 (fun i : Nat => [(2, .bool false), (4, .int .i64 (i : Int))])
    (fun i w' => i ≤ L.length ∧ Later w3 w' ∧ (∀ j (h : j < L.length), j < i → NmOk L[j]) ∧ (L.take i).Pairwise (fun x y => x ≠ y)) (fun i => L.length - i) 0 (by decide) ?_ ?_ ?_
  · simp (disch := omega) only [push_cast, seval]
  · exact ⟨by omega, Later.refl _, fun j _ hj => absurd hj (Nat.not_lt_zero _), by simp⟩
  rintro i uu w4 ⟨hi, l4, hA, hP⟩
  have l04 := (l1.trans l13).trans l4
  by_cases hlt : i < L.length
  · cases o3 with
    | none => have := (Sl.len hL).2.2.2 rfl; simp at this; rw [this.1] at hlt; simp at hlt
    | some a =>
    have hc := StS.atS (Sl.later hL l4) hlt
    repeat' (first | (simp (disch := omega) only [push_cast, seval, hc]) | refine iX ?_ ?_ <;> intros | refine aI (by omega) ?_ | refine dq ?_)
    refine (dname_c L[i] w4 (hZ _ (List.getElem_mem _))).mono ?_
    rintro _ w5 ⟨rfl, l5⟩
    by_cases hn : NmOk L[i]
    · rw [decide_eq_true hn]
      repeat' (first | (simp (disch := omega) only [push_cast, seval]) | refine iX ?_ ?_ <;> intros | refine aI (by omega) ?_ | refine dq ?_)
      refine vc_loop W40_1 (fun i : Nat => [(2, .bool false), (6, .int .i64 (i : Int))])
        (fun k w' => k ≤ i ∧ Later w5 w' ∧ (∀ j (h : j < L.length), j < k → L[j] ≠ L[i])) (fun k => i - k) 0 (by decide) ?_ ?_ ?_
      · simp (disch := omega) only [push_cast, seval]
      · exact ⟨by omega, Later.refl _, fun j _ hj => absurd hj (Nat.not_lt_zero _)⟩
      rintro k uu2 w6 ⟨hk, l6, hB⟩
      have l46 := l5.trans l6
      by_cases hki : k < i
      · have c1 := StS.atS (Sl.later hL (l4.trans l46)) (show k < L.length by omega)
        have c2 := StS.atS (Sl.later hL (l4.trans l46)) hlt
        by_cases he : L[k] = L[i]
        · have hno : decide (ScOk d m) = false := decide_eq_false fun h => by
            rw [hOk] at h
            exact List.pairwise_iff_getElem.1 h.2.1 k i (by omega) hlt hki he
          repeat' (first | (simp (disch := omega) only [push_cast, seval, c1, c2, he, decide_true]) | refine iX ?_ ?_ <;> intros | refine aI (by omega) ?_ | refine dq ?_)
          intro w7 l7
          repeat' (first | (simp (disch := omega) only [push_cast, seval]) | refine iX ?_ ?_ <;> intros | refine aI (by omega) ?_ | refine dq ?_)
          first | exact ⟨by rw [hno], ((l04.trans l46).trans l7)⟩ | exact ((l04.trans l46).trans l7)
        · repeat' (first | (simp (disch := omega) only [push_cast, seval, c1, c2, he, decide_false]) | refine iX ?_ ?_ <;> intros | refine aI (by omega) ?_ | refine dq ?_)
          intro w7 l7
          repeat' (first | (simp (disch := omega) only [push_cast, seval]) | refine iX ?_ ?_ <;> intros | refine aI (by omega) ?_ | refine dq ?_)
          refine ⟨rfl, k + 1, by simp (disch := omega) only [push_cast, seval], ⟨by omega, l6.trans l7, fun j hj hjk => ?_⟩, by dsimp only; omega⟩
          by_cases h : j < k
          · exact hB j hj h
          · have : j = k := by omega
            subst this
            exact he
      · have hki' : k = i := by omega
        subst hki'
        repeat' (first | (simp (disch := omega) only [push_cast, seval]) | refine iX ?_ ?_ <;> intros | refine aI (by omega) ?_ | refine dq ?_)
        refine ⟨rfl, k + 1, by simp (disch := omega) only [push_cast, seval], ⟨by omega, l4.trans l46, fun j hj hjk => ?_, ok_step hlt hP hB⟩, by dsimp only; omega⟩
        by_cases h : j < k
        · exact hA j hj h
        · have : j = k := by omega
          subst this
          exact hn
    · have hno : decide (ScOk d m) = false := decide_eq_false fun h => by
        rw [hOk] at h
        exact hn (h.1 _ (List.getElem_mem _))
      rw [decide_eq_false hn]
      repeat' (first | (simp (disch := omega) only [push_cast, seval]) | refine iX ?_ ?_ <;> intros | refine aI (by omega) ?_ | refine dq ?_)
      first | exact ⟨by rw [hno], (l04.trans l5)⟩ | exact (l04.trans l5)
  · have hd : decide (ScOk d m) = decide (1 ≤ d.length ∧ d.length ≤ 6 ∧ m.length ≤ 4) := by
      refine decide_eq_decide.2 ?_
      rw [hOk]
      refine ⟨fun h => h.2.2, fun h => ⟨fun x hx => ?_, ?_, h⟩⟩
      · obtain ⟨j, hj, rfl⟩ := List.getElem_of_mem hx
        exact hA j hj (by omega)
      · rw [List.take_of_length_le (by omega)] at hP
        exact hP
    obtain ⟨a0, a1, _⟩ := F w4 (l13.trans l4)
    rw [hdv] at a0
    rw [hmv] at a1
    rw [hd]
    by_cases h1 : 1 ≤ d.length
    · by_cases h2 : d.length ≤ 6
      · by_cases h3 : m.length ≤ 4
        · repeat' (first | (simp (disch := omega) only [push_cast, seval, a0, a1, addr_add_eq, Nat.zero_add]) | refine iX ?_ ?_ <;> intros | refine aI (by omega) ?_ | refine dq ?_)
          first | exact ⟨congrArg Value.bool ((decide_eq_true (by omega)).trans (decide_eq_true (by omega)).symm), l04⟩ | exact l04
        · repeat' (first | (simp (disch := omega) only [push_cast, seval, a0, a1, addr_add_eq, Nat.zero_add]) | refine iX ?_ ?_ <;> intros | refine aI (by omega) ?_ | refine dq ?_)
          first | exact ⟨congrArg Value.bool ((decide_eq_false (by omega)).trans (decide_eq_false (by omega)).symm), l04⟩ | exact l04
      · repeat' (first | (simp (disch := omega) only [push_cast, seval, a0, a1, addr_add_eq, Nat.zero_add]) | refine iX ?_ ?_ <;> intros | refine aI (by omega) ?_ | refine dq ?_)
        first | exact ⟨congrArg Value.bool ((decide_eq_false (by omega)).trans (decide_eq_false (by omega)).symm), congrArg Value.bool (decide_eq_false (by omega)).symm, l04⟩ | exact ⟨congrArg Value.bool (decide_eq_false (by omega)).symm, l04⟩ | exact l04
    · repeat' (first | (simp (disch := omega) only [push_cast, seval, a0, a1, addr_add_eq, Nat.zero_add]) | refine iX ?_ ?_ <;> intros | refine aI (by omega) ?_ | refine dq ?_)
      first | exact ⟨congrArg Value.bool ((decide_eq_false (by omega)).trans (decide_eq_false (by omega)).symm), l04⟩ | exact ⟨congrArg Value.bool (decide_eq_false (by omega)).symm, l04⟩ | trace_state
end Go.Proofs.YtnofalhkapmcnaaGreat
end
