/- What the generator asks of the types' table. Written by a program (codes.py). -/
import Derived.Test.YtnofalhkapmcnaaGreatChecked
import Derived.Test.YtnofalhkapmcnaaGreatPartC
set_option linter.all false
section
namespace Go.Proofs.YtnofalhkapmcnaaGreat
open Go.Vc
theorem mixed : Tryz.prog.follows .mixedOrders = true := by kernel_rfl
@[push_cast] theorem sz1 : szOf Tryz.prog 1 = some 1 := by kernel_rfl
theorem ti1 : (Tryz.prog.info? 1).map (fun i => (i.zero, i.size, i.bytes)) = some (some .nilFunc, 1, 8) := by kernel_rfl
@[push_cast] theorem al1 (K : Value → World → Prop) (w : World) : vAlloc Tryz.prog 1 K w = K (.pointer (some ⟨w.heap.size, 0, none⟩)) (w.alloc (.cells #[.nilFunc] 1)) := vAlloc_ok ti1 K w
@[push_cast] theorem one1 : oneD (Tryz.prog.underlying 1) = true := by kernel_rfl
@[push_cast] theorem sz2 : szOf Tryz.prog 2 = some 1 := by kernel_rfl
theorem ti2 : (Tryz.prog.info? 2).map (fun i => (i.zero, i.size, i.bytes)) = some (some (.int .i64 0), 1, 8) := by kernel_rfl
@[push_cast] theorem al2 (K : Value → World → Prop) (w : World) : vAlloc Tryz.prog 2 K w = K (.pointer (some ⟨w.heap.size, 0, none⟩)) (w.alloc (.cells #[(.int .i64 0)] 2)) := vAlloc_ok ti2 K w
attribute [push_cast] Tryz.underlying2
@[push_cast] theorem sz3 : szOf Tryz.prog 3 = some 1 := by kernel_rfl
theorem ti3 : (Tryz.prog.info? 3).map (fun i => (i.zero, i.size, i.bytes)) = some (some (.int .i64 0), 1, 8) := by kernel_rfl
@[push_cast] theorem al3 (K : Value → World → Prop) (w : World) : vAlloc Tryz.prog 3 K w = K (.pointer (some ⟨w.heap.size, 0, none⟩)) (w.alloc (.cells #[(.int .i64 0)] 3)) := vAlloc_ok ti3 K w
attribute [push_cast] Tryz.underlying3
@[push_cast] theorem sz4 : szOf Tryz.prog 4 = some 1 := by kernel_rfl
theorem ti4 : (Tryz.prog.info? 4).map (fun i => (i.zero, i.size, i.bytes)) = some (some (.bool false), 1, 1) := by kernel_rfl
@[push_cast] theorem al4 (K : Value → World → Prop) (w : World) : vAlloc Tryz.prog 4 K w = K (.pointer (some ⟨w.heap.size, 0, none⟩)) (w.alloc (.cells #[(.bool false)] 4)) := vAlloc_ok ti4 K w
attribute [push_cast] Tryz.underlying4
@[push_cast] theorem sz5 : szOf Tryz.prog 5 = some 1 := by kernel_rfl
theorem ti5 : (Tryz.prog.info? 5).map (fun i => (i.zero, i.size, i.bytes)) = some (some (.int .u8 0), 1, 1) := by kernel_rfl
@[push_cast] theorem al5 (K : Value → World → Prop) (w : World) : vAlloc Tryz.prog 5 K w = K (.pointer (some ⟨w.heap.size, 0, none⟩)) (w.alloc (.cells #[(.int .u8 0)] 5)) := vAlloc_ok ti5 K w
attribute [push_cast] Tryz.underlying5
@[push_cast] theorem sz6 : szOf Tryz.prog 6 = some 1 := by kernel_rfl
theorem ti6 : (Tryz.prog.info? 6).map (fun i => (i.zero, i.size, i.bytes)) = some (some (.int .u8 0), 1, 1) := by kernel_rfl
@[push_cast] theorem al6 (K : Value → World → Prop) (w : World) : vAlloc Tryz.prog 6 K w = K (.pointer (some ⟨w.heap.size, 0, none⟩)) (w.alloc (.cells #[(.int .u8 0)] 6)) := vAlloc_ok ti6 K w
attribute [push_cast] Tryz.underlying6
@[push_cast] theorem sz9 : szOf Tryz.prog 9 = some 1 := by kernel_rfl
theorem ti9 : (Tryz.prog.info? 9).map (fun i => (i.zero, i.size, i.bytes)) = some (some (.string ⟨#[]⟩), 1, 16) := by kernel_rfl
@[push_cast] theorem al9 (K : Value → World → Prop) (w : World) : vAlloc Tryz.prog 9 K w = K (.pointer (some ⟨w.heap.size, 0, none⟩)) (w.alloc (.cells #[(.string ⟨#[]⟩)] 9)) := vAlloc_ok ti9 K w
attribute [push_cast] Tryz.underlying9
@[push_cast] theorem sz20 : szOf Tryz.prog 20 = some 1 := by kernel_rfl
theorem ti20 : (Tryz.prog.info? 20).map (fun i => (i.zero, i.size, i.bytes)) = some (some .nilIface, 1, 16) := by kernel_rfl
@[push_cast] theorem al20 (K : Value → World → Prop) (w : World) : vAlloc Tryz.prog 20 K w = K (.pointer (some ⟨w.heap.size, 0, none⟩)) (w.alloc (.cells #[.nilIface] 20)) := vAlloc_ok ti20 K w
@[push_cast] theorem one20 : oneD (Tryz.prog.underlying 20) = true := by kernel_rfl
@[push_cast] theorem sz21 : szOf Tryz.prog 21 = some 1 := by kernel_rfl
theorem ti21 : (Tryz.prog.info? 21).map (fun i => (i.zero, i.size, i.bytes)) = some (some (.int .i32 0), 1, 4) := by kernel_rfl
@[push_cast] theorem al21 (K : Value → World → Prop) (w : World) : vAlloc Tryz.prog 21 K w = K (.pointer (some ⟨w.heap.size, 0, none⟩)) (w.alloc (.cells #[(.int .i32 0)] 21)) := vAlloc_ok ti21 K w
attribute [push_cast] Tryz.underlying21
@[push_cast] theorem sz22 : szOf Tryz.prog 22 = some 1 := by kernel_rfl
theorem ti22 : (Tryz.prog.info? 22).map (fun i => (i.zero, i.size, i.bytes)) = some (some (.slice none 0 0), 1, 24) := by kernel_rfl
@[push_cast] theorem al22 (K : Value → World → Prop) (w : World) : vAlloc Tryz.prog 22 K w = K (.pointer (some ⟨w.heap.size, 0, none⟩)) (w.alloc (.cells #[(.slice none 0 0)] 22)) := vAlloc_ok ti22 K w
attribute [push_cast] Tryz.underlying22
@[push_cast] theorem sz23 : szOf Tryz.prog 23 = some 2 := by kernel_rfl
theorem ti23 : (Tryz.prog.info? 23).map (fun i => (i.zero, i.size, i.bytes)) = some (some (.agg #[(.slice none 0 0), (.slice none 0 0)]), 2, 48) := by kernel_rfl
@[push_cast] theorem al23 (K : Value → World → Prop) (w : World) : vAlloc Tryz.prog 23 K w = K (.pointer (some ⟨w.heap.size, 0, none⟩)) (w.alloc (.cells #[(.slice none 0 0), (.slice none 0 0)] 23)) := vAlloc_ok ti23 K w
attribute [push_cast] Tryz.underlying23
@[push_cast] theorem fld23_0 : fieldOf Tryz.prog 23 0 = some (0, 22) := by kernel_rfl
@[push_cast] theorem fld23_1 : fieldOf Tryz.prog 23 1 = some (1, 22) := by kernel_rfl
@[push_cast] theorem sz24 : szOf Tryz.prog 24 = some 2 := by kernel_rfl
theorem ti24 : (Tryz.prog.info? 24).map (fun i => (i.zero, i.size, i.bytes)) = some (some (.agg #[(.slice none 0 0), (.slice none 0 0)]), 2, 48) := by kernel_rfl
@[push_cast] theorem al24 (K : Value → World → Prop) (w : World) : vAlloc Tryz.prog 24 K w = K (.pointer (some ⟨w.heap.size, 0, none⟩)) (w.alloc (.cells #[(.slice none 0 0), (.slice none 0 0)] 24)) := vAlloc_ok ti24 K w
attribute [push_cast] Tryz.underlying24
@[push_cast] theorem fld24_0 : fieldOf Tryz.prog 24 0 = some (0, 22) := by kernel_rfl
@[push_cast] theorem fld24_1 : fieldOf Tryz.prog 24 1 = some (1, 22) := by kernel_rfl
@[push_cast] theorem sz25 : szOf Tryz.prog 25 = some 1 := by kernel_rfl
theorem ti25 : (Tryz.prog.info? 25).map (fun i => (i.zero, i.size, i.bytes)) = some (some (.slice none 0 0), 1, 24) := by kernel_rfl
@[push_cast] theorem al25 (K : Value → World → Prop) (w : World) : vAlloc Tryz.prog 25 K w = K (.pointer (some ⟨w.heap.size, 0, none⟩)) (w.alloc (.cells #[(.slice none 0 0)] 25)) := vAlloc_ok ti25 K w
attribute [push_cast] Tryz.underlying25
@[push_cast] theorem sz26 : szOf Tryz.prog 26 = some 1 := by kernel_rfl
theorem ti26 : (Tryz.prog.info? 26).map (fun i => (i.zero, i.size, i.bytes)) = some (some (.int .i64 0), 1, 8) := by kernel_rfl
@[push_cast] theorem al26 (K : Value → World → Prop) (w : World) : vAlloc Tryz.prog 26 K w = K (.pointer (some ⟨w.heap.size, 0, none⟩)) (w.alloc (.cells #[(.int .i64 0)] 26)) := vAlloc_ok ti26 K w
attribute [push_cast] Tryz.underlying26
@[push_cast] theorem sz27 : szOf Tryz.prog 27 = some 1 := by kernel_rfl
theorem ti27 : (Tryz.prog.info? 27).map (fun i => (i.zero, i.size, i.bytes)) = some (some (.slice none 0 0), 1, 24) := by kernel_rfl
@[push_cast] theorem al27 (K : Value → World → Prop) (w : World) : vAlloc Tryz.prog 27 K w = K (.pointer (some ⟨w.heap.size, 0, none⟩)) (w.alloc (.cells #[(.slice none 0 0)] 27)) := vAlloc_ok ti27 K w
attribute [push_cast] Tryz.underlying27
@[push_cast] theorem sz28 : szOf Tryz.prog 28 = some 4 := by kernel_rfl
theorem ti28 : (Tryz.prog.info? 28).map (fun i => (i.zero, i.size, i.bytes)) = some (some (.agg #[(.int .i64 0), (.string ⟨#[]⟩), (.string ⟨#[]⟩), (.slice none 0 0)]), 4, 64) := by kernel_rfl
@[push_cast] theorem al28 (K : Value → World → Prop) (w : World) : vAlloc Tryz.prog 28 K w = K (.pointer (some ⟨w.heap.size, 0, none⟩)) (w.alloc (.cells #[(.int .i64 0), (.string ⟨#[]⟩), (.string ⟨#[]⟩), (.slice none 0 0)] 28)) := vAlloc_ok ti28 K w
attribute [push_cast] Tryz.underlying28
@[push_cast] theorem fld28_0 : fieldOf Tryz.prog 28 0 = some (0, 26) := by kernel_rfl
@[push_cast] theorem fld28_1 : fieldOf Tryz.prog 28 1 = some (1, 9) := by kernel_rfl
@[push_cast] theorem fld28_2 : fieldOf Tryz.prog 28 2 = some (2, 9) := by kernel_rfl
@[push_cast] theorem fld28_3 : fieldOf Tryz.prog 28 3 = some (3, 27) := by kernel_rfl
@[push_cast] theorem sz29 : szOf Tryz.prog 29 = some 4 := by kernel_rfl
theorem ti29 : (Tryz.prog.info? 29).map (fun i => (i.zero, i.size, i.bytes)) = some (some (.agg #[(.int .i64 0), (.string ⟨#[]⟩), (.string ⟨#[]⟩), (.slice none 0 0)]), 4, 64) := by kernel_rfl
@[push_cast] theorem al29 (K : Value → World → Prop) (w : World) : vAlloc Tryz.prog 29 K w = K (.pointer (some ⟨w.heap.size, 0, none⟩)) (w.alloc (.cells #[(.int .i64 0), (.string ⟨#[]⟩), (.string ⟨#[]⟩), (.slice none 0 0)] 29)) := vAlloc_ok ti29 K w
attribute [push_cast] Tryz.underlying29
@[push_cast] theorem fld29_0 : fieldOf Tryz.prog 29 0 = some (0, 26) := by kernel_rfl
@[push_cast] theorem fld29_1 : fieldOf Tryz.prog 29 1 = some (1, 9) := by kernel_rfl
@[push_cast] theorem fld29_2 : fieldOf Tryz.prog 29 2 = some (2, 9) := by kernel_rfl
@[push_cast] theorem fld29_3 : fieldOf Tryz.prog 29 3 = some (3, 27) := by kernel_rfl
@[push_cast] theorem sz30 : szOf Tryz.prog 30 = some 1 := by kernel_rfl
theorem ti30 : (Tryz.prog.info? 30).map (fun i => (i.zero, i.size, i.bytes)) = some (some (.slice none 0 0), 1, 24) := by kernel_rfl
@[push_cast] theorem al30 (K : Value → World → Prop) (w : World) : vAlloc Tryz.prog 30 K w = K (.pointer (some ⟨w.heap.size, 0, none⟩)) (w.alloc (.cells #[(.slice none 0 0)] 30)) := vAlloc_ok ti30 K w
attribute [push_cast] Tryz.underlying30
@[push_cast] theorem sz31 : szOf Tryz.prog 31 = some 12 := by kernel_rfl
theorem ti31 : (Tryz.prog.info? 31).map (fun i => (i.zero, i.size, i.bytes)) = some (some (.agg #[(.slice none 0 0), (.int .i64 0), (.int .i64 0), (.int .i64 0), (.slice none 0 0), (.int .i64 0), (.string ⟨#[]⟩), (.string ⟨#[]⟩), (.slice none 0 0), (.slice none 0 0), (.int .i64 0), (.int .i64 0)]), 12, 176) := by kernel_rfl
@[push_cast] theorem al31 (K : Value → World → Prop) (w : World) : vAlloc Tryz.prog 31 K w = K (.pointer (some ⟨w.heap.size, 0, none⟩)) (w.alloc (.cells #[(.slice none 0 0), (.int .i64 0), (.int .i64 0), (.int .i64 0), (.slice none 0 0), (.int .i64 0), (.string ⟨#[]⟩), (.string ⟨#[]⟩), (.slice none 0 0), (.slice none 0 0), (.int .i64 0), (.int .i64 0)] 31)) := vAlloc_ok ti31 K w
attribute [push_cast] Tryz.underlying31
@[push_cast] theorem fld31_0 : fieldOf Tryz.prog 31 0 = some (0, 25) := by kernel_rfl
@[push_cast] theorem fld31_1 : fieldOf Tryz.prog 31 1 = some (1, 3) := by kernel_rfl
@[push_cast] theorem fld31_2 : fieldOf Tryz.prog 31 2 = some (2, 3) := by kernel_rfl
@[push_cast] theorem fld31_3 : fieldOf Tryz.prog 31 3 = some (3, 3) := by kernel_rfl
@[push_cast] theorem fld31_4 : fieldOf Tryz.prog 31 4 = some (4, 22) := by kernel_rfl
@[push_cast] theorem fld31_5 : fieldOf Tryz.prog 31 5 = some (5, 29) := by kernel_rfl
@[push_cast] theorem fld31_6 : fieldOf Tryz.prog 31 6 = some (9, 30) := by kernel_rfl
@[push_cast] theorem fld31_7 : fieldOf Tryz.prog 31 7 = some (10, 3) := by kernel_rfl
@[push_cast] theorem fld31_8 : fieldOf Tryz.prog 31 8 = some (11, 3) := by kernel_rfl
@[push_cast] theorem sz32 : szOf Tryz.prog 32 = some 12 := by kernel_rfl
theorem ti32 : (Tryz.prog.info? 32).map (fun i => (i.zero, i.size, i.bytes)) = some (some (.agg #[(.slice none 0 0), (.int .i64 0), (.int .i64 0), (.int .i64 0), (.slice none 0 0), (.int .i64 0), (.string ⟨#[]⟩), (.string ⟨#[]⟩), (.slice none 0 0), (.slice none 0 0), (.int .i64 0), (.int .i64 0)]), 12, 176) := by kernel_rfl
@[push_cast] theorem al32 (K : Value → World → Prop) (w : World) : vAlloc Tryz.prog 32 K w = K (.pointer (some ⟨w.heap.size, 0, none⟩)) (w.alloc (.cells #[(.slice none 0 0), (.int .i64 0), (.int .i64 0), (.int .i64 0), (.slice none 0 0), (.int .i64 0), (.string ⟨#[]⟩), (.string ⟨#[]⟩), (.slice none 0 0), (.slice none 0 0), (.int .i64 0), (.int .i64 0)] 32)) := vAlloc_ok ti32 K w
attribute [push_cast] Tryz.underlying32
@[push_cast] theorem fld32_0 : fieldOf Tryz.prog 32 0 = some (0, 25) := by kernel_rfl
@[push_cast] theorem fld32_1 : fieldOf Tryz.prog 32 1 = some (1, 3) := by kernel_rfl
@[push_cast] theorem fld32_2 : fieldOf Tryz.prog 32 2 = some (2, 3) := by kernel_rfl
@[push_cast] theorem fld32_3 : fieldOf Tryz.prog 32 3 = some (3, 3) := by kernel_rfl
@[push_cast] theorem fld32_4 : fieldOf Tryz.prog 32 4 = some (4, 22) := by kernel_rfl
@[push_cast] theorem fld32_5 : fieldOf Tryz.prog 32 5 = some (5, 29) := by kernel_rfl
@[push_cast] theorem fld32_6 : fieldOf Tryz.prog 32 6 = some (9, 30) := by kernel_rfl
@[push_cast] theorem fld32_7 : fieldOf Tryz.prog 32 7 = some (10, 3) := by kernel_rfl
@[push_cast] theorem fld32_8 : fieldOf Tryz.prog 32 8 = some (11, 3) := by kernel_rfl
@[push_cast] theorem sz37 : szOf Tryz.prog 37 = some 1 := by kernel_rfl
theorem ti37 : (Tryz.prog.info? 37).map (fun i => (i.zero, i.size, i.bytes)) = some (some (.int .i64 0), 1, 8) := by kernel_rfl
@[push_cast] theorem al37 (K : Value → World → Prop) (w : World) : vAlloc Tryz.prog 37 K w = K (.pointer (some ⟨w.heap.size, 0, none⟩)) (w.alloc (.cells #[(.int .i64 0)] 37)) := vAlloc_ok ti37 K w
attribute [push_cast] Tryz.underlying37
@[push_cast] theorem sz56 : szOf Tryz.prog 56 = some 1 := by kernel_rfl
theorem ti56 : (Tryz.prog.info? 56).map (fun i => (i.zero, i.size, i.bytes)) = some (some (.int .i64 0), 1, 8) := by kernel_rfl
@[push_cast] theorem al56 (K : Value → World → Prop) (w : World) : vAlloc Tryz.prog 56 K w = K (.pointer (some ⟨w.heap.size, 0, none⟩)) (w.alloc (.cells #[(.int .i64 0)] 56)) := vAlloc_ok ti56 K w
attribute [push_cast] Tryz.underlying56
@[push_cast] theorem sz57 : szOf Tryz.prog 57 = some 2 := by kernel_rfl
theorem ti57 : (Tryz.prog.info? 57).map (fun i => (i.zero, i.size, i.bytes)) = some (some (.agg #[(.int .i64 0), (.string ⟨#[]⟩)]), 2, 24) := by kernel_rfl
@[push_cast] theorem al57 (K : Value → World → Prop) (w : World) : vAlloc Tryz.prog 57 K w = K (.pointer (some ⟨w.heap.size, 0, none⟩)) (w.alloc (.cells #[(.int .i64 0), (.string ⟨#[]⟩)] 57)) := vAlloc_ok ti57 K w
attribute [push_cast] Tryz.underlying57
@[push_cast] theorem fld57_0 : fieldOf Tryz.prog 57 0 = some (0, 56) := by kernel_rfl
@[push_cast] theorem fld57_1 : fieldOf Tryz.prog 57 1 = some (1, 9) := by kernel_rfl
@[push_cast] theorem sz58 : szOf Tryz.prog 58 = some 2 := by kernel_rfl
theorem ti58 : (Tryz.prog.info? 58).map (fun i => (i.zero, i.size, i.bytes)) = some (some (.agg #[(.int .i64 0), (.string ⟨#[]⟩)]), 2, 24) := by kernel_rfl
@[push_cast] theorem al58 (K : Value → World → Prop) (w : World) : vAlloc Tryz.prog 58 K w = K (.pointer (some ⟨w.heap.size, 0, none⟩)) (w.alloc (.cells #[(.int .i64 0), (.string ⟨#[]⟩)] 58)) := vAlloc_ok ti58 K w
attribute [push_cast] Tryz.underlying58
@[push_cast] theorem fld58_0 : fieldOf Tryz.prog 58 0 = some (0, 56) := by kernel_rfl
@[push_cast] theorem fld58_1 : fieldOf Tryz.prog 58 1 = some (1, 9) := by kernel_rfl
@[push_cast] theorem sz80 : szOf Tryz.prog 80 = some 1 := by kernel_rfl
theorem ti80 : (Tryz.prog.info? 80).map (fun i => (i.zero, i.size, i.bytes)) = some (some .nilFunc, 1, 8) := by kernel_rfl
@[push_cast] theorem al80 (K : Value → World → Prop) (w : World) : vAlloc Tryz.prog 80 K w = K (.pointer (some ⟨w.heap.size, 0, none⟩)) (w.alloc (.cells #[.nilFunc] 80)) := vAlloc_ok ti80 K w
@[push_cast] theorem one80 : oneD (Tryz.prog.underlying 80) = true := by kernel_rfl
@[push_cast] theorem sz91 : szOf Tryz.prog 91 = some 1 := by kernel_rfl
theorem ti91 : (Tryz.prog.info? 91).map (fun i => (i.zero, i.size, i.bytes)) = some (some .nilFunc, 1, 8) := by kernel_rfl
@[push_cast] theorem al91 (K : Value → World → Prop) (w : World) : vAlloc Tryz.prog 91 K w = K (.pointer (some ⟨w.heap.size, 0, none⟩)) (w.alloc (.cells #[.nilFunc] 91)) := vAlloc_ok ti91 K w
@[push_cast] theorem one91 : oneD (Tryz.prog.underlying 91) = true := by kernel_rfl
@[push_cast] theorem sz100 : szOf Tryz.prog 100 = some 1 := by kernel_rfl
theorem ti100 : (Tryz.prog.info? 100).map (fun i => (i.zero, i.size, i.bytes)) = some (some .nilFunc, 1, 8) := by kernel_rfl
@[push_cast] theorem al100 (K : Value → World → Prop) (w : World) : vAlloc Tryz.prog 100 K w = K (.pointer (some ⟨w.heap.size, 0, none⟩)) (w.alloc (.cells #[.nilFunc] 100)) := vAlloc_ok ti100 K w
@[push_cast] theorem one100 : oneD (Tryz.prog.underlying 100) = true := by kernel_rfl
@[push_cast] theorem sz102 : szOf Tryz.prog 102 = some 4 := by kernel_rfl
theorem ti102 : (Tryz.prog.info? 102).map (fun i => (i.zero, i.size, i.bytes)) = some (some (.agg #[(.int .i64 0), (.string ⟨#[]⟩), (.int .i64 0), (.int .i64 0)]), 4, 40) := by kernel_rfl
@[push_cast] theorem al102 (K : Value → World → Prop) (w : World) : vAlloc Tryz.prog 102 K w = K (.pointer (some ⟨w.heap.size, 0, none⟩)) (w.alloc (.cells #[(.int .i64 0), (.string ⟨#[]⟩), (.int .i64 0), (.int .i64 0)] 102)) := vAlloc_ok ti102 K w
attribute [push_cast] Tryz.underlying102
@[push_cast] theorem fld102_0 : fieldOf Tryz.prog 102 0 = some (0, 58) := by kernel_rfl
@[push_cast] theorem fld102_1 : fieldOf Tryz.prog 102 1 = some (2, 3) := by kernel_rfl
@[push_cast] theorem fld102_2 : fieldOf Tryz.prog 102 2 = some (3, 3) := by kernel_rfl
@[push_cast] theorem sz103 : szOf Tryz.prog 103 = some 4 := by kernel_rfl
theorem ti103 : (Tryz.prog.info? 103).map (fun i => (i.zero, i.size, i.bytes)) = some (some (.agg #[(.int .i64 0), (.string ⟨#[]⟩), (.int .i64 0), (.int .i64 0)]), 4, 40) := by kernel_rfl
@[push_cast] theorem al103 (K : Value → World → Prop) (w : World) : vAlloc Tryz.prog 103 K w = K (.pointer (some ⟨w.heap.size, 0, none⟩)) (w.alloc (.cells #[(.int .i64 0), (.string ⟨#[]⟩), (.int .i64 0), (.int .i64 0)] 103)) := vAlloc_ok ti103 K w
attribute [push_cast] Tryz.underlying103
@[push_cast] theorem fld103_0 : fieldOf Tryz.prog 103 0 = some (0, 58) := by kernel_rfl
@[push_cast] theorem fld103_1 : fieldOf Tryz.prog 103 1 = some (2, 3) := by kernel_rfl
@[push_cast] theorem fld103_2 : fieldOf Tryz.prog 103 2 = some (3, 3) := by kernel_rfl
@[push_cast] theorem sz104 : szOf Tryz.prog 104 = some 1 := by kernel_rfl
theorem ti104 : (Tryz.prog.info? 104).map (fun i => (i.zero, i.size, i.bytes)) = some (some .nilFunc, 1, 8) := by kernel_rfl
@[push_cast] theorem al104 (K : Value → World → Prop) (w : World) : vAlloc Tryz.prog 104 K w = K (.pointer (some ⟨w.heap.size, 0, none⟩)) (w.alloc (.cells #[.nilFunc] 104)) := vAlloc_ok ti104 K w
@[push_cast] theorem one104 : oneD (Tryz.prog.underlying 104) = true := by kernel_rfl
@[push_cast] theorem sz109 : szOf Tryz.prog 109 = some 1 := by kernel_rfl
theorem ti109 : (Tryz.prog.info? 109).map (fun i => (i.zero, i.size, i.bytes)) = some (some .nilFunc, 1, 8) := by kernel_rfl
@[push_cast] theorem al109 (K : Value → World → Prop) (w : World) : vAlloc Tryz.prog 109 K w = K (.pointer (some ⟨w.heap.size, 0, none⟩)) (w.alloc (.cells #[.nilFunc] 109)) := vAlloc_ok ti109 K w
@[push_cast] theorem one109 : oneD (Tryz.prog.underlying 109) = true := by kernel_rfl
@[push_cast] theorem sz110 : szOf Tryz.prog 110 = some 1 := by kernel_rfl
theorem ti110 : (Tryz.prog.info? 110).map (fun i => (i.zero, i.size, i.bytes)) = some (some .nilFunc, 1, 8) := by kernel_rfl
@[push_cast] theorem al110 (K : Value → World → Prop) (w : World) : vAlloc Tryz.prog 110 K w = K (.pointer (some ⟨w.heap.size, 0, none⟩)) (w.alloc (.cells #[.nilFunc] 110)) := vAlloc_ok ti110 K w
@[push_cast] theorem one110 : oneD (Tryz.prog.underlying 110) = true := by kernel_rfl
@[push_cast] theorem sz136 : szOf Tryz.prog 136 = some 1 := by kernel_rfl
theorem ti136 : (Tryz.prog.info? 136).map (fun i => (i.zero, i.size, i.bytes)) = some (some .nilFunc, 1, 8) := by kernel_rfl
@[push_cast] theorem al136 (K : Value → World → Prop) (w : World) : vAlloc Tryz.prog 136 K w = K (.pointer (some ⟨w.heap.size, 0, none⟩)) (w.alloc (.cells #[.nilFunc] 136)) := vAlloc_ok ti136 K w
@[push_cast] theorem one136 : oneD (Tryz.prog.underlying 136) = true := by kernel_rfl
@[push_cast] theorem sz139 : szOf Tryz.prog 139 = some 1 := by kernel_rfl
theorem ti139 : (Tryz.prog.info? 139).map (fun i => (i.zero, i.size, i.bytes)) = some (some .nilFunc, 1, 8) := by kernel_rfl
@[push_cast] theorem al139 (K : Value → World → Prop) (w : World) : vAlloc Tryz.prog 139 K w = K (.pointer (some ⟨w.heap.size, 0, none⟩)) (w.alloc (.cells #[.nilFunc] 139)) := vAlloc_ok ti139 K w
@[push_cast] theorem one139 : oneD (Tryz.prog.underlying 139) = true := by kernel_rfl
@[push_cast] theorem sz150 : szOf Tryz.prog 150 = some 1 := by kernel_rfl
theorem ti150 : (Tryz.prog.info? 150).map (fun i => (i.zero, i.size, i.bytes)) = some (some (.int .u64 0), 1, 8) := by kernel_rfl
@[push_cast] theorem al150 (K : Value → World → Prop) (w : World) : vAlloc Tryz.prog 150 K w = K (.pointer (some ⟨w.heap.size, 0, none⟩)) (w.alloc (.cells #[(.int .u64 0)] 150)) := vAlloc_ok ti150 K w
attribute [push_cast] Tryz.underlying150
@[push_cast] theorem sz154 : szOf Tryz.prog 154 = some 1 := by kernel_rfl
theorem ti154 : (Tryz.prog.info? 154).map (fun i => (i.zero, i.size, i.bytes)) = some (some (.int .i64 0), 1, 8) := by kernel_rfl
@[push_cast] theorem al154 (K : Value → World → Prop) (w : World) : vAlloc Tryz.prog 154 K w = K (.pointer (some ⟨w.heap.size, 0, none⟩)) (w.alloc (.cells #[(.int .i64 0)] 154)) := vAlloc_ok ti154 K w
attribute [push_cast] Tryz.underlying154
@[push_cast] theorem sz161 : szOf Tryz.prog 161 = some 1 := by kernel_rfl
theorem ti161 : (Tryz.prog.info? 161).map (fun i => (i.zero, i.size, i.bytes)) = some (some (.int .u32 0), 1, 4) := by kernel_rfl
@[push_cast] theorem al161 (K : Value → World → Prop) (w : World) : vAlloc Tryz.prog 161 K w = K (.pointer (some ⟨w.heap.size, 0, none⟩)) (w.alloc (.cells #[(.int .u32 0)] 161)) := vAlloc_ok ti161 K w
attribute [push_cast] Tryz.underlying161
@[push_cast] theorem sz163 : szOf Tryz.prog 163 = some 1 := by kernel_rfl
theorem ti163 : (Tryz.prog.info? 163).map (fun i => (i.zero, i.size, i.bytes)) = some (some (.int .u64 0), 1, 8) := by kernel_rfl
@[push_cast] theorem al163 (K : Value → World → Prop) (w : World) : vAlloc Tryz.prog 163 K w = K (.pointer (some ⟨w.heap.size, 0, none⟩)) (w.alloc (.cells #[(.int .u64 0)] 163)) := vAlloc_ok ti163 K w
attribute [push_cast] Tryz.underlying163
@[push_cast] theorem sz165 : szOf Tryz.prog 165 = some 256 := by kernel_rfl
theorem ti165 : (Tryz.prog.info? 165).map (fun i => (i.zero, i.size, i.bytes)) = some (some (.agg #[(.bool false), (.bool false), (.bool false), (.bool false), (.bool false), (.bool false), (.bool false), (.bool false), (.bool false), (.bool false), (.bool false), (.bool false), (.bool false), (.bool false), (.bool false), (.bool false), (.bool false), (.bool false), (.bool false), (.bool false), (.bool false), (.bool false), (.bool false), (.bool false), (.bool false), (.bool false), (.bool false), (.bool false), (.bool false), (.bool false), (.bool false), (.bool false), (.bool false), (.bool false), (.bool false), (.bool false), (.bool false), (.bool false), (.bool false), (.bool false), (.bool false), (.bool false), (.bool false), (.bool false), (.bool false), (.bool false), (.bool false), (.bool false), (.bool false), (.bool false), (.bool false), (.bool false), (.bool false), (.bool false), (.bool false), (.bool false), (.bool false), (.bool false), (.bool false), (.bool false), (.bool false), (.bool false), (.bool false), (.bool false), (.bool false), (.bool false), (.bool false), (.bool false), (.bool false), (.bool false), (.bool false), (.bool false), (.bool false), (.bool false), (.bool false), (.bool false), (.bool false), (.bool false), (.bool false), (.bool false), (.bool false), (.bool false), (.bool false), (.bool false), (.bool false), (.bool false), (.bool false), (.bool false), (.bool false), (.bool false), (.bool false), (.bool false), (.bool false), (.bool false), (.bool false), (.bool false), (.bool false), (.bool false), (.bool false), (.bool false), (.bool false), (.bool false), (.bool false), (.bool false), (.bool false), (.bool false), (.bool false), (.bool false), (.bool false), (.bool false), (.bool false), (.bool false), (.bool false), (.bool false), (.bool false), (.bool false), (.bool false), (.bool false), (.bool false), (.bool false), (.bool false), (.bool false), (.bool false), (.bool false), (.bool false), (.bool false), (.bool false), (.bool false), (.bool false), (.bool false), (.bool false), (.bool false), (.bool false), (.bool false), (.bool false), (.bool false), (.bool false), (.bool false), (.bool false), (.bool false), (.bool false), (.bool false), (.bool false), (.bool false), (.bool false), (.bool false), (.bool false), (.bool false), (.bool false), (.bool false), (.bool false), (.bool false), (.bool false), (.bool false), (.bool false), (.bool false), (.bool false), (.bool false), (.bool false), (.bool false), (.bool false), (.bool false), (.bool false), (.bool false), (.bool false), (.bool false), (.bool false), (.bool false), (.bool false), (.bool false), (.bool false), (.bool false), (.bool false), (.bool false), (.bool false), (.bool false), (.bool false), (.bool false), (.bool false), (.bool false), (.bool false), (.bool false), (.bool false), (.bool false), (.bool false), (.bool false), (.bool false), (.bool false), (.bool false), (.bool false), (.bool false), (.bool false), (.bool false), (.bool false), (.bool false), (.bool false), (.bool false), (.bool false), (.bool false), (.bool false), (.bool false), (.bool false), (.bool false), (.bool false), (.bool false), (.bool false), (.bool false), (.bool false), (.bool false), (.bool false), (.bool false), (.bool false), (.bool false), (.bool false), (.bool false), (.bool false), (.bool false), (.bool false), (.bool false), (.bool false), (.bool false), (.bool false), (.bool false), (.bool false), (.bool false), (.bool false), (.bool false), (.bool false), (.bool false), (.bool false), (.bool false), (.bool false), (.bool false), (.bool false), (.bool false), (.bool false), (.bool false), (.bool false), (.bool false), (.bool false), (.bool false), (.bool false), (.bool false), (.bool false), (.bool false), (.bool false), (.bool false), (.bool false), (.bool false), (.bool false), (.bool false), (.bool false), (.bool false), (.bool false), (.bool false), (.bool false)]), 256, 256) := by kernel_rfl
@[push_cast] theorem al165 (K : Value → World → Prop) (w : World) : vAlloc Tryz.prog 165 K w = K (.pointer (some ⟨w.heap.size, 0, none⟩)) (w.alloc (.cells #[(.bool false), (.bool false), (.bool false), (.bool false), (.bool false), (.bool false), (.bool false), (.bool false), (.bool false), (.bool false), (.bool false), (.bool false), (.bool false), (.bool false), (.bool false), (.bool false), (.bool false), (.bool false), (.bool false), (.bool false), (.bool false), (.bool false), (.bool false), (.bool false), (.bool false), (.bool false), (.bool false), (.bool false), (.bool false), (.bool false), (.bool false), (.bool false), (.bool false), (.bool false), (.bool false), (.bool false), (.bool false), (.bool false), (.bool false), (.bool false), (.bool false), (.bool false), (.bool false), (.bool false), (.bool false), (.bool false), (.bool false), (.bool false), (.bool false), (.bool false), (.bool false), (.bool false), (.bool false), (.bool false), (.bool false), (.bool false), (.bool false), (.bool false), (.bool false), (.bool false), (.bool false), (.bool false), (.bool false), (.bool false), (.bool false), (.bool false), (.bool false), (.bool false), (.bool false), (.bool false), (.bool false), (.bool false), (.bool false), (.bool false), (.bool false), (.bool false), (.bool false), (.bool false), (.bool false), (.bool false), (.bool false), (.bool false), (.bool false), (.bool false), (.bool false), (.bool false), (.bool false), (.bool false), (.bool false), (.bool false), (.bool false), (.bool false), (.bool false), (.bool false), (.bool false), (.bool false), (.bool false), (.bool false), (.bool false), (.bool false), (.bool false), (.bool false), (.bool false), (.bool false), (.bool false), (.bool false), (.bool false), (.bool false), (.bool false), (.bool false), (.bool false), (.bool false), (.bool false), (.bool false), (.bool false), (.bool false), (.bool false), (.bool false), (.bool false), (.bool false), (.bool false), (.bool false), (.bool false), (.bool false), (.bool false), (.bool false), (.bool false), (.bool false), (.bool false), (.bool false), (.bool false), (.bool false), (.bool false), (.bool false), (.bool false), (.bool false), (.bool false), (.bool false), (.bool false), (.bool false), (.bool false), (.bool false), (.bool false), (.bool false), (.bool false), (.bool false), (.bool false), (.bool false), (.bool false), (.bool false), (.bool false), (.bool false), (.bool false), (.bool false), (.bool false), (.bool false), (.bool false), (.bool false), (.bool false), (.bool false), (.bool false), (.bool false), (.bool false), (.bool false), (.bool false), (.bool false), (.bool false), (.bool false), (.bool false), (.bool false), (.bool false), (.bool false), (.bool false), (.bool false), (.bool false), (.bool false), (.bool false), (.bool false), (.bool false), (.bool false), (.bool false), (.bool false), (.bool false), (.bool false), (.bool false), (.bool false), (.bool false), (.bool false), (.bool false), (.bool false), (.bool false), (.bool false), (.bool false), (.bool false), (.bool false), (.bool false), (.bool false), (.bool false), (.bool false), (.bool false), (.bool false), (.bool false), (.bool false), (.bool false), (.bool false), (.bool false), (.bool false), (.bool false), (.bool false), (.bool false), (.bool false), (.bool false), (.bool false), (.bool false), (.bool false), (.bool false), (.bool false), (.bool false), (.bool false), (.bool false), (.bool false), (.bool false), (.bool false), (.bool false), (.bool false), (.bool false), (.bool false), (.bool false), (.bool false), (.bool false), (.bool false), (.bool false), (.bool false), (.bool false), (.bool false), (.bool false), (.bool false), (.bool false), (.bool false), (.bool false), (.bool false), (.bool false), (.bool false), (.bool false), (.bool false), (.bool false), (.bool false), (.bool false), (.bool false), (.bool false), (.bool false), (.bool false), (.bool false), (.bool false), (.bool false), (.bool false)] 165)) := vAlloc_ok ti165 K w
attribute [push_cast] Tryz.underlying165
@[push_cast] theorem sz166 : szOf Tryz.prog 166 = some 256 := by kernel_rfl
theorem ti166 : (Tryz.prog.info? 166).map (fun i => (i.zero, i.size, i.bytes)) = some (some (.agg #[(.bool false), (.bool false), (.bool false), (.bool false), (.bool false), (.bool false), (.bool false), (.bool false), (.bool false), (.bool false), (.bool false), (.bool false), (.bool false), (.bool false), (.bool false), (.bool false), (.bool false), (.bool false), (.bool false), (.bool false), (.bool false), (.bool false), (.bool false), (.bool false), (.bool false), (.bool false), (.bool false), (.bool false), (.bool false), (.bool false), (.bool false), (.bool false), (.bool false), (.bool false), (.bool false), (.bool false), (.bool false), (.bool false), (.bool false), (.bool false), (.bool false), (.bool false), (.bool false), (.bool false), (.bool false), (.bool false), (.bool false), (.bool false), (.bool false), (.bool false), (.bool false), (.bool false), (.bool false), (.bool false), (.bool false), (.bool false), (.bool false), (.bool false), (.bool false), (.bool false), (.bool false), (.bool false), (.bool false), (.bool false), (.bool false), (.bool false), (.bool false), (.bool false), (.bool false), (.bool false), (.bool false), (.bool false), (.bool false), (.bool false), (.bool false), (.bool false), (.bool false), (.bool false), (.bool false), (.bool false), (.bool false), (.bool false), (.bool false), (.bool false), (.bool false), (.bool false), (.bool false), (.bool false), (.bool false), (.bool false), (.bool false), (.bool false), (.bool false), (.bool false), (.bool false), (.bool false), (.bool false), (.bool false), (.bool false), (.bool false), (.bool false), (.bool false), (.bool false), (.bool false), (.bool false), (.bool false), (.bool false), (.bool false), (.bool false), (.bool false), (.bool false), (.bool false), (.bool false), (.bool false), (.bool false), (.bool false), (.bool false), (.bool false), (.bool false), (.bool false), (.bool false), (.bool false), (.bool false), (.bool false), (.bool false), (.bool false), (.bool false), (.bool false), (.bool false), (.bool false), (.bool false), (.bool false), (.bool false), (.bool false), (.bool false), (.bool false), (.bool false), (.bool false), (.bool false), (.bool false), (.bool false), (.bool false), (.bool false), (.bool false), (.bool false), (.bool false), (.bool false), (.bool false), (.bool false), (.bool false), (.bool false), (.bool false), (.bool false), (.bool false), (.bool false), (.bool false), (.bool false), (.bool false), (.bool false), (.bool false), (.bool false), (.bool false), (.bool false), (.bool false), (.bool false), (.bool false), (.bool false), (.bool false), (.bool false), (.bool false), (.bool false), (.bool false), (.bool false), (.bool false), (.bool false), (.bool false), (.bool false), (.bool false), (.bool false), (.bool false), (.bool false), (.bool false), (.bool false), (.bool false), (.bool false), (.bool false), (.bool false), (.bool false), (.bool false), (.bool false), (.bool false), (.bool false), (.bool false), (.bool false), (.bool false), (.bool false), (.bool false), (.bool false), (.bool false), (.bool false), (.bool false), (.bool false), (.bool false), (.bool false), (.bool false), (.bool false), (.bool false), (.bool false), (.bool false), (.bool false), (.bool false), (.bool false), (.bool false), (.bool false), (.bool false), (.bool false), (.bool false), (.bool false), (.bool false), (.bool false), (.bool false), (.bool false), (.bool false), (.bool false), (.bool false), (.bool false), (.bool false), (.bool false), (.bool false), (.bool false), (.bool false), (.bool false), (.bool false), (.bool false), (.bool false), (.bool false), (.bool false), (.bool false), (.bool false), (.bool false), (.bool false), (.bool false), (.bool false), (.bool false), (.bool false), (.bool false), (.bool false), (.bool false), (.bool false), (.bool false), (.bool false), (.bool false), (.bool false), (.bool false), (.bool false), (.bool false)]), 256, 256) := by kernel_rfl
@[push_cast] theorem al166 (K : Value → World → Prop) (w : World) : vAlloc Tryz.prog 166 K w = K (.pointer (some ⟨w.heap.size, 0, none⟩)) (w.alloc (.cells #[(.bool false), (.bool false), (.bool false), (.bool false), (.bool false), (.bool false), (.bool false), (.bool false), (.bool false), (.bool false), (.bool false), (.bool false), (.bool false), (.bool false), (.bool false), (.bool false), (.bool false), (.bool false), (.bool false), (.bool false), (.bool false), (.bool false), (.bool false), (.bool false), (.bool false), (.bool false), (.bool false), (.bool false), (.bool false), (.bool false), (.bool false), (.bool false), (.bool false), (.bool false), (.bool false), (.bool false), (.bool false), (.bool false), (.bool false), (.bool false), (.bool false), (.bool false), (.bool false), (.bool false), (.bool false), (.bool false), (.bool false), (.bool false), (.bool false), (.bool false), (.bool false), (.bool false), (.bool false), (.bool false), (.bool false), (.bool false), (.bool false), (.bool false), (.bool false), (.bool false), (.bool false), (.bool false), (.bool false), (.bool false), (.bool false), (.bool false), (.bool false), (.bool false), (.bool false), (.bool false), (.bool false), (.bool false), (.bool false), (.bool false), (.bool false), (.bool false), (.bool false), (.bool false), (.bool false), (.bool false), (.bool false), (.bool false), (.bool false), (.bool false), (.bool false), (.bool false), (.bool false), (.bool false), (.bool false), (.bool false), (.bool false), (.bool false), (.bool false), (.bool false), (.bool false), (.bool false), (.bool false), (.bool false), (.bool false), (.bool false), (.bool false), (.bool false), (.bool false), (.bool false), (.bool false), (.bool false), (.bool false), (.bool false), (.bool false), (.bool false), (.bool false), (.bool false), (.bool false), (.bool false), (.bool false), (.bool false), (.bool false), (.bool false), (.bool false), (.bool false), (.bool false), (.bool false), (.bool false), (.bool false), (.bool false), (.bool false), (.bool false), (.bool false), (.bool false), (.bool false), (.bool false), (.bool false), (.bool false), (.bool false), (.bool false), (.bool false), (.bool false), (.bool false), (.bool false), (.bool false), (.bool false), (.bool false), (.bool false), (.bool false), (.bool false), (.bool false), (.bool false), (.bool false), (.bool false), (.bool false), (.bool false), (.bool false), (.bool false), (.bool false), (.bool false), (.bool false), (.bool false), (.bool false), (.bool false), (.bool false), (.bool false), (.bool false), (.bool false), (.bool false), (.bool false), (.bool false), (.bool false), (.bool false), (.bool false), (.bool false), (.bool false), (.bool false), (.bool false), (.bool false), (.bool false), (.bool false), (.bool false), (.bool false), (.bool false), (.bool false), (.bool false), (.bool false), (.bool false), (.bool false), (.bool false), (.bool false), (.bool false), (.bool false), (.bool false), (.bool false), (.bool false), (.bool false), (.bool false), (.bool false), (.bool false), (.bool false), (.bool false), (.bool false), (.bool false), (.bool false), (.bool false), (.bool false), (.bool false), (.bool false), (.bool false), (.bool false), (.bool false), (.bool false), (.bool false), (.bool false), (.bool false), (.bool false), (.bool false), (.bool false), (.bool false), (.bool false), (.bool false), (.bool false), (.bool false), (.bool false), (.bool false), (.bool false), (.bool false), (.bool false), (.bool false), (.bool false), (.bool false), (.bool false), (.bool false), (.bool false), (.bool false), (.bool false), (.bool false), (.bool false), (.bool false), (.bool false), (.bool false), (.bool false), (.bool false), (.bool false), (.bool false), (.bool false), (.bool false), (.bool false), (.bool false), (.bool false), (.bool false), (.bool false), (.bool false), (.bool false), (.bool false), (.bool false), (.bool false), (.bool false), (.bool false), (.bool false)] 166)) := vAlloc_ok ti166 K w
attribute [push_cast] Tryz.underlying166
@[push_cast] theorem sz171 : szOf Tryz.prog 171 = some 1 := by kernel_rfl
theorem ti171 : (Tryz.prog.info? 171).map (fun i => (i.zero, i.size, i.bytes)) = some (some (.int .u64 0), 1, 8) := by kernel_rfl
@[push_cast] theorem al171 (K : Value → World → Prop) (w : World) : vAlloc Tryz.prog 171 K w = K (.pointer (some ⟨w.heap.size, 0, none⟩)) (w.alloc (.cells #[(.int .u64 0)] 171)) := vAlloc_ok ti171 K w
attribute [push_cast] Tryz.underlying171
@[push_cast] theorem sz175 : szOf Tryz.prog 175 = some 1 := by kernel_rfl
theorem ti175 : (Tryz.prog.info? 175).map (fun i => (i.zero, i.size, i.bytes)) = some (some (.pointer none), 1, 8) := by kernel_rfl
@[push_cast] theorem al175 (K : Value → World → Prop) (w : World) : vAlloc Tryz.prog 175 K w = K (.pointer (some ⟨w.heap.size, 0, none⟩)) (w.alloc (.cells #[(.pointer none)] 175)) := vAlloc_ok ti175 K w
attribute [push_cast] Tryz.underlying175
@[push_cast] theorem sz179 : szOf Tryz.prog 179 = some 1 := by kernel_rfl
theorem ti179 : (Tryz.prog.info? 179).map (fun i => (i.zero, i.size, i.bytes)) = some (some (.pointer none), 1, 8) := by kernel_rfl
@[push_cast] theorem al179 (K : Value → World → Prop) (w : World) : vAlloc Tryz.prog 179 K w = K (.pointer (some ⟨w.heap.size, 0, none⟩)) (w.alloc (.cells #[(.pointer none)] 179)) := vAlloc_ok ti179 K w
attribute [push_cast] Tryz.underlying179
@[push_cast] theorem sz180 : szOf Tryz.prog 180 = some 1 := by kernel_rfl
theorem ti180 : (Tryz.prog.info? 180).map (fun i => (i.zero, i.size, i.bytes)) = some (some (.pointer none), 1, 8) := by kernel_rfl
@[push_cast] theorem al180 (K : Value → World → Prop) (w : World) : vAlloc Tryz.prog 180 K w = K (.pointer (some ⟨w.heap.size, 0, none⟩)) (w.alloc (.cells #[(.pointer none)] 180)) := vAlloc_ok ti180 K w
attribute [push_cast] Tryz.underlying180
end Go.Proofs.YtnofalhkapmcnaaGreat
end
section
namespace Go.Proofs.YtnofalhkapmcnaaGreat
open Go.Vc
set_option maxRecDepth 100000
variable (Q : Post) (ds : List Deferred) (σ : Env) (w : World)
abbrev VR (r l : List VOp) : Prop := ∀ (Q : Post) (ds : List Deferred) (σ : Env) (w : World), vc Tryz.prog (.region r) Q ds σ w = vcOps Tryz.prog l (Q .normal ds) σ w
theorem vR {r l : List VOp} (h : r = l) : VR r l := fun Q ds σ w => mk_eq (by subst h; rfl)
abbrev mv (d s t : Nat) : VOp := ⟨some d, .move (.tmp s), t, none⟩
abbrev lda (d t s : Nat) : VOp := ⟨some d, .load t (.tmp s), t, none⟩
abbrev asg (d s t : Nat) : VOp := ⟨some d, .assign (.tmp s), t, none⟩
abbrev ext (d s i t : Nat) : VOp := ⟨some d, .extract (.tmp s) i, t, none⟩
abbrev fad (d t s i : Nat) : VOp := ⟨some d, .fieldAddr t (.tmp s) i, 0, none⟩
abbrev iad (d t s i : Nat) : VOp := ⟨some d, .indexAddr t (.tmp s) (.tmp i), 0, none⟩
/-! 15 columbary/columbarylaw23.alive (params #[], results #[(.tmp 0)], 37 slots) -/
def r15_0 : List VOp :=
  [⟨some 0, .assign (.const (.bool false)), 4, none⟩]
def r15_1 : List VOp :=
  [⟨some 4, .buildSlice 22 3 #[(0, (.const (.string { data := #[97] }))), (1, (.const (.string { data := #[98] }))), (2, (.const (.string { data := #[99] })))], 22, none⟩,
   ⟨some 5, .buildSlice 22 1 #[(0, (.const (.string { data := #[109] })))], 22, none⟩,
   ⟨some 6, .build 24 #[(0, (.tmp 4)), (1, (.tmp 5))], 24, none⟩,
   ⟨some 1, .alloc 24, 0, none⟩,
   ⟨none, .store 24 (.tmp 1) (.tmp 6), 0, none⟩]
def r15_2 : List VOp :=
  [⟨some 7, .build 58 #[(0, (.const (.int .i64 1))), (1, (.const (.string { data := #[109] })))], 58, none⟩,
   ⟨some 8, .buildSlice 25 1 #[(0, (.tmp 7))], 25, none⟩,
   ⟨some 9, .buildSlice 22 1 #[(0, (.const (.string { data := #[99] })))], 22, none⟩,
   ⟨some 10, .build 29 #[(0, (.const (.int .i64 1))), (1, (.const (.string { data := #[97] }))), (2, (.const (.string { data := #[120] })))], 29, none⟩,
   ⟨some 11, .build 32 #[(0, (.tmp 8)), (2, (.const (.int .i64 50))), (3, (.const (.int .i64 10))), (4, (.tmp 9)), (5, (.tmp 10))], 32, none⟩,
   ⟨some 2, .alloc 32, 0, none⟩,
   ⟨none, .store 32 (.tmp 2) (.tmp 11), 0, none⟩]
def r15_3 : List VOp :=
  [lda 12 32 2,
   ⟨some 3, .alloc 32, 0, none⟩,
   ⟨none, .store 32 (.tmp 3) (.tmp 12), 0, none⟩]
def r15_4 : List VOp :=
  [⟨some 13, .buildSlice 22 1 #[(0, (.const (.string { data := #[100] })))], 22, none⟩,
   fad 14 32 3 4,
   ⟨none, .store 22 (.tmp 14) (.tmp 13), 0, none⟩]
def r15_5 : List VOp :=
  [lda 15 24 1,
   lda 16 32 2,
   ⟨some 17, .call ⟨.value (.func 16), #[.tmp 15, .tmp 16], #[24, 32]⟩, 37, none⟩,
   ⟨some 18, .binOp .eql 37 (.tmp 17) (.const (.int .i64 0)) 37, 4, none⟩,
   mv 19 18 4,
   ⟨some 20, .load 24 (.tmp 1), 24, some (19, true)⟩,
   ⟨some 21, .load 32 (.tmp 3), 32, some (19, true)⟩,
   ⟨some 22, .call ⟨.value (.func 16), #[.tmp 20, .tmp 21], #[24, 32]⟩, 37, some (19, true)⟩,
   ⟨some 23, .binOp .eql 37 (.tmp 22) (.const (.int .i64 231)) 37, 4, some (19, true)⟩,
   ⟨some 24, .pick (.tmp 19) (.tmp 23) (.const (.bool false)), 4, none⟩,
   mv 25 24 4,
   ⟨some 26, .load 24 (.tmp 1), 24, some (25, true)⟩,
   ⟨some 27, .load 32 (.tmp 2), 32, some (25, true)⟩,
   ⟨some 28, .call ⟨.value (.func 19), #[.tmp 26, .tmp 27], #[24, 32]⟩, 22, some (25, true)⟩,
   ⟨some 29, .buildSlice 22 2 #[(0, (.const (.string { data := #[97] }))), (1, (.const (.string { data := #[99] })))], 22, some (25, true)⟩,
   ⟨some 30, .call ⟨.value (.func 18), #[.tmp 28, .tmp 29], #[22, 22]⟩, 4, some (25, true)⟩,
   ⟨some 31, .pick (.tmp 25) (.tmp 30) (.const (.bool false)), 4, none⟩,
   mv 32 31 4,
   ⟨some 33, .load 32 (.tmp 2), 32, some (32, true)⟩,
   ⟨some 34, .call ⟨.value (.func 21), #[(.tmp 33), (.const (.int .i64 37))], #[32, 3]⟩, 3, some (32, true)⟩,
   ⟨some 35, .binOp .eql 3 (.tmp 34) (.const (.int .i64 30)) 3, 4, some (32, true)⟩,
   ⟨some 36, .pick (.tmp 32) (.tmp 35) (.const (.bool false)), 4, none⟩,
   asg 0 36 4]
def B15 : VC :=
  (.seq (.region r15_0) (.seq (.region r15_1) (.seq (.region r15_2) (.seq (.region r15_3) (.seq (.region r15_4) (.seq (.region r15_5) .ret))))))
theorem code15 : ∃ c, Tryz.f15.body = some c ∧ abs Tryz.f15.ntmps c = B15 := ⟨_, rfl, by kernel_rfl⟩
theorem hb15 : HasBody Tryz.prog 15 := hasBody_of Tryz.func15 (by kernel_rfl)
theorem res15 : Tryz.f15.results = #[(.tmp 0)] := rfl
theorem enter15 {w : World} {R : Value → World → Prop} (h : vc Tryz.prog B15 (retK Tryz.prog #[(.tmp 0)] R) [] (initEnv [] 0) w) : FnC Tryz.prog 15 #[] w R := by
  obtain ⟨c, h1, h2⟩ := code15
  exact hb15.fn (ret_of_vc mixed Tryz.func15 h1 (Nat.le_of_ble_eq_true rfl) B15 h2 h)
@[push_cast] theorem vr15_0 : VR r15_0 [⟨some 0, .assign (.const (.bool false)), 4, none⟩] := vR rfl
@[push_cast] theorem vr15_1 : VR r15_1 [⟨some 4, .buildSlice 22 3 #[(0, (.const (.string { data := #[97] }))), (1, (.const (.string { data := #[98] }))), (2, (.const (.string { data := #[99] })))], 22, none⟩, ⟨some 5, .buildSlice 22 1 #[(0, (.const (.string { data := #[109] })))], 22, none⟩, ⟨some 6, .build 24 #[(0, (.tmp 4)), (1, (.tmp 5))], 24, none⟩, ⟨some 1, .alloc 24, 0, none⟩, ⟨none, .store 24 (.tmp 1) (.tmp 6), 0, none⟩] := vR rfl
@[push_cast] theorem vr15_2 : VR r15_2 [⟨some 7, .build 58 #[(0, (.const (.int .i64 1))), (1, (.const (.string { data := #[109] })))], 58, none⟩, ⟨some 8, .buildSlice 25 1 #[(0, (.tmp 7))], 25, none⟩, ⟨some 9, .buildSlice 22 1 #[(0, (.const (.string { data := #[99] })))], 22, none⟩, ⟨some 10, .build 29 #[(0, (.const (.int .i64 1))), (1, (.const (.string { data := #[97] }))), (2, (.const (.string { data := #[120] })))], 29, none⟩, ⟨some 11, .build 32 #[(0, (.tmp 8)), (2, (.const (.int .i64 50))), (3, (.const (.int .i64 10))), (4, (.tmp 9)), (5, (.tmp 10))], 32, none⟩, ⟨some 2, .alloc 32, 0, none⟩, ⟨none, .store 32 (.tmp 2) (.tmp 11), 0, none⟩] := vR rfl
@[push_cast] theorem vr15_3 : VR r15_3 [⟨some 12, .load 32 (.tmp 2), 32, none⟩, ⟨some 3, .alloc 32, 0, none⟩, ⟨none, .store 32 (.tmp 3) (.tmp 12), 0, none⟩] := vR rfl
@[push_cast] theorem vr15_4 : VR r15_4 [⟨some 13, .buildSlice 22 1 #[(0, (.const (.string { data := #[100] })))], 22, none⟩, ⟨some 14, .fieldAddr 32 (.tmp 3) 4, 0, none⟩, ⟨none, .store 22 (.tmp 14) (.tmp 13), 0, none⟩] := vR rfl
@[push_cast] theorem vr15_5 : VR r15_5 [⟨some 15, .load 24 (.tmp 1), 24, none⟩, ⟨some 16, .load 32 (.tmp 2), 32, none⟩, ⟨some 17, .call ⟨.value (.func 16), #[.tmp 15, .tmp 16], #[24, 32]⟩, 37, none⟩, ⟨some 18, .binOp .eql 37 (.tmp 17) (.const (.int .i64 0)) 37, 4, none⟩, ⟨some 19, .move (.tmp 18), 4, none⟩, ⟨some 20, .load 24 (.tmp 1), 24, some (19, true)⟩, ⟨some 21, .load 32 (.tmp 3), 32, some (19, true)⟩, ⟨some 22, .call ⟨.value (.func 16), #[.tmp 20, .tmp 21], #[24, 32]⟩, 37, some (19, true)⟩, ⟨some 23, .binOp .eql 37 (.tmp 22) (.const (.int .i64 231)) 37, 4, some (19, true)⟩, ⟨some 24, .pick (.tmp 19) (.tmp 23) (.const (.bool false)), 4, none⟩, ⟨some 25, .move (.tmp 24), 4, none⟩, ⟨some 26, .load 24 (.tmp 1), 24, some (25, true)⟩, ⟨some 27, .load 32 (.tmp 2), 32, some (25, true)⟩, ⟨some 28, .call ⟨.value (.func 19), #[.tmp 26, .tmp 27], #[24, 32]⟩, 22, some (25, true)⟩, ⟨some 29, .buildSlice 22 2 #[(0, (.const (.string { data := #[97] }))), (1, (.const (.string { data := #[99] })))], 22, some (25, true)⟩, ⟨some 30, .call ⟨.value (.func 18), #[.tmp 28, .tmp 29], #[22, 22]⟩, 4, some (25, true)⟩, ⟨some 31, .pick (.tmp 25) (.tmp 30) (.const (.bool false)), 4, none⟩, ⟨some 32, .move (.tmp 31), 4, none⟩, ⟨some 33, .load 32 (.tmp 2), 32, some (32, true)⟩, ⟨some 34, .call ⟨.value (.func 21), #[(.tmp 33), (.const (.int .i64 37))], #[32, 3]⟩, 3, some (32, true)⟩, ⟨some 35, .binOp .eql 3 (.tmp 34) (.const (.int .i64 30)) 3, 4, some (32, true)⟩, ⟨some 36, .pick (.tmp 32) (.tmp 35) (.const (.bool false)), 4, none⟩, ⟨some 0, .assign (.tmp 36), 4, none⟩] := vR rfl
/-! 16 columbary/typer.Check (params #[24, 32], results #[(.tmp 4)], 18 slots) -/
def r16_0 : List VOp :=
  [⟨some 2, .box 24 (.tmp 0), 0, none⟩,
   ⟨some 3, .box 32 (.tmp 1), 0, none⟩,
   ⟨some 4, .assign (.const (.int .i64 0)), 37, none⟩]
def r16_1 : List VOp :=
  [lda 6 32 3,
   ⟨some 7, .call ⟨.value (.func 42), #[.tmp 6], #[32]⟩, 4, none⟩,
   ⟨some 8, .unOp .not 4 (.tmp 7), 4, none⟩,
   asg 5 8 4]
def r16_2 : List VOp :=
  [⟨some 4, .assign (.const (.int .i64 221)), 37, none⟩]
def r16_3 : List VOp :=
  [lda 10 24 2,
   lda 11 32 3,
   ⟨some 12, .call ⟨.value (.func 43), #[.tmp 10, .tmp 11], #[24, 32]⟩, 4, none⟩,
   ⟨some 13, .unOp .not 4 (.tmp 12), 4, none⟩,
   asg 9 13 4]
def r16_4 : List VOp :=
  [⟨some 4, .assign (.const (.int .i64 231)), 37, none⟩]
def r16_5 : List VOp :=
  [lda 15 32 3,
   ⟨some 16, .call ⟨.value (.func 44), #[.tmp 15], #[32]⟩, 4, none⟩,
   ⟨some 17, .unOp .not 4 (.tmp 16), 4, none⟩,
   asg 14 17 4]
def r16_6 : List VOp :=
  [⟨some 4, .assign (.const (.int .i64 232)), 37, none⟩]
def r16_7 : List VOp :=
  [⟨some 4, .assign (.const (.int .i64 0)), 37, none⟩]
def B16 : VC :=
  (.seq (.region r16_0) (.seq (.block 0 (.seq (.region r16_1) (.cond (.tmp 5) (.seq (.region r16_2) .ret) (.seq (.region r16_3) (.cond (.tmp 9) (.seq (.region r16_4) .ret) (.seq (.region r16_5) (.cond (.tmp 14) (.seq (.region r16_6) .ret) .skip))))))) (.seq (.region r16_7) .ret)))
theorem code16 : ∃ c, Tryz.f16.body = some c ∧ abs Tryz.f16.ntmps c = B16 := ⟨_, rfl, by kernel_rfl⟩
theorem hb16 : HasBody Tryz.prog 16 := hasBody_of Tryz.func16 (by kernel_rfl)
theorem res16 : Tryz.f16.results = #[(.tmp 4)] := rfl
theorem enter16 {w : World} {R : Value → World → Prop} (x0 x1 : Value) (h : vc Tryz.prog B16 (retK Tryz.prog #[(.tmp 4)] R) [] (initEnv [x0, x1] 0) w) : FnC Tryz.prog 16 #[x0, x1] w R := by
  obtain ⟨c, h1, h2⟩ := code16
  exact hb16.fn (ret_of_vc mixed Tryz.func16 h1 (Nat.le_of_ble_eq_true rfl) B16 h2 h)
@[push_cast] theorem vr16_0 : VR r16_0 [⟨some 2, .box 24 (.tmp 0), 0, none⟩, ⟨some 3, .box 32 (.tmp 1), 0, none⟩, ⟨some 4, .assign (.const (.int .i64 0)), 37, none⟩] := vR rfl
@[push_cast] theorem vr16_1 : VR r16_1 [⟨some 6, .load 32 (.tmp 3), 32, none⟩, ⟨some 7, .call ⟨.value (.func 42), #[.tmp 6], #[32]⟩, 4, none⟩, ⟨some 8, .unOp .not 4 (.tmp 7), 4, none⟩, ⟨some 5, .assign (.tmp 8), 4, none⟩] := vR rfl
@[push_cast] theorem vr16_2 : VR r16_2 [⟨some 4, .assign (.const (.int .i64 221)), 37, none⟩] := vR rfl
@[push_cast] theorem vr16_3 : VR r16_3 [⟨some 10, .load 24 (.tmp 2), 24, none⟩, ⟨some 11, .load 32 (.tmp 3), 32, none⟩, ⟨some 12, .call ⟨.value (.func 43), #[.tmp 10, .tmp 11], #[24, 32]⟩, 4, none⟩, ⟨some 13, .unOp .not 4 (.tmp 12), 4, none⟩, ⟨some 9, .assign (.tmp 13), 4, none⟩] := vR rfl
@[push_cast] theorem vr16_4 : VR r16_4 [⟨some 4, .assign (.const (.int .i64 231)), 37, none⟩] := vR rfl
@[push_cast] theorem vr16_5 : VR r16_5 [⟨some 15, .load 32 (.tmp 3), 32, none⟩, ⟨some 16, .call ⟨.value (.func 44), #[.tmp 15], #[32]⟩, 4, none⟩, ⟨some 17, .unOp .not 4 (.tmp 16), 4, none⟩, ⟨some 14, .assign (.tmp 17), 4, none⟩] := vR rfl
@[push_cast] theorem vr16_6 : VR r16_6 [⟨some 4, .assign (.const (.int .i64 232)), 37, none⟩] := vR rfl
@[push_cast] theorem vr16_7 : VR r16_7 [⟨some 4, .assign (.const (.int .i64 0)), 37, none⟩] := vR rfl
/-! 21 columbary/typer.Bucket (params #[32, 3], results #[(.tmp 4)], 20 slots) -/
def r21_0 : List VOp :=
  [⟨some 2, .box 32 (.tmp 0), 0, none⟩,
   ⟨some 4, .assign (.const (.int .i64 0)), 3, none⟩]
def r21_1 : List VOp :=
  [fad 7 32 2 3,
   lda 8 3 7,
   ⟨some 9, .binOp .eql 3 (.tmp 8) (.const (.int .i64 0)) 3, 4, none⟩]
def r21_2 : List VOp :=
  [fad 10 32 2 1,
   lda 11 3 10,
   asg 4 11 3]
def r21_3 : List VOp :=
  [mv 13 1 3,
   fad 14 32 2 3,
   lda 15 3 14,
   ⟨some 16, .call ⟨.value (.func 54), #[.tmp 13, .tmp 15], #[3, 3]⟩, 82, none⟩,
   mv 12 16 82,
   ext 17 12 0 3,
   ext 18 12 1 37,
   asg 5 17 3,
   asg 6 18 37]
def r21_4 : List VOp :=
  [mv 19 5 3,
   asg 4 19 3]
def B21 : VC :=
  (.seq (.region r21_0) (.seq (.seq (.region r21_1) (.cond (.tmp 9) (.seq (.region r21_2) .ret) .skip)) (.seq (.region r21_3) (.seq (.region r21_4) .ret))))
theorem code21 : ∃ c, Tryz.f21.body = some c ∧ abs Tryz.f21.ntmps c = B21 := ⟨_, rfl, by kernel_rfl⟩
theorem hb21 : HasBody Tryz.prog 21 := hasBody_of Tryz.func21 (by kernel_rfl)
theorem res21 : Tryz.f21.results = #[(.tmp 4)] := rfl
theorem enter21 {w : World} {R : Value → World → Prop} (x0 x1 : Value) (h : vc Tryz.prog B21 (retK Tryz.prog #[(.tmp 4)] R) [] (initEnv [x0, x1] 0) w) : FnC Tryz.prog 21 #[x0, x1] w R := by
  obtain ⟨c, h1, h2⟩ := code21
  exact hb21.fn (ret_of_vc mixed Tryz.func21 h1 (Nat.le_of_ble_eq_true rfl) B21 h2 h)
@[push_cast] theorem vr21_0 : VR r21_0 [⟨some 2, .box 32 (.tmp 0), 0, none⟩, ⟨some 4, .assign (.const (.int .i64 0)), 3, none⟩] := vR rfl
@[push_cast] theorem vr21_1 : VR r21_1 [⟨some 7, .fieldAddr 32 (.tmp 2) 3, 0, none⟩, ⟨some 8, .load 3 (.tmp 7), 3, none⟩, ⟨some 9, .binOp .eql 3 (.tmp 8) (.const (.int .i64 0)) 3, 4, none⟩] := vR rfl
@[push_cast] theorem vr21_2 : VR r21_2 [⟨some 10, .fieldAddr 32 (.tmp 2) 1, 0, none⟩, ⟨some 11, .load 3 (.tmp 10), 3, none⟩, ⟨some 4, .assign (.tmp 11), 3, none⟩] := vR rfl
@[push_cast] theorem vr21_3 : VR r21_3 [⟨some 13, .move (.tmp 1), 3, none⟩, ⟨some 14, .fieldAddr 32 (.tmp 2) 3, 0, none⟩, ⟨some 15, .load 3 (.tmp 14), 3, none⟩, ⟨some 16, .call ⟨.value (.func 54), #[.tmp 13, .tmp 15], #[3, 3]⟩, 82, none⟩, ⟨some 12, .move (.tmp 16), 82, none⟩, ⟨some 17, .extract (.tmp 12) 0, 3, none⟩, ⟨some 18, .extract (.tmp 12) 1, 37, none⟩, ⟨some 5, .assign (.tmp 17), 3, none⟩, ⟨some 6, .assign (.tmp 18), 37, none⟩] := vR rfl
@[push_cast] theorem vr21_4 : VR r21_4 [⟨some 19, .move (.tmp 5), 3, none⟩, ⟨some 4, .assign (.tmp 19), 3, none⟩] := vR rfl
/-! 42 columbary/typer.shaped (params #[32], results #[(.tmp 2)], 59 slots) -/
def r42_0 : List VOp :=
  [⟨some 1, .box 32 (.tmp 0), 0, none⟩,
   ⟨some 2, .assign (.const (.bool false)), 4, none⟩]
def r42_1 : List VOp :=
  [fad 5 32 1 0,
   lda 6 25 5,
   ⟨some 7, .call ⟨.builtin .len, #[.tmp 6], #[25]⟩, 3, none⟩,
   ⟨some 8, .binOp .geq 3 (.tmp 7) (.const (.int .i64 1)) 3, 4, none⟩,
   mv 9 8 4,
   ⟨some 10, .fieldAddr 32 (.tmp 1) 0, 0, some (9, true)⟩,
   ⟨some 11, .load 25 (.tmp 10), 25, some (9, true)⟩,
   ⟨some 12, .call ⟨.builtin .len, #[.tmp 11], #[25]⟩, 3, some (9, true)⟩,
   ⟨some 13, .binOp .leq 3 (.tmp 12) (.const (.int .i64 8)) 3, 4, some (9, true)⟩,
   ⟨some 14, .pick (.tmp 9) (.tmp 13) (.const (.bool false)), 4, none⟩,
   mv 15 14 4,
   ⟨some 16, .fieldAddr 32 (.tmp 1) 4, 0, some (15, true)⟩,
   ⟨some 17, .load 22 (.tmp 16), 22, some (15, true)⟩,
   ⟨some 18, .call ⟨.builtin .len, #[.tmp 17], #[22]⟩, 3, some (15, true)⟩,
   ⟨some 19, .binOp .leq 3 (.tmp 18) (.const (.int .i64 6)) 3, 4, some (15, true)⟩,
   ⟨some 20, .pick (.tmp 15) (.tmp 19) (.const (.bool false)), 4, none⟩,
   mv 21 20 4,
   ⟨some 22, .fieldAddr 32 (.tmp 1) 6, 0, some (21, true)⟩,
   ⟨some 23, .load 30 (.tmp 22), 30, some (21, true)⟩,
   ⟨some 24, .call ⟨.builtin .len, #[.tmp 23], #[30]⟩, 3, some (21, true)⟩,
   ⟨some 25, .binOp .leq 3 (.tmp 24) (.const (.int .i64 8)) 3, 4, some (21, true)⟩,
   ⟨some 26, .pick (.tmp 21) (.tmp 25) (.const (.bool false)), 4, none⟩,
   asg 3 26 4]
def r42_2 : List VOp :=
  [mv 27 3 4,
   ⟨some 28, .unOp .not 4 (.tmp 27), 4, none⟩,
   mv 29 28 4,
   ⟨some 30, .fieldAddr 32 (.tmp 1) 0, 0, some (29, false)⟩,
   ⟨some 31, .load 25 (.tmp 30), 25, some (29, false)⟩,
   ⟨some 32, .call ⟨.value (.func 77), #[(.tmp 31), (.func 78)], #[25, 100]⟩, 4, some (29, false)⟩,
   ⟨some 33, .pick (.tmp 29) (.const (.bool true)) (.tmp 32), 4, none⟩]
def r42_3 : List VOp :=
  [⟨some 2, .assign (.const (.bool false)), 4, none⟩]
def r42_4 : List VOp :=
  [fad 34 32 1 6,
   lda 35 30 34,
   ⟨some 36, .call ⟨.value (.func 80), #[(.tmp 35), (.func 81)], #[30, 104]⟩, 4, none⟩]
def r42_5 : List VOp :=
  [⟨some 2, .assign (.const (.bool false)), 4, none⟩]
def r42_6 : List VOp :=
  [fad 37 32 1 5,
   lda 38 29 37,
   ⟨some 4, .alloc 29, 0, none⟩,
   ⟨none, .store 29 (.tmp 4) (.tmp 38), 0, none⟩]
def r42_7 : List VOp :=
  [fad 39 29 4 0,
   lda 40 26 39,
   ⟨some 41, .binOp .eql 26 (.tmp 40) (.const (.int .i64 0)) 26, 4, none⟩]
def r42_8 : List VOp :=
  [fad 42 29 4 3,
   lda 43 27 42,
   ⟨some 44, .call ⟨.builtin .len, #[.tmp 43], #[27]⟩, 3, none⟩,
   ⟨some 45, .binOp .eql 3 (.tmp 44) (.const (.int .i64 0)) 3, 4, none⟩,
   mv 46 45 4,
   ⟨some 47, .fieldAddr 29 (.tmp 4) 1, 0, some (46, true)⟩,
   ⟨some 48, .load 9 (.tmp 47), 9, some (46, true)⟩,
   ⟨some 49, .binOp .eql 9 (.tmp 48) (.const (.string { data := #[] })) 9, 4, some (46, true)⟩,
   ⟨some 50, .pick (.tmp 46) (.tmp 49) (.const (.bool false)), 4, none⟩,
   mv 51 50 4,
   ⟨some 52, .fieldAddr 29 (.tmp 4) 2, 0, some (51, true)⟩,
   ⟨some 53, .load 9 (.tmp 52), 9, some (51, true)⟩,
   ⟨some 54, .binOp .eql 9 (.tmp 53) (.const (.string { data := #[] })) 9, 4, some (51, true)⟩,
   ⟨some 55, .pick (.tmp 51) (.tmp 54) (.const (.bool false)), 4, none⟩,
   asg 2 55 4]
def r42_9 : List VOp :=
  [fad 56 32 1 5,
   lda 57 29 56,
   ⟨some 58, .call ⟨.value (.func 82), #[(.tmp 57), (.const (.int .i64 30))], #[29, 3]⟩, 4, none⟩,
   asg 2 58 4]
def B42 : VC :=
  (.seq (.region r42_0) (.seq (.region r42_1) (.seq (.seq (.region r42_2) (.cond (.tmp 33) (.seq (.region r42_3) .ret) .skip)) (.seq (.seq (.region r42_4) (.cond (.tmp 36) (.seq (.region r42_5) .ret) .skip)) (.seq (.seq (.region r42_6) (.seq (.region r42_7) (.cond (.tmp 41) (.seq (.region r42_8) .ret) .skip))) (.seq (.region r42_9) .ret))))))
theorem code42 : ∃ c, Tryz.f42.body = some c ∧ abs Tryz.f42.ntmps c = B42 := ⟨_, rfl, by kernel_rfl⟩
theorem hb42 : HasBody Tryz.prog 42 := hasBody_of Tryz.func42 (by kernel_rfl)
theorem res42 : Tryz.f42.results = #[(.tmp 2)] := rfl
theorem enter42 {w : World} {R : Value → World → Prop} (x0 : Value) (h : vc Tryz.prog B42 (retK Tryz.prog #[(.tmp 2)] R) [] (initEnv [x0] 0) w) : FnC Tryz.prog 42 #[x0] w R := by
  obtain ⟨c, h1, h2⟩ := code42
  exact hb42.fn (ret_of_vc mixed Tryz.func42 h1 (Nat.le_of_ble_eq_true rfl) B42 h2 h)
@[push_cast] theorem vr42_0 : VR r42_0 [⟨some 1, .box 32 (.tmp 0), 0, none⟩, ⟨some 2, .assign (.const (.bool false)), 4, none⟩] := vR rfl
@[push_cast] theorem vr42_1 : VR r42_1 [⟨some 5, .fieldAddr 32 (.tmp 1) 0, 0, none⟩, ⟨some 6, .load 25 (.tmp 5), 25, none⟩, ⟨some 7, .call ⟨.builtin .len, #[.tmp 6], #[25]⟩, 3, none⟩, ⟨some 8, .binOp .geq 3 (.tmp 7) (.const (.int .i64 1)) 3, 4, none⟩, ⟨some 9, .move (.tmp 8), 4, none⟩, ⟨some 10, .fieldAddr 32 (.tmp 1) 0, 0, some (9, true)⟩, ⟨some 11, .load 25 (.tmp 10), 25, some (9, true)⟩, ⟨some 12, .call ⟨.builtin .len, #[.tmp 11], #[25]⟩, 3, some (9, true)⟩, ⟨some 13, .binOp .leq 3 (.tmp 12) (.const (.int .i64 8)) 3, 4, some (9, true)⟩, ⟨some 14, .pick (.tmp 9) (.tmp 13) (.const (.bool false)), 4, none⟩, ⟨some 15, .move (.tmp 14), 4, none⟩, ⟨some 16, .fieldAddr 32 (.tmp 1) 4, 0, some (15, true)⟩, ⟨some 17, .load 22 (.tmp 16), 22, some (15, true)⟩, ⟨some 18, .call ⟨.builtin .len, #[.tmp 17], #[22]⟩, 3, some (15, true)⟩, ⟨some 19, .binOp .leq 3 (.tmp 18) (.const (.int .i64 6)) 3, 4, some (15, true)⟩, ⟨some 20, .pick (.tmp 15) (.tmp 19) (.const (.bool false)), 4, none⟩, ⟨some 21, .move (.tmp 20), 4, none⟩, ⟨some 22, .fieldAddr 32 (.tmp 1) 6, 0, some (21, true)⟩, ⟨some 23, .load 30 (.tmp 22), 30, some (21, true)⟩, ⟨some 24, .call ⟨.builtin .len, #[.tmp 23], #[30]⟩, 3, some (21, true)⟩, ⟨some 25, .binOp .leq 3 (.tmp 24) (.const (.int .i64 8)) 3, 4, some (21, true)⟩, ⟨some 26, .pick (.tmp 21) (.tmp 25) (.const (.bool false)), 4, none⟩, ⟨some 3, .assign (.tmp 26), 4, none⟩] := vR rfl
@[push_cast] theorem vr42_2 : VR r42_2 [⟨some 27, .move (.tmp 3), 4, none⟩, ⟨some 28, .unOp .not 4 (.tmp 27), 4, none⟩, ⟨some 29, .move (.tmp 28), 4, none⟩, ⟨some 30, .fieldAddr 32 (.tmp 1) 0, 0, some (29, false)⟩, ⟨some 31, .load 25 (.tmp 30), 25, some (29, false)⟩, ⟨some 32, .call ⟨.value (.func 77), #[(.tmp 31), (.func 78)], #[25, 100]⟩, 4, some (29, false)⟩, ⟨some 33, .pick (.tmp 29) (.const (.bool true)) (.tmp 32), 4, none⟩] := vR rfl
@[push_cast] theorem vr42_3 : VR r42_3 [⟨some 2, .assign (.const (.bool false)), 4, none⟩] := vR rfl
@[push_cast] theorem vr42_4 : VR r42_4 [⟨some 34, .fieldAddr 32 (.tmp 1) 6, 0, none⟩, ⟨some 35, .load 30 (.tmp 34), 30, none⟩, ⟨some 36, .call ⟨.value (.func 80), #[(.tmp 35), (.func 81)], #[30, 104]⟩, 4, none⟩] := vR rfl
@[push_cast] theorem vr42_5 : VR r42_5 [⟨some 2, .assign (.const (.bool false)), 4, none⟩] := vR rfl
@[push_cast] theorem vr42_6 : VR r42_6 [⟨some 37, .fieldAddr 32 (.tmp 1) 5, 0, none⟩, ⟨some 38, .load 29 (.tmp 37), 29, none⟩, ⟨some 4, .alloc 29, 0, none⟩, ⟨none, .store 29 (.tmp 4) (.tmp 38), 0, none⟩] := vR rfl
@[push_cast] theorem vr42_7 : VR r42_7 [⟨some 39, .fieldAddr 29 (.tmp 4) 0, 0, none⟩, ⟨some 40, .load 26 (.tmp 39), 26, none⟩, ⟨some 41, .binOp .eql 26 (.tmp 40) (.const (.int .i64 0)) 26, 4, none⟩] := vR rfl
@[push_cast] theorem vr42_8 : VR r42_8 [⟨some 42, .fieldAddr 29 (.tmp 4) 3, 0, none⟩, ⟨some 43, .load 27 (.tmp 42), 27, none⟩, ⟨some 44, .call ⟨.builtin .len, #[.tmp 43], #[27]⟩, 3, none⟩, ⟨some 45, .binOp .eql 3 (.tmp 44) (.const (.int .i64 0)) 3, 4, none⟩, ⟨some 46, .move (.tmp 45), 4, none⟩, ⟨some 47, .fieldAddr 29 (.tmp 4) 1, 0, some (46, true)⟩, ⟨some 48, .load 9 (.tmp 47), 9, some (46, true)⟩, ⟨some 49, .binOp .eql 9 (.tmp 48) (.const (.string { data := #[] })) 9, 4, some (46, true)⟩, ⟨some 50, .pick (.tmp 46) (.tmp 49) (.const (.bool false)), 4, none⟩, ⟨some 51, .move (.tmp 50), 4, none⟩, ⟨some 52, .fieldAddr 29 (.tmp 4) 2, 0, some (51, true)⟩, ⟨some 53, .load 9 (.tmp 52), 9, some (51, true)⟩, ⟨some 54, .binOp .eql 9 (.tmp 53) (.const (.string { data := #[] })) 9, 4, some (51, true)⟩, ⟨some 55, .pick (.tmp 51) (.tmp 54) (.const (.bool false)), 4, none⟩, ⟨some 2, .assign (.tmp 55), 4, none⟩] := vR rfl
@[push_cast] theorem vr42_9 : VR r42_9 [⟨some 56, .fieldAddr 32 (.tmp 1) 5, 0, none⟩, ⟨some 57, .load 29 (.tmp 56), 29, none⟩, ⟨some 58, .call ⟨.value (.func 82), #[(.tmp 57), (.const (.int .i64 30))], #[29, 3]⟩, 4, none⟩, ⟨some 2, .assign (.tmp 58), 4, none⟩] := vR rfl
/-! 43 columbary/typer.named (params #[24, 32], results #[(.tmp 4)], 32 slots) -/
def W43_0 : List Nat := [5, 7, 14, 15, 16, 17, 18, 19, 20, 21, 22, 23]
@[push_cast] theorem W43_0_def : W43_0 = [5, 7, 14, 15, 16, 17, 18, 19, 20, 21, 22, 23] := mk_eq rfl
def r43_0 : List VOp :=
  [⟨some 2, .box 24 (.tmp 0), 0, none⟩,
   ⟨some 3, .box 32 (.tmp 1), 0, none⟩,
   ⟨some 4, .assign (.const (.bool false)), 4, none⟩]
def r43_1 : List VOp :=
  [fad 8 32 3 0,
   lda 9 25 8,
   ⟨some 10, .call ⟨.value (.func 83), #[.tmp 9], #[25]⟩, 25, none⟩,
   asg 5 10 25]
def r43_2 : List VOp :=
  [fad 11 32 3 6,
   lda 12 30 11,
   ⟨some 13, .call ⟨.builtin .len, #[.tmp 12], #[30]⟩, 3, none⟩,
   ⟨some 14, .move (.const (.int .i64 0)), 3, none⟩]
def r43_3 : List VOp :=
  [⟨some 15, .binOp .lss 3 (.tmp 14) (.tmp 13) 3, 0, none⟩]
def r43_4 : List VOp :=
  [iad 16 30 12 14,
   lda 17 103 16,
   ⟨some 7, .alloc 103, 0, none⟩,
   ⟨none, .store 103 (.tmp 7) (.tmp 17), 0, none⟩]
def r43_5 : List VOp :=
  [mv 18 5 25,
   fad 19 103 7 0,
   lda 20 58 19,
   ⟨some 21, .buildSlice 25 1 #[(0, (.tmp 20))], 25, none⟩,
   ⟨some 22, .call ⟨.builtin .append, #[.tmp 18, .tmp 21], #[25, 25]⟩, 25, none⟩,
   asg 5 22 25]
def r43_6 : List VOp :=
  [⟨some 23, .binOp .add 3 (.tmp 14) (.const (.int .i64 1)) 3, 3, none⟩,
   mv 14 23 3]
def r43_7 : List VOp :=
  [mv 24 5 25,
   ⟨some 25, .makeFunc (Fn.func 84) #[] #[(.tmp 2)], 100, none⟩,
   ⟨some 26, .call ⟨.value (.func 77), #[.tmp 24, .tmp 25], #[25, 100]⟩, 4, none⟩]
def r43_8 : List VOp :=
  [⟨some 4, .assign (.const (.bool false)), 4, none⟩]
def r43_9 : List VOp :=
  [lda 27 32 3,
   ⟨some 28, .call ⟨.value (.func 48), #[.tmp 27], #[32]⟩, 22, none⟩,
   ⟨some 29, .makeFunc (Fn.func 86) #[] #[(.tmp 2)], 80, none⟩,
   ⟨some 30, .call ⟨.value (.func 85), #[.tmp 28, .tmp 29], #[22, 80]⟩, 4, none⟩,
   ⟨some 31, .unOp .not 4 (.tmp 30), 4, none⟩,
   asg 4 31 4]
def B43 : VC :=
  (.seq (.region r43_0) (.seq (.region r43_1) (.seq (.seq (.region r43_2) (.block 0 (.loop (.seq (.region r43_3) (.seq (.cond (.tmp 15) .skip (.exit 0)) (.seq (.block 1 (.seq (.region r43_4) (.region r43_5))) (.region r43_6))))))) (.seq (.seq (.region r43_7) (.cond (.tmp 26) (.seq (.region r43_8) .ret) .skip)) (.seq (.region r43_9) .ret)))))
theorem code43 : ∃ c, Tryz.f43.body = some c ∧ abs Tryz.f43.ntmps c = B43 := ⟨_, rfl, by kernel_rfl⟩
theorem hb43 : HasBody Tryz.prog 43 := hasBody_of Tryz.func43 (by kernel_rfl)
theorem res43 : Tryz.f43.results = #[(.tmp 4)] := rfl
theorem enter43 {w : World} {R : Value → World → Prop} (x0 x1 : Value) (h : vc Tryz.prog B43 (retK Tryz.prog #[(.tmp 4)] R) [] (initEnv [x0, x1] 0) w) : FnC Tryz.prog 43 #[x0, x1] w R := by
  obtain ⟨c, h1, h2⟩ := code43
  exact hb43.fn (ret_of_vc mixed Tryz.func43 h1 (Nat.le_of_ble_eq_true rfl) B43 h2 h)
@[push_cast] theorem vr43_0 : VR r43_0 [⟨some 2, .box 24 (.tmp 0), 0, none⟩, ⟨some 3, .box 32 (.tmp 1), 0, none⟩, ⟨some 4, .assign (.const (.bool false)), 4, none⟩] := vR rfl
@[push_cast] theorem vr43_1 : VR r43_1 [⟨some 8, .fieldAddr 32 (.tmp 3) 0, 0, none⟩, ⟨some 9, .load 25 (.tmp 8), 25, none⟩, ⟨some 10, .call ⟨.value (.func 83), #[.tmp 9], #[25]⟩, 25, none⟩, ⟨some 5, .assign (.tmp 10), 25, none⟩] := vR rfl
@[push_cast] theorem vr43_2 : VR r43_2 [⟨some 11, .fieldAddr 32 (.tmp 3) 6, 0, none⟩, ⟨some 12, .load 30 (.tmp 11), 30, none⟩, ⟨some 13, .call ⟨.builtin .len, #[.tmp 12], #[30]⟩, 3, none⟩, ⟨some 14, .move (.const (.int .i64 0)), 3, none⟩] := vR rfl
@[push_cast] theorem vr43_3 : VR r43_3 [⟨some 15, .binOp .lss 3 (.tmp 14) (.tmp 13) 3, 0, none⟩] := vR rfl
@[push_cast] theorem vr43_4 : VR r43_4 [⟨some 16, .indexAddr 30 (.tmp 12) (.tmp 14), 0, none⟩, ⟨some 17, .load 103 (.tmp 16), 103, none⟩, ⟨some 7, .alloc 103, 0, none⟩, ⟨none, .store 103 (.tmp 7) (.tmp 17), 0, none⟩] := vR rfl
@[push_cast] theorem vr43_5 : VR r43_5 [⟨some 18, .move (.tmp 5), 25, none⟩, ⟨some 19, .fieldAddr 103 (.tmp 7) 0, 0, none⟩, ⟨some 20, .load 58 (.tmp 19), 58, none⟩, ⟨some 21, .buildSlice 25 1 #[(0, (.tmp 20))], 25, none⟩, ⟨some 22, .call ⟨.builtin .append, #[.tmp 18, .tmp 21], #[25, 25]⟩, 25, none⟩, ⟨some 5, .assign (.tmp 22), 25, none⟩] := vR rfl
@[push_cast] theorem vr43_6 : VR r43_6 [⟨some 23, .binOp .add 3 (.tmp 14) (.const (.int .i64 1)) 3, 3, none⟩, ⟨some 14, .move (.tmp 23), 3, none⟩] := vR rfl
@[push_cast] theorem vr43_7 : VR r43_7 [⟨some 24, .move (.tmp 5), 25, none⟩, ⟨some 25, .makeFunc (Fn.func 84) #[] #[(.tmp 2)], 100, none⟩, ⟨some 26, .call ⟨.value (.func 77), #[.tmp 24, .tmp 25], #[25, 100]⟩, 4, none⟩] := vR rfl
@[push_cast] theorem vr43_8 : VR r43_8 [⟨some 4, .assign (.const (.bool false)), 4, none⟩] := vR rfl
@[push_cast] theorem vr43_9 : VR r43_9 [⟨some 27, .load 32 (.tmp 3), 32, none⟩, ⟨some 28, .call ⟨.value (.func 48), #[.tmp 27], #[32]⟩, 22, none⟩, ⟨some 29, .makeFunc (Fn.func 86) #[] #[(.tmp 2)], 80, none⟩, ⟨some 30, .call ⟨.value (.func 85), #[.tmp 28, .tmp 29], #[22, 80]⟩, 4, none⟩, ⟨some 31, .unOp .not 4 (.tmp 30), 4, none⟩, ⟨some 4, .assign (.tmp 31), 4, none⟩] := vR rfl
/-! 44 columbary/typer.typed (params #[32], results #[(.tmp 2)], 82 slots) -/
def r44_0 : List VOp :=
  [⟨some 1, .box 32 (.tmp 0), 0, none⟩,
   ⟨some 2, .assign (.const (.bool false)), 4, none⟩]
def r44_1 : List VOp :=
  [fad 8 32 1 4,
   lda 9 22 8,
   ⟨some 10, .call ⟨.value (.func 88), #[.tmp 9], #[22]⟩, 110, none⟩,
   ⟨some 11, .call ⟨.value (.func 87), #[.tmp 10], #[110]⟩, 22, none⟩,
   asg 3 11 22]
def r44_2 : List VOp :=
  [mv 12 3 22,
   ⟨some 13, .call ⟨.value (.func 89), #[.tmp 12], #[22]⟩, 22, none⟩,
   ⟨some 14, .call ⟨.builtin .len, #[.tmp 13], #[22]⟩, 3, none⟩,
   fad 15 32 1 4,
   lda 16 22 15,
   ⟨some 17, .call ⟨.builtin .len, #[.tmp 16], #[22]⟩, 3, none⟩,
   ⟨some 18, .binOp .eql 3 (.tmp 14) (.tmp 17) 3, 4, none⟩,
   asg 4 18 4]
def r44_3 : List VOp :=
  [fad 19 32 1 5,
   lda 20 29 19,
   ⟨some 21, .call ⟨.value (.func 90), #[.tmp 20], #[29]⟩, 27, none⟩,
   ⟨some 22, .call ⟨.value (.func 66), #[(.tmp 21), (.func 91)], #[27, 91]⟩, 4, none⟩,
   ⟨some 23, .unOp .not 4 (.tmp 22), 4, none⟩,
   asg 5 23 4]
def r44_4 : List VOp :=
  [fad 24 32 1 1,
   lda 25 3 24,
   ⟨some 26, .binOp .geq 3 (.tmp 25) (.const (.int .i64 0)) 3, 4, none⟩,
   mv 27 26 4,
   ⟨some 28, .fieldAddr 32 (.tmp 1) 1, 0, some (27, true)⟩,
   ⟨some 29, .load 3 (.tmp 28), 3, some (27, true)⟩,
   ⟨some 30, .fieldAddr 32 (.tmp 1) 2, 0, some (27, true)⟩,
   ⟨some 31, .load 3 (.tmp 30), 3, some (27, true)⟩,
   ⟨some 32, .binOp .lss 3 (.tmp 29) (.tmp 31) 3, 4, some (27, true)⟩,
   ⟨some 33, .pick (.tmp 27) (.tmp 32) (.const (.bool false)), 4, none⟩,
   mv 34 33 4,
   ⟨some 35, .fieldAddr 32 (.tmp 1) 2, 0, some (34, true)⟩,
   ⟨some 36, .load 3 (.tmp 35), 3, some (34, true)⟩,
   ⟨some 37, .binOp .leq 3 (.tmp 36) (.const (.int .i64 1099511627776)) 3, 4, some (34, true)⟩,
   ⟨some 38, .pick (.tmp 34) (.tmp 37) (.const (.bool false)), 4, none⟩,
   mv 39 38 4,
   ⟨some 40, .fieldAddr 32 (.tmp 1) 3, 0, some (39, true)⟩,
   ⟨some 41, .load 3 (.tmp 40), 3, some (39, true)⟩,
   ⟨some 42, .binOp .eql 3 (.tmp 41) (.const (.int .i64 0)) 3, 4, some (39, true)⟩,
   ⟨some 43, .move (.tmp 42), 4, some (39, true)⟩,
   ⟨some 44, .fieldAddr 32 (.tmp 1) 3, 0, some (43, false)⟩,
   ⟨some 45, .load 3 (.tmp 44), 3, some (43, false)⟩,
   ⟨some 46, .call ⟨.value (.func 93), #[.tmp 45], #[3]⟩, 4, some (43, false)⟩,
   ⟨some 47, .pick (.tmp 43) (.const (.bool true)) (.tmp 46), 4, some (39, true)⟩,
   ⟨some 48, .pick (.tmp 39) (.tmp 47) (.const (.bool false)), 4, none⟩,
   asg 6 48 4]
def r44_5 : List VOp :=
  [fad 49 32 1 0,
   lda 50 25 49,
   ⟨some 51, .call ⟨.builtin .len, #[.tmp 50], #[25]⟩, 3, none⟩,
   asg 7 51 3]
def r44_6 : List VOp :=
  [mv 52 4 4,
   mv 53 52 4,
   ⟨some 54, .move (.tmp 5), 4, some (53, true)⟩,
   ⟨some 55, .pick (.tmp 53) (.tmp 54) (.const (.bool false)), 4, none⟩,
   mv 56 55 4,
   ⟨some 57, .move (.tmp 6), 4, some (56, true)⟩,
   ⟨some 58, .pick (.tmp 56) (.tmp 57) (.const (.bool false)), 4, none⟩,
   mv 59 58 4,
   ⟨some 60, .fieldAddr 32 (.tmp 1) 7, 0, some (59, true)⟩,
   ⟨some 61, .load 3 (.tmp 60), 3, some (59, true)⟩,
   ⟨some 62, .move (.tmp 7), 3, some (59, true)⟩,
   ⟨some 63, .unOp .neg 3 (.tmp 62), 3, some (59, true)⟩,
   ⟨some 64, .binOp .geq 3 (.tmp 61) (.tmp 63) 3, 4, some (59, true)⟩,
   ⟨some 65, .pick (.tmp 59) (.tmp 64) (.const (.bool false)), 4, none⟩,
   mv 66 65 4,
   ⟨some 67, .fieldAddr 32 (.tmp 1) 7, 0, some (66, true)⟩,
   ⟨some 68, .load 3 (.tmp 67), 3, some (66, true)⟩,
   ⟨some 69, .move (.tmp 7), 3, some (66, true)⟩,
   ⟨some 70, .binOp .leq 3 (.tmp 68) (.tmp 69) 3, 4, some (66, true)⟩,
   ⟨some 71, .pick (.tmp 66) (.tmp 70) (.const (.bool false)), 4, none⟩,
   mv 72 71 4,
   ⟨some 73, .fieldAddr 32 (.tmp 1) 8, 0, some (72, true)⟩,
   ⟨some 74, .load 3 (.tmp 73), 3, some (72, true)⟩,
   ⟨some 75, .binOp .geq 3 (.tmp 74) (.const (.int .i64 0)) 3, 4, some (72, true)⟩,
   ⟨some 76, .pick (.tmp 72) (.tmp 75) (.const (.bool false)), 4, none⟩,
   mv 77 76 4,
   ⟨some 78, .fieldAddr 32 (.tmp 1) 8, 0, some (77, true)⟩,
   ⟨some 79, .load 3 (.tmp 78), 3, some (77, true)⟩,
   ⟨some 80, .binOp .leq 3 (.tmp 79) (.const (.int .i64 1000)) 3, 4, some (77, true)⟩,
   ⟨some 81, .pick (.tmp 77) (.tmp 80) (.const (.bool false)), 4, none⟩,
   asg 2 81 4]
def B44 : VC :=
  (.seq (.region r44_0) (.seq (.region r44_1) (.seq (.drawA r44_2 3 [[], [0], [1], [], [3], [4], [2, 5], [6, 1, 0, 1, 2, 3, 4, 5, 6]]) (.seq (.region r44_3) (.seq (.region r44_4) (.seq (.region r44_5) (.seq (.region r44_6) .ret)))))))
theorem code44 : ∃ c, Tryz.f44.body = some c ∧ absT Tryz.f44.ntmps c = B44 := ⟨_, rfl, by kernel_rfl⟩
theorem hb44 : HasBody Tryz.prog 44 := hasBody_of Tryz.func44 (by kernel_rfl)
theorem res44 : Tryz.f44.results = #[(.tmp 2)] := rfl
theorem enter44 {w : World} {R : Value → World → Prop} (x0 : Value) (h : vc Tryz.prog B44 (retK Tryz.prog #[(.tmp 2)] R) [] (initEnv [x0] 0) w) : FnC Tryz.prog 44 #[x0] w R := by
  obtain ⟨c, h1, h2⟩ := code44
  exact hb44.fn (ret_of_vc mixed Tryz.func44 h1 (Nat.le_of_ble_eq_true rfl) B44 h2 h)
@[push_cast] theorem vr44_0 : VR r44_0 [⟨some 1, .box 32 (.tmp 0), 0, none⟩, ⟨some 2, .assign (.const (.bool false)), 4, none⟩] := vR rfl
@[push_cast] theorem vr44_1 : VR r44_1 [⟨some 8, .fieldAddr 32 (.tmp 1) 4, 0, none⟩, ⟨some 9, .load 22 (.tmp 8), 22, none⟩, ⟨some 10, .call ⟨.value (.func 88), #[.tmp 9], #[22]⟩, 110, none⟩, ⟨some 11, .call ⟨.value (.func 87), #[.tmp 10], #[110]⟩, 22, none⟩, ⟨some 3, .assign (.tmp 11), 22, none⟩] := vR rfl
@[push_cast] theorem vr44_2 : vc Tryz.prog (.drawA r44_2 3 [[], [0], [1], [], [3], [4], [2, 5], [6, 1, 0, 1, 2, 3, 4, 5, 6]]) Q ds σ w = drawnA Tryz.prog [⟨some 12, .move (.tmp 3), 22, none⟩, ⟨some 13, .call ⟨.value (.func 89), #[.tmp 12], #[22]⟩, 22, none⟩, ⟨some 14, .call ⟨.builtin .len, #[.tmp 13], #[22]⟩, 3, none⟩, ⟨some 15, .fieldAddr 32 (.tmp 1) 4, 0, none⟩, ⟨some 16, .load 22 (.tmp 15), 22, none⟩, ⟨some 17, .call ⟨.builtin .len, #[.tmp 16], #[22]⟩, 3, none⟩, ⟨some 18, .binOp .eql 3 (.tmp 14) (.tmp 17) 3, 4, none⟩, ⟨some 4, .assign (.tmp 18), 4, none⟩] 3 [[], [0], [1], [], [3], [4], [2, 5], [6, 1, 0, 1, 2, 3, 4, 5, 6]] (Q .normal ds) σ w := mk_eq rfl
@[push_cast] theorem vr44_3 : VR r44_3 [⟨some 19, .fieldAddr 32 (.tmp 1) 5, 0, none⟩, ⟨some 20, .load 29 (.tmp 19), 29, none⟩, ⟨some 21, .call ⟨.value (.func 90), #[.tmp 20], #[29]⟩, 27, none⟩, ⟨some 22, .call ⟨.value (.func 66), #[(.tmp 21), (.func 91)], #[27, 91]⟩, 4, none⟩, ⟨some 23, .unOp .not 4 (.tmp 22), 4, none⟩, ⟨some 5, .assign (.tmp 23), 4, none⟩] := vR rfl
@[push_cast] theorem vr44_4 : VR r44_4 [⟨some 24, .fieldAddr 32 (.tmp 1) 1, 0, none⟩, ⟨some 25, .load 3 (.tmp 24), 3, none⟩, ⟨some 26, .binOp .geq 3 (.tmp 25) (.const (.int .i64 0)) 3, 4, none⟩, ⟨some 27, .move (.tmp 26), 4, none⟩, ⟨some 28, .fieldAddr 32 (.tmp 1) 1, 0, some (27, true)⟩, ⟨some 29, .load 3 (.tmp 28), 3, some (27, true)⟩, ⟨some 30, .fieldAddr 32 (.tmp 1) 2, 0, some (27, true)⟩, ⟨some 31, .load 3 (.tmp 30), 3, some (27, true)⟩, ⟨some 32, .binOp .lss 3 (.tmp 29) (.tmp 31) 3, 4, some (27, true)⟩, ⟨some 33, .pick (.tmp 27) (.tmp 32) (.const (.bool false)), 4, none⟩, ⟨some 34, .move (.tmp 33), 4, none⟩, ⟨some 35, .fieldAddr 32 (.tmp 1) 2, 0, some (34, true)⟩, ⟨some 36, .load 3 (.tmp 35), 3, some (34, true)⟩, ⟨some 37, .binOp .leq 3 (.tmp 36) (.const (.int .i64 1099511627776)) 3, 4, some (34, true)⟩, ⟨some 38, .pick (.tmp 34) (.tmp 37) (.const (.bool false)), 4, none⟩, ⟨some 39, .move (.tmp 38), 4, none⟩, ⟨some 40, .fieldAddr 32 (.tmp 1) 3, 0, some (39, true)⟩, ⟨some 41, .load 3 (.tmp 40), 3, some (39, true)⟩, ⟨some 42, .binOp .eql 3 (.tmp 41) (.const (.int .i64 0)) 3, 4, some (39, true)⟩, ⟨some 43, .move (.tmp 42), 4, some (39, true)⟩, ⟨some 44, .fieldAddr 32 (.tmp 1) 3, 0, some (43, false)⟩, ⟨some 45, .load 3 (.tmp 44), 3, some (43, false)⟩, ⟨some 46, .call ⟨.value (.func 93), #[.tmp 45], #[3]⟩, 4, some (43, false)⟩, ⟨some 47, .pick (.tmp 43) (.const (.bool true)) (.tmp 46), 4, some (39, true)⟩, ⟨some 48, .pick (.tmp 39) (.tmp 47) (.const (.bool false)), 4, none⟩, ⟨some 6, .assign (.tmp 48), 4, none⟩] := vR rfl
@[push_cast] theorem vr44_5 : VR r44_5 [⟨some 49, .fieldAddr 32 (.tmp 1) 0, 0, none⟩, ⟨some 50, .load 25 (.tmp 49), 25, none⟩, ⟨some 51, .call ⟨.builtin .len, #[.tmp 50], #[25]⟩, 3, none⟩, ⟨some 7, .assign (.tmp 51), 3, none⟩] := vR rfl
@[push_cast] theorem vr44_6 : VR r44_6 [⟨some 52, .move (.tmp 4), 4, none⟩, ⟨some 53, .move (.tmp 52), 4, none⟩, ⟨some 54, .move (.tmp 5), 4, some (53, true)⟩, ⟨some 55, .pick (.tmp 53) (.tmp 54) (.const (.bool false)), 4, none⟩, ⟨some 56, .move (.tmp 55), 4, none⟩, ⟨some 57, .move (.tmp 6), 4, some (56, true)⟩, ⟨some 58, .pick (.tmp 56) (.tmp 57) (.const (.bool false)), 4, none⟩, ⟨some 59, .move (.tmp 58), 4, none⟩, ⟨some 60, .fieldAddr 32 (.tmp 1) 7, 0, some (59, true)⟩, ⟨some 61, .load 3 (.tmp 60), 3, some (59, true)⟩, ⟨some 62, .move (.tmp 7), 3, some (59, true)⟩, ⟨some 63, .unOp .neg 3 (.tmp 62), 3, some (59, true)⟩, ⟨some 64, .binOp .geq 3 (.tmp 61) (.tmp 63) 3, 4, some (59, true)⟩, ⟨some 65, .pick (.tmp 59) (.tmp 64) (.const (.bool false)), 4, none⟩, ⟨some 66, .move (.tmp 65), 4, none⟩, ⟨some 67, .fieldAddr 32 (.tmp 1) 7, 0, some (66, true)⟩, ⟨some 68, .load 3 (.tmp 67), 3, some (66, true)⟩, ⟨some 69, .move (.tmp 7), 3, some (66, true)⟩, ⟨some 70, .binOp .leq 3 (.tmp 68) (.tmp 69) 3, 4, some (66, true)⟩, ⟨some 71, .pick (.tmp 66) (.tmp 70) (.const (.bool false)), 4, none⟩, ⟨some 72, .move (.tmp 71), 4, none⟩, ⟨some 73, .fieldAddr 32 (.tmp 1) 8, 0, some (72, true)⟩, ⟨some 74, .load 3 (.tmp 73), 3, some (72, true)⟩, ⟨some 75, .binOp .geq 3 (.tmp 74) (.const (.int .i64 0)) 3, 4, some (72, true)⟩, ⟨some 76, .pick (.tmp 72) (.tmp 75) (.const (.bool false)), 4, none⟩, ⟨some 77, .move (.tmp 76), 4, none⟩, ⟨some 78, .fieldAddr 32 (.tmp 1) 8, 0, some (77, true)⟩, ⟨some 79, .load 3 (.tmp 78), 3, some (77, true)⟩, ⟨some 80, .binOp .leq 3 (.tmp 79) (.const (.int .i64 1000)) 3, 4, some (77, true)⟩, ⟨some 81, .pick (.tmp 77) (.tmp 80) (.const (.bool false)), 4, none⟩, ⟨some 2, .assign (.tmp 81), 4, none⟩] := vR rfl
/-! 66 slices.ContainsFunc[[]columbary/api.Filter,columbary/api.Filter] (params #[27, 91], results #[(.tmp 4)], 9 slots) -/
def r66_0 : List VOp :=
  [⟨some 4, .assign (.const (.bool false)), 4, none⟩]
def r66_1 : List VOp :=
  [mv 5 0 27,
   mv 6 1 91,
   ⟨some 7, .call ⟨.value (.func 110), #[.tmp 5, .tmp 6], #[27, 91]⟩, 3, none⟩,
   ⟨some 8, .binOp .geq 3 (.tmp 7) (.const (.int .i64 0)) 3, 4, none⟩,
   asg 4 8 4]
def B66 : VC :=
  (.seq (.region r66_0) (.seq (.region r66_1) .ret))
theorem code66 : ∃ c, Tryz.f66.body = some c ∧ abs Tryz.f66.ntmps c = B66 := ⟨_, rfl, by kernel_rfl⟩
theorem hb66 : HasBody Tryz.prog 66 := hasBody_of Tryz.func66 (by kernel_rfl)
theorem res66 : Tryz.f66.results = #[(.tmp 4)] := rfl
theorem enter66 {w : World} {R : Value → World → Prop} (x0 x1 : Value) (h : vc Tryz.prog B66 (retK Tryz.prog #[(.tmp 4)] R) [] (initEnv [x0, x1] 0) w) : FnC Tryz.prog 66 #[x0, x1] w R := by
  obtain ⟨c, h1, h2⟩ := code66
  exact hb66.fn (ret_of_vc mixed Tryz.func66 h1 (Nat.le_of_ble_eq_true rfl) B66 h2 h)
@[push_cast] theorem vr66_0 : VR r66_0 [⟨some 4, .assign (.const (.bool false)), 4, none⟩] := vR rfl
@[push_cast] theorem vr66_1 : VR r66_1 [⟨some 5, .move (.tmp 0), 27, none⟩, ⟨some 6, .move (.tmp 1), 91, none⟩, ⟨some 7, .call ⟨.value (.func 110), #[.tmp 5, .tmp 6], #[27, 91]⟩, 3, none⟩, ⟨some 8, .binOp .geq 3 (.tmp 7) (.const (.int .i64 0)) 3, 4, none⟩, ⟨some 4, .assign (.tmp 8), 4, none⟩] := vR rfl
/-! 77 slices.ContainsFunc[[]columbary/api.Term,columbary/api.Term] (params #[25, 100], results #[(.tmp 4)], 9 slots) -/
def r77_0 : List VOp :=
  [⟨some 4, .assign (.const (.bool false)), 4, none⟩]
def r77_1 : List VOp :=
  [mv 5 0 25,
   mv 6 1 100,
   ⟨some 7, .call ⟨.value (.func 119), #[.tmp 5, .tmp 6], #[25, 100]⟩, 3, none⟩,
   ⟨some 8, .binOp .geq 3 (.tmp 7) (.const (.int .i64 0)) 3, 4, none⟩,
   asg 4 8 4]
def B77 : VC :=
  (.seq (.region r77_0) (.seq (.region r77_1) .ret))
theorem code77 : ∃ c, Tryz.f77.body = some c ∧ abs Tryz.f77.ntmps c = B77 := ⟨_, rfl, by kernel_rfl⟩
theorem hb77 : HasBody Tryz.prog 77 := hasBody_of Tryz.func77 (by kernel_rfl)
theorem res77 : Tryz.f77.results = #[(.tmp 4)] := rfl
theorem enter77 {w : World} {R : Value → World → Prop} (x0 x1 : Value) (h : vc Tryz.prog B77 (retK Tryz.prog #[(.tmp 4)] R) [] (initEnv [x0, x1] 0) w) : FnC Tryz.prog 77 #[x0, x1] w R := by
  obtain ⟨c, h1, h2⟩ := code77
  exact hb77.fn (ret_of_vc mixed Tryz.func77 h1 (Nat.le_of_ble_eq_true rfl) B77 h2 h)
@[push_cast] theorem vr77_0 : VR r77_0 [⟨some 4, .assign (.const (.bool false)), 4, none⟩] := vR rfl
@[push_cast] theorem vr77_1 : VR r77_1 [⟨some 5, .move (.tmp 0), 25, none⟩, ⟨some 6, .move (.tmp 1), 100, none⟩, ⟨some 7, .call ⟨.value (.func 119), #[.tmp 5, .tmp 6], #[25, 100]⟩, 3, none⟩, ⟨some 8, .binOp .geq 3 (.tmp 7) (.const (.int .i64 0)) 3, 4, none⟩, ⟨some 4, .assign (.tmp 8), 4, none⟩] := vR rfl
/-! 78 columbary/typer.shaped$1 (params #[58], results #[(.tmp 2)], 6 slots) -/
def r78_0 : List VOp :=
  [⟨some 1, .box 58 (.tmp 0), 0, none⟩,
   ⟨some 2, .assign (.const (.bool false)), 4, none⟩]
def r78_1 : List VOp :=
  [lda 3 58 1,
   ⟨some 4, .call ⟨.value (.func 79), #[.tmp 3], #[58]⟩, 4, none⟩,
   ⟨some 5, .unOp .not 4 (.tmp 4), 4, none⟩,
   asg 2 5 4]
def B78 : VC :=
  (.seq (.region r78_0) (.seq (.region r78_1) .ret))
theorem code78 : ∃ c, Tryz.f78.body = some c ∧ abs Tryz.f78.ntmps c = B78 := ⟨_, rfl, by kernel_rfl⟩
theorem hb78 : HasBody Tryz.prog 78 := hasBody_of Tryz.func78 (by kernel_rfl)
theorem res78 : Tryz.f78.results = #[(.tmp 2)] := rfl
theorem enter78 {w : World} {R : Value → World → Prop} (x0 : Value) (h : vc Tryz.prog B78 (retK Tryz.prog #[(.tmp 2)] R) [] (initEnv [x0] 0) w) : FnC Tryz.prog 78 #[x0] w R := by
  obtain ⟨c, h1, h2⟩ := code78
  exact hb78.fn (ret_of_vc mixed Tryz.func78 h1 (Nat.le_of_ble_eq_true rfl) B78 h2 h)
@[push_cast] theorem vr78_0 : VR r78_0 [⟨some 1, .box 58 (.tmp 0), 0, none⟩, ⟨some 2, .assign (.const (.bool false)), 4, none⟩] := vR rfl
@[push_cast] theorem vr78_1 : VR r78_1 [⟨some 3, .load 58 (.tmp 1), 58, none⟩, ⟨some 4, .call ⟨.value (.func 79), #[.tmp 3], #[58]⟩, 4, none⟩, ⟨some 5, .unOp .not 4 (.tmp 4), 4, none⟩, ⟨some 2, .assign (.tmp 5), 4, none⟩] := vR rfl
/-! 79 columbary/typer.termed (params #[58], results #[(.tmp 2)], 20 slots) -/
def r79_0 : List VOp :=
  [⟨some 1, .box 58 (.tmp 0), 0, none⟩,
   ⟨some 2, .assign (.const (.bool false)), 4, none⟩]
def r79_1 : List VOp :=
  [fad 3 58 1 0,
   lda 4 56 3,
   ⟨some 5, .binOp .geq 56 (.tmp 4) (.const (.int .i64 0)) 56, 4, none⟩,
   mv 6 5 4,
   ⟨some 7, .fieldAddr 58 (.tmp 1) 0, 0, some (6, true)⟩,
   ⟨some 8, .load 56 (.tmp 7), 56, some (6, true)⟩,
   ⟨some 9, .binOp .leq 56 (.tmp 8) (.const (.int .i64 3)) 56, 4, some (6, true)⟩,
   ⟨some 10, .pick (.tmp 6) (.tmp 9) (.const (.bool false)), 4, none⟩,
   mv 11 10 4,
   ⟨some 12, .fieldAddr 58 (.tmp 1) 0, 0, some (11, true)⟩,
   ⟨some 13, .load 56 (.tmp 12), 56, some (11, true)⟩,
   ⟨some 14, .binOp .eql 56 (.tmp 13) (.const (.int .i64 0)) 56, 4, some (11, true)⟩,
   ⟨some 15, .fieldAddr 58 (.tmp 1) 1, 0, some (11, true)⟩,
   ⟨some 16, .load 9 (.tmp 15), 9, some (11, true)⟩,
   ⟨some 17, .binOp .eql 9 (.tmp 16) (.const (.string { data := #[] })) 9, 4, some (11, true)⟩,
   ⟨some 18, .binOp .eql 4 (.tmp 14) (.tmp 17) 4, 4, some (11, true)⟩,
   ⟨some 19, .pick (.tmp 11) (.tmp 18) (.const (.bool false)), 4, none⟩,
   asg 2 19 4]
def B79 : VC :=
  (.seq (.region r79_0) (.seq (.region r79_1) .ret))
theorem code79 : ∃ c, Tryz.f79.body = some c ∧ abs Tryz.f79.ntmps c = B79 := ⟨_, rfl, by kernel_rfl⟩
theorem hb79 : HasBody Tryz.prog 79 := hasBody_of Tryz.func79 (by kernel_rfl)
theorem res79 : Tryz.f79.results = #[(.tmp 2)] := rfl
theorem enter79 {w : World} {R : Value → World → Prop} (x0 : Value) (h : vc Tryz.prog B79 (retK Tryz.prog #[(.tmp 2)] R) [] (initEnv [x0] 0) w) : FnC Tryz.prog 79 #[x0] w R := by
  obtain ⟨c, h1, h2⟩ := code79
  exact hb79.fn (ret_of_vc mixed Tryz.func79 h1 (Nat.le_of_ble_eq_true rfl) B79 h2 h)
@[push_cast] theorem vr79_0 : VR r79_0 [⟨some 1, .box 58 (.tmp 0), 0, none⟩, ⟨some 2, .assign (.const (.bool false)), 4, none⟩] := vR rfl
@[push_cast] theorem vr79_1 : VR r79_1 [⟨some 3, .fieldAddr 58 (.tmp 1) 0, 0, none⟩, ⟨some 4, .load 56 (.tmp 3), 56, none⟩, ⟨some 5, .binOp .geq 56 (.tmp 4) (.const (.int .i64 0)) 56, 4, none⟩, ⟨some 6, .move (.tmp 5), 4, none⟩, ⟨some 7, .fieldAddr 58 (.tmp 1) 0, 0, some (6, true)⟩, ⟨some 8, .load 56 (.tmp 7), 56, some (6, true)⟩, ⟨some 9, .binOp .leq 56 (.tmp 8) (.const (.int .i64 3)) 56, 4, some (6, true)⟩, ⟨some 10, .pick (.tmp 6) (.tmp 9) (.const (.bool false)), 4, none⟩, ⟨some 11, .move (.tmp 10), 4, none⟩, ⟨some 12, .fieldAddr 58 (.tmp 1) 0, 0, some (11, true)⟩, ⟨some 13, .load 56 (.tmp 12), 56, some (11, true)⟩, ⟨some 14, .binOp .eql 56 (.tmp 13) (.const (.int .i64 0)) 56, 4, some (11, true)⟩, ⟨some 15, .fieldAddr 58 (.tmp 1) 1, 0, some (11, true)⟩, ⟨some 16, .load 9 (.tmp 15), 9, some (11, true)⟩, ⟨some 17, .binOp .eql 9 (.tmp 16) (.const (.string { data := #[] })) 9, 4, some (11, true)⟩, ⟨some 18, .binOp .eql 4 (.tmp 14) (.tmp 17) 4, 4, some (11, true)⟩, ⟨some 19, .pick (.tmp 11) (.tmp 18) (.const (.bool false)), 4, none⟩, ⟨some 2, .assign (.tmp 19), 4, none⟩] := vR rfl
/-! 80 slices.ContainsFunc[[]columbary/api.Having,columbary/api.Having] (params #[30, 104], results #[(.tmp 4)], 9 slots) -/
def r80_0 : List VOp :=
  [⟨some 4, .assign (.const (.bool false)), 4, none⟩]
def r80_1 : List VOp :=
  [mv 5 0 30,
   mv 6 1 104,
   ⟨some 7, .call ⟨.value (.func 120), #[.tmp 5, .tmp 6], #[30, 104]⟩, 3, none⟩,
   ⟨some 8, .binOp .geq 3 (.tmp 7) (.const (.int .i64 0)) 3, 4, none⟩,
   asg 4 8 4]
def B80 : VC :=
  (.seq (.region r80_0) (.seq (.region r80_1) .ret))
theorem code80 : ∃ c, Tryz.f80.body = some c ∧ abs Tryz.f80.ntmps c = B80 := ⟨_, rfl, by kernel_rfl⟩
theorem hb80 : HasBody Tryz.prog 80 := hasBody_of Tryz.func80 (by kernel_rfl)
theorem res80 : Tryz.f80.results = #[(.tmp 4)] := rfl
theorem enter80 {w : World} {R : Value → World → Prop} (x0 x1 : Value) (h : vc Tryz.prog B80 (retK Tryz.prog #[(.tmp 4)] R) [] (initEnv [x0, x1] 0) w) : FnC Tryz.prog 80 #[x0, x1] w R := by
  obtain ⟨c, h1, h2⟩ := code80
  exact hb80.fn (ret_of_vc mixed Tryz.func80 h1 (Nat.le_of_ble_eq_true rfl) B80 h2 h)
@[push_cast] theorem vr80_0 : VR r80_0 [⟨some 4, .assign (.const (.bool false)), 4, none⟩] := vR rfl
@[push_cast] theorem vr80_1 : VR r80_1 [⟨some 5, .move (.tmp 0), 30, none⟩, ⟨some 6, .move (.tmp 1), 104, none⟩, ⟨some 7, .call ⟨.value (.func 120), #[.tmp 5, .tmp 6], #[30, 104]⟩, 3, none⟩, ⟨some 8, .binOp .geq 3 (.tmp 7) (.const (.int .i64 0)) 3, 4, none⟩, ⟨some 4, .assign (.tmp 8), 4, none⟩] := vR rfl
/-! 81 columbary/typer.shaped$2 (params #[103], results #[(.tmp 2)], 27 slots) -/
def r81_0 : List VOp :=
  [⟨some 1, .box 103 (.tmp 0), 0, none⟩,
   ⟨some 2, .assign (.const (.bool false)), 4, none⟩]
def r81_1 : List VOp :=
  [fad 3 103 1 0,
   lda 4 58 3,
   ⟨some 5, .call ⟨.value (.func 79), #[.tmp 4], #[58]⟩, 4, none⟩,
   ⟨some 6, .unOp .not 4 (.tmp 5), 4, none⟩,
   mv 7 6 4,
   ⟨some 8, .fieldAddr 103 (.tmp 1) 1, 0, some (7, false)⟩,
   ⟨some 9, .load 3 (.tmp 8), 3, some (7, false)⟩,
   ⟨some 10, .binOp .lss 3 (.tmp 9) (.const (.int .i64 (-1))) 3, 4, some (7, false)⟩,
   ⟨some 11, .pick (.tmp 7) (.const (.bool true)) (.tmp 10), 4, none⟩,
   mv 12 11 4,
   ⟨some 13, .fieldAddr 103 (.tmp 1) 1, 0, some (12, false)⟩,
   ⟨some 14, .load 3 (.tmp 13), 3, some (12, false)⟩,
   ⟨some 15, .binOp .gtr 3 (.tmp 14) (.const (.int .i64 1)) 3, 4, some (12, false)⟩,
   ⟨some 16, .pick (.tmp 12) (.const (.bool true)) (.tmp 15), 4, none⟩,
   mv 17 16 4,
   ⟨some 18, .fieldAddr 103 (.tmp 1) 2, 0, some (17, false)⟩,
   ⟨some 19, .load 3 (.tmp 18), 3, some (17, false)⟩,
   ⟨some 20, .binOp .lss 3 (.tmp 19) (.const (.int .i64 (-4611686018427387904))) 3, 4, some (17, false)⟩,
   ⟨some 21, .pick (.tmp 17) (.const (.bool true)) (.tmp 20), 4, none⟩,
   mv 22 21 4,
   ⟨some 23, .fieldAddr 103 (.tmp 1) 2, 0, some (22, false)⟩,
   ⟨some 24, .load 3 (.tmp 23), 3, some (22, false)⟩,
   ⟨some 25, .binOp .gtr 3 (.tmp 24) (.const (.int .i64 4611686018427387904)) 3, 4, some (22, false)⟩,
   ⟨some 26, .pick (.tmp 22) (.const (.bool true)) (.tmp 25), 4, none⟩,
   asg 2 26 4]
def B81 : VC :=
  (.seq (.region r81_0) (.seq (.region r81_1) .ret))
theorem code81 : ∃ c, Tryz.f81.body = some c ∧ abs Tryz.f81.ntmps c = B81 := ⟨_, rfl, by kernel_rfl⟩
theorem hb81 : HasBody Tryz.prog 81 := hasBody_of Tryz.func81 (by kernel_rfl)
theorem res81 : Tryz.f81.results = #[(.tmp 2)] := rfl
theorem enter81 {w : World} {R : Value → World → Prop} (x0 : Value) (h : vc Tryz.prog B81 (retK Tryz.prog #[(.tmp 2)] R) [] (initEnv [x0] 0) w) : FnC Tryz.prog 81 #[x0] w R := by
  obtain ⟨c, h1, h2⟩ := code81
  exact hb81.fn (ret_of_vc mixed Tryz.func81 h1 (Nat.le_of_ble_eq_true rfl) B81 h2 h)
@[push_cast] theorem vr81_0 : VR r81_0 [⟨some 1, .box 103 (.tmp 0), 0, none⟩, ⟨some 2, .assign (.const (.bool false)), 4, none⟩] := vR rfl
@[push_cast] theorem vr81_1 : VR r81_1 [⟨some 3, .fieldAddr 103 (.tmp 1) 0, 0, none⟩, ⟨some 4, .load 58 (.tmp 3), 58, none⟩, ⟨some 5, .call ⟨.value (.func 79), #[.tmp 4], #[58]⟩, 4, none⟩, ⟨some 6, .unOp .not 4 (.tmp 5), 4, none⟩, ⟨some 7, .move (.tmp 6), 4, none⟩, ⟨some 8, .fieldAddr 103 (.tmp 1) 1, 0, some (7, false)⟩, ⟨some 9, .load 3 (.tmp 8), 3, some (7, false)⟩, ⟨some 10, .binOp .lss 3 (.tmp 9) (.const (.int .i64 (-1))) 3, 4, some (7, false)⟩, ⟨some 11, .pick (.tmp 7) (.const (.bool true)) (.tmp 10), 4, none⟩, ⟨some 12, .move (.tmp 11), 4, none⟩, ⟨some 13, .fieldAddr 103 (.tmp 1) 1, 0, some (12, false)⟩, ⟨some 14, .load 3 (.tmp 13), 3, some (12, false)⟩, ⟨some 15, .binOp .gtr 3 (.tmp 14) (.const (.int .i64 1)) 3, 4, some (12, false)⟩, ⟨some 16, .pick (.tmp 12) (.const (.bool true)) (.tmp 15), 4, none⟩, ⟨some 17, .move (.tmp 16), 4, none⟩, ⟨some 18, .fieldAddr 103 (.tmp 1) 2, 0, some (17, false)⟩, ⟨some 19, .load 3 (.tmp 18), 3, some (17, false)⟩, ⟨some 20, .binOp .lss 3 (.tmp 19) (.const (.int .i64 (-4611686018427387904))) 3, 4, some (17, false)⟩, ⟨some 21, .pick (.tmp 17) (.const (.bool true)) (.tmp 20), 4, none⟩, ⟨some 22, .move (.tmp 21), 4, none⟩, ⟨some 23, .fieldAddr 103 (.tmp 1) 2, 0, some (22, false)⟩, ⟨some 24, .load 3 (.tmp 23), 3, some (22, false)⟩, ⟨some 25, .binOp .gtr 3 (.tmp 24) (.const (.int .i64 4611686018427387904)) 3, 4, some (22, false)⟩, ⟨some 26, .pick (.tmp 22) (.const (.bool true)) (.tmp 25), 4, none⟩, ⟨some 2, .assign (.tmp 26), 4, none⟩] := vR rfl
/-! 82 columbary/typer.formed (params #[29, 3], results #[(.tmp 4)], 57 slots) -/
def r82_0 : List VOp :=
  [⟨some 2, .box 29 (.tmp 0), 0, none⟩,
   ⟨some 3, .box 3 (.tmp 1), 0, none⟩,
   ⟨some 4, .assign (.const (.bool false)), 4, none⟩]
def r82_1 : List VOp :=
  [lda 6 3 3,
   ⟨some 7, .binOp .eql 3 (.tmp 6) (.const (.int .i64 0)) 3, 4, none⟩,
   mv 8 7 4,
   ⟨some 9, .fieldAddr 29 (.tmp 2) 3, 0, some (8, false)⟩,
   ⟨some 10, .load 27 (.tmp 9), 27, some (8, false)⟩,
   ⟨some 11, .makeFunc (Fn.func 121) #[] #[(.tmp 3)], 91, some (8, false)⟩,
   ⟨some 12, .call ⟨.value (.func 66), #[.tmp 10, .tmp 11], #[27, 91]⟩, 4, some (8, false)⟩,
   ⟨some 13, .pick (.tmp 8) (.const (.bool true)) (.tmp 12), 4, none⟩]
def r82_2 : List VOp :=
  [⟨some 4, .assign (.const (.bool false)), 4, none⟩]
def r82_3 : List VOp :=
  [fad 14 29 2 3,
   lda 15 27 14,
   ⟨some 16, .call ⟨.builtin .len, #[.tmp 15], #[27]⟩, 3, none⟩,
   asg 5 16 3]
def r82_4 : List VOp :=
  [fad 17 29 2 0,
   lda 18 26 17]
def r82_5 : List VOp :=
  [⟨some 20, .binOp .eql 26 (.tmp 18) (.const (.int .i64 2)) 26, 4, none⟩,
   asg 19 20 4]
def r82_6 : List VOp :=
  [⟨some 22, .binOp .eql 26 (.tmp 18) (.const (.int .i64 1)) 26, 4, none⟩,
   asg 21 22 4]
def r82_7 : List VOp :=
  [⟨some 24, .binOp .eql 26 (.tmp 18) (.const (.int .i64 3)) 26, 4, none⟩,
   asg 23 24 4]
def r82_8 : List VOp :=
  [⟨some 26, .binOp .eql 26 (.tmp 18) (.const (.int .i64 4)) 26, 4, none⟩,
   asg 25 26 4]
def r82_9 : List VOp :=
  [⟨some 27, .binOp .eql 26 (.tmp 18) (.const (.int .i64 5)) 26, 4, none⟩,
   asg 25 27 4]
def r82_10 : List VOp :=
  [fad 28 29 2 2,
   lda 29 9 28,
   ⟨some 30, .binOp .neq 9 (.tmp 29) (.const (.string { data := #[] })) 9, 4, none⟩]
def r82_11 : List VOp :=
  [⟨some 4, .assign (.const (.bool false)), 4, none⟩]
def r82_12 : List VOp :=
  [mv 31 5 3,
   ⟨some 32, .binOp .eql 3 (.tmp 31) (.const (.int .i64 0)) 3, 4, none⟩,
   asg 4 32 4]
def r82_13 : List VOp :=
  [mv 33 5 3,
   ⟨some 34, .binOp .eql 3 (.tmp 33) (.const (.int .i64 1)) 3, 4, none⟩,
   mv 35 34 4,
   ⟨some 36, .fieldAddr 29 (.tmp 2) 1, 0, some (35, true)⟩,
   ⟨some 37, .load 9 (.tmp 36), 9, some (35, true)⟩,
   ⟨some 38, .binOp .eql 9 (.tmp 37) (.const (.string { data := #[] })) 9, 4, some (35, true)⟩,
   ⟨some 39, .pick (.tmp 35) (.tmp 38) (.const (.bool false)), 4, none⟩,
   mv 40 39 4,
   ⟨some 41, .fieldAddr 29 (.tmp 2) 2, 0, some (40, true)⟩,
   ⟨some 42, .load 9 (.tmp 41), 9, some (40, true)⟩,
   ⟨some 43, .binOp .eql 9 (.tmp 42) (.const (.string { data := #[] })) 9, 4, some (40, true)⟩,
   ⟨some 44, .pick (.tmp 40) (.tmp 43) (.const (.bool false)), 4, none⟩,
   asg 4 44 4]
def r82_14 : List VOp :=
  [mv 45 5 3,
   ⟨some 46, .binOp .geq 3 (.tmp 45) (.const (.int .i64 2)) 3, 4, none⟩,
   mv 47 46 4,
   ⟨some 48, .fieldAddr 29 (.tmp 2) 1, 0, some (47, true)⟩,
   ⟨some 49, .load 9 (.tmp 48), 9, some (47, true)⟩,
   ⟨some 50, .binOp .eql 9 (.tmp 49) (.const (.string { data := #[] })) 9, 4, some (47, true)⟩,
   ⟨some 51, .pick (.tmp 47) (.tmp 50) (.const (.bool false)), 4, none⟩,
   mv 52 51 4,
   ⟨some 53, .fieldAddr 29 (.tmp 2) 2, 0, some (52, true)⟩,
   ⟨some 54, .load 9 (.tmp 53), 9, some (52, true)⟩,
   ⟨some 55, .binOp .eql 9 (.tmp 54) (.const (.string { data := #[] })) 9, 4, some (52, true)⟩,
   ⟨some 56, .pick (.tmp 52) (.tmp 55) (.const (.bool false)), 4, none⟩,
   asg 4 56 4]
def r82_15 : List VOp :=
  [⟨some 4, .assign (.const (.bool false)), 4, none⟩]
def B82 : VC :=
  (.seq (.region r82_0) (.seq (.seq (.region r82_1) (.cond (.tmp 13) (.seq (.region r82_2) .ret) .skip)) (.seq (.region r82_3) (.seq (.seq (.region r82_4) (.block 0 (.seq (.block 4 (.seq (.block 3 (.seq (.block 2 (.seq (.block 1 (.seq (.seq (.seq (.region r82_5) (.cond (.tmp 19) (.exit 1) .skip)) (.seq (.seq (.region r82_6) (.cond (.tmp 21) (.exit 2) .skip)) (.seq (.seq (.region r82_7) (.cond (.tmp 23) (.exit 3) .skip)) (.seq (.seq (.region r82_8) (.cond (.tmp 25) .skip (.region r82_9))) (.cond (.tmp 25) (.exit 4) .skip))))) (.exit 0))) (.seq (.region r82_10) (.cond (.tmp 30) (.seq (.region r82_11) .ret) .skip)))) (.seq (.seq (.region r82_12) .ret) (.exit 0)))) (.seq (.seq (.region r82_13) .ret) (.exit 0)))) (.seq (.seq (.region r82_14) .ret) (.exit 0))))) (.seq (.region r82_15) .ret)))))
theorem code82 : ∃ c, Tryz.f82.body = some c ∧ abs Tryz.f82.ntmps c = B82 := ⟨_, rfl, by kernel_rfl⟩
theorem hb82 : HasBody Tryz.prog 82 := hasBody_of Tryz.func82 (by kernel_rfl)
theorem res82 : Tryz.f82.results = #[(.tmp 4)] := rfl
theorem enter82 {w : World} {R : Value → World → Prop} (x0 x1 : Value) (h : vc Tryz.prog B82 (retK Tryz.prog #[(.tmp 4)] R) [] (initEnv [x0, x1] 0) w) : FnC Tryz.prog 82 #[x0, x1] w R := by
  obtain ⟨c, h1, h2⟩ := code82
  exact hb82.fn (ret_of_vc mixed Tryz.func82 h1 (Nat.le_of_ble_eq_true rfl) B82 h2 h)
@[push_cast] theorem vr82_0 : VR r82_0 [⟨some 2, .box 29 (.tmp 0), 0, none⟩, ⟨some 3, .box 3 (.tmp 1), 0, none⟩, ⟨some 4, .assign (.const (.bool false)), 4, none⟩] := vR rfl
@[push_cast] theorem vr82_1 : VR r82_1 [⟨some 6, .load 3 (.tmp 3), 3, none⟩, ⟨some 7, .binOp .eql 3 (.tmp 6) (.const (.int .i64 0)) 3, 4, none⟩, ⟨some 8, .move (.tmp 7), 4, none⟩, ⟨some 9, .fieldAddr 29 (.tmp 2) 3, 0, some (8, false)⟩, ⟨some 10, .load 27 (.tmp 9), 27, some (8, false)⟩, ⟨some 11, .makeFunc (Fn.func 121) #[] #[(.tmp 3)], 91, some (8, false)⟩, ⟨some 12, .call ⟨.value (.func 66), #[.tmp 10, .tmp 11], #[27, 91]⟩, 4, some (8, false)⟩, ⟨some 13, .pick (.tmp 8) (.const (.bool true)) (.tmp 12), 4, none⟩] := vR rfl
@[push_cast] theorem vr82_2 : VR r82_2 [⟨some 4, .assign (.const (.bool false)), 4, none⟩] := vR rfl
@[push_cast] theorem vr82_3 : VR r82_3 [⟨some 14, .fieldAddr 29 (.tmp 2) 3, 0, none⟩, ⟨some 15, .load 27 (.tmp 14), 27, none⟩, ⟨some 16, .call ⟨.builtin .len, #[.tmp 15], #[27]⟩, 3, none⟩, ⟨some 5, .assign (.tmp 16), 3, none⟩] := vR rfl
@[push_cast] theorem vr82_4 : VR r82_4 [⟨some 17, .fieldAddr 29 (.tmp 2) 0, 0, none⟩, ⟨some 18, .load 26 (.tmp 17), 26, none⟩] := vR rfl
@[push_cast] theorem vr82_5 : VR r82_5 [⟨some 20, .binOp .eql 26 (.tmp 18) (.const (.int .i64 2)) 26, 4, none⟩, ⟨some 19, .assign (.tmp 20), 4, none⟩] := vR rfl
@[push_cast] theorem vr82_6 : VR r82_6 [⟨some 22, .binOp .eql 26 (.tmp 18) (.const (.int .i64 1)) 26, 4, none⟩, ⟨some 21, .assign (.tmp 22), 4, none⟩] := vR rfl
@[push_cast] theorem vr82_7 : VR r82_7 [⟨some 24, .binOp .eql 26 (.tmp 18) (.const (.int .i64 3)) 26, 4, none⟩, ⟨some 23, .assign (.tmp 24), 4, none⟩] := vR rfl
@[push_cast] theorem vr82_8 : VR r82_8 [⟨some 26, .binOp .eql 26 (.tmp 18) (.const (.int .i64 4)) 26, 4, none⟩, ⟨some 25, .assign (.tmp 26), 4, none⟩] := vR rfl
@[push_cast] theorem vr82_9 : VR r82_9 [⟨some 27, .binOp .eql 26 (.tmp 18) (.const (.int .i64 5)) 26, 4, none⟩, ⟨some 25, .assign (.tmp 27), 4, none⟩] := vR rfl
@[push_cast] theorem vr82_10 : VR r82_10 [⟨some 28, .fieldAddr 29 (.tmp 2) 2, 0, none⟩, ⟨some 29, .load 9 (.tmp 28), 9, none⟩, ⟨some 30, .binOp .neq 9 (.tmp 29) (.const (.string { data := #[] })) 9, 4, none⟩] := vR rfl
@[push_cast] theorem vr82_11 : VR r82_11 [⟨some 4, .assign (.const (.bool false)), 4, none⟩] := vR rfl
@[push_cast] theorem vr82_12 : VR r82_12 [⟨some 31, .move (.tmp 5), 3, none⟩, ⟨some 32, .binOp .eql 3 (.tmp 31) (.const (.int .i64 0)) 3, 4, none⟩, ⟨some 4, .assign (.tmp 32), 4, none⟩] := vR rfl
@[push_cast] theorem vr82_13 : VR r82_13 [⟨some 33, .move (.tmp 5), 3, none⟩, ⟨some 34, .binOp .eql 3 (.tmp 33) (.const (.int .i64 1)) 3, 4, none⟩, ⟨some 35, .move (.tmp 34), 4, none⟩, ⟨some 36, .fieldAddr 29 (.tmp 2) 1, 0, some (35, true)⟩, ⟨some 37, .load 9 (.tmp 36), 9, some (35, true)⟩, ⟨some 38, .binOp .eql 9 (.tmp 37) (.const (.string { data := #[] })) 9, 4, some (35, true)⟩, ⟨some 39, .pick (.tmp 35) (.tmp 38) (.const (.bool false)), 4, none⟩, ⟨some 40, .move (.tmp 39), 4, none⟩, ⟨some 41, .fieldAddr 29 (.tmp 2) 2, 0, some (40, true)⟩, ⟨some 42, .load 9 (.tmp 41), 9, some (40, true)⟩, ⟨some 43, .binOp .eql 9 (.tmp 42) (.const (.string { data := #[] })) 9, 4, some (40, true)⟩, ⟨some 44, .pick (.tmp 40) (.tmp 43) (.const (.bool false)), 4, none⟩, ⟨some 4, .assign (.tmp 44), 4, none⟩] := vR rfl
@[push_cast] theorem vr82_14 : VR r82_14 [⟨some 45, .move (.tmp 5), 3, none⟩, ⟨some 46, .binOp .geq 3 (.tmp 45) (.const (.int .i64 2)) 3, 4, none⟩, ⟨some 47, .move (.tmp 46), 4, none⟩, ⟨some 48, .fieldAddr 29 (.tmp 2) 1, 0, some (47, true)⟩, ⟨some 49, .load 9 (.tmp 48), 9, some (47, true)⟩, ⟨some 50, .binOp .eql 9 (.tmp 49) (.const (.string { data := #[] })) 9, 4, some (47, true)⟩, ⟨some 51, .pick (.tmp 47) (.tmp 50) (.const (.bool false)), 4, none⟩, ⟨some 52, .move (.tmp 51), 4, none⟩, ⟨some 53, .fieldAddr 29 (.tmp 2) 2, 0, some (52, true)⟩, ⟨some 54, .load 9 (.tmp 53), 9, some (52, true)⟩, ⟨some 55, .binOp .eql 9 (.tmp 54) (.const (.string { data := #[] })) 9, 4, some (52, true)⟩, ⟨some 56, .pick (.tmp 52) (.tmp 55) (.const (.bool false)), 4, none⟩, ⟨some 4, .assign (.tmp 56), 4, none⟩] := vR rfl
@[push_cast] theorem vr82_15 : VR r82_15 [⟨some 4, .assign (.const (.bool false)), 4, none⟩] := vR rfl
/-! 83 slices.Clone[[]columbary/api.Term,columbary/api.Term] (params #[25], results #[(.tmp 2)], 8 slots) -/
def r83_0 : List VOp :=
  [⟨some 2, .assign (.const (.slice none 0 0)), 25, none⟩]
def r83_1 : List VOp :=
  [mv 3 0 25,
   ⟨some 4, .binOp .eql 25 (.tmp 3) (.const (.slice none 0 0)) 25, 4, none⟩]
def r83_2 : List VOp :=
  [⟨some 2, .assign (.const (.slice none 0 0)), 25, none⟩]
def r83_3 : List VOp :=
  [⟨some 5, .buildSlice 25 0 #[], 25, none⟩,
   mv 6 0 25,
   ⟨some 7, .call ⟨.builtin .append, #[.tmp 5, .tmp 6], #[25, 25]⟩, 25, none⟩,
   asg 2 7 25]
def B83 : VC :=
  (.seq (.region r83_0) (.seq (.seq (.region r83_1) (.cond (.tmp 4) (.seq (.region r83_2) .ret) .skip)) (.seq (.region r83_3) .ret)))
theorem code83 : ∃ c, Tryz.f83.body = some c ∧ abs Tryz.f83.ntmps c = B83 := ⟨_, rfl, by kernel_rfl⟩
theorem hb83 : HasBody Tryz.prog 83 := hasBody_of Tryz.func83 (by kernel_rfl)
theorem res83 : Tryz.f83.results = #[(.tmp 2)] := rfl
theorem enter83 {w : World} {R : Value → World → Prop} (x0 : Value) (h : vc Tryz.prog B83 (retK Tryz.prog #[(.tmp 2)] R) [] (initEnv [x0] 0) w) : FnC Tryz.prog 83 #[x0] w R := by
  obtain ⟨c, h1, h2⟩ := code83
  exact hb83.fn (ret_of_vc mixed Tryz.func83 h1 (Nat.le_of_ble_eq_true rfl) B83 h2 h)
@[push_cast] theorem vr83_0 : VR r83_0 [⟨some 2, .assign (.const (.slice none 0 0)), 25, none⟩] := vR rfl
@[push_cast] theorem vr83_1 : VR r83_1 [⟨some 3, .move (.tmp 0), 25, none⟩, ⟨some 4, .binOp .eql 25 (.tmp 3) (.const (.slice none 0 0)) 25, 4, none⟩] := vR rfl
@[push_cast] theorem vr83_2 : VR r83_2 [⟨some 2, .assign (.const (.slice none 0 0)), 25, none⟩] := vR rfl
@[push_cast] theorem vr83_3 : VR r83_3 [⟨some 5, .buildSlice 25 0 #[], 25, none⟩, ⟨some 6, .move (.tmp 0), 25, none⟩, ⟨some 7, .call ⟨.builtin .append, #[.tmp 5, .tmp 6], #[25, 25]⟩, 25, none⟩, ⟨some 2, .assign (.tmp 7), 25, none⟩] := vR rfl
/-! 84 columbary/typer.named$1 (params #[58], results #[(.tmp 3)], 15 slots) -/
def r84_0 : List VOp :=
  [⟨some 2, .box 58 (.tmp 0), 0, none⟩,
   ⟨some 3, .assign (.const (.bool false)), 4, none⟩]
def r84_1 : List VOp :=
  [fad 4 58 2 0,
   lda 5 56 4,
   ⟨some 6, .binOp .neq 56 (.tmp 5) (.const (.int .i64 0)) 56, 4, none⟩,
   mv 7 6 4,
   ⟨some 8, .fieldAddr 24 (.tmp 1) 1, 0, some (7, true)⟩,
   ⟨some 9, .load 22 (.tmp 8), 22, some (7, true)⟩,
   ⟨some 10, .fieldAddr 58 (.tmp 2) 1, 0, some (7, true)⟩,
   ⟨some 11, .load 9 (.tmp 10), 9, some (7, true)⟩,
   ⟨some 12, .call ⟨.value (.func 52), #[.tmp 9, .tmp 11], #[22, 9]⟩, 4, some (7, true)⟩,
   ⟨some 13, .unOp .not 4 (.tmp 12), 4, some (7, true)⟩,
   ⟨some 14, .pick (.tmp 7) (.tmp 13) (.const (.bool false)), 4, none⟩,
   asg 3 14 4]
def B84 : VC :=
  (.seq (.region r84_0) (.seq (.region r84_1) .ret))
theorem code84 : ∃ c, Tryz.f84.body = some c ∧ abs Tryz.f84.ntmps c = B84 := ⟨_, rfl, by kernel_rfl⟩
theorem hb84 : HasBody Tryz.prog 84 := hasBody_of Tryz.func84 (by kernel_rfl)
theorem res84 : Tryz.f84.results = #[(.tmp 3)] := rfl
theorem enter84 {w : World} {R : Value → World → Prop} (x0 x1 : Value) (h : vc Tryz.prog B84 (retK Tryz.prog #[(.tmp 3)] R) [] (initEnv [x0, x1] 0) w) : FnC Tryz.prog 84 #[x0, x1] w R := by
  obtain ⟨c, h1, h2⟩ := code84
  exact hb84.fn (ret_of_vc mixed Tryz.func84 h1 (Nat.le_of_ble_eq_true rfl) B84 h2 h)
@[push_cast] theorem vr84_0 : VR r84_0 [⟨some 2, .box 58 (.tmp 0), 0, none⟩, ⟨some 3, .assign (.const (.bool false)), 4, none⟩] := vR rfl
@[push_cast] theorem vr84_1 : VR r84_1 [⟨some 4, .fieldAddr 58 (.tmp 2) 0, 0, none⟩, ⟨some 5, .load 56 (.tmp 4), 56, none⟩, ⟨some 6, .binOp .neq 56 (.tmp 5) (.const (.int .i64 0)) 56, 4, none⟩, ⟨some 7, .move (.tmp 6), 4, none⟩, ⟨some 8, .fieldAddr 24 (.tmp 1) 1, 0, some (7, true)⟩, ⟨some 9, .load 22 (.tmp 8), 22, some (7, true)⟩, ⟨some 10, .fieldAddr 58 (.tmp 2) 1, 0, some (7, true)⟩, ⟨some 11, .load 9 (.tmp 10), 9, some (7, true)⟩, ⟨some 12, .call ⟨.value (.func 52), #[.tmp 9, .tmp 11], #[22, 9]⟩, 4, some (7, true)⟩, ⟨some 13, .unOp .not 4 (.tmp 12), 4, some (7, true)⟩, ⟨some 14, .pick (.tmp 7) (.tmp 13) (.const (.bool false)), 4, none⟩, ⟨some 3, .assign (.tmp 14), 4, none⟩] := vR rfl
/-! 86 columbary/typer.named$2 (params #[9], results #[(.tmp 3)], 9 slots) -/
def r86_0 : List VOp :=
  [⟨some 3, .assign (.const (.bool false)), 4, none⟩]
def r86_1 : List VOp :=
  [fad 4 24 1 0,
   lda 5 22 4,
   mv 6 0 9,
   ⟨some 7, .call ⟨.value (.func 52), #[.tmp 5, .tmp 6], #[22, 9]⟩, 4, none⟩,
   ⟨some 8, .unOp .not 4 (.tmp 7), 4, none⟩,
   asg 3 8 4]
def B86 : VC :=
  (.seq (.region r86_0) (.seq (.region r86_1) .ret))
theorem code86 : ∃ c, Tryz.f86.body = some c ∧ abs Tryz.f86.ntmps c = B86 := ⟨_, rfl, by kernel_rfl⟩
theorem hb86 : HasBody Tryz.prog 86 := hasBody_of Tryz.func86 (by kernel_rfl)
theorem res86 : Tryz.f86.results = #[(.tmp 3)] := rfl
theorem enter86 {w : World} {R : Value → World → Prop} (x0 x1 : Value) (h : vc Tryz.prog B86 (retK Tryz.prog #[(.tmp 3)] R) [] (initEnv [x0, x1] 0) w) : FnC Tryz.prog 86 #[x0, x1] w R := by
  obtain ⟨c, h1, h2⟩ := code86
  exact hb86.fn (ret_of_vc mixed Tryz.func86 h1 (Nat.le_of_ble_eq_true rfl) B86 h2 h)
@[push_cast] theorem vr86_0 : VR r86_0 [⟨some 3, .assign (.const (.bool false)), 4, none⟩] := vR rfl
@[push_cast] theorem vr86_1 : VR r86_1 [⟨some 4, .fieldAddr 24 (.tmp 1) 0, 0, none⟩, ⟨some 5, .load 22 (.tmp 4), 22, none⟩, ⟨some 6, .move (.tmp 0), 9, none⟩, ⟨some 7, .call ⟨.value (.func 52), #[.tmp 5, .tmp 6], #[22, 9]⟩, 4, none⟩, ⟨some 8, .unOp .not 4 (.tmp 7), 4, none⟩, ⟨some 3, .assign (.tmp 8), 4, none⟩] := vR rfl
/-! 87 slices.Sorted[string] (params #[110], results #[(.tmp 2)], 9 slots) -/
def r87_0 : List VOp :=
  [⟨some 2, .assign (.const (.slice none 0 0)), 22, none⟩]
def r87_1 : List VOp :=
  [mv 4 0 110,
   ⟨some 5, .call ⟨.value (.func 122), #[.tmp 4], #[110]⟩, 22, none⟩,
   asg 3 5 22]
def r87_2 : List VOp :=
  [mv 6 3 22,
   ⟨some 7, .call ⟨.value (.func 123), #[.tmp 6], #[22]⟩, 0, none⟩]
def r87_3 : List VOp :=
  [mv 8 3 22,
   asg 2 8 22]
def B87 : VC :=
  (.seq (.region r87_0) (.seq (.region r87_1) (.seq (.region r87_2) (.seq (.region r87_3) .ret))))
theorem code87 : ∃ c, Tryz.f87.body = some c ∧ abs Tryz.f87.ntmps c = B87 := ⟨_, rfl, by kernel_rfl⟩
theorem hb87 : HasBody Tryz.prog 87 := hasBody_of Tryz.func87 (by kernel_rfl)
theorem res87 : Tryz.f87.results = #[(.tmp 2)] := rfl
theorem enter87 {w : World} {R : Value → World → Prop} (x0 : Value) (h : vc Tryz.prog B87 (retK Tryz.prog #[(.tmp 2)] R) [] (initEnv [x0] 0) w) : FnC Tryz.prog 87 #[x0] w R := by
  obtain ⟨c, h1, h2⟩ := code87
  exact hb87.fn (ret_of_vc mixed Tryz.func87 h1 (Nat.le_of_ble_eq_true rfl) B87 h2 h)
@[push_cast] theorem vr87_0 : VR r87_0 [⟨some 2, .assign (.const (.slice none 0 0)), 22, none⟩] := vR rfl
@[push_cast] theorem vr87_1 : VR r87_1 [⟨some 4, .move (.tmp 0), 110, none⟩, ⟨some 5, .call ⟨.value (.func 122), #[.tmp 4], #[110]⟩, 22, none⟩, ⟨some 3, .assign (.tmp 5), 22, none⟩] := vR rfl
@[push_cast] theorem vr87_2 : VR r87_2 [⟨some 6, .move (.tmp 3), 22, none⟩, ⟨some 7, .call ⟨.value (.func 123), #[.tmp 6], #[22]⟩, 0, none⟩] := vR rfl
@[push_cast] theorem vr87_3 : VR r87_3 [⟨some 8, .move (.tmp 3), 22, none⟩, ⟨some 2, .assign (.tmp 8), 22, none⟩] := vR rfl
/-! 88 slices.Values[[]string,string] (params #[22], results #[(.tmp 2)], 4 slots) -/
def r88_0 : List VOp :=
  [⟨some 1, .box 22 (.tmp 0), 0, none⟩,
   ⟨some 2, .assign (.const .nilFunc), 110, none⟩]
def r88_1 : List VOp :=
  [⟨some 3, .makeFunc (Fn.func 124) #[] #[(.tmp 1)], 109, none⟩,
   asg 2 3 110]
def B88 : VC :=
  (.seq (.region r88_0) (.seq (.region r88_1) .ret))
theorem code88 : ∃ c, Tryz.f88.body = some c ∧ abs Tryz.f88.ntmps c = B88 := ⟨_, rfl, by kernel_rfl⟩
theorem hb88 : HasBody Tryz.prog 88 := hasBody_of Tryz.func88 (by kernel_rfl)
theorem res88 : Tryz.f88.results = #[(.tmp 2)] := rfl
theorem enter88 {w : World} {R : Value → World → Prop} (x0 : Value) (h : vc Tryz.prog B88 (retK Tryz.prog #[(.tmp 2)] R) [] (initEnv [x0] 0) w) : FnC Tryz.prog 88 #[x0] w R := by
  obtain ⟨c, h1, h2⟩ := code88
  exact hb88.fn (ret_of_vc mixed Tryz.func88 h1 (Nat.le_of_ble_eq_true rfl) B88 h2 h)
@[push_cast] theorem vr88_0 : VR r88_0 [⟨some 1, .box 22 (.tmp 0), 0, none⟩, ⟨some 2, .assign (.const .nilFunc), 110, none⟩] := vR rfl
@[push_cast] theorem vr88_1 : VR r88_1 [⟨some 3, .makeFunc (Fn.func 124) #[] #[(.tmp 1)], 109, none⟩, ⟨some 2, .assign (.tmp 3), 110, none⟩] := vR rfl
/-! 91 columbary/typer.typed$1 (params #[29], results #[(.tmp 2)], 7 slots) -/
def r91_0 : List VOp :=
  [⟨some 1, .box 29 (.tmp 0), 0, none⟩,
   ⟨some 2, .assign (.const (.bool false)), 4, none⟩]
def r91_1 : List VOp :=
  [fad 3 29 1 2,
   lda 4 9 3,
   ⟨some 5, .call ⟨.value (.func 92), #[.tmp 4], #[9]⟩, 4, none⟩,
   ⟨some 6, .unOp .not 4 (.tmp 5), 4, none⟩,
   asg 2 6 4]
def B91 : VC :=
  (.seq (.region r91_0) (.seq (.region r91_1) .ret))
theorem code91 : ∃ c, Tryz.f91.body = some c ∧ abs Tryz.f91.ntmps c = B91 := ⟨_, rfl, by kernel_rfl⟩
theorem hb91 : HasBody Tryz.prog 91 := hasBody_of Tryz.func91 (by kernel_rfl)
theorem res91 : Tryz.f91.results = #[(.tmp 2)] := rfl
theorem enter91 {w : World} {R : Value → World → Prop} (x0 : Value) (h : vc Tryz.prog B91 (retK Tryz.prog #[(.tmp 2)] R) [] (initEnv [x0] 0) w) : FnC Tryz.prog 91 #[x0] w R := by
  obtain ⟨c, h1, h2⟩ := code91
  exact hb91.fn (ret_of_vc mixed Tryz.func91 h1 (Nat.le_of_ble_eq_true rfl) B91 h2 h)
@[push_cast] theorem vr91_0 : VR r91_0 [⟨some 1, .box 29 (.tmp 0), 0, none⟩, ⟨some 2, .assign (.const (.bool false)), 4, none⟩] := vR rfl
@[push_cast] theorem vr91_1 : VR r91_1 [⟨some 3, .fieldAddr 29 (.tmp 1) 2, 0, none⟩, ⟨some 4, .load 9 (.tmp 3), 9, none⟩, ⟨some 5, .call ⟨.value (.func 92), #[.tmp 4], #[9]⟩, 4, none⟩, ⟨some 6, .unOp .not 4 (.tmp 5), 4, none⟩, ⟨some 2, .assign (.tmp 6), 4, none⟩] := vR rfl
/-! 92 columbary/schema.Value (params #[9], results #[(.tmp 2)], 16 slots) -/
def r92_0 : List VOp :=
  [⟨some 2, .assign (.const (.bool false)), 4, none⟩]
def r92_1 : List VOp :=
  [mv 3 0 9,
   ⟨some 4, .call ⟨.builtin .len, #[.tmp 3], #[9]⟩, 3, none⟩,
   ⟨some 5, .binOp .leq 3 (.tmp 4) (.const (.int .i64 24)) 3, 4, none⟩,
   mv 6 5 4,
   ⟨some 7, .move (.tmp 0), 9, some (6, true)⟩,
   ⟨some 8, .call { callee := (.value (.func 126)), args := #[(.tmp 7), (.const (.string { data := #[34, 92] }))], argTypes := #[9, 9] }, 4, some (6, true)⟩,
   ⟨some 9, .unOp .not 4 (.tmp 8), 4, some (6, true)⟩,
   ⟨some 10, .pick (.tmp 6) (.tmp 9) (.const (.bool false)), 4, none⟩,
   mv 11 10 4,
   ⟨some 12, .move (.tmp 0), 9, some (11, true)⟩,
   ⟨some 13, .call ⟨.value (.func 127), #[(.tmp 12), (.func 128)], #[9, 139]⟩, 4, some (11, true)⟩,
   ⟨some 14, .unOp .not 4 (.tmp 13), 4, some (11, true)⟩,
   ⟨some 15, .pick (.tmp 11) (.tmp 14) (.const (.bool false)), 4, none⟩,
   asg 2 15 4]
def B92 : VC :=
  (.seq (.region r92_0) (.seq (.region r92_1) .ret))
theorem code92 : ∃ c, Tryz.f92.body = some c ∧ abs Tryz.f92.ntmps c = B92 := ⟨_, rfl, by kernel_rfl⟩
theorem hb92 : HasBody Tryz.prog 92 := hasBody_of Tryz.func92 (by kernel_rfl)
theorem res92 : Tryz.f92.results = #[(.tmp 2)] := rfl
theorem enter92 {w : World} {R : Value → World → Prop} (x0 : Value) (h : vc Tryz.prog B92 (retK Tryz.prog #[(.tmp 2)] R) [] (initEnv [x0] 0) w) : FnC Tryz.prog 92 #[x0] w R := by
  obtain ⟨c, h1, h2⟩ := code92
  exact hb92.fn (ret_of_vc mixed Tryz.func92 h1 (Nat.le_of_ble_eq_true rfl) B92 h2 h)
@[push_cast] theorem vr92_0 : VR r92_0 [⟨some 2, .assign (.const (.bool false)), 4, none⟩] := vR rfl
@[push_cast] theorem vr92_1 : VR r92_1 [⟨some 3, .move (.tmp 0), 9, none⟩, ⟨some 4, .call ⟨.builtin .len, #[.tmp 3], #[9]⟩, 3, none⟩, ⟨some 5, .binOp .leq 3 (.tmp 4) (.const (.int .i64 24)) 3, 4, none⟩, ⟨some 6, .move (.tmp 5), 4, none⟩, ⟨some 7, .move (.tmp 0), 9, some (6, true)⟩, ⟨some 8, .call { callee := (.value (.func 126)), args := #[(.tmp 7), (.const (.string { data := #[34, 92] }))], argTypes := #[9, 9] }, 4, some (6, true)⟩, ⟨some 9, .unOp .not 4 (.tmp 8), 4, some (6, true)⟩, ⟨some 10, .pick (.tmp 6) (.tmp 9) (.const (.bool false)), 4, none⟩, ⟨some 11, .move (.tmp 10), 4, none⟩, ⟨some 12, .move (.tmp 0), 9, some (11, true)⟩, ⟨some 13, .call ⟨.value (.func 127), #[(.tmp 12), (.func 128)], #[9, 139]⟩, 4, some (11, true)⟩, ⟨some 14, .unOp .not 4 (.tmp 13), 4, some (11, true)⟩, ⟨some 15, .pick (.tmp 11) (.tmp 14) (.const (.bool false)), 4, none⟩, ⟨some 2, .assign (.tmp 15), 4, none⟩] := vR rfl
/-! 110 slices.IndexFunc[[]columbary/api.Filter,columbary/api.Filter] (params #[27, 91], results #[(.tmp 4)], 19 slots) -/
def W110_0 : List Nat := [4, 5, 8, 9, 10, 11, 12, 13, 14, 15, 16, 17, 18]
@[push_cast] theorem W110_0_def : W110_0 = [4, 5, 8, 9, 10, 11, 12, 13, 14, 15, 16, 17, 18] := mk_eq rfl
def r110_0 : List VOp :=
  [⟨some 4, .assign (.const (.int .i64 0)), 3, none⟩]
def r110_1 : List VOp :=
  [mv 6 0 27,
   ⟨some 7, .call ⟨.builtin .len, #[.tmp 6], #[27]⟩, 3, none⟩,
   ⟨some 8, .move (.const (.int .i64 0)), 3, none⟩]
def r110_2 : List VOp :=
  [⟨some 9, .binOp .lss 3 (.tmp 8) (.tmp 7) 3, 0, none⟩]
def r110_3 : List VOp :=
  [mv 10 8 3,
   asg 5 10 3]
def r110_4 : List VOp :=
  [mv 11 1 91,
   mv 12 0 27,
   mv 13 5 3,
   iad 14 27 12 13,
   lda 15 29 14,
   ⟨some 16, .call ⟨.value (.tmp 11), #[.tmp 15], #[29]⟩, 4, none⟩]
def r110_5 : List VOp :=
  [mv 17 5 3,
   asg 4 17 3]
def r110_6 : List VOp :=
  [⟨some 18, .binOp .add 3 (.tmp 8) (.const (.int .i64 1)) 3, 3, none⟩,
   mv 8 18 3]
def r110_7 : List VOp :=
  [⟨some 4, .assign (.const (.int .i64 (-1))), 3, none⟩]
def B110 : VC :=
  (.seq (.region r110_0) (.seq (.seq (.region r110_1) (.block 0 (.loop (.seq (.region r110_2) (.seq (.cond (.tmp 9) .skip (.exit 0)) (.seq (.block 1 (.seq (.region r110_3) (.seq (.region r110_4) (.cond (.tmp 16) (.seq (.region r110_5) .ret) .skip)))) (.region r110_6))))))) (.seq (.region r110_7) .ret)))
theorem code110 : ∃ c, Tryz.f110.body = some c ∧ abs Tryz.f110.ntmps c = B110 := ⟨_, rfl, by kernel_rfl⟩
theorem hb110 : HasBody Tryz.prog 110 := hasBody_of Tryz.func110 (by kernel_rfl)
theorem res110 : Tryz.f110.results = #[(.tmp 4)] := rfl
theorem enter110 {w : World} {R : Value → World → Prop} (x0 x1 : Value) (h : vc Tryz.prog B110 (retK Tryz.prog #[(.tmp 4)] R) [] (initEnv [x0, x1] 0) w) : FnC Tryz.prog 110 #[x0, x1] w R := by
  obtain ⟨c, h1, h2⟩ := code110
  exact hb110.fn (ret_of_vc mixed Tryz.func110 h1 (Nat.le_of_ble_eq_true rfl) B110 h2 h)
@[push_cast] theorem vr110_0 : VR r110_0 [⟨some 4, .assign (.const (.int .i64 0)), 3, none⟩] := vR rfl
@[push_cast] theorem vr110_1 : VR r110_1 [⟨some 6, .move (.tmp 0), 27, none⟩, ⟨some 7, .call ⟨.builtin .len, #[.tmp 6], #[27]⟩, 3, none⟩, ⟨some 8, .move (.const (.int .i64 0)), 3, none⟩] := vR rfl
@[push_cast] theorem vr110_2 : VR r110_2 [⟨some 9, .binOp .lss 3 (.tmp 8) (.tmp 7) 3, 0, none⟩] := vR rfl
@[push_cast] theorem vr110_3 : VR r110_3 [⟨some 10, .move (.tmp 8), 3, none⟩, ⟨some 5, .assign (.tmp 10), 3, none⟩] := vR rfl
@[push_cast] theorem vr110_4 : VR r110_4 [⟨some 11, .move (.tmp 1), 91, none⟩, ⟨some 12, .move (.tmp 0), 27, none⟩, ⟨some 13, .move (.tmp 5), 3, none⟩, ⟨some 14, .indexAddr 27 (.tmp 12) (.tmp 13), 0, none⟩, ⟨some 15, .load 29 (.tmp 14), 29, none⟩, ⟨some 16, .call ⟨.value (.tmp 11), #[.tmp 15], #[29]⟩, 4, none⟩] := vR rfl
@[push_cast] theorem vr110_5 : VR r110_5 [⟨some 17, .move (.tmp 5), 3, none⟩, ⟨some 4, .assign (.tmp 17), 3, none⟩] := vR rfl
@[push_cast] theorem vr110_6 : VR r110_6 [⟨some 18, .binOp .add 3 (.tmp 8) (.const (.int .i64 1)) 3, 3, none⟩, ⟨some 8, .move (.tmp 18), 3, none⟩] := vR rfl
@[push_cast] theorem vr110_7 : VR r110_7 [⟨some 4, .assign (.const (.int .i64 (-1))), 3, none⟩] := vR rfl
/-! 119 slices.IndexFunc[[]columbary/api.Term,columbary/api.Term] (params #[25, 100], results #[(.tmp 4)], 19 slots) -/
def W119_0 : List Nat := [4, 5, 8, 9, 10, 11, 12, 13, 14, 15, 16, 17, 18]
@[push_cast] theorem W119_0_def : W119_0 = [4, 5, 8, 9, 10, 11, 12, 13, 14, 15, 16, 17, 18] := mk_eq rfl
def r119_0 : List VOp :=
  [⟨some 4, .assign (.const (.int .i64 0)), 3, none⟩]
def r119_1 : List VOp :=
  [mv 6 0 25,
   ⟨some 7, .call ⟨.builtin .len, #[.tmp 6], #[25]⟩, 3, none⟩,
   ⟨some 8, .move (.const (.int .i64 0)), 3, none⟩]
def r119_2 : List VOp :=
  [⟨some 9, .binOp .lss 3 (.tmp 8) (.tmp 7) 3, 0, none⟩]
def r119_3 : List VOp :=
  [mv 10 8 3,
   asg 5 10 3]
def r119_4 : List VOp :=
  [mv 11 1 100,
   mv 12 0 25,
   mv 13 5 3,
   iad 14 25 12 13,
   lda 15 58 14,
   ⟨some 16, .call ⟨.value (.tmp 11), #[.tmp 15], #[58]⟩, 4, none⟩]
def r119_5 : List VOp :=
  [mv 17 5 3,
   asg 4 17 3]
def r119_6 : List VOp :=
  [⟨some 18, .binOp .add 3 (.tmp 8) (.const (.int .i64 1)) 3, 3, none⟩,
   mv 8 18 3]
def r119_7 : List VOp :=
  [⟨some 4, .assign (.const (.int .i64 (-1))), 3, none⟩]
def B119 : VC :=
  (.seq (.region r119_0) (.seq (.seq (.region r119_1) (.block 0 (.loop (.seq (.region r119_2) (.seq (.cond (.tmp 9) .skip (.exit 0)) (.seq (.block 1 (.seq (.region r119_3) (.seq (.region r119_4) (.cond (.tmp 16) (.seq (.region r119_5) .ret) .skip)))) (.region r119_6))))))) (.seq (.region r119_7) .ret)))
theorem code119 : ∃ c, Tryz.f119.body = some c ∧ abs Tryz.f119.ntmps c = B119 := ⟨_, rfl, by kernel_rfl⟩
theorem hb119 : HasBody Tryz.prog 119 := hasBody_of Tryz.func119 (by kernel_rfl)
theorem res119 : Tryz.f119.results = #[(.tmp 4)] := rfl
theorem enter119 {w : World} {R : Value → World → Prop} (x0 x1 : Value) (h : vc Tryz.prog B119 (retK Tryz.prog #[(.tmp 4)] R) [] (initEnv [x0, x1] 0) w) : FnC Tryz.prog 119 #[x0, x1] w R := by
  obtain ⟨c, h1, h2⟩ := code119
  exact hb119.fn (ret_of_vc mixed Tryz.func119 h1 (Nat.le_of_ble_eq_true rfl) B119 h2 h)
@[push_cast] theorem vr119_0 : VR r119_0 [⟨some 4, .assign (.const (.int .i64 0)), 3, none⟩] := vR rfl
@[push_cast] theorem vr119_1 : VR r119_1 [⟨some 6, .move (.tmp 0), 25, none⟩, ⟨some 7, .call ⟨.builtin .len, #[.tmp 6], #[25]⟩, 3, none⟩, ⟨some 8, .move (.const (.int .i64 0)), 3, none⟩] := vR rfl
@[push_cast] theorem vr119_2 : VR r119_2 [⟨some 9, .binOp .lss 3 (.tmp 8) (.tmp 7) 3, 0, none⟩] := vR rfl
@[push_cast] theorem vr119_3 : VR r119_3 [⟨some 10, .move (.tmp 8), 3, none⟩, ⟨some 5, .assign (.tmp 10), 3, none⟩] := vR rfl
@[push_cast] theorem vr119_4 : VR r119_4 [⟨some 11, .move (.tmp 1), 100, none⟩, ⟨some 12, .move (.tmp 0), 25, none⟩, ⟨some 13, .move (.tmp 5), 3, none⟩, ⟨some 14, .indexAddr 25 (.tmp 12) (.tmp 13), 0, none⟩, ⟨some 15, .load 58 (.tmp 14), 58, none⟩, ⟨some 16, .call ⟨.value (.tmp 11), #[.tmp 15], #[58]⟩, 4, none⟩] := vR rfl
@[push_cast] theorem vr119_5 : VR r119_5 [⟨some 17, .move (.tmp 5), 3, none⟩, ⟨some 4, .assign (.tmp 17), 3, none⟩] := vR rfl
@[push_cast] theorem vr119_6 : VR r119_6 [⟨some 18, .binOp .add 3 (.tmp 8) (.const (.int .i64 1)) 3, 3, none⟩, ⟨some 8, .move (.tmp 18), 3, none⟩] := vR rfl
@[push_cast] theorem vr119_7 : VR r119_7 [⟨some 4, .assign (.const (.int .i64 (-1))), 3, none⟩] := vR rfl
/-! 120 slices.IndexFunc[[]columbary/api.Having,columbary/api.Having] (params #[30, 104], results #[(.tmp 4)], 19 slots) -/
def W120_0 : List Nat := [4, 5, 8, 9, 10, 11, 12, 13, 14, 15, 16, 17, 18]
@[push_cast] theorem W120_0_def : W120_0 = [4, 5, 8, 9, 10, 11, 12, 13, 14, 15, 16, 17, 18] := mk_eq rfl
def r120_0 : List VOp :=
  [⟨some 4, .assign (.const (.int .i64 0)), 3, none⟩]
def r120_1 : List VOp :=
  [mv 6 0 30,
   ⟨some 7, .call ⟨.builtin .len, #[.tmp 6], #[30]⟩, 3, none⟩,
   ⟨some 8, .move (.const (.int .i64 0)), 3, none⟩]
def r120_2 : List VOp :=
  [⟨some 9, .binOp .lss 3 (.tmp 8) (.tmp 7) 3, 0, none⟩]
def r120_3 : List VOp :=
  [mv 10 8 3,
   asg 5 10 3]
def r120_4 : List VOp :=
  [mv 11 1 104,
   mv 12 0 30,
   mv 13 5 3,
   iad 14 30 12 13,
   lda 15 103 14,
   ⟨some 16, .call ⟨.value (.tmp 11), #[.tmp 15], #[103]⟩, 4, none⟩]
def r120_5 : List VOp :=
  [mv 17 5 3,
   asg 4 17 3]
def r120_6 : List VOp :=
  [⟨some 18, .binOp .add 3 (.tmp 8) (.const (.int .i64 1)) 3, 3, none⟩,
   mv 8 18 3]
def r120_7 : List VOp :=
  [⟨some 4, .assign (.const (.int .i64 (-1))), 3, none⟩]
def B120 : VC :=
  (.seq (.region r120_0) (.seq (.seq (.region r120_1) (.block 0 (.loop (.seq (.region r120_2) (.seq (.cond (.tmp 9) .skip (.exit 0)) (.seq (.block 1 (.seq (.region r120_3) (.seq (.region r120_4) (.cond (.tmp 16) (.seq (.region r120_5) .ret) .skip)))) (.region r120_6))))))) (.seq (.region r120_7) .ret)))
theorem code120 : ∃ c, Tryz.f120.body = some c ∧ abs Tryz.f120.ntmps c = B120 := ⟨_, rfl, by kernel_rfl⟩
theorem hb120 : HasBody Tryz.prog 120 := hasBody_of Tryz.func120 (by kernel_rfl)
theorem res120 : Tryz.f120.results = #[(.tmp 4)] := rfl
theorem enter120 {w : World} {R : Value → World → Prop} (x0 x1 : Value) (h : vc Tryz.prog B120 (retK Tryz.prog #[(.tmp 4)] R) [] (initEnv [x0, x1] 0) w) : FnC Tryz.prog 120 #[x0, x1] w R := by
  obtain ⟨c, h1, h2⟩ := code120
  exact hb120.fn (ret_of_vc mixed Tryz.func120 h1 (Nat.le_of_ble_eq_true rfl) B120 h2 h)
@[push_cast] theorem vr120_0 : VR r120_0 [⟨some 4, .assign (.const (.int .i64 0)), 3, none⟩] := vR rfl
@[push_cast] theorem vr120_1 : VR r120_1 [⟨some 6, .move (.tmp 0), 30, none⟩, ⟨some 7, .call ⟨.builtin .len, #[.tmp 6], #[30]⟩, 3, none⟩, ⟨some 8, .move (.const (.int .i64 0)), 3, none⟩] := vR rfl
@[push_cast] theorem vr120_2 : VR r120_2 [⟨some 9, .binOp .lss 3 (.tmp 8) (.tmp 7) 3, 0, none⟩] := vR rfl
@[push_cast] theorem vr120_3 : VR r120_3 [⟨some 10, .move (.tmp 8), 3, none⟩, ⟨some 5, .assign (.tmp 10), 3, none⟩] := vR rfl
@[push_cast] theorem vr120_4 : VR r120_4 [⟨some 11, .move (.tmp 1), 104, none⟩, ⟨some 12, .move (.tmp 0), 30, none⟩, ⟨some 13, .move (.tmp 5), 3, none⟩, ⟨some 14, .indexAddr 30 (.tmp 12) (.tmp 13), 0, none⟩, ⟨some 15, .load 103 (.tmp 14), 103, none⟩, ⟨some 16, .call ⟨.value (.tmp 11), #[.tmp 15], #[103]⟩, 4, none⟩] := vR rfl
@[push_cast] theorem vr120_5 : VR r120_5 [⟨some 17, .move (.tmp 5), 3, none⟩, ⟨some 4, .assign (.tmp 17), 3, none⟩] := vR rfl
@[push_cast] theorem vr120_6 : VR r120_6 [⟨some 18, .binOp .add 3 (.tmp 8) (.const (.int .i64 1)) 3, 3, none⟩, ⟨some 8, .move (.tmp 18), 3, none⟩] := vR rfl
@[push_cast] theorem vr120_7 : VR r120_7 [⟨some 4, .assign (.const (.int .i64 (-1))), 3, none⟩] := vR rfl
/-! 121 columbary/typer.formed$1 (params #[29], results #[(.tmp 3)], 9 slots) -/
def r121_0 : List VOp :=
  [⟨some 2, .box 29 (.tmp 0), 0, none⟩,
   ⟨some 3, .assign (.const (.bool false)), 4, none⟩]
def r121_1 : List VOp :=
  [lda 4 29 2,
   lda 5 3 1,
   ⟨some 6, .binOp .sub 3 (.tmp 5) (.const (.int .i64 1)) 3, 3, none⟩,
   ⟨some 7, .call ⟨.value (.func 82), #[.tmp 4, .tmp 6], #[29, 3]⟩, 4, none⟩,
   ⟨some 8, .unOp .not 4 (.tmp 7), 4, none⟩,
   asg 3 8 4]
def B121 : VC :=
  (.seq (.region r121_0) (.seq (.region r121_1) .ret))
theorem code121 : ∃ c, Tryz.f121.body = some c ∧ abs Tryz.f121.ntmps c = B121 := ⟨_, rfl, by kernel_rfl⟩
theorem hb121 : HasBody Tryz.prog 121 := hasBody_of Tryz.func121 (by kernel_rfl)
theorem res121 : Tryz.f121.results = #[(.tmp 3)] := rfl
theorem enter121 {w : World} {R : Value → World → Prop} (x0 x1 : Value) (h : vc Tryz.prog B121 (retK Tryz.prog #[(.tmp 3)] R) [] (initEnv [x0, x1] 0) w) : FnC Tryz.prog 121 #[x0, x1] w R := by
  obtain ⟨c, h1, h2⟩ := code121
  exact hb121.fn (ret_of_vc mixed Tryz.func121 h1 (Nat.le_of_ble_eq_true rfl) B121 h2 h)
@[push_cast] theorem vr121_0 : VR r121_0 [⟨some 2, .box 29 (.tmp 0), 0, none⟩, ⟨some 3, .assign (.const (.bool false)), 4, none⟩] := vR rfl
@[push_cast] theorem vr121_1 : VR r121_1 [⟨some 4, .load 29 (.tmp 2), 29, none⟩, ⟨some 5, .load 3 (.tmp 1), 3, none⟩, ⟨some 6, .binOp .sub 3 (.tmp 5) (.const (.int .i64 1)) 3, 3, none⟩, ⟨some 7, .call ⟨.value (.func 82), #[.tmp 4, .tmp 6], #[29, 3]⟩, 4, none⟩, ⟨some 8, .unOp .not 4 (.tmp 7), 4, none⟩, ⟨some 3, .assign (.tmp 8), 4, none⟩] := vR rfl
/-! 122 slices.Collect[string] (params #[110], results #[(.tmp 2)], 5 slots) -/
def r122_0 : List VOp :=
  [⟨some 2, .assign (.const (.slice none 0 0)), 22, none⟩]
def r122_1 : List VOp :=
  [mv 3 0 110,
   ⟨some 4, .call ⟨.value (.func 142), #[(.const (.slice none 0 0)), .tmp 3], #[22, 110]⟩, 22, none⟩,
   asg 2 4 22]
def B122 : VC :=
  (.seq (.region r122_0) (.seq (.region r122_1) .ret))
theorem code122 : ∃ c, Tryz.f122.body = some c ∧ abs Tryz.f122.ntmps c = B122 := ⟨_, rfl, by kernel_rfl⟩
theorem hb122 : HasBody Tryz.prog 122 := hasBody_of Tryz.func122 (by kernel_rfl)
theorem res122 : Tryz.f122.results = #[(.tmp 2)] := rfl
theorem enter122 {w : World} {R : Value → World → Prop} (x0 : Value) (h : vc Tryz.prog B122 (retK Tryz.prog #[(.tmp 2)] R) [] (initEnv [x0] 0) w) : FnC Tryz.prog 122 #[x0] w R := by
  obtain ⟨c, h1, h2⟩ := code122
  exact hb122.fn (ret_of_vc mixed Tryz.func122 h1 (Nat.le_of_ble_eq_true rfl) B122 h2 h)
@[push_cast] theorem vr122_0 : VR r122_0 [⟨some 2, .assign (.const (.slice none 0 0)), 22, none⟩] := vR rfl
@[push_cast] theorem vr122_1 : VR r122_1 [⟨some 3, .move (.tmp 0), 110, none⟩, ⟨some 4, .call ⟨.value (.func 142), #[(.const (.slice none 0 0)), .tmp 3], #[22, 110]⟩, 22, none⟩, ⟨some 2, .assign (.tmp 4), 22, none⟩] := vR rfl
/-! 124 slices.Values[[]string,string]$1 (params #[80], results #[], 16 slots) -/
def W124_0 : List Nat := [4, 7, 8, 9, 10, 11, 12, 13, 14, 15]
@[push_cast] theorem W124_0_def : W124_0 = [4, 7, 8, 9, 10, 11, 12, 13, 14, 15] := mk_eq rfl
def r124_0 : List VOp :=
  [lda 5 22 1,
   ⟨some 6, .call ⟨.builtin .len, #[.tmp 5], #[22]⟩, 3, none⟩,
   ⟨some 7, .move (.const (.int .i64 0)), 3, none⟩]
def r124_1 : List VOp :=
  [⟨some 8, .binOp .lss 3 (.tmp 7) (.tmp 6) 3, 0, none⟩]
def r124_2 : List VOp :=
  [iad 9 22 5 7,
   lda 10 9 9,
   asg 4 10 9]
def r124_3 : List VOp :=
  [mv 11 0 80,
   mv 12 4 9,
   ⟨some 13, .call ⟨.value (.tmp 11), #[.tmp 12], #[9]⟩, 4, none⟩,
   ⟨some 14, .unOp .not 4 (.tmp 13), 4, none⟩]
def r124_4 : List VOp :=
  [⟨some 15, .binOp .add 3 (.tmp 7) (.const (.int .i64 1)) 3, 3, none⟩,
   mv 7 15 3]
def B124 : VC :=
  (.seq (.region r124_0) (.block 0 (.loop (.seq (.region r124_1) (.seq (.cond (.tmp 8) .skip (.exit 0)) (.seq (.block 1 (.seq (.region r124_2) (.seq (.region r124_3) (.cond (.tmp 14) .ret .skip)))) (.region r124_4)))))))
theorem code124 : ∃ c, Tryz.f124.body = some c ∧ abs Tryz.f124.ntmps c = B124 := ⟨_, rfl, by kernel_rfl⟩
theorem hb124 : HasBody Tryz.prog 124 := hasBody_of Tryz.func124 (by kernel_rfl)
theorem res124 : Tryz.f124.results = #[] := rfl
theorem enter124 {w : World} {R : Value → World → Prop} (x0 x1 : Value) (h : vc Tryz.prog B124 (retK Tryz.prog #[] R) [] (initEnv [x0, x1] 0) w) : FnC Tryz.prog 124 #[x0, x1] w R := by
  obtain ⟨c, h1, h2⟩ := code124
  exact hb124.fn (ret_of_vc mixed Tryz.func124 h1 (Nat.le_of_ble_eq_true rfl) B124 h2 h)
@[push_cast] theorem vr124_0 : VR r124_0 [⟨some 5, .load 22 (.tmp 1), 22, none⟩, ⟨some 6, .call ⟨.builtin .len, #[.tmp 5], #[22]⟩, 3, none⟩, ⟨some 7, .move (.const (.int .i64 0)), 3, none⟩] := vR rfl
@[push_cast] theorem vr124_1 : VR r124_1 [⟨some 8, .binOp .lss 3 (.tmp 7) (.tmp 6) 3, 0, none⟩] := vR rfl
@[push_cast] theorem vr124_2 : VR r124_2 [⟨some 9, .indexAddr 22 (.tmp 5) (.tmp 7), 0, none⟩, ⟨some 10, .load 9 (.tmp 9), 9, none⟩, ⟨some 4, .assign (.tmp 10), 9, none⟩] := vR rfl
@[push_cast] theorem vr124_3 : VR r124_3 [⟨some 11, .move (.tmp 0), 80, none⟩, ⟨some 12, .move (.tmp 4), 9, none⟩, ⟨some 13, .call ⟨.value (.tmp 11), #[.tmp 12], #[9]⟩, 4, none⟩, ⟨some 14, .unOp .not 4 (.tmp 13), 4, none⟩] := vR rfl
@[push_cast] theorem vr124_4 : VR r124_4 [⟨some 15, .binOp .add 3 (.tmp 7) (.const (.int .i64 1)) 3, 3, none⟩, ⟨some 7, .move (.tmp 15), 3, none⟩] := vR rfl
/-! 128 columbary/schema.Value$1 (params #[21], results #[(.tmp 2)], 9 slots) -/
def r128_0 : List VOp :=
  [⟨some 2, .assign (.const (.bool false)), 4, none⟩]
def r128_1 : List VOp :=
  [mv 3 0 21,
   ⟨some 4, .binOp .lss 21 (.tmp 3) (.const (.int .i32 32)) 21, 4, none⟩,
   mv 5 4 4,
   ⟨some 6, .move (.tmp 0), 21, some (5, false)⟩,
   ⟨some 7, .binOp .gtr 21 (.tmp 6) (.const (.int .i32 126)) 21, 4, some (5, false)⟩,
   ⟨some 8, .pick (.tmp 5) (.const (.bool true)) (.tmp 7), 4, none⟩,
   asg 2 8 4]
def B128 : VC :=
  (.seq (.region r128_0) (.seq (.region r128_1) .ret))
theorem code128 : ∃ c, Tryz.f128.body = some c ∧ abs Tryz.f128.ntmps c = B128 := ⟨_, rfl, by kernel_rfl⟩
theorem hb128 : HasBody Tryz.prog 128 := hasBody_of Tryz.func128 (by kernel_rfl)
theorem res128 : Tryz.f128.results = #[(.tmp 2)] := rfl
theorem enter128 {w : World} {R : Value → World → Prop} (x0 : Value) (h : vc Tryz.prog B128 (retK Tryz.prog #[(.tmp 2)] R) [] (initEnv [x0] 0) w) : FnC Tryz.prog 128 #[x0] w R := by
  obtain ⟨c, h1, h2⟩ := code128
  exact hb128.fn (ret_of_vc mixed Tryz.func128 h1 (Nat.le_of_ble_eq_true rfl) B128 h2 h)
@[push_cast] theorem vr128_0 : VR r128_0 [⟨some 2, .assign (.const (.bool false)), 4, none⟩] := vR rfl
@[push_cast] theorem vr128_1 : VR r128_1 [⟨some 3, .move (.tmp 0), 21, none⟩, ⟨some 4, .binOp .lss 21 (.tmp 3) (.const (.int .i32 32)) 21, 4, none⟩, ⟨some 5, .move (.tmp 4), 4, none⟩, ⟨some 6, .move (.tmp 0), 21, some (5, false)⟩, ⟨some 7, .binOp .gtr 21 (.tmp 6) (.const (.int .i32 126)) 21, 4, some (5, false)⟩, ⟨some 8, .pick (.tmp 5) (.const (.bool true)) (.tmp 7), 4, none⟩, ⟨some 2, .assign (.tmp 8), 4, none⟩] := vR rfl
/-! 142 slices.AppendSeq[[]string,string] (params #[22, 110], results #[(.tmp 4)], 13 slots) -/
def r142_0 : List VOp :=
  [⟨some 2, .box 22 (.tmp 0), 0, none⟩,
   ⟨some 4, .assign (.const (.slice none 0 0)), 22, none⟩]
def r142_1 : List VOp :=
  [mv 6 1 110]
def r142_2 : List VOp :=
  [asg 5 7 9]
def r142_3 : List VOp :=
  [lda 8 22 2,
   mv 9 5 9,
   ⟨some 10, .buildSlice 22 1 #[(0, (.tmp 9))], 22, none⟩,
   ⟨some 11, .call ⟨.builtin .append, #[.tmp 8, .tmp 10], #[22, 22]⟩, 22, none⟩,
   ⟨none, .store 22 (.tmp 2) (.tmp 11), 0, none⟩]
def r142_4 : List VOp :=
  [lda 12 22 2,
   asg 4 12 22]
def B142 : VC :=
  (.seq (.region r142_0) (.seq (.seq (.region r142_1) (.block 0 (.rangeFunc (.tmp 6) [7] (.region r142_2) (.block 1 (.region r142_3))))) (.seq (.region r142_4) .ret)))
theorem code142 : ∃ c, Tryz.f142.body = some c ∧ abs Tryz.f142.ntmps c = B142 := ⟨_, rfl, by kernel_rfl⟩
theorem hb142 : HasBody Tryz.prog 142 := hasBody_of Tryz.func142 (by kernel_rfl)
theorem res142 : Tryz.f142.results = #[(.tmp 4)] := rfl
theorem enter142 {w : World} {R : Value → World → Prop} (x0 x1 : Value) (h : vc Tryz.prog B142 (retK Tryz.prog #[(.tmp 4)] R) [] (initEnv [x0, x1] 0) w) : FnC Tryz.prog 142 #[x0, x1] w R := by
  obtain ⟨c, h1, h2⟩ := code142
  exact hb142.fn (ret_of_vc mixed Tryz.func142 h1 (Nat.le_of_ble_eq_true rfl) B142 h2 h)
@[push_cast] theorem vr142_0 : VR r142_0 [⟨some 2, .box 22 (.tmp 0), 0, none⟩, ⟨some 4, .assign (.const (.slice none 0 0)), 22, none⟩] := vR rfl
@[push_cast] theorem vr142_1 : VR r142_1 [⟨some 6, .move (.tmp 1), 110, none⟩] := vR rfl
@[push_cast] theorem vr142_2 : VR r142_2 [⟨some 5, .assign (.tmp 7), 9, none⟩] := vR rfl
@[push_cast] theorem vr142_3 : VR r142_3 [⟨some 8, .load 22 (.tmp 2), 22, none⟩, ⟨some 9, .move (.tmp 5), 9, none⟩, ⟨some 10, .buildSlice 22 1 #[(0, (.tmp 9))], 22, none⟩, ⟨some 11, .call ⟨.builtin .append, #[.tmp 8, .tmp 10], #[22, 22]⟩, 22, none⟩, ⟨none, .store 22 (.tmp 2) (.tmp 11), 0, none⟩] := vR rfl
@[push_cast] theorem vr142_4 : VR r142_4 [⟨some 12, .load 22 (.tmp 2), 22, none⟩, ⟨some 4, .assign (.tmp 12), 22, none⟩] := vR rfl
@[push_cast] theorem bsl22_1_Codes7T {K : Value → World → Prop} {w : World} (x0 : ByteArray) : vBuildSlice Tryz.prog 22 1 #[(0, (.string x0))] K w = K (.slice (some ⟨w.heap.size, 0, none⟩) 1 1) (w.alloc (.cells #[(.string x0)] 9)) :=
  vBuildSlice_ok Tryz.underlying22 ti9 (by kernel_rfl) (by decide)
@[push_cast] theorem bsl22_2_Codes7T {K : Value → World → Prop} {w : World} (x0 : ByteArray) (x1 : ByteArray) : vBuildSlice Tryz.prog 22 2 #[(0, (.string x0)), (1, (.string x1))] K w = K (.slice (some ⟨w.heap.size, 0, none⟩) 2 2) (w.alloc (.cells #[(.string x0), (.string x1)] 9)) :=
  vBuildSlice_ok Tryz.underlying22 ti9 (by kernel_rfl) (by decide)
@[push_cast] theorem bsl22_3_Codes7T {K : Value → World → Prop} {w : World} (x0 : ByteArray) (x1 : ByteArray) (x2 : ByteArray) : vBuildSlice Tryz.prog 22 3 #[(0, (.string x0)), (1, (.string x1)), (2, (.string x2))] K w = K (.slice (some ⟨w.heap.size, 0, none⟩) 3 3) (w.alloc (.cells #[(.string x0), (.string x1), (.string x2)] 9)) :=
  vBuildSlice_ok Tryz.underlying22 ti9 (by kernel_rfl) (by decide)
@[push_cast] theorem bsl25_0_Codes7T {K : Value → World → Prop} {w : World}  : vBuildSlice Tryz.prog 25 0 #[] K w = K (.slice (some ⟨w.heap.size, 0, none⟩) 0 0) (w.alloc (.cells #[] 58)) :=
  vBuildSlice_ok Tryz.underlying25 ti58 (by kernel_rfl) (by decide)
@[push_cast] theorem bsl25_1_Codes7T {K : Value → World → Prop} {w : World} (x00 x01 : Value) : vBuildSlice Tryz.prog 25 1 #[(0, (.agg #[x00, x01]))] K w = K (.slice (some ⟨w.heap.size, 0, none⟩) 1 1) (w.alloc (.cells #[x00, x01] 58)) :=
  vBuildSlice_ok Tryz.underlying25 ti58 (by kernel_rfl) (by decide)
@[push_cast] theorem bld24_0_1_Codes7T {K : Value → World → Prop} {w : World} (x0o : Option Addr) (x0n x0c : Nat) (x1o : Option Addr) (x1n x1c : Nat) : vBuild Tryz.prog 24 #[(0, (.slice x0o x0n x0c)), (1, (.slice x1o x1n x1c))] K w = K (.agg #[(.slice x0o x0n x0c), (.slice x1o x1n x1c)]) w :=
  vBuild_ok (by kernel_rfl)
@[push_cast] theorem bld29_0_1_2_Codes7T {K : Value → World → Prop} {w : World} (x0 : Int) (x1 : ByteArray) (x2 : ByteArray) : vBuild Tryz.prog 29 #[(0, (.int .i64 x0)), (1, (.string x1)), (2, (.string x2))] K w = K (.agg #[(.int .i64 x0), (.string x1), (.string x2), (.slice none 0 0)]) w :=
  vBuild_ok (by kernel_rfl)
@[push_cast] theorem bld32_0_2_3_4_5_Codes7T {K : Value → World → Prop} {w : World} (x0o : Option Addr) (x0n x0c : Nat) (x2 : Int) (x3 : Int) (x4o : Option Addr) (x4n x4c : Nat) (x50 x51 x52 x53 : Value) : vBuild Tryz.prog 32 #[(0, (.slice x0o x0n x0c)), (2, (.int .i64 x2)), (3, (.int .i64 x3)), (4, (.slice x4o x4n x4c)), (5, (.agg #[x50, x51, x52, x53]))] K w = K (.agg #[(.slice x0o x0n x0c), (.int .i64 0), (.int .i64 x2), (.int .i64 x3), (.slice x4o x4n x4c), x50, x51, x52, x53, (.slice none 0 0), (.int .i64 0), (.int .i64 0)]) w :=
  vBuild_ok (by kernel_rfl)
@[push_cast] theorem bld58_0_1_Codes7T {K : Value → World → Prop} {w : World} (x0 : Int) (x1 : ByteArray) : vBuild Tryz.prog 58 #[(0, (.int .i64 x0)), (1, (.string x1))] K w = K (.agg #[(.int .i64 x0), (.string x1)]) w :=
  vBuild_ok (by kernel_rfl)
end Go.Proofs.YtnofalhkapmcnaaGreat
end
