/- What the generator asks of the types' table. Written by a program (codes.py). -/
import Derived.Test.YtnofalhkapmcnaaChecked
import Derived.Test.YtnofalhkapmcnaaPartC
set_option linter.all false
section
namespace Go.Proofs.Ytnofalhkapmcnaa
open Go.Vc
theorem mixed : Try.prog.follows .mixedOrders = true := by kernel_rfl
@[push_cast] theorem sz1 : szOf Try.prog 1 = some 1 := by kernel_rfl
theorem ti1 : (Try.prog.info? 1).map (fun i => (i.zero, i.size, i.bytes)) = some (some .nilFunc, 1, 8) := by kernel_rfl
@[push_cast] theorem al1 (K : Value → World → Prop) (w : World) : vAlloc Try.prog 1 K w = K (.pointer (some ⟨w.heap.size, 0, none⟩)) (w.alloc (.cells #[.nilFunc] 1)) := vAlloc_ok ti1 K w
@[push_cast] theorem one1 : oneD (Try.prog.underlying 1) = true := by kernel_rfl
@[push_cast] theorem sz2 : szOf Try.prog 2 = some 1 := by kernel_rfl
theorem ti2 : (Try.prog.info? 2).map (fun i => (i.zero, i.size, i.bytes)) = some (some (.int .i64 0), 1, 8) := by kernel_rfl
@[push_cast] theorem al2 (K : Value → World → Prop) (w : World) : vAlloc Try.prog 2 K w = K (.pointer (some ⟨w.heap.size, 0, none⟩)) (w.alloc (.cells #[(.int .i64 0)] 2)) := vAlloc_ok ti2 K w
attribute [push_cast] Try.underlying2
@[push_cast] theorem sz3 : szOf Try.prog 3 = some 1 := by kernel_rfl
theorem ti3 : (Try.prog.info? 3).map (fun i => (i.zero, i.size, i.bytes)) = some (some (.int .i64 0), 1, 8) := by kernel_rfl
@[push_cast] theorem al3 (K : Value → World → Prop) (w : World) : vAlloc Try.prog 3 K w = K (.pointer (some ⟨w.heap.size, 0, none⟩)) (w.alloc (.cells #[(.int .i64 0)] 3)) := vAlloc_ok ti3 K w
attribute [push_cast] Try.underlying3
@[push_cast] theorem sz4 : szOf Try.prog 4 = some 1 := by kernel_rfl
theorem ti4 : (Try.prog.info? 4).map (fun i => (i.zero, i.size, i.bytes)) = some (some (.bool false), 1, 1) := by kernel_rfl
@[push_cast] theorem al4 (K : Value → World → Prop) (w : World) : vAlloc Try.prog 4 K w = K (.pointer (some ⟨w.heap.size, 0, none⟩)) (w.alloc (.cells #[(.bool false)] 4)) := vAlloc_ok ti4 K w
attribute [push_cast] Try.underlying4
@[push_cast] theorem sz5 : szOf Try.prog 5 = some 1 := by kernel_rfl
theorem ti5 : (Try.prog.info? 5).map (fun i => (i.zero, i.size, i.bytes)) = some (some (.int .u8 0), 1, 1) := by kernel_rfl
@[push_cast] theorem al5 (K : Value → World → Prop) (w : World) : vAlloc Try.prog 5 K w = K (.pointer (some ⟨w.heap.size, 0, none⟩)) (w.alloc (.cells #[(.int .u8 0)] 5)) := vAlloc_ok ti5 K w
attribute [push_cast] Try.underlying5
@[push_cast] theorem sz9 : szOf Try.prog 9 = some 1 := by kernel_rfl
theorem ti9 : (Try.prog.info? 9).map (fun i => (i.zero, i.size, i.bytes)) = some (some (.string ⟨#[]⟩), 1, 16) := by kernel_rfl
@[push_cast] theorem al9 (K : Value → World → Prop) (w : World) : vAlloc Try.prog 9 K w = K (.pointer (some ⟨w.heap.size, 0, none⟩)) (w.alloc (.cells #[(.string ⟨#[]⟩)] 9)) := vAlloc_ok ti9 K w
attribute [push_cast] Try.underlying9
@[push_cast] theorem sz20 : szOf Try.prog 20 = some 1 := by kernel_rfl
theorem ti20 : (Try.prog.info? 20).map (fun i => (i.zero, i.size, i.bytes)) = some (some .nilIface, 1, 16) := by kernel_rfl
@[push_cast] theorem al20 (K : Value → World → Prop) (w : World) : vAlloc Try.prog 20 K w = K (.pointer (some ⟨w.heap.size, 0, none⟩)) (w.alloc (.cells #[.nilIface] 20)) := vAlloc_ok ti20 K w
@[push_cast] theorem one20 : oneD (Try.prog.underlying 20) = true := by kernel_rfl
@[push_cast] theorem sz21 : szOf Try.prog 21 = some 1 := by kernel_rfl
theorem ti21 : (Try.prog.info? 21).map (fun i => (i.zero, i.size, i.bytes)) = some (some (.int .i32 0), 1, 4) := by kernel_rfl
@[push_cast] theorem al21 (K : Value → World → Prop) (w : World) : vAlloc Try.prog 21 K w = K (.pointer (some ⟨w.heap.size, 0, none⟩)) (w.alloc (.cells #[(.int .i32 0)] 21)) := vAlloc_ok ti21 K w
attribute [push_cast] Try.underlying21
@[push_cast] theorem sz22 : szOf Try.prog 22 = some 1 := by kernel_rfl
theorem ti22 : (Try.prog.info? 22).map (fun i => (i.zero, i.size, i.bytes)) = some (some (.slice none 0 0), 1, 24) := by kernel_rfl
@[push_cast] theorem al22 (K : Value → World → Prop) (w : World) : vAlloc Try.prog 22 K w = K (.pointer (some ⟨w.heap.size, 0, none⟩)) (w.alloc (.cells #[(.slice none 0 0)] 22)) := vAlloc_ok ti22 K w
attribute [push_cast] Try.underlying22
@[push_cast] theorem sz23 : szOf Try.prog 23 = some 2 := by kernel_rfl
theorem ti23 : (Try.prog.info? 23).map (fun i => (i.zero, i.size, i.bytes)) = some (some (.agg #[(.slice none 0 0), (.slice none 0 0)]), 2, 48) := by kernel_rfl
@[push_cast] theorem al23 (K : Value → World → Prop) (w : World) : vAlloc Try.prog 23 K w = K (.pointer (some ⟨w.heap.size, 0, none⟩)) (w.alloc (.cells #[(.slice none 0 0), (.slice none 0 0)] 23)) := vAlloc_ok ti23 K w
attribute [push_cast] Try.underlying23
@[push_cast] theorem fld23_0 : fieldOf Try.prog 23 0 = some (0, 22) := by kernel_rfl
@[push_cast] theorem fld23_1 : fieldOf Try.prog 23 1 = some (1, 22) := by kernel_rfl
@[push_cast] theorem sz24 : szOf Try.prog 24 = some 2 := by kernel_rfl
theorem ti24 : (Try.prog.info? 24).map (fun i => (i.zero, i.size, i.bytes)) = some (some (.agg #[(.slice none 0 0), (.slice none 0 0)]), 2, 48) := by kernel_rfl
@[push_cast] theorem al24 (K : Value → World → Prop) (w : World) : vAlloc Try.prog 24 K w = K (.pointer (some ⟨w.heap.size, 0, none⟩)) (w.alloc (.cells #[(.slice none 0 0), (.slice none 0 0)] 24)) := vAlloc_ok ti24 K w
attribute [push_cast] Try.underlying24
@[push_cast] theorem fld24_0 : fieldOf Try.prog 24 0 = some (0, 22) := by kernel_rfl
@[push_cast] theorem fld24_1 : fieldOf Try.prog 24 1 = some (1, 22) := by kernel_rfl
@[push_cast] theorem sz25 : szOf Try.prog 25 = some 1 := by kernel_rfl
theorem ti25 : (Try.prog.info? 25).map (fun i => (i.zero, i.size, i.bytes)) = some (some (.slice none 0 0), 1, 24) := by kernel_rfl
@[push_cast] theorem al25 (K : Value → World → Prop) (w : World) : vAlloc Try.prog 25 K w = K (.pointer (some ⟨w.heap.size, 0, none⟩)) (w.alloc (.cells #[(.slice none 0 0)] 25)) := vAlloc_ok ti25 K w
attribute [push_cast] Try.underlying25
@[push_cast] theorem sz26 : szOf Try.prog 26 = some 1 := by kernel_rfl
theorem ti26 : (Try.prog.info? 26).map (fun i => (i.zero, i.size, i.bytes)) = some (some (.slice none 0 0), 1, 24) := by kernel_rfl
@[push_cast] theorem al26 (K : Value → World → Prop) (w : World) : vAlloc Try.prog 26 K w = K (.pointer (some ⟨w.heap.size, 0, none⟩)) (w.alloc (.cells #[(.slice none 0 0)] 26)) := vAlloc_ok ti26 K w
attribute [push_cast] Try.underlying26
@[push_cast] theorem sz29 : szOf Try.prog 29 = some 1 := by kernel_rfl
theorem ti29 : (Try.prog.info? 29).map (fun i => (i.zero, i.size, i.bytes)) = some (some (.slice none 0 0), 1, 24) := by kernel_rfl
@[push_cast] theorem al29 (K : Value → World → Prop) (w : World) : vAlloc Try.prog 29 K w = K (.pointer (some ⟨w.heap.size, 0, none⟩)) (w.alloc (.cells #[(.slice none 0 0)] 29)) := vAlloc_ok ti29 K w
attribute [push_cast] Try.underlying29
@[push_cast] theorem sz32 : szOf Try.prog 32 = some 1 := by kernel_rfl
theorem ti32 : (Try.prog.info? 32).map (fun i => (i.zero, i.size, i.bytes)) = some (some (.slice none 0 0), 1, 24) := by kernel_rfl
@[push_cast] theorem al32 (K : Value → World → Prop) (w : World) : vAlloc Try.prog 32 K w = K (.pointer (some ⟨w.heap.size, 0, none⟩)) (w.alloc (.cells #[(.slice none 0 0)] 32)) := vAlloc_ok ti32 K w
attribute [push_cast] Try.underlying32
@[push_cast] theorem sz35 : szOf Try.prog 35 = some 1 := by kernel_rfl
theorem ti35 : (Try.prog.info? 35).map (fun i => (i.zero, i.size, i.bytes)) = some (some (.slice none 0 0), 1, 24) := by kernel_rfl
@[push_cast] theorem al35 (K : Value → World → Prop) (w : World) : vAlloc Try.prog 35 K w = K (.pointer (some ⟨w.heap.size, 0, none⟩)) (w.alloc (.cells #[(.slice none 0 0)] 35)) := vAlloc_ok ti35 K w
attribute [push_cast] Try.underlying35
@[push_cast] theorem sz36 : szOf Try.prog 36 = some 1 := by kernel_rfl
theorem ti36 : (Try.prog.info? 36).map (fun i => (i.zero, i.size, i.bytes)) = some (some (.int .i64 0), 1, 8) := by kernel_rfl
@[push_cast] theorem al36 (K : Value → World → Prop) (w : World) : vAlloc Try.prog 36 K w = K (.pointer (some ⟨w.heap.size, 0, none⟩)) (w.alloc (.cells #[(.int .i64 0)] 36)) := vAlloc_ok ti36 K w
attribute [push_cast] Try.underlying36
@[push_cast] theorem sz37 : szOf Try.prog 37 = some 1 := by kernel_rfl
theorem ti37 : (Try.prog.info? 37).map (fun i => (i.zero, i.size, i.bytes)) = some (some (.slice none 0 0), 1, 24) := by kernel_rfl
@[push_cast] theorem al37 (K : Value → World → Prop) (w : World) : vAlloc Try.prog 37 K w = K (.pointer (some ⟨w.heap.size, 0, none⟩)) (w.alloc (.cells #[(.slice none 0 0)] 37)) := vAlloc_ok ti37 K w
attribute [push_cast] Try.underlying37
@[push_cast] theorem sz38 : szOf Try.prog 38 = some 4 := by kernel_rfl
theorem ti38 : (Try.prog.info? 38).map (fun i => (i.zero, i.size, i.bytes)) = some (some (.agg #[(.int .i64 0), (.string ⟨#[]⟩), (.string ⟨#[]⟩), (.slice none 0 0)]), 4, 64) := by kernel_rfl
@[push_cast] theorem al38 (K : Value → World → Prop) (w : World) : vAlloc Try.prog 38 K w = K (.pointer (some ⟨w.heap.size, 0, none⟩)) (w.alloc (.cells #[(.int .i64 0), (.string ⟨#[]⟩), (.string ⟨#[]⟩), (.slice none 0 0)] 38)) := vAlloc_ok ti38 K w
attribute [push_cast] Try.underlying38
@[push_cast] theorem fld38_0 : fieldOf Try.prog 38 0 = some (0, 36) := by kernel_rfl
@[push_cast] theorem fld38_1 : fieldOf Try.prog 38 1 = some (1, 9) := by kernel_rfl
@[push_cast] theorem fld38_2 : fieldOf Try.prog 38 2 = some (2, 9) := by kernel_rfl
@[push_cast] theorem fld38_3 : fieldOf Try.prog 38 3 = some (3, 37) := by kernel_rfl
@[push_cast] theorem sz39 : szOf Try.prog 39 = some 4 := by kernel_rfl
theorem ti39 : (Try.prog.info? 39).map (fun i => (i.zero, i.size, i.bytes)) = some (some (.agg #[(.int .i64 0), (.string ⟨#[]⟩), (.string ⟨#[]⟩), (.slice none 0 0)]), 4, 64) := by kernel_rfl
@[push_cast] theorem al39 (K : Value → World → Prop) (w : World) : vAlloc Try.prog 39 K w = K (.pointer (some ⟨w.heap.size, 0, none⟩)) (w.alloc (.cells #[(.int .i64 0), (.string ⟨#[]⟩), (.string ⟨#[]⟩), (.slice none 0 0)] 39)) := vAlloc_ok ti39 K w
attribute [push_cast] Try.underlying39
@[push_cast] theorem fld39_0 : fieldOf Try.prog 39 0 = some (0, 36) := by kernel_rfl
@[push_cast] theorem fld39_1 : fieldOf Try.prog 39 1 = some (1, 9) := by kernel_rfl
@[push_cast] theorem fld39_2 : fieldOf Try.prog 39 2 = some (2, 9) := by kernel_rfl
@[push_cast] theorem fld39_3 : fieldOf Try.prog 39 3 = some (3, 37) := by kernel_rfl
@[push_cast] theorem sz40 : szOf Try.prog 40 = some 1 := by kernel_rfl
theorem ti40 : (Try.prog.info? 40).map (fun i => (i.zero, i.size, i.bytes)) = some (some (.slice none 0 0), 1, 24) := by kernel_rfl
@[push_cast] theorem al40 (K : Value → World → Prop) (w : World) : vAlloc Try.prog 40 K w = K (.pointer (some ⟨w.heap.size, 0, none⟩)) (w.alloc (.cells #[(.slice none 0 0)] 40)) := vAlloc_ok ti40 K w
attribute [push_cast] Try.underlying40
@[push_cast] theorem sz41 : szOf Try.prog 41 = some 12 := by kernel_rfl
theorem ti41 : (Try.prog.info? 41).map (fun i => (i.zero, i.size, i.bytes)) = some (some (.agg #[(.slice none 0 0), (.int .i64 0), (.int .i64 0), (.int .i64 0), (.slice none 0 0), (.int .i64 0), (.string ⟨#[]⟩), (.string ⟨#[]⟩), (.slice none 0 0), (.slice none 0 0), (.int .i64 0), (.int .i64 0)]), 12, 176) := by kernel_rfl
@[push_cast] theorem al41 (K : Value → World → Prop) (w : World) : vAlloc Try.prog 41 K w = K (.pointer (some ⟨w.heap.size, 0, none⟩)) (w.alloc (.cells #[(.slice none 0 0), (.int .i64 0), (.int .i64 0), (.int .i64 0), (.slice none 0 0), (.int .i64 0), (.string ⟨#[]⟩), (.string ⟨#[]⟩), (.slice none 0 0), (.slice none 0 0), (.int .i64 0), (.int .i64 0)] 41)) := vAlloc_ok ti41 K w
attribute [push_cast] Try.underlying41
@[push_cast] theorem fld41_0 : fieldOf Try.prog 41 0 = some (0, 35) := by kernel_rfl
@[push_cast] theorem fld41_1 : fieldOf Try.prog 41 1 = some (1, 3) := by kernel_rfl
@[push_cast] theorem fld41_2 : fieldOf Try.prog 41 2 = some (2, 3) := by kernel_rfl
@[push_cast] theorem fld41_3 : fieldOf Try.prog 41 3 = some (3, 3) := by kernel_rfl
@[push_cast] theorem fld41_4 : fieldOf Try.prog 41 4 = some (4, 22) := by kernel_rfl
@[push_cast] theorem fld41_5 : fieldOf Try.prog 41 5 = some (5, 39) := by kernel_rfl
@[push_cast] theorem fld41_6 : fieldOf Try.prog 41 6 = some (9, 40) := by kernel_rfl
@[push_cast] theorem fld41_7 : fieldOf Try.prog 41 7 = some (10, 3) := by kernel_rfl
@[push_cast] theorem fld41_8 : fieldOf Try.prog 41 8 = some (11, 3) := by kernel_rfl
@[push_cast] theorem sz42 : szOf Try.prog 42 = some 12 := by kernel_rfl
theorem ti42 : (Try.prog.info? 42).map (fun i => (i.zero, i.size, i.bytes)) = some (some (.agg #[(.slice none 0 0), (.int .i64 0), (.int .i64 0), (.int .i64 0), (.slice none 0 0), (.int .i64 0), (.string ⟨#[]⟩), (.string ⟨#[]⟩), (.slice none 0 0), (.slice none 0 0), (.int .i64 0), (.int .i64 0)]), 12, 176) := by kernel_rfl
@[push_cast] theorem al42 (K : Value → World → Prop) (w : World) : vAlloc Try.prog 42 K w = K (.pointer (some ⟨w.heap.size, 0, none⟩)) (w.alloc (.cells #[(.slice none 0 0), (.int .i64 0), (.int .i64 0), (.int .i64 0), (.slice none 0 0), (.int .i64 0), (.string ⟨#[]⟩), (.string ⟨#[]⟩), (.slice none 0 0), (.slice none 0 0), (.int .i64 0), (.int .i64 0)] 42)) := vAlloc_ok ti42 K w
attribute [push_cast] Try.underlying42
@[push_cast] theorem fld42_0 : fieldOf Try.prog 42 0 = some (0, 35) := by kernel_rfl
@[push_cast] theorem fld42_1 : fieldOf Try.prog 42 1 = some (1, 3) := by kernel_rfl
@[push_cast] theorem fld42_2 : fieldOf Try.prog 42 2 = some (2, 3) := by kernel_rfl
@[push_cast] theorem fld42_3 : fieldOf Try.prog 42 3 = some (3, 3) := by kernel_rfl
@[push_cast] theorem fld42_4 : fieldOf Try.prog 42 4 = some (4, 22) := by kernel_rfl
@[push_cast] theorem fld42_5 : fieldOf Try.prog 42 5 = some (5, 39) := by kernel_rfl
@[push_cast] theorem fld42_6 : fieldOf Try.prog 42 6 = some (9, 40) := by kernel_rfl
@[push_cast] theorem fld42_7 : fieldOf Try.prog 42 7 = some (10, 3) := by kernel_rfl
@[push_cast] theorem fld42_8 : fieldOf Try.prog 42 8 = some (11, 3) := by kernel_rfl
@[push_cast] theorem sz45 : szOf Try.prog 45 = some 1 := by kernel_rfl
theorem ti45 : (Try.prog.info? 45).map (fun i => (i.zero, i.size, i.bytes)) = some (some (.slice none 0 0), 1, 24) := by kernel_rfl
@[push_cast] theorem al45 (K : Value → World → Prop) (w : World) : vAlloc Try.prog 45 K w = K (.pointer (some ⟨w.heap.size, 0, none⟩)) (w.alloc (.cells #[(.slice none 0 0)] 45)) := vAlloc_ok ti45 K w
attribute [push_cast] Try.underlying45
@[push_cast] theorem sz48 : szOf Try.prog 48 = some 5 := by kernel_rfl
theorem ti48 : (Try.prog.info? 48).map (fun i => (i.zero, i.size, i.bytes)) = some (some (.agg #[(.int .i64 0), (.int .i64 0), (.int .i64 0), (.int .i64 0), (.int .i64 0)]), 5, 40) := by kernel_rfl
@[push_cast] theorem al48 (K : Value → World → Prop) (w : World) : vAlloc Try.prog 48 K w = K (.pointer (some ⟨w.heap.size, 0, none⟩)) (w.alloc (.cells #[(.int .i64 0), (.int .i64 0), (.int .i64 0), (.int .i64 0), (.int .i64 0)] 48)) := vAlloc_ok ti48 K w
attribute [push_cast] Try.underlying48
@[push_cast] theorem fld48_0 : fieldOf Try.prog 48 0 = some (0, 3) := by kernel_rfl
@[push_cast] theorem fld48_1 : fieldOf Try.prog 48 1 = some (1, 3) := by kernel_rfl
@[push_cast] theorem fld48_2 : fieldOf Try.prog 48 2 = some (2, 3) := by kernel_rfl
@[push_cast] theorem fld48_3 : fieldOf Try.prog 48 3 = some (3, 3) := by kernel_rfl
@[push_cast] theorem fld48_4 : fieldOf Try.prog 48 4 = some (4, 3) := by kernel_rfl
@[push_cast] theorem sz49 : szOf Try.prog 49 = some 5 := by kernel_rfl
theorem ti49 : (Try.prog.info? 49).map (fun i => (i.zero, i.size, i.bytes)) = some (some (.agg #[(.int .i64 0), (.int .i64 0), (.int .i64 0), (.int .i64 0), (.int .i64 0)]), 5, 40) := by kernel_rfl
@[push_cast] theorem al49 (K : Value → World → Prop) (w : World) : vAlloc Try.prog 49 K w = K (.pointer (some ⟨w.heap.size, 0, none⟩)) (w.alloc (.cells #[(.int .i64 0), (.int .i64 0), (.int .i64 0), (.int .i64 0), (.int .i64 0)] 49)) := vAlloc_ok ti49 K w
attribute [push_cast] Try.underlying49
@[push_cast] theorem fld49_0 : fieldOf Try.prog 49 0 = some (0, 3) := by kernel_rfl
@[push_cast] theorem fld49_1 : fieldOf Try.prog 49 1 = some (1, 3) := by kernel_rfl
@[push_cast] theorem fld49_2 : fieldOf Try.prog 49 2 = some (2, 3) := by kernel_rfl
@[push_cast] theorem fld49_3 : fieldOf Try.prog 49 3 = some (3, 3) := by kernel_rfl
@[push_cast] theorem fld49_4 : fieldOf Try.prog 49 4 = some (4, 3) := by kernel_rfl
@[push_cast] theorem sz50 : szOf Try.prog 50 = some 3 := by kernel_rfl
theorem ti50 : (Try.prog.info? 50).map (fun i => (i.zero, i.size, i.bytes)) = some (some (.agg #[(.int .i64 0), (.int .i64 0), (.slice none 0 0)]), 3, 40) := by kernel_rfl
@[push_cast] theorem al50 (K : Value → World → Prop) (w : World) : vAlloc Try.prog 50 K w = K (.pointer (some ⟨w.heap.size, 0, none⟩)) (w.alloc (.cells #[(.int .i64 0), (.int .i64 0), (.slice none 0 0)] 50)) := vAlloc_ok ti50 K w
attribute [push_cast] Try.underlying50
@[push_cast] theorem fld50_0 : fieldOf Try.prog 50 0 = some (0, 3) := by kernel_rfl
@[push_cast] theorem fld50_1 : fieldOf Try.prog 50 1 = some (1, 3) := by kernel_rfl
@[push_cast] theorem fld50_2 : fieldOf Try.prog 50 2 = some (2, 22) := by kernel_rfl
@[push_cast] theorem sz51 : szOf Try.prog 51 = some 3 := by kernel_rfl
theorem ti51 : (Try.prog.info? 51).map (fun i => (i.zero, i.size, i.bytes)) = some (some (.agg #[(.int .i64 0), (.int .i64 0), (.slice none 0 0)]), 3, 40) := by kernel_rfl
@[push_cast] theorem al51 (K : Value → World → Prop) (w : World) : vAlloc Try.prog 51 K w = K (.pointer (some ⟨w.heap.size, 0, none⟩)) (w.alloc (.cells #[(.int .i64 0), (.int .i64 0), (.slice none 0 0)] 51)) := vAlloc_ok ti51 K w
attribute [push_cast] Try.underlying51
@[push_cast] theorem fld51_0 : fieldOf Try.prog 51 0 = some (0, 3) := by kernel_rfl
@[push_cast] theorem fld51_1 : fieldOf Try.prog 51 1 = some (1, 3) := by kernel_rfl
@[push_cast] theorem fld51_2 : fieldOf Try.prog 51 2 = some (2, 22) := by kernel_rfl
@[push_cast] theorem sz53 : szOf Try.prog 53 = some 1 := by kernel_rfl
theorem ti53 : (Try.prog.info? 53).map (fun i => (i.zero, i.size, i.bytes)) = some (some (.int .i64 0), 1, 8) := by kernel_rfl
@[push_cast] theorem al53 (K : Value → World → Prop) (w : World) : vAlloc Try.prog 53 K w = K (.pointer (some ⟨w.heap.size, 0, none⟩)) (w.alloc (.cells #[(.int .i64 0)] 53)) := vAlloc_ok ti53 K w
attribute [push_cast] Try.underlying53
@[push_cast] theorem sz56 : szOf Try.prog 56 = some 4 := by kernel_rfl
theorem ti56 : (Try.prog.info? 56).map (fun i => (i.zero, i.size, i.bytes)) = some (some (.agg #[(.string ⟨#[]⟩), (.int .i64 0), (.int .i64 0), (.int .i64 0)]), 4, 40) := by kernel_rfl
@[push_cast] theorem al56 (K : Value → World → Prop) (w : World) : vAlloc Try.prog 56 K w = K (.pointer (some ⟨w.heap.size, 0, none⟩)) (w.alloc (.cells #[(.string ⟨#[]⟩), (.int .i64 0), (.int .i64 0), (.int .i64 0)] 56)) := vAlloc_ok ti56 K w
attribute [push_cast] Try.underlying56
@[push_cast] theorem fld56_0 : fieldOf Try.prog 56 0 = some (0, 9) := by kernel_rfl
@[push_cast] theorem fld56_1 : fieldOf Try.prog 56 1 = some (1, 3) := by kernel_rfl
@[push_cast] theorem fld56_2 : fieldOf Try.prog 56 2 = some (2, 3) := by kernel_rfl
@[push_cast] theorem fld56_3 : fieldOf Try.prog 56 3 = some (3, 3) := by kernel_rfl
@[push_cast] theorem sz57 : szOf Try.prog 57 = some 4 := by kernel_rfl
theorem ti57 : (Try.prog.info? 57).map (fun i => (i.zero, i.size, i.bytes)) = some (some (.agg #[(.string ⟨#[]⟩), (.int .i64 0), (.int .i64 0), (.int .i64 0)]), 4, 40) := by kernel_rfl
@[push_cast] theorem al57 (K : Value → World → Prop) (w : World) : vAlloc Try.prog 57 K w = K (.pointer (some ⟨w.heap.size, 0, none⟩)) (w.alloc (.cells #[(.string ⟨#[]⟩), (.int .i64 0), (.int .i64 0), (.int .i64 0)] 57)) := vAlloc_ok ti57 K w
attribute [push_cast] Try.underlying57
@[push_cast] theorem fld57_0 : fieldOf Try.prog 57 0 = some (0, 9) := by kernel_rfl
@[push_cast] theorem fld57_1 : fieldOf Try.prog 57 1 = some (1, 3) := by kernel_rfl
@[push_cast] theorem fld57_2 : fieldOf Try.prog 57 2 = some (2, 3) := by kernel_rfl
@[push_cast] theorem fld57_3 : fieldOf Try.prog 57 3 = some (3, 3) := by kernel_rfl
@[push_cast] theorem sz59 : szOf Try.prog 59 = some 3 := by kernel_rfl
theorem ti59 : (Try.prog.info? 59).map (fun i => (i.zero, i.size, i.bytes)) = some (some (.agg #[(.int .i64 0), (.int .i64 0), (.slice none 0 0)]), 3, 40) := by kernel_rfl
@[push_cast] theorem al59 (K : Value → World → Prop) (w : World) : vAlloc Try.prog 59 K w = K (.pointer (some ⟨w.heap.size, 0, none⟩)) (w.alloc (.cells #[(.int .i64 0), (.int .i64 0), (.slice none 0 0)] 59)) := vAlloc_ok ti59 K w
attribute [push_cast] Try.underlying59
@[push_cast] theorem fld59_0 : fieldOf Try.prog 59 0 = some (0, 3) := by kernel_rfl
@[push_cast] theorem fld59_1 : fieldOf Try.prog 59 1 = some (1, 3) := by kernel_rfl
@[push_cast] theorem fld59_2 : fieldOf Try.prog 59 2 = some (2, 22) := by kernel_rfl
@[push_cast] theorem sz60 : szOf Try.prog 60 = some 3 := by kernel_rfl
theorem ti60 : (Try.prog.info? 60).map (fun i => (i.zero, i.size, i.bytes)) = some (some (.agg #[(.int .i64 0), (.int .i64 0), (.slice none 0 0)]), 3, 40) := by kernel_rfl
@[push_cast] theorem al60 (K : Value → World → Prop) (w : World) : vAlloc Try.prog 60 K w = K (.pointer (some ⟨w.heap.size, 0, none⟩)) (w.alloc (.cells #[(.int .i64 0), (.int .i64 0), (.slice none 0 0)] 60)) := vAlloc_ok ti60 K w
attribute [push_cast] Try.underlying60
@[push_cast] theorem fld60_0 : fieldOf Try.prog 60 0 = some (0, 3) := by kernel_rfl
@[push_cast] theorem fld60_1 : fieldOf Try.prog 60 1 = some (1, 3) := by kernel_rfl
@[push_cast] theorem fld60_2 : fieldOf Try.prog 60 2 = some (2, 22) := by kernel_rfl
@[push_cast] theorem sz61 : szOf Try.prog 61 = some 1 := by kernel_rfl
theorem ti61 : (Try.prog.info? 61).map (fun i => (i.zero, i.size, i.bytes)) = some (some (.int .i64 0), 1, 8) := by kernel_rfl
@[push_cast] theorem al61 (K : Value → World → Prop) (w : World) : vAlloc Try.prog 61 K w = K (.pointer (some ⟨w.heap.size, 0, none⟩)) (w.alloc (.cells #[(.int .i64 0)] 61)) := vAlloc_ok ti61 K w
attribute [push_cast] Try.underlying61
@[push_cast] theorem sz62 : szOf Try.prog 62 = some 2 := by kernel_rfl
theorem ti62 : (Try.prog.info? 62).map (fun i => (i.zero, i.size, i.bytes)) = some (some (.agg #[(.int .i64 0), (.string ⟨#[]⟩)]), 2, 24) := by kernel_rfl
@[push_cast] theorem al62 (K : Value → World → Prop) (w : World) : vAlloc Try.prog 62 K w = K (.pointer (some ⟨w.heap.size, 0, none⟩)) (w.alloc (.cells #[(.int .i64 0), (.string ⟨#[]⟩)] 62)) := vAlloc_ok ti62 K w
attribute [push_cast] Try.underlying62
@[push_cast] theorem fld62_0 : fieldOf Try.prog 62 0 = some (0, 61) := by kernel_rfl
@[push_cast] theorem fld62_1 : fieldOf Try.prog 62 1 = some (1, 9) := by kernel_rfl
@[push_cast] theorem sz63 : szOf Try.prog 63 = some 2 := by kernel_rfl
theorem ti63 : (Try.prog.info? 63).map (fun i => (i.zero, i.size, i.bytes)) = some (some (.agg #[(.int .i64 0), (.string ⟨#[]⟩)]), 2, 24) := by kernel_rfl
@[push_cast] theorem al63 (K : Value → World → Prop) (w : World) : vAlloc Try.prog 63 K w = K (.pointer (some ⟨w.heap.size, 0, none⟩)) (w.alloc (.cells #[(.int .i64 0), (.string ⟨#[]⟩)] 63)) := vAlloc_ok ti63 K w
attribute [push_cast] Try.underlying63
@[push_cast] theorem fld63_0 : fieldOf Try.prog 63 0 = some (0, 61) := by kernel_rfl
@[push_cast] theorem fld63_1 : fieldOf Try.prog 63 1 = some (1, 9) := by kernel_rfl
@[push_cast] theorem sz69 : szOf Try.prog 69 = some 1 := by kernel_rfl
theorem ti69 : (Try.prog.info? 69).map (fun i => (i.zero, i.size, i.bytes)) = some (some (.int .u64 0), 1, 8) := by kernel_rfl
@[push_cast] theorem al69 (K : Value → World → Prop) (w : World) : vAlloc Try.prog 69 K w = K (.pointer (some ⟨w.heap.size, 0, none⟩)) (w.alloc (.cells #[(.int .u64 0)] 69)) := vAlloc_ok ti69 K w
attribute [push_cast] Try.underlying69
@[push_cast] theorem sz90 : szOf Try.prog 90 = some 1 := by kernel_rfl
theorem ti90 : (Try.prog.info? 90).map (fun i => (i.zero, i.size, i.bytes)) = some (some .nilFunc, 1, 8) := by kernel_rfl
@[push_cast] theorem al90 (K : Value → World → Prop) (w : World) : vAlloc Try.prog 90 K w = K (.pointer (some ⟨w.heap.size, 0, none⟩)) (w.alloc (.cells #[.nilFunc] 90)) := vAlloc_ok ti90 K w
@[push_cast] theorem one90 : oneD (Try.prog.underlying 90) = true := by kernel_rfl
@[push_cast] theorem sz135 : szOf Try.prog 135 = some 1 := by kernel_rfl
theorem ti135 : (Try.prog.info? 135).map (fun i => (i.zero, i.size, i.bytes)) = some (some .nilFunc, 1, 8) := by kernel_rfl
@[push_cast] theorem al135 (K : Value → World → Prop) (w : World) : vAlloc Try.prog 135 K w = K (.pointer (some ⟨w.heap.size, 0, none⟩)) (w.alloc (.cells #[.nilFunc] 135)) := vAlloc_ok ti135 K w
@[push_cast] theorem one135 : oneD (Try.prog.underlying 135) = true := by kernel_rfl
@[push_cast] theorem sz145 : szOf Try.prog 145 = some 4 := by kernel_rfl
theorem ti145 : (Try.prog.info? 145).map (fun i => (i.zero, i.size, i.bytes)) = some (some (.agg #[(.int .i64 0), (.string ⟨#[]⟩), (.int .i64 0), (.int .i64 0)]), 4, 40) := by kernel_rfl
@[push_cast] theorem al145 (K : Value → World → Prop) (w : World) : vAlloc Try.prog 145 K w = K (.pointer (some ⟨w.heap.size, 0, none⟩)) (w.alloc (.cells #[(.int .i64 0), (.string ⟨#[]⟩), (.int .i64 0), (.int .i64 0)] 145)) := vAlloc_ok ti145 K w
attribute [push_cast] Try.underlying145
@[push_cast] theorem fld145_0 : fieldOf Try.prog 145 0 = some (0, 63) := by kernel_rfl
@[push_cast] theorem fld145_1 : fieldOf Try.prog 145 1 = some (2, 3) := by kernel_rfl
@[push_cast] theorem fld145_2 : fieldOf Try.prog 145 2 = some (3, 3) := by kernel_rfl
@[push_cast] theorem sz146 : szOf Try.prog 146 = some 4 := by kernel_rfl
theorem ti146 : (Try.prog.info? 146).map (fun i => (i.zero, i.size, i.bytes)) = some (some (.agg #[(.int .i64 0), (.string ⟨#[]⟩), (.int .i64 0), (.int .i64 0)]), 4, 40) := by kernel_rfl
@[push_cast] theorem al146 (K : Value → World → Prop) (w : World) : vAlloc Try.prog 146 K w = K (.pointer (some ⟨w.heap.size, 0, none⟩)) (w.alloc (.cells #[(.int .i64 0), (.string ⟨#[]⟩), (.int .i64 0), (.int .i64 0)] 146)) := vAlloc_ok ti146 K w
attribute [push_cast] Try.underlying146
@[push_cast] theorem fld146_0 : fieldOf Try.prog 146 0 = some (0, 63) := by kernel_rfl
@[push_cast] theorem fld146_1 : fieldOf Try.prog 146 1 = some (2, 3) := by kernel_rfl
@[push_cast] theorem fld146_2 : fieldOf Try.prog 146 2 = some (3, 3) := by kernel_rfl
@[push_cast] theorem sz147 : szOf Try.prog 147 = some 1 := by kernel_rfl
theorem ti147 : (Try.prog.info? 147).map (fun i => (i.zero, i.size, i.bytes)) = some (some .nilFunc, 1, 8) := by kernel_rfl
@[push_cast] theorem al147 (K : Value → World → Prop) (w : World) : vAlloc Try.prog 147 K w = K (.pointer (some ⟨w.heap.size, 0, none⟩)) (w.alloc (.cells #[.nilFunc] 147)) := vAlloc_ok ti147 K w
@[push_cast] theorem one147 : oneD (Try.prog.underlying 147) = true := by kernel_rfl
@[push_cast] theorem sz153 : szOf Try.prog 153 = some 1 := by kernel_rfl
theorem ti153 : (Try.prog.info? 153).map (fun i => (i.zero, i.size, i.bytes)) = some (some .nilFunc, 1, 8) := by kernel_rfl
@[push_cast] theorem al153 (K : Value → World → Prop) (w : World) : vAlloc Try.prog 153 K w = K (.pointer (some ⟨w.heap.size, 0, none⟩)) (w.alloc (.cells #[.nilFunc] 153)) := vAlloc_ok ti153 K w
@[push_cast] theorem one153 : oneD (Try.prog.underlying 153) = true := by kernel_rfl
@[push_cast] theorem sz157 : szOf Try.prog 157 = some 1 := by kernel_rfl
theorem ti157 : (Try.prog.info? 157).map (fun i => (i.zero, i.size, i.bytes)) = some (some .nilFunc, 1, 8) := by kernel_rfl
@[push_cast] theorem al157 (K : Value → World → Prop) (w : World) : vAlloc Try.prog 157 K w = K (.pointer (some ⟨w.heap.size, 0, none⟩)) (w.alloc (.cells #[.nilFunc] 157)) := vAlloc_ok ti157 K w
@[push_cast] theorem one157 : oneD (Try.prog.underlying 157) = true := by kernel_rfl
@[push_cast] theorem sz158 : szOf Try.prog 158 = some 1 := by kernel_rfl
theorem ti158 : (Try.prog.info? 158).map (fun i => (i.zero, i.size, i.bytes)) = some (some .nilFunc, 1, 8) := by kernel_rfl
@[push_cast] theorem al158 (K : Value → World → Prop) (w : World) : vAlloc Try.prog 158 K w = K (.pointer (some ⟨w.heap.size, 0, none⟩)) (w.alloc (.cells #[.nilFunc] 158)) := vAlloc_ok ti158 K w
@[push_cast] theorem one158 : oneD (Try.prog.underlying 158) = true := by kernel_rfl
@[push_cast] theorem sz178 : szOf Try.prog 178 = some 1 := by kernel_rfl
theorem ti178 : (Try.prog.info? 178).map (fun i => (i.zero, i.size, i.bytes)) = some (some .nilFunc, 1, 8) := by kernel_rfl
@[push_cast] theorem al178 (K : Value → World → Prop) (w : World) : vAlloc Try.prog 178 K w = K (.pointer (some ⟨w.heap.size, 0, none⟩)) (w.alloc (.cells #[.nilFunc] 178)) := vAlloc_ok ti178 K w
@[push_cast] theorem one178 : oneD (Try.prog.underlying 178) = true := by kernel_rfl
@[push_cast] theorem sz181 : szOf Try.prog 181 = some 1 := by kernel_rfl
theorem ti181 : (Try.prog.info? 181).map (fun i => (i.zero, i.size, i.bytes)) = some (some .nilFunc, 1, 8) := by kernel_rfl
@[push_cast] theorem al181 (K : Value → World → Prop) (w : World) : vAlloc Try.prog 181 K w = K (.pointer (some ⟨w.heap.size, 0, none⟩)) (w.alloc (.cells #[.nilFunc] 181)) := vAlloc_ok ti181 K w
@[push_cast] theorem one181 : oneD (Try.prog.underlying 181) = true := by kernel_rfl
@[push_cast] theorem sz193 : szOf Try.prog 193 = some 1 := by kernel_rfl
theorem ti193 : (Try.prog.info? 193).map (fun i => (i.zero, i.size, i.bytes)) = some (some (.int .i64 0), 1, 8) := by kernel_rfl
@[push_cast] theorem al193 (K : Value → World → Prop) (w : World) : vAlloc Try.prog 193 K w = K (.pointer (some ⟨w.heap.size, 0, none⟩)) (w.alloc (.cells #[(.int .i64 0)] 193)) := vAlloc_ok ti193 K w
attribute [push_cast] Try.underlying193
@[push_cast] theorem sz200 : szOf Try.prog 200 = some 1 := by kernel_rfl
theorem ti200 : (Try.prog.info? 200).map (fun i => (i.zero, i.size, i.bytes)) = some (some (.int .u32 0), 1, 4) := by kernel_rfl
@[push_cast] theorem al200 (K : Value → World → Prop) (w : World) : vAlloc Try.prog 200 K w = K (.pointer (some ⟨w.heap.size, 0, none⟩)) (w.alloc (.cells #[(.int .u32 0)] 200)) := vAlloc_ok ti200 K w
attribute [push_cast] Try.underlying200
@[push_cast] theorem sz202 : szOf Try.prog 202 = some 1 := by kernel_rfl
theorem ti202 : (Try.prog.info? 202).map (fun i => (i.zero, i.size, i.bytes)) = some (some (.int .u64 0), 1, 8) := by kernel_rfl
@[push_cast] theorem al202 (K : Value → World → Prop) (w : World) : vAlloc Try.prog 202 K w = K (.pointer (some ⟨w.heap.size, 0, none⟩)) (w.alloc (.cells #[(.int .u64 0)] 202)) := vAlloc_ok ti202 K w
attribute [push_cast] Try.underlying202
@[push_cast] theorem sz204 : szOf Try.prog 204 = some 256 := by kernel_rfl
theorem ti204 : (Try.prog.info? 204).map (fun i => (i.zero, i.size, i.bytes)) = some (some (.agg #[(.bool false), (.bool false), (.bool false), (.bool false), (.bool false), (.bool false), (.bool false), (.bool false), (.bool false), (.bool false), (.bool false), (.bool false), (.bool false), (.bool false), (.bool false), (.bool false), (.bool false), (.bool false), (.bool false), (.bool false), (.bool false), (.bool false), (.bool false), (.bool false), (.bool false), (.bool false), (.bool false), (.bool false), (.bool false), (.bool false), (.bool false), (.bool false), (.bool false), (.bool false), (.bool false), (.bool false), (.bool false), (.bool false), (.bool false), (.bool false), (.bool false), (.bool false), (.bool false), (.bool false), (.bool false), (.bool false), (.bool false), (.bool false), (.bool false), (.bool false), (.bool false), (.bool false), (.bool false), (.bool false), (.bool false), (.bool false), (.bool false), (.bool false), (.bool false), (.bool false), (.bool false), (.bool false), (.bool false), (.bool false), (.bool false), (.bool false), (.bool false), (.bool false), (.bool false), (.bool false), (.bool false), (.bool false), (.bool false), (.bool false), (.bool false), (.bool false), (.bool false), (.bool false), (.bool false), (.bool false), (.bool false), (.bool false), (.bool false), (.bool false), (.bool false), (.bool false), (.bool false), (.bool false), (.bool false), (.bool false), (.bool false), (.bool false), (.bool false), (.bool false), (.bool false), (.bool false), (.bool false), (.bool false), (.bool false), (.bool false), (.bool false), (.bool false), (.bool false), (.bool false), (.bool false), (.bool false), (.bool false), (.bool false), (.bool false), (.bool false), (.bool false), (.bool false), (.bool false), (.bool false), (.bool false), (.bool false), (.bool false), (.bool false), (.bool false), (.bool false), (.bool false), (.bool false), (.bool false), (.bool false), (.bool false), (.bool false), (.bool false), (.bool false), (.bool false), (.bool false), (.bool false), (.bool false), (.bool false), (.bool false), (.bool false), (.bool false), (.bool false), (.bool false), (.bool false), (.bool false), (.bool false), (.bool false), (.bool false), (.bool false), (.bool false), (.bool false), (.bool false), (.bool false), (.bool false), (.bool false), (.bool false), (.bool false), (.bool false), (.bool false), (.bool false), (.bool false), (.bool false), (.bool false), (.bool false), (.bool false), (.bool false), (.bool false), (.bool false), (.bool false), (.bool false), (.bool false), (.bool false), (.bool false), (.bool false), (.bool false), (.bool false), (.bool false), (.bool false), (.bool false), (.bool false), (.bool false), (.bool false), (.bool false), (.bool false), (.bool false), (.bool false), (.bool false), (.bool false), (.bool false), (.bool false), (.bool false), (.bool false), (.bool false), (.bool false), (.bool false), (.bool false), (.bool false), (.bool false), (.bool false), (.bool false), (.bool false), (.bool false), (.bool false), (.bool false), (.bool false), (.bool false), (.bool false), (.bool false), (.bool false), (.bool false), (.bool false), (.bool false), (.bool false), (.bool false), (.bool false), (.bool false), (.bool false), (.bool false), (.bool false), (.bool false), (.bool false), (.bool false), (.bool false), (.bool false), (.bool false), (.bool false), (.bool false), (.bool false), (.bool false), (.bool false), (.bool false), (.bool false), (.bool false), (.bool false), (.bool false), (.bool false), (.bool false), (.bool false), (.bool false), (.bool false), (.bool false), (.bool false), (.bool false), (.bool false), (.bool false), (.bool false), (.bool false), (.bool false), (.bool false), (.bool false), (.bool false), (.bool false), (.bool false), (.bool false), (.bool false), (.bool false), (.bool false), (.bool false), (.bool false), (.bool false), (.bool false)]), 256, 256) := by kernel_rfl
@[push_cast] theorem al204 (K : Value → World → Prop) (w : World) : vAlloc Try.prog 204 K w = K (.pointer (some ⟨w.heap.size, 0, none⟩)) (w.alloc (.cells #[(.bool false), (.bool false), (.bool false), (.bool false), (.bool false), (.bool false), (.bool false), (.bool false), (.bool false), (.bool false), (.bool false), (.bool false), (.bool false), (.bool false), (.bool false), (.bool false), (.bool false), (.bool false), (.bool false), (.bool false), (.bool false), (.bool false), (.bool false), (.bool false), (.bool false), (.bool false), (.bool false), (.bool false), (.bool false), (.bool false), (.bool false), (.bool false), (.bool false), (.bool false), (.bool false), (.bool false), (.bool false), (.bool false), (.bool false), (.bool false), (.bool false), (.bool false), (.bool false), (.bool false), (.bool false), (.bool false), (.bool false), (.bool false), (.bool false), (.bool false), (.bool false), (.bool false), (.bool false), (.bool false), (.bool false), (.bool false), (.bool false), (.bool false), (.bool false), (.bool false), (.bool false), (.bool false), (.bool false), (.bool false), (.bool false), (.bool false), (.bool false), (.bool false), (.bool false), (.bool false), (.bool false), (.bool false), (.bool false), (.bool false), (.bool false), (.bool false), (.bool false), (.bool false), (.bool false), (.bool false), (.bool false), (.bool false), (.bool false), (.bool false), (.bool false), (.bool false), (.bool false), (.bool false), (.bool false), (.bool false), (.bool false), (.bool false), (.bool false), (.bool false), (.bool false), (.bool false), (.bool false), (.bool false), (.bool false), (.bool false), (.bool false), (.bool false), (.bool false), (.bool false), (.bool false), (.bool false), (.bool false), (.bool false), (.bool false), (.bool false), (.bool false), (.bool false), (.bool false), (.bool false), (.bool false), (.bool false), (.bool false), (.bool false), (.bool false), (.bool false), (.bool false), (.bool false), (.bool false), (.bool false), (.bool false), (.bool false), (.bool false), (.bool false), (.bool false), (.bool false), (.bool false), (.bool false), (.bool false), (.bool false), (.bool false), (.bool false), (.bool false), (.bool false), (.bool false), (.bool false), (.bool false), (.bool false), (.bool false), (.bool false), (.bool false), (.bool false), (.bool false), (.bool false), (.bool false), (.bool false), (.bool false), (.bool false), (.bool false), (.bool false), (.bool false), (.bool false), (.bool false), (.bool false), (.bool false), (.bool false), (.bool false), (.bool false), (.bool false), (.bool false), (.bool false), (.bool false), (.bool false), (.bool false), (.bool false), (.bool false), (.bool false), (.bool false), (.bool false), (.bool false), (.bool false), (.bool false), (.bool false), (.bool false), (.bool false), (.bool false), (.bool false), (.bool false), (.bool false), (.bool false), (.bool false), (.bool false), (.bool false), (.bool false), (.bool false), (.bool false), (.bool false), (.bool false), (.bool false), (.bool false), (.bool false), (.bool false), (.bool false), (.bool false), (.bool false), (.bool false), (.bool false), (.bool false), (.bool false), (.bool false), (.bool false), (.bool false), (.bool false), (.bool false), (.bool false), (.bool false), (.bool false), (.bool false), (.bool false), (.bool false), (.bool false), (.bool false), (.bool false), (.bool false), (.bool false), (.bool false), (.bool false), (.bool false), (.bool false), (.bool false), (.bool false), (.bool false), (.bool false), (.bool false), (.bool false), (.bool false), (.bool false), (.bool false), (.bool false), (.bool false), (.bool false), (.bool false), (.bool false), (.bool false), (.bool false), (.bool false), (.bool false), (.bool false), (.bool false), (.bool false), (.bool false), (.bool false), (.bool false), (.bool false), (.bool false), (.bool false), (.bool false), (.bool false), (.bool false), (.bool false), (.bool false), (.bool false)] 204)) := vAlloc_ok ti204 K w
attribute [push_cast] Try.underlying204
@[push_cast] theorem sz205 : szOf Try.prog 205 = some 256 := by kernel_rfl
theorem ti205 : (Try.prog.info? 205).map (fun i => (i.zero, i.size, i.bytes)) = some (some (.agg #[(.bool false), (.bool false), (.bool false), (.bool false), (.bool false), (.bool false), (.bool false), (.bool false), (.bool false), (.bool false), (.bool false), (.bool false), (.bool false), (.bool false), (.bool false), (.bool false), (.bool false), (.bool false), (.bool false), (.bool false), (.bool false), (.bool false), (.bool false), (.bool false), (.bool false), (.bool false), (.bool false), (.bool false), (.bool false), (.bool false), (.bool false), (.bool false), (.bool false), (.bool false), (.bool false), (.bool false), (.bool false), (.bool false), (.bool false), (.bool false), (.bool false), (.bool false), (.bool false), (.bool false), (.bool false), (.bool false), (.bool false), (.bool false), (.bool false), (.bool false), (.bool false), (.bool false), (.bool false), (.bool false), (.bool false), (.bool false), (.bool false), (.bool false), (.bool false), (.bool false), (.bool false), (.bool false), (.bool false), (.bool false), (.bool false), (.bool false), (.bool false), (.bool false), (.bool false), (.bool false), (.bool false), (.bool false), (.bool false), (.bool false), (.bool false), (.bool false), (.bool false), (.bool false), (.bool false), (.bool false), (.bool false), (.bool false), (.bool false), (.bool false), (.bool false), (.bool false), (.bool false), (.bool false), (.bool false), (.bool false), (.bool false), (.bool false), (.bool false), (.bool false), (.bool false), (.bool false), (.bool false), (.bool false), (.bool false), (.bool false), (.bool false), (.bool false), (.bool false), (.bool false), (.bool false), (.bool false), (.bool false), (.bool false), (.bool false), (.bool false), (.bool false), (.bool false), (.bool false), (.bool false), (.bool false), (.bool false), (.bool false), (.bool false), (.bool false), (.bool false), (.bool false), (.bool false), (.bool false), (.bool false), (.bool false), (.bool false), (.bool false), (.bool false), (.bool false), (.bool false), (.bool false), (.bool false), (.bool false), (.bool false), (.bool false), (.bool false), (.bool false), (.bool false), (.bool false), (.bool false), (.bool false), (.bool false), (.bool false), (.bool false), (.bool false), (.bool false), (.bool false), (.bool false), (.bool false), (.bool false), (.bool false), (.bool false), (.bool false), (.bool false), (.bool false), (.bool false), (.bool false), (.bool false), (.bool false), (.bool false), (.bool false), (.bool false), (.bool false), (.bool false), (.bool false), (.bool false), (.bool false), (.bool false), (.bool false), (.bool false), (.bool false), (.bool false), (.bool false), (.bool false), (.bool false), (.bool false), (.bool false), (.bool false), (.bool false), (.bool false), (.bool false), (.bool false), (.bool false), (.bool false), (.bool false), (.bool false), (.bool false), (.bool false), (.bool false), (.bool false), (.bool false), (.bool false), (.bool false), (.bool false), (.bool false), (.bool false), (.bool false), (.bool false), (.bool false), (.bool false), (.bool false), (.bool false), (.bool false), (.bool false), (.bool false), (.bool false), (.bool false), (.bool false), (.bool false), (.bool false), (.bool false), (.bool false), (.bool false), (.bool false), (.bool false), (.bool false), (.bool false), (.bool false), (.bool false), (.bool false), (.bool false), (.bool false), (.bool false), (.bool false), (.bool false), (.bool false), (.bool false), (.bool false), (.bool false), (.bool false), (.bool false), (.bool false), (.bool false), (.bool false), (.bool false), (.bool false), (.bool false), (.bool false), (.bool false), (.bool false), (.bool false), (.bool false), (.bool false), (.bool false), (.bool false), (.bool false), (.bool false), (.bool false), (.bool false), (.bool false), (.bool false), (.bool false), (.bool false), (.bool false), (.bool false), (.bool false)]), 256, 256) := by kernel_rfl
@[push_cast] theorem al205 (K : Value → World → Prop) (w : World) : vAlloc Try.prog 205 K w = K (.pointer (some ⟨w.heap.size, 0, none⟩)) (w.alloc (.cells #[(.bool false), (.bool false), (.bool false), (.bool false), (.bool false), (.bool false), (.bool false), (.bool false), (.bool false), (.bool false), (.bool false), (.bool false), (.bool false), (.bool false), (.bool false), (.bool false), (.bool false), (.bool false), (.bool false), (.bool false), (.bool false), (.bool false), (.bool false), (.bool false), (.bool false), (.bool false), (.bool false), (.bool false), (.bool false), (.bool false), (.bool false), (.bool false), (.bool false), (.bool false), (.bool false), (.bool false), (.bool false), (.bool false), (.bool false), (.bool false), (.bool false), (.bool false), (.bool false), (.bool false), (.bool false), (.bool false), (.bool false), (.bool false), (.bool false), (.bool false), (.bool false), (.bool false), (.bool false), (.bool false), (.bool false), (.bool false), (.bool false), (.bool false), (.bool false), (.bool false), (.bool false), (.bool false), (.bool false), (.bool false), (.bool false), (.bool false), (.bool false), (.bool false), (.bool false), (.bool false), (.bool false), (.bool false), (.bool false), (.bool false), (.bool false), (.bool false), (.bool false), (.bool false), (.bool false), (.bool false), (.bool false), (.bool false), (.bool false), (.bool false), (.bool false), (.bool false), (.bool false), (.bool false), (.bool false), (.bool false), (.bool false), (.bool false), (.bool false), (.bool false), (.bool false), (.bool false), (.bool false), (.bool false), (.bool false), (.bool false), (.bool false), (.bool false), (.bool false), (.bool false), (.bool false), (.bool false), (.bool false), (.bool false), (.bool false), (.bool false), (.bool false), (.bool false), (.bool false), (.bool false), (.bool false), (.bool false), (.bool false), (.bool false), (.bool false), (.bool false), (.bool false), (.bool false), (.bool false), (.bool false), (.bool false), (.bool false), (.bool false), (.bool false), (.bool false), (.bool false), (.bool false), (.bool false), (.bool false), (.bool false), (.bool false), (.bool false), (.bool false), (.bool false), (.bool false), (.bool false), (.bool false), (.bool false), (.bool false), (.bool false), (.bool false), (.bool false), (.bool false), (.bool false), (.bool false), (.bool false), (.bool false), (.bool false), (.bool false), (.bool false), (.bool false), (.bool false), (.bool false), (.bool false), (.bool false), (.bool false), (.bool false), (.bool false), (.bool false), (.bool false), (.bool false), (.bool false), (.bool false), (.bool false), (.bool false), (.bool false), (.bool false), (.bool false), (.bool false), (.bool false), (.bool false), (.bool false), (.bool false), (.bool false), (.bool false), (.bool false), (.bool false), (.bool false), (.bool false), (.bool false), (.bool false), (.bool false), (.bool false), (.bool false), (.bool false), (.bool false), (.bool false), (.bool false), (.bool false), (.bool false), (.bool false), (.bool false), (.bool false), (.bool false), (.bool false), (.bool false), (.bool false), (.bool false), (.bool false), (.bool false), (.bool false), (.bool false), (.bool false), (.bool false), (.bool false), (.bool false), (.bool false), (.bool false), (.bool false), (.bool false), (.bool false), (.bool false), (.bool false), (.bool false), (.bool false), (.bool false), (.bool false), (.bool false), (.bool false), (.bool false), (.bool false), (.bool false), (.bool false), (.bool false), (.bool false), (.bool false), (.bool false), (.bool false), (.bool false), (.bool false), (.bool false), (.bool false), (.bool false), (.bool false), (.bool false), (.bool false), (.bool false), (.bool false), (.bool false), (.bool false), (.bool false), (.bool false), (.bool false), (.bool false), (.bool false), (.bool false), (.bool false), (.bool false), (.bool false), (.bool false), (.bool false), (.bool false)] 205)) := vAlloc_ok ti205 K w
attribute [push_cast] Try.underlying205
@[push_cast] theorem sz210 : szOf Try.prog 210 = some 1 := by kernel_rfl
theorem ti210 : (Try.prog.info? 210).map (fun i => (i.zero, i.size, i.bytes)) = some (some (.int .u64 0), 1, 8) := by kernel_rfl
@[push_cast] theorem al210 (K : Value → World → Prop) (w : World) : vAlloc Try.prog 210 K w = K (.pointer (some ⟨w.heap.size, 0, none⟩)) (w.alloc (.cells #[(.int .u64 0)] 210)) := vAlloc_ok ti210 K w
attribute [push_cast] Try.underlying210
@[push_cast] theorem sz214 : szOf Try.prog 214 = some 1 := by kernel_rfl
theorem ti214 : (Try.prog.info? 214).map (fun i => (i.zero, i.size, i.bytes)) = some (some (.pointer none), 1, 8) := by kernel_rfl
@[push_cast] theorem al214 (K : Value → World → Prop) (w : World) : vAlloc Try.prog 214 K w = K (.pointer (some ⟨w.heap.size, 0, none⟩)) (w.alloc (.cells #[(.pointer none)] 214)) := vAlloc_ok ti214 K w
attribute [push_cast] Try.underlying214
@[push_cast] theorem sz218 : szOf Try.prog 218 = some 1 := by kernel_rfl
theorem ti218 : (Try.prog.info? 218).map (fun i => (i.zero, i.size, i.bytes)) = some (some (.pointer none), 1, 8) := by kernel_rfl
@[push_cast] theorem al218 (K : Value → World → Prop) (w : World) : vAlloc Try.prog 218 K w = K (.pointer (some ⟨w.heap.size, 0, none⟩)) (w.alloc (.cells #[(.pointer none)] 218)) := vAlloc_ok ti218 K w
attribute [push_cast] Try.underlying218
@[push_cast] theorem sz219 : szOf Try.prog 219 = some 1 := by kernel_rfl
theorem ti219 : (Try.prog.info? 219).map (fun i => (i.zero, i.size, i.bytes)) = some (some (.pointer none), 1, 8) := by kernel_rfl
@[push_cast] theorem al219 (K : Value → World → Prop) (w : World) : vAlloc Try.prog 219 K w = K (.pointer (some ⟨w.heap.size, 0, none⟩)) (w.alloc (.cells #[(.pointer none)] 219)) := vAlloc_ok ti219 K w
attribute [push_cast] Try.underlying219
end Go.Proofs.Ytnofalhkapmcnaa
end
section
namespace Go.Proofs.Ytnofalhkapmcnaa
open Go.Vc
set_option maxRecDepth 100000
variable (Q : Post) (ds : List Deferred) (σ : Env) (w : World)
abbrev VR (r l : List VOp) : Prop := ∀ (Q : Post) (ds : List Deferred) (σ : Env) (w : World), vc Try.prog (.region r) Q ds σ w = vcOps Try.prog l (Q .normal ds) σ w
theorem vR {r l : List VOp} (h : r = l) : VR r l := fun Q ds σ w => mk_eq (by subst h; rfl)
abbrev mv (d s t : Nat) : VOp := ⟨some d, .move (.tmp s), t, none⟩
abbrev lda (d t s : Nat) : VOp := ⟨some d, .load t (.tmp s), t, none⟩
abbrev asg (d s t : Nat) : VOp := ⟨some d, .assign (.tmp s), t, none⟩
abbrev ext (d s i t : Nat) : VOp := ⟨some d, .extract (.tmp s) i, t, none⟩
abbrev fad (d t s i : Nat) : VOp := ⟨some d, .fieldAddr t (.tmp s) i, 0, none⟩
abbrev iad (d t s i : Nat) : VOp := ⟨some d, .indexAddr t (.tmp s) (.tmp i), 0, none⟩
/-! 28 columbary/typer.Check (params #[24, 42], results #[(.tmp 4)], 18 slots) -/
def r28_0 : List VOp :=
  [⟨some 2, .box 24 (.tmp 0), 0, none⟩,
   ⟨some 3, .box 42 (.tmp 1), 0, none⟩,
   ⟨some 4, .assign (.const (.int .i64 0)), 53, none⟩]
def r28_1 : List VOp :=
  [lda 6 42 3,
   ⟨some 7, .call ⟨.value (.func 70), #[.tmp 6], #[42]⟩, 4, none⟩,
   ⟨some 8, .unOp .not 4 (.tmp 7), 4, none⟩,
   asg 5 8 4]
def r28_2 : List VOp :=
  [⟨some 4, .assign (.const (.int .i64 221)), 53, none⟩]
def r28_3 : List VOp :=
  [lda 10 24 2,
   lda 11 42 3,
   ⟨some 12, .call ⟨.value (.func 71), #[.tmp 10, .tmp 11], #[24, 42]⟩, 4, none⟩,
   ⟨some 13, .unOp .not 4 (.tmp 12), 4, none⟩,
   asg 9 13 4]
def r28_4 : List VOp :=
  [⟨some 4, .assign (.const (.int .i64 231)), 53, none⟩]
def r28_5 : List VOp :=
  [lda 15 42 3,
   ⟨some 16, .call ⟨.value (.func 72), #[.tmp 15], #[42]⟩, 4, none⟩,
   ⟨some 17, .unOp .not 4 (.tmp 16), 4, none⟩,
   asg 14 17 4]
def r28_6 : List VOp :=
  [⟨some 4, .assign (.const (.int .i64 232)), 53, none⟩]
def r28_7 : List VOp :=
  [⟨some 4, .assign (.const (.int .i64 0)), 53, none⟩]
def B28 : VC :=
  (.seq (.region r28_0) (.seq (.block 0 (.seq (.region r28_1) (.cond (.tmp 5) (.seq (.region r28_2) .ret) (.seq (.region r28_3) (.cond (.tmp 9) (.seq (.region r28_4) .ret) (.seq (.region r28_5) (.cond (.tmp 14) (.seq (.region r28_6) .ret) .skip))))))) (.seq (.region r28_7) .ret)))
theorem code28 : ∃ c, Try.f28.body = some c ∧ abs Try.f28.ntmps c = B28 := ⟨_, rfl, by kernel_rfl⟩
theorem hb28 : HasBody Try.prog 28 := hasBody_of Try.func28 (by kernel_rfl)
theorem res28 : Try.f28.results = #[(.tmp 4)] := rfl
theorem enter28 {w : World} {R : Value → World → Prop} (x0 x1 : Value) (h : vc Try.prog B28 (retK Try.prog #[(.tmp 4)] R) [] (initEnv [x0, x1] 0) w) : FnC Try.prog 28 #[x0, x1] w R := by
  obtain ⟨c, h1, h2⟩ := code28
  exact hb28.fn (ret_of_vc mixed Try.func28 h1 (Nat.le_of_ble_eq_true rfl) B28 h2 h)
@[push_cast] theorem vr28_0 : VR r28_0 [⟨some 2, .box 24 (.tmp 0), 0, none⟩, ⟨some 3, .box 42 (.tmp 1), 0, none⟩, ⟨some 4, .assign (.const (.int .i64 0)), 53, none⟩] := vR rfl
@[push_cast] theorem vr28_1 : VR r28_1 [⟨some 6, .load 42 (.tmp 3), 42, none⟩, ⟨some 7, .call ⟨.value (.func 70), #[.tmp 6], #[42]⟩, 4, none⟩, ⟨some 8, .unOp .not 4 (.tmp 7), 4, none⟩, ⟨some 5, .assign (.tmp 8), 4, none⟩] := vR rfl
@[push_cast] theorem vr28_2 : VR r28_2 [⟨some 4, .assign (.const (.int .i64 221)), 53, none⟩] := vR rfl
@[push_cast] theorem vr28_3 : VR r28_3 [⟨some 10, .load 24 (.tmp 2), 24, none⟩, ⟨some 11, .load 42 (.tmp 3), 42, none⟩, ⟨some 12, .call ⟨.value (.func 71), #[.tmp 10, .tmp 11], #[24, 42]⟩, 4, none⟩, ⟨some 13, .unOp .not 4 (.tmp 12), 4, none⟩, ⟨some 9, .assign (.tmp 13), 4, none⟩] := vR rfl
@[push_cast] theorem vr28_4 : VR r28_4 [⟨some 4, .assign (.const (.int .i64 231)), 53, none⟩] := vR rfl
@[push_cast] theorem vr28_5 : VR r28_5 [⟨some 15, .load 42 (.tmp 3), 42, none⟩, ⟨some 16, .call ⟨.value (.func 72), #[.tmp 15], #[42]⟩, 4, none⟩, ⟨some 17, .unOp .not 4 (.tmp 16), 4, none⟩, ⟨some 14, .assign (.tmp 17), 4, none⟩] := vR rfl
@[push_cast] theorem vr28_6 : VR r28_6 [⟨some 4, .assign (.const (.int .i64 232)), 53, none⟩] := vR rfl
@[push_cast] theorem vr28_7 : VR r28_7 [⟨some 4, .assign (.const (.int .i64 0)), 53, none⟩] := vR rfl
/-! 29 columbary/columbarylaw23.alive (params #[], results #[(.tmp 0)], 37 slots) -/
def r29_0 : List VOp :=
  [⟨some 0, .assign (.const (.bool false)), 4, none⟩]
def r29_1 : List VOp :=
  [⟨some 4, .buildSlice 22 3 #[(0, (.const (.string { data := #[97] }))), (1, (.const (.string { data := #[98] }))), (2, (.const (.string { data := #[99] })))], 22, none⟩,
   ⟨some 5, .buildSlice 22 1 #[(0, (.const (.string { data := #[109] })))], 22, none⟩,
   ⟨some 6, .build 24 #[(0, (.tmp 4)), (1, (.tmp 5))], 24, none⟩,
   ⟨some 1, .alloc 24, 0, none⟩,
   ⟨none, .store 24 (.tmp 1) (.tmp 6), 0, none⟩]
def r29_2 : List VOp :=
  [⟨some 7, .build 63 #[(0, (.const (.int .i64 1))), (1, (.const (.string { data := #[109] })))], 63, none⟩,
   ⟨some 8, .buildSlice 35 1 #[(0, (.tmp 7))], 35, none⟩,
   ⟨some 9, .buildSlice 22 1 #[(0, (.const (.string { data := #[99] })))], 22, none⟩,
   ⟨some 10, .build 39 #[(0, (.const (.int .i64 1))), (1, (.const (.string { data := #[97] }))), (2, (.const (.string { data := #[120] })))], 39, none⟩,
   ⟨some 11, .build 42 #[(0, (.tmp 8)), (2, (.const (.int .i64 50))), (3, (.const (.int .i64 10))), (4, (.tmp 9)), (5, (.tmp 10))], 42, none⟩,
   ⟨some 2, .alloc 42, 0, none⟩,
   ⟨none, .store 42 (.tmp 2) (.tmp 11), 0, none⟩]
def r29_3 : List VOp :=
  [lda 12 42 2,
   ⟨some 3, .alloc 42, 0, none⟩,
   ⟨none, .store 42 (.tmp 3) (.tmp 12), 0, none⟩]
def r29_4 : List VOp :=
  [⟨some 13, .buildSlice 22 1 #[(0, (.const (.string { data := #[100] })))], 22, none⟩,
   fad 14 42 3 4,
   ⟨none, .store 22 (.tmp 14) (.tmp 13), 0, none⟩]
def r29_5 : List VOp :=
  [lda 15 24 1,
   lda 16 42 2,
   ⟨some 17, .call ⟨.value (.func 28), #[.tmp 15, .tmp 16], #[24, 42]⟩, 53, none⟩,
   ⟨some 18, .binOp .eql 53 (.tmp 17) (.const (.int .i64 0)) 53, 4, none⟩,
   mv 19 18 4,
   ⟨some 20, .load 24 (.tmp 1), 24, some (19, true)⟩,
   ⟨some 21, .load 42 (.tmp 3), 42, some (19, true)⟩,
   ⟨some 22, .call ⟨.value (.func 28), #[.tmp 20, .tmp 21], #[24, 42]⟩, 53, some (19, true)⟩,
   ⟨some 23, .binOp .eql 53 (.tmp 22) (.const (.int .i64 231)) 53, 4, some (19, true)⟩,
   ⟨some 24, .pick (.tmp 19) (.tmp 23) (.const (.bool false)), 4, none⟩,
   mv 25 24 4,
   ⟨some 26, .load 24 (.tmp 1), 24, some (25, true)⟩,
   ⟨some 27, .load 42 (.tmp 2), 42, some (25, true)⟩,
   ⟨some 28, .call ⟨.value (.func 30), #[.tmp 26, .tmp 27], #[24, 42]⟩, 22, some (25, true)⟩,
   ⟨some 29, .buildSlice 22 2 #[(0, (.const (.string { data := #[97] }))), (1, (.const (.string { data := #[99] })))], 22, some (25, true)⟩,
   ⟨some 30, .call ⟨.value (.func 32), #[.tmp 28, .tmp 29], #[22, 22]⟩, 4, some (25, true)⟩,
   ⟨some 31, .pick (.tmp 25) (.tmp 30) (.const (.bool false)), 4, none⟩,
   mv 32 31 4,
   ⟨some 33, .load 42 (.tmp 2), 42, some (32, true)⟩,
   ⟨some 34, .call ⟨.value (.func 62), #[(.tmp 33), (.const (.int .i64 37))], #[42, 3]⟩, 3, some (32, true)⟩,
   ⟨some 35, .binOp .eql 3 (.tmp 34) (.const (.int .i64 30)) 3, 4, some (32, true)⟩,
   ⟨some 36, .pick (.tmp 32) (.tmp 35) (.const (.bool false)), 4, none⟩,
   asg 0 36 4]
def B29 : VC :=
  (.seq (.region r29_0) (.seq (.region r29_1) (.seq (.region r29_2) (.seq (.region r29_3) (.seq (.region r29_4) (.seq (.region r29_5) .ret))))))
theorem code29 : ∃ c, Try.f29.body = some c ∧ abs Try.f29.ntmps c = B29 := ⟨_, rfl, by kernel_rfl⟩
theorem hb29 : HasBody Try.prog 29 := hasBody_of Try.func29 (by kernel_rfl)
theorem res29 : Try.f29.results = #[(.tmp 0)] := rfl
theorem enter29 {w : World} {R : Value → World → Prop} (h : vc Try.prog B29 (retK Try.prog #[(.tmp 0)] R) [] (initEnv [] 0) w) : FnC Try.prog 29 #[] w R := by
  obtain ⟨c, h1, h2⟩ := code29
  exact hb29.fn (ret_of_vc mixed Try.func29 h1 (Nat.le_of_ble_eq_true rfl) B29 h2 h)
@[push_cast] theorem vr29_0 : VR r29_0 [⟨some 0, .assign (.const (.bool false)), 4, none⟩] := vR rfl
@[push_cast] theorem vr29_1 : VR r29_1 [⟨some 4, .buildSlice 22 3 #[(0, (.const (.string { data := #[97] }))), (1, (.const (.string { data := #[98] }))), (2, (.const (.string { data := #[99] })))], 22, none⟩, ⟨some 5, .buildSlice 22 1 #[(0, (.const (.string { data := #[109] })))], 22, none⟩, ⟨some 6, .build 24 #[(0, (.tmp 4)), (1, (.tmp 5))], 24, none⟩, ⟨some 1, .alloc 24, 0, none⟩, ⟨none, .store 24 (.tmp 1) (.tmp 6), 0, none⟩] := vR rfl
@[push_cast] theorem vr29_2 : VR r29_2 [⟨some 7, .build 63 #[(0, (.const (.int .i64 1))), (1, (.const (.string { data := #[109] })))], 63, none⟩, ⟨some 8, .buildSlice 35 1 #[(0, (.tmp 7))], 35, none⟩, ⟨some 9, .buildSlice 22 1 #[(0, (.const (.string { data := #[99] })))], 22, none⟩, ⟨some 10, .build 39 #[(0, (.const (.int .i64 1))), (1, (.const (.string { data := #[97] }))), (2, (.const (.string { data := #[120] })))], 39, none⟩, ⟨some 11, .build 42 #[(0, (.tmp 8)), (2, (.const (.int .i64 50))), (3, (.const (.int .i64 10))), (4, (.tmp 9)), (5, (.tmp 10))], 42, none⟩, ⟨some 2, .alloc 42, 0, none⟩, ⟨none, .store 42 (.tmp 2) (.tmp 11), 0, none⟩] := vR rfl
@[push_cast] theorem vr29_3 : VR r29_3 [⟨some 12, .load 42 (.tmp 2), 42, none⟩, ⟨some 3, .alloc 42, 0, none⟩, ⟨none, .store 42 (.tmp 3) (.tmp 12), 0, none⟩] := vR rfl
@[push_cast] theorem vr29_4 : VR r29_4 [⟨some 13, .buildSlice 22 1 #[(0, (.const (.string { data := #[100] })))], 22, none⟩, ⟨some 14, .fieldAddr 42 (.tmp 3) 4, 0, none⟩, ⟨none, .store 22 (.tmp 14) (.tmp 13), 0, none⟩] := vR rfl
@[push_cast] theorem vr29_5 : VR r29_5 [⟨some 15, .load 24 (.tmp 1), 24, none⟩, ⟨some 16, .load 42 (.tmp 2), 42, none⟩, ⟨some 17, .call ⟨.value (.func 28), #[.tmp 15, .tmp 16], #[24, 42]⟩, 53, none⟩, ⟨some 18, .binOp .eql 53 (.tmp 17) (.const (.int .i64 0)) 53, 4, none⟩, ⟨some 19, .move (.tmp 18), 4, none⟩, ⟨some 20, .load 24 (.tmp 1), 24, some (19, true)⟩, ⟨some 21, .load 42 (.tmp 3), 42, some (19, true)⟩, ⟨some 22, .call ⟨.value (.func 28), #[.tmp 20, .tmp 21], #[24, 42]⟩, 53, some (19, true)⟩, ⟨some 23, .binOp .eql 53 (.tmp 22) (.const (.int .i64 231)) 53, 4, some (19, true)⟩, ⟨some 24, .pick (.tmp 19) (.tmp 23) (.const (.bool false)), 4, none⟩, ⟨some 25, .move (.tmp 24), 4, none⟩, ⟨some 26, .load 24 (.tmp 1), 24, some (25, true)⟩, ⟨some 27, .load 42 (.tmp 2), 42, some (25, true)⟩, ⟨some 28, .call ⟨.value (.func 30), #[.tmp 26, .tmp 27], #[24, 42]⟩, 22, some (25, true)⟩, ⟨some 29, .buildSlice 22 2 #[(0, (.const (.string { data := #[97] }))), (1, (.const (.string { data := #[99] })))], 22, some (25, true)⟩, ⟨some 30, .call ⟨.value (.func 32), #[.tmp 28, .tmp 29], #[22, 22]⟩, 4, some (25, true)⟩, ⟨some 31, .pick (.tmp 25) (.tmp 30) (.const (.bool false)), 4, none⟩, ⟨some 32, .move (.tmp 31), 4, none⟩, ⟨some 33, .load 42 (.tmp 2), 42, some (32, true)⟩, ⟨some 34, .call ⟨.value (.func 62), #[(.tmp 33), (.const (.int .i64 37))], #[42, 3]⟩, 3, some (32, true)⟩, ⟨some 35, .binOp .eql 3 (.tmp 34) (.const (.int .i64 30)) 3, 4, some (32, true)⟩, ⟨some 36, .pick (.tmp 32) (.tmp 35) (.const (.bool false)), 4, none⟩, ⟨some 0, .assign (.tmp 36), 4, none⟩] := vR rfl
/-! 62 columbary/typer.Bucket (params #[42, 3], results #[(.tmp 4)], 20 slots) -/
def r62_0 : List VOp :=
  [⟨some 2, .box 42 (.tmp 0), 0, none⟩,
   ⟨some 4, .assign (.const (.int .i64 0)), 3, none⟩]
def r62_1 : List VOp :=
  [fad 7 42 2 3,
   lda 8 3 7,
   ⟨some 9, .binOp .eql 3 (.tmp 8) (.const (.int .i64 0)) 3, 4, none⟩]
def r62_2 : List VOp :=
  [fad 10 42 2 1,
   lda 11 3 10,
   asg 4 11 3]
def r62_3 : List VOp :=
  [mv 13 1 3,
   fad 14 42 2 3,
   lda 15 3 14,
   ⟨some 16, .call ⟨.value (.func 98), #[.tmp 13, .tmp 15], #[3, 3]⟩, 137, none⟩,
   mv 12 16 137,
   ext 17 12 0 3,
   ext 18 12 1 53,
   asg 5 17 3,
   asg 6 18 53]
def r62_4 : List VOp :=
  [mv 19 5 3,
   asg 4 19 3]
def B62 : VC :=
  (.seq (.region r62_0) (.seq (.seq (.region r62_1) (.cond (.tmp 9) (.seq (.region r62_2) .ret) .skip)) (.seq (.region r62_3) (.seq (.region r62_4) .ret))))
theorem code62 : ∃ c, Try.f62.body = some c ∧ abs Try.f62.ntmps c = B62 := ⟨_, rfl, by kernel_rfl⟩
theorem hb62 : HasBody Try.prog 62 := hasBody_of Try.func62 (by kernel_rfl)
theorem res62 : Try.f62.results = #[(.tmp 4)] := rfl
theorem enter62 {w : World} {R : Value → World → Prop} (x0 x1 : Value) (h : vc Try.prog B62 (retK Try.prog #[(.tmp 4)] R) [] (initEnv [x0, x1] 0) w) : FnC Try.prog 62 #[x0, x1] w R := by
  obtain ⟨c, h1, h2⟩ := code62
  exact hb62.fn (ret_of_vc mixed Try.func62 h1 (Nat.le_of_ble_eq_true rfl) B62 h2 h)
@[push_cast] theorem vr62_0 : VR r62_0 [⟨some 2, .box 42 (.tmp 0), 0, none⟩, ⟨some 4, .assign (.const (.int .i64 0)), 3, none⟩] := vR rfl
@[push_cast] theorem vr62_1 : VR r62_1 [⟨some 7, .fieldAddr 42 (.tmp 2) 3, 0, none⟩, ⟨some 8, .load 3 (.tmp 7), 3, none⟩, ⟨some 9, .binOp .eql 3 (.tmp 8) (.const (.int .i64 0)) 3, 4, none⟩] := vR rfl
@[push_cast] theorem vr62_2 : VR r62_2 [⟨some 10, .fieldAddr 42 (.tmp 2) 1, 0, none⟩, ⟨some 11, .load 3 (.tmp 10), 3, none⟩, ⟨some 4, .assign (.tmp 11), 3, none⟩] := vR rfl
@[push_cast] theorem vr62_3 : VR r62_3 [⟨some 13, .move (.tmp 1), 3, none⟩, ⟨some 14, .fieldAddr 42 (.tmp 2) 3, 0, none⟩, ⟨some 15, .load 3 (.tmp 14), 3, none⟩, ⟨some 16, .call ⟨.value (.func 98), #[.tmp 13, .tmp 15], #[3, 3]⟩, 137, none⟩, ⟨some 12, .move (.tmp 16), 137, none⟩, ⟨some 17, .extract (.tmp 12) 0, 3, none⟩, ⟨some 18, .extract (.tmp 12) 1, 53, none⟩, ⟨some 5, .assign (.tmp 17), 3, none⟩, ⟨some 6, .assign (.tmp 18), 53, none⟩] := vR rfl
@[push_cast] theorem vr62_4 : VR r62_4 [⟨some 19, .move (.tmp 5), 3, none⟩, ⟨some 4, .assign (.tmp 19), 3, none⟩] := vR rfl
/-! 70 columbary/typer.shaped (params #[42], results #[(.tmp 2)], 59 slots) -/
def r70_0 : List VOp :=
  [⟨some 1, .box 42 (.tmp 0), 0, none⟩,
   ⟨some 2, .assign (.const (.bool false)), 4, none⟩]
def r70_1 : List VOp :=
  [fad 5 42 1 0,
   lda 6 35 5,
   ⟨some 7, .call ⟨.builtin .len, #[.tmp 6], #[35]⟩, 3, none⟩,
   ⟨some 8, .binOp .geq 3 (.tmp 7) (.const (.int .i64 1)) 3, 4, none⟩,
   mv 9 8 4,
   ⟨some 10, .fieldAddr 42 (.tmp 1) 0, 0, some (9, true)⟩,
   ⟨some 11, .load 35 (.tmp 10), 35, some (9, true)⟩,
   ⟨some 12, .call ⟨.builtin .len, #[.tmp 11], #[35]⟩, 3, some (9, true)⟩,
   ⟨some 13, .binOp .leq 3 (.tmp 12) (.const (.int .i64 8)) 3, 4, some (9, true)⟩,
   ⟨some 14, .pick (.tmp 9) (.tmp 13) (.const (.bool false)), 4, none⟩,
   mv 15 14 4,
   ⟨some 16, .fieldAddr 42 (.tmp 1) 4, 0, some (15, true)⟩,
   ⟨some 17, .load 22 (.tmp 16), 22, some (15, true)⟩,
   ⟨some 18, .call ⟨.builtin .len, #[.tmp 17], #[22]⟩, 3, some (15, true)⟩,
   ⟨some 19, .binOp .leq 3 (.tmp 18) (.const (.int .i64 6)) 3, 4, some (15, true)⟩,
   ⟨some 20, .pick (.tmp 15) (.tmp 19) (.const (.bool false)), 4, none⟩,
   mv 21 20 4,
   ⟨some 22, .fieldAddr 42 (.tmp 1) 6, 0, some (21, true)⟩,
   ⟨some 23, .load 40 (.tmp 22), 40, some (21, true)⟩,
   ⟨some 24, .call ⟨.builtin .len, #[.tmp 23], #[40]⟩, 3, some (21, true)⟩,
   ⟨some 25, .binOp .leq 3 (.tmp 24) (.const (.int .i64 8)) 3, 4, some (21, true)⟩,
   ⟨some 26, .pick (.tmp 21) (.tmp 25) (.const (.bool false)), 4, none⟩,
   asg 3 26 4]
def r70_2 : List VOp :=
  [mv 27 3 4,
   ⟨some 28, .unOp .not 4 (.tmp 27), 4, none⟩,
   mv 29 28 4,
   ⟨some 30, .fieldAddr 42 (.tmp 1) 0, 0, some (29, false)⟩,
   ⟨some 31, .load 35 (.tmp 30), 35, some (29, false)⟩,
   ⟨some 32, .call ⟨.value (.func 108), #[(.tmp 31), (.func 109)], #[35, 153]⟩, 4, some (29, false)⟩,
   ⟨some 33, .pick (.tmp 29) (.const (.bool true)) (.tmp 32), 4, none⟩]
def r70_3 : List VOp :=
  [⟨some 2, .assign (.const (.bool false)), 4, none⟩]
def r70_4 : List VOp :=
  [fad 34 42 1 6,
   lda 35 40 34,
   ⟨some 36, .call ⟨.value (.func 103), #[(.tmp 35), (.func 111)], #[40, 147]⟩, 4, none⟩]
def r70_5 : List VOp :=
  [⟨some 2, .assign (.const (.bool false)), 4, none⟩]
def r70_6 : List VOp :=
  [fad 37 42 1 5,
   lda 38 39 37,
   ⟨some 4, .alloc 39, 0, none⟩,
   ⟨none, .store 39 (.tmp 4) (.tmp 38), 0, none⟩]
def r70_7 : List VOp :=
  [fad 39 39 4 0,
   lda 40 36 39,
   ⟨some 41, .binOp .eql 36 (.tmp 40) (.const (.int .i64 0)) 36, 4, none⟩]
def r70_8 : List VOp :=
  [fad 42 39 4 3,
   lda 43 37 42,
   ⟨some 44, .call ⟨.builtin .len, #[.tmp 43], #[37]⟩, 3, none⟩,
   ⟨some 45, .binOp .eql 3 (.tmp 44) (.const (.int .i64 0)) 3, 4, none⟩,
   mv 46 45 4,
   ⟨some 47, .fieldAddr 39 (.tmp 4) 1, 0, some (46, true)⟩,
   ⟨some 48, .load 9 (.tmp 47), 9, some (46, true)⟩,
   ⟨some 49, .binOp .eql 9 (.tmp 48) (.const (.string { data := #[] })) 9, 4, some (46, true)⟩,
   ⟨some 50, .pick (.tmp 46) (.tmp 49) (.const (.bool false)), 4, none⟩,
   mv 51 50 4,
   ⟨some 52, .fieldAddr 39 (.tmp 4) 2, 0, some (51, true)⟩,
   ⟨some 53, .load 9 (.tmp 52), 9, some (51, true)⟩,
   ⟨some 54, .binOp .eql 9 (.tmp 53) (.const (.string { data := #[] })) 9, 4, some (51, true)⟩,
   ⟨some 55, .pick (.tmp 51) (.tmp 54) (.const (.bool false)), 4, none⟩,
   asg 2 55 4]
def r70_9 : List VOp :=
  [fad 56 42 1 5,
   lda 57 39 56,
   ⟨some 58, .call ⟨.value (.func 112), #[(.tmp 57), (.const (.int .i64 30))], #[39, 3]⟩, 4, none⟩,
   asg 2 58 4]
def B70 : VC :=
  (.seq (.region r70_0) (.seq (.region r70_1) (.seq (.seq (.region r70_2) (.cond (.tmp 33) (.seq (.region r70_3) .ret) .skip)) (.seq (.seq (.region r70_4) (.cond (.tmp 36) (.seq (.region r70_5) .ret) .skip)) (.seq (.seq (.region r70_6) (.seq (.region r70_7) (.cond (.tmp 41) (.seq (.region r70_8) .ret) .skip))) (.seq (.region r70_9) .ret))))))
theorem code70 : ∃ c, Try.f70.body = some c ∧ abs Try.f70.ntmps c = B70 := ⟨_, rfl, by kernel_rfl⟩
theorem hb70 : HasBody Try.prog 70 := hasBody_of Try.func70 (by kernel_rfl)
theorem res70 : Try.f70.results = #[(.tmp 2)] := rfl
theorem enter70 {w : World} {R : Value → World → Prop} (x0 : Value) (h : vc Try.prog B70 (retK Try.prog #[(.tmp 2)] R) [] (initEnv [x0] 0) w) : FnC Try.prog 70 #[x0] w R := by
  obtain ⟨c, h1, h2⟩ := code70
  exact hb70.fn (ret_of_vc mixed Try.func70 h1 (Nat.le_of_ble_eq_true rfl) B70 h2 h)
@[push_cast] theorem vr70_0 : VR r70_0 [⟨some 1, .box 42 (.tmp 0), 0, none⟩, ⟨some 2, .assign (.const (.bool false)), 4, none⟩] := vR rfl
@[push_cast] theorem vr70_1 : VR r70_1 [⟨some 5, .fieldAddr 42 (.tmp 1) 0, 0, none⟩, ⟨some 6, .load 35 (.tmp 5), 35, none⟩, ⟨some 7, .call ⟨.builtin .len, #[.tmp 6], #[35]⟩, 3, none⟩, ⟨some 8, .binOp .geq 3 (.tmp 7) (.const (.int .i64 1)) 3, 4, none⟩, ⟨some 9, .move (.tmp 8), 4, none⟩, ⟨some 10, .fieldAddr 42 (.tmp 1) 0, 0, some (9, true)⟩, ⟨some 11, .load 35 (.tmp 10), 35, some (9, true)⟩, ⟨some 12, .call ⟨.builtin .len, #[.tmp 11], #[35]⟩, 3, some (9, true)⟩, ⟨some 13, .binOp .leq 3 (.tmp 12) (.const (.int .i64 8)) 3, 4, some (9, true)⟩, ⟨some 14, .pick (.tmp 9) (.tmp 13) (.const (.bool false)), 4, none⟩, ⟨some 15, .move (.tmp 14), 4, none⟩, ⟨some 16, .fieldAddr 42 (.tmp 1) 4, 0, some (15, true)⟩, ⟨some 17, .load 22 (.tmp 16), 22, some (15, true)⟩, ⟨some 18, .call ⟨.builtin .len, #[.tmp 17], #[22]⟩, 3, some (15, true)⟩, ⟨some 19, .binOp .leq 3 (.tmp 18) (.const (.int .i64 6)) 3, 4, some (15, true)⟩, ⟨some 20, .pick (.tmp 15) (.tmp 19) (.const (.bool false)), 4, none⟩, ⟨some 21, .move (.tmp 20), 4, none⟩, ⟨some 22, .fieldAddr 42 (.tmp 1) 6, 0, some (21, true)⟩, ⟨some 23, .load 40 (.tmp 22), 40, some (21, true)⟩, ⟨some 24, .call ⟨.builtin .len, #[.tmp 23], #[40]⟩, 3, some (21, true)⟩, ⟨some 25, .binOp .leq 3 (.tmp 24) (.const (.int .i64 8)) 3, 4, some (21, true)⟩, ⟨some 26, .pick (.tmp 21) (.tmp 25) (.const (.bool false)), 4, none⟩, ⟨some 3, .assign (.tmp 26), 4, none⟩] := vR rfl
@[push_cast] theorem vr70_2 : VR r70_2 [⟨some 27, .move (.tmp 3), 4, none⟩, ⟨some 28, .unOp .not 4 (.tmp 27), 4, none⟩, ⟨some 29, .move (.tmp 28), 4, none⟩, ⟨some 30, .fieldAddr 42 (.tmp 1) 0, 0, some (29, false)⟩, ⟨some 31, .load 35 (.tmp 30), 35, some (29, false)⟩, ⟨some 32, .call ⟨.value (.func 108), #[(.tmp 31), (.func 109)], #[35, 153]⟩, 4, some (29, false)⟩, ⟨some 33, .pick (.tmp 29) (.const (.bool true)) (.tmp 32), 4, none⟩] := vR rfl
@[push_cast] theorem vr70_3 : VR r70_3 [⟨some 2, .assign (.const (.bool false)), 4, none⟩] := vR rfl
@[push_cast] theorem vr70_4 : VR r70_4 [⟨some 34, .fieldAddr 42 (.tmp 1) 6, 0, none⟩, ⟨some 35, .load 40 (.tmp 34), 40, none⟩, ⟨some 36, .call ⟨.value (.func 103), #[(.tmp 35), (.func 111)], #[40, 147]⟩, 4, none⟩] := vR rfl
@[push_cast] theorem vr70_5 : VR r70_5 [⟨some 2, .assign (.const (.bool false)), 4, none⟩] := vR rfl
@[push_cast] theorem vr70_6 : VR r70_6 [⟨some 37, .fieldAddr 42 (.tmp 1) 5, 0, none⟩, ⟨some 38, .load 39 (.tmp 37), 39, none⟩, ⟨some 4, .alloc 39, 0, none⟩, ⟨none, .store 39 (.tmp 4) (.tmp 38), 0, none⟩] := vR rfl
@[push_cast] theorem vr70_7 : VR r70_7 [⟨some 39, .fieldAddr 39 (.tmp 4) 0, 0, none⟩, ⟨some 40, .load 36 (.tmp 39), 36, none⟩, ⟨some 41, .binOp .eql 36 (.tmp 40) (.const (.int .i64 0)) 36, 4, none⟩] := vR rfl
@[push_cast] theorem vr70_8 : VR r70_8 [⟨some 42, .fieldAddr 39 (.tmp 4) 3, 0, none⟩, ⟨some 43, .load 37 (.tmp 42), 37, none⟩, ⟨some 44, .call ⟨.builtin .len, #[.tmp 43], #[37]⟩, 3, none⟩, ⟨some 45, .binOp .eql 3 (.tmp 44) (.const (.int .i64 0)) 3, 4, none⟩, ⟨some 46, .move (.tmp 45), 4, none⟩, ⟨some 47, .fieldAddr 39 (.tmp 4) 1, 0, some (46, true)⟩, ⟨some 48, .load 9 (.tmp 47), 9, some (46, true)⟩, ⟨some 49, .binOp .eql 9 (.tmp 48) (.const (.string { data := #[] })) 9, 4, some (46, true)⟩, ⟨some 50, .pick (.tmp 46) (.tmp 49) (.const (.bool false)), 4, none⟩, ⟨some 51, .move (.tmp 50), 4, none⟩, ⟨some 52, .fieldAddr 39 (.tmp 4) 2, 0, some (51, true)⟩, ⟨some 53, .load 9 (.tmp 52), 9, some (51, true)⟩, ⟨some 54, .binOp .eql 9 (.tmp 53) (.const (.string { data := #[] })) 9, 4, some (51, true)⟩, ⟨some 55, .pick (.tmp 51) (.tmp 54) (.const (.bool false)), 4, none⟩, ⟨some 2, .assign (.tmp 55), 4, none⟩] := vR rfl
@[push_cast] theorem vr70_9 : VR r70_9 [⟨some 56, .fieldAddr 42 (.tmp 1) 5, 0, none⟩, ⟨some 57, .load 39 (.tmp 56), 39, none⟩, ⟨some 58, .call ⟨.value (.func 112), #[(.tmp 57), (.const (.int .i64 30))], #[39, 3]⟩, 4, none⟩, ⟨some 2, .assign (.tmp 58), 4, none⟩] := vR rfl
/-! 71 columbary/typer.named (params #[24, 42], results #[(.tmp 4)], 32 slots) -/
def W71_0 : List Nat := [5, 7, 14, 15, 16, 17, 18, 19, 20, 21, 22, 23]
@[push_cast] theorem W71_0_def : W71_0 = [5, 7, 14, 15, 16, 17, 18, 19, 20, 21, 22, 23] := mk_eq rfl
def r71_0 : List VOp :=
  [⟨some 2, .box 24 (.tmp 0), 0, none⟩,
   ⟨some 3, .box 42 (.tmp 1), 0, none⟩,
   ⟨some 4, .assign (.const (.bool false)), 4, none⟩]
def r71_1 : List VOp :=
  [fad 8 42 3 0,
   lda 9 35 8,
   ⟨some 10, .call ⟨.value (.func 113), #[.tmp 9], #[35]⟩, 35, none⟩,
   asg 5 10 35]
def r71_2 : List VOp :=
  [fad 11 42 3 6,
   lda 12 40 11,
   ⟨some 13, .call ⟨.builtin .len, #[.tmp 12], #[40]⟩, 3, none⟩,
   ⟨some 14, .move (.const (.int .i64 0)), 3, none⟩]
def r71_3 : List VOp :=
  [⟨some 15, .binOp .lss 3 (.tmp 14) (.tmp 13) 3, 0, none⟩]
def r71_4 : List VOp :=
  [iad 16 40 12 14,
   lda 17 146 16,
   ⟨some 7, .alloc 146, 0, none⟩,
   ⟨none, .store 146 (.tmp 7) (.tmp 17), 0, none⟩]
def r71_5 : List VOp :=
  [mv 18 5 35,
   fad 19 146 7 0,
   lda 20 63 19,
   ⟨some 21, .buildSlice 35 1 #[(0, (.tmp 20))], 35, none⟩,
   ⟨some 22, .call ⟨.builtin .append, #[.tmp 18, .tmp 21], #[35, 35]⟩, 35, none⟩,
   asg 5 22 35]
def r71_6 : List VOp :=
  [⟨some 23, .binOp .add 3 (.tmp 14) (.const (.int .i64 1)) 3, 3, none⟩,
   mv 14 23 3]
def r71_7 : List VOp :=
  [mv 24 5 35,
   ⟨some 25, .makeFunc (Fn.func 114) #[] #[(.tmp 2)], 153, none⟩,
   ⟨some 26, .call ⟨.value (.func 108), #[.tmp 24, .tmp 25], #[35, 153]⟩, 4, none⟩]
def r71_8 : List VOp :=
  [⟨some 4, .assign (.const (.bool false)), 4, none⟩]
def r71_9 : List VOp :=
  [lda 27 42 3,
   ⟨some 28, .call ⟨.value (.func 73), #[.tmp 27], #[42]⟩, 22, none⟩,
   ⟨some 29, .makeFunc (Fn.func 115) #[] #[(.tmp 2)], 90, none⟩,
   ⟨some 30, .call ⟨.value (.func 36), #[.tmp 28, .tmp 29], #[22, 90]⟩, 4, none⟩,
   ⟨some 31, .unOp .not 4 (.tmp 30), 4, none⟩,
   asg 4 31 4]
def B71 : VC :=
  (.seq (.region r71_0) (.seq (.region r71_1) (.seq (.seq (.region r71_2) (.block 0 (.loop (.seq (.region r71_3) (.seq (.cond (.tmp 15) .skip (.exit 0)) (.seq (.block 1 (.seq (.region r71_4) (.region r71_5))) (.region r71_6))))))) (.seq (.seq (.region r71_7) (.cond (.tmp 26) (.seq (.region r71_8) .ret) .skip)) (.seq (.region r71_9) .ret)))))
theorem code71 : ∃ c, Try.f71.body = some c ∧ abs Try.f71.ntmps c = B71 := ⟨_, rfl, by kernel_rfl⟩
theorem hb71 : HasBody Try.prog 71 := hasBody_of Try.func71 (by kernel_rfl)
theorem res71 : Try.f71.results = #[(.tmp 4)] := rfl
theorem enter71 {w : World} {R : Value → World → Prop} (x0 x1 : Value) (h : vc Try.prog B71 (retK Try.prog #[(.tmp 4)] R) [] (initEnv [x0, x1] 0) w) : FnC Try.prog 71 #[x0, x1] w R := by
  obtain ⟨c, h1, h2⟩ := code71
  exact hb71.fn (ret_of_vc mixed Try.func71 h1 (Nat.le_of_ble_eq_true rfl) B71 h2 h)
@[push_cast] theorem vr71_0 : VR r71_0 [⟨some 2, .box 24 (.tmp 0), 0, none⟩, ⟨some 3, .box 42 (.tmp 1), 0, none⟩, ⟨some 4, .assign (.const (.bool false)), 4, none⟩] := vR rfl
@[push_cast] theorem vr71_1 : VR r71_1 [⟨some 8, .fieldAddr 42 (.tmp 3) 0, 0, none⟩, ⟨some 9, .load 35 (.tmp 8), 35, none⟩, ⟨some 10, .call ⟨.value (.func 113), #[.tmp 9], #[35]⟩, 35, none⟩, ⟨some 5, .assign (.tmp 10), 35, none⟩] := vR rfl
@[push_cast] theorem vr71_2 : VR r71_2 [⟨some 11, .fieldAddr 42 (.tmp 3) 6, 0, none⟩, ⟨some 12, .load 40 (.tmp 11), 40, none⟩, ⟨some 13, .call ⟨.builtin .len, #[.tmp 12], #[40]⟩, 3, none⟩, ⟨some 14, .move (.const (.int .i64 0)), 3, none⟩] := vR rfl
@[push_cast] theorem vr71_3 : VR r71_3 [⟨some 15, .binOp .lss 3 (.tmp 14) (.tmp 13) 3, 0, none⟩] := vR rfl
@[push_cast] theorem vr71_4 : VR r71_4 [⟨some 16, .indexAddr 40 (.tmp 12) (.tmp 14), 0, none⟩, ⟨some 17, .load 146 (.tmp 16), 146, none⟩, ⟨some 7, .alloc 146, 0, none⟩, ⟨none, .store 146 (.tmp 7) (.tmp 17), 0, none⟩] := vR rfl
@[push_cast] theorem vr71_5 : VR r71_5 [⟨some 18, .move (.tmp 5), 35, none⟩, ⟨some 19, .fieldAddr 146 (.tmp 7) 0, 0, none⟩, ⟨some 20, .load 63 (.tmp 19), 63, none⟩, ⟨some 21, .buildSlice 35 1 #[(0, (.tmp 20))], 35, none⟩, ⟨some 22, .call ⟨.builtin .append, #[.tmp 18, .tmp 21], #[35, 35]⟩, 35, none⟩, ⟨some 5, .assign (.tmp 22), 35, none⟩] := vR rfl
@[push_cast] theorem vr71_6 : VR r71_6 [⟨some 23, .binOp .add 3 (.tmp 14) (.const (.int .i64 1)) 3, 3, none⟩, ⟨some 14, .move (.tmp 23), 3, none⟩] := vR rfl
@[push_cast] theorem vr71_7 : VR r71_7 [⟨some 24, .move (.tmp 5), 35, none⟩, ⟨some 25, .makeFunc (Fn.func 114) #[] #[(.tmp 2)], 153, none⟩, ⟨some 26, .call ⟨.value (.func 108), #[.tmp 24, .tmp 25], #[35, 153]⟩, 4, none⟩] := vR rfl
@[push_cast] theorem vr71_8 : VR r71_8 [⟨some 4, .assign (.const (.bool false)), 4, none⟩] := vR rfl
@[push_cast] theorem vr71_9 : VR r71_9 [⟨some 27, .load 42 (.tmp 3), 42, none⟩, ⟨some 28, .call ⟨.value (.func 73), #[.tmp 27], #[42]⟩, 22, none⟩, ⟨some 29, .makeFunc (Fn.func 115) #[] #[(.tmp 2)], 90, none⟩, ⟨some 30, .call ⟨.value (.func 36), #[.tmp 28, .tmp 29], #[22, 90]⟩, 4, none⟩, ⟨some 31, .unOp .not 4 (.tmp 30), 4, none⟩, ⟨some 4, .assign (.tmp 31), 4, none⟩] := vR rfl
/-! 72 columbary/typer.typed (params #[42], results #[(.tmp 2)], 82 slots) -/
def r72_0 : List VOp :=
  [⟨some 1, .box 42 (.tmp 0), 0, none⟩,
   ⟨some 2, .assign (.const (.bool false)), 4, none⟩]
def r72_1 : List VOp :=
  [fad 8 42 1 4,
   lda 9 22 8,
   ⟨some 10, .call ⟨.value (.func 117), #[.tmp 9], #[22]⟩, 158, none⟩,
   ⟨some 11, .call ⟨.value (.func 116), #[.tmp 10], #[158]⟩, 22, none⟩,
   asg 3 11 22]
def r72_2 : List VOp :=
  [mv 12 3 22,
   ⟨some 13, .call ⟨.value (.func 118), #[.tmp 12], #[22]⟩, 22, none⟩,
   ⟨some 14, .call ⟨.builtin .len, #[.tmp 13], #[22]⟩, 3, none⟩,
   fad 15 42 1 4,
   lda 16 22 15,
   ⟨some 17, .call ⟨.builtin .len, #[.tmp 16], #[22]⟩, 3, none⟩,
   ⟨some 18, .binOp .eql 3 (.tmp 14) (.tmp 17) 3, 4, none⟩,
   asg 4 18 4]
def r72_3 : List VOp :=
  [fad 19 42 1 5,
   lda 20 39 19,
   ⟨some 21, .call ⟨.value (.func 119), #[.tmp 20], #[39]⟩, 37, none⟩,
   ⟨some 22, .call ⟨.value (.func 96), #[(.tmp 21), (.func 120)], #[37, 135]⟩, 4, none⟩,
   ⟨some 23, .unOp .not 4 (.tmp 22), 4, none⟩,
   asg 5 23 4]
def r72_4 : List VOp :=
  [fad 24 42 1 1,
   lda 25 3 24,
   ⟨some 26, .binOp .geq 3 (.tmp 25) (.const (.int .i64 0)) 3, 4, none⟩,
   mv 27 26 4,
   ⟨some 28, .fieldAddr 42 (.tmp 1) 1, 0, some (27, true)⟩,
   ⟨some 29, .load 3 (.tmp 28), 3, some (27, true)⟩,
   ⟨some 30, .fieldAddr 42 (.tmp 1) 2, 0, some (27, true)⟩,
   ⟨some 31, .load 3 (.tmp 30), 3, some (27, true)⟩,
   ⟨some 32, .binOp .lss 3 (.tmp 29) (.tmp 31) 3, 4, some (27, true)⟩,
   ⟨some 33, .pick (.tmp 27) (.tmp 32) (.const (.bool false)), 4, none⟩,
   mv 34 33 4,
   ⟨some 35, .fieldAddr 42 (.tmp 1) 2, 0, some (34, true)⟩,
   ⟨some 36, .load 3 (.tmp 35), 3, some (34, true)⟩,
   ⟨some 37, .binOp .leq 3 (.tmp 36) (.const (.int .i64 1099511627776)) 3, 4, some (34, true)⟩,
   ⟨some 38, .pick (.tmp 34) (.tmp 37) (.const (.bool false)), 4, none⟩,
   mv 39 38 4,
   ⟨some 40, .fieldAddr 42 (.tmp 1) 3, 0, some (39, true)⟩,
   ⟨some 41, .load 3 (.tmp 40), 3, some (39, true)⟩,
   ⟨some 42, .binOp .eql 3 (.tmp 41) (.const (.int .i64 0)) 3, 4, some (39, true)⟩,
   ⟨some 43, .move (.tmp 42), 4, some (39, true)⟩,
   ⟨some 44, .fieldAddr 42 (.tmp 1) 3, 0, some (43, false)⟩,
   ⟨some 45, .load 3 (.tmp 44), 3, some (43, false)⟩,
   ⟨some 46, .call ⟨.value (.func 82), #[.tmp 45], #[3]⟩, 4, some (43, false)⟩,
   ⟨some 47, .pick (.tmp 43) (.const (.bool true)) (.tmp 46), 4, some (39, true)⟩,
   ⟨some 48, .pick (.tmp 39) (.tmp 47) (.const (.bool false)), 4, none⟩,
   asg 6 48 4]
def r72_5 : List VOp :=
  [fad 49 42 1 0,
   lda 50 35 49,
   ⟨some 51, .call ⟨.builtin .len, #[.tmp 50], #[35]⟩, 3, none⟩,
   asg 7 51 3]
def r72_6 : List VOp :=
  [mv 52 4 4,
   mv 53 52 4,
   ⟨some 54, .move (.tmp 5), 4, some (53, true)⟩,
   ⟨some 55, .pick (.tmp 53) (.tmp 54) (.const (.bool false)), 4, none⟩,
   mv 56 55 4,
   ⟨some 57, .move (.tmp 6), 4, some (56, true)⟩,
   ⟨some 58, .pick (.tmp 56) (.tmp 57) (.const (.bool false)), 4, none⟩,
   mv 59 58 4,
   ⟨some 60, .fieldAddr 42 (.tmp 1) 7, 0, some (59, true)⟩,
   ⟨some 61, .load 3 (.tmp 60), 3, some (59, true)⟩,
   ⟨some 62, .move (.tmp 7), 3, some (59, true)⟩,
   ⟨some 63, .unOp .neg 3 (.tmp 62), 3, some (59, true)⟩,
   ⟨some 64, .binOp .geq 3 (.tmp 61) (.tmp 63) 3, 4, some (59, true)⟩,
   ⟨some 65, .pick (.tmp 59) (.tmp 64) (.const (.bool false)), 4, none⟩,
   mv 66 65 4,
   ⟨some 67, .fieldAddr 42 (.tmp 1) 7, 0, some (66, true)⟩,
   ⟨some 68, .load 3 (.tmp 67), 3, some (66, true)⟩,
   ⟨some 69, .move (.tmp 7), 3, some (66, true)⟩,
   ⟨some 70, .binOp .leq 3 (.tmp 68) (.tmp 69) 3, 4, some (66, true)⟩,
   ⟨some 71, .pick (.tmp 66) (.tmp 70) (.const (.bool false)), 4, none⟩,
   mv 72 71 4,
   ⟨some 73, .fieldAddr 42 (.tmp 1) 8, 0, some (72, true)⟩,
   ⟨some 74, .load 3 (.tmp 73), 3, some (72, true)⟩,
   ⟨some 75, .binOp .geq 3 (.tmp 74) (.const (.int .i64 0)) 3, 4, some (72, true)⟩,
   ⟨some 76, .pick (.tmp 72) (.tmp 75) (.const (.bool false)), 4, none⟩,
   mv 77 76 4,
   ⟨some 78, .fieldAddr 42 (.tmp 1) 8, 0, some (77, true)⟩,
   ⟨some 79, .load 3 (.tmp 78), 3, some (77, true)⟩,
   ⟨some 80, .binOp .leq 3 (.tmp 79) (.const (.int .i64 1000)) 3, 4, some (77, true)⟩,
   ⟨some 81, .pick (.tmp 77) (.tmp 80) (.const (.bool false)), 4, none⟩,
   asg 2 81 4]
def B72 : VC :=
  (.seq (.region r72_0) (.seq (.region r72_1) (.seq (.drawA r72_2 3 [[], [0], [1], [], [3], [4], [2, 5], [6, 1, 0, 1, 2, 3, 4, 5, 6]]) (.seq (.region r72_3) (.seq (.region r72_4) (.seq (.region r72_5) (.seq (.region r72_6) .ret)))))))
theorem code72 : ∃ c, Try.f72.body = some c ∧ absT Try.f72.ntmps c = B72 := ⟨_, rfl, by kernel_rfl⟩
theorem hb72 : HasBody Try.prog 72 := hasBody_of Try.func72 (by kernel_rfl)
theorem res72 : Try.f72.results = #[(.tmp 2)] := rfl
theorem enter72 {w : World} {R : Value → World → Prop} (x0 : Value) (h : vc Try.prog B72 (retK Try.prog #[(.tmp 2)] R) [] (initEnv [x0] 0) w) : FnC Try.prog 72 #[x0] w R := by
  obtain ⟨c, h1, h2⟩ := code72
  exact hb72.fn (ret_of_vc mixed Try.func72 h1 (Nat.le_of_ble_eq_true rfl) B72 h2 h)
@[push_cast] theorem vr72_0 : VR r72_0 [⟨some 1, .box 42 (.tmp 0), 0, none⟩, ⟨some 2, .assign (.const (.bool false)), 4, none⟩] := vR rfl
@[push_cast] theorem vr72_1 : VR r72_1 [⟨some 8, .fieldAddr 42 (.tmp 1) 4, 0, none⟩, ⟨some 9, .load 22 (.tmp 8), 22, none⟩, ⟨some 10, .call ⟨.value (.func 117), #[.tmp 9], #[22]⟩, 158, none⟩, ⟨some 11, .call ⟨.value (.func 116), #[.tmp 10], #[158]⟩, 22, none⟩, ⟨some 3, .assign (.tmp 11), 22, none⟩] := vR rfl
@[push_cast] theorem vr72_2 : vc Try.prog (.drawA r72_2 3 [[], [0], [1], [], [3], [4], [2, 5], [6, 1, 0, 1, 2, 3, 4, 5, 6]]) Q ds σ w = drawnA Try.prog [⟨some 12, .move (.tmp 3), 22, none⟩, ⟨some 13, .call ⟨.value (.func 118), #[.tmp 12], #[22]⟩, 22, none⟩, ⟨some 14, .call ⟨.builtin .len, #[.tmp 13], #[22]⟩, 3, none⟩, ⟨some 15, .fieldAddr 42 (.tmp 1) 4, 0, none⟩, ⟨some 16, .load 22 (.tmp 15), 22, none⟩, ⟨some 17, .call ⟨.builtin .len, #[.tmp 16], #[22]⟩, 3, none⟩, ⟨some 18, .binOp .eql 3 (.tmp 14) (.tmp 17) 3, 4, none⟩, ⟨some 4, .assign (.tmp 18), 4, none⟩] 3 [[], [0], [1], [], [3], [4], [2, 5], [6, 1, 0, 1, 2, 3, 4, 5, 6]] (Q .normal ds) σ w := mk_eq rfl
@[push_cast] theorem vr72_3 : VR r72_3 [⟨some 19, .fieldAddr 42 (.tmp 1) 5, 0, none⟩, ⟨some 20, .load 39 (.tmp 19), 39, none⟩, ⟨some 21, .call ⟨.value (.func 119), #[.tmp 20], #[39]⟩, 37, none⟩, ⟨some 22, .call ⟨.value (.func 96), #[(.tmp 21), (.func 120)], #[37, 135]⟩, 4, none⟩, ⟨some 23, .unOp .not 4 (.tmp 22), 4, none⟩, ⟨some 5, .assign (.tmp 23), 4, none⟩] := vR rfl
@[push_cast] theorem vr72_4 : VR r72_4 [⟨some 24, .fieldAddr 42 (.tmp 1) 1, 0, none⟩, ⟨some 25, .load 3 (.tmp 24), 3, none⟩, ⟨some 26, .binOp .geq 3 (.tmp 25) (.const (.int .i64 0)) 3, 4, none⟩, ⟨some 27, .move (.tmp 26), 4, none⟩, ⟨some 28, .fieldAddr 42 (.tmp 1) 1, 0, some (27, true)⟩, ⟨some 29, .load 3 (.tmp 28), 3, some (27, true)⟩, ⟨some 30, .fieldAddr 42 (.tmp 1) 2, 0, some (27, true)⟩, ⟨some 31, .load 3 (.tmp 30), 3, some (27, true)⟩, ⟨some 32, .binOp .lss 3 (.tmp 29) (.tmp 31) 3, 4, some (27, true)⟩, ⟨some 33, .pick (.tmp 27) (.tmp 32) (.const (.bool false)), 4, none⟩, ⟨some 34, .move (.tmp 33), 4, none⟩, ⟨some 35, .fieldAddr 42 (.tmp 1) 2, 0, some (34, true)⟩, ⟨some 36, .load 3 (.tmp 35), 3, some (34, true)⟩, ⟨some 37, .binOp .leq 3 (.tmp 36) (.const (.int .i64 1099511627776)) 3, 4, some (34, true)⟩, ⟨some 38, .pick (.tmp 34) (.tmp 37) (.const (.bool false)), 4, none⟩, ⟨some 39, .move (.tmp 38), 4, none⟩, ⟨some 40, .fieldAddr 42 (.tmp 1) 3, 0, some (39, true)⟩, ⟨some 41, .load 3 (.tmp 40), 3, some (39, true)⟩, ⟨some 42, .binOp .eql 3 (.tmp 41) (.const (.int .i64 0)) 3, 4, some (39, true)⟩, ⟨some 43, .move (.tmp 42), 4, some (39, true)⟩, ⟨some 44, .fieldAddr 42 (.tmp 1) 3, 0, some (43, false)⟩, ⟨some 45, .load 3 (.tmp 44), 3, some (43, false)⟩, ⟨some 46, .call ⟨.value (.func 82), #[.tmp 45], #[3]⟩, 4, some (43, false)⟩, ⟨some 47, .pick (.tmp 43) (.const (.bool true)) (.tmp 46), 4, some (39, true)⟩, ⟨some 48, .pick (.tmp 39) (.tmp 47) (.const (.bool false)), 4, none⟩, ⟨some 6, .assign (.tmp 48), 4, none⟩] := vR rfl
@[push_cast] theorem vr72_5 : VR r72_5 [⟨some 49, .fieldAddr 42 (.tmp 1) 0, 0, none⟩, ⟨some 50, .load 35 (.tmp 49), 35, none⟩, ⟨some 51, .call ⟨.builtin .len, #[.tmp 50], #[35]⟩, 3, none⟩, ⟨some 7, .assign (.tmp 51), 3, none⟩] := vR rfl
@[push_cast] theorem vr72_6 : VR r72_6 [⟨some 52, .move (.tmp 4), 4, none⟩, ⟨some 53, .move (.tmp 52), 4, none⟩, ⟨some 54, .move (.tmp 5), 4, some (53, true)⟩, ⟨some 55, .pick (.tmp 53) (.tmp 54) (.const (.bool false)), 4, none⟩, ⟨some 56, .move (.tmp 55), 4, none⟩, ⟨some 57, .move (.tmp 6), 4, some (56, true)⟩, ⟨some 58, .pick (.tmp 56) (.tmp 57) (.const (.bool false)), 4, none⟩, ⟨some 59, .move (.tmp 58), 4, none⟩, ⟨some 60, .fieldAddr 42 (.tmp 1) 7, 0, some (59, true)⟩, ⟨some 61, .load 3 (.tmp 60), 3, some (59, true)⟩, ⟨some 62, .move (.tmp 7), 3, some (59, true)⟩, ⟨some 63, .unOp .neg 3 (.tmp 62), 3, some (59, true)⟩, ⟨some 64, .binOp .geq 3 (.tmp 61) (.tmp 63) 3, 4, some (59, true)⟩, ⟨some 65, .pick (.tmp 59) (.tmp 64) (.const (.bool false)), 4, none⟩, ⟨some 66, .move (.tmp 65), 4, none⟩, ⟨some 67, .fieldAddr 42 (.tmp 1) 7, 0, some (66, true)⟩, ⟨some 68, .load 3 (.tmp 67), 3, some (66, true)⟩, ⟨some 69, .move (.tmp 7), 3, some (66, true)⟩, ⟨some 70, .binOp .leq 3 (.tmp 68) (.tmp 69) 3, 4, some (66, true)⟩, ⟨some 71, .pick (.tmp 66) (.tmp 70) (.const (.bool false)), 4, none⟩, ⟨some 72, .move (.tmp 71), 4, none⟩, ⟨some 73, .fieldAddr 42 (.tmp 1) 8, 0, some (72, true)⟩, ⟨some 74, .load 3 (.tmp 73), 3, some (72, true)⟩, ⟨some 75, .binOp .geq 3 (.tmp 74) (.const (.int .i64 0)) 3, 4, some (72, true)⟩, ⟨some 76, .pick (.tmp 72) (.tmp 75) (.const (.bool false)), 4, none⟩, ⟨some 77, .move (.tmp 76), 4, none⟩, ⟨some 78, .fieldAddr 42 (.tmp 1) 8, 0, some (77, true)⟩, ⟨some 79, .load 3 (.tmp 78), 3, some (77, true)⟩, ⟨some 80, .binOp .leq 3 (.tmp 79) (.const (.int .i64 1000)) 3, 4, some (77, true)⟩, ⟨some 81, .pick (.tmp 77) (.tmp 80) (.const (.bool false)), 4, none⟩, ⟨some 2, .assign (.tmp 81), 4, none⟩] := vR rfl
/-! 96 slices.ContainsFunc[[]columbary/api.Filter,columbary/api.Filter] (params #[37, 135], results #[(.tmp 4)], 9 slots) -/
def r96_0 : List VOp :=
  [⟨some 4, .assign (.const (.bool false)), 4, none⟩]
def r96_1 : List VOp :=
  [mv 5 0 37,
   mv 6 1 135,
   ⟨some 7, .call ⟨.value (.func 129), #[.tmp 5, .tmp 6], #[37, 135]⟩, 3, none⟩,
   ⟨some 8, .binOp .geq 3 (.tmp 7) (.const (.int .i64 0)) 3, 4, none⟩,
   asg 4 8 4]
def B96 : VC :=
  (.seq (.region r96_0) (.seq (.region r96_1) .ret))
theorem code96 : ∃ c, Try.f96.body = some c ∧ abs Try.f96.ntmps c = B96 := ⟨_, rfl, by kernel_rfl⟩
theorem hb96 : HasBody Try.prog 96 := hasBody_of Try.func96 (by kernel_rfl)
theorem res96 : Try.f96.results = #[(.tmp 4)] := rfl
theorem enter96 {w : World} {R : Value → World → Prop} (x0 x1 : Value) (h : vc Try.prog B96 (retK Try.prog #[(.tmp 4)] R) [] (initEnv [x0, x1] 0) w) : FnC Try.prog 96 #[x0, x1] w R := by
  obtain ⟨c, h1, h2⟩ := code96
  exact hb96.fn (ret_of_vc mixed Try.func96 h1 (Nat.le_of_ble_eq_true rfl) B96 h2 h)
@[push_cast] theorem vr96_0 : VR r96_0 [⟨some 4, .assign (.const (.bool false)), 4, none⟩] := vR rfl
@[push_cast] theorem vr96_1 : VR r96_1 [⟨some 5, .move (.tmp 0), 37, none⟩, ⟨some 6, .move (.tmp 1), 135, none⟩, ⟨some 7, .call ⟨.value (.func 129), #[.tmp 5, .tmp 6], #[37, 135]⟩, 3, none⟩, ⟨some 8, .binOp .geq 3 (.tmp 7) (.const (.int .i64 0)) 3, 4, none⟩, ⟨some 4, .assign (.tmp 8), 4, none⟩] := vR rfl
/-! 103 slices.ContainsFunc[[]columbary/api.Having,columbary/api.Having] (params #[40, 147], results #[(.tmp 4)], 9 slots) -/
def r103_0 : List VOp :=
  [⟨some 4, .assign (.const (.bool false)), 4, none⟩]
def r103_1 : List VOp :=
  [mv 5 0 40,
   mv 6 1 147,
   ⟨some 7, .call ⟨.value (.func 137), #[.tmp 5, .tmp 6], #[40, 147]⟩, 3, none⟩,
   ⟨some 8, .binOp .geq 3 (.tmp 7) (.const (.int .i64 0)) 3, 4, none⟩,
   asg 4 8 4]
def B103 : VC :=
  (.seq (.region r103_0) (.seq (.region r103_1) .ret))
theorem code103 : ∃ c, Try.f103.body = some c ∧ abs Try.f103.ntmps c = B103 := ⟨_, rfl, by kernel_rfl⟩
theorem hb103 : HasBody Try.prog 103 := hasBody_of Try.func103 (by kernel_rfl)
theorem res103 : Try.f103.results = #[(.tmp 4)] := rfl
theorem enter103 {w : World} {R : Value → World → Prop} (x0 x1 : Value) (h : vc Try.prog B103 (retK Try.prog #[(.tmp 4)] R) [] (initEnv [x0, x1] 0) w) : FnC Try.prog 103 #[x0, x1] w R := by
  obtain ⟨c, h1, h2⟩ := code103
  exact hb103.fn (ret_of_vc mixed Try.func103 h1 (Nat.le_of_ble_eq_true rfl) B103 h2 h)
@[push_cast] theorem vr103_0 : VR r103_0 [⟨some 4, .assign (.const (.bool false)), 4, none⟩] := vR rfl
@[push_cast] theorem vr103_1 : VR r103_1 [⟨some 5, .move (.tmp 0), 40, none⟩, ⟨some 6, .move (.tmp 1), 147, none⟩, ⟨some 7, .call ⟨.value (.func 137), #[.tmp 5, .tmp 6], #[40, 147]⟩, 3, none⟩, ⟨some 8, .binOp .geq 3 (.tmp 7) (.const (.int .i64 0)) 3, 4, none⟩, ⟨some 4, .assign (.tmp 8), 4, none⟩] := vR rfl
/-! 108 slices.ContainsFunc[[]columbary/api.Term,columbary/api.Term] (params #[35, 153], results #[(.tmp 4)], 9 slots) -/
def r108_0 : List VOp :=
  [⟨some 4, .assign (.const (.bool false)), 4, none⟩]
def r108_1 : List VOp :=
  [mv 5 0 35,
   mv 6 1 153,
   ⟨some 7, .call ⟨.value (.func 144), #[.tmp 5, .tmp 6], #[35, 153]⟩, 3, none⟩,
   ⟨some 8, .binOp .geq 3 (.tmp 7) (.const (.int .i64 0)) 3, 4, none⟩,
   asg 4 8 4]
def B108 : VC :=
  (.seq (.region r108_0) (.seq (.region r108_1) .ret))
theorem code108 : ∃ c, Try.f108.body = some c ∧ abs Try.f108.ntmps c = B108 := ⟨_, rfl, by kernel_rfl⟩
theorem hb108 : HasBody Try.prog 108 := hasBody_of Try.func108 (by kernel_rfl)
theorem res108 : Try.f108.results = #[(.tmp 4)] := rfl
theorem enter108 {w : World} {R : Value → World → Prop} (x0 x1 : Value) (h : vc Try.prog B108 (retK Try.prog #[(.tmp 4)] R) [] (initEnv [x0, x1] 0) w) : FnC Try.prog 108 #[x0, x1] w R := by
  obtain ⟨c, h1, h2⟩ := code108
  exact hb108.fn (ret_of_vc mixed Try.func108 h1 (Nat.le_of_ble_eq_true rfl) B108 h2 h)
@[push_cast] theorem vr108_0 : VR r108_0 [⟨some 4, .assign (.const (.bool false)), 4, none⟩] := vR rfl
@[push_cast] theorem vr108_1 : VR r108_1 [⟨some 5, .move (.tmp 0), 35, none⟩, ⟨some 6, .move (.tmp 1), 153, none⟩, ⟨some 7, .call ⟨.value (.func 144), #[.tmp 5, .tmp 6], #[35, 153]⟩, 3, none⟩, ⟨some 8, .binOp .geq 3 (.tmp 7) (.const (.int .i64 0)) 3, 4, none⟩, ⟨some 4, .assign (.tmp 8), 4, none⟩] := vR rfl
/-! 109 columbary/typer.shaped$1 (params #[63], results #[(.tmp 2)], 6 slots) -/
def r109_0 : List VOp :=
  [⟨some 1, .box 63 (.tmp 0), 0, none⟩,
   ⟨some 2, .assign (.const (.bool false)), 4, none⟩]
def r109_1 : List VOp :=
  [lda 3 63 1,
   ⟨some 4, .call ⟨.value (.func 110), #[.tmp 3], #[63]⟩, 4, none⟩,
   ⟨some 5, .unOp .not 4 (.tmp 4), 4, none⟩,
   asg 2 5 4]
def B109 : VC :=
  (.seq (.region r109_0) (.seq (.region r109_1) .ret))
theorem code109 : ∃ c, Try.f109.body = some c ∧ abs Try.f109.ntmps c = B109 := ⟨_, rfl, by kernel_rfl⟩
theorem hb109 : HasBody Try.prog 109 := hasBody_of Try.func109 (by kernel_rfl)
theorem res109 : Try.f109.results = #[(.tmp 2)] := rfl
theorem enter109 {w : World} {R : Value → World → Prop} (x0 : Value) (h : vc Try.prog B109 (retK Try.prog #[(.tmp 2)] R) [] (initEnv [x0] 0) w) : FnC Try.prog 109 #[x0] w R := by
  obtain ⟨c, h1, h2⟩ := code109
  exact hb109.fn (ret_of_vc mixed Try.func109 h1 (Nat.le_of_ble_eq_true rfl) B109 h2 h)
@[push_cast] theorem vr109_0 : VR r109_0 [⟨some 1, .box 63 (.tmp 0), 0, none⟩, ⟨some 2, .assign (.const (.bool false)), 4, none⟩] := vR rfl
@[push_cast] theorem vr109_1 : VR r109_1 [⟨some 3, .load 63 (.tmp 1), 63, none⟩, ⟨some 4, .call ⟨.value (.func 110), #[.tmp 3], #[63]⟩, 4, none⟩, ⟨some 5, .unOp .not 4 (.tmp 4), 4, none⟩, ⟨some 2, .assign (.tmp 5), 4, none⟩] := vR rfl
/-! 110 columbary/typer.termed (params #[63], results #[(.tmp 2)], 20 slots) -/
def r110_0 : List VOp :=
  [⟨some 1, .box 63 (.tmp 0), 0, none⟩,
   ⟨some 2, .assign (.const (.bool false)), 4, none⟩]
def r110_1 : List VOp :=
  [fad 3 63 1 0,
   lda 4 61 3,
   ⟨some 5, .binOp .geq 61 (.tmp 4) (.const (.int .i64 0)) 61, 4, none⟩,
   mv 6 5 4,
   ⟨some 7, .fieldAddr 63 (.tmp 1) 0, 0, some (6, true)⟩,
   ⟨some 8, .load 61 (.tmp 7), 61, some (6, true)⟩,
   ⟨some 9, .binOp .leq 61 (.tmp 8) (.const (.int .i64 3)) 61, 4, some (6, true)⟩,
   ⟨some 10, .pick (.tmp 6) (.tmp 9) (.const (.bool false)), 4, none⟩,
   mv 11 10 4,
   ⟨some 12, .fieldAddr 63 (.tmp 1) 0, 0, some (11, true)⟩,
   ⟨some 13, .load 61 (.tmp 12), 61, some (11, true)⟩,
   ⟨some 14, .binOp .eql 61 (.tmp 13) (.const (.int .i64 0)) 61, 4, some (11, true)⟩,
   ⟨some 15, .fieldAddr 63 (.tmp 1) 1, 0, some (11, true)⟩,
   ⟨some 16, .load 9 (.tmp 15), 9, some (11, true)⟩,
   ⟨some 17, .binOp .eql 9 (.tmp 16) (.const (.string { data := #[] })) 9, 4, some (11, true)⟩,
   ⟨some 18, .binOp .eql 4 (.tmp 14) (.tmp 17) 4, 4, some (11, true)⟩,
   ⟨some 19, .pick (.tmp 11) (.tmp 18) (.const (.bool false)), 4, none⟩,
   asg 2 19 4]
def B110 : VC :=
  (.seq (.region r110_0) (.seq (.region r110_1) .ret))
theorem code110 : ∃ c, Try.f110.body = some c ∧ abs Try.f110.ntmps c = B110 := ⟨_, rfl, by kernel_rfl⟩
theorem hb110 : HasBody Try.prog 110 := hasBody_of Try.func110 (by kernel_rfl)
theorem res110 : Try.f110.results = #[(.tmp 2)] := rfl
theorem enter110 {w : World} {R : Value → World → Prop} (x0 : Value) (h : vc Try.prog B110 (retK Try.prog #[(.tmp 2)] R) [] (initEnv [x0] 0) w) : FnC Try.prog 110 #[x0] w R := by
  obtain ⟨c, h1, h2⟩ := code110
  exact hb110.fn (ret_of_vc mixed Try.func110 h1 (Nat.le_of_ble_eq_true rfl) B110 h2 h)
@[push_cast] theorem vr110_0 : VR r110_0 [⟨some 1, .box 63 (.tmp 0), 0, none⟩, ⟨some 2, .assign (.const (.bool false)), 4, none⟩] := vR rfl
@[push_cast] theorem vr110_1 : VR r110_1 [⟨some 3, .fieldAddr 63 (.tmp 1) 0, 0, none⟩, ⟨some 4, .load 61 (.tmp 3), 61, none⟩, ⟨some 5, .binOp .geq 61 (.tmp 4) (.const (.int .i64 0)) 61, 4, none⟩, ⟨some 6, .move (.tmp 5), 4, none⟩, ⟨some 7, .fieldAddr 63 (.tmp 1) 0, 0, some (6, true)⟩, ⟨some 8, .load 61 (.tmp 7), 61, some (6, true)⟩, ⟨some 9, .binOp .leq 61 (.tmp 8) (.const (.int .i64 3)) 61, 4, some (6, true)⟩, ⟨some 10, .pick (.tmp 6) (.tmp 9) (.const (.bool false)), 4, none⟩, ⟨some 11, .move (.tmp 10), 4, none⟩, ⟨some 12, .fieldAddr 63 (.tmp 1) 0, 0, some (11, true)⟩, ⟨some 13, .load 61 (.tmp 12), 61, some (11, true)⟩, ⟨some 14, .binOp .eql 61 (.tmp 13) (.const (.int .i64 0)) 61, 4, some (11, true)⟩, ⟨some 15, .fieldAddr 63 (.tmp 1) 1, 0, some (11, true)⟩, ⟨some 16, .load 9 (.tmp 15), 9, some (11, true)⟩, ⟨some 17, .binOp .eql 9 (.tmp 16) (.const (.string { data := #[] })) 9, 4, some (11, true)⟩, ⟨some 18, .binOp .eql 4 (.tmp 14) (.tmp 17) 4, 4, some (11, true)⟩, ⟨some 19, .pick (.tmp 11) (.tmp 18) (.const (.bool false)), 4, none⟩, ⟨some 2, .assign (.tmp 19), 4, none⟩] := vR rfl
/-! 111 columbary/typer.shaped$2 (params #[146], results #[(.tmp 2)], 27 slots) -/
def r111_0 : List VOp :=
  [⟨some 1, .box 146 (.tmp 0), 0, none⟩,
   ⟨some 2, .assign (.const (.bool false)), 4, none⟩]
def r111_1 : List VOp :=
  [fad 3 146 1 0,
   lda 4 63 3,
   ⟨some 5, .call ⟨.value (.func 110), #[.tmp 4], #[63]⟩, 4, none⟩,
   ⟨some 6, .unOp .not 4 (.tmp 5), 4, none⟩,
   mv 7 6 4,
   ⟨some 8, .fieldAddr 146 (.tmp 1) 1, 0, some (7, false)⟩,
   ⟨some 9, .load 3 (.tmp 8), 3, some (7, false)⟩,
   ⟨some 10, .binOp .lss 3 (.tmp 9) (.const (.int .i64 (-1))) 3, 4, some (7, false)⟩,
   ⟨some 11, .pick (.tmp 7) (.const (.bool true)) (.tmp 10), 4, none⟩,
   mv 12 11 4,
   ⟨some 13, .fieldAddr 146 (.tmp 1) 1, 0, some (12, false)⟩,
   ⟨some 14, .load 3 (.tmp 13), 3, some (12, false)⟩,
   ⟨some 15, .binOp .gtr 3 (.tmp 14) (.const (.int .i64 1)) 3, 4, some (12, false)⟩,
   ⟨some 16, .pick (.tmp 12) (.const (.bool true)) (.tmp 15), 4, none⟩,
   mv 17 16 4,
   ⟨some 18, .fieldAddr 146 (.tmp 1) 2, 0, some (17, false)⟩,
   ⟨some 19, .load 3 (.tmp 18), 3, some (17, false)⟩,
   ⟨some 20, .binOp .lss 3 (.tmp 19) (.const (.int .i64 (-4611686018427387904))) 3, 4, some (17, false)⟩,
   ⟨some 21, .pick (.tmp 17) (.const (.bool true)) (.tmp 20), 4, none⟩,
   mv 22 21 4,
   ⟨some 23, .fieldAddr 146 (.tmp 1) 2, 0, some (22, false)⟩,
   ⟨some 24, .load 3 (.tmp 23), 3, some (22, false)⟩,
   ⟨some 25, .binOp .gtr 3 (.tmp 24) (.const (.int .i64 4611686018427387904)) 3, 4, some (22, false)⟩,
   ⟨some 26, .pick (.tmp 22) (.const (.bool true)) (.tmp 25), 4, none⟩,
   asg 2 26 4]
def B111 : VC :=
  (.seq (.region r111_0) (.seq (.region r111_1) .ret))
theorem code111 : ∃ c, Try.f111.body = some c ∧ abs Try.f111.ntmps c = B111 := ⟨_, rfl, by kernel_rfl⟩
theorem hb111 : HasBody Try.prog 111 := hasBody_of Try.func111 (by kernel_rfl)
theorem res111 : Try.f111.results = #[(.tmp 2)] := rfl
theorem enter111 {w : World} {R : Value → World → Prop} (x0 : Value) (h : vc Try.prog B111 (retK Try.prog #[(.tmp 2)] R) [] (initEnv [x0] 0) w) : FnC Try.prog 111 #[x0] w R := by
  obtain ⟨c, h1, h2⟩ := code111
  exact hb111.fn (ret_of_vc mixed Try.func111 h1 (Nat.le_of_ble_eq_true rfl) B111 h2 h)
@[push_cast] theorem vr111_0 : VR r111_0 [⟨some 1, .box 146 (.tmp 0), 0, none⟩, ⟨some 2, .assign (.const (.bool false)), 4, none⟩] := vR rfl
@[push_cast] theorem vr111_1 : VR r111_1 [⟨some 3, .fieldAddr 146 (.tmp 1) 0, 0, none⟩, ⟨some 4, .load 63 (.tmp 3), 63, none⟩, ⟨some 5, .call ⟨.value (.func 110), #[.tmp 4], #[63]⟩, 4, none⟩, ⟨some 6, .unOp .not 4 (.tmp 5), 4, none⟩, ⟨some 7, .move (.tmp 6), 4, none⟩, ⟨some 8, .fieldAddr 146 (.tmp 1) 1, 0, some (7, false)⟩, ⟨some 9, .load 3 (.tmp 8), 3, some (7, false)⟩, ⟨some 10, .binOp .lss 3 (.tmp 9) (.const (.int .i64 (-1))) 3, 4, some (7, false)⟩, ⟨some 11, .pick (.tmp 7) (.const (.bool true)) (.tmp 10), 4, none⟩, ⟨some 12, .move (.tmp 11), 4, none⟩, ⟨some 13, .fieldAddr 146 (.tmp 1) 1, 0, some (12, false)⟩, ⟨some 14, .load 3 (.tmp 13), 3, some (12, false)⟩, ⟨some 15, .binOp .gtr 3 (.tmp 14) (.const (.int .i64 1)) 3, 4, some (12, false)⟩, ⟨some 16, .pick (.tmp 12) (.const (.bool true)) (.tmp 15), 4, none⟩, ⟨some 17, .move (.tmp 16), 4, none⟩, ⟨some 18, .fieldAddr 146 (.tmp 1) 2, 0, some (17, false)⟩, ⟨some 19, .load 3 (.tmp 18), 3, some (17, false)⟩, ⟨some 20, .binOp .lss 3 (.tmp 19) (.const (.int .i64 (-4611686018427387904))) 3, 4, some (17, false)⟩, ⟨some 21, .pick (.tmp 17) (.const (.bool true)) (.tmp 20), 4, none⟩, ⟨some 22, .move (.tmp 21), 4, none⟩, ⟨some 23, .fieldAddr 146 (.tmp 1) 2, 0, some (22, false)⟩, ⟨some 24, .load 3 (.tmp 23), 3, some (22, false)⟩, ⟨some 25, .binOp .gtr 3 (.tmp 24) (.const (.int .i64 4611686018427387904)) 3, 4, some (22, false)⟩, ⟨some 26, .pick (.tmp 22) (.const (.bool true)) (.tmp 25), 4, none⟩, ⟨some 2, .assign (.tmp 26), 4, none⟩] := vR rfl
/-! 112 columbary/typer.formed (params #[39, 3], results #[(.tmp 4)], 57 slots) -/
def r112_0 : List VOp :=
  [⟨some 2, .box 39 (.tmp 0), 0, none⟩,
   ⟨some 3, .box 3 (.tmp 1), 0, none⟩,
   ⟨some 4, .assign (.const (.bool false)), 4, none⟩]
def r112_1 : List VOp :=
  [lda 6 3 3,
   ⟨some 7, .binOp .eql 3 (.tmp 6) (.const (.int .i64 0)) 3, 4, none⟩,
   mv 8 7 4,
   ⟨some 9, .fieldAddr 39 (.tmp 2) 3, 0, some (8, false)⟩,
   ⟨some 10, .load 37 (.tmp 9), 37, some (8, false)⟩,
   ⟨some 11, .makeFunc (Fn.func 145) #[] #[(.tmp 3)], 135, some (8, false)⟩,
   ⟨some 12, .call ⟨.value (.func 96), #[.tmp 10, .tmp 11], #[37, 135]⟩, 4, some (8, false)⟩,
   ⟨some 13, .pick (.tmp 8) (.const (.bool true)) (.tmp 12), 4, none⟩]
def r112_2 : List VOp :=
  [⟨some 4, .assign (.const (.bool false)), 4, none⟩]
def r112_3 : List VOp :=
  [fad 14 39 2 3,
   lda 15 37 14,
   ⟨some 16, .call ⟨.builtin .len, #[.tmp 15], #[37]⟩, 3, none⟩,
   asg 5 16 3]
def r112_4 : List VOp :=
  [fad 17 39 2 0,
   lda 18 36 17]
def r112_5 : List VOp :=
  [⟨some 20, .binOp .eql 36 (.tmp 18) (.const (.int .i64 2)) 36, 4, none⟩,
   asg 19 20 4]
def r112_6 : List VOp :=
  [⟨some 22, .binOp .eql 36 (.tmp 18) (.const (.int .i64 1)) 36, 4, none⟩,
   asg 21 22 4]
def r112_7 : List VOp :=
  [⟨some 24, .binOp .eql 36 (.tmp 18) (.const (.int .i64 3)) 36, 4, none⟩,
   asg 23 24 4]
def r112_8 : List VOp :=
  [⟨some 26, .binOp .eql 36 (.tmp 18) (.const (.int .i64 4)) 36, 4, none⟩,
   asg 25 26 4]
def r112_9 : List VOp :=
  [⟨some 27, .binOp .eql 36 (.tmp 18) (.const (.int .i64 5)) 36, 4, none⟩,
   asg 25 27 4]
def r112_10 : List VOp :=
  [fad 28 39 2 2,
   lda 29 9 28,
   ⟨some 30, .binOp .neq 9 (.tmp 29) (.const (.string { data := #[] })) 9, 4, none⟩]
def r112_11 : List VOp :=
  [⟨some 4, .assign (.const (.bool false)), 4, none⟩]
def r112_12 : List VOp :=
  [mv 31 5 3,
   ⟨some 32, .binOp .eql 3 (.tmp 31) (.const (.int .i64 0)) 3, 4, none⟩,
   asg 4 32 4]
def r112_13 : List VOp :=
  [mv 33 5 3,
   ⟨some 34, .binOp .eql 3 (.tmp 33) (.const (.int .i64 1)) 3, 4, none⟩,
   mv 35 34 4,
   ⟨some 36, .fieldAddr 39 (.tmp 2) 1, 0, some (35, true)⟩,
   ⟨some 37, .load 9 (.tmp 36), 9, some (35, true)⟩,
   ⟨some 38, .binOp .eql 9 (.tmp 37) (.const (.string { data := #[] })) 9, 4, some (35, true)⟩,
   ⟨some 39, .pick (.tmp 35) (.tmp 38) (.const (.bool false)), 4, none⟩,
   mv 40 39 4,
   ⟨some 41, .fieldAddr 39 (.tmp 2) 2, 0, some (40, true)⟩,
   ⟨some 42, .load 9 (.tmp 41), 9, some (40, true)⟩,
   ⟨some 43, .binOp .eql 9 (.tmp 42) (.const (.string { data := #[] })) 9, 4, some (40, true)⟩,
   ⟨some 44, .pick (.tmp 40) (.tmp 43) (.const (.bool false)), 4, none⟩,
   asg 4 44 4]
def r112_14 : List VOp :=
  [mv 45 5 3,
   ⟨some 46, .binOp .geq 3 (.tmp 45) (.const (.int .i64 2)) 3, 4, none⟩,
   mv 47 46 4,
   ⟨some 48, .fieldAddr 39 (.tmp 2) 1, 0, some (47, true)⟩,
   ⟨some 49, .load 9 (.tmp 48), 9, some (47, true)⟩,
   ⟨some 50, .binOp .eql 9 (.tmp 49) (.const (.string { data := #[] })) 9, 4, some (47, true)⟩,
   ⟨some 51, .pick (.tmp 47) (.tmp 50) (.const (.bool false)), 4, none⟩,
   mv 52 51 4,
   ⟨some 53, .fieldAddr 39 (.tmp 2) 2, 0, some (52, true)⟩,
   ⟨some 54, .load 9 (.tmp 53), 9, some (52, true)⟩,
   ⟨some 55, .binOp .eql 9 (.tmp 54) (.const (.string { data := #[] })) 9, 4, some (52, true)⟩,
   ⟨some 56, .pick (.tmp 52) (.tmp 55) (.const (.bool false)), 4, none⟩,
   asg 4 56 4]
def r112_15 : List VOp :=
  [⟨some 4, .assign (.const (.bool false)), 4, none⟩]
def B112 : VC :=
  (.seq (.region r112_0) (.seq (.seq (.region r112_1) (.cond (.tmp 13) (.seq (.region r112_2) .ret) .skip)) (.seq (.region r112_3) (.seq (.seq (.region r112_4) (.block 0 (.seq (.block 4 (.seq (.block 3 (.seq (.block 2 (.seq (.block 1 (.seq (.seq (.seq (.region r112_5) (.cond (.tmp 19) (.exit 1) .skip)) (.seq (.seq (.region r112_6) (.cond (.tmp 21) (.exit 2) .skip)) (.seq (.seq (.region r112_7) (.cond (.tmp 23) (.exit 3) .skip)) (.seq (.seq (.region r112_8) (.cond (.tmp 25) .skip (.region r112_9))) (.cond (.tmp 25) (.exit 4) .skip))))) (.exit 0))) (.seq (.region r112_10) (.cond (.tmp 30) (.seq (.region r112_11) .ret) .skip)))) (.seq (.seq (.region r112_12) .ret) (.exit 0)))) (.seq (.seq (.region r112_13) .ret) (.exit 0)))) (.seq (.seq (.region r112_14) .ret) (.exit 0))))) (.seq (.region r112_15) .ret)))))
theorem code112 : ∃ c, Try.f112.body = some c ∧ abs Try.f112.ntmps c = B112 := ⟨_, rfl, by kernel_rfl⟩
theorem hb112 : HasBody Try.prog 112 := hasBody_of Try.func112 (by kernel_rfl)
theorem res112 : Try.f112.results = #[(.tmp 4)] := rfl
theorem enter112 {w : World} {R : Value → World → Prop} (x0 x1 : Value) (h : vc Try.prog B112 (retK Try.prog #[(.tmp 4)] R) [] (initEnv [x0, x1] 0) w) : FnC Try.prog 112 #[x0, x1] w R := by
  obtain ⟨c, h1, h2⟩ := code112
  exact hb112.fn (ret_of_vc mixed Try.func112 h1 (Nat.le_of_ble_eq_true rfl) B112 h2 h)
@[push_cast] theorem vr112_0 : VR r112_0 [⟨some 2, .box 39 (.tmp 0), 0, none⟩, ⟨some 3, .box 3 (.tmp 1), 0, none⟩, ⟨some 4, .assign (.const (.bool false)), 4, none⟩] := vR rfl
@[push_cast] theorem vr112_1 : VR r112_1 [⟨some 6, .load 3 (.tmp 3), 3, none⟩, ⟨some 7, .binOp .eql 3 (.tmp 6) (.const (.int .i64 0)) 3, 4, none⟩, ⟨some 8, .move (.tmp 7), 4, none⟩, ⟨some 9, .fieldAddr 39 (.tmp 2) 3, 0, some (8, false)⟩, ⟨some 10, .load 37 (.tmp 9), 37, some (8, false)⟩, ⟨some 11, .makeFunc (Fn.func 145) #[] #[(.tmp 3)], 135, some (8, false)⟩, ⟨some 12, .call ⟨.value (.func 96), #[.tmp 10, .tmp 11], #[37, 135]⟩, 4, some (8, false)⟩, ⟨some 13, .pick (.tmp 8) (.const (.bool true)) (.tmp 12), 4, none⟩] := vR rfl
@[push_cast] theorem vr112_2 : VR r112_2 [⟨some 4, .assign (.const (.bool false)), 4, none⟩] := vR rfl
@[push_cast] theorem vr112_3 : VR r112_3 [⟨some 14, .fieldAddr 39 (.tmp 2) 3, 0, none⟩, ⟨some 15, .load 37 (.tmp 14), 37, none⟩, ⟨some 16, .call ⟨.builtin .len, #[.tmp 15], #[37]⟩, 3, none⟩, ⟨some 5, .assign (.tmp 16), 3, none⟩] := vR rfl
@[push_cast] theorem vr112_4 : VR r112_4 [⟨some 17, .fieldAddr 39 (.tmp 2) 0, 0, none⟩, ⟨some 18, .load 36 (.tmp 17), 36, none⟩] := vR rfl
@[push_cast] theorem vr112_5 : VR r112_5 [⟨some 20, .binOp .eql 36 (.tmp 18) (.const (.int .i64 2)) 36, 4, none⟩, ⟨some 19, .assign (.tmp 20), 4, none⟩] := vR rfl
@[push_cast] theorem vr112_6 : VR r112_6 [⟨some 22, .binOp .eql 36 (.tmp 18) (.const (.int .i64 1)) 36, 4, none⟩, ⟨some 21, .assign (.tmp 22), 4, none⟩] := vR rfl
@[push_cast] theorem vr112_7 : VR r112_7 [⟨some 24, .binOp .eql 36 (.tmp 18) (.const (.int .i64 3)) 36, 4, none⟩, ⟨some 23, .assign (.tmp 24), 4, none⟩] := vR rfl
@[push_cast] theorem vr112_8 : VR r112_8 [⟨some 26, .binOp .eql 36 (.tmp 18) (.const (.int .i64 4)) 36, 4, none⟩, ⟨some 25, .assign (.tmp 26), 4, none⟩] := vR rfl
@[push_cast] theorem vr112_9 : VR r112_9 [⟨some 27, .binOp .eql 36 (.tmp 18) (.const (.int .i64 5)) 36, 4, none⟩, ⟨some 25, .assign (.tmp 27), 4, none⟩] := vR rfl
@[push_cast] theorem vr112_10 : VR r112_10 [⟨some 28, .fieldAddr 39 (.tmp 2) 2, 0, none⟩, ⟨some 29, .load 9 (.tmp 28), 9, none⟩, ⟨some 30, .binOp .neq 9 (.tmp 29) (.const (.string { data := #[] })) 9, 4, none⟩] := vR rfl
@[push_cast] theorem vr112_11 : VR r112_11 [⟨some 4, .assign (.const (.bool false)), 4, none⟩] := vR rfl
@[push_cast] theorem vr112_12 : VR r112_12 [⟨some 31, .move (.tmp 5), 3, none⟩, ⟨some 32, .binOp .eql 3 (.tmp 31) (.const (.int .i64 0)) 3, 4, none⟩, ⟨some 4, .assign (.tmp 32), 4, none⟩] := vR rfl
@[push_cast] theorem vr112_13 : VR r112_13 [⟨some 33, .move (.tmp 5), 3, none⟩, ⟨some 34, .binOp .eql 3 (.tmp 33) (.const (.int .i64 1)) 3, 4, none⟩, ⟨some 35, .move (.tmp 34), 4, none⟩, ⟨some 36, .fieldAddr 39 (.tmp 2) 1, 0, some (35, true)⟩, ⟨some 37, .load 9 (.tmp 36), 9, some (35, true)⟩, ⟨some 38, .binOp .eql 9 (.tmp 37) (.const (.string { data := #[] })) 9, 4, some (35, true)⟩, ⟨some 39, .pick (.tmp 35) (.tmp 38) (.const (.bool false)), 4, none⟩, ⟨some 40, .move (.tmp 39), 4, none⟩, ⟨some 41, .fieldAddr 39 (.tmp 2) 2, 0, some (40, true)⟩, ⟨some 42, .load 9 (.tmp 41), 9, some (40, true)⟩, ⟨some 43, .binOp .eql 9 (.tmp 42) (.const (.string { data := #[] })) 9, 4, some (40, true)⟩, ⟨some 44, .pick (.tmp 40) (.tmp 43) (.const (.bool false)), 4, none⟩, ⟨some 4, .assign (.tmp 44), 4, none⟩] := vR rfl
@[push_cast] theorem vr112_14 : VR r112_14 [⟨some 45, .move (.tmp 5), 3, none⟩, ⟨some 46, .binOp .geq 3 (.tmp 45) (.const (.int .i64 2)) 3, 4, none⟩, ⟨some 47, .move (.tmp 46), 4, none⟩, ⟨some 48, .fieldAddr 39 (.tmp 2) 1, 0, some (47, true)⟩, ⟨some 49, .load 9 (.tmp 48), 9, some (47, true)⟩, ⟨some 50, .binOp .eql 9 (.tmp 49) (.const (.string { data := #[] })) 9, 4, some (47, true)⟩, ⟨some 51, .pick (.tmp 47) (.tmp 50) (.const (.bool false)), 4, none⟩, ⟨some 52, .move (.tmp 51), 4, none⟩, ⟨some 53, .fieldAddr 39 (.tmp 2) 2, 0, some (52, true)⟩, ⟨some 54, .load 9 (.tmp 53), 9, some (52, true)⟩, ⟨some 55, .binOp .eql 9 (.tmp 54) (.const (.string { data := #[] })) 9, 4, some (52, true)⟩, ⟨some 56, .pick (.tmp 52) (.tmp 55) (.const (.bool false)), 4, none⟩, ⟨some 4, .assign (.tmp 56), 4, none⟩] := vR rfl
@[push_cast] theorem vr112_15 : VR r112_15 [⟨some 4, .assign (.const (.bool false)), 4, none⟩] := vR rfl
/-! 113 slices.Clone[[]columbary/api.Term,columbary/api.Term] (params #[35], results #[(.tmp 2)], 8 slots) -/
def r113_0 : List VOp :=
  [⟨some 2, .assign (.const (.slice none 0 0)), 35, none⟩]
def r113_1 : List VOp :=
  [mv 3 0 35,
   ⟨some 4, .binOp .eql 35 (.tmp 3) (.const (.slice none 0 0)) 35, 4, none⟩]
def r113_2 : List VOp :=
  [⟨some 2, .assign (.const (.slice none 0 0)), 35, none⟩]
def r113_3 : List VOp :=
  [⟨some 5, .buildSlice 35 0 #[], 35, none⟩,
   mv 6 0 35,
   ⟨some 7, .call ⟨.builtin .append, #[.tmp 5, .tmp 6], #[35, 35]⟩, 35, none⟩,
   asg 2 7 35]
def B113 : VC :=
  (.seq (.region r113_0) (.seq (.seq (.region r113_1) (.cond (.tmp 4) (.seq (.region r113_2) .ret) .skip)) (.seq (.region r113_3) .ret)))
theorem code113 : ∃ c, Try.f113.body = some c ∧ abs Try.f113.ntmps c = B113 := ⟨_, rfl, by kernel_rfl⟩
theorem hb113 : HasBody Try.prog 113 := hasBody_of Try.func113 (by kernel_rfl)
theorem res113 : Try.f113.results = #[(.tmp 2)] := rfl
theorem enter113 {w : World} {R : Value → World → Prop} (x0 : Value) (h : vc Try.prog B113 (retK Try.prog #[(.tmp 2)] R) [] (initEnv [x0] 0) w) : FnC Try.prog 113 #[x0] w R := by
  obtain ⟨c, h1, h2⟩ := code113
  exact hb113.fn (ret_of_vc mixed Try.func113 h1 (Nat.le_of_ble_eq_true rfl) B113 h2 h)
@[push_cast] theorem vr113_0 : VR r113_0 [⟨some 2, .assign (.const (.slice none 0 0)), 35, none⟩] := vR rfl
@[push_cast] theorem vr113_1 : VR r113_1 [⟨some 3, .move (.tmp 0), 35, none⟩, ⟨some 4, .binOp .eql 35 (.tmp 3) (.const (.slice none 0 0)) 35, 4, none⟩] := vR rfl
@[push_cast] theorem vr113_2 : VR r113_2 [⟨some 2, .assign (.const (.slice none 0 0)), 35, none⟩] := vR rfl
@[push_cast] theorem vr113_3 : VR r113_3 [⟨some 5, .buildSlice 35 0 #[], 35, none⟩, ⟨some 6, .move (.tmp 0), 35, none⟩, ⟨some 7, .call ⟨.builtin .append, #[.tmp 5, .tmp 6], #[35, 35]⟩, 35, none⟩, ⟨some 2, .assign (.tmp 7), 35, none⟩] := vR rfl
/-! 114 columbary/typer.named$1 (params #[63], results #[(.tmp 3)], 15 slots) -/
def r114_0 : List VOp :=
  [⟨some 2, .box 63 (.tmp 0), 0, none⟩,
   ⟨some 3, .assign (.const (.bool false)), 4, none⟩]
def r114_1 : List VOp :=
  [fad 4 63 2 0,
   lda 5 61 4,
   ⟨some 6, .binOp .neq 61 (.tmp 5) (.const (.int .i64 0)) 61, 4, none⟩,
   mv 7 6 4,
   ⟨some 8, .fieldAddr 24 (.tmp 1) 1, 0, some (7, true)⟩,
   ⟨some 9, .load 22 (.tmp 8), 22, some (7, true)⟩,
   ⟨some 10, .fieldAddr 63 (.tmp 2) 1, 0, some (7, true)⟩,
   ⟨some 11, .load 9 (.tmp 10), 9, some (7, true)⟩,
   ⟨some 12, .call ⟨.value (.func 38), #[.tmp 9, .tmp 11], #[22, 9]⟩, 4, some (7, true)⟩,
   ⟨some 13, .unOp .not 4 (.tmp 12), 4, some (7, true)⟩,
   ⟨some 14, .pick (.tmp 7) (.tmp 13) (.const (.bool false)), 4, none⟩,
   asg 3 14 4]
def B114 : VC :=
  (.seq (.region r114_0) (.seq (.region r114_1) .ret))
theorem code114 : ∃ c, Try.f114.body = some c ∧ abs Try.f114.ntmps c = B114 := ⟨_, rfl, by kernel_rfl⟩
theorem hb114 : HasBody Try.prog 114 := hasBody_of Try.func114 (by kernel_rfl)
theorem res114 : Try.f114.results = #[(.tmp 3)] := rfl
theorem enter114 {w : World} {R : Value → World → Prop} (x0 x1 : Value) (h : vc Try.prog B114 (retK Try.prog #[(.tmp 3)] R) [] (initEnv [x0, x1] 0) w) : FnC Try.prog 114 #[x0, x1] w R := by
  obtain ⟨c, h1, h2⟩ := code114
  exact hb114.fn (ret_of_vc mixed Try.func114 h1 (Nat.le_of_ble_eq_true rfl) B114 h2 h)
@[push_cast] theorem vr114_0 : VR r114_0 [⟨some 2, .box 63 (.tmp 0), 0, none⟩, ⟨some 3, .assign (.const (.bool false)), 4, none⟩] := vR rfl
@[push_cast] theorem vr114_1 : VR r114_1 [⟨some 4, .fieldAddr 63 (.tmp 2) 0, 0, none⟩, ⟨some 5, .load 61 (.tmp 4), 61, none⟩, ⟨some 6, .binOp .neq 61 (.tmp 5) (.const (.int .i64 0)) 61, 4, none⟩, ⟨some 7, .move (.tmp 6), 4, none⟩, ⟨some 8, .fieldAddr 24 (.tmp 1) 1, 0, some (7, true)⟩, ⟨some 9, .load 22 (.tmp 8), 22, some (7, true)⟩, ⟨some 10, .fieldAddr 63 (.tmp 2) 1, 0, some (7, true)⟩, ⟨some 11, .load 9 (.tmp 10), 9, some (7, true)⟩, ⟨some 12, .call ⟨.value (.func 38), #[.tmp 9, .tmp 11], #[22, 9]⟩, 4, some (7, true)⟩, ⟨some 13, .unOp .not 4 (.tmp 12), 4, some (7, true)⟩, ⟨some 14, .pick (.tmp 7) (.tmp 13) (.const (.bool false)), 4, none⟩, ⟨some 3, .assign (.tmp 14), 4, none⟩] := vR rfl
/-! 115 columbary/typer.named$2 (params #[9], results #[(.tmp 3)], 9 slots) -/
def r115_0 : List VOp :=
  [⟨some 3, .assign (.const (.bool false)), 4, none⟩]
def r115_1 : List VOp :=
  [fad 4 24 1 0,
   lda 5 22 4,
   mv 6 0 9,
   ⟨some 7, .call ⟨.value (.func 38), #[.tmp 5, .tmp 6], #[22, 9]⟩, 4, none⟩,
   ⟨some 8, .unOp .not 4 (.tmp 7), 4, none⟩,
   asg 3 8 4]
def B115 : VC :=
  (.seq (.region r115_0) (.seq (.region r115_1) .ret))
theorem code115 : ∃ c, Try.f115.body = some c ∧ abs Try.f115.ntmps c = B115 := ⟨_, rfl, by kernel_rfl⟩
theorem hb115 : HasBody Try.prog 115 := hasBody_of Try.func115 (by kernel_rfl)
theorem res115 : Try.f115.results = #[(.tmp 3)] := rfl
theorem enter115 {w : World} {R : Value → World → Prop} (x0 x1 : Value) (h : vc Try.prog B115 (retK Try.prog #[(.tmp 3)] R) [] (initEnv [x0, x1] 0) w) : FnC Try.prog 115 #[x0, x1] w R := by
  obtain ⟨c, h1, h2⟩ := code115
  exact hb115.fn (ret_of_vc mixed Try.func115 h1 (Nat.le_of_ble_eq_true rfl) B115 h2 h)
@[push_cast] theorem vr115_0 : VR r115_0 [⟨some 3, .assign (.const (.bool false)), 4, none⟩] := vR rfl
@[push_cast] theorem vr115_1 : VR r115_1 [⟨some 4, .fieldAddr 24 (.tmp 1) 0, 0, none⟩, ⟨some 5, .load 22 (.tmp 4), 22, none⟩, ⟨some 6, .move (.tmp 0), 9, none⟩, ⟨some 7, .call ⟨.value (.func 38), #[.tmp 5, .tmp 6], #[22, 9]⟩, 4, none⟩, ⟨some 8, .unOp .not 4 (.tmp 7), 4, none⟩, ⟨some 3, .assign (.tmp 8), 4, none⟩] := vR rfl
/-! 116 slices.Sorted[string] (params #[158], results #[(.tmp 2)], 9 slots) -/
def r116_0 : List VOp :=
  [⟨some 2, .assign (.const (.slice none 0 0)), 22, none⟩]
def r116_1 : List VOp :=
  [mv 4 0 158,
   ⟨some 5, .call ⟨.value (.func 146), #[.tmp 4], #[158]⟩, 22, none⟩,
   asg 3 5 22]
def r116_2 : List VOp :=
  [mv 6 3 22,
   ⟨some 7, .call ⟨.value (.func 147), #[.tmp 6], #[22]⟩, 0, none⟩]
def r116_3 : List VOp :=
  [mv 8 3 22,
   asg 2 8 22]
def B116 : VC :=
  (.seq (.region r116_0) (.seq (.region r116_1) (.seq (.region r116_2) (.seq (.region r116_3) .ret))))
theorem code116 : ∃ c, Try.f116.body = some c ∧ abs Try.f116.ntmps c = B116 := ⟨_, rfl, by kernel_rfl⟩
theorem hb116 : HasBody Try.prog 116 := hasBody_of Try.func116 (by kernel_rfl)
theorem res116 : Try.f116.results = #[(.tmp 2)] := rfl
theorem enter116 {w : World} {R : Value → World → Prop} (x0 : Value) (h : vc Try.prog B116 (retK Try.prog #[(.tmp 2)] R) [] (initEnv [x0] 0) w) : FnC Try.prog 116 #[x0] w R := by
  obtain ⟨c, h1, h2⟩ := code116
  exact hb116.fn (ret_of_vc mixed Try.func116 h1 (Nat.le_of_ble_eq_true rfl) B116 h2 h)
@[push_cast] theorem vr116_0 : VR r116_0 [⟨some 2, .assign (.const (.slice none 0 0)), 22, none⟩] := vR rfl
@[push_cast] theorem vr116_1 : VR r116_1 [⟨some 4, .move (.tmp 0), 158, none⟩, ⟨some 5, .call ⟨.value (.func 146), #[.tmp 4], #[158]⟩, 22, none⟩, ⟨some 3, .assign (.tmp 5), 22, none⟩] := vR rfl
@[push_cast] theorem vr116_2 : VR r116_2 [⟨some 6, .move (.tmp 3), 22, none⟩, ⟨some 7, .call ⟨.value (.func 147), #[.tmp 6], #[22]⟩, 0, none⟩] := vR rfl
@[push_cast] theorem vr116_3 : VR r116_3 [⟨some 8, .move (.tmp 3), 22, none⟩, ⟨some 2, .assign (.tmp 8), 22, none⟩] := vR rfl
/-! 117 slices.Values[[]string,string] (params #[22], results #[(.tmp 2)], 4 slots) -/
def r117_0 : List VOp :=
  [⟨some 1, .box 22 (.tmp 0), 0, none⟩,
   ⟨some 2, .assign (.const .nilFunc), 158, none⟩]
def r117_1 : List VOp :=
  [⟨some 3, .makeFunc (Fn.func 148) #[] #[(.tmp 1)], 157, none⟩,
   asg 2 3 158]
def B117 : VC :=
  (.seq (.region r117_0) (.seq (.region r117_1) .ret))
theorem code117 : ∃ c, Try.f117.body = some c ∧ abs Try.f117.ntmps c = B117 := ⟨_, rfl, by kernel_rfl⟩
theorem hb117 : HasBody Try.prog 117 := hasBody_of Try.func117 (by kernel_rfl)
theorem res117 : Try.f117.results = #[(.tmp 2)] := rfl
theorem enter117 {w : World} {R : Value → World → Prop} (x0 : Value) (h : vc Try.prog B117 (retK Try.prog #[(.tmp 2)] R) [] (initEnv [x0] 0) w) : FnC Try.prog 117 #[x0] w R := by
  obtain ⟨c, h1, h2⟩ := code117
  exact hb117.fn (ret_of_vc mixed Try.func117 h1 (Nat.le_of_ble_eq_true rfl) B117 h2 h)
@[push_cast] theorem vr117_0 : VR r117_0 [⟨some 1, .box 22 (.tmp 0), 0, none⟩, ⟨some 2, .assign (.const .nilFunc), 158, none⟩] := vR rfl
@[push_cast] theorem vr117_1 : VR r117_1 [⟨some 3, .makeFunc (Fn.func 148) #[] #[(.tmp 1)], 157, none⟩, ⟨some 2, .assign (.tmp 3), 158, none⟩] := vR rfl
/-! 120 columbary/typer.typed$1 (params #[39], results #[(.tmp 2)], 7 slots) -/
def r120_0 : List VOp :=
  [⟨some 1, .box 39 (.tmp 0), 0, none⟩,
   ⟨some 2, .assign (.const (.bool false)), 4, none⟩]
def r120_1 : List VOp :=
  [fad 3 39 1 2,
   lda 4 9 3,
   ⟨some 5, .call ⟨.value (.func 121), #[.tmp 4], #[9]⟩, 4, none⟩,
   ⟨some 6, .unOp .not 4 (.tmp 5), 4, none⟩,
   asg 2 6 4]
def B120 : VC :=
  (.seq (.region r120_0) (.seq (.region r120_1) .ret))
theorem code120 : ∃ c, Try.f120.body = some c ∧ abs Try.f120.ntmps c = B120 := ⟨_, rfl, by kernel_rfl⟩
theorem hb120 : HasBody Try.prog 120 := hasBody_of Try.func120 (by kernel_rfl)
theorem res120 : Try.f120.results = #[(.tmp 2)] := rfl
theorem enter120 {w : World} {R : Value → World → Prop} (x0 : Value) (h : vc Try.prog B120 (retK Try.prog #[(.tmp 2)] R) [] (initEnv [x0] 0) w) : FnC Try.prog 120 #[x0] w R := by
  obtain ⟨c, h1, h2⟩ := code120
  exact hb120.fn (ret_of_vc mixed Try.func120 h1 (Nat.le_of_ble_eq_true rfl) B120 h2 h)
@[push_cast] theorem vr120_0 : VR r120_0 [⟨some 1, .box 39 (.tmp 0), 0, none⟩, ⟨some 2, .assign (.const (.bool false)), 4, none⟩] := vR rfl
@[push_cast] theorem vr120_1 : VR r120_1 [⟨some 3, .fieldAddr 39 (.tmp 1) 2, 0, none⟩, ⟨some 4, .load 9 (.tmp 3), 9, none⟩, ⟨some 5, .call ⟨.value (.func 121), #[.tmp 4], #[9]⟩, 4, none⟩, ⟨some 6, .unOp .not 4 (.tmp 5), 4, none⟩, ⟨some 2, .assign (.tmp 6), 4, none⟩] := vR rfl
/-! 121 columbary/schema.Value (params #[9], results #[(.tmp 2)], 16 slots) -/
def r121_0 : List VOp :=
  [⟨some 2, .assign (.const (.bool false)), 4, none⟩]
def r121_1 : List VOp :=
  [mv 3 0 9,
   ⟨some 4, .call ⟨.builtin .len, #[.tmp 3], #[9]⟩, 3, none⟩,
   ⟨some 5, .binOp .leq 3 (.tmp 4) (.const (.int .i64 24)) 3, 4, none⟩,
   mv 6 5 4,
   ⟨some 7, .move (.tmp 0), 9, some (6, true)⟩,
   ⟨some 8, .call { callee := (.value (.func 150)), args := #[(.tmp 7), (.const (.string { data := #[34, 92] }))], argTypes := #[9, 9] }, 4, some (6, true)⟩,
   ⟨some 9, .unOp .not 4 (.tmp 8), 4, some (6, true)⟩,
   ⟨some 10, .pick (.tmp 6) (.tmp 9) (.const (.bool false)), 4, none⟩,
   mv 11 10 4,
   ⟨some 12, .move (.tmp 0), 9, some (11, true)⟩,
   ⟨some 13, .call ⟨.value (.func 151), #[(.tmp 12), (.func 152)], #[9, 181]⟩, 4, some (11, true)⟩,
   ⟨some 14, .unOp .not 4 (.tmp 13), 4, some (11, true)⟩,
   ⟨some 15, .pick (.tmp 11) (.tmp 14) (.const (.bool false)), 4, none⟩,
   asg 2 15 4]
def B121 : VC :=
  (.seq (.region r121_0) (.seq (.region r121_1) .ret))
theorem code121 : ∃ c, Try.f121.body = some c ∧ abs Try.f121.ntmps c = B121 := ⟨_, rfl, by kernel_rfl⟩
theorem hb121 : HasBody Try.prog 121 := hasBody_of Try.func121 (by kernel_rfl)
theorem res121 : Try.f121.results = #[(.tmp 2)] := rfl
theorem enter121 {w : World} {R : Value → World → Prop} (x0 : Value) (h : vc Try.prog B121 (retK Try.prog #[(.tmp 2)] R) [] (initEnv [x0] 0) w) : FnC Try.prog 121 #[x0] w R := by
  obtain ⟨c, h1, h2⟩ := code121
  exact hb121.fn (ret_of_vc mixed Try.func121 h1 (Nat.le_of_ble_eq_true rfl) B121 h2 h)
@[push_cast] theorem vr121_0 : VR r121_0 [⟨some 2, .assign (.const (.bool false)), 4, none⟩] := vR rfl
@[push_cast] theorem vr121_1 : VR r121_1 [⟨some 3, .move (.tmp 0), 9, none⟩, ⟨some 4, .call ⟨.builtin .len, #[.tmp 3], #[9]⟩, 3, none⟩, ⟨some 5, .binOp .leq 3 (.tmp 4) (.const (.int .i64 24)) 3, 4, none⟩, ⟨some 6, .move (.tmp 5), 4, none⟩, ⟨some 7, .move (.tmp 0), 9, some (6, true)⟩, ⟨some 8, .call { callee := (.value (.func 150)), args := #[(.tmp 7), (.const (.string { data := #[34, 92] }))], argTypes := #[9, 9] }, 4, some (6, true)⟩, ⟨some 9, .unOp .not 4 (.tmp 8), 4, some (6, true)⟩, ⟨some 10, .pick (.tmp 6) (.tmp 9) (.const (.bool false)), 4, none⟩, ⟨some 11, .move (.tmp 10), 4, none⟩, ⟨some 12, .move (.tmp 0), 9, some (11, true)⟩, ⟨some 13, .call ⟨.value (.func 151), #[(.tmp 12), (.func 152)], #[9, 181]⟩, 4, some (11, true)⟩, ⟨some 14, .unOp .not 4 (.tmp 13), 4, some (11, true)⟩, ⟨some 15, .pick (.tmp 11) (.tmp 14) (.const (.bool false)), 4, none⟩, ⟨some 2, .assign (.tmp 15), 4, none⟩] := vR rfl
/-! 129 slices.IndexFunc[[]columbary/api.Filter,columbary/api.Filter] (params #[37, 135], results #[(.tmp 4)], 19 slots) -/
def W129_0 : List Nat := [4, 5, 8, 9, 10, 11, 12, 13, 14, 15, 16, 17, 18]
@[push_cast] theorem W129_0_def : W129_0 = [4, 5, 8, 9, 10, 11, 12, 13, 14, 15, 16, 17, 18] := mk_eq rfl
def r129_0 : List VOp :=
  [⟨some 4, .assign (.const (.int .i64 0)), 3, none⟩]
def r129_1 : List VOp :=
  [mv 6 0 37,
   ⟨some 7, .call ⟨.builtin .len, #[.tmp 6], #[37]⟩, 3, none⟩,
   ⟨some 8, .move (.const (.int .i64 0)), 3, none⟩]
def r129_2 : List VOp :=
  [⟨some 9, .binOp .lss 3 (.tmp 8) (.tmp 7) 3, 0, none⟩]
def r129_3 : List VOp :=
  [mv 10 8 3,
   asg 5 10 3]
def r129_4 : List VOp :=
  [mv 11 1 135,
   mv 12 0 37,
   mv 13 5 3,
   iad 14 37 12 13,
   lda 15 39 14,
   ⟨some 16, .call ⟨.value (.tmp 11), #[.tmp 15], #[39]⟩, 4, none⟩]
def r129_5 : List VOp :=
  [mv 17 5 3,
   asg 4 17 3]
def r129_6 : List VOp :=
  [⟨some 18, .binOp .add 3 (.tmp 8) (.const (.int .i64 1)) 3, 3, none⟩,
   mv 8 18 3]
def r129_7 : List VOp :=
  [⟨some 4, .assign (.const (.int .i64 (-1))), 3, none⟩]
def B129 : VC :=
  (.seq (.region r129_0) (.seq (.seq (.region r129_1) (.block 0 (.loop (.seq (.region r129_2) (.seq (.cond (.tmp 9) .skip (.exit 0)) (.seq (.block 1 (.seq (.region r129_3) (.seq (.region r129_4) (.cond (.tmp 16) (.seq (.region r129_5) .ret) .skip)))) (.region r129_6))))))) (.seq (.region r129_7) .ret)))
theorem code129 : ∃ c, Try.f129.body = some c ∧ abs Try.f129.ntmps c = B129 := ⟨_, rfl, by kernel_rfl⟩
theorem hb129 : HasBody Try.prog 129 := hasBody_of Try.func129 (by kernel_rfl)
theorem res129 : Try.f129.results = #[(.tmp 4)] := rfl
theorem enter129 {w : World} {R : Value → World → Prop} (x0 x1 : Value) (h : vc Try.prog B129 (retK Try.prog #[(.tmp 4)] R) [] (initEnv [x0, x1] 0) w) : FnC Try.prog 129 #[x0, x1] w R := by
  obtain ⟨c, h1, h2⟩ := code129
  exact hb129.fn (ret_of_vc mixed Try.func129 h1 (Nat.le_of_ble_eq_true rfl) B129 h2 h)
@[push_cast] theorem vr129_0 : VR r129_0 [⟨some 4, .assign (.const (.int .i64 0)), 3, none⟩] := vR rfl
@[push_cast] theorem vr129_1 : VR r129_1 [⟨some 6, .move (.tmp 0), 37, none⟩, ⟨some 7, .call ⟨.builtin .len, #[.tmp 6], #[37]⟩, 3, none⟩, ⟨some 8, .move (.const (.int .i64 0)), 3, none⟩] := vR rfl
@[push_cast] theorem vr129_2 : VR r129_2 [⟨some 9, .binOp .lss 3 (.tmp 8) (.tmp 7) 3, 0, none⟩] := vR rfl
@[push_cast] theorem vr129_3 : VR r129_3 [⟨some 10, .move (.tmp 8), 3, none⟩, ⟨some 5, .assign (.tmp 10), 3, none⟩] := vR rfl
@[push_cast] theorem vr129_4 : VR r129_4 [⟨some 11, .move (.tmp 1), 135, none⟩, ⟨some 12, .move (.tmp 0), 37, none⟩, ⟨some 13, .move (.tmp 5), 3, none⟩, ⟨some 14, .indexAddr 37 (.tmp 12) (.tmp 13), 0, none⟩, ⟨some 15, .load 39 (.tmp 14), 39, none⟩, ⟨some 16, .call ⟨.value (.tmp 11), #[.tmp 15], #[39]⟩, 4, none⟩] := vR rfl
@[push_cast] theorem vr129_5 : VR r129_5 [⟨some 17, .move (.tmp 5), 3, none⟩, ⟨some 4, .assign (.tmp 17), 3, none⟩] := vR rfl
@[push_cast] theorem vr129_6 : VR r129_6 [⟨some 18, .binOp .add 3 (.tmp 8) (.const (.int .i64 1)) 3, 3, none⟩, ⟨some 8, .move (.tmp 18), 3, none⟩] := vR rfl
@[push_cast] theorem vr129_7 : VR r129_7 [⟨some 4, .assign (.const (.int .i64 (-1))), 3, none⟩] := vR rfl
/-! 137 slices.IndexFunc[[]columbary/api.Having,columbary/api.Having] (params #[40, 147], results #[(.tmp 4)], 19 slots) -/
def W137_0 : List Nat := [4, 5, 8, 9, 10, 11, 12, 13, 14, 15, 16, 17, 18]
@[push_cast] theorem W137_0_def : W137_0 = [4, 5, 8, 9, 10, 11, 12, 13, 14, 15, 16, 17, 18] := mk_eq rfl
def r137_0 : List VOp :=
  [⟨some 4, .assign (.const (.int .i64 0)), 3, none⟩]
def r137_1 : List VOp :=
  [mv 6 0 40,
   ⟨some 7, .call ⟨.builtin .len, #[.tmp 6], #[40]⟩, 3, none⟩,
   ⟨some 8, .move (.const (.int .i64 0)), 3, none⟩]
def r137_2 : List VOp :=
  [⟨some 9, .binOp .lss 3 (.tmp 8) (.tmp 7) 3, 0, none⟩]
def r137_3 : List VOp :=
  [mv 10 8 3,
   asg 5 10 3]
def r137_4 : List VOp :=
  [mv 11 1 147,
   mv 12 0 40,
   mv 13 5 3,
   iad 14 40 12 13,
   lda 15 146 14,
   ⟨some 16, .call ⟨.value (.tmp 11), #[.tmp 15], #[146]⟩, 4, none⟩]
def r137_5 : List VOp :=
  [mv 17 5 3,
   asg 4 17 3]
def r137_6 : List VOp :=
  [⟨some 18, .binOp .add 3 (.tmp 8) (.const (.int .i64 1)) 3, 3, none⟩,
   mv 8 18 3]
def r137_7 : List VOp :=
  [⟨some 4, .assign (.const (.int .i64 (-1))), 3, none⟩]
def B137 : VC :=
  (.seq (.region r137_0) (.seq (.seq (.region r137_1) (.block 0 (.loop (.seq (.region r137_2) (.seq (.cond (.tmp 9) .skip (.exit 0)) (.seq (.block 1 (.seq (.region r137_3) (.seq (.region r137_4) (.cond (.tmp 16) (.seq (.region r137_5) .ret) .skip)))) (.region r137_6))))))) (.seq (.region r137_7) .ret)))
theorem code137 : ∃ c, Try.f137.body = some c ∧ abs Try.f137.ntmps c = B137 := ⟨_, rfl, by kernel_rfl⟩
theorem hb137 : HasBody Try.prog 137 := hasBody_of Try.func137 (by kernel_rfl)
theorem res137 : Try.f137.results = #[(.tmp 4)] := rfl
theorem enter137 {w : World} {R : Value → World → Prop} (x0 x1 : Value) (h : vc Try.prog B137 (retK Try.prog #[(.tmp 4)] R) [] (initEnv [x0, x1] 0) w) : FnC Try.prog 137 #[x0, x1] w R := by
  obtain ⟨c, h1, h2⟩ := code137
  exact hb137.fn (ret_of_vc mixed Try.func137 h1 (Nat.le_of_ble_eq_true rfl) B137 h2 h)
@[push_cast] theorem vr137_0 : VR r137_0 [⟨some 4, .assign (.const (.int .i64 0)), 3, none⟩] := vR rfl
@[push_cast] theorem vr137_1 : VR r137_1 [⟨some 6, .move (.tmp 0), 40, none⟩, ⟨some 7, .call ⟨.builtin .len, #[.tmp 6], #[40]⟩, 3, none⟩, ⟨some 8, .move (.const (.int .i64 0)), 3, none⟩] := vR rfl
@[push_cast] theorem vr137_2 : VR r137_2 [⟨some 9, .binOp .lss 3 (.tmp 8) (.tmp 7) 3, 0, none⟩] := vR rfl
@[push_cast] theorem vr137_3 : VR r137_3 [⟨some 10, .move (.tmp 8), 3, none⟩, ⟨some 5, .assign (.tmp 10), 3, none⟩] := vR rfl
@[push_cast] theorem vr137_4 : VR r137_4 [⟨some 11, .move (.tmp 1), 147, none⟩, ⟨some 12, .move (.tmp 0), 40, none⟩, ⟨some 13, .move (.tmp 5), 3, none⟩, ⟨some 14, .indexAddr 40 (.tmp 12) (.tmp 13), 0, none⟩, ⟨some 15, .load 146 (.tmp 14), 146, none⟩, ⟨some 16, .call ⟨.value (.tmp 11), #[.tmp 15], #[146]⟩, 4, none⟩] := vR rfl
@[push_cast] theorem vr137_5 : VR r137_5 [⟨some 17, .move (.tmp 5), 3, none⟩, ⟨some 4, .assign (.tmp 17), 3, none⟩] := vR rfl
@[push_cast] theorem vr137_6 : VR r137_6 [⟨some 18, .binOp .add 3 (.tmp 8) (.const (.int .i64 1)) 3, 3, none⟩, ⟨some 8, .move (.tmp 18), 3, none⟩] := vR rfl
@[push_cast] theorem vr137_7 : VR r137_7 [⟨some 4, .assign (.const (.int .i64 (-1))), 3, none⟩] := vR rfl
/-! 144 slices.IndexFunc[[]columbary/api.Term,columbary/api.Term] (params #[35, 153], results #[(.tmp 4)], 19 slots) -/
def W144_0 : List Nat := [4, 5, 8, 9, 10, 11, 12, 13, 14, 15, 16, 17, 18]
@[push_cast] theorem W144_0_def : W144_0 = [4, 5, 8, 9, 10, 11, 12, 13, 14, 15, 16, 17, 18] := mk_eq rfl
def r144_0 : List VOp :=
  [⟨some 4, .assign (.const (.int .i64 0)), 3, none⟩]
def r144_1 : List VOp :=
  [mv 6 0 35,
   ⟨some 7, .call ⟨.builtin .len, #[.tmp 6], #[35]⟩, 3, none⟩,
   ⟨some 8, .move (.const (.int .i64 0)), 3, none⟩]
def r144_2 : List VOp :=
  [⟨some 9, .binOp .lss 3 (.tmp 8) (.tmp 7) 3, 0, none⟩]
def r144_3 : List VOp :=
  [mv 10 8 3,
   asg 5 10 3]
def r144_4 : List VOp :=
  [mv 11 1 153,
   mv 12 0 35,
   mv 13 5 3,
   iad 14 35 12 13,
   lda 15 63 14,
   ⟨some 16, .call ⟨.value (.tmp 11), #[.tmp 15], #[63]⟩, 4, none⟩]
def r144_5 : List VOp :=
  [mv 17 5 3,
   asg 4 17 3]
def r144_6 : List VOp :=
  [⟨some 18, .binOp .add 3 (.tmp 8) (.const (.int .i64 1)) 3, 3, none⟩,
   mv 8 18 3]
def r144_7 : List VOp :=
  [⟨some 4, .assign (.const (.int .i64 (-1))), 3, none⟩]
def B144 : VC :=
  (.seq (.region r144_0) (.seq (.seq (.region r144_1) (.block 0 (.loop (.seq (.region r144_2) (.seq (.cond (.tmp 9) .skip (.exit 0)) (.seq (.block 1 (.seq (.region r144_3) (.seq (.region r144_4) (.cond (.tmp 16) (.seq (.region r144_5) .ret) .skip)))) (.region r144_6))))))) (.seq (.region r144_7) .ret)))
theorem code144 : ∃ c, Try.f144.body = some c ∧ abs Try.f144.ntmps c = B144 := ⟨_, rfl, by kernel_rfl⟩
theorem hb144 : HasBody Try.prog 144 := hasBody_of Try.func144 (by kernel_rfl)
theorem res144 : Try.f144.results = #[(.tmp 4)] := rfl
theorem enter144 {w : World} {R : Value → World → Prop} (x0 x1 : Value) (h : vc Try.prog B144 (retK Try.prog #[(.tmp 4)] R) [] (initEnv [x0, x1] 0) w) : FnC Try.prog 144 #[x0, x1] w R := by
  obtain ⟨c, h1, h2⟩ := code144
  exact hb144.fn (ret_of_vc mixed Try.func144 h1 (Nat.le_of_ble_eq_true rfl) B144 h2 h)
@[push_cast] theorem vr144_0 : VR r144_0 [⟨some 4, .assign (.const (.int .i64 0)), 3, none⟩] := vR rfl
@[push_cast] theorem vr144_1 : VR r144_1 [⟨some 6, .move (.tmp 0), 35, none⟩, ⟨some 7, .call ⟨.builtin .len, #[.tmp 6], #[35]⟩, 3, none⟩, ⟨some 8, .move (.const (.int .i64 0)), 3, none⟩] := vR rfl
@[push_cast] theorem vr144_2 : VR r144_2 [⟨some 9, .binOp .lss 3 (.tmp 8) (.tmp 7) 3, 0, none⟩] := vR rfl
@[push_cast] theorem vr144_3 : VR r144_3 [⟨some 10, .move (.tmp 8), 3, none⟩, ⟨some 5, .assign (.tmp 10), 3, none⟩] := vR rfl
@[push_cast] theorem vr144_4 : VR r144_4 [⟨some 11, .move (.tmp 1), 153, none⟩, ⟨some 12, .move (.tmp 0), 35, none⟩, ⟨some 13, .move (.tmp 5), 3, none⟩, ⟨some 14, .indexAddr 35 (.tmp 12) (.tmp 13), 0, none⟩, ⟨some 15, .load 63 (.tmp 14), 63, none⟩, ⟨some 16, .call ⟨.value (.tmp 11), #[.tmp 15], #[63]⟩, 4, none⟩] := vR rfl
@[push_cast] theorem vr144_5 : VR r144_5 [⟨some 17, .move (.tmp 5), 3, none⟩, ⟨some 4, .assign (.tmp 17), 3, none⟩] := vR rfl
@[push_cast] theorem vr144_6 : VR r144_6 [⟨some 18, .binOp .add 3 (.tmp 8) (.const (.int .i64 1)) 3, 3, none⟩, ⟨some 8, .move (.tmp 18), 3, none⟩] := vR rfl
@[push_cast] theorem vr144_7 : VR r144_7 [⟨some 4, .assign (.const (.int .i64 (-1))), 3, none⟩] := vR rfl
/-! 145 columbary/typer.formed$1 (params #[39], results #[(.tmp 3)], 9 slots) -/
def r145_0 : List VOp :=
  [⟨some 2, .box 39 (.tmp 0), 0, none⟩,
   ⟨some 3, .assign (.const (.bool false)), 4, none⟩]
def r145_1 : List VOp :=
  [lda 4 39 2,
   lda 5 3 1,
   ⟨some 6, .binOp .sub 3 (.tmp 5) (.const (.int .i64 1)) 3, 3, none⟩,
   ⟨some 7, .call ⟨.value (.func 112), #[.tmp 4, .tmp 6], #[39, 3]⟩, 4, none⟩,
   ⟨some 8, .unOp .not 4 (.tmp 7), 4, none⟩,
   asg 3 8 4]
def B145 : VC :=
  (.seq (.region r145_0) (.seq (.region r145_1) .ret))
theorem code145 : ∃ c, Try.f145.body = some c ∧ abs Try.f145.ntmps c = B145 := ⟨_, rfl, by kernel_rfl⟩
theorem hb145 : HasBody Try.prog 145 := hasBody_of Try.func145 (by kernel_rfl)
theorem res145 : Try.f145.results = #[(.tmp 3)] := rfl
theorem enter145 {w : World} {R : Value → World → Prop} (x0 x1 : Value) (h : vc Try.prog B145 (retK Try.prog #[(.tmp 3)] R) [] (initEnv [x0, x1] 0) w) : FnC Try.prog 145 #[x0, x1] w R := by
  obtain ⟨c, h1, h2⟩ := code145
  exact hb145.fn (ret_of_vc mixed Try.func145 h1 (Nat.le_of_ble_eq_true rfl) B145 h2 h)
@[push_cast] theorem vr145_0 : VR r145_0 [⟨some 2, .box 39 (.tmp 0), 0, none⟩, ⟨some 3, .assign (.const (.bool false)), 4, none⟩] := vR rfl
@[push_cast] theorem vr145_1 : VR r145_1 [⟨some 4, .load 39 (.tmp 2), 39, none⟩, ⟨some 5, .load 3 (.tmp 1), 3, none⟩, ⟨some 6, .binOp .sub 3 (.tmp 5) (.const (.int .i64 1)) 3, 3, none⟩, ⟨some 7, .call ⟨.value (.func 112), #[.tmp 4, .tmp 6], #[39, 3]⟩, 4, none⟩, ⟨some 8, .unOp .not 4 (.tmp 7), 4, none⟩, ⟨some 3, .assign (.tmp 8), 4, none⟩] := vR rfl
/-! 146 slices.Collect[string] (params #[158], results #[(.tmp 2)], 5 slots) -/
def r146_0 : List VOp :=
  [⟨some 2, .assign (.const (.slice none 0 0)), 22, none⟩]
def r146_1 : List VOp :=
  [mv 3 0 158,
   ⟨some 4, .call ⟨.value (.func 161), #[(.const (.slice none 0 0)), .tmp 3], #[22, 158]⟩, 22, none⟩,
   asg 2 4 22]
def B146 : VC :=
  (.seq (.region r146_0) (.seq (.region r146_1) .ret))
theorem code146 : ∃ c, Try.f146.body = some c ∧ abs Try.f146.ntmps c = B146 := ⟨_, rfl, by kernel_rfl⟩
theorem hb146 : HasBody Try.prog 146 := hasBody_of Try.func146 (by kernel_rfl)
theorem res146 : Try.f146.results = #[(.tmp 2)] := rfl
theorem enter146 {w : World} {R : Value → World → Prop} (x0 : Value) (h : vc Try.prog B146 (retK Try.prog #[(.tmp 2)] R) [] (initEnv [x0] 0) w) : FnC Try.prog 146 #[x0] w R := by
  obtain ⟨c, h1, h2⟩ := code146
  exact hb146.fn (ret_of_vc mixed Try.func146 h1 (Nat.le_of_ble_eq_true rfl) B146 h2 h)
@[push_cast] theorem vr146_0 : VR r146_0 [⟨some 2, .assign (.const (.slice none 0 0)), 22, none⟩] := vR rfl
@[push_cast] theorem vr146_1 : VR r146_1 [⟨some 3, .move (.tmp 0), 158, none⟩, ⟨some 4, .call ⟨.value (.func 161), #[(.const (.slice none 0 0)), .tmp 3], #[22, 158]⟩, 22, none⟩, ⟨some 2, .assign (.tmp 4), 22, none⟩] := vR rfl
/-! 148 slices.Values[[]string,string]$1 (params #[90], results #[], 16 slots) -/
def W148_0 : List Nat := [4, 7, 8, 9, 10, 11, 12, 13, 14, 15]
@[push_cast] theorem W148_0_def : W148_0 = [4, 7, 8, 9, 10, 11, 12, 13, 14, 15] := mk_eq rfl
def r148_0 : List VOp :=
  [lda 5 22 1,
   ⟨some 6, .call ⟨.builtin .len, #[.tmp 5], #[22]⟩, 3, none⟩,
   ⟨some 7, .move (.const (.int .i64 0)), 3, none⟩]
def r148_1 : List VOp :=
  [⟨some 8, .binOp .lss 3 (.tmp 7) (.tmp 6) 3, 0, none⟩]
def r148_2 : List VOp :=
  [iad 9 22 5 7,
   lda 10 9 9,
   asg 4 10 9]
def r148_3 : List VOp :=
  [mv 11 0 90,
   mv 12 4 9,
   ⟨some 13, .call ⟨.value (.tmp 11), #[.tmp 12], #[9]⟩, 4, none⟩,
   ⟨some 14, .unOp .not 4 (.tmp 13), 4, none⟩]
def r148_4 : List VOp :=
  [⟨some 15, .binOp .add 3 (.tmp 7) (.const (.int .i64 1)) 3, 3, none⟩,
   mv 7 15 3]
def B148 : VC :=
  (.seq (.region r148_0) (.block 0 (.loop (.seq (.region r148_1) (.seq (.cond (.tmp 8) .skip (.exit 0)) (.seq (.block 1 (.seq (.region r148_2) (.seq (.region r148_3) (.cond (.tmp 14) .ret .skip)))) (.region r148_4)))))))
theorem code148 : ∃ c, Try.f148.body = some c ∧ abs Try.f148.ntmps c = B148 := ⟨_, rfl, by kernel_rfl⟩
theorem hb148 : HasBody Try.prog 148 := hasBody_of Try.func148 (by kernel_rfl)
theorem res148 : Try.f148.results = #[] := rfl
theorem enter148 {w : World} {R : Value → World → Prop} (x0 x1 : Value) (h : vc Try.prog B148 (retK Try.prog #[] R) [] (initEnv [x0, x1] 0) w) : FnC Try.prog 148 #[x0, x1] w R := by
  obtain ⟨c, h1, h2⟩ := code148
  exact hb148.fn (ret_of_vc mixed Try.func148 h1 (Nat.le_of_ble_eq_true rfl) B148 h2 h)
@[push_cast] theorem vr148_0 : VR r148_0 [⟨some 5, .load 22 (.tmp 1), 22, none⟩, ⟨some 6, .call ⟨.builtin .len, #[.tmp 5], #[22]⟩, 3, none⟩, ⟨some 7, .move (.const (.int .i64 0)), 3, none⟩] := vR rfl
@[push_cast] theorem vr148_1 : VR r148_1 [⟨some 8, .binOp .lss 3 (.tmp 7) (.tmp 6) 3, 0, none⟩] := vR rfl
@[push_cast] theorem vr148_2 : VR r148_2 [⟨some 9, .indexAddr 22 (.tmp 5) (.tmp 7), 0, none⟩, ⟨some 10, .load 9 (.tmp 9), 9, none⟩, ⟨some 4, .assign (.tmp 10), 9, none⟩] := vR rfl
@[push_cast] theorem vr148_3 : VR r148_3 [⟨some 11, .move (.tmp 0), 90, none⟩, ⟨some 12, .move (.tmp 4), 9, none⟩, ⟨some 13, .call ⟨.value (.tmp 11), #[.tmp 12], #[9]⟩, 4, none⟩, ⟨some 14, .unOp .not 4 (.tmp 13), 4, none⟩] := vR rfl
@[push_cast] theorem vr148_4 : VR r148_4 [⟨some 15, .binOp .add 3 (.tmp 7) (.const (.int .i64 1)) 3, 3, none⟩, ⟨some 7, .move (.tmp 15), 3, none⟩] := vR rfl
/-! 152 columbary/schema.Value$1 (params #[21], results #[(.tmp 2)], 9 slots) -/
def r152_0 : List VOp :=
  [⟨some 2, .assign (.const (.bool false)), 4, none⟩]
def r152_1 : List VOp :=
  [mv 3 0 21,
   ⟨some 4, .binOp .lss 21 (.tmp 3) (.const (.int .i32 32)) 21, 4, none⟩,
   mv 5 4 4,
   ⟨some 6, .move (.tmp 0), 21, some (5, false)⟩,
   ⟨some 7, .binOp .gtr 21 (.tmp 6) (.const (.int .i32 126)) 21, 4, some (5, false)⟩,
   ⟨some 8, .pick (.tmp 5) (.const (.bool true)) (.tmp 7), 4, none⟩,
   asg 2 8 4]
def B152 : VC :=
  (.seq (.region r152_0) (.seq (.region r152_1) .ret))
theorem code152 : ∃ c, Try.f152.body = some c ∧ abs Try.f152.ntmps c = B152 := ⟨_, rfl, by kernel_rfl⟩
theorem hb152 : HasBody Try.prog 152 := hasBody_of Try.func152 (by kernel_rfl)
theorem res152 : Try.f152.results = #[(.tmp 2)] := rfl
theorem enter152 {w : World} {R : Value → World → Prop} (x0 : Value) (h : vc Try.prog B152 (retK Try.prog #[(.tmp 2)] R) [] (initEnv [x0] 0) w) : FnC Try.prog 152 #[x0] w R := by
  obtain ⟨c, h1, h2⟩ := code152
  exact hb152.fn (ret_of_vc mixed Try.func152 h1 (Nat.le_of_ble_eq_true rfl) B152 h2 h)
@[push_cast] theorem vr152_0 : VR r152_0 [⟨some 2, .assign (.const (.bool false)), 4, none⟩] := vR rfl
@[push_cast] theorem vr152_1 : VR r152_1 [⟨some 3, .move (.tmp 0), 21, none⟩, ⟨some 4, .binOp .lss 21 (.tmp 3) (.const (.int .i32 32)) 21, 4, none⟩, ⟨some 5, .move (.tmp 4), 4, none⟩, ⟨some 6, .move (.tmp 0), 21, some (5, false)⟩, ⟨some 7, .binOp .gtr 21 (.tmp 6) (.const (.int .i32 126)) 21, 4, some (5, false)⟩, ⟨some 8, .pick (.tmp 5) (.const (.bool true)) (.tmp 7), 4, none⟩, ⟨some 2, .assign (.tmp 8), 4, none⟩] := vR rfl
/-! 161 slices.AppendSeq[[]string,string] (params #[22, 158], results #[(.tmp 4)], 13 slots) -/
def r161_0 : List VOp :=
  [⟨some 2, .box 22 (.tmp 0), 0, none⟩,
   ⟨some 4, .assign (.const (.slice none 0 0)), 22, none⟩]
def r161_1 : List VOp :=
  [mv 6 1 158]
def r161_2 : List VOp :=
  [asg 5 7 9]
def r161_3 : List VOp :=
  [lda 8 22 2,
   mv 9 5 9,
   ⟨some 10, .buildSlice 22 1 #[(0, (.tmp 9))], 22, none⟩,
   ⟨some 11, .call ⟨.builtin .append, #[.tmp 8, .tmp 10], #[22, 22]⟩, 22, none⟩,
   ⟨none, .store 22 (.tmp 2) (.tmp 11), 0, none⟩]
def r161_4 : List VOp :=
  [lda 12 22 2,
   asg 4 12 22]
def B161 : VC :=
  (.seq (.region r161_0) (.seq (.seq (.region r161_1) (.block 0 (.rangeFunc (.tmp 6) [7] (.region r161_2) (.block 1 (.region r161_3))))) (.seq (.region r161_4) .ret)))
theorem code161 : ∃ c, Try.f161.body = some c ∧ abs Try.f161.ntmps c = B161 := ⟨_, rfl, by kernel_rfl⟩
theorem hb161 : HasBody Try.prog 161 := hasBody_of Try.func161 (by kernel_rfl)
theorem res161 : Try.f161.results = #[(.tmp 4)] := rfl
theorem enter161 {w : World} {R : Value → World → Prop} (x0 x1 : Value) (h : vc Try.prog B161 (retK Try.prog #[(.tmp 4)] R) [] (initEnv [x0, x1] 0) w) : FnC Try.prog 161 #[x0, x1] w R := by
  obtain ⟨c, h1, h2⟩ := code161
  exact hb161.fn (ret_of_vc mixed Try.func161 h1 (Nat.le_of_ble_eq_true rfl) B161 h2 h)
@[push_cast] theorem vr161_0 : VR r161_0 [⟨some 2, .box 22 (.tmp 0), 0, none⟩, ⟨some 4, .assign (.const (.slice none 0 0)), 22, none⟩] := vR rfl
@[push_cast] theorem vr161_1 : VR r161_1 [⟨some 6, .move (.tmp 1), 158, none⟩] := vR rfl
@[push_cast] theorem vr161_2 : VR r161_2 [⟨some 5, .assign (.tmp 7), 9, none⟩] := vR rfl
@[push_cast] theorem vr161_3 : VR r161_3 [⟨some 8, .load 22 (.tmp 2), 22, none⟩, ⟨some 9, .move (.tmp 5), 9, none⟩, ⟨some 10, .buildSlice 22 1 #[(0, (.tmp 9))], 22, none⟩, ⟨some 11, .call ⟨.builtin .append, #[.tmp 8, .tmp 10], #[22, 22]⟩, 22, none⟩, ⟨none, .store 22 (.tmp 2) (.tmp 11), 0, none⟩] := vR rfl
@[push_cast] theorem vr161_4 : VR r161_4 [⟨some 12, .load 22 (.tmp 2), 22, none⟩, ⟨some 4, .assign (.tmp 12), 22, none⟩] := vR rfl
@[push_cast] theorem bsl22_1_Codes7T {K : Value → World → Prop} {w : World} (x0 : ByteArray) : vBuildSlice Try.prog 22 1 #[(0, (.string x0))] K w = K (.slice (some ⟨w.heap.size, 0, none⟩) 1 1) (w.alloc (.cells #[(.string x0)] 9)) :=
  vBuildSlice_ok Try.underlying22 ti9 (by kernel_rfl) (by decide)
@[push_cast] theorem bsl22_2_Codes7T {K : Value → World → Prop} {w : World} (x0 : ByteArray) (x1 : ByteArray) : vBuildSlice Try.prog 22 2 #[(0, (.string x0)), (1, (.string x1))] K w = K (.slice (some ⟨w.heap.size, 0, none⟩) 2 2) (w.alloc (.cells #[(.string x0), (.string x1)] 9)) :=
  vBuildSlice_ok Try.underlying22 ti9 (by kernel_rfl) (by decide)
@[push_cast] theorem bsl22_3_Codes7T {K : Value → World → Prop} {w : World} (x0 : ByteArray) (x1 : ByteArray) (x2 : ByteArray) : vBuildSlice Try.prog 22 3 #[(0, (.string x0)), (1, (.string x1)), (2, (.string x2))] K w = K (.slice (some ⟨w.heap.size, 0, none⟩) 3 3) (w.alloc (.cells #[(.string x0), (.string x1), (.string x2)] 9)) :=
  vBuildSlice_ok Try.underlying22 ti9 (by kernel_rfl) (by decide)
@[push_cast] theorem bsl35_0_Codes7T {K : Value → World → Prop} {w : World}  : vBuildSlice Try.prog 35 0 #[] K w = K (.slice (some ⟨w.heap.size, 0, none⟩) 0 0) (w.alloc (.cells #[] 63)) :=
  vBuildSlice_ok Try.underlying35 ti63 (by kernel_rfl) (by decide)
@[push_cast] theorem bsl35_1_Codes7T {K : Value → World → Prop} {w : World} (x00 x01 : Value) : vBuildSlice Try.prog 35 1 #[(0, (.agg #[x00, x01]))] K w = K (.slice (some ⟨w.heap.size, 0, none⟩) 1 1) (w.alloc (.cells #[x00, x01] 63)) :=
  vBuildSlice_ok Try.underlying35 ti63 (by kernel_rfl) (by decide)
@[push_cast] theorem bld24_0_1_Codes7T {K : Value → World → Prop} {w : World} (x0o : Option Addr) (x0n x0c : Nat) (x1o : Option Addr) (x1n x1c : Nat) : vBuild Try.prog 24 #[(0, (.slice x0o x0n x0c)), (1, (.slice x1o x1n x1c))] K w = K (.agg #[(.slice x0o x0n x0c), (.slice x1o x1n x1c)]) w :=
  vBuild_ok (by kernel_rfl)
@[push_cast] theorem bld39_0_1_2_Codes7T {K : Value → World → Prop} {w : World} (x0 : Int) (x1 : ByteArray) (x2 : ByteArray) : vBuild Try.prog 39 #[(0, (.int .i64 x0)), (1, (.string x1)), (2, (.string x2))] K w = K (.agg #[(.int .i64 x0), (.string x1), (.string x2), (.slice none 0 0)]) w :=
  vBuild_ok (by kernel_rfl)
@[push_cast] theorem bld42_0_2_3_4_5_Codes7T {K : Value → World → Prop} {w : World} (x0o : Option Addr) (x0n x0c : Nat) (x2 : Int) (x3 : Int) (x4o : Option Addr) (x4n x4c : Nat) (x50 x51 x52 x53 : Value) : vBuild Try.prog 42 #[(0, (.slice x0o x0n x0c)), (2, (.int .i64 x2)), (3, (.int .i64 x3)), (4, (.slice x4o x4n x4c)), (5, (.agg #[x50, x51, x52, x53]))] K w = K (.agg #[(.slice x0o x0n x0c), (.int .i64 0), (.int .i64 x2), (.int .i64 x3), (.slice x4o x4n x4c), x50, x51, x52, x53, (.slice none 0 0), (.int .i64 0), (.int .i64 0)]) w :=
  vBuild_ok (by kernel_rfl)
@[push_cast] theorem bld63_0_1_Codes7T {K : Value → World → Prop} {w : World} (x0 : Int) (x1 : ByteArray) : vBuild Try.prog 63 #[(0, (.int .i64 x0)), (1, (.string x1))] K w = K (.agg #[(.int .i64 x0), (.string x1)]) w :=
  vBuild_ok (by kernel_rfl)
end Go.Proofs.Ytnofalhkapmcnaa
end
