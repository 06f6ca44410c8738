/- What the generator asks of the types' table. Written by a program (codes.py). -/
import Derived.Test.YtcajkjbempagaaaChecked
import Derived.Test.YtcajkjbempagaaaPartD
set_option linter.all false
section
namespace Go.Proofs.Ytcajkjbempagaaa
open Go.Vc
theorem mixed : Try.prog.follows .mixedOrders = true := by kernel_rfl
@[push_cast] theorem sz1 : szOf Try.prog 1 = some 1 := by kernel_rfl
theorem ti1 : (Try.prog.info? 1).map (fun i => (i.zero, i.size, i.bytes)) = some (some .nilFunc, 1, 8) := by kernel_rfl
@[push_cast] theorem al1 (K : Value → World → Prop) (w : World) : vAlloc Try.prog 1 K w = K (.pointer (some ⟨w.heap.size, 0, none⟩)) (w.alloc (.cells #[.nilFunc] 1)) := vAlloc_ok ti1 K w
@[push_cast] theorem one1 : oneD (Try.prog.underlying 1) = true := by kernel_rfl
@[push_cast] theorem sz2 : szOf Try.prog 2 = some 1 := by kernel_rfl
theorem ti2 : (Try.prog.info? 2).map (fun i => (i.zero, i.size, i.bytes)) = some (some (.int .i64 0), 1, 8) := by kernel_rfl
@[push_cast] theorem al2 (K : Value → World → Prop) (w : World) : vAlloc Try.prog 2 K w = K (.pointer (some ⟨w.heap.size, 0, none⟩)) (w.alloc (.cells #[(.int .i64 0)] 2)) := vAlloc_ok ti2 K w
attribute [push_cast] Try.underlying2
@[push_cast] theorem sz3 : szOf Try.prog 3 = some 1 := by kernel_rfl
theorem ti3 : (Try.prog.info? 3).map (fun i => (i.zero, i.size, i.bytes)) = some (some (.int .i64 0), 1, 8) := by kernel_rfl
@[push_cast] theorem al3 (K : Value → World → Prop) (w : World) : vAlloc Try.prog 3 K w = K (.pointer (some ⟨w.heap.size, 0, none⟩)) (w.alloc (.cells #[(.int .i64 0)] 3)) := vAlloc_ok ti3 K w
attribute [push_cast] Try.underlying3
@[push_cast] theorem sz4 : szOf Try.prog 4 = some 1 := by kernel_rfl
theorem ti4 : (Try.prog.info? 4).map (fun i => (i.zero, i.size, i.bytes)) = some (some (.bool false), 1, 1) := by kernel_rfl
@[push_cast] theorem al4 (K : Value → World → Prop) (w : World) : vAlloc Try.prog 4 K w = K (.pointer (some ⟨w.heap.size, 0, none⟩)) (w.alloc (.cells #[(.bool false)] 4)) := vAlloc_ok ti4 K w
attribute [push_cast] Try.underlying4
@[push_cast] theorem sz5 : szOf Try.prog 5 = some 1 := by kernel_rfl
theorem ti5 : (Try.prog.info? 5).map (fun i => (i.zero, i.size, i.bytes)) = some (some (.int .u8 0), 1, 1) := by kernel_rfl
@[push_cast] theorem al5 (K : Value → World → Prop) (w : World) : vAlloc Try.prog 5 K w = K (.pointer (some ⟨w.heap.size, 0, none⟩)) (w.alloc (.cells #[(.int .u8 0)] 5)) := vAlloc_ok ti5 K w
attribute [push_cast] Try.underlying5
@[push_cast] theorem sz6 : szOf Try.prog 6 = some 1 := by kernel_rfl
theorem ti6 : (Try.prog.info? 6).map (fun i => (i.zero, i.size, i.bytes)) = some (some (.int .u8 0), 1, 1) := by kernel_rfl
@[push_cast] theorem al6 (K : Value → World → Prop) (w : World) : vAlloc Try.prog 6 K w = K (.pointer (some ⟨w.heap.size, 0, none⟩)) (w.alloc (.cells #[(.int .u8 0)] 6)) := vAlloc_ok ti6 K w
attribute [push_cast] Try.underlying6
@[push_cast] theorem sz7 : szOf Try.prog 7 = some 4 := by kernel_rfl
theorem ti7 : (Try.prog.info? 7).map (fun i => (i.zero, i.size, i.bytes)) = some (some (.agg #[(.int .i64 0), (.int .i64 0), (.bool false), (.int .u8 0)]), 4, 24) := by kernel_rfl
@[push_cast] theorem al7 (K : Value → World → Prop) (w : World) : vAlloc Try.prog 7 K w = K (.pointer (some ⟨w.heap.size, 0, none⟩)) (w.alloc (.cells #[(.int .i64 0), (.int .i64 0), (.bool false), (.int .u8 0)] 7)) := vAlloc_ok ti7 K w
attribute [push_cast] Try.underlying7
@[push_cast] theorem fld7_0 : fieldOf Try.prog 7 0 = some (0, 2) := by kernel_rfl
@[push_cast] theorem fld7_1 : fieldOf Try.prog 7 1 = some (1, 3) := by kernel_rfl
@[push_cast] theorem fld7_2 : fieldOf Try.prog 7 2 = some (2, 4) := by kernel_rfl
@[push_cast] theorem fld7_3 : fieldOf Try.prog 7 3 = some (3, 6) := by kernel_rfl
@[push_cast] theorem sz8 : szOf Try.prog 8 = some 4 := by kernel_rfl
theorem ti8 : (Try.prog.info? 8).map (fun i => (i.zero, i.size, i.bytes)) = some (some (.agg #[(.int .i64 0), (.int .i64 0), (.bool false), (.int .u8 0)]), 4, 24) := by kernel_rfl
@[push_cast] theorem al8 (K : Value → World → Prop) (w : World) : vAlloc Try.prog 8 K w = K (.pointer (some ⟨w.heap.size, 0, none⟩)) (w.alloc (.cells #[(.int .i64 0), (.int .i64 0), (.bool false), (.int .u8 0)] 8)) := vAlloc_ok ti8 K w
attribute [push_cast] Try.underlying8
@[push_cast] theorem fld8_0 : fieldOf Try.prog 8 0 = some (0, 2) := by kernel_rfl
@[push_cast] theorem fld8_1 : fieldOf Try.prog 8 1 = some (1, 3) := by kernel_rfl
@[push_cast] theorem fld8_2 : fieldOf Try.prog 8 2 = some (2, 4) := by kernel_rfl
@[push_cast] theorem fld8_3 : fieldOf Try.prog 8 3 = some (3, 6) := by kernel_rfl
@[push_cast] theorem sz9 : szOf Try.prog 9 = some 1 := by kernel_rfl
theorem ti9 : (Try.prog.info? 9).map (fun i => (i.zero, i.size, i.bytes)) = some (some (.string ⟨#[]⟩), 1, 16) := by kernel_rfl
@[push_cast] theorem al9 (K : Value → World → Prop) (w : World) : vAlloc Try.prog 9 K w = K (.pointer (some ⟨w.heap.size, 0, none⟩)) (w.alloc (.cells #[(.string ⟨#[]⟩)] 9)) := vAlloc_ok ti9 K w
attribute [push_cast] Try.underlying9
@[push_cast] theorem sz16 : szOf Try.prog 16 = some 1 := by kernel_rfl
theorem ti16 : (Try.prog.info? 16).map (fun i => (i.zero, i.size, i.bytes)) = some (some (.pointer none), 1, 8) := by kernel_rfl
@[push_cast] theorem al16 (K : Value → World → Prop) (w : World) : vAlloc Try.prog 16 K w = K (.pointer (some ⟨w.heap.size, 0, none⟩)) (w.alloc (.cells #[(.pointer none)] 16)) := vAlloc_ok ti16 K w
attribute [push_cast] Try.underlying16
@[push_cast] theorem sz20 : szOf Try.prog 20 = some 1 := by kernel_rfl
theorem ti20 : (Try.prog.info? 20).map (fun i => (i.zero, i.size, i.bytes)) = some (some .nilIface, 1, 16) := by kernel_rfl
@[push_cast] theorem al20 (K : Value → World → Prop) (w : World) : vAlloc Try.prog 20 K w = K (.pointer (some ⟨w.heap.size, 0, none⟩)) (w.alloc (.cells #[.nilIface] 20)) := vAlloc_ok ti20 K w
@[push_cast] theorem one20 : oneD (Try.prog.underlying 20) = true := by kernel_rfl
@[push_cast] theorem sz21 : szOf Try.prog 21 = some 1 := by kernel_rfl
theorem ti21 : (Try.prog.info? 21).map (fun i => (i.zero, i.size, i.bytes)) = some (some (.int .i32 0), 1, 4) := by kernel_rfl
@[push_cast] theorem al21 (K : Value → World → Prop) (w : World) : vAlloc Try.prog 21 K w = K (.pointer (some ⟨w.heap.size, 0, none⟩)) (w.alloc (.cells #[(.int .i32 0)] 21)) := vAlloc_ok ti21 K w
attribute [push_cast] Try.underlying21
@[push_cast] theorem sz22 : szOf Try.prog 22 = some 1 := by kernel_rfl
theorem ti22 : (Try.prog.info? 22).map (fun i => (i.zero, i.size, i.bytes)) = some (some (.slice none 0 0), 1, 24) := by kernel_rfl
@[push_cast] theorem al22 (K : Value → World → Prop) (w : World) : vAlloc Try.prog 22 K w = K (.pointer (some ⟨w.heap.size, 0, none⟩)) (w.alloc (.cells #[(.slice none 0 0)] 22)) := vAlloc_ok ti22 K w
attribute [push_cast] Try.underlying22
@[push_cast] theorem sz23 : szOf Try.prog 23 = some 2 := by kernel_rfl
theorem ti23 : (Try.prog.info? 23).map (fun i => (i.zero, i.size, i.bytes)) = some (some (.agg #[(.slice none 0 0), (.slice none 0 0)]), 2, 48) := by kernel_rfl
@[push_cast] theorem al23 (K : Value → World → Prop) (w : World) : vAlloc Try.prog 23 K w = K (.pointer (some ⟨w.heap.size, 0, none⟩)) (w.alloc (.cells #[(.slice none 0 0), (.slice none 0 0)] 23)) := vAlloc_ok ti23 K w
attribute [push_cast] Try.underlying23
@[push_cast] theorem fld23_0 : fieldOf Try.prog 23 0 = some (0, 22) := by kernel_rfl
@[push_cast] theorem fld23_1 : fieldOf Try.prog 23 1 = some (1, 22) := by kernel_rfl
@[push_cast] theorem sz24 : szOf Try.prog 24 = some 2 := by kernel_rfl
theorem ti24 : (Try.prog.info? 24).map (fun i => (i.zero, i.size, i.bytes)) = some (some (.agg #[(.slice none 0 0), (.slice none 0 0)]), 2, 48) := by kernel_rfl
@[push_cast] theorem al24 (K : Value → World → Prop) (w : World) : vAlloc Try.prog 24 K w = K (.pointer (some ⟨w.heap.size, 0, none⟩)) (w.alloc (.cells #[(.slice none 0 0), (.slice none 0 0)] 24)) := vAlloc_ok ti24 K w
attribute [push_cast] Try.underlying24
@[push_cast] theorem fld24_0 : fieldOf Try.prog 24 0 = some (0, 22) := by kernel_rfl
@[push_cast] theorem fld24_1 : fieldOf Try.prog 24 1 = some (1, 22) := by kernel_rfl
@[push_cast] theorem sz25 : szOf Try.prog 25 = some 1 := by kernel_rfl
theorem ti25 : (Try.prog.info? 25).map (fun i => (i.zero, i.size, i.bytes)) = some (some (.slice none 0 0), 1, 24) := by kernel_rfl
@[push_cast] theorem al25 (K : Value → World → Prop) (w : World) : vAlloc Try.prog 25 K w = K (.pointer (some ⟨w.heap.size, 0, none⟩)) (w.alloc (.cells #[(.slice none 0 0)] 25)) := vAlloc_ok ti25 K w
attribute [push_cast] Try.underlying25
@[push_cast] theorem sz28 : szOf Try.prog 28 = some 1 := by kernel_rfl
theorem ti28 : (Try.prog.info? 28).map (fun i => (i.zero, i.size, i.bytes)) = some (some (.pointer none), 1, 8) := by kernel_rfl
@[push_cast] theorem al28 (K : Value → World → Prop) (w : World) : vAlloc Try.prog 28 K w = K (.pointer (some ⟨w.heap.size, 0, none⟩)) (w.alloc (.cells #[(.pointer none)] 28)) := vAlloc_ok ti28 K w
attribute [push_cast] Try.underlying28
@[push_cast] theorem sz29 : szOf Try.prog 29 = some 1 := by kernel_rfl
theorem ti29 : (Try.prog.info? 29).map (fun i => (i.zero, i.size, i.bytes)) = some (some (.int .i64 0), 1, 8) := by kernel_rfl
@[push_cast] theorem al29 (K : Value → World → Prop) (w : World) : vAlloc Try.prog 29 K w = K (.pointer (some ⟨w.heap.size, 0, none⟩)) (w.alloc (.cells #[(.int .i64 0)] 29)) := vAlloc_ok ti29 K w
attribute [push_cast] Try.underlying29
@[push_cast] theorem sz33 : szOf Try.prog 33 = some 1 := by kernel_rfl
theorem ti33 : (Try.prog.info? 33).map (fun i => (i.zero, i.size, i.bytes)) = some (some (.slice none 0 0), 1, 24) := by kernel_rfl
@[push_cast] theorem al33 (K : Value → World → Prop) (w : World) : vAlloc Try.prog 33 K w = K (.pointer (some ⟨w.heap.size, 0, none⟩)) (w.alloc (.cells #[(.slice none 0 0)] 33)) := vAlloc_ok ti33 K w
attribute [push_cast] Try.underlying33
@[push_cast] theorem sz39 : szOf Try.prog 39 = some 1 := by kernel_rfl
theorem ti39 : (Try.prog.info? 39).map (fun i => (i.zero, i.size, i.bytes)) = some (some (.slice none 0 0), 1, 24) := by kernel_rfl
@[push_cast] theorem al39 (K : Value → World → Prop) (w : World) : vAlloc Try.prog 39 K w = K (.pointer (some ⟨w.heap.size, 0, none⟩)) (w.alloc (.cells #[(.slice none 0 0)] 39)) := vAlloc_ok ti39 K w
attribute [push_cast] Try.underlying39
@[push_cast] theorem sz40 : szOf Try.prog 40 = some 3 := by kernel_rfl
theorem ti40 : (Try.prog.info? 40).map (fun i => (i.zero, i.size, i.bytes)) = some (some (.agg #[(.int .i64 0), (.slice none 0 0), (.slice none 0 0)]), 3, 56) := by kernel_rfl
@[push_cast] theorem al40 (K : Value → World → Prop) (w : World) : vAlloc Try.prog 40 K w = K (.pointer (some ⟨w.heap.size, 0, none⟩)) (w.alloc (.cells #[(.int .i64 0), (.slice none 0 0), (.slice none 0 0)] 40)) := vAlloc_ok ti40 K w
attribute [push_cast] Try.underlying40
@[push_cast] theorem fld40_0 : fieldOf Try.prog 40 0 = some (0, 3) := by kernel_rfl
@[push_cast] theorem fld40_1 : fieldOf Try.prog 40 1 = some (1, 22) := by kernel_rfl
@[push_cast] theorem fld40_2 : fieldOf Try.prog 40 2 = some (2, 39) := by kernel_rfl
@[push_cast] theorem sz41 : szOf Try.prog 41 = some 3 := by kernel_rfl
theorem ti41 : (Try.prog.info? 41).map (fun i => (i.zero, i.size, i.bytes)) = some (some (.agg #[(.int .i64 0), (.slice none 0 0), (.slice none 0 0)]), 3, 56) := by kernel_rfl
@[push_cast] theorem al41 (K : Value → World → Prop) (w : World) : vAlloc Try.prog 41 K w = K (.pointer (some ⟨w.heap.size, 0, none⟩)) (w.alloc (.cells #[(.int .i64 0), (.slice none 0 0), (.slice none 0 0)] 41)) := vAlloc_ok ti41 K w
attribute [push_cast] Try.underlying41
@[push_cast] theorem fld41_0 : fieldOf Try.prog 41 0 = some (0, 3) := by kernel_rfl
@[push_cast] theorem fld41_1 : fieldOf Try.prog 41 1 = some (1, 22) := by kernel_rfl
@[push_cast] theorem fld41_2 : fieldOf Try.prog 41 2 = some (2, 39) := by kernel_rfl
@[push_cast] theorem sz42 : szOf Try.prog 42 = some 5 := by kernel_rfl
theorem ti42 : (Try.prog.info? 42).map (fun i => (i.zero, i.size, i.bytes)) = some (some (.agg #[(.bool false), (.int .i64 0), (.int .i64 0), (.slice none 0 0), (.slice none 0 0)]), 5, 72) := by kernel_rfl
@[push_cast] theorem al42 (K : Value → World → Prop) (w : World) : vAlloc Try.prog 42 K w = K (.pointer (some ⟨w.heap.size, 0, none⟩)) (w.alloc (.cells #[(.bool false), (.int .i64 0), (.int .i64 0), (.slice none 0 0), (.slice none 0 0)] 42)) := vAlloc_ok ti42 K w
attribute [push_cast] Try.underlying42
@[push_cast] theorem fld42_0 : fieldOf Try.prog 42 0 = some (0, 4) := by kernel_rfl
@[push_cast] theorem fld42_1 : fieldOf Try.prog 42 1 = some (1, 3) := by kernel_rfl
@[push_cast] theorem fld42_2 : fieldOf Try.prog 42 2 = some (2, 41) := by kernel_rfl
@[push_cast] theorem sz43 : szOf Try.prog 43 = some 5 := by kernel_rfl
theorem ti43 : (Try.prog.info? 43).map (fun i => (i.zero, i.size, i.bytes)) = some (some (.agg #[(.bool false), (.int .i64 0), (.int .i64 0), (.slice none 0 0), (.slice none 0 0)]), 5, 72) := by kernel_rfl
@[push_cast] theorem al43 (K : Value → World → Prop) (w : World) : vAlloc Try.prog 43 K w = K (.pointer (some ⟨w.heap.size, 0, none⟩)) (w.alloc (.cells #[(.bool false), (.int .i64 0), (.int .i64 0), (.slice none 0 0), (.slice none 0 0)] 43)) := vAlloc_ok ti43 K w
attribute [push_cast] Try.underlying43
@[push_cast] theorem fld43_0 : fieldOf Try.prog 43 0 = some (0, 4) := by kernel_rfl
@[push_cast] theorem fld43_1 : fieldOf Try.prog 43 1 = some (1, 3) := by kernel_rfl
@[push_cast] theorem fld43_2 : fieldOf Try.prog 43 2 = some (2, 41) := by kernel_rfl
@[push_cast] theorem sz44 : szOf Try.prog 44 = some 10 := by kernel_rfl
theorem ti44 : (Try.prog.info? 44).map (fun i => (i.zero, i.size, i.bytes)) = some (some (.agg #[(.bool false), (.int .i64 0), (.int .i64 0), (.slice none 0 0), (.slice none 0 0), (.bool false), (.int .i64 0), (.int .i64 0), (.slice none 0 0), (.slice none 0 0)]), 10, 144) := by kernel_rfl
@[push_cast] theorem al44 (K : Value → World → Prop) (w : World) : vAlloc Try.prog 44 K w = K (.pointer (some ⟨w.heap.size, 0, none⟩)) (w.alloc (.cells #[(.bool false), (.int .i64 0), (.int .i64 0), (.slice none 0 0), (.slice none 0 0), (.bool false), (.int .i64 0), (.int .i64 0), (.slice none 0 0), (.slice none 0 0)] 44)) := vAlloc_ok ti44 K w
attribute [push_cast] Try.underlying44
@[push_cast] theorem sz53 : szOf Try.prog 53 = some 2 := by kernel_rfl
theorem ti53 : (Try.prog.info? 53).map (fun i => (i.zero, i.size, i.bytes)) = some (some (.agg #[(.int .i64 0), (.int .i64 0)]), 2, 16) := by kernel_rfl
@[push_cast] theorem al53 (K : Value → World → Prop) (w : World) : vAlloc Try.prog 53 K w = K (.pointer (some ⟨w.heap.size, 0, none⟩)) (w.alloc (.cells #[(.int .i64 0), (.int .i64 0)] 53)) := vAlloc_ok ti53 K w
attribute [push_cast] Try.underlying53
@[push_cast] theorem sz59 : szOf Try.prog 59 = some 1 := by kernel_rfl
theorem ti59 : (Try.prog.info? 59).map (fun i => (i.zero, i.size, i.bytes)) = some (some (.slice none 0 0), 1, 24) := by kernel_rfl
@[push_cast] theorem al59 (K : Value → World → Prop) (w : World) : vAlloc Try.prog 59 K w = K (.pointer (some ⟨w.heap.size, 0, none⟩)) (w.alloc (.cells #[(.slice none 0 0)] 59)) := vAlloc_ok ti59 K w
attribute [push_cast] Try.underlying59
@[push_cast] theorem sz64 : szOf Try.prog 64 = some 1 := by kernel_rfl
theorem ti64 : (Try.prog.info? 64).map (fun i => (i.zero, i.size, i.bytes)) = some (some (.map none), 1, 8) := by kernel_rfl
@[push_cast] theorem al64 (K : Value → World → Prop) (w : World) : vAlloc Try.prog 64 K w = K (.pointer (some ⟨w.heap.size, 0, none⟩)) (w.alloc (.cells #[(.map none)] 64)) := vAlloc_ok ti64 K w
attribute [push_cast] Try.underlying64
@[push_cast] theorem sz65 : szOf Try.prog 65 = some 3 := by kernel_rfl
theorem ti65 : (Try.prog.info? 65).map (fun i => (i.zero, i.size, i.bytes)) = some (some (.agg #[(.int .i64 0), (.int .i64 0), (.map none)]), 3, 24) := by kernel_rfl
@[push_cast] theorem al65 (K : Value → World → Prop) (w : World) : vAlloc Try.prog 65 K w = K (.pointer (some ⟨w.heap.size, 0, none⟩)) (w.alloc (.cells #[(.int .i64 0), (.int .i64 0), (.map none)] 65)) := vAlloc_ok ti65 K w
attribute [push_cast] Try.underlying65
@[push_cast] theorem fld65_0 : fieldOf Try.prog 65 0 = some (0, 3) := by kernel_rfl
@[push_cast] theorem fld65_1 : fieldOf Try.prog 65 1 = some (1, 3) := by kernel_rfl
@[push_cast] theorem fld65_2 : fieldOf Try.prog 65 2 = some (2, 64) := by kernel_rfl
@[push_cast] theorem sz66 : szOf Try.prog 66 = some 3 := by kernel_rfl
theorem ti66 : (Try.prog.info? 66).map (fun i => (i.zero, i.size, i.bytes)) = some (some (.agg #[(.int .i64 0), (.int .i64 0), (.map none)]), 3, 24) := by kernel_rfl
@[push_cast] theorem al66 (K : Value → World → Prop) (w : World) : vAlloc Try.prog 66 K w = K (.pointer (some ⟨w.heap.size, 0, none⟩)) (w.alloc (.cells #[(.int .i64 0), (.int .i64 0), (.map none)] 66)) := vAlloc_ok ti66 K w
attribute [push_cast] Try.underlying66
@[push_cast] theorem fld66_0 : fieldOf Try.prog 66 0 = some (0, 3) := by kernel_rfl
@[push_cast] theorem fld66_1 : fieldOf Try.prog 66 1 = some (1, 3) := by kernel_rfl
@[push_cast] theorem fld66_2 : fieldOf Try.prog 66 2 = some (2, 64) := by kernel_rfl
@[push_cast] theorem sz69 : szOf Try.prog 69 = some 2 := by kernel_rfl
theorem ti69 : (Try.prog.info? 69).map (fun i => (i.zero, i.size, i.bytes)) = some (some (.agg #[(.slice none 0 0), (.int .i64 0)]), 2, 32) := by kernel_rfl
@[push_cast] theorem al69 (K : Value → World → Prop) (w : World) : vAlloc Try.prog 69 K w = K (.pointer (some ⟨w.heap.size, 0, none⟩)) (w.alloc (.cells #[(.slice none 0 0), (.int .i64 0)] 69)) := vAlloc_ok ti69 K w
attribute [push_cast] Try.underlying69
@[push_cast] theorem fld69_0 : fieldOf Try.prog 69 0 = some (0, 25) := by kernel_rfl
@[push_cast] theorem fld69_1 : fieldOf Try.prog 69 1 = some (1, 3) := by kernel_rfl
@[push_cast] theorem sz70 : szOf Try.prog 70 = some 2 := by kernel_rfl
theorem ti70 : (Try.prog.info? 70).map (fun i => (i.zero, i.size, i.bytes)) = some (some (.agg #[(.slice none 0 0), (.int .i64 0)]), 2, 32) := by kernel_rfl
@[push_cast] theorem al70 (K : Value → World → Prop) (w : World) : vAlloc Try.prog 70 K w = K (.pointer (some ⟨w.heap.size, 0, none⟩)) (w.alloc (.cells #[(.slice none 0 0), (.int .i64 0)] 70)) := vAlloc_ok ti70 K w
attribute [push_cast] Try.underlying70
@[push_cast] theorem fld70_0 : fieldOf Try.prog 70 0 = some (0, 25) := by kernel_rfl
@[push_cast] theorem fld70_1 : fieldOf Try.prog 70 1 = some (1, 3) := by kernel_rfl
@[push_cast] theorem sz76 : szOf Try.prog 76 = some 1 := by kernel_rfl
theorem ti76 : (Try.prog.info? 76).map (fun i => (i.zero, i.size, i.bytes)) = some (some (.slice none 0 0), 1, 24) := by kernel_rfl
@[push_cast] theorem al76 (K : Value → World → Prop) (w : World) : vAlloc Try.prog 76 K w = K (.pointer (some ⟨w.heap.size, 0, none⟩)) (w.alloc (.cells #[(.slice none 0 0)] 76)) := vAlloc_ok ti76 K w
attribute [push_cast] Try.underlying76
@[push_cast] theorem sz82 : szOf Try.prog 82 = some 1 := by kernel_rfl
theorem ti82 : (Try.prog.info? 82).map (fun i => (i.zero, i.size, i.bytes)) = some (some (.pointer none), 1, 8) := by kernel_rfl
@[push_cast] theorem al82 (K : Value → World → Prop) (w : World) : vAlloc Try.prog 82 K w = K (.pointer (some ⟨w.heap.size, 0, none⟩)) (w.alloc (.cells #[(.pointer none)] 82)) := vAlloc_ok ti82 K w
attribute [push_cast] Try.underlying82
@[push_cast] theorem sz83 : szOf Try.prog 83 = some 1 := by kernel_rfl
theorem ti83 : (Try.prog.info? 83).map (fun i => (i.zero, i.size, i.bytes)) = some (some (.pointer none), 1, 8) := by kernel_rfl
@[push_cast] theorem al83 (K : Value → World → Prop) (w : World) : vAlloc Try.prog 83 K w = K (.pointer (some ⟨w.heap.size, 0, none⟩)) (w.alloc (.cells #[(.pointer none)] 83)) := vAlloc_ok ti83 K w
attribute [push_cast] Try.underlying83
@[push_cast] theorem sz85 : szOf Try.prog 85 = some 2 := by kernel_rfl
theorem ti85 : (Try.prog.info? 85).map (fun i => (i.zero, i.size, i.bytes)) = some (some (.agg #[(.pointer none), (.bool false)]), 2, 16) := by kernel_rfl
@[push_cast] theorem al85 (K : Value → World → Prop) (w : World) : vAlloc Try.prog 85 K w = K (.pointer (some ⟨w.heap.size, 0, none⟩)) (w.alloc (.cells #[(.pointer none), (.bool false)] 85)) := vAlloc_ok ti85 K w
attribute [push_cast] Try.underlying85
@[push_cast] theorem fld85_0 : fieldOf Try.prog 85 0 = some (0, 83) := by kernel_rfl
@[push_cast] theorem fld85_1 : fieldOf Try.prog 85 1 = some (1, 4) := by kernel_rfl
@[push_cast] theorem sz86 : szOf Try.prog 86 = some 2 := by kernel_rfl
theorem ti86 : (Try.prog.info? 86).map (fun i => (i.zero, i.size, i.bytes)) = some (some (.agg #[(.pointer none), (.bool false)]), 2, 16) := by kernel_rfl
@[push_cast] theorem al86 (K : Value → World → Prop) (w : World) : vAlloc Try.prog 86 K w = K (.pointer (some ⟨w.heap.size, 0, none⟩)) (w.alloc (.cells #[(.pointer none), (.bool false)] 86)) := vAlloc_ok ti86 K w
attribute [push_cast] Try.underlying86
@[push_cast] theorem fld86_0 : fieldOf Try.prog 86 0 = some (0, 83) := by kernel_rfl
@[push_cast] theorem fld86_1 : fieldOf Try.prog 86 1 = some (1, 4) := by kernel_rfl
@[push_cast] theorem sz95 : szOf Try.prog 95 = some 1 := by kernel_rfl
theorem ti95 : (Try.prog.info? 95).map (fun i => (i.zero, i.size, i.bytes)) = some (some .nilFunc, 1, 8) := by kernel_rfl
@[push_cast] theorem al95 (K : Value → World → Prop) (w : World) : vAlloc Try.prog 95 K w = K (.pointer (some ⟨w.heap.size, 0, none⟩)) (w.alloc (.cells #[.nilFunc] 95)) := vAlloc_ok ti95 K w
@[push_cast] theorem one95 : oneD (Try.prog.underlying 95) = true := by kernel_rfl
@[push_cast] theorem sz101 : szOf Try.prog 101 = some 1 := by kernel_rfl
theorem ti101 : (Try.prog.info? 101).map (fun i => (i.zero, i.size, i.bytes)) = some (some (.int .u32 0), 1, 4) := by kernel_rfl
@[push_cast] theorem al101 (K : Value → World → Prop) (w : World) : vAlloc Try.prog 101 K w = K (.pointer (some ⟨w.heap.size, 0, none⟩)) (w.alloc (.cells #[(.int .u32 0)] 101)) := vAlloc_ok ti101 K w
attribute [push_cast] Try.underlying101
@[push_cast] theorem sz103 : szOf Try.prog 103 = some 1 := by kernel_rfl
theorem ti103 : (Try.prog.info? 103).map (fun i => (i.zero, i.size, i.bytes)) = some (some (.pointer none), 1, 8) := by kernel_rfl
@[push_cast] theorem al103 (K : Value → World → Prop) (w : World) : vAlloc Try.prog 103 K w = K (.pointer (some ⟨w.heap.size, 0, none⟩)) (w.alloc (.cells #[(.pointer none)] 103)) := vAlloc_ok ti103 K w
attribute [push_cast] Try.underlying103
@[push_cast] theorem sz104 : szOf Try.prog 104 = some 3 := by kernel_rfl
theorem ti104 : (Try.prog.info? 104).map (fun i => (i.zero, i.size, i.bytes)) = some (some (.agg #[(.slice none 0 0), (.int .i64 0), (.bool false)]), 3, 40) := by kernel_rfl
@[push_cast] theorem al104 (K : Value → World → Prop) (w : World) : vAlloc Try.prog 104 K w = K (.pointer (some ⟨w.heap.size, 0, none⟩)) (w.alloc (.cells #[(.slice none 0 0), (.int .i64 0), (.bool false)] 104)) := vAlloc_ok ti104 K w
attribute [push_cast] Try.underlying104
@[push_cast] theorem fld104_0 : fieldOf Try.prog 104 0 = some (0, 25) := by kernel_rfl
@[push_cast] theorem fld104_1 : fieldOf Try.prog 104 1 = some (1, 3) := by kernel_rfl
@[push_cast] theorem fld104_2 : fieldOf Try.prog 104 2 = some (2, 4) := by kernel_rfl
@[push_cast] theorem sz105 : szOf Try.prog 105 = some 3 := by kernel_rfl
theorem ti105 : (Try.prog.info? 105).map (fun i => (i.zero, i.size, i.bytes)) = some (some (.agg #[(.slice none 0 0), (.int .i64 0), (.bool false)]), 3, 40) := by kernel_rfl
@[push_cast] theorem al105 (K : Value → World → Prop) (w : World) : vAlloc Try.prog 105 K w = K (.pointer (some ⟨w.heap.size, 0, none⟩)) (w.alloc (.cells #[(.slice none 0 0), (.int .i64 0), (.bool false)] 105)) := vAlloc_ok ti105 K w
attribute [push_cast] Try.underlying105
@[push_cast] theorem fld105_0 : fieldOf Try.prog 105 0 = some (0, 25) := by kernel_rfl
@[push_cast] theorem fld105_1 : fieldOf Try.prog 105 1 = some (1, 3) := by kernel_rfl
@[push_cast] theorem fld105_2 : fieldOf Try.prog 105 2 = some (2, 4) := by kernel_rfl
@[push_cast] theorem sz108 : szOf Try.prog 108 = some 1 := by kernel_rfl
theorem ti108 : (Try.prog.info? 108).map (fun i => (i.zero, i.size, i.bytes)) = some (some (.int .u64 0), 1, 8) := by kernel_rfl
@[push_cast] theorem al108 (K : Value → World → Prop) (w : World) : vAlloc Try.prog 108 K w = K (.pointer (some ⟨w.heap.size, 0, none⟩)) (w.alloc (.cells #[(.int .u64 0)] 108)) := vAlloc_ok ti108 K w
attribute [push_cast] Try.underlying108
@[push_cast] theorem sz110 : szOf Try.prog 110 = some 1 := by kernel_rfl
theorem ti110 : (Try.prog.info? 110).map (fun i => (i.zero, i.size, i.bytes)) = some (some (.agg #[(.slice none 0 0)]), 1, 24) := by kernel_rfl
@[push_cast] theorem al110 (K : Value → World → Prop) (w : World) : vAlloc Try.prog 110 K w = K (.pointer (some ⟨w.heap.size, 0, none⟩)) (w.alloc (.cells #[(.slice none 0 0)] 110)) := vAlloc_ok ti110 K w
attribute [push_cast] Try.underlying110
@[push_cast] theorem fld110_0 : fieldOf Try.prog 110 0 = some (0, 25) := by kernel_rfl
@[push_cast] theorem sz111 : szOf Try.prog 111 = some 1 := by kernel_rfl
theorem ti111 : (Try.prog.info? 111).map (fun i => (i.zero, i.size, i.bytes)) = some (some (.agg #[(.slice none 0 0)]), 1, 24) := by kernel_rfl
@[push_cast] theorem al111 (K : Value → World → Prop) (w : World) : vAlloc Try.prog 111 K w = K (.pointer (some ⟨w.heap.size, 0, none⟩)) (w.alloc (.cells #[(.slice none 0 0)] 111)) := vAlloc_ok ti111 K w
attribute [push_cast] Try.underlying111
@[push_cast] theorem fld111_0 : fieldOf Try.prog 111 0 = some (0, 25) := by kernel_rfl
@[push_cast] theorem sz119 : szOf Try.prog 119 = some 1 := by kernel_rfl
theorem ti119 : (Try.prog.info? 119).map (fun i => (i.zero, i.size, i.bytes)) = some (some .nilFunc, 1, 8) := by kernel_rfl
@[push_cast] theorem al119 (K : Value → World → Prop) (w : World) : vAlloc Try.prog 119 K w = K (.pointer (some ⟨w.heap.size, 0, none⟩)) (w.alloc (.cells #[.nilFunc] 119)) := vAlloc_ok ti119 K w
@[push_cast] theorem one119 : oneD (Try.prog.underlying 119) = true := by kernel_rfl
@[push_cast] theorem sz122 : szOf Try.prog 122 = some 1 := by kernel_rfl
theorem ti122 : (Try.prog.info? 122).map (fun i => (i.zero, i.size, i.bytes)) = some (some (.int .u64 0), 1, 8) := by kernel_rfl
@[push_cast] theorem al122 (K : Value → World → Prop) (w : World) : vAlloc Try.prog 122 K w = K (.pointer (some ⟨w.heap.size, 0, none⟩)) (w.alloc (.cells #[(.int .u64 0)] 122)) := vAlloc_ok ti122 K w
attribute [push_cast] Try.underlying122
@[push_cast] theorem sz123 : szOf Try.prog 123 = some 16 := by kernel_rfl
theorem ti123 : (Try.prog.info? 123).map (fun i => (i.zero, i.size, i.bytes)) = some (some (.agg #[(.int .u32 0), (.int .u32 0), (.int .u32 0), (.int .u32 0), (.int .u32 0), (.int .u32 0), (.int .u32 0), (.int .u32 0), (.int .u32 0), (.int .u32 0), (.int .u32 0), (.int .u32 0), (.int .u32 0), (.int .u32 0), (.int .u32 0), (.int .u32 0)]), 16, 64) := by kernel_rfl
@[push_cast] theorem al123 (K : Value → World → Prop) (w : World) : vAlloc Try.prog 123 K w = K (.pointer (some ⟨w.heap.size, 0, none⟩)) (w.alloc (.cells #[(.int .u32 0), (.int .u32 0), (.int .u32 0), (.int .u32 0), (.int .u32 0), (.int .u32 0), (.int .u32 0), (.int .u32 0), (.int .u32 0), (.int .u32 0), (.int .u32 0), (.int .u32 0), (.int .u32 0), (.int .u32 0), (.int .u32 0), (.int .u32 0)] 123)) := vAlloc_ok ti123 K w
attribute [push_cast] Try.underlying123
@[push_cast] theorem sz128 : szOf Try.prog 128 = some 1 := by kernel_rfl
theorem ti128 : (Try.prog.info? 128).map (fun i => (i.zero, i.size, i.bytes)) = some (some .nilFunc, 1, 8) := by kernel_rfl
@[push_cast] theorem al128 (K : Value → World → Prop) (w : World) : vAlloc Try.prog 128 K w = K (.pointer (some ⟨w.heap.size, 0, none⟩)) (w.alloc (.cells #[.nilFunc] 128)) := vAlloc_ok ti128 K w
@[push_cast] theorem one128 : oneD (Try.prog.underlying 128) = true := by kernel_rfl
@[push_cast] theorem sz141 : szOf Try.prog 141 = some 256 := by kernel_rfl
theorem ti141 : (Try.prog.info? 141).map (fun i => (i.zero, i.size, i.bytes)) = some (some (.agg #[(.bool false), (.bool false), (.bool false), (.bool false), (.bool false), (.bool false), (.bool false), (.bool false), (.bool false), (.bool false), (.bool false), (.bool false), (.bool false), (.bool false), (.bool false), (.bool false), (.bool false), (.bool false), (.bool false), (.bool false), (.bool false), (.bool false), (.bool false), (.bool false), (.bool false), (.bool false), (.bool false), (.bool false), (.bool false), (.bool false), (.bool false), (.bool false), (.bool false), (.bool false), (.bool false), (.bool false), (.bool false), (.bool false), (.bool false), (.bool false), (.bool false), (.bool false), (.bool false), (.bool false), (.bool false), (.bool false), (.bool false), (.bool false), (.bool false), (.bool false), (.bool false), (.bool false), (.bool false), (.bool false), (.bool false), (.bool false), (.bool false), (.bool false), (.bool false), (.bool false), (.bool false), (.bool false), (.bool false), (.bool false), (.bool false), (.bool false), (.bool false), (.bool false), (.bool false), (.bool false), (.bool false), (.bool false), (.bool false), (.bool false), (.bool false), (.bool false), (.bool false), (.bool false), (.bool false), (.bool false), (.bool false), (.bool false), (.bool false), (.bool false), (.bool false), (.bool false), (.bool false), (.bool false), (.bool false), (.bool false), (.bool false), (.bool false), (.bool false), (.bool false), (.bool false), (.bool false), (.bool false), (.bool false), (.bool false), (.bool false), (.bool false), (.bool false), (.bool false), (.bool false), (.bool false), (.bool false), (.bool false), (.bool false), (.bool false), (.bool false), (.bool false), (.bool false), (.bool false), (.bool false), (.bool false), (.bool false), (.bool false), (.bool false), (.bool false), (.bool false), (.bool false), (.bool false), (.bool false), (.bool false), (.bool false), (.bool false), (.bool false), (.bool false), (.bool false), (.bool false), (.bool false), (.bool false), (.bool false), (.bool false), (.bool false), (.bool false), (.bool false), (.bool false), (.bool false), (.bool false), (.bool false), (.bool false), (.bool false), (.bool false), (.bool false), (.bool false), (.bool false), (.bool false), (.bool false), (.bool false), (.bool false), (.bool false), (.bool false), (.bool false), (.bool false), (.bool false), (.bool false), (.bool false), (.bool false), (.bool false), (.bool false), (.bool false), (.bool false), (.bool false), (.bool false), (.bool false), (.bool false), (.bool false), (.bool false), (.bool false), (.bool false), (.bool false), (.bool false), (.bool false), (.bool false), (.bool false), (.bool false), (.bool false), (.bool false), (.bool false), (.bool false), (.bool false), (.bool false), (.bool false), (.bool false), (.bool false), (.bool false), (.bool false), (.bool false), (.bool false), (.bool false), (.bool false), (.bool false), (.bool false), (.bool false), (.bool false), (.bool false), (.bool false), (.bool false), (.bool false), (.bool false), (.bool false), (.bool false), (.bool false), (.bool false), (.bool false), (.bool false), (.bool false), (.bool false), (.bool false), (.bool false), (.bool false), (.bool false), (.bool false), (.bool false), (.bool false), (.bool false), (.bool false), (.bool false), (.bool false), (.bool false), (.bool false), (.bool false), (.bool false), (.bool false), (.bool false), (.bool false), (.bool false), (.bool false), (.bool false), (.bool false), (.bool false), (.bool false), (.bool false), (.bool false), (.bool false), (.bool false), (.bool false), (.bool false), (.bool false), (.bool false), (.bool false), (.bool false), (.bool false), (.bool false), (.bool false), (.bool false), (.bool false), (.bool false), (.bool false), (.bool false), (.bool false), (.bool false), (.bool false), (.bool false), (.bool false)]), 256, 256) := by kernel_rfl
@[push_cast] theorem al141 (K : Value → World → Prop) (w : World) : vAlloc Try.prog 141 K w = K (.pointer (some ⟨w.heap.size, 0, none⟩)) (w.alloc (.cells #[(.bool false), (.bool false), (.bool false), (.bool false), (.bool false), (.bool false), (.bool false), (.bool false), (.bool false), (.bool false), (.bool false), (.bool false), (.bool false), (.bool false), (.bool false), (.bool false), (.bool false), (.bool false), (.bool false), (.bool false), (.bool false), (.bool false), (.bool false), (.bool false), (.bool false), (.bool false), (.bool false), (.bool false), (.bool false), (.bool false), (.bool false), (.bool false), (.bool false), (.bool false), (.bool false), (.bool false), (.bool false), (.bool false), (.bool false), (.bool false), (.bool false), (.bool false), (.bool false), (.bool false), (.bool false), (.bool false), (.bool false), (.bool false), (.bool false), (.bool false), (.bool false), (.bool false), (.bool false), (.bool false), (.bool false), (.bool false), (.bool false), (.bool false), (.bool false), (.bool false), (.bool false), (.bool false), (.bool false), (.bool false), (.bool false), (.bool false), (.bool false), (.bool false), (.bool false), (.bool false), (.bool false), (.bool false), (.bool false), (.bool false), (.bool false), (.bool false), (.bool false), (.bool false), (.bool false), (.bool false), (.bool false), (.bool false), (.bool false), (.bool false), (.bool false), (.bool false), (.bool false), (.bool false), (.bool false), (.bool false), (.bool false), (.bool false), (.bool false), (.bool false), (.bool false), (.bool false), (.bool false), (.bool false), (.bool false), (.bool false), (.bool false), (.bool false), (.bool false), (.bool false), (.bool false), (.bool false), (.bool false), (.bool false), (.bool false), (.bool false), (.bool false), (.bool false), (.bool false), (.bool false), (.bool false), (.bool false), (.bool false), (.bool false), (.bool false), (.bool false), (.bool false), (.bool false), (.bool false), (.bool false), (.bool false), (.bool false), (.bool false), (.bool false), (.bool false), (.bool false), (.bool false), (.bool false), (.bool false), (.bool false), (.bool false), (.bool false), (.bool false), (.bool false), (.bool false), (.bool false), (.bool false), (.bool false), (.bool false), (.bool false), (.bool false), (.bool false), (.bool false), (.bool false), (.bool false), (.bool false), (.bool false), (.bool false), (.bool false), (.bool false), (.bool false), (.bool false), (.bool false), (.bool false), (.bool false), (.bool false), (.bool false), (.bool false), (.bool false), (.bool false), (.bool false), (.bool false), (.bool false), (.bool false), (.bool false), (.bool false), (.bool false), (.bool false), (.bool false), (.bool false), (.bool false), (.bool false), (.bool false), (.bool false), (.bool false), (.bool false), (.bool false), (.bool false), (.bool false), (.bool false), (.bool false), (.bool false), (.bool false), (.bool false), (.bool false), (.bool false), (.bool false), (.bool false), (.bool false), (.bool false), (.bool false), (.bool false), (.bool false), (.bool false), (.bool false), (.bool false), (.bool false), (.bool false), (.bool false), (.bool false), (.bool false), (.bool false), (.bool false), (.bool false), (.bool false), (.bool false), (.bool false), (.bool false), (.bool false), (.bool false), (.bool false), (.bool false), (.bool false), (.bool false), (.bool false), (.bool false), (.bool false), (.bool false), (.bool false), (.bool false), (.bool false), (.bool false), (.bool false), (.bool false), (.bool false), (.bool false), (.bool false), (.bool false), (.bool false), (.bool false), (.bool false), (.bool false), (.bool false), (.bool false), (.bool false), (.bool false), (.bool false), (.bool false), (.bool false), (.bool false), (.bool false), (.bool false), (.bool false), (.bool false), (.bool false), (.bool false), (.bool false), (.bool false), (.bool false), (.bool false), (.bool false), (.bool false)] 141)) := vAlloc_ok ti141 K w
attribute [push_cast] Try.underlying141
@[push_cast] theorem sz142 : szOf Try.prog 142 = some 256 := by kernel_rfl
theorem ti142 : (Try.prog.info? 142).map (fun i => (i.zero, i.size, i.bytes)) = some (some (.agg #[(.bool false), (.bool false), (.bool false), (.bool false), (.bool false), (.bool false), (.bool false), (.bool false), (.bool false), (.bool false), (.bool false), (.bool false), (.bool false), (.bool false), (.bool false), (.bool false), (.bool false), (.bool false), (.bool false), (.bool false), (.bool false), (.bool false), (.bool false), (.bool false), (.bool false), (.bool false), (.bool false), (.bool false), (.bool false), (.bool false), (.bool false), (.bool false), (.bool false), (.bool false), (.bool false), (.bool false), (.bool false), (.bool false), (.bool false), (.bool false), (.bool false), (.bool false), (.bool false), (.bool false), (.bool false), (.bool false), (.bool false), (.bool false), (.bool false), (.bool false), (.bool false), (.bool false), (.bool false), (.bool false), (.bool false), (.bool false), (.bool false), (.bool false), (.bool false), (.bool false), (.bool false), (.bool false), (.bool false), (.bool false), (.bool false), (.bool false), (.bool false), (.bool false), (.bool false), (.bool false), (.bool false), (.bool false), (.bool false), (.bool false), (.bool false), (.bool false), (.bool false), (.bool false), (.bool false), (.bool false), (.bool false), (.bool false), (.bool false), (.bool false), (.bool false), (.bool false), (.bool false), (.bool false), (.bool false), (.bool false), (.bool false), (.bool false), (.bool false), (.bool false), (.bool false), (.bool false), (.bool false), (.bool false), (.bool false), (.bool false), (.bool false), (.bool false), (.bool false), (.bool false), (.bool false), (.bool false), (.bool false), (.bool false), (.bool false), (.bool false), (.bool false), (.bool false), (.bool false), (.bool false), (.bool false), (.bool false), (.bool false), (.bool false), (.bool false), (.bool false), (.bool false), (.bool false), (.bool false), (.bool false), (.bool false), (.bool false), (.bool false), (.bool false), (.bool false), (.bool false), (.bool false), (.bool false), (.bool false), (.bool false), (.bool false), (.bool false), (.bool false), (.bool false), (.bool false), (.bool false), (.bool false), (.bool false), (.bool false), (.bool false), (.bool false), (.bool false), (.bool false), (.bool false), (.bool false), (.bool false), (.bool false), (.bool false), (.bool false), (.bool false), (.bool false), (.bool false), (.bool false), (.bool false), (.bool false), (.bool false), (.bool false), (.bool false), (.bool false), (.bool false), (.bool false), (.bool false), (.bool false), (.bool false), (.bool false), (.bool false), (.bool false), (.bool false), (.bool false), (.bool false), (.bool false), (.bool false), (.bool false), (.bool false), (.bool false), (.bool false), (.bool false), (.bool false), (.bool false), (.bool false), (.bool false), (.bool false), (.bool false), (.bool false), (.bool false), (.bool false), (.bool false), (.bool false), (.bool false), (.bool false), (.bool false), (.bool false), (.bool false), (.bool false), (.bool false), (.bool false), (.bool false), (.bool false), (.bool false), (.bool false), (.bool false), (.bool false), (.bool false), (.bool false), (.bool false), (.bool false), (.bool false), (.bool false), (.bool false), (.bool false), (.bool false), (.bool false), (.bool false), (.bool false), (.bool false), (.bool false), (.bool false), (.bool false), (.bool false), (.bool false), (.bool false), (.bool false), (.bool false), (.bool false), (.bool false), (.bool false), (.bool false), (.bool false), (.bool false), (.bool false), (.bool false), (.bool false), (.bool false), (.bool false), (.bool false), (.bool false), (.bool false), (.bool false), (.bool false), (.bool false), (.bool false), (.bool false), (.bool false), (.bool false), (.bool false), (.bool false), (.bool false), (.bool false), (.bool false), (.bool false), (.bool false), (.bool false)]), 256, 256) := by kernel_rfl
@[push_cast] theorem al142 (K : Value → World → Prop) (w : World) : vAlloc Try.prog 142 K w = K (.pointer (some ⟨w.heap.size, 0, none⟩)) (w.alloc (.cells #[(.bool false), (.bool false), (.bool false), (.bool false), (.bool false), (.bool false), (.bool false), (.bool false), (.bool false), (.bool false), (.bool false), (.bool false), (.bool false), (.bool false), (.bool false), (.bool false), (.bool false), (.bool false), (.bool false), (.bool false), (.bool false), (.bool false), (.bool false), (.bool false), (.bool false), (.bool false), (.bool false), (.bool false), (.bool false), (.bool false), (.bool false), (.bool false), (.bool false), (.bool false), (.bool false), (.bool false), (.bool false), (.bool false), (.bool false), (.bool false), (.bool false), (.bool false), (.bool false), (.bool false), (.bool false), (.bool false), (.bool false), (.bool false), (.bool false), (.bool false), (.bool false), (.bool false), (.bool false), (.bool false), (.bool false), (.bool false), (.bool false), (.bool false), (.bool false), (.bool false), (.bool false), (.bool false), (.bool false), (.bool false), (.bool false), (.bool false), (.bool false), (.bool false), (.bool false), (.bool false), (.bool false), (.bool false), (.bool false), (.bool false), (.bool false), (.bool false), (.bool false), (.bool false), (.bool false), (.bool false), (.bool false), (.bool false), (.bool false), (.bool false), (.bool false), (.bool false), (.bool false), (.bool false), (.bool false), (.bool false), (.bool false), (.bool false), (.bool false), (.bool false), (.bool false), (.bool false), (.bool false), (.bool false), (.bool false), (.bool false), (.bool false), (.bool false), (.bool false), (.bool false), (.bool false), (.bool false), (.bool false), (.bool false), (.bool false), (.bool false), (.bool false), (.bool false), (.bool false), (.bool false), (.bool false), (.bool false), (.bool false), (.bool false), (.bool false), (.bool false), (.bool false), (.bool false), (.bool false), (.bool false), (.bool false), (.bool false), (.bool false), (.bool false), (.bool false), (.bool false), (.bool false), (.bool false), (.bool false), (.bool false), (.bool false), (.bool false), (.bool false), (.bool false), (.bool false), (.bool false), (.bool false), (.bool false), (.bool false), (.bool false), (.bool false), (.bool false), (.bool false), (.bool false), (.bool false), (.bool false), (.bool false), (.bool false), (.bool false), (.bool false), (.bool false), (.bool false), (.bool false), (.bool false), (.bool false), (.bool false), (.bool false), (.bool false), (.bool false), (.bool false), (.bool false), (.bool false), (.bool false), (.bool false), (.bool false), (.bool false), (.bool false), (.bool false), (.bool false), (.bool false), (.bool false), (.bool false), (.bool false), (.bool false), (.bool false), (.bool false), (.bool false), (.bool false), (.bool false), (.bool false), (.bool false), (.bool false), (.bool false), (.bool false), (.bool false), (.bool false), (.bool false), (.bool false), (.bool false), (.bool false), (.bool false), (.bool false), (.bool false), (.bool false), (.bool false), (.bool false), (.bool false), (.bool false), (.bool false), (.bool false), (.bool false), (.bool false), (.bool false), (.bool false), (.bool false), (.bool false), (.bool false), (.bool false), (.bool false), (.bool false), (.bool false), (.bool false), (.bool false), (.bool false), (.bool false), (.bool false), (.bool false), (.bool false), (.bool false), (.bool false), (.bool false), (.bool false), (.bool false), (.bool false), (.bool false), (.bool false), (.bool false), (.bool false), (.bool false), (.bool false), (.bool false), (.bool false), (.bool false), (.bool false), (.bool false), (.bool false), (.bool false), (.bool false), (.bool false), (.bool false), (.bool false), (.bool false), (.bool false), (.bool false), (.bool false), (.bool false), (.bool false), (.bool false), (.bool false), (.bool false), (.bool false), (.bool false)] 142)) := vAlloc_ok ti142 K w
attribute [push_cast] Try.underlying142
@[push_cast] theorem sz146 : szOf Try.prog 146 = some 1 := by kernel_rfl
theorem ti146 : (Try.prog.info? 146).map (fun i => (i.zero, i.size, i.bytes)) = some (some (.pointer none), 1, 8) := by kernel_rfl
@[push_cast] theorem al146 (K : Value → World → Prop) (w : World) : vAlloc Try.prog 146 K w = K (.pointer (some ⟨w.heap.size, 0, none⟩)) (w.alloc (.cells #[(.pointer none)] 146)) := vAlloc_ok ti146 K w
attribute [push_cast] Try.underlying146
@[push_cast] theorem sz149 : szOf Try.prog 149 = some 0 := by kernel_rfl
theorem ti149 : (Try.prog.info? 149).map (fun i => (i.zero, i.size, i.bytes)) = some (some (.agg #[]), 0, 0) := by kernel_rfl
@[push_cast] theorem al149 (K : Value → World → Prop) (w : World) : vAlloc Try.prog 149 K w = K (.pointer (some ⟨w.heap.size, 0, none⟩)) (w.alloc (.cells #[] 149)) := vAlloc_ok ti149 K w
attribute [push_cast] Try.underlying149
@[push_cast] theorem sz150 : szOf Try.prog 150 = some 0 := by kernel_rfl
theorem ti150 : (Try.prog.info? 150).map (fun i => (i.zero, i.size, i.bytes)) = some (some (.agg #[]), 0, 0) := by kernel_rfl
@[push_cast] theorem al150 (K : Value → World → Prop) (w : World) : vAlloc Try.prog 150 K w = K (.pointer (some ⟨w.heap.size, 0, none⟩)) (w.alloc (.cells #[] 150)) := vAlloc_ok ti150 K w
attribute [push_cast] Try.underlying150
@[push_cast] theorem fld150_0 : fieldOf Try.prog 150 0 = some (0, 149) := by kernel_rfl
@[push_cast] theorem sz151 : szOf Try.prog 151 = some 0 := by kernel_rfl
theorem ti151 : (Try.prog.info? 151).map (fun i => (i.zero, i.size, i.bytes)) = some (some (.agg #[]), 0, 0) := by kernel_rfl
@[push_cast] theorem al151 (K : Value → World → Prop) (w : World) : vAlloc Try.prog 151 K w = K (.pointer (some ⟨w.heap.size, 0, none⟩)) (w.alloc (.cells #[] 151)) := vAlloc_ok ti151 K w
attribute [push_cast] Try.underlying151
@[push_cast] theorem fld151_0 : fieldOf Try.prog 151 0 = some (0, 149) := by kernel_rfl
end Go.Proofs.Ytcajkjbempagaaa
end
