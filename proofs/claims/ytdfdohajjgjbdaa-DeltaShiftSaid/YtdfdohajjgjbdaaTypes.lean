/- What the generator asks of the types' table. Written by a program (codes.py). -/
import Derived.Test.YtdfdohajjgjbdaaVcLaws
import Derived.Test.YtdfdohajjgjbdaaChecked
namespace Go.Proofs.Ytdfdohajjgjbdaa
open Go.Vc
theorem mixed : Try.prog.follows .mixedOrders = true := by kernel_rfl
@[push_cast] theorem sz1 : szOf Try.prog 1 = some 1 := by kernel_rfl
theorem ti1 : (Try.prog.info? 1).map (fun i => (i.zero, i.size, i.bytes)) = some (some .nilFunc, 1, 8) := by kernel_rfl
@[push_cast] theorem al1 (K : Value → World → Prop) (w : World) : vAlloc Try.prog 1 K w = K (.pointer (some ⟨w.heap.size, 0, none⟩)) (w.alloc (.cells #[.nilFunc] 1)) := vAlloc_ok ti1 K w
@[push_cast] theorem one1 : oneD (Try.prog.underlying 1) = true := by kernel_rfl
@[push_cast] theorem sz2 : szOf Try.prog 2 = some 1 := by kernel_rfl
theorem ti2 : (Try.prog.info? 2).map (fun i => (i.zero, i.size, i.bytes)) = some (some (.int .i64 0), 1, 8) := by kernel_rfl
@[push_cast] theorem al2 (K : Value → World → Prop) (w : World) : vAlloc Try.prog 2 K w = K (.pointer (some ⟨w.heap.size, 0, none⟩)) (w.alloc (.cells #[(.int .i64 0)] 2)) := vAlloc_ok ti2 K w
attribute [push_cast] Try.underlying2
@[push_cast] theorem sz3 : szOf Try.prog 3 = some 1 := by kernel_rfl
theorem ti3 : (Try.prog.info? 3).map (fun i => (i.zero, i.size, i.bytes)) = some (some (.int .i64 0), 1, 8) := by kernel_rfl
@[push_cast] theorem al3 (K : Value → World → Prop) (w : World) : vAlloc Try.prog 3 K w = K (.pointer (some ⟨w.heap.size, 0, none⟩)) (w.alloc (.cells #[(.int .i64 0)] 3)) := vAlloc_ok ti3 K w
attribute [push_cast] Try.underlying3
@[push_cast] theorem sz4 : szOf Try.prog 4 = some 1 := by kernel_rfl
theorem ti4 : (Try.prog.info? 4).map (fun i => (i.zero, i.size, i.bytes)) = some (some (.bool false), 1, 1) := by kernel_rfl
@[push_cast] theorem al4 (K : Value → World → Prop) (w : World) : vAlloc Try.prog 4 K w = K (.pointer (some ⟨w.heap.size, 0, none⟩)) (w.alloc (.cells #[(.bool false)] 4)) := vAlloc_ok ti4 K w
attribute [push_cast] Try.underlying4
@[push_cast] theorem sz5 : szOf Try.prog 5 = some 1 := by kernel_rfl
theorem ti5 : (Try.prog.info? 5).map (fun i => (i.zero, i.size, i.bytes)) = some (some (.int .u8 0), 1, 1) := by kernel_rfl
@[push_cast] theorem al5 (K : Value → World → Prop) (w : World) : vAlloc Try.prog 5 K w = K (.pointer (some ⟨w.heap.size, 0, none⟩)) (w.alloc (.cells #[(.int .u8 0)] 5)) := vAlloc_ok ti5 K w
attribute [push_cast] Try.underlying5
@[push_cast] theorem sz6 : szOf Try.prog 6 = some 1 := by kernel_rfl
theorem ti6 : (Try.prog.info? 6).map (fun i => (i.zero, i.size, i.bytes)) = some (some (.int .u8 0), 1, 1) := by kernel_rfl
@[push_cast] theorem al6 (K : Value → World → Prop) (w : World) : vAlloc Try.prog 6 K w = K (.pointer (some ⟨w.heap.size, 0, none⟩)) (w.alloc (.cells #[(.int .u8 0)] 6)) := vAlloc_ok ti6 K w
attribute [push_cast] Try.underlying6
@[push_cast] theorem sz7 : szOf Try.prog 7 = some 4 := by kernel_rfl
theorem ti7 : (Try.prog.info? 7).map (fun i => (i.zero, i.size, i.bytes)) = some (some (.agg #[(.int .i64 0), (.int .i64 0), (.bool false), (.int .u8 0)]), 4, 24) := by kernel_rfl
@[push_cast] theorem al7 (K : Value → World → Prop) (w : World) : vAlloc Try.prog 7 K w = K (.pointer (some ⟨w.heap.size, 0, none⟩)) (w.alloc (.cells #[(.int .i64 0), (.int .i64 0), (.bool false), (.int .u8 0)] 7)) := vAlloc_ok ti7 K w
attribute [push_cast] Try.underlying7
@[push_cast] theorem fld7_0 : fieldOf Try.prog 7 0 = some (0, 2) := by kernel_rfl
@[push_cast] theorem fld7_1 : fieldOf Try.prog 7 1 = some (1, 3) := by kernel_rfl
@[push_cast] theorem fld7_2 : fieldOf Try.prog 7 2 = some (2, 4) := by kernel_rfl
@[push_cast] theorem fld7_3 : fieldOf Try.prog 7 3 = some (3, 6) := by kernel_rfl
@[push_cast] theorem sz8 : szOf Try.prog 8 = some 4 := by kernel_rfl
theorem ti8 : (Try.prog.info? 8).map (fun i => (i.zero, i.size, i.bytes)) = some (some (.agg #[(.int .i64 0), (.int .i64 0), (.bool false), (.int .u8 0)]), 4, 24) := by kernel_rfl
@[push_cast] theorem al8 (K : Value → World → Prop) (w : World) : vAlloc Try.prog 8 K w = K (.pointer (some ⟨w.heap.size, 0, none⟩)) (w.alloc (.cells #[(.int .i64 0), (.int .i64 0), (.bool false), (.int .u8 0)] 8)) := vAlloc_ok ti8 K w
attribute [push_cast] Try.underlying8
@[push_cast] theorem fld8_0 : fieldOf Try.prog 8 0 = some (0, 2) := by kernel_rfl
@[push_cast] theorem fld8_1 : fieldOf Try.prog 8 1 = some (1, 3) := by kernel_rfl
@[push_cast] theorem fld8_2 : fieldOf Try.prog 8 2 = some (2, 4) := by kernel_rfl
@[push_cast] theorem fld8_3 : fieldOf Try.prog 8 3 = some (3, 6) := by kernel_rfl
@[push_cast] theorem sz9 : szOf Try.prog 9 = some 1 := by kernel_rfl
theorem ti9 : (Try.prog.info? 9).map (fun i => (i.zero, i.size, i.bytes)) = some (some (.string ⟨#[]⟩), 1, 16) := by kernel_rfl
@[push_cast] theorem al9 (K : Value → World → Prop) (w : World) : vAlloc Try.prog 9 K w = K (.pointer (some ⟨w.heap.size, 0, none⟩)) (w.alloc (.cells #[(.string ⟨#[]⟩)] 9)) := vAlloc_ok ti9 K w
attribute [push_cast] Try.underlying9
@[push_cast] theorem sz10 : szOf Try.prog 10 = some 1 := by kernel_rfl
theorem ti10 : (Try.prog.info? 10).map (fun i => (i.zero, i.size, i.bytes)) = some (some (.string ⟨#[]⟩), 1, 16) := by kernel_rfl
@[push_cast] theorem al10 (K : Value → World → Prop) (w : World) : vAlloc Try.prog 10 K w = K (.pointer (some ⟨w.heap.size, 0, none⟩)) (w.alloc (.cells #[(.string ⟨#[]⟩)] 10)) := vAlloc_ok ti10 K w
attribute [push_cast] Try.underlying10
@[push_cast] theorem sz11 : szOf Try.prog 11 = some 1 := by kernel_rfl
theorem ti11 : (Try.prog.info? 11).map (fun i => (i.zero, i.size, i.bytes)) = some (some (.string ⟨#[]⟩), 1, 16) := by kernel_rfl
@[push_cast] theorem al11 (K : Value → World → Prop) (w : World) : vAlloc Try.prog 11 K w = K (.pointer (some ⟨w.heap.size, 0, none⟩)) (w.alloc (.cells #[(.string ⟨#[]⟩)] 11)) := vAlloc_ok ti11 K w
attribute [push_cast] Try.underlying11
@[push_cast] theorem sz12 : szOf Try.prog 12 = some 1 := by kernel_rfl
theorem ti12 : (Try.prog.info? 12).map (fun i => (i.zero, i.size, i.bytes)) = some (some (.int .u64 0), 1, 8) := by kernel_rfl
@[push_cast] theorem al12 (K : Value → World → Prop) (w : World) : vAlloc Try.prog 12 K w = K (.pointer (some ⟨w.heap.size, 0, none⟩)) (w.alloc (.cells #[(.int .u64 0)] 12)) := vAlloc_ok ti12 K w
attribute [push_cast] Try.underlying12
@[push_cast] theorem sz13 : szOf Try.prog 13 = some 2 := by kernel_rfl
theorem ti13 : (Try.prog.info? 13).map (fun i => (i.zero, i.size, i.bytes)) = some (some (.agg #[(.string ⟨#[]⟩), (.int .u64 0)]), 2, 24) := by kernel_rfl
@[push_cast] theorem al13 (K : Value → World → Prop) (w : World) : vAlloc Try.prog 13 K w = K (.pointer (some ⟨w.heap.size, 0, none⟩)) (w.alloc (.cells #[(.string ⟨#[]⟩), (.int .u64 0)] 13)) := vAlloc_ok ti13 K w
attribute [push_cast] Try.underlying13
@[push_cast] theorem fld13_0 : fieldOf Try.prog 13 0 = some (0, 9) := by kernel_rfl
@[push_cast] theorem fld13_1 : fieldOf Try.prog 13 1 = some (1, 12) := by kernel_rfl
@[push_cast] theorem sz14 : szOf Try.prog 14 = some 2 := by kernel_rfl
theorem ti14 : (Try.prog.info? 14).map (fun i => (i.zero, i.size, i.bytes)) = some (some (.agg #[(.string ⟨#[]⟩), (.int .u64 0)]), 2, 24) := by kernel_rfl
@[push_cast] theorem al14 (K : Value → World → Prop) (w : World) : vAlloc Try.prog 14 K w = K (.pointer (some ⟨w.heap.size, 0, none⟩)) (w.alloc (.cells #[(.string ⟨#[]⟩), (.int .u64 0)] 14)) := vAlloc_ok ti14 K w
attribute [push_cast] Try.underlying14
@[push_cast] theorem fld14_0 : fieldOf Try.prog 14 0 = some (0, 9) := by kernel_rfl
@[push_cast] theorem fld14_1 : fieldOf Try.prog 14 1 = some (1, 12) := by kernel_rfl
@[push_cast] theorem sz15 : szOf Try.prog 15 = some 1 := by kernel_rfl
theorem ti15 : (Try.prog.info? 15).map (fun i => (i.zero, i.size, i.bytes)) = some (some (.pointer none), 1, 8) := by kernel_rfl
@[push_cast] theorem al15 (K : Value → World → Prop) (w : World) : vAlloc Try.prog 15 K w = K (.pointer (some ⟨w.heap.size, 0, none⟩)) (w.alloc (.cells #[(.pointer none)] 15)) := vAlloc_ok ti15 K w
attribute [push_cast] Try.underlying15
@[push_cast] theorem sz16 : szOf Try.prog 16 = some 1 := by kernel_rfl
theorem ti16 : (Try.prog.info? 16).map (fun i => (i.zero, i.size, i.bytes)) = some (some (.pointer none), 1, 8) := by kernel_rfl
@[push_cast] theorem al16 (K : Value → World → Prop) (w : World) : vAlloc Try.prog 16 K w = K (.pointer (some ⟨w.heap.size, 0, none⟩)) (w.alloc (.cells #[(.pointer none)] 16)) := vAlloc_ok ti16 K w
attribute [push_cast] Try.underlying16
@[push_cast] theorem sz17 : szOf Try.prog 17 = some 1 := by kernel_rfl
theorem ti17 : (Try.prog.info? 17).map (fun i => (i.zero, i.size, i.bytes)) = some (some (.pointer none), 1, 8) := by kernel_rfl
@[push_cast] theorem al17 (K : Value → World → Prop) (w : World) : vAlloc Try.prog 17 K w = K (.pointer (some ⟨w.heap.size, 0, none⟩)) (w.alloc (.cells #[(.pointer none)] 17)) := vAlloc_ok ti17 K w
attribute [push_cast] Try.underlying17
@[push_cast] theorem sz18 : szOf Try.prog 18 = some 1 := by kernel_rfl
theorem ti18 : (Try.prog.info? 18).map (fun i => (i.zero, i.size, i.bytes)) = some (some (.agg #[(.pointer none)]), 1, 8) := by kernel_rfl
@[push_cast] theorem al18 (K : Value → World → Prop) (w : World) : vAlloc Try.prog 18 K w = K (.pointer (some ⟨w.heap.size, 0, none⟩)) (w.alloc (.cells #[(.pointer none)] 18)) := vAlloc_ok ti18 K w
attribute [push_cast] Try.underlying18
@[push_cast] theorem fld18_0 : fieldOf Try.prog 18 0 = some (0, 17) := by kernel_rfl
@[push_cast] theorem sz19 : szOf Try.prog 19 = some 1 := by kernel_rfl
theorem ti19 : (Try.prog.info? 19).map (fun i => (i.zero, i.size, i.bytes)) = some (some (.agg #[(.pointer none)]), 1, 8) := by kernel_rfl
@[push_cast] theorem al19 (K : Value → World → Prop) (w : World) : vAlloc Try.prog 19 K w = K (.pointer (some ⟨w.heap.size, 0, none⟩)) (w.alloc (.cells #[(.pointer none)] 19)) := vAlloc_ok ti19 K w
attribute [push_cast] Try.underlying19
@[push_cast] theorem fld19_0 : fieldOf Try.prog 19 0 = some (0, 17) := by kernel_rfl
@[push_cast] theorem sz20 : szOf Try.prog 20 = some 1 := by kernel_rfl
theorem ti20 : (Try.prog.info? 20).map (fun i => (i.zero, i.size, i.bytes)) = some (some .nilIface, 1, 16) := by kernel_rfl
@[push_cast] theorem al20 (K : Value → World → Prop) (w : World) : vAlloc Try.prog 20 K w = K (.pointer (some ⟨w.heap.size, 0, none⟩)) (w.alloc (.cells #[.nilIface] 20)) := vAlloc_ok ti20 K w
@[push_cast] theorem one20 : oneD (Try.prog.underlying 20) = true := by kernel_rfl
@[push_cast] theorem sz21 : szOf Try.prog 21 = some 1 := by kernel_rfl
theorem ti21 : (Try.prog.info? 21).map (fun i => (i.zero, i.size, i.bytes)) = some (some (.int .i32 0), 1, 4) := by kernel_rfl
@[push_cast] theorem al21 (K : Value → World → Prop) (w : World) : vAlloc Try.prog 21 K w = K (.pointer (some ⟨w.heap.size, 0, none⟩)) (w.alloc (.cells #[(.int .i32 0)] 21)) := vAlloc_ok ti21 K w
attribute [push_cast] Try.underlying21
@[push_cast] theorem sz22 : szOf Try.prog 22 = some 1 := by kernel_rfl
theorem ti22 : (Try.prog.info? 22).map (fun i => (i.zero, i.size, i.bytes)) = some (some (.slice none 0 0), 1, 24) := by kernel_rfl
@[push_cast] theorem al22 (K : Value → World → Prop) (w : World) : vAlloc Try.prog 22 K w = K (.pointer (some ⟨w.heap.size, 0, none⟩)) (w.alloc (.cells #[(.slice none 0 0)] 22)) := vAlloc_ok ti22 K w
attribute [push_cast] Try.underlying22
@[push_cast] theorem sz23 : szOf Try.prog 23 = some 1 := by kernel_rfl
theorem ti23 : (Try.prog.info? 23).map (fun i => (i.zero, i.size, i.bytes)) = some (some (.int .i64 0), 1, 8) := by kernel_rfl
@[push_cast] theorem al23 (K : Value → World → Prop) (w : World) : vAlloc Try.prog 23 K w = K (.pointer (some ⟨w.heap.size, 0, none⟩)) (w.alloc (.cells #[(.int .i64 0)] 23)) := vAlloc_ok ti23 K w
attribute [push_cast] Try.underlying23
@[push_cast] theorem sz25 : szOf Try.prog 25 = some 1 := by kernel_rfl
theorem ti25 : (Try.prog.info? 25).map (fun i => (i.zero, i.size, i.bytes)) = some (some .nilFunc, 1, 8) := by kernel_rfl
@[push_cast] theorem al25 (K : Value → World → Prop) (w : World) : vAlloc Try.prog 25 K w = K (.pointer (some ⟨w.heap.size, 0, none⟩)) (w.alloc (.cells #[.nilFunc] 25)) := vAlloc_ok ti25 K w
@[push_cast] theorem one25 : oneD (Try.prog.underlying 25) = true := by kernel_rfl
@[push_cast] theorem sz26 : szOf Try.prog 26 = some 1 := by kernel_rfl
theorem ti26 : (Try.prog.info? 26).map (fun i => (i.zero, i.size, i.bytes)) = some (some .nilFunc, 1, 8) := by kernel_rfl
@[push_cast] theorem al26 (K : Value → World → Prop) (w : World) : vAlloc Try.prog 26 K w = K (.pointer (some ⟨w.heap.size, 0, none⟩)) (w.alloc (.cells #[.nilFunc] 26)) := vAlloc_ok ti26 K w
@[push_cast] theorem one26 : oneD (Try.prog.underlying 26) = true := by kernel_rfl
@[push_cast] theorem sz27 : szOf Try.prog 27 = some 1 := by kernel_rfl
theorem ti27 : (Try.prog.info? 27).map (fun i => (i.zero, i.size, i.bytes)) = some (some .nilFunc, 1, 8) := by kernel_rfl
@[push_cast] theorem al27 (K : Value → World → Prop) (w : World) : vAlloc Try.prog 27 K w = K (.pointer (some ⟨w.heap.size, 0, none⟩)) (w.alloc (.cells #[.nilFunc] 27)) := vAlloc_ok ti27 K w
@[push_cast] theorem one27 : oneD (Try.prog.underlying 27) = true := by kernel_rfl
@[push_cast] theorem sz28 : szOf Try.prog 28 = some 1 := by kernel_rfl
theorem ti28 : (Try.prog.info? 28).map (fun i => (i.zero, i.size, i.bytes)) = some (some .nilFunc, 1, 8) := by kernel_rfl
@[push_cast] theorem al28 (K : Value → World → Prop) (w : World) : vAlloc Try.prog 28 K w = K (.pointer (some ⟨w.heap.size, 0, none⟩)) (w.alloc (.cells #[.nilFunc] 28)) := vAlloc_ok ti28 K w
@[push_cast] theorem one28 : oneD (Try.prog.underlying 28) = true := by kernel_rfl
@[push_cast] theorem sz29 : szOf Try.prog 29 = some 1 := by kernel_rfl
theorem ti29 : (Try.prog.info? 29).map (fun i => (i.zero, i.size, i.bytes)) = some (some .nilFunc, 1, 8) := by kernel_rfl
@[push_cast] theorem al29 (K : Value → World → Prop) (w : World) : vAlloc Try.prog 29 K w = K (.pointer (some ⟨w.heap.size, 0, none⟩)) (w.alloc (.cells #[.nilFunc] 29)) := vAlloc_ok ti29 K w
@[push_cast] theorem one29 : oneD (Try.prog.underlying 29) = true := by kernel_rfl
@[push_cast] theorem sz31 : szOf Try.prog 31 = some 1 := by kernel_rfl
theorem ti31 : (Try.prog.info? 31).map (fun i => (i.zero, i.size, i.bytes)) = some (some .nilFunc, 1, 8) := by kernel_rfl
@[push_cast] theorem al31 (K : Value → World → Prop) (w : World) : vAlloc Try.prog 31 K w = K (.pointer (some ⟨w.heap.size, 0, none⟩)) (w.alloc (.cells #[.nilFunc] 31)) := vAlloc_ok ti31 K w
@[push_cast] theorem one31 : oneD (Try.prog.underlying 31) = true := by kernel_rfl
@[push_cast] theorem sz32 : szOf Try.prog 32 = some 1 := by kernel_rfl
theorem ti32 : (Try.prog.info? 32).map (fun i => (i.zero, i.size, i.bytes)) = some (some .nilFunc, 1, 8) := by kernel_rfl
@[push_cast] theorem al32 (K : Value → World → Prop) (w : World) : vAlloc Try.prog 32 K w = K (.pointer (some ⟨w.heap.size, 0, none⟩)) (w.alloc (.cells #[.nilFunc] 32)) := vAlloc_ok ti32 K w
@[push_cast] theorem one32 : oneD (Try.prog.underlying 32) = true := by kernel_rfl
@[push_cast] theorem sz33 : szOf Try.prog 33 = some 2 := by kernel_rfl
theorem ti33 : (Try.prog.info? 33).map (fun i => (i.zero, i.size, i.bytes)) = some (some (.agg #[(.int .i64 0), (.int .i64 0)]), 2, 16) := by kernel_rfl
@[push_cast] theorem al33 (K : Value → World → Prop) (w : World) : vAlloc Try.prog 33 K w = K (.pointer (some ⟨w.heap.size, 0, none⟩)) (w.alloc (.cells #[(.int .i64 0), (.int .i64 0)] 33)) := vAlloc_ok ti33 K w
attribute [push_cast] Try.underlying33
@[push_cast] theorem fld33_0 : fieldOf Try.prog 33 0 = some (0, 3) := by kernel_rfl
@[push_cast] theorem fld33_1 : fieldOf Try.prog 33 1 = some (1, 3) := by kernel_rfl
@[push_cast] theorem sz34 : szOf Try.prog 34 = some 2 := by kernel_rfl
theorem ti34 : (Try.prog.info? 34).map (fun i => (i.zero, i.size, i.bytes)) = some (some (.agg #[(.int .i64 0), (.int .i64 0)]), 2, 16) := by kernel_rfl
@[push_cast] theorem al34 (K : Value → World → Prop) (w : World) : vAlloc Try.prog 34 K w = K (.pointer (some ⟨w.heap.size, 0, none⟩)) (w.alloc (.cells #[(.int .i64 0), (.int .i64 0)] 34)) := vAlloc_ok ti34 K w
attribute [push_cast] Try.underlying34
@[push_cast] theorem fld34_0 : fieldOf Try.prog 34 0 = some (0, 3) := by kernel_rfl
@[push_cast] theorem fld34_1 : fieldOf Try.prog 34 1 = some (1, 3) := by kernel_rfl
@[push_cast] theorem sz35 : szOf Try.prog 35 = some 1 := by kernel_rfl
theorem ti35 : (Try.prog.info? 35).map (fun i => (i.zero, i.size, i.bytes)) = some (some (.slice none 0 0), 1, 24) := by kernel_rfl
@[push_cast] theorem al35 (K : Value → World → Prop) (w : World) : vAlloc Try.prog 35 K w = K (.pointer (some ⟨w.heap.size, 0, none⟩)) (w.alloc (.cells #[(.slice none 0 0)] 35)) := vAlloc_ok ti35 K w
attribute [push_cast] Try.underlying35
@[push_cast] theorem sz36 : szOf Try.prog 36 = some 1 := by kernel_rfl
theorem ti36 : (Try.prog.info? 36).map (fun i => (i.zero, i.size, i.bytes)) = some (some (.slice none 0 0), 1, 24) := by kernel_rfl
@[push_cast] theorem al36 (K : Value → World → Prop) (w : World) : vAlloc Try.prog 36 K w = K (.pointer (some ⟨w.heap.size, 0, none⟩)) (w.alloc (.cells #[(.slice none 0 0)] 36)) := vAlloc_ok ti36 K w
attribute [push_cast] Try.underlying36
@[push_cast] theorem sz38 : szOf Try.prog 38 = some 1 := by kernel_rfl
theorem ti38 : (Try.prog.info? 38).map (fun i => (i.zero, i.size, i.bytes)) = some (some .nilFunc, 1, 8) := by kernel_rfl
@[push_cast] theorem al38 (K : Value → World → Prop) (w : World) : vAlloc Try.prog 38 K w = K (.pointer (some ⟨w.heap.size, 0, none⟩)) (w.alloc (.cells #[.nilFunc] 38)) := vAlloc_ok ti38 K w
@[push_cast] theorem one38 : oneD (Try.prog.underlying 38) = true := by kernel_rfl
@[push_cast] theorem sz39 : szOf Try.prog 39 = some 1 := by kernel_rfl
theorem ti39 : (Try.prog.info? 39).map (fun i => (i.zero, i.size, i.bytes)) = some (some .nilFunc, 1, 8) := by kernel_rfl
@[push_cast] theorem al39 (K : Value → World → Prop) (w : World) : vAlloc Try.prog 39 K w = K (.pointer (some ⟨w.heap.size, 0, none⟩)) (w.alloc (.cells #[.nilFunc] 39)) := vAlloc_ok ti39 K w
@[push_cast] theorem one39 : oneD (Try.prog.underlying 39) = true := by kernel_rfl
@[push_cast] theorem sz41 : szOf Try.prog 41 = some 1 := by kernel_rfl
theorem ti41 : (Try.prog.info? 41).map (fun i => (i.zero, i.size, i.bytes)) = some (some .nilFunc, 1, 8) := by kernel_rfl
@[push_cast] theorem al41 (K : Value → World → Prop) (w : World) : vAlloc Try.prog 41 K w = K (.pointer (some ⟨w.heap.size, 0, none⟩)) (w.alloc (.cells #[.nilFunc] 41)) := vAlloc_ok ti41 K w
@[push_cast] theorem one41 : oneD (Try.prog.underlying 41) = true := by kernel_rfl
@[push_cast] theorem sz42 : szOf Try.prog 42 = some 1 := by kernel_rfl
theorem ti42 : (Try.prog.info? 42).map (fun i => (i.zero, i.size, i.bytes)) = some (some .nilFunc, 1, 8) := by kernel_rfl
@[push_cast] theorem al42 (K : Value → World → Prop) (w : World) : vAlloc Try.prog 42 K w = K (.pointer (some ⟨w.heap.size, 0, none⟩)) (w.alloc (.cells #[.nilFunc] 42)) := vAlloc_ok ti42 K w
@[push_cast] theorem one42 : oneD (Try.prog.underlying 42) = true := by kernel_rfl
@[push_cast] theorem sz43 : szOf Try.prog 43 = some 1 := by kernel_rfl
theorem ti43 : (Try.prog.info? 43).map (fun i => (i.zero, i.size, i.bytes)) = some (some .nilFunc, 1, 8) := by kernel_rfl
@[push_cast] theorem al43 (K : Value → World → Prop) (w : World) : vAlloc Try.prog 43 K w = K (.pointer (some ⟨w.heap.size, 0, none⟩)) (w.alloc (.cells #[.nilFunc] 43)) := vAlloc_ok ti43 K w
@[push_cast] theorem one43 : oneD (Try.prog.underlying 43) = true := by kernel_rfl
@[push_cast] theorem sz44 : szOf Try.prog 44 = some 1 := by kernel_rfl
theorem ti44 : (Try.prog.info? 44).map (fun i => (i.zero, i.size, i.bytes)) = some (some .nilFunc, 1, 8) := by kernel_rfl
@[push_cast] theorem al44 (K : Value → World → Prop) (w : World) : vAlloc Try.prog 44 K w = K (.pointer (some ⟨w.heap.size, 0, none⟩)) (w.alloc (.cells #[.nilFunc] 44)) := vAlloc_ok ti44 K w
@[push_cast] theorem one44 : oneD (Try.prog.underlying 44) = true := by kernel_rfl
@[push_cast] theorem sz45 : szOf Try.prog 45 = some 1 := by kernel_rfl
theorem ti45 : (Try.prog.info? 45).map (fun i => (i.zero, i.size, i.bytes)) = some (some (.slice none 0 0), 1, 24) := by kernel_rfl
@[push_cast] theorem al45 (K : Value → World → Prop) (w : World) : vAlloc Try.prog 45 K w = K (.pointer (some ⟨w.heap.size, 0, none⟩)) (w.alloc (.cells #[(.slice none 0 0)] 45)) := vAlloc_ok ti45 K w
attribute [push_cast] Try.underlying45
@[push_cast] theorem sz46 : szOf Try.prog 46 = some 1 := by kernel_rfl
theorem ti46 : (Try.prog.info? 46).map (fun i => (i.zero, i.size, i.bytes)) = some (some (.int .u64 0), 1, 8) := by kernel_rfl
@[push_cast] theorem al46 (K : Value → World → Prop) (w : World) : vAlloc Try.prog 46 K w = K (.pointer (some ⟨w.heap.size, 0, none⟩)) (w.alloc (.cells #[(.int .u64 0)] 46)) := vAlloc_ok ti46 K w
attribute [push_cast] Try.underlying46
@[push_cast] theorem sz47 : szOf Try.prog 47 = some 1 := by kernel_rfl
theorem ti47 : (Try.prog.info? 47).map (fun i => (i.zero, i.size, i.bytes)) = some (some (.int .u64 0), 1, 8) := by kernel_rfl
@[push_cast] theorem al47 (K : Value → World → Prop) (w : World) : vAlloc Try.prog 47 K w = K (.pointer (some ⟨w.heap.size, 0, none⟩)) (w.alloc (.cells #[(.int .u64 0)] 47)) := vAlloc_ok ti47 K w
attribute [push_cast] Try.underlying47
@[push_cast] theorem sz48 : szOf Try.prog 48 = some 1 := by kernel_rfl
theorem ti48 : (Try.prog.info? 48).map (fun i => (i.zero, i.size, i.bytes)) = some (some .nilFunc, 1, 8) := by kernel_rfl
@[push_cast] theorem al48 (K : Value → World → Prop) (w : World) : vAlloc Try.prog 48 K w = K (.pointer (some ⟨w.heap.size, 0, none⟩)) (w.alloc (.cells #[.nilFunc] 48)) := vAlloc_ok ti48 K w
@[push_cast] theorem one48 : oneD (Try.prog.underlying 48) = true := by kernel_rfl
@[push_cast] theorem sz49 : szOf Try.prog 49 = some 1 := by kernel_rfl
theorem ti49 : (Try.prog.info? 49).map (fun i => (i.zero, i.size, i.bytes)) = some (some .nilFunc, 1, 8) := by kernel_rfl
@[push_cast] theorem al49 (K : Value → World → Prop) (w : World) : vAlloc Try.prog 49 K w = K (.pointer (some ⟨w.heap.size, 0, none⟩)) (w.alloc (.cells #[.nilFunc] 49)) := vAlloc_ok ti49 K w
@[push_cast] theorem one49 : oneD (Try.prog.underlying 49) = true := by kernel_rfl
@[push_cast] theorem sz50 : szOf Try.prog 50 = some 1 := by kernel_rfl
theorem ti50 : (Try.prog.info? 50).map (fun i => (i.zero, i.size, i.bytes)) = some (some .nilFunc, 1, 8) := by kernel_rfl
@[push_cast] theorem al50 (K : Value → World → Prop) (w : World) : vAlloc Try.prog 50 K w = K (.pointer (some ⟨w.heap.size, 0, none⟩)) (w.alloc (.cells #[.nilFunc] 50)) := vAlloc_ok ti50 K w
@[push_cast] theorem one50 : oneD (Try.prog.underlying 50) = true := by kernel_rfl
@[push_cast] theorem sz51 : szOf Try.prog 51 = some 1 := by kernel_rfl
theorem ti51 : (Try.prog.info? 51).map (fun i => (i.zero, i.size, i.bytes)) = some (some .nilFunc, 1, 8) := by kernel_rfl
@[push_cast] theorem al51 (K : Value → World → Prop) (w : World) : vAlloc Try.prog 51 K w = K (.pointer (some ⟨w.heap.size, 0, none⟩)) (w.alloc (.cells #[.nilFunc] 51)) := vAlloc_ok ti51 K w
@[push_cast] theorem one51 : oneD (Try.prog.underlying 51) = true := by kernel_rfl
@[push_cast] theorem sz52 : szOf Try.prog 52 = some 1 := by kernel_rfl
theorem ti52 : (Try.prog.info? 52).map (fun i => (i.zero, i.size, i.bytes)) = some (some .nilFunc, 1, 8) := by kernel_rfl
@[push_cast] theorem al52 (K : Value → World → Prop) (w : World) : vAlloc Try.prog 52 K w = K (.pointer (some ⟨w.heap.size, 0, none⟩)) (w.alloc (.cells #[.nilFunc] 52)) := vAlloc_ok ti52 K w
@[push_cast] theorem one52 : oneD (Try.prog.underlying 52) = true := by kernel_rfl
@[push_cast] theorem sz53 : szOf Try.prog 53 = some 1 := by kernel_rfl
theorem ti53 : (Try.prog.info? 53).map (fun i => (i.zero, i.size, i.bytes)) = some (some .nilFunc, 1, 8) := by kernel_rfl
@[push_cast] theorem al53 (K : Value → World → Prop) (w : World) : vAlloc Try.prog 53 K w = K (.pointer (some ⟨w.heap.size, 0, none⟩)) (w.alloc (.cells #[.nilFunc] 53)) := vAlloc_ok ti53 K w
@[push_cast] theorem one53 : oneD (Try.prog.underlying 53) = true := by kernel_rfl
@[push_cast] theorem sz54 : szOf Try.prog 54 = some 1 := by kernel_rfl
theorem ti54 : (Try.prog.info? 54).map (fun i => (i.zero, i.size, i.bytes)) = some (some .nilFunc, 1, 8) := by kernel_rfl
@[push_cast] theorem al54 (K : Value → World → Prop) (w : World) : vAlloc Try.prog 54 K w = K (.pointer (some ⟨w.heap.size, 0, none⟩)) (w.alloc (.cells #[.nilFunc] 54)) := vAlloc_ok ti54 K w
@[push_cast] theorem one54 : oneD (Try.prog.underlying 54) = true := by kernel_rfl
@[push_cast] theorem sz55 : szOf Try.prog 55 = some 1 := by kernel_rfl
theorem ti55 : (Try.prog.info? 55).map (fun i => (i.zero, i.size, i.bytes)) = some (some .nilFunc, 1, 8) := by kernel_rfl
@[push_cast] theorem al55 (K : Value → World → Prop) (w : World) : vAlloc Try.prog 55 K w = K (.pointer (some ⟨w.heap.size, 0, none⟩)) (w.alloc (.cells #[.nilFunc] 55)) := vAlloc_ok ti55 K w
@[push_cast] theorem one55 : oneD (Try.prog.underlying 55) = true := by kernel_rfl
@[push_cast] theorem sz56 : szOf Try.prog 56 = some 1 := by kernel_rfl
theorem ti56 : (Try.prog.info? 56).map (fun i => (i.zero, i.size, i.bytes)) = some (some .nilFunc, 1, 8) := by kernel_rfl
@[push_cast] theorem al56 (K : Value → World → Prop) (w : World) : vAlloc Try.prog 56 K w = K (.pointer (some ⟨w.heap.size, 0, none⟩)) (w.alloc (.cells #[.nilFunc] 56)) := vAlloc_ok ti56 K w
@[push_cast] theorem one56 : oneD (Try.prog.underlying 56) = true := by kernel_rfl
@[push_cast] theorem sz57 : szOf Try.prog 57 = some 1 := by kernel_rfl
theorem ti57 : (Try.prog.info? 57).map (fun i => (i.zero, i.size, i.bytes)) = some (some .nilFunc, 1, 8) := by kernel_rfl
@[push_cast] theorem al57 (K : Value → World → Prop) (w : World) : vAlloc Try.prog 57 K w = K (.pointer (some ⟨w.heap.size, 0, none⟩)) (w.alloc (.cells #[.nilFunc] 57)) := vAlloc_ok ti57 K w
@[push_cast] theorem one57 : oneD (Try.prog.underlying 57) = true := by kernel_rfl
@[push_cast] theorem sz58 : szOf Try.prog 58 = some 1 := by kernel_rfl
theorem ti58 : (Try.prog.info? 58).map (fun i => (i.zero, i.size, i.bytes)) = some (some .nilFunc, 1, 8) := by kernel_rfl
@[push_cast] theorem al58 (K : Value → World → Prop) (w : World) : vAlloc Try.prog 58 K w = K (.pointer (some ⟨w.heap.size, 0, none⟩)) (w.alloc (.cells #[.nilFunc] 58)) := vAlloc_ok ti58 K w
@[push_cast] theorem one58 : oneD (Try.prog.underlying 58) = true := by kernel_rfl
@[push_cast] theorem sz59 : szOf Try.prog 59 = some 1 := by kernel_rfl
theorem ti59 : (Try.prog.info? 59).map (fun i => (i.zero, i.size, i.bytes)) = some (some .nilFunc, 1, 8) := by kernel_rfl
@[push_cast] theorem al59 (K : Value → World → Prop) (w : World) : vAlloc Try.prog 59 K w = K (.pointer (some ⟨w.heap.size, 0, none⟩)) (w.alloc (.cells #[.nilFunc] 59)) := vAlloc_ok ti59 K w
@[push_cast] theorem one59 : oneD (Try.prog.underlying 59) = true := by kernel_rfl
@[push_cast] theorem sz60 : szOf Try.prog 60 = some 1 := by kernel_rfl
theorem ti60 : (Try.prog.info? 60).map (fun i => (i.zero, i.size, i.bytes)) = some (some .nilFunc, 1, 8) := by kernel_rfl
@[push_cast] theorem al60 (K : Value → World → Prop) (w : World) : vAlloc Try.prog 60 K w = K (.pointer (some ⟨w.heap.size, 0, none⟩)) (w.alloc (.cells #[.nilFunc] 60)) := vAlloc_ok ti60 K w
@[push_cast] theorem one60 : oneD (Try.prog.underlying 60) = true := by kernel_rfl
@[push_cast] theorem sz61 : szOf Try.prog 61 = some 1 := by kernel_rfl
theorem ti61 : (Try.prog.info? 61).map (fun i => (i.zero, i.size, i.bytes)) = some (some .nilFunc, 1, 8) := by kernel_rfl
@[push_cast] theorem al61 (K : Value → World → Prop) (w : World) : vAlloc Try.prog 61 K w = K (.pointer (some ⟨w.heap.size, 0, none⟩)) (w.alloc (.cells #[.nilFunc] 61)) := vAlloc_ok ti61 K w
@[push_cast] theorem one61 : oneD (Try.prog.underlying 61) = true := by kernel_rfl
@[push_cast] theorem sz62 : szOf Try.prog 62 = some 1 := by kernel_rfl
theorem ti62 : (Try.prog.info? 62).map (fun i => (i.zero, i.size, i.bytes)) = some (some .nilFunc, 1, 8) := by kernel_rfl
@[push_cast] theorem al62 (K : Value → World → Prop) (w : World) : vAlloc Try.prog 62 K w = K (.pointer (some ⟨w.heap.size, 0, none⟩)) (w.alloc (.cells #[.nilFunc] 62)) := vAlloc_ok ti62 K w
@[push_cast] theorem one62 : oneD (Try.prog.underlying 62) = true := by kernel_rfl
@[push_cast] theorem sz63 : szOf Try.prog 63 = some 1 := by kernel_rfl
theorem ti63 : (Try.prog.info? 63).map (fun i => (i.zero, i.size, i.bytes)) = some (some .nilFunc, 1, 8) := by kernel_rfl
@[push_cast] theorem al63 (K : Value → World → Prop) (w : World) : vAlloc Try.prog 63 K w = K (.pointer (some ⟨w.heap.size, 0, none⟩)) (w.alloc (.cells #[.nilFunc] 63)) := vAlloc_ok ti63 K w
@[push_cast] theorem one63 : oneD (Try.prog.underlying 63) = true := by kernel_rfl
@[push_cast] theorem sz64 : szOf Try.prog 64 = some 1 := by kernel_rfl
theorem ti64 : (Try.prog.info? 64).map (fun i => (i.zero, i.size, i.bytes)) = some (some (.pointer none), 1, 8) := by kernel_rfl
@[push_cast] theorem al64 (K : Value → World → Prop) (w : World) : vAlloc Try.prog 64 K w = K (.pointer (some ⟨w.heap.size, 0, none⟩)) (w.alloc (.cells #[(.pointer none)] 64)) := vAlloc_ok ti64 K w
attribute [push_cast] Try.underlying64
@[push_cast] theorem sz65 : szOf Try.prog 65 = some 1 := by kernel_rfl
theorem ti65 : (Try.prog.info? 65).map (fun i => (i.zero, i.size, i.bytes)) = some (some .nilFunc, 1, 8) := by kernel_rfl
@[push_cast] theorem al65 (K : Value → World → Prop) (w : World) : vAlloc Try.prog 65 K w = K (.pointer (some ⟨w.heap.size, 0, none⟩)) (w.alloc (.cells #[.nilFunc] 65)) := vAlloc_ok ti65 K w
@[push_cast] theorem one65 : oneD (Try.prog.underlying 65) = true := by kernel_rfl
@[push_cast] theorem sz66 : szOf Try.prog 66 = some 1 := by kernel_rfl
theorem ti66 : (Try.prog.info? 66).map (fun i => (i.zero, i.size, i.bytes)) = some (some .nilFunc, 1, 8) := by kernel_rfl
@[push_cast] theorem al66 (K : Value → World → Prop) (w : World) : vAlloc Try.prog 66 K w = K (.pointer (some ⟨w.heap.size, 0, none⟩)) (w.alloc (.cells #[.nilFunc] 66)) := vAlloc_ok ti66 K w
@[push_cast] theorem one66 : oneD (Try.prog.underlying 66) = true := by kernel_rfl
@[push_cast] theorem sz67 : szOf Try.prog 67 = some 1 := by kernel_rfl
theorem ti67 : (Try.prog.info? 67).map (fun i => (i.zero, i.size, i.bytes)) = some (some .nilFunc, 1, 8) := by kernel_rfl
@[push_cast] theorem al67 (K : Value → World → Prop) (w : World) : vAlloc Try.prog 67 K w = K (.pointer (some ⟨w.heap.size, 0, none⟩)) (w.alloc (.cells #[.nilFunc] 67)) := vAlloc_ok ti67 K w
@[push_cast] theorem one67 : oneD (Try.prog.underlying 67) = true := by kernel_rfl
@[push_cast] theorem sz68 : szOf Try.prog 68 = some 1 := by kernel_rfl
theorem ti68 : (Try.prog.info? 68).map (fun i => (i.zero, i.size, i.bytes)) = some (some .nilFunc, 1, 8) := by kernel_rfl
@[push_cast] theorem al68 (K : Value → World → Prop) (w : World) : vAlloc Try.prog 68 K w = K (.pointer (some ⟨w.heap.size, 0, none⟩)) (w.alloc (.cells #[.nilFunc] 68)) := vAlloc_ok ti68 K w
@[push_cast] theorem one68 : oneD (Try.prog.underlying 68) = true := by kernel_rfl
@[push_cast] theorem sz70 : szOf Try.prog 70 = some 1 := by kernel_rfl
theorem ti70 : (Try.prog.info? 70).map (fun i => (i.zero, i.size, i.bytes)) = some (some .nilFunc, 1, 8) := by kernel_rfl
@[push_cast] theorem al70 (K : Value → World → Prop) (w : World) : vAlloc Try.prog 70 K w = K (.pointer (some ⟨w.heap.size, 0, none⟩)) (w.alloc (.cells #[.nilFunc] 70)) := vAlloc_ok ti70 K w
@[push_cast] theorem one70 : oneD (Try.prog.underlying 70) = true := by kernel_rfl
@[push_cast] theorem sz71 : szOf Try.prog 71 = some 1 := by kernel_rfl
theorem ti71 : (Try.prog.info? 71).map (fun i => (i.zero, i.size, i.bytes)) = some (some .nilFunc, 1, 8) := by kernel_rfl
@[push_cast] theorem al71 (K : Value → World → Prop) (w : World) : vAlloc Try.prog 71 K w = K (.pointer (some ⟨w.heap.size, 0, none⟩)) (w.alloc (.cells #[.nilFunc] 71)) := vAlloc_ok ti71 K w
@[push_cast] theorem one71 : oneD (Try.prog.underlying 71) = true := by kernel_rfl
@[push_cast] theorem sz72 : szOf Try.prog 72 = some 1 := by kernel_rfl
theorem ti72 : (Try.prog.info? 72).map (fun i => (i.zero, i.size, i.bytes)) = some (some (.pointer none), 1, 8) := by kernel_rfl
@[push_cast] theorem al72 (K : Value → World → Prop) (w : World) : vAlloc Try.prog 72 K w = K (.pointer (some ⟨w.heap.size, 0, none⟩)) (w.alloc (.cells #[(.pointer none)] 72)) := vAlloc_ok ti72 K w
attribute [push_cast] Try.underlying72
@[push_cast] theorem sz73 : szOf Try.prog 73 = some 3 := by kernel_rfl
theorem ti73 : (Try.prog.info? 73).map (fun i => (i.zero, i.size, i.bytes)) = some (some (.agg #[(.slice none 0 0), (.int .i64 0), (.bool false)]), 3, 40) := by kernel_rfl
@[push_cast] theorem al73 (K : Value → World → Prop) (w : World) : vAlloc Try.prog 73 K w = K (.pointer (some ⟨w.heap.size, 0, none⟩)) (w.alloc (.cells #[(.slice none 0 0), (.int .i64 0), (.bool false)] 73)) := vAlloc_ok ti73 K w
attribute [push_cast] Try.underlying73
@[push_cast] theorem fld73_0 : fieldOf Try.prog 73 0 = some (0, 36) := by kernel_rfl
@[push_cast] theorem fld73_1 : fieldOf Try.prog 73 1 = some (1, 3) := by kernel_rfl
@[push_cast] theorem fld73_2 : fieldOf Try.prog 73 2 = some (2, 4) := by kernel_rfl
@[push_cast] theorem sz74 : szOf Try.prog 74 = some 3 := by kernel_rfl
theorem ti74 : (Try.prog.info? 74).map (fun i => (i.zero, i.size, i.bytes)) = some (some (.agg #[(.slice none 0 0), (.int .i64 0), (.bool false)]), 3, 40) := by kernel_rfl
@[push_cast] theorem al74 (K : Value → World → Prop) (w : World) : vAlloc Try.prog 74 K w = K (.pointer (some ⟨w.heap.size, 0, none⟩)) (w.alloc (.cells #[(.slice none 0 0), (.int .i64 0), (.bool false)] 74)) := vAlloc_ok ti74 K w
attribute [push_cast] Try.underlying74
@[push_cast] theorem fld74_0 : fieldOf Try.prog 74 0 = some (0, 36) := by kernel_rfl
@[push_cast] theorem fld74_1 : fieldOf Try.prog 74 1 = some (1, 3) := by kernel_rfl
@[push_cast] theorem fld74_2 : fieldOf Try.prog 74 2 = some (2, 4) := by kernel_rfl
@[push_cast] theorem sz75 : szOf Try.prog 75 = some 1 := by kernel_rfl
theorem ti75 : (Try.prog.info? 75).map (fun i => (i.zero, i.size, i.bytes)) = some (some .nilFunc, 1, 8) := by kernel_rfl
@[push_cast] theorem al75 (K : Value → World → Prop) (w : World) : vAlloc Try.prog 75 K w = K (.pointer (some ⟨w.heap.size, 0, none⟩)) (w.alloc (.cells #[.nilFunc] 75)) := vAlloc_ok ti75 K w
@[push_cast] theorem one75 : oneD (Try.prog.underlying 75) = true := by kernel_rfl
@[push_cast] theorem sz76 : szOf Try.prog 76 = some 1 := by kernel_rfl
theorem ti76 : (Try.prog.info? 76).map (fun i => (i.zero, i.size, i.bytes)) = some (some .nilFunc, 1, 8) := by kernel_rfl
@[push_cast] theorem al76 (K : Value → World → Prop) (w : World) : vAlloc Try.prog 76 K w = K (.pointer (some ⟨w.heap.size, 0, none⟩)) (w.alloc (.cells #[.nilFunc] 76)) := vAlloc_ok ti76 K w
@[push_cast] theorem one76 : oneD (Try.prog.underlying 76) = true := by kernel_rfl
@[push_cast] theorem sz77 : szOf Try.prog 77 = some 1 := by kernel_rfl
theorem ti77 : (Try.prog.info? 77).map (fun i => (i.zero, i.size, i.bytes)) = some (some .nilFunc, 1, 8) := by kernel_rfl
@[push_cast] theorem al77 (K : Value → World → Prop) (w : World) : vAlloc Try.prog 77 K w = K (.pointer (some ⟨w.heap.size, 0, none⟩)) (w.alloc (.cells #[.nilFunc] 77)) := vAlloc_ok ti77 K w
@[push_cast] theorem one77 : oneD (Try.prog.underlying 77) = true := by kernel_rfl
@[push_cast] theorem sz78 : szOf Try.prog 78 = some 1 := by kernel_rfl
theorem ti78 : (Try.prog.info? 78).map (fun i => (i.zero, i.size, i.bytes)) = some (some .nilFunc, 1, 8) := by kernel_rfl
@[push_cast] theorem al78 (K : Value → World → Prop) (w : World) : vAlloc Try.prog 78 K w = K (.pointer (some ⟨w.heap.size, 0, none⟩)) (w.alloc (.cells #[.nilFunc] 78)) := vAlloc_ok ti78 K w
@[push_cast] theorem one78 : oneD (Try.prog.underlying 78) = true := by kernel_rfl
@[push_cast] theorem sz79 : szOf Try.prog 79 = some 1 := by kernel_rfl
theorem ti79 : (Try.prog.info? 79).map (fun i => (i.zero, i.size, i.bytes)) = some (some .nilFunc, 1, 8) := by kernel_rfl
@[push_cast] theorem al79 (K : Value → World → Prop) (w : World) : vAlloc Try.prog 79 K w = K (.pointer (some ⟨w.heap.size, 0, none⟩)) (w.alloc (.cells #[.nilFunc] 79)) := vAlloc_ok ti79 K w
@[push_cast] theorem one79 : oneD (Try.prog.underlying 79) = true := by kernel_rfl
@[push_cast] theorem sz80 : szOf Try.prog 80 = some 1 := by kernel_rfl
theorem ti80 : (Try.prog.info? 80).map (fun i => (i.zero, i.size, i.bytes)) = some (some .nilFunc, 1, 8) := by kernel_rfl
@[push_cast] theorem al80 (K : Value → World → Prop) (w : World) : vAlloc Try.prog 80 K w = K (.pointer (some ⟨w.heap.size, 0, none⟩)) (w.alloc (.cells #[.nilFunc] 80)) := vAlloc_ok ti80 K w
@[push_cast] theorem one80 : oneD (Try.prog.underlying 80) = true := by kernel_rfl
@[push_cast] theorem sz81 : szOf Try.prog 81 = some 1 := by kernel_rfl
theorem ti81 : (Try.prog.info? 81).map (fun i => (i.zero, i.size, i.bytes)) = some (some .nilFunc, 1, 8) := by kernel_rfl
@[push_cast] theorem al81 (K : Value → World → Prop) (w : World) : vAlloc Try.prog 81 K w = K (.pointer (some ⟨w.heap.size, 0, none⟩)) (w.alloc (.cells #[.nilFunc] 81)) := vAlloc_ok ti81 K w
@[push_cast] theorem one81 : oneD (Try.prog.underlying 81) = true := by kernel_rfl
@[push_cast] theorem sz82 : szOf Try.prog 82 = some 1 := by kernel_rfl
theorem ti82 : (Try.prog.info? 82).map (fun i => (i.zero, i.size, i.bytes)) = some (some (.agg #[(.slice none 0 0)]), 1, 24) := by kernel_rfl
@[push_cast] theorem al82 (K : Value → World → Prop) (w : World) : vAlloc Try.prog 82 K w = K (.pointer (some ⟨w.heap.size, 0, none⟩)) (w.alloc (.cells #[(.slice none 0 0)] 82)) := vAlloc_ok ti82 K w
attribute [push_cast] Try.underlying82
@[push_cast] theorem fld82_0 : fieldOf Try.prog 82 0 = some (0, 36) := by kernel_rfl
@[push_cast] theorem sz83 : szOf Try.prog 83 = some 1 := by kernel_rfl
theorem ti83 : (Try.prog.info? 83).map (fun i => (i.zero, i.size, i.bytes)) = some (some (.agg #[(.slice none 0 0)]), 1, 24) := by kernel_rfl
@[push_cast] theorem al83 (K : Value → World → Prop) (w : World) : vAlloc Try.prog 83 K w = K (.pointer (some ⟨w.heap.size, 0, none⟩)) (w.alloc (.cells #[(.slice none 0 0)] 83)) := vAlloc_ok ti83 K w
attribute [push_cast] Try.underlying83
@[push_cast] theorem fld83_0 : fieldOf Try.prog 83 0 = some (0, 36) := by kernel_rfl
@[push_cast] theorem sz85 : szOf Try.prog 85 = some 1 := by kernel_rfl
theorem ti85 : (Try.prog.info? 85).map (fun i => (i.zero, i.size, i.bytes)) = some (some .nilFunc, 1, 8) := by kernel_rfl
@[push_cast] theorem al85 (K : Value → World → Prop) (w : World) : vAlloc Try.prog 85 K w = K (.pointer (some ⟨w.heap.size, 0, none⟩)) (w.alloc (.cells #[.nilFunc] 85)) := vAlloc_ok ti85 K w
@[push_cast] theorem one85 : oneD (Try.prog.underlying 85) = true := by kernel_rfl
@[push_cast] theorem sz86 : szOf Try.prog 86 = some 1 := by kernel_rfl
theorem ti86 : (Try.prog.info? 86).map (fun i => (i.zero, i.size, i.bytes)) = some (some .nilFunc, 1, 8) := by kernel_rfl
@[push_cast] theorem al86 (K : Value → World → Prop) (w : World) : vAlloc Try.prog 86 K w = K (.pointer (some ⟨w.heap.size, 0, none⟩)) (w.alloc (.cells #[.nilFunc] 86)) := vAlloc_ok ti86 K w
@[push_cast] theorem one86 : oneD (Try.prog.underlying 86) = true := by kernel_rfl
@[push_cast] theorem sz88 : szOf Try.prog 88 = some 1 := by kernel_rfl
theorem ti88 : (Try.prog.info? 88).map (fun i => (i.zero, i.size, i.bytes)) = some (some .nilFunc, 1, 8) := by kernel_rfl
@[push_cast] theorem al88 (K : Value → World → Prop) (w : World) : vAlloc Try.prog 88 K w = K (.pointer (some ⟨w.heap.size, 0, none⟩)) (w.alloc (.cells #[.nilFunc] 88)) := vAlloc_ok ti88 K w
@[push_cast] theorem one88 : oneD (Try.prog.underlying 88) = true := by kernel_rfl
@[push_cast] theorem sz89 : szOf Try.prog 89 = some 1 := by kernel_rfl
theorem ti89 : (Try.prog.info? 89).map (fun i => (i.zero, i.size, i.bytes)) = some (some .nilFunc, 1, 8) := by kernel_rfl
@[push_cast] theorem al89 (K : Value → World → Prop) (w : World) : vAlloc Try.prog 89 K w = K (.pointer (some ⟨w.heap.size, 0, none⟩)) (w.alloc (.cells #[.nilFunc] 89)) := vAlloc_ok ti89 K w
@[push_cast] theorem one89 : oneD (Try.prog.underlying 89) = true := by kernel_rfl
@[push_cast] theorem sz90 : szOf Try.prog 90 = some 4 := by kernel_rfl
theorem ti90 : (Try.prog.info? 90).map (fun i => (i.zero, i.size, i.bytes)) = some (some (.agg #[(.pointer none), (.pointer none), (.pointer none), (.string ⟨#[]⟩)]), 4, 40) := by kernel_rfl
@[push_cast] theorem al90 (K : Value → World → Prop) (w : World) : vAlloc Try.prog 90 K w = K (.pointer (some ⟨w.heap.size, 0, none⟩)) (w.alloc (.cells #[(.pointer none), (.pointer none), (.pointer none), (.string ⟨#[]⟩)] 90)) := vAlloc_ok ti90 K w
attribute [push_cast] Try.underlying90
@[push_cast] theorem fld90_0 : fieldOf Try.prog 90 0 = some (0, 17) := by kernel_rfl
@[push_cast] theorem fld90_1 : fieldOf Try.prog 90 1 = some (1, 17) := by kernel_rfl
@[push_cast] theorem fld90_2 : fieldOf Try.prog 90 2 = some (2, 17) := by kernel_rfl
@[push_cast] theorem fld90_3 : fieldOf Try.prog 90 3 = some (3, 9) := by kernel_rfl
@[push_cast] theorem sz91 : szOf Try.prog 91 = some 4 := by kernel_rfl
theorem ti91 : (Try.prog.info? 91).map (fun i => (i.zero, i.size, i.bytes)) = some (some (.agg #[(.pointer none), (.pointer none), (.pointer none), (.string ⟨#[]⟩)]), 4, 40) := by kernel_rfl
@[push_cast] theorem al91 (K : Value → World → Prop) (w : World) : vAlloc Try.prog 91 K w = K (.pointer (some ⟨w.heap.size, 0, none⟩)) (w.alloc (.cells #[(.pointer none), (.pointer none), (.pointer none), (.string ⟨#[]⟩)] 91)) := vAlloc_ok ti91 K w
attribute [push_cast] Try.underlying91
@[push_cast] theorem fld91_0 : fieldOf Try.prog 91 0 = some (0, 17) := by kernel_rfl
@[push_cast] theorem fld91_1 : fieldOf Try.prog 91 1 = some (1, 17) := by kernel_rfl
@[push_cast] theorem fld91_2 : fieldOf Try.prog 91 2 = some (2, 17) := by kernel_rfl
@[push_cast] theorem fld91_3 : fieldOf Try.prog 91 3 = some (3, 9) := by kernel_rfl
@[push_cast] theorem sz92 : szOf Try.prog 92 = some 0 := by kernel_rfl
theorem ti92 : (Try.prog.info? 92).map (fun i => (i.zero, i.size, i.bytes)) = some (some (.agg #[]), 0, 0) := by kernel_rfl
@[push_cast] theorem al92 (K : Value → World → Prop) (w : World) : vAlloc Try.prog 92 K w = K (.pointer (some ⟨w.heap.size, 0, none⟩)) (w.alloc (.cells #[] 92)) := vAlloc_ok ti92 K w
attribute [push_cast] Try.underlying92
@[push_cast] theorem sz93 : szOf Try.prog 93 = some 0 := by kernel_rfl
theorem ti93 : (Try.prog.info? 93).map (fun i => (i.zero, i.size, i.bytes)) = some (some (.agg #[]), 0, 0) := by kernel_rfl
@[push_cast] theorem al93 (K : Value → World → Prop) (w : World) : vAlloc Try.prog 93 K w = K (.pointer (some ⟨w.heap.size, 0, none⟩)) (w.alloc (.cells #[] 93)) := vAlloc_ok ti93 K w
attribute [push_cast] Try.underlying93
@[push_cast] theorem fld93_0 : fieldOf Try.prog 93 0 = some (0, 92) := by kernel_rfl
@[push_cast] theorem sz94 : szOf Try.prog 94 = some 0 := by kernel_rfl
theorem ti94 : (Try.prog.info? 94).map (fun i => (i.zero, i.size, i.bytes)) = some (some (.agg #[]), 0, 0) := by kernel_rfl
@[push_cast] theorem al94 (K : Value → World → Prop) (w : World) : vAlloc Try.prog 94 K w = K (.pointer (some ⟨w.heap.size, 0, none⟩)) (w.alloc (.cells #[] 94)) := vAlloc_ok ti94 K w
attribute [push_cast] Try.underlying94
@[push_cast] theorem fld94_0 : fieldOf Try.prog 94 0 = some (0, 92) := by kernel_rfl
@[push_cast] theorem sz95 : szOf Try.prog 95 = some 1 := by kernel_rfl
theorem ti95 : (Try.prog.info? 95).map (fun i => (i.zero, i.size, i.bytes)) = some (some (.int .u32 0), 1, 4) := by kernel_rfl
@[push_cast] theorem al95 (K : Value → World → Prop) (w : World) : vAlloc Try.prog 95 K w = K (.pointer (some ⟨w.heap.size, 0, none⟩)) (w.alloc (.cells #[(.int .u32 0)] 95)) := vAlloc_ok ti95 K w
attribute [push_cast] Try.underlying95
@[push_cast] theorem sz96 : szOf Try.prog 96 = some 1 := by kernel_rfl
theorem ti96 : (Try.prog.info? 96).map (fun i => (i.zero, i.size, i.bytes)) = some (some (.int .u8 0), 1, 1) := by kernel_rfl
@[push_cast] theorem al96 (K : Value → World → Prop) (w : World) : vAlloc Try.prog 96 K w = K (.pointer (some ⟨w.heap.size, 0, none⟩)) (w.alloc (.cells #[(.int .u8 0)] 96)) := vAlloc_ok ti96 K w
attribute [push_cast] Try.underlying96
@[push_cast] theorem sz97 : szOf Try.prog 97 = some 1 := by kernel_rfl
theorem ti97 : (Try.prog.info? 97).map (fun i => (i.zero, i.size, i.bytes)) = some (some (.int .u8 0), 1, 1) := by kernel_rfl
@[push_cast] theorem al97 (K : Value → World → Prop) (w : World) : vAlloc Try.prog 97 K w = K (.pointer (some ⟨w.heap.size, 0, none⟩)) (w.alloc (.cells #[(.int .u8 0)] 97)) := vAlloc_ok ti97 K w
attribute [push_cast] Try.underlying97
@[push_cast] theorem sz98 : szOf Try.prog 98 = some 1 := by kernel_rfl
theorem ti98 : (Try.prog.info? 98).map (fun i => (i.zero, i.size, i.bytes)) = some (some .nilFunc, 1, 8) := by kernel_rfl
@[push_cast] theorem al98 (K : Value → World → Prop) (w : World) : vAlloc Try.prog 98 K w = K (.pointer (some ⟨w.heap.size, 0, none⟩)) (w.alloc (.cells #[.nilFunc] 98)) := vAlloc_ok ti98 K w
@[push_cast] theorem one98 : oneD (Try.prog.underlying 98) = true := by kernel_rfl
@[push_cast] theorem sz99 : szOf Try.prog 99 = some 1 := by kernel_rfl
theorem ti99 : (Try.prog.info? 99).map (fun i => (i.zero, i.size, i.bytes)) = some (some (.pointer none), 1, 8) := by kernel_rfl
@[push_cast] theorem al99 (K : Value → World → Prop) (w : World) : vAlloc Try.prog 99 K w = K (.pointer (some ⟨w.heap.size, 0, none⟩)) (w.alloc (.cells #[(.pointer none)] 99)) := vAlloc_ok ti99 K w
attribute [push_cast] Try.underlying99
@[push_cast] theorem sz100 : szOf Try.prog 100 = some 1 := by kernel_rfl
theorem ti100 : (Try.prog.info? 100).map (fun i => (i.zero, i.size, i.bytes)) = some (some (.int .i32 0), 1, 4) := by kernel_rfl
@[push_cast] theorem al100 (K : Value → World → Prop) (w : World) : vAlloc Try.prog 100 K w = K (.pointer (some ⟨w.heap.size, 0, none⟩)) (w.alloc (.cells #[(.int .i32 0)] 100)) := vAlloc_ok ti100 K w
attribute [push_cast] Try.underlying100
@[push_cast] theorem sz101 : szOf Try.prog 101 = some 1 := by kernel_rfl
theorem ti101 : (Try.prog.info? 101).map (fun i => (i.zero, i.size, i.bytes)) = some (some (.int .i32 0), 1, 4) := by kernel_rfl
@[push_cast] theorem al101 (K : Value → World → Prop) (w : World) : vAlloc Try.prog 101 K w = K (.pointer (some ⟨w.heap.size, 0, none⟩)) (w.alloc (.cells #[(.int .i32 0)] 101)) := vAlloc_ok ti101 K w
attribute [push_cast] Try.underlying101
@[push_cast] theorem sz102 : szOf Try.prog 102 = some 11 := by kernel_rfl
theorem ti102 : (Try.prog.info? 102).map (fun i => (i.zero, i.size, i.bytes)) = some (some (.agg #[(.int .u64 0), (.int .u64 0), (.int .u32 0), (.int .u8 0), (.int .u8 0), (.int .u8 0), (.int .u8 0), .nilFunc, (.pointer none), (.int .i32 0), (.int .i32 0)]), 11, 48) := by kernel_rfl
@[push_cast] theorem al102 (K : Value → World → Prop) (w : World) : vAlloc Try.prog 102 K w = K (.pointer (some ⟨w.heap.size, 0, none⟩)) (w.alloc (.cells #[(.int .u64 0), (.int .u64 0), (.int .u32 0), (.int .u8 0), (.int .u8 0), (.int .u8 0), (.int .u8 0), .nilFunc, (.pointer none), (.int .i32 0), (.int .i32 0)] 102)) := vAlloc_ok ti102 K w
attribute [push_cast] Try.underlying102
@[push_cast] theorem fld102_0 : fieldOf Try.prog 102 0 = some (0, 12) := by kernel_rfl
@[push_cast] theorem fld102_1 : fieldOf Try.prog 102 1 = some (1, 12) := by kernel_rfl
@[push_cast] theorem fld102_2 : fieldOf Try.prog 102 2 = some (2, 95) := by kernel_rfl
@[push_cast] theorem fld102_3 : fieldOf Try.prog 102 3 = some (3, 96) := by kernel_rfl
@[push_cast] theorem fld102_4 : fieldOf Try.prog 102 4 = some (4, 5) := by kernel_rfl
@[push_cast] theorem fld102_5 : fieldOf Try.prog 102 5 = some (5, 5) := by kernel_rfl
@[push_cast] theorem fld102_6 : fieldOf Try.prog 102 6 = some (6, 97) := by kernel_rfl
@[push_cast] theorem fld102_7 : fieldOf Try.prog 102 7 = some (7, 98) := by kernel_rfl
@[push_cast] theorem fld102_8 : fieldOf Try.prog 102 8 = some (8, 99) := by kernel_rfl
@[push_cast] theorem fld102_9 : fieldOf Try.prog 102 9 = some (9, 100) := by kernel_rfl
@[push_cast] theorem fld102_10 : fieldOf Try.prog 102 10 = some (10, 101) := by kernel_rfl
@[push_cast] theorem sz103 : szOf Try.prog 103 = some 11 := by kernel_rfl
theorem ti103 : (Try.prog.info? 103).map (fun i => (i.zero, i.size, i.bytes)) = some (some (.agg #[(.int .u64 0), (.int .u64 0), (.int .u32 0), (.int .u8 0), (.int .u8 0), (.int .u8 0), (.int .u8 0), .nilFunc, (.pointer none), (.int .i32 0), (.int .i32 0)]), 11, 48) := by kernel_rfl
@[push_cast] theorem al103 (K : Value → World → Prop) (w : World) : vAlloc Try.prog 103 K w = K (.pointer (some ⟨w.heap.size, 0, none⟩)) (w.alloc (.cells #[(.int .u64 0), (.int .u64 0), (.int .u32 0), (.int .u8 0), (.int .u8 0), (.int .u8 0), (.int .u8 0), .nilFunc, (.pointer none), (.int .i32 0), (.int .i32 0)] 103)) := vAlloc_ok ti103 K w
attribute [push_cast] Try.underlying103
@[push_cast] theorem fld103_0 : fieldOf Try.prog 103 0 = some (0, 12) := by kernel_rfl
@[push_cast] theorem fld103_1 : fieldOf Try.prog 103 1 = some (1, 12) := by kernel_rfl
@[push_cast] theorem fld103_2 : fieldOf Try.prog 103 2 = some (2, 95) := by kernel_rfl
@[push_cast] theorem fld103_3 : fieldOf Try.prog 103 3 = some (3, 96) := by kernel_rfl
@[push_cast] theorem fld103_4 : fieldOf Try.prog 103 4 = some (4, 5) := by kernel_rfl
@[push_cast] theorem fld103_5 : fieldOf Try.prog 103 5 = some (5, 5) := by kernel_rfl
@[push_cast] theorem fld103_6 : fieldOf Try.prog 103 6 = some (6, 97) := by kernel_rfl
@[push_cast] theorem fld103_7 : fieldOf Try.prog 103 7 = some (7, 98) := by kernel_rfl
@[push_cast] theorem fld103_8 : fieldOf Try.prog 103 8 = some (8, 99) := by kernel_rfl
@[push_cast] theorem fld103_9 : fieldOf Try.prog 103 9 = some (9, 100) := by kernel_rfl
@[push_cast] theorem fld103_10 : fieldOf Try.prog 103 10 = some (10, 101) := by kernel_rfl
@[push_cast] theorem sz104 : szOf Try.prog 104 = some 1 := by kernel_rfl
theorem ti104 : (Try.prog.info? 104).map (fun i => (i.zero, i.size, i.bytes)) = some (some (.pointer none), 1, 8) := by kernel_rfl
@[push_cast] theorem al104 (K : Value → World → Prop) (w : World) : vAlloc Try.prog 104 K w = K (.pointer (some ⟨w.heap.size, 0, none⟩)) (w.alloc (.cells #[(.pointer none)] 104)) := vAlloc_ok ti104 K w
@[push_cast] theorem one104 : oneD (Try.prog.underlying 104) = true := by kernel_rfl
end Go.Proofs.Ytdfdohajjgjbdaa
