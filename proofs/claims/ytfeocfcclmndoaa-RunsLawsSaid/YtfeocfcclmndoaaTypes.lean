/- What the generator asks of the types' table. Written by a program (codes.py). -/
import Derived.Test.YtfeocfcclmndoaaVcLaws
import Derived.Test.YtfeocfcclmndoaaChecked
namespace Go.Proofs.Ytfeocfcclmndoaa
open Go.Vc
theorem mixed : Try.prog.follows .mixedOrders = true := by kernel_rfl
@[push_cast] theorem sz1 : szOf Try.prog 1 = some 1 := by kernel_rfl
theorem ti1 : (Try.prog.info? 1).map (fun i => (i.zero, i.size, i.bytes)) = some (some .nilFunc, 1, 8) := by kernel_rfl
@[push_cast] theorem al1 (K : Value → World → Prop) (w : World) : vAlloc Try.prog 1 K w = K (.pointer (some ⟨w.heap.size, 0, none⟩)) (w.alloc (.cells #[.nilFunc] 1)) := vAlloc_ok ti1 K w
@[push_cast] theorem one1 : oneD (Try.prog.underlying 1) = true := by kernel_rfl
@[push_cast] theorem sz2 : szOf Try.prog 2 = some 1 := by kernel_rfl
theorem ti2 : (Try.prog.info? 2).map (fun i => (i.zero, i.size, i.bytes)) = some (some (.int .i64 0), 1, 8) := by kernel_rfl
@[push_cast] theorem al2 (K : Value → World → Prop) (w : World) : vAlloc Try.prog 2 K w = K (.pointer (some ⟨w.heap.size, 0, none⟩)) (w.alloc (.cells #[(.int .i64 0)] 2)) := vAlloc_ok ti2 K w
attribute [push_cast] Try.underlying2
@[push_cast] theorem sz3 : szOf Try.prog 3 = some 1 := by kernel_rfl
theorem ti3 : (Try.prog.info? 3).map (fun i => (i.zero, i.size, i.bytes)) = some (some (.int .i64 0), 1, 8) := by kernel_rfl
@[push_cast] theorem al3 (K : Value → World → Prop) (w : World) : vAlloc Try.prog 3 K w = K (.pointer (some ⟨w.heap.size, 0, none⟩)) (w.alloc (.cells #[(.int .i64 0)] 3)) := vAlloc_ok ti3 K w
attribute [push_cast] Try.underlying3
@[push_cast] theorem sz4 : szOf Try.prog 4 = some 1 := by kernel_rfl
theorem ti4 : (Try.prog.info? 4).map (fun i => (i.zero, i.size, i.bytes)) = some (some (.bool false), 1, 1) := by kernel_rfl
@[push_cast] theorem al4 (K : Value → World → Prop) (w : World) : vAlloc Try.prog 4 K w = K (.pointer (some ⟨w.heap.size, 0, none⟩)) (w.alloc (.cells #[(.bool false)] 4)) := vAlloc_ok ti4 K w
attribute [push_cast] Try.underlying4
@[push_cast] theorem sz5 : szOf Try.prog 5 = some 1 := by kernel_rfl
theorem ti5 : (Try.prog.info? 5).map (fun i => (i.zero, i.size, i.bytes)) = some (some (.int .u8 0), 1, 1) := by kernel_rfl
@[push_cast] theorem al5 (K : Value → World → Prop) (w : World) : vAlloc Try.prog 5 K w = K (.pointer (some ⟨w.heap.size, 0, none⟩)) (w.alloc (.cells #[(.int .u8 0)] 5)) := vAlloc_ok ti5 K w
attribute [push_cast] Try.underlying5
@[push_cast] theorem sz6 : szOf Try.prog 6 = some 1 := by kernel_rfl
theorem ti6 : (Try.prog.info? 6).map (fun i => (i.zero, i.size, i.bytes)) = some (some (.int .u8 0), 1, 1) := by kernel_rfl
@[push_cast] theorem al6 (K : Value → World → Prop) (w : World) : vAlloc Try.prog 6 K w = K (.pointer (some ⟨w.heap.size, 0, none⟩)) (w.alloc (.cells #[(.int .u8 0)] 6)) := vAlloc_ok ti6 K w
attribute [push_cast] Try.underlying6
@[push_cast] theorem sz7 : szOf Try.prog 7 = some 4 := by kernel_rfl
theorem ti7 : (Try.prog.info? 7).map (fun i => (i.zero, i.size, i.bytes)) = some (some (.agg #[(.int .i64 0), (.int .i64 0), (.bool false), (.int .u8 0)]), 4, 24) := by kernel_rfl
@[push_cast] theorem al7 (K : Value → World → Prop) (w : World) : vAlloc Try.prog 7 K w = K (.pointer (some ⟨w.heap.size, 0, none⟩)) (w.alloc (.cells #[(.int .i64 0), (.int .i64 0), (.bool false), (.int .u8 0)] 7)) := vAlloc_ok ti7 K w
attribute [push_cast] Try.underlying7
@[push_cast] theorem fld7_0 : fieldOf Try.prog 7 0 = some (0, 2) := by kernel_rfl
@[push_cast] theorem fld7_1 : fieldOf Try.prog 7 1 = some (1, 3) := by kernel_rfl
@[push_cast] theorem fld7_2 : fieldOf Try.prog 7 2 = some (2, 4) := by kernel_rfl
@[push_cast] theorem fld7_3 : fieldOf Try.prog 7 3 = some (3, 6) := by kernel_rfl
@[push_cast] theorem sz8 : szOf Try.prog 8 = some 4 := by kernel_rfl
theorem ti8 : (Try.prog.info? 8).map (fun i => (i.zero, i.size, i.bytes)) = some (some (.agg #[(.int .i64 0), (.int .i64 0), (.bool false), (.int .u8 0)]), 4, 24) := by kernel_rfl
@[push_cast] theorem al8 (K : Value → World → Prop) (w : World) : vAlloc Try.prog 8 K w = K (.pointer (some ⟨w.heap.size, 0, none⟩)) (w.alloc (.cells #[(.int .i64 0), (.int .i64 0), (.bool false), (.int .u8 0)] 8)) := vAlloc_ok ti8 K w
attribute [push_cast] Try.underlying8
@[push_cast] theorem fld8_0 : fieldOf Try.prog 8 0 = some (0, 2) := by kernel_rfl
@[push_cast] theorem fld8_1 : fieldOf Try.prog 8 1 = some (1, 3) := by kernel_rfl
@[push_cast] theorem fld8_2 : fieldOf Try.prog 8 2 = some (2, 4) := by kernel_rfl
@[push_cast] theorem fld8_3 : fieldOf Try.prog 8 3 = some (3, 6) := by kernel_rfl
@[push_cast] theorem sz9 : szOf Try.prog 9 = some 1 := by kernel_rfl
theorem ti9 : (Try.prog.info? 9).map (fun i => (i.zero, i.size, i.bytes)) = some (some (.string ⟨#[]⟩), 1, 16) := by kernel_rfl
@[push_cast] theorem al9 (K : Value → World → Prop) (w : World) : vAlloc Try.prog 9 K w = K (.pointer (some ⟨w.heap.size, 0, none⟩)) (w.alloc (.cells #[(.string ⟨#[]⟩)] 9)) := vAlloc_ok ti9 K w
attribute [push_cast] Try.underlying9
@[push_cast] theorem sz10 : szOf Try.prog 10 = some 1 := by kernel_rfl
theorem ti10 : (Try.prog.info? 10).map (fun i => (i.zero, i.size, i.bytes)) = some (some (.string ⟨#[]⟩), 1, 16) := by kernel_rfl
@[push_cast] theorem al10 (K : Value → World → Prop) (w : World) : vAlloc Try.prog 10 K w = K (.pointer (some ⟨w.heap.size, 0, none⟩)) (w.alloc (.cells #[(.string ⟨#[]⟩)] 10)) := vAlloc_ok ti10 K w
attribute [push_cast] Try.underlying10
@[push_cast] theorem sz11 : szOf Try.prog 11 = some 1 := by kernel_rfl
theorem ti11 : (Try.prog.info? 11).map (fun i => (i.zero, i.size, i.bytes)) = some (some (.string ⟨#[]⟩), 1, 16) := by kernel_rfl
@[push_cast] theorem al11 (K : Value → World → Prop) (w : World) : vAlloc Try.prog 11 K w = K (.pointer (some ⟨w.heap.size, 0, none⟩)) (w.alloc (.cells #[(.string ⟨#[]⟩)] 11)) := vAlloc_ok ti11 K w
attribute [push_cast] Try.underlying11
@[push_cast] theorem sz12 : szOf Try.prog 12 = some 1 := by kernel_rfl
theorem ti12 : (Try.prog.info? 12).map (fun i => (i.zero, i.size, i.bytes)) = some (some (.int .u64 0), 1, 8) := by kernel_rfl
@[push_cast] theorem al12 (K : Value → World → Prop) (w : World) : vAlloc Try.prog 12 K w = K (.pointer (some ⟨w.heap.size, 0, none⟩)) (w.alloc (.cells #[(.int .u64 0)] 12)) := vAlloc_ok ti12 K w
attribute [push_cast] Try.underlying12
@[push_cast] theorem sz13 : szOf Try.prog 13 = some 2 := by kernel_rfl
theorem ti13 : (Try.prog.info? 13).map (fun i => (i.zero, i.size, i.bytes)) = some (some (.agg #[(.string ⟨#[]⟩), (.int .u64 0)]), 2, 24) := by kernel_rfl
@[push_cast] theorem al13 (K : Value → World → Prop) (w : World) : vAlloc Try.prog 13 K w = K (.pointer (some ⟨w.heap.size, 0, none⟩)) (w.alloc (.cells #[(.string ⟨#[]⟩), (.int .u64 0)] 13)) := vAlloc_ok ti13 K w
attribute [push_cast] Try.underlying13
@[push_cast] theorem fld13_0 : fieldOf Try.prog 13 0 = some (0, 9) := by kernel_rfl
@[push_cast] theorem fld13_1 : fieldOf Try.prog 13 1 = some (1, 12) := by kernel_rfl
@[push_cast] theorem sz14 : szOf Try.prog 14 = some 2 := by kernel_rfl
theorem ti14 : (Try.prog.info? 14).map (fun i => (i.zero, i.size, i.bytes)) = some (some (.agg #[(.string ⟨#[]⟩), (.int .u64 0)]), 2, 24) := by kernel_rfl
@[push_cast] theorem al14 (K : Value → World → Prop) (w : World) : vAlloc Try.prog 14 K w = K (.pointer (some ⟨w.heap.size, 0, none⟩)) (w.alloc (.cells #[(.string ⟨#[]⟩), (.int .u64 0)] 14)) := vAlloc_ok ti14 K w
attribute [push_cast] Try.underlying14
@[push_cast] theorem fld14_0 : fieldOf Try.prog 14 0 = some (0, 9) := by kernel_rfl
@[push_cast] theorem fld14_1 : fieldOf Try.prog 14 1 = some (1, 12) := by kernel_rfl
@[push_cast] theorem sz15 : szOf Try.prog 15 = some 1 := by kernel_rfl
theorem ti15 : (Try.prog.info? 15).map (fun i => (i.zero, i.size, i.bytes)) = some (some (.pointer none), 1, 8) := by kernel_rfl
@[push_cast] theorem al15 (K : Value → World → Prop) (w : World) : vAlloc Try.prog 15 K w = K (.pointer (some ⟨w.heap.size, 0, none⟩)) (w.alloc (.cells #[(.pointer none)] 15)) := vAlloc_ok ti15 K w
attribute [push_cast] Try.underlying15
@[push_cast] theorem sz16 : szOf Try.prog 16 = some 1 := by kernel_rfl
theorem ti16 : (Try.prog.info? 16).map (fun i => (i.zero, i.size, i.bytes)) = some (some (.pointer none), 1, 8) := by kernel_rfl
@[push_cast] theorem al16 (K : Value → World → Prop) (w : World) : vAlloc Try.prog 16 K w = K (.pointer (some ⟨w.heap.size, 0, none⟩)) (w.alloc (.cells #[(.pointer none)] 16)) := vAlloc_ok ti16 K w
attribute [push_cast] Try.underlying16
@[push_cast] theorem sz17 : szOf Try.prog 17 = some 1 := by kernel_rfl
theorem ti17 : (Try.prog.info? 17).map (fun i => (i.zero, i.size, i.bytes)) = some (some (.pointer none), 1, 8) := by kernel_rfl
@[push_cast] theorem al17 (K : Value → World → Prop) (w : World) : vAlloc Try.prog 17 K w = K (.pointer (some ⟨w.heap.size, 0, none⟩)) (w.alloc (.cells #[(.pointer none)] 17)) := vAlloc_ok ti17 K w
attribute [push_cast] Try.underlying17
@[push_cast] theorem sz18 : szOf Try.prog 18 = some 1 := by kernel_rfl
theorem ti18 : (Try.prog.info? 18).map (fun i => (i.zero, i.size, i.bytes)) = some (some (.agg #[(.pointer none)]), 1, 8) := by kernel_rfl
@[push_cast] theorem al18 (K : Value → World → Prop) (w : World) : vAlloc Try.prog 18 K w = K (.pointer (some ⟨w.heap.size, 0, none⟩)) (w.alloc (.cells #[(.pointer none)] 18)) := vAlloc_ok ti18 K w
attribute [push_cast] Try.underlying18
@[push_cast] theorem fld18_0 : fieldOf Try.prog 18 0 = some (0, 17) := by kernel_rfl
@[push_cast] theorem sz19 : szOf Try.prog 19 = some 1 := by kernel_rfl
theorem ti19 : (Try.prog.info? 19).map (fun i => (i.zero, i.size, i.bytes)) = some (some (.agg #[(.pointer none)]), 1, 8) := by kernel_rfl
@[push_cast] theorem al19 (K : Value → World → Prop) (w : World) : vAlloc Try.prog 19 K w = K (.pointer (some ⟨w.heap.size, 0, none⟩)) (w.alloc (.cells #[(.pointer none)] 19)) := vAlloc_ok ti19 K w
attribute [push_cast] Try.underlying19
@[push_cast] theorem fld19_0 : fieldOf Try.prog 19 0 = some (0, 17) := by kernel_rfl
@[push_cast] theorem sz20 : szOf Try.prog 20 = some 1 := by kernel_rfl
theorem ti20 : (Try.prog.info? 20).map (fun i => (i.zero, i.size, i.bytes)) = some (some .nilIface, 1, 16) := by kernel_rfl
@[push_cast] theorem al20 (K : Value → World → Prop) (w : World) : vAlloc Try.prog 20 K w = K (.pointer (some ⟨w.heap.size, 0, none⟩)) (w.alloc (.cells #[.nilIface] 20)) := vAlloc_ok ti20 K w
@[push_cast] theorem one20 : oneD (Try.prog.underlying 20) = true := by kernel_rfl
@[push_cast] theorem sz21 : szOf Try.prog 21 = some 1 := by kernel_rfl
theorem ti21 : (Try.prog.info? 21).map (fun i => (i.zero, i.size, i.bytes)) = some (some (.int .i32 0), 1, 4) := by kernel_rfl
@[push_cast] theorem al21 (K : Value → World → Prop) (w : World) : vAlloc Try.prog 21 K w = K (.pointer (some ⟨w.heap.size, 0, none⟩)) (w.alloc (.cells #[(.int .i32 0)] 21)) := vAlloc_ok ti21 K w
attribute [push_cast] Try.underlying21
@[push_cast] theorem sz22 : szOf Try.prog 22 = some 1 := by kernel_rfl
theorem ti22 : (Try.prog.info? 22).map (fun i => (i.zero, i.size, i.bytes)) = some (some (.slice none 0 0), 1, 24) := by kernel_rfl
@[push_cast] theorem al22 (K : Value → World → Prop) (w : World) : vAlloc Try.prog 22 K w = K (.pointer (some ⟨w.heap.size, 0, none⟩)) (w.alloc (.cells #[(.slice none 0 0)] 22)) := vAlloc_ok ti22 K w
attribute [push_cast] Try.underlying22
@[push_cast] theorem sz23 : szOf Try.prog 23 = some 1 := by kernel_rfl
theorem ti23 : (Try.prog.info? 23).map (fun i => (i.zero, i.size, i.bytes)) = some (some (.pointer none), 1, 8) := by kernel_rfl
@[push_cast] theorem al23 (K : Value → World → Prop) (w : World) : vAlloc Try.prog 23 K w = K (.pointer (some ⟨w.heap.size, 0, none⟩)) (w.alloc (.cells #[(.pointer none)] 23)) := vAlloc_ok ti23 K w
attribute [push_cast] Try.underlying23
@[push_cast] theorem sz24 : szOf Try.prog 24 = some 1 := by kernel_rfl
theorem ti24 : (Try.prog.info? 24).map (fun i => (i.zero, i.size, i.bytes)) = some (some (.int .i64 0), 1, 8) := by kernel_rfl
@[push_cast] theorem al24 (K : Value → World → Prop) (w : World) : vAlloc Try.prog 24 K w = K (.pointer (some ⟨w.heap.size, 0, none⟩)) (w.alloc (.cells #[(.int .i64 0)] 24)) := vAlloc_ok ti24 K w
attribute [push_cast] Try.underlying24
@[push_cast] theorem sz26 : szOf Try.prog 26 = some 1 := by kernel_rfl
theorem ti26 : (Try.prog.info? 26).map (fun i => (i.zero, i.size, i.bytes)) = some (some .nilFunc, 1, 8) := by kernel_rfl
@[push_cast] theorem al26 (K : Value → World → Prop) (w : World) : vAlloc Try.prog 26 K w = K (.pointer (some ⟨w.heap.size, 0, none⟩)) (w.alloc (.cells #[.nilFunc] 26)) := vAlloc_ok ti26 K w
@[push_cast] theorem one26 : oneD (Try.prog.underlying 26) = true := by kernel_rfl
@[push_cast] theorem sz27 : szOf Try.prog 27 = some 1 := by kernel_rfl
theorem ti27 : (Try.prog.info? 27).map (fun i => (i.zero, i.size, i.bytes)) = some (some .nilFunc, 1, 8) := by kernel_rfl
@[push_cast] theorem al27 (K : Value → World → Prop) (w : World) : vAlloc Try.prog 27 K w = K (.pointer (some ⟨w.heap.size, 0, none⟩)) (w.alloc (.cells #[.nilFunc] 27)) := vAlloc_ok ti27 K w
@[push_cast] theorem one27 : oneD (Try.prog.underlying 27) = true := by kernel_rfl
@[push_cast] theorem sz28 : szOf Try.prog 28 = some 1 := by kernel_rfl
theorem ti28 : (Try.prog.info? 28).map (fun i => (i.zero, i.size, i.bytes)) = some (some .nilFunc, 1, 8) := by kernel_rfl
@[push_cast] theorem al28 (K : Value → World → Prop) (w : World) : vAlloc Try.prog 28 K w = K (.pointer (some ⟨w.heap.size, 0, none⟩)) (w.alloc (.cells #[.nilFunc] 28)) := vAlloc_ok ti28 K w
@[push_cast] theorem one28 : oneD (Try.prog.underlying 28) = true := by kernel_rfl
@[push_cast] theorem sz29 : szOf Try.prog 29 = some 1 := by kernel_rfl
theorem ti29 : (Try.prog.info? 29).map (fun i => (i.zero, i.size, i.bytes)) = some (some .nilFunc, 1, 8) := by kernel_rfl
@[push_cast] theorem al29 (K : Value → World → Prop) (w : World) : vAlloc Try.prog 29 K w = K (.pointer (some ⟨w.heap.size, 0, none⟩)) (w.alloc (.cells #[.nilFunc] 29)) := vAlloc_ok ti29 K w
@[push_cast] theorem one29 : oneD (Try.prog.underlying 29) = true := by kernel_rfl
@[push_cast] theorem sz30 : szOf Try.prog 30 = some 1 := by kernel_rfl
theorem ti30 : (Try.prog.info? 30).map (fun i => (i.zero, i.size, i.bytes)) = some (some .nilFunc, 1, 8) := by kernel_rfl
@[push_cast] theorem al30 (K : Value → World → Prop) (w : World) : vAlloc Try.prog 30 K w = K (.pointer (some ⟨w.heap.size, 0, none⟩)) (w.alloc (.cells #[.nilFunc] 30)) := vAlloc_ok ti30 K w
@[push_cast] theorem one30 : oneD (Try.prog.underlying 30) = true := by kernel_rfl
@[push_cast] theorem sz31 : szOf Try.prog 31 = some 1 := by kernel_rfl
theorem ti31 : (Try.prog.info? 31).map (fun i => (i.zero, i.size, i.bytes)) = some (some .nilFunc, 1, 8) := by kernel_rfl
@[push_cast] theorem al31 (K : Value → World → Prop) (w : World) : vAlloc Try.prog 31 K w = K (.pointer (some ⟨w.heap.size, 0, none⟩)) (w.alloc (.cells #[.nilFunc] 31)) := vAlloc_ok ti31 K w
@[push_cast] theorem one31 : oneD (Try.prog.underlying 31) = true := by kernel_rfl
@[push_cast] theorem sz32 : szOf Try.prog 32 = some 1 := by kernel_rfl
theorem ti32 : (Try.prog.info? 32).map (fun i => (i.zero, i.size, i.bytes)) = some (some .nilFunc, 1, 8) := by kernel_rfl
@[push_cast] theorem al32 (K : Value → World → Prop) (w : World) : vAlloc Try.prog 32 K w = K (.pointer (some ⟨w.heap.size, 0, none⟩)) (w.alloc (.cells #[.nilFunc] 32)) := vAlloc_ok ti32 K w
@[push_cast] theorem one32 : oneD (Try.prog.underlying 32) = true := by kernel_rfl
@[push_cast] theorem sz33 : szOf Try.prog 33 = some 1 := by kernel_rfl
theorem ti33 : (Try.prog.info? 33).map (fun i => (i.zero, i.size, i.bytes)) = some (some .nilFunc, 1, 8) := by kernel_rfl
@[push_cast] theorem al33 (K : Value → World → Prop) (w : World) : vAlloc Try.prog 33 K w = K (.pointer (some ⟨w.heap.size, 0, none⟩)) (w.alloc (.cells #[.nilFunc] 33)) := vAlloc_ok ti33 K w
@[push_cast] theorem one33 : oneD (Try.prog.underlying 33) = true := by kernel_rfl
@[push_cast] theorem sz34 : szOf Try.prog 34 = some 1 := by kernel_rfl
theorem ti34 : (Try.prog.info? 34).map (fun i => (i.zero, i.size, i.bytes)) = some (some .nilFunc, 1, 8) := by kernel_rfl
@[push_cast] theorem al34 (K : Value → World → Prop) (w : World) : vAlloc Try.prog 34 K w = K (.pointer (some ⟨w.heap.size, 0, none⟩)) (w.alloc (.cells #[.nilFunc] 34)) := vAlloc_ok ti34 K w
@[push_cast] theorem one34 : oneD (Try.prog.underlying 34) = true := by kernel_rfl
@[push_cast] theorem sz35 : szOf Try.prog 35 = some 1 := by kernel_rfl
theorem ti35 : (Try.prog.info? 35).map (fun i => (i.zero, i.size, i.bytes)) = some (some (.slice none 0 0), 1, 24) := by kernel_rfl
@[push_cast] theorem al35 (K : Value → World → Prop) (w : World) : vAlloc Try.prog 35 K w = K (.pointer (some ⟨w.heap.size, 0, none⟩)) (w.alloc (.cells #[(.slice none 0 0)] 35)) := vAlloc_ok ti35 K w
attribute [push_cast] Try.underlying35
@[push_cast] theorem sz36 : szOf Try.prog 36 = some 1 := by kernel_rfl
theorem ti36 : (Try.prog.info? 36).map (fun i => (i.zero, i.size, i.bytes)) = some (some .nilFunc, 1, 8) := by kernel_rfl
@[push_cast] theorem al36 (K : Value → World → Prop) (w : World) : vAlloc Try.prog 36 K w = K (.pointer (some ⟨w.heap.size, 0, none⟩)) (w.alloc (.cells #[.nilFunc] 36)) := vAlloc_ok ti36 K w
@[push_cast] theorem one36 : oneD (Try.prog.underlying 36) = true := by kernel_rfl
@[push_cast] theorem sz37 : szOf Try.prog 37 = some 1 := by kernel_rfl
theorem ti37 : (Try.prog.info? 37).map (fun i => (i.zero, i.size, i.bytes)) = some (some .nilFunc, 1, 8) := by kernel_rfl
@[push_cast] theorem al37 (K : Value → World → Prop) (w : World) : vAlloc Try.prog 37 K w = K (.pointer (some ⟨w.heap.size, 0, none⟩)) (w.alloc (.cells #[.nilFunc] 37)) := vAlloc_ok ti37 K w
@[push_cast] theorem one37 : oneD (Try.prog.underlying 37) = true := by kernel_rfl
@[push_cast] theorem sz38 : szOf Try.prog 38 = some 1 := by kernel_rfl
theorem ti38 : (Try.prog.info? 38).map (fun i => (i.zero, i.size, i.bytes)) = some (some .nilFunc, 1, 8) := by kernel_rfl
@[push_cast] theorem al38 (K : Value → World → Prop) (w : World) : vAlloc Try.prog 38 K w = K (.pointer (some ⟨w.heap.size, 0, none⟩)) (w.alloc (.cells #[.nilFunc] 38)) := vAlloc_ok ti38 K w
@[push_cast] theorem one38 : oneD (Try.prog.underlying 38) = true := by kernel_rfl
@[push_cast] theorem sz39 : szOf Try.prog 39 = some 1 := by kernel_rfl
theorem ti39 : (Try.prog.info? 39).map (fun i => (i.zero, i.size, i.bytes)) = some (some .nilFunc, 1, 8) := by kernel_rfl
@[push_cast] theorem al39 (K : Value → World → Prop) (w : World) : vAlloc Try.prog 39 K w = K (.pointer (some ⟨w.heap.size, 0, none⟩)) (w.alloc (.cells #[.nilFunc] 39)) := vAlloc_ok ti39 K w
@[push_cast] theorem one39 : oneD (Try.prog.underlying 39) = true := by kernel_rfl
@[push_cast] theorem sz41 : szOf Try.prog 41 = some 1 := by kernel_rfl
theorem ti41 : (Try.prog.info? 41).map (fun i => (i.zero, i.size, i.bytes)) = some (some .nilFunc, 1, 8) := by kernel_rfl
@[push_cast] theorem al41 (K : Value → World → Prop) (w : World) : vAlloc Try.prog 41 K w = K (.pointer (some ⟨w.heap.size, 0, none⟩)) (w.alloc (.cells #[.nilFunc] 41)) := vAlloc_ok ti41 K w
@[push_cast] theorem one41 : oneD (Try.prog.underlying 41) = true := by kernel_rfl
@[push_cast] theorem sz42 : szOf Try.prog 42 = some 1 := by kernel_rfl
theorem ti42 : (Try.prog.info? 42).map (fun i => (i.zero, i.size, i.bytes)) = some (some .nilFunc, 1, 8) := by kernel_rfl
@[push_cast] theorem al42 (K : Value → World → Prop) (w : World) : vAlloc Try.prog 42 K w = K (.pointer (some ⟨w.heap.size, 0, none⟩)) (w.alloc (.cells #[.nilFunc] 42)) := vAlloc_ok ti42 K w
@[push_cast] theorem one42 : oneD (Try.prog.underlying 42) = true := by kernel_rfl
@[push_cast] theorem sz43 : szOf Try.prog 43 = some 1 := by kernel_rfl
theorem ti43 : (Try.prog.info? 43).map (fun i => (i.zero, i.size, i.bytes)) = some (some .nilFunc, 1, 8) := by kernel_rfl
@[push_cast] theorem al43 (K : Value → World → Prop) (w : World) : vAlloc Try.prog 43 K w = K (.pointer (some ⟨w.heap.size, 0, none⟩)) (w.alloc (.cells #[.nilFunc] 43)) := vAlloc_ok ti43 K w
@[push_cast] theorem one43 : oneD (Try.prog.underlying 43) = true := by kernel_rfl
@[push_cast] theorem sz45 : szOf Try.prog 45 = some 1 := by kernel_rfl
theorem ti45 : (Try.prog.info? 45).map (fun i => (i.zero, i.size, i.bytes)) = some (some .nilFunc, 1, 8) := by kernel_rfl
@[push_cast] theorem al45 (K : Value → World → Prop) (w : World) : vAlloc Try.prog 45 K w = K (.pointer (some ⟨w.heap.size, 0, none⟩)) (w.alloc (.cells #[.nilFunc] 45)) := vAlloc_ok ti45 K w
@[push_cast] theorem one45 : oneD (Try.prog.underlying 45) = true := by kernel_rfl
@[push_cast] theorem sz46 : szOf Try.prog 46 = some 1 := by kernel_rfl
theorem ti46 : (Try.prog.info? 46).map (fun i => (i.zero, i.size, i.bytes)) = some (some .nilFunc, 1, 8) := by kernel_rfl
@[push_cast] theorem al46 (K : Value → World → Prop) (w : World) : vAlloc Try.prog 46 K w = K (.pointer (some ⟨w.heap.size, 0, none⟩)) (w.alloc (.cells #[.nilFunc] 46)) := vAlloc_ok ti46 K w
@[push_cast] theorem one46 : oneD (Try.prog.underlying 46) = true := by kernel_rfl
@[push_cast] theorem sz47 : szOf Try.prog 47 = some 1 := by kernel_rfl
theorem ti47 : (Try.prog.info? 47).map (fun i => (i.zero, i.size, i.bytes)) = some (some .nilFunc, 1, 8) := by kernel_rfl
@[push_cast] theorem al47 (K : Value → World → Prop) (w : World) : vAlloc Try.prog 47 K w = K (.pointer (some ⟨w.heap.size, 0, none⟩)) (w.alloc (.cells #[.nilFunc] 47)) := vAlloc_ok ti47 K w
@[push_cast] theorem one47 : oneD (Try.prog.underlying 47) = true := by kernel_rfl
@[push_cast] theorem sz48 : szOf Try.prog 48 = some 1 := by kernel_rfl
theorem ti48 : (Try.prog.info? 48).map (fun i => (i.zero, i.size, i.bytes)) = some (some .nilFunc, 1, 8) := by kernel_rfl
@[push_cast] theorem al48 (K : Value → World → Prop) (w : World) : vAlloc Try.prog 48 K w = K (.pointer (some ⟨w.heap.size, 0, none⟩)) (w.alloc (.cells #[.nilFunc] 48)) := vAlloc_ok ti48 K w
@[push_cast] theorem one48 : oneD (Try.prog.underlying 48) = true := by kernel_rfl
@[push_cast] theorem sz49 : szOf Try.prog 49 = some 1 := by kernel_rfl
theorem ti49 : (Try.prog.info? 49).map (fun i => (i.zero, i.size, i.bytes)) = some (some (.slice none 0 0), 1, 24) := by kernel_rfl
@[push_cast] theorem al49 (K : Value → World → Prop) (w : World) : vAlloc Try.prog 49 K w = K (.pointer (some ⟨w.heap.size, 0, none⟩)) (w.alloc (.cells #[(.slice none 0 0)] 49)) := vAlloc_ok ti49 K w
attribute [push_cast] Try.underlying49
@[push_cast] theorem sz51 : szOf Try.prog 51 = some 1 := by kernel_rfl
theorem ti51 : (Try.prog.info? 51).map (fun i => (i.zero, i.size, i.bytes)) = some (some .nilFunc, 1, 8) := by kernel_rfl
@[push_cast] theorem al51 (K : Value → World → Prop) (w : World) : vAlloc Try.prog 51 K w = K (.pointer (some ⟨w.heap.size, 0, none⟩)) (w.alloc (.cells #[.nilFunc] 51)) := vAlloc_ok ti51 K w
@[push_cast] theorem one51 : oneD (Try.prog.underlying 51) = true := by kernel_rfl
@[push_cast] theorem sz52 : szOf Try.prog 52 = some 1 := by kernel_rfl
theorem ti52 : (Try.prog.info? 52).map (fun i => (i.zero, i.size, i.bytes)) = some (some .nilFunc, 1, 8) := by kernel_rfl
@[push_cast] theorem al52 (K : Value → World → Prop) (w : World) : vAlloc Try.prog 52 K w = K (.pointer (some ⟨w.heap.size, 0, none⟩)) (w.alloc (.cells #[.nilFunc] 52)) := vAlloc_ok ti52 K w
@[push_cast] theorem one52 : oneD (Try.prog.underlying 52) = true := by kernel_rfl
@[push_cast] theorem sz53 : szOf Try.prog 53 = some 1 := by kernel_rfl
theorem ti53 : (Try.prog.info? 53).map (fun i => (i.zero, i.size, i.bytes)) = some (some .nilFunc, 1, 8) := by kernel_rfl
@[push_cast] theorem al53 (K : Value → World → Prop) (w : World) : vAlloc Try.prog 53 K w = K (.pointer (some ⟨w.heap.size, 0, none⟩)) (w.alloc (.cells #[.nilFunc] 53)) := vAlloc_ok ti53 K w
@[push_cast] theorem one53 : oneD (Try.prog.underlying 53) = true := by kernel_rfl
@[push_cast] theorem sz54 : szOf Try.prog 54 = some 1 := by kernel_rfl
theorem ti54 : (Try.prog.info? 54).map (fun i => (i.zero, i.size, i.bytes)) = some (some .nilFunc, 1, 8) := by kernel_rfl
@[push_cast] theorem al54 (K : Value → World → Prop) (w : World) : vAlloc Try.prog 54 K w = K (.pointer (some ⟨w.heap.size, 0, none⟩)) (w.alloc (.cells #[.nilFunc] 54)) := vAlloc_ok ti54 K w
@[push_cast] theorem one54 : oneD (Try.prog.underlying 54) = true := by kernel_rfl
@[push_cast] theorem sz55 : szOf Try.prog 55 = some 1 := by kernel_rfl
theorem ti55 : (Try.prog.info? 55).map (fun i => (i.zero, i.size, i.bytes)) = some (some .nilFunc, 1, 8) := by kernel_rfl
@[push_cast] theorem al55 (K : Value → World → Prop) (w : World) : vAlloc Try.prog 55 K w = K (.pointer (some ⟨w.heap.size, 0, none⟩)) (w.alloc (.cells #[.nilFunc] 55)) := vAlloc_ok ti55 K w
@[push_cast] theorem one55 : oneD (Try.prog.underlying 55) = true := by kernel_rfl
@[push_cast] theorem sz56 : szOf Try.prog 56 = some 1 := by kernel_rfl
theorem ti56 : (Try.prog.info? 56).map (fun i => (i.zero, i.size, i.bytes)) = some (some .nilFunc, 1, 8) := by kernel_rfl
@[push_cast] theorem al56 (K : Value → World → Prop) (w : World) : vAlloc Try.prog 56 K w = K (.pointer (some ⟨w.heap.size, 0, none⟩)) (w.alloc (.cells #[.nilFunc] 56)) := vAlloc_ok ti56 K w
@[push_cast] theorem one56 : oneD (Try.prog.underlying 56) = true := by kernel_rfl
@[push_cast] theorem sz57 : szOf Try.prog 57 = some 1 := by kernel_rfl
theorem ti57 : (Try.prog.info? 57).map (fun i => (i.zero, i.size, i.bytes)) = some (some .nilFunc, 1, 8) := by kernel_rfl
@[push_cast] theorem al57 (K : Value → World → Prop) (w : World) : vAlloc Try.prog 57 K w = K (.pointer (some ⟨w.heap.size, 0, none⟩)) (w.alloc (.cells #[.nilFunc] 57)) := vAlloc_ok ti57 K w
@[push_cast] theorem one57 : oneD (Try.prog.underlying 57) = true := by kernel_rfl
@[push_cast] theorem sz58 : szOf Try.prog 58 = some 1 := by kernel_rfl
theorem ti58 : (Try.prog.info? 58).map (fun i => (i.zero, i.size, i.bytes)) = some (some (.pointer none), 1, 8) := by kernel_rfl
@[push_cast] theorem al58 (K : Value → World → Prop) (w : World) : vAlloc Try.prog 58 K w = K (.pointer (some ⟨w.heap.size, 0, none⟩)) (w.alloc (.cells #[(.pointer none)] 58)) := vAlloc_ok ti58 K w
attribute [push_cast] Try.underlying58
@[push_cast] theorem sz59 : szOf Try.prog 59 = some 256 := by kernel_rfl
theorem ti59 : (Try.prog.info? 59).map (fun i => (i.zero, i.size, i.bytes)) = some (some (.agg #[(.pointer none), (.pointer none), (.pointer none), (.pointer none), (.pointer none), (.pointer none), (.pointer none), (.pointer none), (.pointer none), (.pointer none), (.pointer none), (.pointer none), (.pointer none), (.pointer none), (.pointer none), (.pointer none), (.pointer none), (.pointer none), (.pointer none), (.pointer none), (.pointer none), (.pointer none), (.pointer none), (.pointer none), (.pointer none), (.pointer none), (.pointer none), (.pointer none), (.pointer none), (.pointer none), (.pointer none), (.pointer none), (.pointer none), (.pointer none), (.pointer none), (.pointer none), (.pointer none), (.pointer none), (.pointer none), (.pointer none), (.pointer none), (.pointer none), (.pointer none), (.pointer none), (.pointer none), (.pointer none), (.pointer none), (.pointer none), (.pointer none), (.pointer none), (.pointer none), (.pointer none), (.pointer none), (.pointer none), (.pointer none), (.pointer none), (.pointer none), (.pointer none), (.pointer none), (.pointer none), (.pointer none), (.pointer none), (.pointer none), (.pointer none), (.pointer none), (.pointer none), (.pointer none), (.pointer none), (.pointer none), (.pointer none), (.pointer none), (.pointer none), (.pointer none), (.pointer none), (.pointer none), (.pointer none), (.pointer none), (.pointer none), (.pointer none), (.pointer none), (.pointer none), (.pointer none), (.pointer none), (.pointer none), (.pointer none), (.pointer none), (.pointer none), (.pointer none), (.pointer none), (.pointer none), (.pointer none), (.pointer none), (.pointer none), (.pointer none), (.pointer none), (.pointer none), (.pointer none), (.pointer none), (.pointer none), (.pointer none), (.pointer none), (.pointer none), (.pointer none), (.pointer none), (.pointer none), (.pointer none), (.pointer none), (.pointer none), (.pointer none), (.pointer none), (.pointer none), (.pointer none), (.pointer none), (.pointer none), (.pointer none), (.pointer none), (.pointer none), (.pointer none), (.pointer none), (.pointer none), (.pointer none), (.pointer none), (.pointer none), (.pointer none), (.pointer none), (.pointer none), (.pointer none), (.pointer none), (.pointer none), (.pointer none), (.pointer none), (.pointer none), (.pointer none), (.pointer none), (.pointer none), (.pointer none), (.pointer none), (.pointer none), (.pointer none), (.pointer none), (.pointer none), (.pointer none), (.pointer none), (.pointer none), (.pointer none), (.pointer none), (.pointer none), (.pointer none), (.pointer none), (.pointer none), (.pointer none), (.pointer none), (.pointer none), (.pointer none), (.pointer none), (.pointer none), (.pointer none), (.pointer none), (.pointer none), (.pointer none), (.pointer none), (.pointer none), (.pointer none), (.pointer none), (.pointer none), (.pointer none), (.pointer none), (.pointer none), (.pointer none), (.pointer none), (.pointer none), (.pointer none), (.pointer none), (.pointer none), (.pointer none), (.pointer none), (.pointer none), (.pointer none), (.pointer none), (.pointer none), (.pointer none), (.pointer none), (.pointer none), (.pointer none), (.pointer none), (.pointer none), (.pointer none), (.pointer none), (.pointer none), (.pointer none), (.pointer none), (.pointer none), (.pointer none), (.pointer none), (.pointer none), (.pointer none), (.pointer none), (.pointer none), (.pointer none), (.pointer none), (.pointer none), (.pointer none), (.pointer none), (.pointer none), (.pointer none), (.pointer none), (.pointer none), (.pointer none), (.pointer none), (.pointer none), (.pointer none), (.pointer none), (.pointer none), (.pointer none), (.pointer none), (.pointer none), (.pointer none), (.pointer none), (.pointer none), (.pointer none), (.pointer none), (.pointer none), (.pointer none), (.pointer none), (.pointer none), (.pointer none), (.pointer none), (.pointer none), (.pointer none), (.pointer none), (.pointer none), (.pointer none), (.pointer none), (.pointer none), (.pointer none), (.pointer none), (.pointer none), (.pointer none), (.pointer none), (.pointer none), (.pointer none), (.pointer none), (.pointer none), (.pointer none), (.pointer none), (.pointer none), (.pointer none), (.pointer none), (.pointer none), (.pointer none), (.pointer none), (.pointer none), (.pointer none), (.pointer none), (.pointer none), (.pointer none)]), 256, 2048) := by kernel_rfl
@[push_cast] theorem al59 (K : Value → World → Prop) (w : World) : vAlloc Try.prog 59 K w = K (.pointer (some ⟨w.heap.size, 0, none⟩)) (w.alloc (.cells #[(.pointer none), (.pointer none), (.pointer none), (.pointer none), (.pointer none), (.pointer none), (.pointer none), (.pointer none), (.pointer none), (.pointer none), (.pointer none), (.pointer none), (.pointer none), (.pointer none), (.pointer none), (.pointer none), (.pointer none), (.pointer none), (.pointer none), (.pointer none), (.pointer none), (.pointer none), (.pointer none), (.pointer none), (.pointer none), (.pointer none), (.pointer none), (.pointer none), (.pointer none), (.pointer none), (.pointer none), (.pointer none), (.pointer none), (.pointer none), (.pointer none), (.pointer none), (.pointer none), (.pointer none), (.pointer none), (.pointer none), (.pointer none), (.pointer none), (.pointer none), (.pointer none), (.pointer none), (.pointer none), (.pointer none), (.pointer none), (.pointer none), (.pointer none), (.pointer none), (.pointer none), (.pointer none), (.pointer none), (.pointer none), (.pointer none), (.pointer none), (.pointer none), (.pointer none), (.pointer none), (.pointer none), (.pointer none), (.pointer none), (.pointer none), (.pointer none), (.pointer none), (.pointer none), (.pointer none), (.pointer none), (.pointer none), (.pointer none), (.pointer none), (.pointer none), (.pointer none), (.pointer none), (.pointer none), (.pointer none), (.pointer none), (.pointer none), (.pointer none), (.pointer none), (.pointer none), (.pointer none), (.pointer none), (.pointer none), (.pointer none), (.pointer none), (.pointer none), (.pointer none), (.pointer none), (.pointer none), (.pointer none), (.pointer none), (.pointer none), (.pointer none), (.pointer none), (.pointer none), (.pointer none), (.pointer none), (.pointer none), (.pointer none), (.pointer none), (.pointer none), (.pointer none), (.pointer none), (.pointer none), (.pointer none), (.pointer none), (.pointer none), (.pointer none), (.pointer none), (.pointer none), (.pointer none), (.pointer none), (.pointer none), (.pointer none), (.pointer none), (.pointer none), (.pointer none), (.pointer none), (.pointer none), (.pointer none), (.pointer none), (.pointer none), (.pointer none), (.pointer none), (.pointer none), (.pointer none), (.pointer none), (.pointer none), (.pointer none), (.pointer none), (.pointer none), (.pointer none), (.pointer none), (.pointer none), (.pointer none), (.pointer none), (.pointer none), (.pointer none), (.pointer none), (.pointer none), (.pointer none), (.pointer none), (.pointer none), (.pointer none), (.pointer none), (.pointer none), (.pointer none), (.pointer none), (.pointer none), (.pointer none), (.pointer none), (.pointer none), (.pointer none), (.pointer none), (.pointer none), (.pointer none), (.pointer none), (.pointer none), (.pointer none), (.pointer none), (.pointer none), (.pointer none), (.pointer none), (.pointer none), (.pointer none), (.pointer none), (.pointer none), (.pointer none), (.pointer none), (.pointer none), (.pointer none), (.pointer none), (.pointer none), (.pointer none), (.pointer none), (.pointer none), (.pointer none), (.pointer none), (.pointer none), (.pointer none), (.pointer none), (.pointer none), (.pointer none), (.pointer none), (.pointer none), (.pointer none), (.pointer none), (.pointer none), (.pointer none), (.pointer none), (.pointer none), (.pointer none), (.pointer none), (.pointer none), (.pointer none), (.pointer none), (.pointer none), (.pointer none), (.pointer none), (.pointer none), (.pointer none), (.pointer none), (.pointer none), (.pointer none), (.pointer none), (.pointer none), (.pointer none), (.pointer none), (.pointer none), (.pointer none), (.pointer none), (.pointer none), (.pointer none), (.pointer none), (.pointer none), (.pointer none), (.pointer none), (.pointer none), (.pointer none), (.pointer none), (.pointer none), (.pointer none), (.pointer none), (.pointer none), (.pointer none), (.pointer none), (.pointer none), (.pointer none), (.pointer none), (.pointer none), (.pointer none), (.pointer none), (.pointer none), (.pointer none), (.pointer none), (.pointer none), (.pointer none), (.pointer none), (.pointer none), (.pointer none), (.pointer none), (.pointer none), (.pointer none), (.pointer none), (.pointer none), (.pointer none), (.pointer none), (.pointer none), (.pointer none), (.pointer none), (.pointer none), (.pointer none), (.pointer none), (.pointer none)] 59)) := vAlloc_ok ti59 K w
attribute [push_cast] Try.underlying59
@[push_cast] theorem sz60 : szOf Try.prog 60 = some 256 := by kernel_rfl
theorem ti60 : (Try.prog.info? 60).map (fun i => (i.zero, i.size, i.bytes)) = some (some (.agg #[(.pointer none), (.pointer none), (.pointer none), (.pointer none), (.pointer none), (.pointer none), (.pointer none), (.pointer none), (.pointer none), (.pointer none), (.pointer none), (.pointer none), (.pointer none), (.pointer none), (.pointer none), (.pointer none), (.pointer none), (.pointer none), (.pointer none), (.pointer none), (.pointer none), (.pointer none), (.pointer none), (.pointer none), (.pointer none), (.pointer none), (.pointer none), (.pointer none), (.pointer none), (.pointer none), (.pointer none), (.pointer none), (.pointer none), (.pointer none), (.pointer none), (.pointer none), (.pointer none), (.pointer none), (.pointer none), (.pointer none), (.pointer none), (.pointer none), (.pointer none), (.pointer none), (.pointer none), (.pointer none), (.pointer none), (.pointer none), (.pointer none), (.pointer none), (.pointer none), (.pointer none), (.pointer none), (.pointer none), (.pointer none), (.pointer none), (.pointer none), (.pointer none), (.pointer none), (.pointer none), (.pointer none), (.pointer none), (.pointer none), (.pointer none), (.pointer none), (.pointer none), (.pointer none), (.pointer none), (.pointer none), (.pointer none), (.pointer none), (.pointer none), (.pointer none), (.pointer none), (.pointer none), (.pointer none), (.pointer none), (.pointer none), (.pointer none), (.pointer none), (.pointer none), (.pointer none), (.pointer none), (.pointer none), (.pointer none), (.pointer none), (.pointer none), (.pointer none), (.pointer none), (.pointer none), (.pointer none), (.pointer none), (.pointer none), (.pointer none), (.pointer none), (.pointer none), (.pointer none), (.pointer none), (.pointer none), (.pointer none), (.pointer none), (.pointer none), (.pointer none), (.pointer none), (.pointer none), (.pointer none), (.pointer none), (.pointer none), (.pointer none), (.pointer none), (.pointer none), (.pointer none), (.pointer none), (.pointer none), (.pointer none), (.pointer none), (.pointer none), (.pointer none), (.pointer none), (.pointer none), (.pointer none), (.pointer none), (.pointer none), (.pointer none), (.pointer none), (.pointer none), (.pointer none), (.pointer none), (.pointer none), (.pointer none), (.pointer none), (.pointer none), (.pointer none), (.pointer none), (.pointer none), (.pointer none), (.pointer none), (.pointer none), (.pointer none), (.pointer none), (.pointer none), (.pointer none), (.pointer none), (.pointer none), (.pointer none), (.pointer none), (.pointer none), (.pointer none), (.pointer none), (.pointer none), (.pointer none), (.pointer none), (.pointer none), (.pointer none), (.pointer none), (.pointer none), (.pointer none), (.pointer none), (.pointer none), (.pointer none), (.pointer none), (.pointer none), (.pointer none), (.pointer none), (.pointer none), (.pointer none), (.pointer none), (.pointer none), (.pointer none), (.pointer none), (.pointer none), (.pointer none), (.pointer none), (.pointer none), (.pointer none), (.pointer none), (.pointer none), (.pointer none), (.pointer none), (.pointer none), (.pointer none), (.pointer none), (.pointer none), (.pointer none), (.pointer none), (.pointer none), (.pointer none), (.pointer none), (.pointer none), (.pointer none), (.pointer none), (.pointer none), (.pointer none), (.pointer none), (.pointer none), (.pointer none), (.pointer none), (.pointer none), (.pointer none), (.pointer none), (.pointer none), (.pointer none), (.pointer none), (.pointer none), (.pointer none), (.pointer none), (.pointer none), (.pointer none), (.pointer none), (.pointer none), (.pointer none), (.pointer none), (.pointer none), (.pointer none), (.pointer none), (.pointer none), (.pointer none), (.pointer none), (.pointer none), (.pointer none), (.pointer none), (.pointer none), (.pointer none), (.pointer none), (.pointer none), (.pointer none), (.pointer none), (.pointer none), (.pointer none), (.pointer none), (.pointer none), (.pointer none), (.pointer none), (.pointer none), (.pointer none), (.pointer none), (.pointer none), (.pointer none), (.pointer none), (.pointer none), (.pointer none), (.pointer none), (.pointer none), (.pointer none), (.pointer none), (.pointer none), (.pointer none), (.pointer none), (.pointer none), (.pointer none), (.pointer none), (.pointer none), (.pointer none), (.pointer none), (.pointer none), (.pointer none)]), 256, 2048) := by kernel_rfl
@[push_cast] theorem al60 (K : Value → World → Prop) (w : World) : vAlloc Try.prog 60 K w = K (.pointer (some ⟨w.heap.size, 0, none⟩)) (w.alloc (.cells #[(.pointer none), (.pointer none), (.pointer none), (.pointer none), (.pointer none), (.pointer none), (.pointer none), (.pointer none), (.pointer none), (.pointer none), (.pointer none), (.pointer none), (.pointer none), (.pointer none), (.pointer none), (.pointer none), (.pointer none), (.pointer none), (.pointer none), (.pointer none), (.pointer none), (.pointer none), (.pointer none), (.pointer none), (.pointer none), (.pointer none), (.pointer none), (.pointer none), (.pointer none), (.pointer none), (.pointer none), (.pointer none), (.pointer none), (.pointer none), (.pointer none), (.pointer none), (.pointer none), (.pointer none), (.pointer none), (.pointer none), (.pointer none), (.pointer none), (.pointer none), (.pointer none), (.pointer none), (.pointer none), (.pointer none), (.pointer none), (.pointer none), (.pointer none), (.pointer none), (.pointer none), (.pointer none), (.pointer none), (.pointer none), (.pointer none), (.pointer none), (.pointer none), (.pointer none), (.pointer none), (.pointer none), (.pointer none), (.pointer none), (.pointer none), (.pointer none), (.pointer none), (.pointer none), (.pointer none), (.pointer none), (.pointer none), (.pointer none), (.pointer none), (.pointer none), (.pointer none), (.pointer none), (.pointer none), (.pointer none), (.pointer none), (.pointer none), (.pointer none), (.pointer none), (.pointer none), (.pointer none), (.pointer none), (.pointer none), (.pointer none), (.pointer none), (.pointer none), (.pointer none), (.pointer none), (.pointer none), (.pointer none), (.pointer none), (.pointer none), (.pointer none), (.pointer none), (.pointer none), (.pointer none), (.pointer none), (.pointer none), (.pointer none), (.pointer none), (.pointer none), (.pointer none), (.pointer none), (.pointer none), (.pointer none), (.pointer none), (.pointer none), (.pointer none), (.pointer none), (.pointer none), (.pointer none), (.pointer none), (.pointer none), (.pointer none), (.pointer none), (.pointer none), (.pointer none), (.pointer none), (.pointer none), (.pointer none), (.pointer none), (.pointer none), (.pointer none), (.pointer none), (.pointer none), (.pointer none), (.pointer none), (.pointer none), (.pointer none), (.pointer none), (.pointer none), (.pointer none), (.pointer none), (.pointer none), (.pointer none), (.pointer none), (.pointer none), (.pointer none), (.pointer none), (.pointer none), (.pointer none), (.pointer none), (.pointer none), (.pointer none), (.pointer none), (.pointer none), (.pointer none), (.pointer none), (.pointer none), (.pointer none), (.pointer none), (.pointer none), (.pointer none), (.pointer none), (.pointer none), (.pointer none), (.pointer none), (.pointer none), (.pointer none), (.pointer none), (.pointer none), (.pointer none), (.pointer none), (.pointer none), (.pointer none), (.pointer none), (.pointer none), (.pointer none), (.pointer none), (.pointer none), (.pointer none), (.pointer none), (.pointer none), (.pointer none), (.pointer none), (.pointer none), (.pointer none), (.pointer none), (.pointer none), (.pointer none), (.pointer none), (.pointer none), (.pointer none), (.pointer none), (.pointer none), (.pointer none), (.pointer none), (.pointer none), (.pointer none), (.pointer none), (.pointer none), (.pointer none), (.pointer none), (.pointer none), (.pointer none), (.pointer none), (.pointer none), (.pointer none), (.pointer none), (.pointer none), (.pointer none), (.pointer none), (.pointer none), (.pointer none), (.pointer none), (.pointer none), (.pointer none), (.pointer none), (.pointer none), (.pointer none), (.pointer none), (.pointer none), (.pointer none), (.pointer none), (.pointer none), (.pointer none), (.pointer none), (.pointer none), (.pointer none), (.pointer none), (.pointer none), (.pointer none), (.pointer none), (.pointer none), (.pointer none), (.pointer none), (.pointer none), (.pointer none), (.pointer none), (.pointer none), (.pointer none), (.pointer none), (.pointer none), (.pointer none), (.pointer none), (.pointer none), (.pointer none), (.pointer none), (.pointer none), (.pointer none), (.pointer none), (.pointer none), (.pointer none), (.pointer none), (.pointer none), (.pointer none), (.pointer none), (.pointer none), (.pointer none), (.pointer none), (.pointer none), (.pointer none), (.pointer none), (.pointer none)] 60)) := vAlloc_ok ti60 K w
attribute [push_cast] Try.underlying60
@[push_cast] theorem fld60_0 : fieldOf Try.prog 60 0 = some (0, 59) := by kernel_rfl
@[push_cast] theorem sz61 : szOf Try.prog 61 = some 256 := by kernel_rfl
theorem ti61 : (Try.prog.info? 61).map (fun i => (i.zero, i.size, i.bytes)) = some (some (.agg #[(.pointer none), (.pointer none), (.pointer none), (.pointer none), (.pointer none), (.pointer none), (.pointer none), (.pointer none), (.pointer none), (.pointer none), (.pointer none), (.pointer none), (.pointer none), (.pointer none), (.pointer none), (.pointer none), (.pointer none), (.pointer none), (.pointer none), (.pointer none), (.pointer none), (.pointer none), (.pointer none), (.pointer none), (.pointer none), (.pointer none), (.pointer none), (.pointer none), (.pointer none), (.pointer none), (.pointer none), (.pointer none), (.pointer none), (.pointer none), (.pointer none), (.pointer none), (.pointer none), (.pointer none), (.pointer none), (.pointer none), (.pointer none), (.pointer none), (.pointer none), (.pointer none), (.pointer none), (.pointer none), (.pointer none), (.pointer none), (.pointer none), (.pointer none), (.pointer none), (.pointer none), (.pointer none), (.pointer none), (.pointer none), (.pointer none), (.pointer none), (.pointer none), (.pointer none), (.pointer none), (.pointer none), (.pointer none), (.pointer none), (.pointer none), (.pointer none), (.pointer none), (.pointer none), (.pointer none), (.pointer none), (.pointer none), (.pointer none), (.pointer none), (.pointer none), (.pointer none), (.pointer none), (.pointer none), (.pointer none), (.pointer none), (.pointer none), (.pointer none), (.pointer none), (.pointer none), (.pointer none), (.pointer none), (.pointer none), (.pointer none), (.pointer none), (.pointer none), (.pointer none), (.pointer none), (.pointer none), (.pointer none), (.pointer none), (.pointer none), (.pointer none), (.pointer none), (.pointer none), (.pointer none), (.pointer none), (.pointer none), (.pointer none), (.pointer none), (.pointer none), (.pointer none), (.pointer none), (.pointer none), (.pointer none), (.pointer none), (.pointer none), (.pointer none), (.pointer none), (.pointer none), (.pointer none), (.pointer none), (.pointer none), (.pointer none), (.pointer none), (.pointer none), (.pointer none), (.pointer none), (.pointer none), (.pointer none), (.pointer none), (.pointer none), (.pointer none), (.pointer none), (.pointer none), (.pointer none), (.pointer none), (.pointer none), (.pointer none), (.pointer none), (.pointer none), (.pointer none), (.pointer none), (.pointer none), (.pointer none), (.pointer none), (.pointer none), (.pointer none), (.pointer none), (.pointer none), (.pointer none), (.pointer none), (.pointer none), (.pointer none), (.pointer none), (.pointer none), (.pointer none), (.pointer none), (.pointer none), (.pointer none), (.pointer none), (.pointer none), (.pointer none), (.pointer none), (.pointer none), (.pointer none), (.pointer none), (.pointer none), (.pointer none), (.pointer none), (.pointer none), (.pointer none), (.pointer none), (.pointer none), (.pointer none), (.pointer none), (.pointer none), (.pointer none), (.pointer none), (.pointer none), (.pointer none), (.pointer none), (.pointer none), (.pointer none), (.pointer none), (.pointer none), (.pointer none), (.pointer none), (.pointer none), (.pointer none), (.pointer none), (.pointer none), (.pointer none), (.pointer none), (.pointer none), (.pointer none), (.pointer none), (.pointer none), (.pointer none), (.pointer none), (.pointer none), (.pointer none), (.pointer none), (.pointer none), (.pointer none), (.pointer none), (.pointer none), (.pointer none), (.pointer none), (.pointer none), (.pointer none), (.pointer none), (.pointer none), (.pointer none), (.pointer none), (.pointer none), (.pointer none), (.pointer none), (.pointer none), (.pointer none), (.pointer none), (.pointer none), (.pointer none), (.pointer none), (.pointer none), (.pointer none), (.pointer none), (.pointer none), (.pointer none), (.pointer none), (.pointer none), (.pointer none), (.pointer none), (.pointer none), (.pointer none), (.pointer none), (.pointer none), (.pointer none), (.pointer none), (.pointer none), (.pointer none), (.pointer none), (.pointer none), (.pointer none), (.pointer none), (.pointer none), (.pointer none), (.pointer none), (.pointer none), (.pointer none), (.pointer none), (.pointer none), (.pointer none), (.pointer none), (.pointer none), (.pointer none), (.pointer none), (.pointer none), (.pointer none), (.pointer none), (.pointer none), (.pointer none), (.pointer none), (.pointer none)]), 256, 2048) := by kernel_rfl
@[push_cast] theorem al61 (K : Value → World → Prop) (w : World) : vAlloc Try.prog 61 K w = K (.pointer (some ⟨w.heap.size, 0, none⟩)) (w.alloc (.cells #[(.pointer none), (.pointer none), (.pointer none), (.pointer none), (.pointer none), (.pointer none), (.pointer none), (.pointer none), (.pointer none), (.pointer none), (.pointer none), (.pointer none), (.pointer none), (.pointer none), (.pointer none), (.pointer none), (.pointer none), (.pointer none), (.pointer none), (.pointer none), (.pointer none), (.pointer none), (.pointer none), (.pointer none), (.pointer none), (.pointer none), (.pointer none), (.pointer none), (.pointer none), (.pointer none), (.pointer none), (.pointer none), (.pointer none), (.pointer none), (.pointer none), (.pointer none), (.pointer none), (.pointer none), (.pointer none), (.pointer none), (.pointer none), (.pointer none), (.pointer none), (.pointer none), (.pointer none), (.pointer none), (.pointer none), (.pointer none), (.pointer none), (.pointer none), (.pointer none), (.pointer none), (.pointer none), (.pointer none), (.pointer none), (.pointer none), (.pointer none), (.pointer none), (.pointer none), (.pointer none), (.pointer none), (.pointer none), (.pointer none), (.pointer none), (.pointer none), (.pointer none), (.pointer none), (.pointer none), (.pointer none), (.pointer none), (.pointer none), (.pointer none), (.pointer none), (.pointer none), (.pointer none), (.pointer none), (.pointer none), (.pointer none), (.pointer none), (.pointer none), (.pointer none), (.pointer none), (.pointer none), (.pointer none), (.pointer none), (.pointer none), (.pointer none), (.pointer none), (.pointer none), (.pointer none), (.pointer none), (.pointer none), (.pointer none), (.pointer none), (.pointer none), (.pointer none), (.pointer none), (.pointer none), (.pointer none), (.pointer none), (.pointer none), (.pointer none), (.pointer none), (.pointer none), (.pointer none), (.pointer none), (.pointer none), (.pointer none), (.pointer none), (.pointer none), (.pointer none), (.pointer none), (.pointer none), (.pointer none), (.pointer none), (.pointer none), (.pointer none), (.pointer none), (.pointer none), (.pointer none), (.pointer none), (.pointer none), (.pointer none), (.pointer none), (.pointer none), (.pointer none), (.pointer none), (.pointer none), (.pointer none), (.pointer none), (.pointer none), (.pointer none), (.pointer none), (.pointer none), (.pointer none), (.pointer none), (.pointer none), (.pointer none), (.pointer none), (.pointer none), (.pointer none), (.pointer none), (.pointer none), (.pointer none), (.pointer none), (.pointer none), (.pointer none), (.pointer none), (.pointer none), (.pointer none), (.pointer none), (.pointer none), (.pointer none), (.pointer none), (.pointer none), (.pointer none), (.pointer none), (.pointer none), (.pointer none), (.pointer none), (.pointer none), (.pointer none), (.pointer none), (.pointer none), (.pointer none), (.pointer none), (.pointer none), (.pointer none), (.pointer none), (.pointer none), (.pointer none), (.pointer none), (.pointer none), (.pointer none), (.pointer none), (.pointer none), (.pointer none), (.pointer none), (.pointer none), (.pointer none), (.pointer none), (.pointer none), (.pointer none), (.pointer none), (.pointer none), (.pointer none), (.pointer none), (.pointer none), (.pointer none), (.pointer none), (.pointer none), (.pointer none), (.pointer none), (.pointer none), (.pointer none), (.pointer none), (.pointer none), (.pointer none), (.pointer none), (.pointer none), (.pointer none), (.pointer none), (.pointer none), (.pointer none), (.pointer none), (.pointer none), (.pointer none), (.pointer none), (.pointer none), (.pointer none), (.pointer none), (.pointer none), (.pointer none), (.pointer none), (.pointer none), (.pointer none), (.pointer none), (.pointer none), (.pointer none), (.pointer none), (.pointer none), (.pointer none), (.pointer none), (.pointer none), (.pointer none), (.pointer none), (.pointer none), (.pointer none), (.pointer none), (.pointer none), (.pointer none), (.pointer none), (.pointer none), (.pointer none), (.pointer none), (.pointer none), (.pointer none), (.pointer none), (.pointer none), (.pointer none), (.pointer none), (.pointer none), (.pointer none), (.pointer none), (.pointer none), (.pointer none), (.pointer none), (.pointer none), (.pointer none), (.pointer none), (.pointer none), (.pointer none), (.pointer none), (.pointer none), (.pointer none), (.pointer none)] 61)) := vAlloc_ok ti61 K w
attribute [push_cast] Try.underlying61
@[push_cast] theorem fld61_0 : fieldOf Try.prog 61 0 = some (0, 59) := by kernel_rfl
@[push_cast] theorem sz62 : szOf Try.prog 62 = some 2 := by kernel_rfl
theorem ti62 : (Try.prog.info? 62).map (fun i => (i.zero, i.size, i.bytes)) = some (some (.agg #[(.int .i64 0), (.int .i64 0)]), 2, 16) := by kernel_rfl
@[push_cast] theorem al62 (K : Value → World → Prop) (w : World) : vAlloc Try.prog 62 K w = K (.pointer (some ⟨w.heap.size, 0, none⟩)) (w.alloc (.cells #[(.int .i64 0), (.int .i64 0)] 62)) := vAlloc_ok ti62 K w
attribute [push_cast] Try.underlying62
@[push_cast] theorem fld62_0 : fieldOf Try.prog 62 0 = some (0, 3) := by kernel_rfl
@[push_cast] theorem fld62_1 : fieldOf Try.prog 62 1 = some (1, 3) := by kernel_rfl
@[push_cast] theorem sz63 : szOf Try.prog 63 = some 2 := by kernel_rfl
theorem ti63 : (Try.prog.info? 63).map (fun i => (i.zero, i.size, i.bytes)) = some (some (.agg #[(.int .i64 0), (.int .i64 0)]), 2, 16) := by kernel_rfl
@[push_cast] theorem al63 (K : Value → World → Prop) (w : World) : vAlloc Try.prog 63 K w = K (.pointer (some ⟨w.heap.size, 0, none⟩)) (w.alloc (.cells #[(.int .i64 0), (.int .i64 0)] 63)) := vAlloc_ok ti63 K w
attribute [push_cast] Try.underlying63
@[push_cast] theorem fld63_0 : fieldOf Try.prog 63 0 = some (0, 3) := by kernel_rfl
@[push_cast] theorem fld63_1 : fieldOf Try.prog 63 1 = some (1, 3) := by kernel_rfl
@[push_cast] theorem sz64 : szOf Try.prog 64 = some 1 := by kernel_rfl
theorem ti64 : (Try.prog.info? 64).map (fun i => (i.zero, i.size, i.bytes)) = some (some (.int .u64 0), 1, 8) := by kernel_rfl
@[push_cast] theorem al64 (K : Value → World → Prop) (w : World) : vAlloc Try.prog 64 K w = K (.pointer (some ⟨w.heap.size, 0, none⟩)) (w.alloc (.cells #[(.int .u64 0)] 64)) := vAlloc_ok ti64 K w
attribute [push_cast] Try.underlying64
@[push_cast] theorem sz65 : szOf Try.prog 65 = some 4 := by kernel_rfl
theorem ti65 : (Try.prog.info? 65).map (fun i => (i.zero, i.size, i.bytes)) = some (some (.agg #[(.int .u64 0), (.int .u64 0), (.int .u64 0), (.int .u64 0)]), 4, 32) := by kernel_rfl
@[push_cast] theorem al65 (K : Value → World → Prop) (w : World) : vAlloc Try.prog 65 K w = K (.pointer (some ⟨w.heap.size, 0, none⟩)) (w.alloc (.cells #[(.int .u64 0), (.int .u64 0), (.int .u64 0), (.int .u64 0)] 65)) := vAlloc_ok ti65 K w
attribute [push_cast] Try.underlying65
@[push_cast] theorem sz66 : szOf Try.prog 66 = some 4 := by kernel_rfl
theorem ti66 : (Try.prog.info? 66).map (fun i => (i.zero, i.size, i.bytes)) = some (some (.agg #[(.int .u64 0), (.int .u64 0), (.int .u64 0), (.int .u64 0)]), 4, 32) := by kernel_rfl
@[push_cast] theorem al66 (K : Value → World → Prop) (w : World) : vAlloc Try.prog 66 K w = K (.pointer (some ⟨w.heap.size, 0, none⟩)) (w.alloc (.cells #[(.int .u64 0), (.int .u64 0), (.int .u64 0), (.int .u64 0)] 66)) := vAlloc_ok ti66 K w
attribute [push_cast] Try.underlying66
@[push_cast] theorem sz67 : szOf Try.prog 67 = some 1 := by kernel_rfl
theorem ti67 : (Try.prog.info? 67).map (fun i => (i.zero, i.size, i.bytes)) = some (some .nilFunc, 1, 8) := by kernel_rfl
@[push_cast] theorem al67 (K : Value → World → Prop) (w : World) : vAlloc Try.prog 67 K w = K (.pointer (some ⟨w.heap.size, 0, none⟩)) (w.alloc (.cells #[.nilFunc] 67)) := vAlloc_ok ti67 K w
@[push_cast] theorem one67 : oneD (Try.prog.underlying 67) = true := by kernel_rfl
@[push_cast] theorem sz68 : szOf Try.prog 68 = some 1 := by kernel_rfl
theorem ti68 : (Try.prog.info? 68).map (fun i => (i.zero, i.size, i.bytes)) = some (some .nilFunc, 1, 8) := by kernel_rfl
@[push_cast] theorem al68 (K : Value → World → Prop) (w : World) : vAlloc Try.prog 68 K w = K (.pointer (some ⟨w.heap.size, 0, none⟩)) (w.alloc (.cells #[.nilFunc] 68)) := vAlloc_ok ti68 K w
@[push_cast] theorem one68 : oneD (Try.prog.underlying 68) = true := by kernel_rfl
@[push_cast] theorem sz69 : szOf Try.prog 69 = some 1 := by kernel_rfl
theorem ti69 : (Try.prog.info? 69).map (fun i => (i.zero, i.size, i.bytes)) = some (some .nilFunc, 1, 8) := by kernel_rfl
@[push_cast] theorem al69 (K : Value → World → Prop) (w : World) : vAlloc Try.prog 69 K w = K (.pointer (some ⟨w.heap.size, 0, none⟩)) (w.alloc (.cells #[.nilFunc] 69)) := vAlloc_ok ti69 K w
@[push_cast] theorem one69 : oneD (Try.prog.underlying 69) = true := by kernel_rfl
@[push_cast] theorem sz71 : szOf Try.prog 71 = some 1 := by kernel_rfl
theorem ti71 : (Try.prog.info? 71).map (fun i => (i.zero, i.size, i.bytes)) = some (some .nilFunc, 1, 8) := by kernel_rfl
@[push_cast] theorem al71 (K : Value → World → Prop) (w : World) : vAlloc Try.prog 71 K w = K (.pointer (some ⟨w.heap.size, 0, none⟩)) (w.alloc (.cells #[.nilFunc] 71)) := vAlloc_ok ti71 K w
@[push_cast] theorem one71 : oneD (Try.prog.underlying 71) = true := by kernel_rfl
@[push_cast] theorem sz72 : szOf Try.prog 72 = some 1 := by kernel_rfl
theorem ti72 : (Try.prog.info? 72).map (fun i => (i.zero, i.size, i.bytes)) = some (some .nilFunc, 1, 8) := by kernel_rfl
@[push_cast] theorem al72 (K : Value → World → Prop) (w : World) : vAlloc Try.prog 72 K w = K (.pointer (some ⟨w.heap.size, 0, none⟩)) (w.alloc (.cells #[.nilFunc] 72)) := vAlloc_ok ti72 K w
@[push_cast] theorem one72 : oneD (Try.prog.underlying 72) = true := by kernel_rfl
@[push_cast] theorem sz73 : szOf Try.prog 73 = some 1 := by kernel_rfl
theorem ti73 : (Try.prog.info? 73).map (fun i => (i.zero, i.size, i.bytes)) = some (some .nilFunc, 1, 8) := by kernel_rfl
@[push_cast] theorem al73 (K : Value → World → Prop) (w : World) : vAlloc Try.prog 73 K w = K (.pointer (some ⟨w.heap.size, 0, none⟩)) (w.alloc (.cells #[.nilFunc] 73)) := vAlloc_ok ti73 K w
@[push_cast] theorem one73 : oneD (Try.prog.underlying 73) = true := by kernel_rfl
@[push_cast] theorem sz74 : szOf Try.prog 74 = some 1 := by kernel_rfl
theorem ti74 : (Try.prog.info? 74).map (fun i => (i.zero, i.size, i.bytes)) = some (some (.slice none 0 0), 1, 24) := by kernel_rfl
@[push_cast] theorem al74 (K : Value → World → Prop) (w : World) : vAlloc Try.prog 74 K w = K (.pointer (some ⟨w.heap.size, 0, none⟩)) (w.alloc (.cells #[(.slice none 0 0)] 74)) := vAlloc_ok ti74 K w
attribute [push_cast] Try.underlying74
@[push_cast] theorem sz75 : szOf Try.prog 75 = some 1 := by kernel_rfl
theorem ti75 : (Try.prog.info? 75).map (fun i => (i.zero, i.size, i.bytes)) = some (some .nilFunc, 1, 8) := by kernel_rfl
@[push_cast] theorem al75 (K : Value → World → Prop) (w : World) : vAlloc Try.prog 75 K w = K (.pointer (some ⟨w.heap.size, 0, none⟩)) (w.alloc (.cells #[.nilFunc] 75)) := vAlloc_ok ti75 K w
@[push_cast] theorem one75 : oneD (Try.prog.underlying 75) = true := by kernel_rfl
@[push_cast] theorem sz76 : szOf Try.prog 76 = some 1 := by kernel_rfl
theorem ti76 : (Try.prog.info? 76).map (fun i => (i.zero, i.size, i.bytes)) = some (some .nilFunc, 1, 8) := by kernel_rfl
@[push_cast] theorem al76 (K : Value → World → Prop) (w : World) : vAlloc Try.prog 76 K w = K (.pointer (some ⟨w.heap.size, 0, none⟩)) (w.alloc (.cells #[.nilFunc] 76)) := vAlloc_ok ti76 K w
@[push_cast] theorem one76 : oneD (Try.prog.underlying 76) = true := by kernel_rfl
@[push_cast] theorem sz77 : szOf Try.prog 77 = some 1 := by kernel_rfl
theorem ti77 : (Try.prog.info? 77).map (fun i => (i.zero, i.size, i.bytes)) = some (some .nilFunc, 1, 8) := by kernel_rfl
@[push_cast] theorem al77 (K : Value → World → Prop) (w : World) : vAlloc Try.prog 77 K w = K (.pointer (some ⟨w.heap.size, 0, none⟩)) (w.alloc (.cells #[.nilFunc] 77)) := vAlloc_ok ti77 K w
@[push_cast] theorem one77 : oneD (Try.prog.underlying 77) = true := by kernel_rfl
@[push_cast] theorem sz78 : szOf Try.prog 78 = some 1 := by kernel_rfl
theorem ti78 : (Try.prog.info? 78).map (fun i => (i.zero, i.size, i.bytes)) = some (some .nilFunc, 1, 8) := by kernel_rfl
@[push_cast] theorem al78 (K : Value → World → Prop) (w : World) : vAlloc Try.prog 78 K w = K (.pointer (some ⟨w.heap.size, 0, none⟩)) (w.alloc (.cells #[.nilFunc] 78)) := vAlloc_ok ti78 K w
@[push_cast] theorem one78 : oneD (Try.prog.underlying 78) = true := by kernel_rfl
@[push_cast] theorem sz79 : szOf Try.prog 79 = some 1 := by kernel_rfl
theorem ti79 : (Try.prog.info? 79).map (fun i => (i.zero, i.size, i.bytes)) = some (some .nilFunc, 1, 8) := by kernel_rfl
@[push_cast] theorem al79 (K : Value → World → Prop) (w : World) : vAlloc Try.prog 79 K w = K (.pointer (some ⟨w.heap.size, 0, none⟩)) (w.alloc (.cells #[.nilFunc] 79)) := vAlloc_ok ti79 K w
@[push_cast] theorem one79 : oneD (Try.prog.underlying 79) = true := by kernel_rfl
@[push_cast] theorem sz80 : szOf Try.prog 80 = some 1 := by kernel_rfl
theorem ti80 : (Try.prog.info? 80).map (fun i => (i.zero, i.size, i.bytes)) = some (some .nilFunc, 1, 8) := by kernel_rfl
@[push_cast] theorem al80 (K : Value → World → Prop) (w : World) : vAlloc Try.prog 80 K w = K (.pointer (some ⟨w.heap.size, 0, none⟩)) (w.alloc (.cells #[.nilFunc] 80)) := vAlloc_ok ti80 K w
@[push_cast] theorem one80 : oneD (Try.prog.underlying 80) = true := by kernel_rfl
@[push_cast] theorem sz81 : szOf Try.prog 81 = some 1 := by kernel_rfl
theorem ti81 : (Try.prog.info? 81).map (fun i => (i.zero, i.size, i.bytes)) = some (some .nilFunc, 1, 8) := by kernel_rfl
@[push_cast] theorem al81 (K : Value → World → Prop) (w : World) : vAlloc Try.prog 81 K w = K (.pointer (some ⟨w.heap.size, 0, none⟩)) (w.alloc (.cells #[.nilFunc] 81)) := vAlloc_ok ti81 K w
@[push_cast] theorem one81 : oneD (Try.prog.underlying 81) = true := by kernel_rfl
@[push_cast] theorem sz82 : szOf Try.prog 82 = some 1 := by kernel_rfl
theorem ti82 : (Try.prog.info? 82).map (fun i => (i.zero, i.size, i.bytes)) = some (some .nilFunc, 1, 8) := by kernel_rfl
@[push_cast] theorem al82 (K : Value → World → Prop) (w : World) : vAlloc Try.prog 82 K w = K (.pointer (some ⟨w.heap.size, 0, none⟩)) (w.alloc (.cells #[.nilFunc] 82)) := vAlloc_ok ti82 K w
@[push_cast] theorem one82 : oneD (Try.prog.underlying 82) = true := by kernel_rfl
@[push_cast] theorem sz83 : szOf Try.prog 83 = some 1 := by kernel_rfl
theorem ti83 : (Try.prog.info? 83).map (fun i => (i.zero, i.size, i.bytes)) = some (some .nilFunc, 1, 8) := by kernel_rfl
@[push_cast] theorem al83 (K : Value → World → Prop) (w : World) : vAlloc Try.prog 83 K w = K (.pointer (some ⟨w.heap.size, 0, none⟩)) (w.alloc (.cells #[.nilFunc] 83)) := vAlloc_ok ti83 K w
@[push_cast] theorem one83 : oneD (Try.prog.underlying 83) = true := by kernel_rfl
@[push_cast] theorem sz84 : szOf Try.prog 84 = some 1 := by kernel_rfl
theorem ti84 : (Try.prog.info? 84).map (fun i => (i.zero, i.size, i.bytes)) = some (some .nilFunc, 1, 8) := by kernel_rfl
@[push_cast] theorem al84 (K : Value → World → Prop) (w : World) : vAlloc Try.prog 84 K w = K (.pointer (some ⟨w.heap.size, 0, none⟩)) (w.alloc (.cells #[.nilFunc] 84)) := vAlloc_ok ti84 K w
@[push_cast] theorem one84 : oneD (Try.prog.underlying 84) = true := by kernel_rfl
@[push_cast] theorem sz85 : szOf Try.prog 85 = some 1 := by kernel_rfl
theorem ti85 : (Try.prog.info? 85).map (fun i => (i.zero, i.size, i.bytes)) = some (some .nilFunc, 1, 8) := by kernel_rfl
@[push_cast] theorem al85 (K : Value → World → Prop) (w : World) : vAlloc Try.prog 85 K w = K (.pointer (some ⟨w.heap.size, 0, none⟩)) (w.alloc (.cells #[.nilFunc] 85)) := vAlloc_ok ti85 K w
@[push_cast] theorem one85 : oneD (Try.prog.underlying 85) = true := by kernel_rfl
@[push_cast] theorem sz86 : szOf Try.prog 86 = some 1 := by kernel_rfl
theorem ti86 : (Try.prog.info? 86).map (fun i => (i.zero, i.size, i.bytes)) = some (some (.pointer none), 1, 8) := by kernel_rfl
@[push_cast] theorem al86 (K : Value → World → Prop) (w : World) : vAlloc Try.prog 86 K w = K (.pointer (some ⟨w.heap.size, 0, none⟩)) (w.alloc (.cells #[(.pointer none)] 86)) := vAlloc_ok ti86 K w
attribute [push_cast] Try.underlying86
@[push_cast] theorem sz87 : szOf Try.prog 87 = some 1 := by kernel_rfl
theorem ti87 : (Try.prog.info? 87).map (fun i => (i.zero, i.size, i.bytes)) = some (some .nilFunc, 1, 8) := by kernel_rfl
@[push_cast] theorem al87 (K : Value → World → Prop) (w : World) : vAlloc Try.prog 87 K w = K (.pointer (some ⟨w.heap.size, 0, none⟩)) (w.alloc (.cells #[.nilFunc] 87)) := vAlloc_ok ti87 K w
@[push_cast] theorem one87 : oneD (Try.prog.underlying 87) = true := by kernel_rfl
@[push_cast] theorem sz89 : szOf Try.prog 89 = some 1 := by kernel_rfl
theorem ti89 : (Try.prog.info? 89).map (fun i => (i.zero, i.size, i.bytes)) = some (some .nilFunc, 1, 8) := by kernel_rfl
@[push_cast] theorem al89 (K : Value → World → Prop) (w : World) : vAlloc Try.prog 89 K w = K (.pointer (some ⟨w.heap.size, 0, none⟩)) (w.alloc (.cells #[.nilFunc] 89)) := vAlloc_ok ti89 K w
@[push_cast] theorem one89 : oneD (Try.prog.underlying 89) = true := by kernel_rfl
@[push_cast] theorem sz91 : szOf Try.prog 91 = some 1 := by kernel_rfl
theorem ti91 : (Try.prog.info? 91).map (fun i => (i.zero, i.size, i.bytes)) = some (some .nilFunc, 1, 8) := by kernel_rfl
@[push_cast] theorem al91 (K : Value → World → Prop) (w : World) : vAlloc Try.prog 91 K w = K (.pointer (some ⟨w.heap.size, 0, none⟩)) (w.alloc (.cells #[.nilFunc] 91)) := vAlloc_ok ti91 K w
@[push_cast] theorem one91 : oneD (Try.prog.underlying 91) = true := by kernel_rfl
@[push_cast] theorem sz92 : szOf Try.prog 92 = some 1 := by kernel_rfl
theorem ti92 : (Try.prog.info? 92).map (fun i => (i.zero, i.size, i.bytes)) = some (some .nilIface, 1, 16) := by kernel_rfl
@[push_cast] theorem al92 (K : Value → World → Prop) (w : World) : vAlloc Try.prog 92 K w = K (.pointer (some ⟨w.heap.size, 0, none⟩)) (w.alloc (.cells #[.nilIface] 92)) := vAlloc_ok ti92 K w
@[push_cast] theorem one92 : oneD (Try.prog.underlying 92) = true := by kernel_rfl
@[push_cast] theorem sz93 : szOf Try.prog 93 = some 1 := by kernel_rfl
theorem ti93 : (Try.prog.info? 93).map (fun i => (i.zero, i.size, i.bytes)) = some (some .nilIface, 1, 16) := by kernel_rfl
@[push_cast] theorem al93 (K : Value → World → Prop) (w : World) : vAlloc Try.prog 93 K w = K (.pointer (some ⟨w.heap.size, 0, none⟩)) (w.alloc (.cells #[.nilIface] 93)) := vAlloc_ok ti93 K w
@[push_cast] theorem one93 : oneD (Try.prog.underlying 93) = true := by kernel_rfl
@[push_cast] theorem sz94 : szOf Try.prog 94 = some 3 := by kernel_rfl
theorem ti94 : (Try.prog.info? 94).map (fun i => (i.zero, i.size, i.bytes)) = some (some (.agg #[.nilIface, .nilIface, .nilIface]), 3, 48) := by kernel_rfl
@[push_cast] theorem al94 (K : Value → World → Prop) (w : World) : vAlloc Try.prog 94 K w = K (.pointer (some ⟨w.heap.size, 0, none⟩)) (w.alloc (.cells #[.nilIface, .nilIface, .nilIface] 94)) := vAlloc_ok ti94 K w
attribute [push_cast] Try.underlying94
@[push_cast] theorem sz95 : szOf Try.prog 95 = some 1 := by kernel_rfl
theorem ti95 : (Try.prog.info? 95).map (fun i => (i.zero, i.size, i.bytes)) = some (some .nilFunc, 1, 8) := by kernel_rfl
@[push_cast] theorem al95 (K : Value → World → Prop) (w : World) : vAlloc Try.prog 95 K w = K (.pointer (some ⟨w.heap.size, 0, none⟩)) (w.alloc (.cells #[.nilFunc] 95)) := vAlloc_ok ti95 K w
@[push_cast] theorem one95 : oneD (Try.prog.underlying 95) = true := by kernel_rfl
@[push_cast] theorem sz97 : szOf Try.prog 97 = some 1 := by kernel_rfl
theorem ti97 : (Try.prog.info? 97).map (fun i => (i.zero, i.size, i.bytes)) = some (some .nilFunc, 1, 8) := by kernel_rfl
@[push_cast] theorem al97 (K : Value → World → Prop) (w : World) : vAlloc Try.prog 97 K w = K (.pointer (some ⟨w.heap.size, 0, none⟩)) (w.alloc (.cells #[.nilFunc] 97)) := vAlloc_ok ti97 K w
@[push_cast] theorem one97 : oneD (Try.prog.underlying 97) = true := by kernel_rfl
@[push_cast] theorem sz98 : szOf Try.prog 98 = some 1 := by kernel_rfl
theorem ti98 : (Try.prog.info? 98).map (fun i => (i.zero, i.size, i.bytes)) = some (some .nilFunc, 1, 8) := by kernel_rfl
@[push_cast] theorem al98 (K : Value → World → Prop) (w : World) : vAlloc Try.prog 98 K w = K (.pointer (some ⟨w.heap.size, 0, none⟩)) (w.alloc (.cells #[.nilFunc] 98)) := vAlloc_ok ti98 K w
@[push_cast] theorem one98 : oneD (Try.prog.underlying 98) = true := by kernel_rfl
@[push_cast] theorem sz99 : szOf Try.prog 99 = some 1 := by kernel_rfl
theorem ti99 : (Try.prog.info? 99).map (fun i => (i.zero, i.size, i.bytes)) = some (some .nilFunc, 1, 8) := by kernel_rfl
@[push_cast] theorem al99 (K : Value → World → Prop) (w : World) : vAlloc Try.prog 99 K w = K (.pointer (some ⟨w.heap.size, 0, none⟩)) (w.alloc (.cells #[.nilFunc] 99)) := vAlloc_ok ti99 K w
@[push_cast] theorem one99 : oneD (Try.prog.underlying 99) = true := by kernel_rfl
@[push_cast] theorem sz100 : szOf Try.prog 100 = some 1 := by kernel_rfl
theorem ti100 : (Try.prog.info? 100).map (fun i => (i.zero, i.size, i.bytes)) = some (some .nilFunc, 1, 8) := by kernel_rfl
@[push_cast] theorem al100 (K : Value → World → Prop) (w : World) : vAlloc Try.prog 100 K w = K (.pointer (some ⟨w.heap.size, 0, none⟩)) (w.alloc (.cells #[.nilFunc] 100)) := vAlloc_ok ti100 K w
@[push_cast] theorem one100 : oneD (Try.prog.underlying 100) = true := by kernel_rfl
@[push_cast] theorem sz101 : szOf Try.prog 101 = some 1 := by kernel_rfl
theorem ti101 : (Try.prog.info? 101).map (fun i => (i.zero, i.size, i.bytes)) = some (some .nilFunc, 1, 8) := by kernel_rfl
@[push_cast] theorem al101 (K : Value → World → Prop) (w : World) : vAlloc Try.prog 101 K w = K (.pointer (some ⟨w.heap.size, 0, none⟩)) (w.alloc (.cells #[.nilFunc] 101)) := vAlloc_ok ti101 K w
@[push_cast] theorem one101 : oneD (Try.prog.underlying 101) = true := by kernel_rfl
@[push_cast] theorem sz102 : szOf Try.prog 102 = some 1 := by kernel_rfl
theorem ti102 : (Try.prog.info? 102).map (fun i => (i.zero, i.size, i.bytes)) = some (some (.int .u64 0), 1, 8) := by kernel_rfl
@[push_cast] theorem al102 (K : Value → World → Prop) (w : World) : vAlloc Try.prog 102 K w = K (.pointer (some ⟨w.heap.size, 0, none⟩)) (w.alloc (.cells #[(.int .u64 0)] 102)) := vAlloc_ok ti102 K w
attribute [push_cast] Try.underlying102
@[push_cast] theorem sz103 : szOf Try.prog 103 = some 1 := by kernel_rfl
theorem ti103 : (Try.prog.info? 103).map (fun i => (i.zero, i.size, i.bytes)) = some (some .nilFunc, 1, 8) := by kernel_rfl
@[push_cast] theorem al103 (K : Value → World → Prop) (w : World) : vAlloc Try.prog 103 K w = K (.pointer (some ⟨w.heap.size, 0, none⟩)) (w.alloc (.cells #[.nilFunc] 103)) := vAlloc_ok ti103 K w
@[push_cast] theorem one103 : oneD (Try.prog.underlying 103) = true := by kernel_rfl
@[push_cast] theorem sz104 : szOf Try.prog 104 = some 1 := by kernel_rfl
theorem ti104 : (Try.prog.info? 104).map (fun i => (i.zero, i.size, i.bytes)) = some (some .nilFunc, 1, 8) := by kernel_rfl
@[push_cast] theorem al104 (K : Value → World → Prop) (w : World) : vAlloc Try.prog 104 K w = K (.pointer (some ⟨w.heap.size, 0, none⟩)) (w.alloc (.cells #[.nilFunc] 104)) := vAlloc_ok ti104 K w
@[push_cast] theorem one104 : oneD (Try.prog.underlying 104) = true := by kernel_rfl
@[push_cast] theorem sz105 : szOf Try.prog 105 = some 1 := by kernel_rfl
theorem ti105 : (Try.prog.info? 105).map (fun i => (i.zero, i.size, i.bytes)) = some (some .nilFunc, 1, 8) := by kernel_rfl
@[push_cast] theorem al105 (K : Value → World → Prop) (w : World) : vAlloc Try.prog 105 K w = K (.pointer (some ⟨w.heap.size, 0, none⟩)) (w.alloc (.cells #[.nilFunc] 105)) := vAlloc_ok ti105 K w
@[push_cast] theorem one105 : oneD (Try.prog.underlying 105) = true := by kernel_rfl
@[push_cast] theorem sz106 : szOf Try.prog 106 = some 1 := by kernel_rfl
theorem ti106 : (Try.prog.info? 106).map (fun i => (i.zero, i.size, i.bytes)) = some (some .nilFunc, 1, 8) := by kernel_rfl
@[push_cast] theorem al106 (K : Value → World → Prop) (w : World) : vAlloc Try.prog 106 K w = K (.pointer (some ⟨w.heap.size, 0, none⟩)) (w.alloc (.cells #[.nilFunc] 106)) := vAlloc_ok ti106 K w
@[push_cast] theorem one106 : oneD (Try.prog.underlying 106) = true := by kernel_rfl
@[push_cast] theorem sz107 : szOf Try.prog 107 = some 1 := by kernel_rfl
theorem ti107 : (Try.prog.info? 107).map (fun i => (i.zero, i.size, i.bytes)) = some (some .nilFunc, 1, 8) := by kernel_rfl
@[push_cast] theorem al107 (K : Value → World → Prop) (w : World) : vAlloc Try.prog 107 K w = K (.pointer (some ⟨w.heap.size, 0, none⟩)) (w.alloc (.cells #[.nilFunc] 107)) := vAlloc_ok ti107 K w
@[push_cast] theorem one107 : oneD (Try.prog.underlying 107) = true := by kernel_rfl
@[push_cast] theorem sz108 : szOf Try.prog 108 = some 2 := by kernel_rfl
theorem ti108 : (Try.prog.info? 108).map (fun i => (i.zero, i.size, i.bytes)) = some (some (.agg #[(.bool false), (.bool false)]), 2, 2) := by kernel_rfl
@[push_cast] theorem al108 (K : Value → World → Prop) (w : World) : vAlloc Try.prog 108 K w = K (.pointer (some ⟨w.heap.size, 0, none⟩)) (w.alloc (.cells #[(.bool false), (.bool false)] 108)) := vAlloc_ok ti108 K w
attribute [push_cast] Try.underlying108
@[push_cast] theorem sz109 : szOf Try.prog 109 = some 1 := by kernel_rfl
theorem ti109 : (Try.prog.info? 109).map (fun i => (i.zero, i.size, i.bytes)) = some (some .nilFunc, 1, 8) := by kernel_rfl
@[push_cast] theorem al109 (K : Value → World → Prop) (w : World) : vAlloc Try.prog 109 K w = K (.pointer (some ⟨w.heap.size, 0, none⟩)) (w.alloc (.cells #[.nilFunc] 109)) := vAlloc_ok ti109 K w
@[push_cast] theorem one109 : oneD (Try.prog.underlying 109) = true := by kernel_rfl
@[push_cast] theorem sz110 : szOf Try.prog 110 = some 1 := by kernel_rfl
theorem ti110 : (Try.prog.info? 110).map (fun i => (i.zero, i.size, i.bytes)) = some (some .nilFunc, 1, 8) := by kernel_rfl
@[push_cast] theorem al110 (K : Value → World → Prop) (w : World) : vAlloc Try.prog 110 K w = K (.pointer (some ⟨w.heap.size, 0, none⟩)) (w.alloc (.cells #[.nilFunc] 110)) := vAlloc_ok ti110 K w
@[push_cast] theorem one110 : oneD (Try.prog.underlying 110) = true := by kernel_rfl
@[push_cast] theorem sz111 : szOf Try.prog 111 = some 1 := by kernel_rfl
theorem ti111 : (Try.prog.info? 111).map (fun i => (i.zero, i.size, i.bytes)) = some (some .nilFunc, 1, 8) := by kernel_rfl
@[push_cast] theorem al111 (K : Value → World → Prop) (w : World) : vAlloc Try.prog 111 K w = K (.pointer (some ⟨w.heap.size, 0, none⟩)) (w.alloc (.cells #[.nilFunc] 111)) := vAlloc_ok ti111 K w
@[push_cast] theorem one111 : oneD (Try.prog.underlying 111) = true := by kernel_rfl
@[push_cast] theorem sz112 : szOf Try.prog 112 = some 1 := by kernel_rfl
theorem ti112 : (Try.prog.info? 112).map (fun i => (i.zero, i.size, i.bytes)) = some (some .nilFunc, 1, 8) := by kernel_rfl
@[push_cast] theorem al112 (K : Value → World → Prop) (w : World) : vAlloc Try.prog 112 K w = K (.pointer (some ⟨w.heap.size, 0, none⟩)) (w.alloc (.cells #[.nilFunc] 112)) := vAlloc_ok ti112 K w
@[push_cast] theorem one112 : oneD (Try.prog.underlying 112) = true := by kernel_rfl
@[push_cast] theorem sz113 : szOf Try.prog 113 = some 1 := by kernel_rfl
theorem ti113 : (Try.prog.info? 113).map (fun i => (i.zero, i.size, i.bytes)) = some (some (.agg #[(.slice none 0 0)]), 1, 24) := by kernel_rfl
@[push_cast] theorem al113 (K : Value → World → Prop) (w : World) : vAlloc Try.prog 113 K w = K (.pointer (some ⟨w.heap.size, 0, none⟩)) (w.alloc (.cells #[(.slice none 0 0)] 113)) := vAlloc_ok ti113 K w
attribute [push_cast] Try.underlying113
@[push_cast] theorem fld113_0 : fieldOf Try.prog 113 0 = some (0, 35) := by kernel_rfl
@[push_cast] theorem sz114 : szOf Try.prog 114 = some 1 := by kernel_rfl
theorem ti114 : (Try.prog.info? 114).map (fun i => (i.zero, i.size, i.bytes)) = some (some (.agg #[(.slice none 0 0)]), 1, 24) := by kernel_rfl
@[push_cast] theorem al114 (K : Value → World → Prop) (w : World) : vAlloc Try.prog 114 K w = K (.pointer (some ⟨w.heap.size, 0, none⟩)) (w.alloc (.cells #[(.slice none 0 0)] 114)) := vAlloc_ok ti114 K w
attribute [push_cast] Try.underlying114
@[push_cast] theorem fld114_0 : fieldOf Try.prog 114 0 = some (0, 35) := by kernel_rfl
@[push_cast] theorem sz116 : szOf Try.prog 116 = some 1 := by kernel_rfl
theorem ti116 : (Try.prog.info? 116).map (fun i => (i.zero, i.size, i.bytes)) = some (some .nilFunc, 1, 8) := by kernel_rfl
@[push_cast] theorem al116 (K : Value → World → Prop) (w : World) : vAlloc Try.prog 116 K w = K (.pointer (some ⟨w.heap.size, 0, none⟩)) (w.alloc (.cells #[.nilFunc] 116)) := vAlloc_ok ti116 K w
@[push_cast] theorem one116 : oneD (Try.prog.underlying 116) = true := by kernel_rfl
@[push_cast] theorem sz117 : szOf Try.prog 117 = some 0 := by kernel_rfl
theorem ti117 : (Try.prog.info? 117).map (fun i => (i.zero, i.size, i.bytes)) = some (some (.agg #[]), 0, 0) := by kernel_rfl
@[push_cast] theorem al117 (K : Value → World → Prop) (w : World) : vAlloc Try.prog 117 K w = K (.pointer (some ⟨w.heap.size, 0, none⟩)) (w.alloc (.cells #[] 117)) := vAlloc_ok ti117 K w
attribute [push_cast] Try.underlying117
@[push_cast] theorem sz118 : szOf Try.prog 118 = some 0 := by kernel_rfl
theorem ti118 : (Try.prog.info? 118).map (fun i => (i.zero, i.size, i.bytes)) = some (some (.agg #[]), 0, 0) := by kernel_rfl
@[push_cast] theorem al118 (K : Value → World → Prop) (w : World) : vAlloc Try.prog 118 K w = K (.pointer (some ⟨w.heap.size, 0, none⟩)) (w.alloc (.cells #[] 118)) := vAlloc_ok ti118 K w
attribute [push_cast] Try.underlying118
@[push_cast] theorem sz119 : szOf Try.prog 119 = some 0 := by kernel_rfl
theorem ti119 : (Try.prog.info? 119).map (fun i => (i.zero, i.size, i.bytes)) = some (some (.agg #[]), 0, 0) := by kernel_rfl
@[push_cast] theorem al119 (K : Value → World → Prop) (w : World) : vAlloc Try.prog 119 K w = K (.pointer (some ⟨w.heap.size, 0, none⟩)) (w.alloc (.cells #[] 119)) := vAlloc_ok ti119 K w
attribute [push_cast] Try.underlying119
@[push_cast] theorem sz120 : szOf Try.prog 120 = some 0 := by kernel_rfl
theorem ti120 : (Try.prog.info? 120).map (fun i => (i.zero, i.size, i.bytes)) = some (some (.agg #[]), 0, 0) := by kernel_rfl
@[push_cast] theorem al120 (K : Value → World → Prop) (w : World) : vAlloc Try.prog 120 K w = K (.pointer (some ⟨w.heap.size, 0, none⟩)) (w.alloc (.cells #[] 120)) := vAlloc_ok ti120 K w
attribute [push_cast] Try.underlying120
@[push_cast] theorem sz121 : szOf Try.prog 121 = some 1 := by kernel_rfl
theorem ti121 : (Try.prog.info? 121).map (fun i => (i.zero, i.size, i.bytes)) = some (some .nilFunc, 1, 8) := by kernel_rfl
@[push_cast] theorem al121 (K : Value → World → Prop) (w : World) : vAlloc Try.prog 121 K w = K (.pointer (some ⟨w.heap.size, 0, none⟩)) (w.alloc (.cells #[.nilFunc] 121)) := vAlloc_ok ti121 K w
@[push_cast] theorem one121 : oneD (Try.prog.underlying 121) = true := by kernel_rfl
@[push_cast] theorem sz122 : szOf Try.prog 122 = some 2 := by kernel_rfl
theorem ti122 : (Try.prog.info? 122).map (fun i => (i.zero, i.size, i.bytes)) = some (some (.agg #[(.slice none 0 0), (.slice none 0 0)]), 2, 48) := by kernel_rfl
@[push_cast] theorem al122 (K : Value → World → Prop) (w : World) : vAlloc Try.prog 122 K w = K (.pointer (some ⟨w.heap.size, 0, none⟩)) (w.alloc (.cells #[(.slice none 0 0), (.slice none 0 0)] 122)) := vAlloc_ok ti122 K w
attribute [push_cast] Try.underlying122
@[push_cast] theorem sz123 : szOf Try.prog 123 = some 1 := by kernel_rfl
theorem ti123 : (Try.prog.info? 123).map (fun i => (i.zero, i.size, i.bytes)) = some (some .nilFunc, 1, 8) := by kernel_rfl
@[push_cast] theorem al123 (K : Value → World → Prop) (w : World) : vAlloc Try.prog 123 K w = K (.pointer (some ⟨w.heap.size, 0, none⟩)) (w.alloc (.cells #[.nilFunc] 123)) := vAlloc_ok ti123 K w
@[push_cast] theorem one123 : oneD (Try.prog.underlying 123) = true := by kernel_rfl
@[push_cast] theorem sz124 : szOf Try.prog 124 = some 1 := by kernel_rfl
theorem ti124 : (Try.prog.info? 124).map (fun i => (i.zero, i.size, i.bytes)) = some (some .nilFunc, 1, 8) := by kernel_rfl
@[push_cast] theorem al124 (K : Value → World → Prop) (w : World) : vAlloc Try.prog 124 K w = K (.pointer (some ⟨w.heap.size, 0, none⟩)) (w.alloc (.cells #[.nilFunc] 124)) := vAlloc_ok ti124 K w
@[push_cast] theorem one124 : oneD (Try.prog.underlying 124) = true := by kernel_rfl
@[push_cast] theorem sz125 : szOf Try.prog 125 = some 1 := by kernel_rfl
theorem ti125 : (Try.prog.info? 125).map (fun i => (i.zero, i.size, i.bytes)) = some (some (.int .i64 0), 1, 8) := by kernel_rfl
@[push_cast] theorem al125 (K : Value → World → Prop) (w : World) : vAlloc Try.prog 125 K w = K (.pointer (some ⟨w.heap.size, 0, none⟩)) (w.alloc (.cells #[(.int .i64 0)] 125)) := vAlloc_ok ti125 K w
attribute [push_cast] Try.underlying125
@[push_cast] theorem sz127 : szOf Try.prog 127 = some 1 := by kernel_rfl
theorem ti127 : (Try.prog.info? 127).map (fun i => (i.zero, i.size, i.bytes)) = some (some .nilFunc, 1, 8) := by kernel_rfl
@[push_cast] theorem al127 (K : Value → World → Prop) (w : World) : vAlloc Try.prog 127 K w = K (.pointer (some ⟨w.heap.size, 0, none⟩)) (w.alloc (.cells #[.nilFunc] 127)) := vAlloc_ok ti127 K w
@[push_cast] theorem one127 : oneD (Try.prog.underlying 127) = true := by kernel_rfl
@[push_cast] theorem sz128 : szOf Try.prog 128 = some 1 := by kernel_rfl
theorem ti128 : (Try.prog.info? 128).map (fun i => (i.zero, i.size, i.bytes)) = some (some .nilFunc, 1, 8) := by kernel_rfl
@[push_cast] theorem al128 (K : Value → World → Prop) (w : World) : vAlloc Try.prog 128 K w = K (.pointer (some ⟨w.heap.size, 0, none⟩)) (w.alloc (.cells #[.nilFunc] 128)) := vAlloc_ok ti128 K w
@[push_cast] theorem one128 : oneD (Try.prog.underlying 128) = true := by kernel_rfl
@[push_cast] theorem sz129 : szOf Try.prog 129 = some 1 := by kernel_rfl
theorem ti129 : (Try.prog.info? 129).map (fun i => (i.zero, i.size, i.bytes)) = some (some .nilFunc, 1, 8) := by kernel_rfl
@[push_cast] theorem al129 (K : Value → World → Prop) (w : World) : vAlloc Try.prog 129 K w = K (.pointer (some ⟨w.heap.size, 0, none⟩)) (w.alloc (.cells #[.nilFunc] 129)) := vAlloc_ok ti129 K w
@[push_cast] theorem one129 : oneD (Try.prog.underlying 129) = true := by kernel_rfl
@[push_cast] theorem sz130 : szOf Try.prog 130 = some 1 := by kernel_rfl
theorem ti130 : (Try.prog.info? 130).map (fun i => (i.zero, i.size, i.bytes)) = some (some .nilFunc, 1, 8) := by kernel_rfl
@[push_cast] theorem al130 (K : Value → World → Prop) (w : World) : vAlloc Try.prog 130 K w = K (.pointer (some ⟨w.heap.size, 0, none⟩)) (w.alloc (.cells #[.nilFunc] 130)) := vAlloc_ok ti130 K w
@[push_cast] theorem one130 : oneD (Try.prog.underlying 130) = true := by kernel_rfl
@[push_cast] theorem sz131 : szOf Try.prog 131 = some 1 := by kernel_rfl
theorem ti131 : (Try.prog.info? 131).map (fun i => (i.zero, i.size, i.bytes)) = some (some .nilFunc, 1, 8) := by kernel_rfl
@[push_cast] theorem al131 (K : Value → World → Prop) (w : World) : vAlloc Try.prog 131 K w = K (.pointer (some ⟨w.heap.size, 0, none⟩)) (w.alloc (.cells #[.nilFunc] 131)) := vAlloc_ok ti131 K w
@[push_cast] theorem one131 : oneD (Try.prog.underlying 131) = true := by kernel_rfl
@[push_cast] theorem sz132 : szOf Try.prog 132 = some 1 := by kernel_rfl
theorem ti132 : (Try.prog.info? 132).map (fun i => (i.zero, i.size, i.bytes)) = some (some (.int .u32 0), 1, 4) := by kernel_rfl
@[push_cast] theorem al132 (K : Value → World → Prop) (w : World) : vAlloc Try.prog 132 K w = K (.pointer (some ⟨w.heap.size, 0, none⟩)) (w.alloc (.cells #[(.int .u32 0)] 132)) := vAlloc_ok ti132 K w
attribute [push_cast] Try.underlying132
@[push_cast] theorem sz133 : szOf Try.prog 133 = some 1 := by kernel_rfl
theorem ti133 : (Try.prog.info? 133).map (fun i => (i.zero, i.size, i.bytes)) = some (some (.int .u64 0), 1, 8) := by kernel_rfl
@[push_cast] theorem al133 (K : Value → World → Prop) (w : World) : vAlloc Try.prog 133 K w = K (.pointer (some ⟨w.heap.size, 0, none⟩)) (w.alloc (.cells #[(.int .u64 0)] 133)) := vAlloc_ok ti133 K w
attribute [push_cast] Try.underlying133
@[push_cast] theorem sz134 : szOf Try.prog 134 = some 1 := by kernel_rfl
theorem ti134 : (Try.prog.info? 134).map (fun i => (i.zero, i.size, i.bytes)) = some (some .nilFunc, 1, 8) := by kernel_rfl
@[push_cast] theorem al134 (K : Value → World → Prop) (w : World) : vAlloc Try.prog 134 K w = K (.pointer (some ⟨w.heap.size, 0, none⟩)) (w.alloc (.cells #[.nilFunc] 134)) := vAlloc_ok ti134 K w
@[push_cast] theorem one134 : oneD (Try.prog.underlying 134) = true := by kernel_rfl
@[push_cast] theorem sz135 : szOf Try.prog 135 = some 1 := by kernel_rfl
theorem ti135 : (Try.prog.info? 135).map (fun i => (i.zero, i.size, i.bytes)) = some (some .nilFunc, 1, 8) := by kernel_rfl
@[push_cast] theorem al135 (K : Value → World → Prop) (w : World) : vAlloc Try.prog 135 K w = K (.pointer (some ⟨w.heap.size, 0, none⟩)) (w.alloc (.cells #[.nilFunc] 135)) := vAlloc_ok ti135 K w
@[push_cast] theorem one135 : oneD (Try.prog.underlying 135) = true := by kernel_rfl
@[push_cast] theorem sz136 : szOf Try.prog 136 = some 1 := by kernel_rfl
theorem ti136 : (Try.prog.info? 136).map (fun i => (i.zero, i.size, i.bytes)) = some (some .nilFunc, 1, 8) := by kernel_rfl
@[push_cast] theorem al136 (K : Value → World → Prop) (w : World) : vAlloc Try.prog 136 K w = K (.pointer (some ⟨w.heap.size, 0, none⟩)) (w.alloc (.cells #[.nilFunc] 136)) := vAlloc_ok ti136 K w
@[push_cast] theorem one136 : oneD (Try.prog.underlying 136) = true := by kernel_rfl
@[push_cast] theorem sz137 : szOf Try.prog 137 = some 1 := by kernel_rfl
theorem ti137 : (Try.prog.info? 137).map (fun i => (i.zero, i.size, i.bytes)) = some (some (.pointer none), 1, 8) := by kernel_rfl
@[push_cast] theorem al137 (K : Value → World → Prop) (w : World) : vAlloc Try.prog 137 K w = K (.pointer (some ⟨w.heap.size, 0, none⟩)) (w.alloc (.cells #[(.pointer none)] 137)) := vAlloc_ok ti137 K w
attribute [push_cast] Try.underlying137
@[push_cast] theorem sz138 : szOf Try.prog 138 = some 1 := by kernel_rfl
theorem ti138 : (Try.prog.info? 138).map (fun i => (i.zero, i.size, i.bytes)) = some (some .nilFunc, 1, 8) := by kernel_rfl
@[push_cast] theorem al138 (K : Value → World → Prop) (w : World) : vAlloc Try.prog 138 K w = K (.pointer (some ⟨w.heap.size, 0, none⟩)) (w.alloc (.cells #[.nilFunc] 138)) := vAlloc_ok ti138 K w
@[push_cast] theorem one138 : oneD (Try.prog.underlying 138) = true := by kernel_rfl
@[push_cast] theorem sz139 : szOf Try.prog 139 = some 1 := by kernel_rfl
theorem ti139 : (Try.prog.info? 139).map (fun i => (i.zero, i.size, i.bytes)) = some (some (.pointer none), 1, 8) := by kernel_rfl
@[push_cast] theorem al139 (K : Value → World → Prop) (w : World) : vAlloc Try.prog 139 K w = K (.pointer (some ⟨w.heap.size, 0, none⟩)) (w.alloc (.cells #[(.pointer none)] 139)) := vAlloc_ok ti139 K w
attribute [push_cast] Try.underlying139
@[push_cast] theorem sz140 : szOf Try.prog 140 = some 1 := by kernel_rfl
theorem ti140 : (Try.prog.info? 140).map (fun i => (i.zero, i.size, i.bytes)) = some (some .nilFunc, 1, 8) := by kernel_rfl
@[push_cast] theorem al140 (K : Value → World → Prop) (w : World) : vAlloc Try.prog 140 K w = K (.pointer (some ⟨w.heap.size, 0, none⟩)) (w.alloc (.cells #[.nilFunc] 140)) := vAlloc_ok ti140 K w
@[push_cast] theorem one140 : oneD (Try.prog.underlying 140) = true := by kernel_rfl
@[push_cast] theorem sz141 : szOf Try.prog 141 = some 1 := by kernel_rfl
theorem ti141 : (Try.prog.info? 141).map (fun i => (i.zero, i.size, i.bytes)) = some (some .nilFunc, 1, 8) := by kernel_rfl
@[push_cast] theorem al141 (K : Value → World → Prop) (w : World) : vAlloc Try.prog 141 K w = K (.pointer (some ⟨w.heap.size, 0, none⟩)) (w.alloc (.cells #[.nilFunc] 141)) := vAlloc_ok ti141 K w
@[push_cast] theorem one141 : oneD (Try.prog.underlying 141) = true := by kernel_rfl
@[push_cast] theorem sz142 : szOf Try.prog 142 = some 4 := by kernel_rfl
theorem ti142 : (Try.prog.info? 142).map (fun i => (i.zero, i.size, i.bytes)) = some (some (.agg #[(.pointer none), (.pointer none), (.pointer none), (.string ⟨#[]⟩)]), 4, 40) := by kernel_rfl
@[push_cast] theorem al142 (K : Value → World → Prop) (w : World) : vAlloc Try.prog 142 K w = K (.pointer (some ⟨w.heap.size, 0, none⟩)) (w.alloc (.cells #[(.pointer none), (.pointer none), (.pointer none), (.string ⟨#[]⟩)] 142)) := vAlloc_ok ti142 K w
attribute [push_cast] Try.underlying142
@[push_cast] theorem fld142_0 : fieldOf Try.prog 142 0 = some (0, 17) := by kernel_rfl
@[push_cast] theorem fld142_1 : fieldOf Try.prog 142 1 = some (1, 17) := by kernel_rfl
@[push_cast] theorem fld142_2 : fieldOf Try.prog 142 2 = some (2, 17) := by kernel_rfl
@[push_cast] theorem fld142_3 : fieldOf Try.prog 142 3 = some (3, 9) := by kernel_rfl
@[push_cast] theorem sz143 : szOf Try.prog 143 = some 4 := by kernel_rfl
theorem ti143 : (Try.prog.info? 143).map (fun i => (i.zero, i.size, i.bytes)) = some (some (.agg #[(.pointer none), (.pointer none), (.pointer none), (.string ⟨#[]⟩)]), 4, 40) := by kernel_rfl
@[push_cast] theorem al143 (K : Value → World → Prop) (w : World) : vAlloc Try.prog 143 K w = K (.pointer (some ⟨w.heap.size, 0, none⟩)) (w.alloc (.cells #[(.pointer none), (.pointer none), (.pointer none), (.string ⟨#[]⟩)] 143)) := vAlloc_ok ti143 K w
attribute [push_cast] Try.underlying143
@[push_cast] theorem fld143_0 : fieldOf Try.prog 143 0 = some (0, 17) := by kernel_rfl
@[push_cast] theorem fld143_1 : fieldOf Try.prog 143 1 = some (1, 17) := by kernel_rfl
@[push_cast] theorem fld143_2 : fieldOf Try.prog 143 2 = some (2, 17) := by kernel_rfl
@[push_cast] theorem fld143_3 : fieldOf Try.prog 143 3 = some (3, 9) := by kernel_rfl
@[push_cast] theorem sz144 : szOf Try.prog 144 = some 0 := by kernel_rfl
theorem ti144 : (Try.prog.info? 144).map (fun i => (i.zero, i.size, i.bytes)) = some (some (.agg #[]), 0, 0) := by kernel_rfl
@[push_cast] theorem al144 (K : Value → World → Prop) (w : World) : vAlloc Try.prog 144 K w = K (.pointer (some ⟨w.heap.size, 0, none⟩)) (w.alloc (.cells #[] 144)) := vAlloc_ok ti144 K w
attribute [push_cast] Try.underlying144
@[push_cast] theorem sz145 : szOf Try.prog 145 = some 0 := by kernel_rfl
theorem ti145 : (Try.prog.info? 145).map (fun i => (i.zero, i.size, i.bytes)) = some (some (.agg #[]), 0, 0) := by kernel_rfl
@[push_cast] theorem al145 (K : Value → World → Prop) (w : World) : vAlloc Try.prog 145 K w = K (.pointer (some ⟨w.heap.size, 0, none⟩)) (w.alloc (.cells #[] 145)) := vAlloc_ok ti145 K w
attribute [push_cast] Try.underlying145
@[push_cast] theorem fld145_0 : fieldOf Try.prog 145 0 = some (0, 144) := by kernel_rfl
@[push_cast] theorem sz146 : szOf Try.prog 146 = some 0 := by kernel_rfl
theorem ti146 : (Try.prog.info? 146).map (fun i => (i.zero, i.size, i.bytes)) = some (some (.agg #[]), 0, 0) := by kernel_rfl
@[push_cast] theorem al146 (K : Value → World → Prop) (w : World) : vAlloc Try.prog 146 K w = K (.pointer (some ⟨w.heap.size, 0, none⟩)) (w.alloc (.cells #[] 146)) := vAlloc_ok ti146 K w
attribute [push_cast] Try.underlying146
@[push_cast] theorem fld146_0 : fieldOf Try.prog 146 0 = some (0, 144) := by kernel_rfl
@[push_cast] theorem sz147 : szOf Try.prog 147 = some 1 := by kernel_rfl
theorem ti147 : (Try.prog.info? 147).map (fun i => (i.zero, i.size, i.bytes)) = some (some (.int .u8 0), 1, 1) := by kernel_rfl
@[push_cast] theorem al147 (K : Value → World → Prop) (w : World) : vAlloc Try.prog 147 K w = K (.pointer (some ⟨w.heap.size, 0, none⟩)) (w.alloc (.cells #[(.int .u8 0)] 147)) := vAlloc_ok ti147 K w
attribute [push_cast] Try.underlying147
@[push_cast] theorem sz148 : szOf Try.prog 148 = some 1 := by kernel_rfl
theorem ti148 : (Try.prog.info? 148).map (fun i => (i.zero, i.size, i.bytes)) = some (some (.int .u8 0), 1, 1) := by kernel_rfl
@[push_cast] theorem al148 (K : Value → World → Prop) (w : World) : vAlloc Try.prog 148 K w = K (.pointer (some ⟨w.heap.size, 0, none⟩)) (w.alloc (.cells #[(.int .u8 0)] 148)) := vAlloc_ok ti148 K w
attribute [push_cast] Try.underlying148
@[push_cast] theorem sz149 : szOf Try.prog 149 = some 1 := by kernel_rfl
theorem ti149 : (Try.prog.info? 149).map (fun i => (i.zero, i.size, i.bytes)) = some (some .nilFunc, 1, 8) := by kernel_rfl
@[push_cast] theorem al149 (K : Value → World → Prop) (w : World) : vAlloc Try.prog 149 K w = K (.pointer (some ⟨w.heap.size, 0, none⟩)) (w.alloc (.cells #[.nilFunc] 149)) := vAlloc_ok ti149 K w
@[push_cast] theorem one149 : oneD (Try.prog.underlying 149) = true := by kernel_rfl
@[push_cast] theorem sz150 : szOf Try.prog 150 = some 1 := by kernel_rfl
theorem ti150 : (Try.prog.info? 150).map (fun i => (i.zero, i.size, i.bytes)) = some (some (.pointer none), 1, 8) := by kernel_rfl
@[push_cast] theorem al150 (K : Value → World → Prop) (w : World) : vAlloc Try.prog 150 K w = K (.pointer (some ⟨w.heap.size, 0, none⟩)) (w.alloc (.cells #[(.pointer none)] 150)) := vAlloc_ok ti150 K w
attribute [push_cast] Try.underlying150
@[push_cast] theorem sz151 : szOf Try.prog 151 = some 1 := by kernel_rfl
theorem ti151 : (Try.prog.info? 151).map (fun i => (i.zero, i.size, i.bytes)) = some (some (.int .i32 0), 1, 4) := by kernel_rfl
@[push_cast] theorem al151 (K : Value → World → Prop) (w : World) : vAlloc Try.prog 151 K w = K (.pointer (some ⟨w.heap.size, 0, none⟩)) (w.alloc (.cells #[(.int .i32 0)] 151)) := vAlloc_ok ti151 K w
attribute [push_cast] Try.underlying151
@[push_cast] theorem sz152 : szOf Try.prog 152 = some 1 := by kernel_rfl
theorem ti152 : (Try.prog.info? 152).map (fun i => (i.zero, i.size, i.bytes)) = some (some (.int .i32 0), 1, 4) := by kernel_rfl
@[push_cast] theorem al152 (K : Value → World → Prop) (w : World) : vAlloc Try.prog 152 K w = K (.pointer (some ⟨w.heap.size, 0, none⟩)) (w.alloc (.cells #[(.int .i32 0)] 152)) := vAlloc_ok ti152 K w
attribute [push_cast] Try.underlying152
@[push_cast] theorem sz153 : szOf Try.prog 153 = some 11 := by kernel_rfl
theorem ti153 : (Try.prog.info? 153).map (fun i => (i.zero, i.size, i.bytes)) = some (some (.agg #[(.int .u64 0), (.int .u64 0), (.int .u32 0), (.int .u8 0), (.int .u8 0), (.int .u8 0), (.int .u8 0), .nilFunc, (.pointer none), (.int .i32 0), (.int .i32 0)]), 11, 48) := by kernel_rfl
@[push_cast] theorem al153 (K : Value → World → Prop) (w : World) : vAlloc Try.prog 153 K w = K (.pointer (some ⟨w.heap.size, 0, none⟩)) (w.alloc (.cells #[(.int .u64 0), (.int .u64 0), (.int .u32 0), (.int .u8 0), (.int .u8 0), (.int .u8 0), (.int .u8 0), .nilFunc, (.pointer none), (.int .i32 0), (.int .i32 0)] 153)) := vAlloc_ok ti153 K w
attribute [push_cast] Try.underlying153
@[push_cast] theorem fld153_0 : fieldOf Try.prog 153 0 = some (0, 12) := by kernel_rfl
@[push_cast] theorem fld153_1 : fieldOf Try.prog 153 1 = some (1, 12) := by kernel_rfl
@[push_cast] theorem fld153_2 : fieldOf Try.prog 153 2 = some (2, 132) := by kernel_rfl
@[push_cast] theorem fld153_3 : fieldOf Try.prog 153 3 = some (3, 147) := by kernel_rfl
@[push_cast] theorem fld153_4 : fieldOf Try.prog 153 4 = some (4, 5) := by kernel_rfl
@[push_cast] theorem fld153_5 : fieldOf Try.prog 153 5 = some (5, 5) := by kernel_rfl
@[push_cast] theorem fld153_6 : fieldOf Try.prog 153 6 = some (6, 148) := by kernel_rfl
@[push_cast] theorem fld153_7 : fieldOf Try.prog 153 7 = some (7, 149) := by kernel_rfl
@[push_cast] theorem fld153_8 : fieldOf Try.prog 153 8 = some (8, 150) := by kernel_rfl
@[push_cast] theorem fld153_9 : fieldOf Try.prog 153 9 = some (9, 151) := by kernel_rfl
@[push_cast] theorem fld153_10 : fieldOf Try.prog 153 10 = some (10, 152) := by kernel_rfl
@[push_cast] theorem sz154 : szOf Try.prog 154 = some 11 := by kernel_rfl
theorem ti154 : (Try.prog.info? 154).map (fun i => (i.zero, i.size, i.bytes)) = some (some (.agg #[(.int .u64 0), (.int .u64 0), (.int .u32 0), (.int .u8 0), (.int .u8 0), (.int .u8 0), (.int .u8 0), .nilFunc, (.pointer none), (.int .i32 0), (.int .i32 0)]), 11, 48) := by kernel_rfl
@[push_cast] theorem al154 (K : Value → World → Prop) (w : World) : vAlloc Try.prog 154 K w = K (.pointer (some ⟨w.heap.size, 0, none⟩)) (w.alloc (.cells #[(.int .u64 0), (.int .u64 0), (.int .u32 0), (.int .u8 0), (.int .u8 0), (.int .u8 0), (.int .u8 0), .nilFunc, (.pointer none), (.int .i32 0), (.int .i32 0)] 154)) := vAlloc_ok ti154 K w
attribute [push_cast] Try.underlying154
@[push_cast] theorem fld154_0 : fieldOf Try.prog 154 0 = some (0, 12) := by kernel_rfl
@[push_cast] theorem fld154_1 : fieldOf Try.prog 154 1 = some (1, 12) := by kernel_rfl
@[push_cast] theorem fld154_2 : fieldOf Try.prog 154 2 = some (2, 132) := by kernel_rfl
@[push_cast] theorem fld154_3 : fieldOf Try.prog 154 3 = some (3, 147) := by kernel_rfl
@[push_cast] theorem fld154_4 : fieldOf Try.prog 154 4 = some (4, 5) := by kernel_rfl
@[push_cast] theorem fld154_5 : fieldOf Try.prog 154 5 = some (5, 5) := by kernel_rfl
@[push_cast] theorem fld154_6 : fieldOf Try.prog 154 6 = some (6, 148) := by kernel_rfl
@[push_cast] theorem fld154_7 : fieldOf Try.prog 154 7 = some (7, 149) := by kernel_rfl
@[push_cast] theorem fld154_8 : fieldOf Try.prog 154 8 = some (8, 150) := by kernel_rfl
@[push_cast] theorem fld154_9 : fieldOf Try.prog 154 9 = some (9, 151) := by kernel_rfl
@[push_cast] theorem fld154_10 : fieldOf Try.prog 154 10 = some (10, 152) := by kernel_rfl
@[push_cast] theorem sz155 : szOf Try.prog 155 = some 1 := by kernel_rfl
theorem ti155 : (Try.prog.info? 155).map (fun i => (i.zero, i.size, i.bytes)) = some (some (.pointer none), 1, 8) := by kernel_rfl
@[push_cast] theorem al155 (K : Value → World → Prop) (w : World) : vAlloc Try.prog 155 K w = K (.pointer (some ⟨w.heap.size, 0, none⟩)) (w.alloc (.cells #[(.pointer none)] 155)) := vAlloc_ok ti155 K w
@[push_cast] theorem one155 : oneD (Try.prog.underlying 155) = true := by kernel_rfl
end Go.Proofs.Ytfeocfcclmndoaa
