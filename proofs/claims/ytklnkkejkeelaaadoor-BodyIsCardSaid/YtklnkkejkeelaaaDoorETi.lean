/- ETi, EvP. -/
import Derived.Test.YtklnkkejkeelaaaDoorProg
import Derived.Test.YtklnkkejkeelaaaDoorEvT
import Derived.KernelRfl
import Derived.Test.YtklnkkejkeelaaaDoorEvSb
set_option linter.unnecessarySimpa false
set_option linter.unusedSimpArgs false
set_option linter.unusedVariables false
/- What the types of the program are to the reading. Printed by gti.py, a tool of this work; each fact is checked by the kernel. -/
set_option maxRecDepth 100000
namespace Go.Proofs.YtklnkkejkeelaaaDoor.E
open Go.Ev
theorem ti1 : tiOf Tryd.prog 1 = some ⟨1, false, 8, [.nilfn], .func⟩ := by kernel_rfl
theorem ti2 : tiOf Tryd.prog 2 = some ⟨1, false, 8, [.d (.int .i64 0)], .int .i64⟩ := by kernel_rfl
theorem ti3 : tiOf Tryd.prog 3 = some ⟨1, false, 8, [.d (.int .i64 0)], .int .i64⟩ := by kernel_rfl
theorem ti4 : tiOf Tryd.prog 4 = some ⟨1, false, 1, [.d (.bool false)], .bool⟩ := by kernel_rfl
theorem ti5 : tiOf Tryd.prog 5 = some ⟨1, false, 1, [.d (.int .u8 0)], .int .u8⟩ := by kernel_rfl
theorem ti6 : tiOf Tryd.prog 6 = some ⟨1, false, 1, [.d (.int .u8 0)], .int .u8⟩ := by kernel_rfl
theorem ti7 : tiOf Tryd.prog 7 = some ⟨4, true, 24, [.d (.int .i64 0), .d (.int .i64 0), .d (.bool false), .d (.int .u8 0)], .struct [(0, 1), (1, 1), (2, 1), (3, 1)]⟩ := by kernel_rfl
theorem ti8 : tiOf Tryd.prog 8 = some ⟨4, true, 24, [.d (.int .i64 0), .d (.int .i64 0), .d (.bool false), .d (.int .u8 0)], .struct [(0, 1), (1, 1), (2, 1), (3, 1)]⟩ := by kernel_rfl
theorem ti9 : tiOf Tryd.prog 9 = some ⟨1, false, 16, [.d (.str [])], .str⟩ := by kernel_rfl
theorem ti10 : tiOf Tryd.prog 10 = some ⟨1, false, 16, [.d (.str [])], .str⟩ := by kernel_rfl
theorem ti11 : tiOf Tryd.prog 11 = some ⟨1, false, 16, [.d (.str [])], .str⟩ := by kernel_rfl
theorem ti12 : tiOf Tryd.prog 12 = some ⟨1, false, 8, [.d (.int .u64 0)], .int .u64⟩ := by kernel_rfl
theorem ti13 : tiOf Tryd.prog 13 = some ⟨2, true, 24, [.d (.str []), .d (.int .u64 0)], .struct [(0, 1), (1, 1)]⟩ := by kernel_rfl
theorem ti14 : tiOf Tryd.prog 14 = some ⟨2, true, 24, [.d (.str []), .d (.int .u64 0)], .struct [(0, 1), (1, 1)]⟩ := by kernel_rfl
theorem ti15 : tiOf Tryd.prog 15 = some ⟨1, false, 8, [.nilp], .ptr 138⟩ := by kernel_rfl
theorem ti16 : tiOf Tryd.prog 16 = some ⟨1, false, 8, [.nilp], .ptr 141⟩ := by kernel_rfl
theorem ti17 : tiOf Tryd.prog 17 = some ⟨1, false, 8, [.nilp], .ptr 149⟩ := by kernel_rfl
theorem ti18 : tiOf Tryd.prog 18 = some ⟨1, true, 8, [.nilp], .struct [(0, 1)]⟩ := by kernel_rfl
theorem ti19 : tiOf Tryd.prog 19 = some ⟨1, true, 8, [.nilp], .struct [(0, 1)]⟩ := by kernel_rfl
theorem ti20 : tiOf Tryd.prog 20 = some ⟨1, false, 16, [.dead], .other⟩ := by kernel_rfl
theorem ti21 : tiOf Tryd.prog 21 = some ⟨1, false, 4, [.d (.int .i32 0)], .int .i32⟩ := by kernel_rfl
theorem ti22 : tiOf Tryd.prog 22 = some ⟨1, false, 24, [.nilsl], .slice 33⟩ := by kernel_rfl
theorem ti23 : tiOf Tryd.prog 23 = some ⟨1, false, 8, [.nilfn], .func⟩ := by kernel_rfl
theorem ti24 : tiOf Tryd.prog 24 = some ⟨1, false, 8, [.nilfn], .func⟩ := by kernel_rfl
theorem ti25 : tiOf Tryd.prog 25 = some ⟨1, false, 24, [.nilsl], .slice 35⟩ := by kernel_rfl
theorem ti27 : tiOf Tryd.prog 27 = some ⟨1, false, 8, [.nilfn], .func⟩ := by kernel_rfl
theorem ti28 : tiOf Tryd.prog 28 = some ⟨1, false, 24, [.nilsl], .slice 3⟩ := by kernel_rfl
theorem ti29 : tiOf Tryd.prog 29 = some ⟨1, false, 8, [.nilfn], .func⟩ := by kernel_rfl
theorem ti30 : tiOf Tryd.prog 30 = some ⟨1, false, 8, [.nilfn], .func⟩ := by kernel_rfl
theorem ti31 : tiOf Tryd.prog 31 = some ⟨1, false, 8, [.d (.int .u64 0)], .int .u64⟩ := by kernel_rfl
theorem ti32 : tiOf Tryd.prog 32 = some ⟨5, true, 56, [.d (.int .i64 0), .d (.int .i64 0), .d (.int .i64 0), .d (.int .u64 0), .nilsl], .struct [(0, 1), (1, 1), (2, 1), (3, 1), (4, 1)]⟩ := by kernel_rfl
theorem ti33 : tiOf Tryd.prog 33 = some ⟨5, true, 56, [.d (.int .i64 0), .d (.int .i64 0), .d (.int .i64 0), .d (.int .u64 0), .nilsl], .struct [(0, 1), (1, 1), (2, 1), (3, 1), (4, 1)]⟩ := by kernel_rfl
theorem ti34 : tiOf Tryd.prog 34 = some ⟨2, true, 16, [.d (.int .i64 0), .d (.int .i64 0)], .struct [(0, 1), (1, 1)]⟩ := by kernel_rfl
theorem ti35 : tiOf Tryd.prog 35 = some ⟨2, true, 16, [.d (.int .i64 0), .d (.int .i64 0)], .struct [(0, 1), (1, 1)]⟩ := by kernel_rfl
theorem ti37 : tiOf Tryd.prog 37 = some ⟨1, false, 8, [.nilfn], .func⟩ := by kernel_rfl
theorem ti38 : tiOf Tryd.prog 38 = some ⟨1, false, 8, [.nilfn], .func⟩ := by kernel_rfl
theorem ti39 : tiOf Tryd.prog 39 = some ⟨1, false, 8, [.nilfn], .func⟩ := by kernel_rfl
theorem ti40 : tiOf Tryd.prog 40 = some ⟨1, false, 8, [.nilfn], .func⟩ := by kernel_rfl
theorem ti41 : tiOf Tryd.prog 41 = some ⟨1, false, 24, [.nilsl], .slice 5⟩ := by kernel_rfl
theorem ti42 : tiOf Tryd.prog 42 = some ⟨1, false, 8, [.nilfn], .func⟩ := by kernel_rfl
theorem ti43 : tiOf Tryd.prog 43 = some ⟨1, false, 8, [.d (.int .i64 0)], .int .i64⟩ := by kernel_rfl
theorem ti45 : tiOf Tryd.prog 45 = some ⟨1, false, 8, [.nilfn], .func⟩ := by kernel_rfl
theorem ti47 : tiOf Tryd.prog 47 = some ⟨1, false, 8, [.nilfn], .func⟩ := by kernel_rfl
theorem ti48 : tiOf Tryd.prog 48 = some ⟨1, false, 8, [.nilfn], .func⟩ := by kernel_rfl
theorem ti49 : tiOf Tryd.prog 49 = some ⟨1, false, 8, [.nilfn], .func⟩ := by kernel_rfl
theorem ti50 : tiOf Tryd.prog 50 = some ⟨1, false, 8, [.nilfn], .func⟩ := by kernel_rfl
theorem ti51 : tiOf Tryd.prog 51 = some ⟨1, false, 8, [.nilfn], .func⟩ := by kernel_rfl
theorem ti53 : tiOf Tryd.prog 53 = some ⟨1, false, 8, [.nilfn], .func⟩ := by kernel_rfl
theorem ti54 : tiOf Tryd.prog 54 = some ⟨1, false, 8, [.nilfn], .func⟩ := by kernel_rfl
theorem ti56 : tiOf Tryd.prog 56 = some ⟨1, false, 8, [.nilfn], .func⟩ := by kernel_rfl
theorem ti57 : tiOf Tryd.prog 57 = some ⟨1, false, 8, [.nilfn], .func⟩ := by kernel_rfl
theorem ti58 : tiOf Tryd.prog 58 = some ⟨1, false, 8, [.nilfn], .func⟩ := by kernel_rfl
theorem ti60 : tiOf Tryd.prog 60 = some ⟨1, false, 8, [.nilfn], .func⟩ := by kernel_rfl
theorem ti61 : tiOf Tryd.prog 61 = some ⟨1, false, 8, [.nilfn], .func⟩ := by kernel_rfl
theorem ti62 : tiOf Tryd.prog 62 = some ⟨1, false, 24, [.nilsl], .slice 106⟩ := by kernel_rfl
theorem ti64 : tiOf Tryd.prog 64 = some ⟨1, false, 8, [.nilfn], .func⟩ := by kernel_rfl
theorem ti65 : tiOf Tryd.prog 65 = some ⟨1, false, 8, [.nilfn], .func⟩ := by kernel_rfl
theorem ti66 : tiOf Tryd.prog 66 = some ⟨1, false, 8, [.nilfn], .func⟩ := by kernel_rfl
theorem ti67 : tiOf Tryd.prog 67 = some ⟨1, false, 8, [.nilfn], .func⟩ := by kernel_rfl
theorem ti68 : tiOf Tryd.prog 68 = some ⟨1, false, 8, [.nilfn], .func⟩ := by kernel_rfl
theorem ti69 : tiOf Tryd.prog 69 = some ⟨1, false, 8, [.nilfn], .func⟩ := by kernel_rfl
theorem ti70 : tiOf Tryd.prog 70 = some ⟨2, true, 16, [.d (.int .i64 0), .d (.int .i64 0)], .struct [(0, 1), (1, 1)]⟩ := by kernel_rfl
theorem ti71 : tiOf Tryd.prog 71 = some ⟨2, true, 16, [.d (.int .i64 0), .d (.int .i64 0)], .struct [(0, 1), (1, 1)]⟩ := by kernel_rfl
theorem ti72 : tiOf Tryd.prog 72 = some ⟨1, false, 8, [.nilfn], .func⟩ := by kernel_rfl
theorem ti73 : tiOf Tryd.prog 73 = some ⟨1, false, 8, [.nilfn], .func⟩ := by kernel_rfl
theorem ti74 : tiOf Tryd.prog 74 = some ⟨1, false, 8, [.nilfn], .func⟩ := by kernel_rfl
theorem ti75 : tiOf Tryd.prog 75 = some ⟨1, false, 8, [.nilfn], .func⟩ := by kernel_rfl
theorem ti76 : tiOf Tryd.prog 76 = some ⟨1, false, 8, [.nilfn], .func⟩ := by kernel_rfl
theorem ti77 : tiOf Tryd.prog 77 = some ⟨1, false, 8, [.nilfn], .func⟩ := by kernel_rfl
theorem ti78 : tiOf Tryd.prog 78 = some ⟨1, false, 8, [.nilp], .ptr 80⟩ := by kernel_rfl
theorem ti79 : tiOf Tryd.prog 79 = some ⟨3, true, 40, [.nilsl, .d (.int .i64 0), .d (.int .i64 0)], .struct [(0, 1), (1, 1), (2, 1)]⟩ := by kernel_rfl
theorem ti80 : tiOf Tryd.prog 80 = some ⟨3, true, 40, [.nilsl, .d (.int .i64 0), .d (.int .i64 0)], .struct [(0, 1), (1, 1), (2, 1)]⟩ := by kernel_rfl
theorem ti81 : tiOf Tryd.prog 81 = some ⟨1, false, 8, [.nilfn], .func⟩ := by kernel_rfl
theorem ti82 : tiOf Tryd.prog 82 = some ⟨1, false, 8, [.nilfn], .func⟩ := by kernel_rfl
theorem ti83 : tiOf Tryd.prog 83 = some ⟨1, false, 8, [.nilfn], .func⟩ := by kernel_rfl
theorem ti84 : tiOf Tryd.prog 84 = some ⟨1, false, 4, [.d (.int .u32 0)], .int .u32⟩ := by kernel_rfl
theorem ti85 : tiOf Tryd.prog 85 = some ⟨1, false, 8, [.nilfn], .func⟩ := by kernel_rfl
theorem ti86 : tiOf Tryd.prog 86 = some ⟨3, true, 24, [.d (.int .i64 0), .d (.int .i64 0), .d (.int .i64 0)], .struct [(0, 1), (1, 1), (2, 1)]⟩ := by kernel_rfl
theorem ti87 : tiOf Tryd.prog 87 = some ⟨3, true, 24, [.d (.int .i64 0), .d (.int .i64 0), .d (.int .i64 0)], .struct [(0, 1), (1, 1), (2, 1)]⟩ := by kernel_rfl
theorem ti88 : tiOf Tryd.prog 88 = some ⟨63, true, 504, [.d (.int .i64 0), .d (.int .i64 0), .d (.int .i64 0), .d (.int .i64 0), .d (.int .i64 0), .d (.int .i64 0), .d (.int .i64 0), .d (.int .i64 0), .d (.int .i64 0), .d (.int .i64 0), .d (.int .i64 0), .d (.int .i64 0), .d (.int .i64 0), .d (.int .i64 0), .d (.int .i64 0), .d (.int .i64 0), .d (.int .i64 0), .d (.int .i64 0), .d (.int .i64 0), .d (.int .i64 0), .d (.int .i64 0), .d (.int .i64 0), .d (.int .i64 0), .d (.int .i64 0), .d (.int .i64 0), .d (.int .i64 0), .d (.int .i64 0), .d (.int .i64 0), .d (.int .i64 0), .d (.int .i64 0), .d (.int .i64 0), .d (.int .i64 0), .d (.int .i64 0), .d (.int .i64 0), .d (.int .i64 0), .d (.int .i64 0), .d (.int .i64 0), .d (.int .i64 0), .d (.int .i64 0), .d (.int .i64 0), .d (.int .i64 0), .d (.int .i64 0), .d (.int .i64 0), .d (.int .i64 0), .d (.int .i64 0), .d (.int .i64 0), .d (.int .i64 0), .d (.int .i64 0), .d (.int .i64 0), .d (.int .i64 0), .d (.int .i64 0), .d (.int .i64 0), .d (.int .i64 0), .d (.int .i64 0), .d (.int .i64 0), .d (.int .i64 0), .d (.int .i64 0), .d (.int .i64 0), .d (.int .i64 0), .d (.int .i64 0), .d (.int .i64 0), .d (.int .i64 0), .d (.int .i64 0)], .arr 21 87⟩ := by kernel_rfl
theorem ti89 : tiOf Tryd.prog 89 = some ⟨1, false, 8, [.nilp], .ptr 91⟩ := by kernel_rfl
theorem ti90 : tiOf Tryd.prog 90 = some ⟨3, true, 40, [.nilsl, .d (.int .i64 0), .d (.int .i64 0)], .struct [(0, 1), (1, 1), (2, 1)]⟩ := by kernel_rfl
theorem ti91 : tiOf Tryd.prog 91 = some ⟨3, true, 40, [.nilsl, .d (.int .i64 0), .d (.int .i64 0)], .struct [(0, 1), (1, 1), (2, 1)]⟩ := by kernel_rfl
theorem ti92 : tiOf Tryd.prog 92 = some ⟨1, false, 8, [.nilfn], .func⟩ := by kernel_rfl
theorem ti93 : tiOf Tryd.prog 93 = some ⟨1, false, 8, [.nilfn], .func⟩ := by kernel_rfl
theorem ti94 : tiOf Tryd.prog 94 = some ⟨4, true, 24, [.d (.int .u8 0), .d (.int .i64 0), .d (.bool false), .d (.bool false)], .struct [(0, 1), (1, 1), (2, 1), (3, 1)]⟩ := by kernel_rfl
theorem ti95 : tiOf Tryd.prog 95 = some ⟨4, true, 24, [.d (.int .u8 0), .d (.int .i64 0), .d (.bool false), .d (.bool false)], .struct [(0, 1), (1, 1), (2, 1), (3, 1)]⟩ := by kernel_rfl
theorem ti96 : tiOf Tryd.prog 96 = some ⟨92, true, 552, [.d (.int .u8 0), .d (.int .i64 0), .d (.bool false), .d (.bool false), .d (.int .u8 0), .d (.int .i64 0), .d (.bool false), .d (.bool false), .d (.int .u8 0), .d (.int .i64 0), .d (.bool false), .d (.bool false), .d (.int .u8 0), .d (.int .i64 0), .d (.bool false), .d (.bool false), .d (.int .u8 0), .d (.int .i64 0), .d (.bool false), .d (.bool false), .d (.int .u8 0), .d (.int .i64 0), .d (.bool false), .d (.bool false), .d (.int .u8 0), .d (.int .i64 0), .d (.bool false), .d (.bool false), .d (.int .u8 0), .d (.int .i64 0), .d (.bool false), .d (.bool false), .d (.int .u8 0), .d (.int .i64 0), .d (.bool false), .d (.bool false), .d (.int .u8 0), .d (.int .i64 0), .d (.bool false), .d (.bool false), .d (.int .u8 0), .d (.int .i64 0), .d (.bool false), .d (.bool false), .d (.int .u8 0), .d (.int .i64 0), .d (.bool false), .d (.bool false), .d (.int .u8 0), .d (.int .i64 0), .d (.bool false), .d (.bool false), .d (.int .u8 0), .d (.int .i64 0), .d (.bool false), .d (.bool false), .d (.int .u8 0), .d (.int .i64 0), .d (.bool false), .d (.bool false), .d (.int .u8 0), .d (.int .i64 0), .d (.bool false), .d (.bool false), .d (.int .u8 0), .d (.int .i64 0), .d (.bool false), .d (.bool false), .d (.int .u8 0), .d (.int .i64 0), .d (.bool false), .d (.bool false), .d (.int .u8 0), .d (.int .i64 0), .d (.bool false), .d (.bool false), .d (.int .u8 0), .d (.int .i64 0), .d (.bool false), .d (.bool false), .d (.int .u8 0), .d (.int .i64 0), .d (.bool false), .d (.bool false), .d (.int .u8 0), .d (.int .i64 0), .d (.bool false), .d (.bool false), .d (.int .u8 0), .d (.int .i64 0), .d (.bool false), .d (.bool false)], .arr 23 95⟩ := by kernel_rfl
theorem ti97 : tiOf Tryd.prog 97 = some ⟨1, false, 8, [.nilfn], .func⟩ := by kernel_rfl
theorem ti98 : tiOf Tryd.prog 98 = some ⟨1, false, 8, [.nilp], .ptr 101⟩ := by kernel_rfl
theorem ti99 : tiOf Tryd.prog 99 = some ⟨1, false, 24, [.nilsl], .slice 71⟩ := by kernel_rfl
theorem ti100 : tiOf Tryd.prog 100 = some ⟨1, true, 24, [.nilsl], .struct [(0, 1)]⟩ := by kernel_rfl
theorem ti101 : tiOf Tryd.prog 101 = some ⟨1, true, 24, [.nilsl], .struct [(0, 1)]⟩ := by kernel_rfl
theorem ti103 : tiOf Tryd.prog 103 = some ⟨1, false, 8, [.nilfn], .func⟩ := by kernel_rfl
theorem ti104 : tiOf Tryd.prog 104 = some ⟨1, false, 8, [.nilfn], .func⟩ := by kernel_rfl
theorem ti105 : tiOf Tryd.prog 105 = some ⟨1, false, 24, [.nilsl], .slice 4⟩ := by kernel_rfl
theorem ti106 : tiOf Tryd.prog 106 = some ⟨2, true, 16, [.d (.int .i64 0), .d (.int .i64 0)], .struct [(0, 1), (1, 1)]⟩ := by kernel_rfl
theorem ti108 : tiOf Tryd.prog 108 = some ⟨1, false, 8, [.nilfn], .func⟩ := by kernel_rfl
theorem ti109 : tiOf Tryd.prog 109 = some ⟨1, false, 8, [.nilfn], .func⟩ := by kernel_rfl
theorem ti110 : tiOf Tryd.prog 110 = some ⟨1, false, 8, [.d (.int .u64 0)], .int .u64⟩ := by kernel_rfl
theorem ti112 : tiOf Tryd.prog 112 = some ⟨1, false, 8, [.nilfn], .func⟩ := by kernel_rfl
theorem ti113 : tiOf Tryd.prog 113 = some ⟨1, false, 8, [.nilfn], .func⟩ := by kernel_rfl
theorem ti114 : tiOf Tryd.prog 114 = some ⟨1, false, 8, [.nilfn], .func⟩ := by kernel_rfl
theorem ti116 : tiOf Tryd.prog 116 = some ⟨1, false, 8, [.nilfn], .func⟩ := by kernel_rfl
theorem ti118 : tiOf Tryd.prog 118 = some ⟨1, false, 8, [.nilfn], .func⟩ := by kernel_rfl
theorem ti119 : tiOf Tryd.prog 119 = some ⟨1, false, 8, [.nilfn], .func⟩ := by kernel_rfl
theorem ti120 : tiOf Tryd.prog 120 = some ⟨1, false, 8, [.nilfn], .func⟩ := by kernel_rfl
theorem ti121 : tiOf Tryd.prog 121 = some ⟨1, false, 8, [.nilfn], .func⟩ := by kernel_rfl
theorem ti122 : tiOf Tryd.prog 122 = some ⟨1, false, 8, [.nilfn], .func⟩ := by kernel_rfl
theorem ti123 : tiOf Tryd.prog 123 = some ⟨1, false, 8, [.nilfn], .func⟩ := by kernel_rfl
theorem ti125 : tiOf Tryd.prog 125 = some ⟨1, false, 8, [.nilfn], .func⟩ := by kernel_rfl
theorem ti127 : tiOf Tryd.prog 127 = some ⟨1, false, 8, [.nilfn], .func⟩ := by kernel_rfl
theorem ti129 : tiOf Tryd.prog 129 = some ⟨1, false, 8, [.nilfn], .func⟩ := by kernel_rfl
theorem ti130 : tiOf Tryd.prog 130 = some ⟨1, false, 8, [.nilfn], .func⟩ := by kernel_rfl
theorem ti131 : tiOf Tryd.prog 131 = some ⟨1, false, 8, [.nilfn], .func⟩ := by kernel_rfl
theorem ti132 : tiOf Tryd.prog 132 = some ⟨1, false, 8, [.nilp], .ptr 3⟩ := by kernel_rfl
theorem ti135 : tiOf Tryd.prog 135 = some ⟨1, false, 8, [.nilfn], .func⟩ := by kernel_rfl
theorem ti136 : tiOf Tryd.prog 136 = some ⟨1, false, 8, [.nilfn], .func⟩ := by kernel_rfl
theorem ti137 : tiOf Tryd.prog 137 = some ⟨4, true, 40, [.nilp, .nilp, .nilp, .d (.str [])], .struct [(0, 1), (1, 1), (2, 1), (3, 1)]⟩ := by kernel_rfl
theorem ti138 : tiOf Tryd.prog 138 = some ⟨4, true, 40, [.nilp, .nilp, .nilp, .d (.str [])], .struct [(0, 1), (1, 1), (2, 1), (3, 1)]⟩ := by kernel_rfl
theorem ti139 : tiOf Tryd.prog 139 = some ⟨0, true, 0, [], .arr 0 16⟩ := by kernel_rfl
theorem ti140 : tiOf Tryd.prog 140 = some ⟨0, true, 0, [], .struct [(0, 0)]⟩ := by kernel_rfl
theorem ti141 : tiOf Tryd.prog 141 = some ⟨0, true, 0, [], .struct [(0, 0)]⟩ := by kernel_rfl
theorem ti142 : tiOf Tryd.prog 142 = some ⟨1, false, 1, [.d (.int .u8 0)], .int .u8⟩ := by kernel_rfl
theorem ti143 : tiOf Tryd.prog 143 = some ⟨1, false, 1, [.d (.int .u8 0)], .int .u8⟩ := by kernel_rfl
theorem ti144 : tiOf Tryd.prog 144 = some ⟨1, false, 8, [.nilfn], .func⟩ := by kernel_rfl
theorem ti145 : tiOf Tryd.prog 145 = some ⟨1, false, 8, [.nilp], .ptr 5⟩ := by kernel_rfl
theorem ti146 : tiOf Tryd.prog 146 = some ⟨1, false, 4, [.d (.int .i32 0)], .int .i32⟩ := by kernel_rfl
theorem ti147 : tiOf Tryd.prog 147 = some ⟨1, false, 4, [.d (.int .i32 0)], .int .i32⟩ := by kernel_rfl
theorem ti148 : tiOf Tryd.prog 148 = some ⟨11, true, 48, [.d (.int .u64 0), .d (.int .u64 0), .d (.int .u32 0), .d (.int .u8 0), .d (.int .u8 0), .d (.int .u8 0), .d (.int .u8 0), .nilfn, .nilp, .d (.int .i32 0), .d (.int .i32 0)], .struct [(0, 1), (1, 1), (2, 1), (3, 1), (4, 1), (5, 1), (6, 1), (7, 1), (8, 1), (9, 1), (10, 1)]⟩ := by kernel_rfl
theorem ti149 : tiOf Tryd.prog 149 = some ⟨11, true, 48, [.d (.int .u64 0), .d (.int .u64 0), .d (.int .u32 0), .d (.int .u8 0), .d (.int .u8 0), .d (.int .u8 0), .d (.int .u8 0), .nilfn, .nilp, .d (.int .i32 0), .d (.int .i32 0)], .struct [(0, 1), (1, 1), (2, 1), (3, 1), (4, 1), (5, 1), (6, 1), (7, 1), (8, 1), (9, 1), (10, 1)]⟩ := by kernel_rfl
theorem ti150 : tiOf Tryd.prog 150 = some ⟨1, false, 8, [.nilp], .other⟩ := by kernel_rfl
attribute [go_sem] ti1 ti2 ti3 ti4 ti5 ti6 ti7 ti8 ti9 ti10 ti11 ti12 ti13 ti14 ti15 ti16 ti17 ti18 ti19 ti20 ti21 ti22 ti23 ti24 ti25 ti27 ti28 ti29 ti30 ti31 ti32 ti33 ti34 ti35 ti37 ti38 ti39 ti40 ti41 ti42 ti43 ti45 ti47 ti48 ti49 ti50 ti51 ti53 ti54 ti56 ti57 ti58 ti60 ti61 ti62 ti64 ti65 ti66 ti67 ti68 ti69 ti70 ti71 ti72 ti73 ti74 ti75 ti76 ti77 ti78 ti79 ti80 ti81 ti82 ti83 ti84 ti85 ti86 ti87 ti88 ti89 ti90 ti91 ti92 ti93 ti94 ti95 ti96 ti97 ti98 ti99 ti100 ti101 ti103 ti104 ti105 ti106 ti108 ti109 ti110 ti112 ti113 ti114 ti116 ti118 ti119 ti120 ti121 ti122 ti123 ti125 ti127 ti129 ti130 ti131 ti132 ti135 ti136 ti137 ti138 ti139 ti140 ti141 ti142 ti143 ti144 ti145 ti146 ti147 ti148 ti149 ti150
end Go.Proofs.YtklnkkejkeelaaaDoor.E

/- The configuration of the program's reading: printed by mkP.py, a tool of this work. -/
set_option autoImplicit false
namespace Go.Proofs.YtklnkkejkeelaaaDoor.E
open Go.Ev
def keepTab : Map (List Nat) := [(3030, [0, 3, 4, 6, 7, 8]), (3031, [0, 3, 4, 6, 7]), (3032, [2]), (3057, [0, 3, 4, 6, 7, 8, 9]), (3058, [0, 3, 4, 6, 7, 8]), (3059, [2]), (5039, [0, 1, 5, 6, 7, 8, 9]), (5040, [0, 1, 5, 6, 7]), (5041, [4]), (9021, [0, 3, 4, 5, 6]), (9022, [3, 4, 5]), (9023, [2]), (9051, [3, 4, 5, 9, 10]), (9052, [3, 4, 9]), (9053, [2]), (16012, [0, 5]), (16013, []), (16014, [4]), (20018, [0, 1, 8, 10, 11]), (20019, [0, 10]), (20020, [6, 7]), (21012, [0, 1, 5]), (21013, []), (21014, [4]), (24030, [3, 6, 40, 41, 42]), (24031, [3, 6]), (24032, [4, 5]), (28006, [0, 5, 6]), (28007, []), (28008, [2]), (30045, [3, 6, 7]), (30046, [3, 6]), (30047, [4, 5]), (33012, [2, 3, 5]), (33013, []), (33014, [4]), (34018, [1, 3, 4, 5]), (34019, [1, 3, 4]), (34020, [2]), (37015, [6, 15, 16, 17]), (37016, [6]), (37017, [4, 5]), (38009, [0, 1, 7, 8]), (38010, []), (38011, [4, 5, 6]), (40012, [0, 4, 5, 6]), (40013, [0, 4, 5]), (40014, [2, 3]), (40024, [0, 4, 5, 7]), (40025, [0, 4, 5]), (40026, [2, 3]), (40060, [0, 4, 5, 10]), (40061, [4]), (40062, [2, 3]), (41009, [0, 1, 7, 8]), (41010, []), (41011, [4, 5, 6]), (42015, [1, 6, 7]), (42016, [6]), (42017, [4, 5]), (44012, [0, 1, 5]), (44013, []), (44014, [4]), (45009, [0, 3, 4]), (45010, [3]), (45011, [2]), (46012, [0, 1, 5]), (46013, []), (46014, [4]), (47018, [0, 5, 6]), (47019, []), (47020, [2]), (48012, [0, 3, 4, 5, 6]), (48013, [5]), (48014, [2]), (49024, [7, 8]), (49025, [7]), (49026, [4]), (50009, [1, 2, 5, 13, 14, 15]), (50010, [5]), (50011, [4]), (58006, [1, 5]), (58007, [1, 5]), (58008, [4]), (59006, [1, 5]), (59007, [1, 5]), (59008, [4]), (67015, [0, 3, 4, 5]), (67016, [4]), (67017, [2]), (70012, [0, 1, 12, 13]), (70013, []), (70014, [4]), (71048, [0, 2, 3, 5, 6]), (71049, [0, 2, 3]), (71050, [2]), (72006, [1, 5]), (72007, [1, 5]), (72008, [4]), (73006, [1, 5]), (73007, [1, 5]), (73008, [4]), (79012, [1, 2, 15, 16, 17]), (79013, []), (79014, [6]), (81012, [0, 1, 6, 7, 8]), (81013, []), (81014, [4, 5]), (82009, [0, 1, 2, 7, 8]), (82010, [7]), (82011, [6]), (85006, [0, 1, 7, 8]), (85007, []), (85008, [4]), (86006, [0, 1, 7, 8]), (86007, []), (86008, [4]), (100024, [4, 11, 12, 13, 14]), (100025, []), (100026, [6, 7, 8, 9, 10]), (101018, [2, 9, 10, 12, 13]), (101019, [10, 12]), (101020, [6, 7, 8]), (102015, [2, 9, 10, 12]), (102016, [9, 10]), (102017, [6, 7, 8]), (102039, [9, 10, 13, 14]), (102040, [10, 13]), (102041, [6, 7, 8]), (104021, [0, 1, 9, 10, 11]), (104022, []), (104023, [6, 7, 8]), (104042, [0, 1, 9, 10, 11, 12, 13]), (104043, [0, 1, 9, 10, 11, 12]), (104044, [6, 7, 8])]
def keeps (f k : Nat) : List Nat := match getM keepTab (f * 1000 + k) with
  | some l => l
  | none => []
theorem kp3_30 : keeps 3 30 = [0, 3, 4, 6, 7, 8] := by kernel_rfl
theorem kp3_31 : keeps 3 31 = [0, 3, 4, 6, 7] := by kernel_rfl
theorem kp3_32 : keeps 3 32 = [2] := by kernel_rfl
theorem kp3_57 : keeps 3 57 = [0, 3, 4, 6, 7, 8, 9] := by kernel_rfl
theorem kp3_58 : keeps 3 58 = [0, 3, 4, 6, 7, 8] := by kernel_rfl
theorem kp3_59 : keeps 3 59 = [2] := by kernel_rfl
theorem kp5_39 : keeps 5 39 = [0, 1, 5, 6, 7, 8, 9] := by kernel_rfl
theorem kp5_40 : keeps 5 40 = [0, 1, 5, 6, 7] := by kernel_rfl
theorem kp5_41 : keeps 5 41 = [4] := by kernel_rfl
theorem kp9_21 : keeps 9 21 = [0, 3, 4, 5, 6] := by kernel_rfl
theorem kp9_22 : keeps 9 22 = [3, 4, 5] := by kernel_rfl
theorem kp9_23 : keeps 9 23 = [2] := by kernel_rfl
theorem kp9_51 : keeps 9 51 = [3, 4, 5, 9, 10] := by kernel_rfl
theorem kp9_52 : keeps 9 52 = [3, 4, 9] := by kernel_rfl
theorem kp9_53 : keeps 9 53 = [2] := by kernel_rfl
theorem kp16_12 : keeps 16 12 = [0, 5] := by kernel_rfl
theorem kp16_13 : keeps 16 13 = [] := by kernel_rfl
theorem kp16_14 : keeps 16 14 = [4] := by kernel_rfl
theorem kp20_18 : keeps 20 18 = [0, 1, 8, 10, 11] := by kernel_rfl
theorem kp20_19 : keeps 20 19 = [0, 10] := by kernel_rfl
theorem kp20_20 : keeps 20 20 = [6, 7] := by kernel_rfl
theorem kp21_12 : keeps 21 12 = [0, 1, 5] := by kernel_rfl
theorem kp21_13 : keeps 21 13 = [] := by kernel_rfl
theorem kp21_14 : keeps 21 14 = [4] := by kernel_rfl
theorem kp24_30 : keeps 24 30 = [3, 6, 40, 41, 42] := by kernel_rfl
theorem kp24_31 : keeps 24 31 = [3, 6] := by kernel_rfl
theorem kp24_32 : keeps 24 32 = [4, 5] := by kernel_rfl
theorem kp28_6 : keeps 28 6 = [0, 5, 6] := by kernel_rfl
theorem kp28_7 : keeps 28 7 = [] := by kernel_rfl
theorem kp28_8 : keeps 28 8 = [2] := by kernel_rfl
theorem kp30_45 : keeps 30 45 = [3, 6, 7] := by kernel_rfl
theorem kp30_46 : keeps 30 46 = [3, 6] := by kernel_rfl
theorem kp30_47 : keeps 30 47 = [4, 5] := by kernel_rfl
theorem kp33_12 : keeps 33 12 = [2, 3, 5] := by kernel_rfl
theorem kp33_13 : keeps 33 13 = [] := by kernel_rfl
theorem kp33_14 : keeps 33 14 = [4] := by kernel_rfl
theorem kp34_18 : keeps 34 18 = [1, 3, 4, 5] := by kernel_rfl
theorem kp34_19 : keeps 34 19 = [1, 3, 4] := by kernel_rfl
theorem kp34_20 : keeps 34 20 = [2] := by kernel_rfl
theorem kp37_15 : keeps 37 15 = [6, 15, 16, 17] := by kernel_rfl
theorem kp37_16 : keeps 37 16 = [6] := by kernel_rfl
theorem kp37_17 : keeps 37 17 = [4, 5] := by kernel_rfl
theorem kp38_9 : keeps 38 9 = [0, 1, 7, 8] := by kernel_rfl
theorem kp38_10 : keeps 38 10 = [] := by kernel_rfl
theorem kp38_11 : keeps 38 11 = [4, 5, 6] := by kernel_rfl
theorem kp40_12 : keeps 40 12 = [0, 4, 5, 6] := by kernel_rfl
theorem kp40_13 : keeps 40 13 = [0, 4, 5] := by kernel_rfl
theorem kp40_14 : keeps 40 14 = [2, 3] := by kernel_rfl
theorem kp40_24 : keeps 40 24 = [0, 4, 5, 7] := by kernel_rfl
theorem kp40_25 : keeps 40 25 = [0, 4, 5] := by kernel_rfl
theorem kp40_26 : keeps 40 26 = [2, 3] := by kernel_rfl
theorem kp40_60 : keeps 40 60 = [0, 4, 5, 10] := by kernel_rfl
theorem kp40_61 : keeps 40 61 = [4] := by kernel_rfl
theorem kp40_62 : keeps 40 62 = [2, 3] := by kernel_rfl
theorem kp41_9 : keeps 41 9 = [0, 1, 7, 8] := by kernel_rfl
theorem kp41_10 : keeps 41 10 = [] := by kernel_rfl
theorem kp41_11 : keeps 41 11 = [4, 5, 6] := by kernel_rfl
theorem kp42_15 : keeps 42 15 = [1, 6, 7] := by kernel_rfl
theorem kp42_16 : keeps 42 16 = [6] := by kernel_rfl
theorem kp42_17 : keeps 42 17 = [4, 5] := by kernel_rfl
theorem kp44_12 : keeps 44 12 = [0, 1, 5] := by kernel_rfl
theorem kp44_13 : keeps 44 13 = [] := by kernel_rfl
theorem kp44_14 : keeps 44 14 = [4] := by kernel_rfl
theorem kp45_9 : keeps 45 9 = [0, 3, 4] := by kernel_rfl
theorem kp45_10 : keeps 45 10 = [3] := by kernel_rfl
theorem kp45_11 : keeps 45 11 = [2] := by kernel_rfl
theorem kp46_12 : keeps 46 12 = [0, 1, 5] := by kernel_rfl
theorem kp46_13 : keeps 46 13 = [] := by kernel_rfl
theorem kp46_14 : keeps 46 14 = [4] := by kernel_rfl
theorem kp47_18 : keeps 47 18 = [0, 5, 6] := by kernel_rfl
theorem kp47_19 : keeps 47 19 = [] := by kernel_rfl
theorem kp47_20 : keeps 47 20 = [2] := by kernel_rfl
theorem kp48_12 : keeps 48 12 = [0, 3, 4, 5, 6] := by kernel_rfl
theorem kp48_13 : keeps 48 13 = [5] := by kernel_rfl
theorem kp48_14 : keeps 48 14 = [2] := by kernel_rfl
theorem kp49_24 : keeps 49 24 = [7, 8] := by kernel_rfl
theorem kp49_25 : keeps 49 25 = [7] := by kernel_rfl
theorem kp49_26 : keeps 49 26 = [4] := by kernel_rfl
theorem kp50_9 : keeps 50 9 = [1, 2, 5, 13, 14, 15] := by kernel_rfl
theorem kp50_10 : keeps 50 10 = [5] := by kernel_rfl
theorem kp50_11 : keeps 50 11 = [4] := by kernel_rfl
theorem kp58_6 : keeps 58 6 = [1, 5] := by kernel_rfl
theorem kp58_7 : keeps 58 7 = [1, 5] := by kernel_rfl
theorem kp58_8 : keeps 58 8 = [4] := by kernel_rfl
theorem kp59_6 : keeps 59 6 = [1, 5] := by kernel_rfl
theorem kp59_7 : keeps 59 7 = [1, 5] := by kernel_rfl
theorem kp59_8 : keeps 59 8 = [4] := by kernel_rfl
theorem kp67_15 : keeps 67 15 = [0, 3, 4, 5] := by kernel_rfl
theorem kp67_16 : keeps 67 16 = [4] := by kernel_rfl
theorem kp67_17 : keeps 67 17 = [2] := by kernel_rfl
theorem kp70_12 : keeps 70 12 = [0, 1, 12, 13] := by kernel_rfl
theorem kp70_13 : keeps 70 13 = [] := by kernel_rfl
theorem kp70_14 : keeps 70 14 = [4] := by kernel_rfl
theorem kp71_48 : keeps 71 48 = [0, 2, 3, 5, 6] := by kernel_rfl
theorem kp71_49 : keeps 71 49 = [0, 2, 3] := by kernel_rfl
theorem kp71_50 : keeps 71 50 = [2] := by kernel_rfl
theorem kp72_6 : keeps 72 6 = [1, 5] := by kernel_rfl
theorem kp72_7 : keeps 72 7 = [1, 5] := by kernel_rfl
theorem kp72_8 : keeps 72 8 = [4] := by kernel_rfl
theorem kp73_6 : keeps 73 6 = [1, 5] := by kernel_rfl
theorem kp73_7 : keeps 73 7 = [1, 5] := by kernel_rfl
theorem kp73_8 : keeps 73 8 = [4] := by kernel_rfl
theorem kp79_12 : keeps 79 12 = [1, 2, 15, 16, 17] := by kernel_rfl
theorem kp79_13 : keeps 79 13 = [] := by kernel_rfl
theorem kp79_14 : keeps 79 14 = [6] := by kernel_rfl
theorem kp81_12 : keeps 81 12 = [0, 1, 6, 7, 8] := by kernel_rfl
theorem kp81_13 : keeps 81 13 = [] := by kernel_rfl
theorem kp81_14 : keeps 81 14 = [4, 5] := by kernel_rfl
theorem kp82_9 : keeps 82 9 = [0, 1, 2, 7, 8] := by kernel_rfl
theorem kp82_10 : keeps 82 10 = [7] := by kernel_rfl
theorem kp82_11 : keeps 82 11 = [6] := by kernel_rfl
theorem kp85_6 : keeps 85 6 = [0, 1, 7, 8] := by kernel_rfl
theorem kp85_7 : keeps 85 7 = [] := by kernel_rfl
theorem kp85_8 : keeps 85 8 = [4] := by kernel_rfl
theorem kp86_6 : keeps 86 6 = [0, 1, 7, 8] := by kernel_rfl
theorem kp86_7 : keeps 86 7 = [] := by kernel_rfl
theorem kp86_8 : keeps 86 8 = [4] := by kernel_rfl
theorem kp100_24 : keeps 100 24 = [4, 11, 12, 13, 14] := by kernel_rfl
theorem kp100_25 : keeps 100 25 = [] := by kernel_rfl
theorem kp100_26 : keeps 100 26 = [6, 7, 8, 9, 10] := by kernel_rfl
theorem kp101_18 : keeps 101 18 = [2, 9, 10, 12, 13] := by kernel_rfl
theorem kp101_19 : keeps 101 19 = [10, 12] := by kernel_rfl
theorem kp101_20 : keeps 101 20 = [6, 7, 8] := by kernel_rfl
theorem kp102_15 : keeps 102 15 = [2, 9, 10, 12] := by kernel_rfl
theorem kp102_16 : keeps 102 16 = [9, 10] := by kernel_rfl
theorem kp102_17 : keeps 102 17 = [6, 7, 8] := by kernel_rfl
theorem kp102_39 : keeps 102 39 = [9, 10, 13, 14] := by kernel_rfl
theorem kp102_40 : keeps 102 40 = [10, 13] := by kernel_rfl
theorem kp102_41 : keeps 102 41 = [6, 7, 8] := by kernel_rfl
theorem kp104_21 : keeps 104 21 = [0, 1, 9, 10, 11] := by kernel_rfl
theorem kp104_22 : keeps 104 22 = [] := by kernel_rfl
theorem kp104_23 : keeps 104 23 = [6, 7, 8] := by kernel_rfl
theorem kp104_42 : keeps 104 42 = [0, 1, 9, 10, 11, 12, 13] := by kernel_rfl
theorem kp104_43 : keeps 104 43 = [0, 1, 9, 10, 11, 12] := by kernel_rfl
theorem kp104_44 : keeps 104 44 = [6, 7, 8] := by kernel_rfl
def tab0 : List D := [.int .i64 0, .int .i64 1, .int .i64 1, .int .i64 2, .int .i64 4, .int .i64 2, .int .i64 5, .int .i64 5, .int .i64 1, .int .i64 11, .int .i64 11, .int .i64 1, .int .i64 12, .int .i64 13, .int .i64 3, .int .i64 14, .int .i64 14, .int .i64 4, .int .i64 15, .int .i64 15, .int .i64 1, .int .i64 16, .int .i64 16, .int .i64 3, .int .i64 17, .int .i64 17, .int .i64 5, .int .i64 26, .int .i64 27, .int .i64 1, .int .i64 32, .int .i64 36, .int .i64 3, .int .i64 40, .int .i64 41, .int .i64 6, .int .i64 44, .int .i64 55, .int .i64 6, .int .i64 58, .int .i64 62, .int .i64 6, .int .i64 63, .int .i64 64, .int .i64 7, .int .i64 65, .int .i64 65, .int .i64 8, .int .i64 66, .int .i64 66, .int .i64 9, .int .i64 69, .int .i64 90, .int .i64 1, .int .i64 103, .int .i64 138, .int .i64 1, .int .i64 167, .int .i64 167, .int .i64 1, .int .i64 172, .int .i64 173, .int .i64 1]
def tab1 : List D := [.int .u8 127, .int .i64 4, .bool false, .bool false, .int .u8 126, .int .i64 8, .bool false, .bool false, .int .u8 0, .int .i64 0, .bool false, .bool false, .int .u8 0, .int .i64 0, .bool false, .bool false, .int .u8 127, .int .i64 1, .bool true, .bool false, .int .u8 127, .int .i64 1, .bool false, .bool false, .int .u8 127, .int .i64 2, .bool true, .bool false, .int .u8 127, .int .i64 2, .bool false, .bool false, .int .u8 126, .int .i64 1, .bool true, .bool false, .int .u8 126, .int .i64 1, .bool false, .bool false, .int .u8 126, .int .i64 2, .bool true, .bool false, .int .u8 126, .int .i64 2, .bool false, .bool false, .int .u8 126, .int .i64 4, .bool true, .bool false, .int .u8 126, .int .i64 4, .bool false, .bool false, .int .u8 127, .int .i64 4, .bool false, .bool true, .int .u8 126, .int .i64 8, .bool false, .bool true, .int .u8 0, .int .i64 0, .bool false, .bool false, .int .u8 0, .int .i64 0, .bool false, .bool false, .int .u8 127, .int .i64 1, .bool false, .bool true, .int .u8 127, .int .i64 2, .bool false, .bool true, .int .u8 126, .int .i64 1, .bool false, .bool true, .int .u8 126, .int .i64 2, .bool false, .bool true, .int .u8 126, .int .i64 4, .bool false, .bool true]
theorem eqo106 : eqOk Tryd.prog 106 2 = true := by kernel_rfl
def liveTab : Nat → Map (List Nat)
  | 3 => [(6, [2]), (14, [0, 3, 4, 6, 7, 8, 66]), (16, [0, 3, 4, 6, 7, 8, 135]), (21, [0, 3, 4, 6, 7, 8, 9, 176]), (23, [2])]
  | 4 => [(2, [0, 1, 2, 7, 21]), (6, [6]), (13, [6]), (15, [6]), (16, [0, 7, 9, 11, 99]), (18, [6])]
  | 5 => [(2, [0, 1, 5, 25]), (9, [4]), (10, [0, 1, 5, 6, 7, 8, 79]), (21, [4])]
  | 6 => [(2, [0, 1, 5, 22]), (8, [0, 1, 5, 10, 12, 49]), (11, [4])]
  | 7 => [(2, [0, 2, 4, 7, 30]), (6, [6]), (10, [6])]
  | 8 => [(6, [2]), (8, [2])]
  | 9 => [(20, [3, 4, 5, 10, 12, 79]), (23, [2])]
  | 10 => [(2, [2, 3, 5, 18]), (6, [2, 3, 5, 6, 7, 8, 9, 42]), (8, [4])]
  | 11 => [(2, [0, 1, 4, 7, 8, 11, 43]), (10, [4, 7, 8, 11, 130]), (12, [10])]
  | 12 => [(5, [3, 8, 9, 10, 11, 60]), (8, [2]), (12, [2])]
  | 13 => [(2, [0, 1, 2, 7, 30]), (6, [6]), (10, [6])]
  | 14 => [(2, [0, 1, 2, 3, 4, 11, 38]), (12, [0, 11, 16, 19, 137]), (14, [10])]
  | 15 => [(5, [0])]
  | 19 => [(3, [2])]
  | 20 => [(2, [0, 1, 2, 8, 32]), (8, [0, 1, 8, 10, 11, 40])]
  | 22 => [(3, [0])]
  | 25 => [(4, [1, 3, 4, 30]), (11, [2]), (16, [2]), (20, [2])]
  | 26 => [(1, [0, 1, 4, 16])]
  | 27 => [(1, [4])]
  | 28 => [(4, [0, 4, 5, 6, 18])]
  | 29 => [(1, [0, 1, 4, 16])]
  | 31 => [(1, [0, 12])]
  | 33 => [(1, [2, 3, 40])]
  | 34 => [(2, [1, 3, 4]), (3, [1, 3, 4, 46]), (8, [1, 3, 4, 5]), (15, [2]), (20, [2]), (22, [2]), (24, [2])]
  | 35 => [(1, [0, 6]), (3, [0, 13]), (9, [0, 38]), (11, [0, 61]), (17, [0, 74])]
  | 36 => [(19, [41])]
  | 38 => [(7, [0, 1, 7, 8, 9, 38]), (12, [0, 1, 7, 8, 9, 54])]
  | 40 => [(22, [0, 4, 5, 10, 92])]
  | 41 => [(8, [0, 1, 7, 8, 9, 12, 33]), (10, [0, 1, 7, 8, 9, 12, 50]), (13, [0, 1, 7, 8, 9, 12, 13, 59]), (16, [0, 1, 7, 8, 9, 72]), (19, [0, 1, 7, 8, 9, 83])]
  | 43 => [(2, [0, 1, 2, 8, 28]), (5, [0, 2, 8, 10, 40])]
  | 47 => [(2, [0, 18]), (8, [0, 5, 6, 39])]
  | 48 => [(4, [0, 3, 4, 5, 6, 18])]
  | 49 => [(4, [0, 6, 26])]
  | 59 => [(2, [1, 5, 13])]
  | 60 => [(1, [2])]
  | 63 => [(1, [0, 19])]
  | 64 => [(0, [0, 2, 14])]
  | 65 => [(2, [3])]
  | 67 => [(5, [0, 3, 4, 5, 21])]
  | 71 => [(7, [2, 3]), (16, [0, 2, 3, 5, 6, 64])]
  | 73 => [(2, [1, 5, 14])]
  | 75 => [(4, [5, 6, 16])]
  | 76 => [(1, [6])]
  | 77 => [(5, [0, 1, 3, 6, 9, 11, 34]), (13, [0, 1, 9, 11, 12, 82])]
  | 80 => [(1, [2])]
  | 81 => [(8, [0, 1, 6, 7, 8, 25]), (9, [0, 1, 6, 8, 45]), (12, [0, 1, 6, 7, 8, 47])]
  | 82 => [(5, [0, 1, 2, 7, 8, 37])]
  | 87 => [(4, [9, 12, 38])]
  | 88 => [(6, [9, 10, 11, 12, 49]), (8, [9, 10, 12, 56])]
  | 89 => [(1, [0, 19])]
  | 90 => [(0, [0, 2, 13])]
  | 94 => [(1, [0, 10])]
  | 96 => [(1, [0, 4]), (3, [0, 13]), (5, [0, 22]), (7, [0, 31])]
  | 100 => [(1, [0, 2, 4, 32])]
  | 101 => [(8, [2, 9, 10, 12, 13, 41])]
  | 104 => [(1, [0, 1, 2, 29]), (11, [0, 1, 9, 10, 11, 12, 52])]
  | _ => []
def lives (f k : Nat) : List Nat := match getM (liveTab f) k with
  | some l => l
  | none => []
theorem lv0 : liveTab 0 = [] := rfl
theorem lv1 : liveTab 1 = [] := rfl
theorem lv2 : liveTab 2 = [] := rfl
theorem lv3 : liveTab 3 = [(6, [2]), (14, [0, 3, 4, 6, 7, 8, 66]), (16, [0, 3, 4, 6, 7, 8, 135]), (21, [0, 3, 4, 6, 7, 8, 9, 176]), (23, [2])] := rfl
theorem lv4 : liveTab 4 = [(2, [0, 1, 2, 7, 21]), (6, [6]), (13, [6]), (15, [6]), (16, [0, 7, 9, 11, 99]), (18, [6])] := rfl
theorem lv5 : liveTab 5 = [(2, [0, 1, 5, 25]), (9, [4]), (10, [0, 1, 5, 6, 7, 8, 79]), (21, [4])] := rfl
theorem lv6 : liveTab 6 = [(2, [0, 1, 5, 22]), (8, [0, 1, 5, 10, 12, 49]), (11, [4])] := rfl
theorem lv7 : liveTab 7 = [(2, [0, 2, 4, 7, 30]), (6, [6]), (10, [6])] := rfl
theorem lv8 : liveTab 8 = [(6, [2]), (8, [2])] := rfl
theorem lv9 : liveTab 9 = [(20, [3, 4, 5, 10, 12, 79]), (23, [2])] := rfl
theorem lv10 : liveTab 10 = [(2, [2, 3, 5, 18]), (6, [2, 3, 5, 6, 7, 8, 9, 42]), (8, [4])] := rfl
theorem lv11 : liveTab 11 = [(2, [0, 1, 4, 7, 8, 11, 43]), (10, [4, 7, 8, 11, 130]), (12, [10])] := rfl
theorem lv12 : liveTab 12 = [(5, [3, 8, 9, 10, 11, 60]), (8, [2]), (12, [2])] := rfl
theorem lv13 : liveTab 13 = [(2, [0, 1, 2, 7, 30]), (6, [6]), (10, [6])] := rfl
theorem lv14 : liveTab 14 = [(2, [0, 1, 2, 3, 4, 11, 38]), (12, [0, 11, 16, 19, 137]), (14, [10])] := rfl
theorem lv15 : liveTab 15 = [(5, [0])] := rfl
theorem lv16 : liveTab 16 = [] := rfl
theorem lv17 : liveTab 17 = [] := rfl
theorem lv18 : liveTab 18 = [] := rfl
theorem lv19 : liveTab 19 = [(3, [2])] := rfl
theorem lv20 : liveTab 20 = [(2, [0, 1, 2, 8, 32]), (8, [0, 1, 8, 10, 11, 40])] := rfl
theorem lv21 : liveTab 21 = [] := rfl
theorem lv22 : liveTab 22 = [(3, [0])] := rfl
theorem lv23 : liveTab 23 = [] := rfl
theorem lv24 : liveTab 24 = [] := rfl
theorem lv25 : liveTab 25 = [(4, [1, 3, 4, 30]), (11, [2]), (16, [2]), (20, [2])] := rfl
theorem lv26 : liveTab 26 = [(1, [0, 1, 4, 16])] := rfl
theorem lv27 : liveTab 27 = [(1, [4])] := rfl
theorem lv28 : liveTab 28 = [(4, [0, 4, 5, 6, 18])] := rfl
theorem lv29 : liveTab 29 = [(1, [0, 1, 4, 16])] := rfl
theorem lv30 : liveTab 30 = [] := rfl
theorem lv31 : liveTab 31 = [(1, [0, 12])] := rfl
theorem lv32 : liveTab 32 = [] := rfl
theorem lv33 : liveTab 33 = [(1, [2, 3, 40])] := rfl
theorem lv34 : liveTab 34 = [(2, [1, 3, 4]), (3, [1, 3, 4, 46]), (8, [1, 3, 4, 5]), (15, [2]), (20, [2]), (22, [2]), (24, [2])] := rfl
theorem lv35 : liveTab 35 = [(1, [0, 6]), (3, [0, 13]), (9, [0, 38]), (11, [0, 61]), (17, [0, 74])] := rfl
theorem lv36 : liveTab 36 = [(19, [41])] := rfl
theorem lv37 : liveTab 37 = [] := rfl
theorem lv38 : liveTab 38 = [(7, [0, 1, 7, 8, 9, 38]), (12, [0, 1, 7, 8, 9, 54])] := rfl
theorem lv39 : liveTab 39 = [] := rfl
theorem lv40 : liveTab 40 = [(22, [0, 4, 5, 10, 92])] := rfl
theorem lv41 : liveTab 41 = [(8, [0, 1, 7, 8, 9, 12, 33]), (10, [0, 1, 7, 8, 9, 12, 50]), (13, [0, 1, 7, 8, 9, 12, 13, 59]), (16, [0, 1, 7, 8, 9, 72]), (19, [0, 1, 7, 8, 9, 83])] := rfl
theorem lv42 : liveTab 42 = [] := rfl
theorem lv43 : liveTab 43 = [(2, [0, 1, 2, 8, 28]), (5, [0, 2, 8, 10, 40])] := rfl
theorem lv44 : liveTab 44 = [] := rfl
theorem lv45 : liveTab 45 = [] := rfl
theorem lv46 : liveTab 46 = [] := rfl
theorem lv47 : liveTab 47 = [(2, [0, 18]), (8, [0, 5, 6, 39])] := rfl
theorem lv48 : liveTab 48 = [(4, [0, 3, 4, 5, 6, 18])] := rfl
theorem lv49 : liveTab 49 = [(4, [0, 6, 26])] := rfl
theorem lv50 : liveTab 50 = [] := rfl
theorem lv51 : liveTab 51 = [] := rfl
theorem lv52 : liveTab 52 = [] := rfl
theorem lv53 : liveTab 53 = [] := rfl
theorem lv54 : liveTab 54 = [] := rfl
theorem lv55 : liveTab 55 = [] := rfl
theorem lv56 : liveTab 56 = [] := rfl
theorem lv57 : liveTab 57 = [] := rfl
theorem lv58 : liveTab 58 = [] := rfl
theorem lv59 : liveTab 59 = [(2, [1, 5, 13])] := rfl
theorem lv60 : liveTab 60 = [(1, [2])] := rfl
theorem lv61 : liveTab 61 = [] := rfl
theorem lv62 : liveTab 62 = [] := rfl
theorem lv63 : liveTab 63 = [(1, [0, 19])] := rfl
theorem lv64 : liveTab 64 = [(0, [0, 2, 14])] := rfl
theorem lv65 : liveTab 65 = [(2, [3])] := rfl
theorem lv66 : liveTab 66 = [] := rfl
theorem lv67 : liveTab 67 = [(5, [0, 3, 4, 5, 21])] := rfl
theorem lv68 : liveTab 68 = [] := rfl
theorem lv69 : liveTab 69 = [] := rfl
theorem lv70 : liveTab 70 = [] := rfl
theorem lv71 : liveTab 71 = [(7, [2, 3]), (16, [0, 2, 3, 5, 6, 64])] := rfl
theorem lv72 : liveTab 72 = [] := rfl
theorem lv73 : liveTab 73 = [(2, [1, 5, 14])] := rfl
theorem lv74 : liveTab 74 = [] := rfl
theorem lv75 : liveTab 75 = [(4, [5, 6, 16])] := rfl
theorem lv76 : liveTab 76 = [(1, [6])] := rfl
theorem lv77 : liveTab 77 = [(5, [0, 1, 3, 6, 9, 11, 34]), (13, [0, 1, 9, 11, 12, 82])] := rfl
theorem lv78 : liveTab 78 = [] := rfl
theorem lv79 : liveTab 79 = [] := rfl
theorem lv80 : liveTab 80 = [(1, [2])] := rfl
theorem lv81 : liveTab 81 = [(8, [0, 1, 6, 7, 8, 25]), (9, [0, 1, 6, 8, 45]), (12, [0, 1, 6, 7, 8, 47])] := rfl
theorem lv82 : liveTab 82 = [(5, [0, 1, 2, 7, 8, 37])] := rfl
theorem lv83 : liveTab 83 = [] := rfl
theorem lv84 : liveTab 84 = [] := rfl
theorem lv85 : liveTab 85 = [] := rfl
theorem lv86 : liveTab 86 = [] := rfl
theorem lv87 : liveTab 87 = [(4, [9, 12, 38])] := rfl
theorem lv88 : liveTab 88 = [(6, [9, 10, 11, 12, 49]), (8, [9, 10, 12, 56])] := rfl
theorem lv89 : liveTab 89 = [(1, [0, 19])] := rfl
theorem lv90 : liveTab 90 = [(0, [0, 2, 13])] := rfl
theorem lv91 : liveTab 91 = [] := rfl
theorem lv92 : liveTab 92 = [] := rfl
theorem lv93 : liveTab 93 = [] := rfl
theorem lv94 : liveTab 94 = [(1, [0, 10])] := rfl
theorem lv95 : liveTab 95 = [] := rfl
theorem lv96 : liveTab 96 = [(1, [0, 4]), (3, [0, 13]), (5, [0, 22]), (7, [0, 31])] := rfl
theorem lv97 : liveTab 97 = [] := rfl
theorem lv98 : liveTab 98 = [] := rfl
theorem lv99 : liveTab 99 = [] := rfl
theorem lv100 : liveTab 100 = [(1, [0, 2, 4, 32])] := rfl
theorem lv101 : liveTab 101 = [(8, [2, 9, 10, 12, 13, 41])] := rfl
theorem lv102 : liveTab 102 = [] := rfl
theorem lv103 : liveTab 103 = [] := rfl
theorem lv104 : liveTab 104 = [(1, [0, 1, 2, 29]), (11, [0, 1, 9, 10, 11, 12, 52])] := rfl
theorem lv105 : liveTab 105 = [] := rfl
theorem lv106 : liveTab 106 = [] := rfl
theorem lv107 : liveTab 107 = [] := rfl
theorem lv108 : liveTab 108 = [] := rfl
theorem lv109 : liveTab 109 = [] := rfl
theorem lv110 : liveTab 110 = [] := rfl
theorem lv111 : liveTab 111 = [] := rfl
theorem lv112 : liveTab 112 = [] := rfl
theorem lv113 : liveTab 113 = [] := rfl
theorem lv114 : liveTab 114 = [] := rfl
theorem lv115 : liveTab 115 = [] := rfl
theorem lv116 : liveTab 116 = [] := rfl
theorem lv117 : liveTab 117 = [] := rfl
theorem lv118 : liveTab 118 = [] := rfl
theorem lv119 : liveTab 119 = [] := rfl
theorem lv120 : liveTab 120 = [] := rfl
theorem lv121 : liveTab 121 = [] := rfl
theorem lv122 : liveTab 122 = [] := rfl
theorem lv123 : liveTab 123 = [] := rfl
theorem lv124 : liveTab 124 = [] := rfl
theorem lv125 : liveTab 125 = [] := rfl
theorem lv126 : liveTab 126 = [] := rfl
theorem lv127 : liveTab 127 = [] := rfl
def globs : Nat → Option (List D)
  | 0 => some tab0
  | _ => none
def owns : Nat → Bool
  | _ => false
noncomputable def G0 (fuel : Nat) : Cfg := ⟨Tryd.prog, fuel, keeps, globs, owns, fun _ => none, lives⟩
theorem G0P (fu : Nat) : (G0 fu).P = Tryd.prog := rfl
theorem G0fuel (fu : Nat) : (G0 fu).fuel = fu := rfl
theorem G0keep (fu f : Nat) : (G0 fu).keep f = keeps f := rfl
theorem G0own (fu f : Nat) : (G0 fu).own f = owns f := rfl
theorem G0glob (fu : Nat) : (G0 fu).glob = globs := rfl
theorem G0live (fu f : Nat) : (G0 fu).live f = lives f := rfl
noncomputable def exts (fu : Nat) (f : Nat) : Option (List V → List Go.Ev.Obj → Option Res) := if f = 57 then some (cloneX (G0 fu) 57) else none
theorem exts_no (fu : Nat) {f : Nat} (h : f ≠ 57) : exts fu f = none := if_neg h
theorem exts_is (fu : Nat) : exts fu 57 = some (cloneX (G0 fu) 57) := if_pos rfl
noncomputable def G (fuel : Nat) : Cfg := ⟨Tryd.prog, fuel, keeps, globs, owns, exts fuel, lives⟩
theorem GP (fu : Nat) : (G fu).P = Tryd.prog := rfl
theorem Gext (fu : Nat) (f : Nat) : (G fu).ext f = exts fu f := rfl
theorem Gfuel (fu : Nat) : (G fu).fuel = fu := rfl
theorem Gkeep (fu f : Nat) : (G fu).keep f = keeps f := rfl
theorem Gown (fu f : Nat) : (G fu).own f = owns f := rfl
theorem Gglob (fu : Nat) : (G fu).glob = globs := rfl
theorem Glive (fu f : Nat) : (G fu).live f = lives f := rfl
attribute [go_sem] lives Glive G0live GP Gext exts_no Gfuel Gkeep Gown Gglob G0P G0fuel G0keep G0own G0glob owns globs kp3_30 kp3_31 kp3_32 kp3_57 kp3_58 kp3_59 kp5_39 kp5_40 kp5_41 kp9_21 kp9_22 kp9_23 kp9_51 kp9_52 kp9_53 kp16_12 kp16_13 kp16_14 kp20_18 kp20_19 kp20_20 kp21_12 kp21_13 kp21_14 kp24_30 kp24_31 kp24_32 kp28_6 kp28_7 kp28_8 kp30_45 kp30_46 kp30_47 kp33_12 kp33_13 kp33_14 kp34_18 kp34_19 kp34_20 kp37_15 kp37_16 kp37_17 kp38_9 kp38_10 kp38_11 kp40_12 kp40_13 kp40_14 kp40_24 kp40_25 kp40_26 kp40_60 kp40_61 kp40_62 kp41_9 kp41_10 kp41_11 kp42_15 kp42_16 kp42_17 kp44_12 kp44_13 kp44_14 kp45_9 kp45_10 kp45_11 kp46_12 kp46_13 kp46_14 kp47_18 kp47_19 kp47_20 kp48_12 kp48_13 kp48_14 kp49_24 kp49_25 kp49_26 kp50_9 kp50_10 kp50_11 kp58_6 kp58_7 kp58_8 kp59_6 kp59_7 kp59_8 kp67_15 kp67_16 kp67_17 kp70_12 kp70_13 kp70_14 kp71_48 kp71_49 kp71_50 kp72_6 kp72_7 kp72_8 kp73_6 kp73_7 kp73_8 kp79_12 kp79_13 kp79_14 kp81_12 kp81_13 kp81_14 kp82_9 kp82_10 kp82_11 kp85_6 kp85_7 kp85_8 kp86_6 kp86_7 kp86_8 kp100_24 kp100_25 kp100_26 kp101_18 kp101_19 kp101_20 kp102_15 kp102_16 kp102_17 kp102_39 kp102_40 kp102_41 kp104_21 kp104_22 kp104_23 kp104_42 kp104_43 kp104_44 eqo106 lv0 lv1 lv2 lv3 lv4 lv5 lv6 lv7 lv8 lv9 lv10 lv11 lv12 lv13 lv14 lv15 lv16 lv17 lv18 lv19 lv20 lv21 lv22 lv23 lv24 lv25 lv26 lv27 lv28 lv29 lv30 lv31 lv32 lv33 lv34 lv35 lv36 lv37 lv38 lv39 lv40 lv41 lv42 lv43 lv44 lv45 lv46 lv47 lv48 lv49 lv50 lv51 lv52 lv53 lv54 lv55 lv56 lv57 lv58 lv59 lv60 lv61 lv62 lv63 lv64 lv65 lv66 lv67 lv68 lv69 lv70 lv71 lv72 lv73 lv74 lv75 lv76 lv77 lv78 lv79 lv80 lv81 lv82 lv83 lv84 lv85 lv86 lv87 lv88 lv89 lv90 lv91 lv92 lv93 lv94 lv95 lv96 lv97 lv98 lv99 lv100 lv101 lv102 lv103 lv104 lv105 lv106 lv107 lv108 lv109 lv110 lv111 lv112 lv113 lv114 lv115 lv116 lv117 lv118 lv119 lv120 lv121 lv122 lv123 lv124 lv125 lv126 lv127
end Go.Proofs.YtklnkkejkeelaaaDoor.E
