/- What the types of the program are to the reading. Printed by gti.py, a tool of this work; each fact is checked by the kernel. -/
import Derived.Test.YtklnkkejkeelaaaDoorProg
import Derived.Test.YtklnkkejkeelaaaDoorEvT
import Derived.KernelRfl
set_option linter.unnecessarySimpa false
set_option linter.unusedSimpArgs false
set_option linter.unusedVariables false
set_option maxRecDepth 100000
namespace Go.Proofs.YtklnkkejkeelaaaDoor.E
open Go.Ev
theorem ti1 : tiOf Tryd.prog 1 = some ⟨1, false, 8, [.nilfn], .func⟩ := by kernel_rfl
theorem ti2 : tiOf Tryd.prog 2 = some ⟨1, false, 8, [.d (.int .i64 0)], .int .i64⟩ := by kernel_rfl
theorem ti3 : tiOf Tryd.prog 3 = some ⟨1, false, 8, [.d (.int .i64 0)], .int .i64⟩ := by kernel_rfl
theorem ti4 : tiOf Tryd.prog 4 = some ⟨1, false, 1, [.d (.bool false)], .bool⟩ := by kernel_rfl
theorem ti5 : tiOf Tryd.prog 5 = some ⟨1, false, 1, [.d (.int .u8 0)], .int .u8⟩ := by kernel_rfl
theorem ti6 : tiOf Tryd.prog 6 = some ⟨1, false, 1, [.d (.int .u8 0)], .int .u8⟩ := by kernel_rfl
theorem ti7 : tiOf Tryd.prog 7 = some ⟨4, true, 24, [.d (.int .i64 0), .d (.int .i64 0), .d (.bool false), .d (.int .u8 0)], .struct [(0, 1), (1, 1), (2, 1), (3, 1)]⟩ := by kernel_rfl
theorem ti8 : tiOf Tryd.prog 8 = some ⟨4, true, 24, [.d (.int .i64 0), .d (.int .i64 0), .d (.bool false), .d (.int .u8 0)], .struct [(0, 1), (1, 1), (2, 1), (3, 1)]⟩ := by kernel_rfl
theorem ti9 : tiOf Tryd.prog 9 = some ⟨1, false, 16, [.d (.str [])], .str⟩ := by kernel_rfl
theorem ti10 : tiOf Tryd.prog 10 = some ⟨1, false, 16, [.d (.str [])], .str⟩ := by kernel_rfl
theorem ti11 : tiOf Tryd.prog 11 = some ⟨1, false, 16, [.d (.str [])], .str⟩ := by kernel_rfl
theorem ti12 : tiOf Tryd.prog 12 = some ⟨1, false, 8, [.d (.int .u64 0)], .int .u64⟩ := by kernel_rfl
theorem ti13 : tiOf Tryd.prog 13 = some ⟨2, true, 24, [.d (.str []), .d (.int .u64 0)], .struct [(0, 1), (1, 1)]⟩ := by kernel_rfl
theorem ti14 : tiOf Tryd.prog 14 = some ⟨2, true, 24, [.d (.str []), .d (.int .u64 0)], .struct [(0, 1), (1, 1)]⟩ := by kernel_rfl
theorem ti15 : tiOf Tryd.prog 15 = some ⟨1, false, 8, [.nilp], .ptr 138⟩ := by kernel_rfl
theorem ti16 : tiOf Tryd.prog 16 = some ⟨1, false, 8, [.nilp], .ptr 141⟩ := by kernel_rfl
theorem ti17 : tiOf Tryd.prog 17 = some ⟨1, false, 8, [.nilp], .ptr 149⟩ := by kernel_rfl
theorem ti18 : tiOf Tryd.prog 18 = some ⟨1, true, 8, [.nilp], .struct [(0, 1)]⟩ := by kernel_rfl
theorem ti19 : tiOf Tryd.prog 19 = some ⟨1, true, 8, [.nilp], .struct [(0, 1)]⟩ := by kernel_rfl
theorem ti20 : tiOf Tryd.prog 20 = some ⟨1, false, 16, [.dead], .other⟩ := by kernel_rfl
theorem ti21 : tiOf Tryd.prog 21 = some ⟨1, false, 4, [.d (.int .i32 0)], .int .i32⟩ := by kernel_rfl
theorem ti22 : tiOf Tryd.prog 22 = some ⟨1, false, 24, [.nilsl], .slice 33⟩ := by kernel_rfl
theorem ti23 : tiOf Tryd.prog 23 = some ⟨1, false, 8, [.nilfn], .func⟩ := by kernel_rfl
theorem ti24 : tiOf Tryd.prog 24 = some ⟨1, false, 8, [.nilfn], .func⟩ := by kernel_rfl
theorem ti25 : tiOf Tryd.prog 25 = some ⟨1, false, 24, [.nilsl], .slice 35⟩ := by kernel_rfl
theorem ti27 : tiOf Tryd.prog 27 = some ⟨1, false, 8, [.nilfn], .func⟩ := by kernel_rfl
theorem ti28 : tiOf Tryd.prog 28 = some ⟨1, false, 24, [.nilsl], .slice 3⟩ := by kernel_rfl
theorem ti29 : tiOf Tryd.prog 29 = some ⟨1, false, 8, [.nilfn], .func⟩ := by kernel_rfl
theorem ti30 : tiOf Tryd.prog 30 = some ⟨1, false, 8, [.nilfn], .func⟩ := by kernel_rfl
theorem ti31 : tiOf Tryd.prog 31 = some ⟨1, false, 8, [.d (.int .u64 0)], .int .u64⟩ := by kernel_rfl
theorem ti32 : tiOf Tryd.prog 32 = some ⟨5, true, 56, [.d (.int .i64 0), .d (.int .i64 0), .d (.int .i64 0), .d (.int .u64 0), .nilsl], .struct [(0, 1), (1, 1), (2, 1), (3, 1), (4, 1)]⟩ := by kernel_rfl
theorem ti33 : tiOf Tryd.prog 33 = some ⟨5, true, 56, [.d (.int .i64 0), .d (.int .i64 0), .d (.int .i64 0), .d (.int .u64 0), .nilsl], .struct [(0, 1), (1, 1), (2, 1), (3, 1), (4, 1)]⟩ := by kernel_rfl
theorem ti34 : tiOf Tryd.prog 34 = some ⟨2, true, 16, [.d (.int .i64 0), .d (.int .i64 0)], .struct [(0, 1), (1, 1)]⟩ := by kernel_rfl
theorem ti35 : tiOf Tryd.prog 35 = some ⟨2, true, 16, [.d (.int .i64 0), .d (.int .i64 0)], .struct [(0, 1), (1, 1)]⟩ := by kernel_rfl
theorem ti37 : tiOf Tryd.prog 37 = some ⟨1, false, 8, [.nilfn], .func⟩ := by kernel_rfl
theorem ti38 : tiOf Tryd.prog 38 = some ⟨1, false, 8, [.nilfn], .func⟩ := by kernel_rfl
theorem ti39 : tiOf Tryd.prog 39 = some ⟨1, false, 8, [.nilfn], .func⟩ := by kernel_rfl
theorem ti40 : tiOf Tryd.prog 40 = some ⟨1, false, 8, [.nilfn], .func⟩ := by kernel_rfl
theorem ti41 : tiOf Tryd.prog 41 = some ⟨1, false, 24, [.nilsl], .slice 5⟩ := by kernel_rfl
theorem ti42 : tiOf Tryd.prog 42 = some ⟨1, false, 8, [.nilfn], .func⟩ := by kernel_rfl
theorem ti43 : tiOf Tryd.prog 43 = some ⟨1, false, 8, [.d (.int .i64 0)], .int .i64⟩ := by kernel_rfl
theorem ti45 : tiOf Tryd.prog 45 = some ⟨1, false, 8, [.nilfn], .func⟩ := by kernel_rfl
theorem ti47 : tiOf Tryd.prog 47 = some ⟨1, false, 8, [.nilfn], .func⟩ := by kernel_rfl
theorem ti48 : tiOf Tryd.prog 48 = some ⟨1, false, 8, [.nilfn], .func⟩ := by kernel_rfl
theorem ti49 : tiOf Tryd.prog 49 = some ⟨1, false, 8, [.nilfn], .func⟩ := by kernel_rfl
theorem ti50 : tiOf Tryd.prog 50 = some ⟨1, false, 8, [.nilfn], .func⟩ := by kernel_rfl
theorem ti51 : tiOf Tryd.prog 51 = some ⟨1, false, 8, [.nilfn], .func⟩ := by kernel_rfl
theorem ti53 : tiOf Tryd.prog 53 = some ⟨1, false, 8, [.nilfn], .func⟩ := by kernel_rfl
theorem ti54 : tiOf Tryd.prog 54 = some ⟨1, false, 8, [.nilfn], .func⟩ := by kernel_rfl
theorem ti56 : tiOf Tryd.prog 56 = some ⟨1, false, 8, [.nilfn], .func⟩ := by kernel_rfl
theorem ti57 : tiOf Tryd.prog 57 = some ⟨1, false, 8, [.nilfn], .func⟩ := by kernel_rfl
theorem ti58 : tiOf Tryd.prog 58 = some ⟨1, false, 8, [.nilfn], .func⟩ := by kernel_rfl
theorem ti60 : tiOf Tryd.prog 60 = some ⟨1, false, 8, [.nilfn], .func⟩ := by kernel_rfl
theorem ti61 : tiOf Tryd.prog 61 = some ⟨1, false, 8, [.nilfn], .func⟩ := by kernel_rfl
theorem ti62 : tiOf Tryd.prog 62 = some ⟨1, false, 24, [.nilsl], .slice 106⟩ := by kernel_rfl
theorem ti64 : tiOf Tryd.prog 64 = some ⟨1, false, 8, [.nilfn], .func⟩ := by kernel_rfl
theorem ti65 : tiOf Tryd.prog 65 = some ⟨1, false, 8, [.nilfn], .func⟩ := by kernel_rfl
theorem ti66 : tiOf Tryd.prog 66 = some ⟨1, false, 8, [.nilfn], .func⟩ := by kernel_rfl
theorem ti67 : tiOf Tryd.prog 67 = some ⟨1, false, 8, [.nilfn], .func⟩ := by kernel_rfl
theorem ti68 : tiOf Tryd.prog 68 = some ⟨1, false, 8, [.nilfn], .func⟩ := by kernel_rfl
theorem ti69 : tiOf Tryd.prog 69 = some ⟨1, false, 8, [.nilfn], .func⟩ := by kernel_rfl
theorem ti70 : tiOf Tryd.prog 70 = some ⟨2, true, 16, [.d (.int .i64 0), .d (.int .i64 0)], .struct [(0, 1), (1, 1)]⟩ := by kernel_rfl
theorem ti71 : tiOf Tryd.prog 71 = some ⟨2, true, 16, [.d (.int .i64 0), .d (.int .i64 0)], .struct [(0, 1), (1, 1)]⟩ := by kernel_rfl
theorem ti72 : tiOf Tryd.prog 72 = some ⟨1, false, 8, [.nilfn], .func⟩ := by kernel_rfl
theorem ti73 : tiOf Tryd.prog 73 = some ⟨1, false, 8, [.nilfn], .func⟩ := by kernel_rfl
theorem ti74 : tiOf Tryd.prog 74 = some ⟨1, false, 8, [.nilfn], .func⟩ := by kernel_rfl
theorem ti75 : tiOf Tryd.prog 75 = some ⟨1, false, 8, [.nilfn], .func⟩ := by kernel_rfl
theorem ti76 : tiOf Tryd.prog 76 = some ⟨1, false, 8, [.nilfn], .func⟩ := by kernel_rfl
theorem ti77 : tiOf Tryd.prog 77 = some ⟨1, false, 8, [.nilfn], .func⟩ := by kernel_rfl
theorem ti78 : tiOf Tryd.prog 78 = some ⟨1, false, 8, [.nilp], .ptr 80⟩ := by kernel_rfl
theorem ti79 : tiOf Tryd.prog 79 = some ⟨3, true, 40, [.nilsl, .d (.int .i64 0), .d (.int .i64 0)], .struct [(0, 1), (1, 1), (2, 1)]⟩ := by kernel_rfl
theorem ti80 : tiOf Tryd.prog 80 = some ⟨3, true, 40, [.nilsl, .d (.int .i64 0), .d (.int .i64 0)], .struct [(0, 1), (1, 1), (2, 1)]⟩ := by kernel_rfl
theorem ti81 : tiOf Tryd.prog 81 = some ⟨1, false, 8, [.nilfn], .func⟩ := by kernel_rfl
theorem ti82 : tiOf Tryd.prog 82 = some ⟨1, false, 8, [.nilfn], .func⟩ := by kernel_rfl
theorem ti83 : tiOf Tryd.prog 83 = some ⟨1, false, 8, [.nilfn], .func⟩ := by kernel_rfl
theorem ti84 : tiOf Tryd.prog 84 = some ⟨1, false, 4, [.d (.int .u32 0)], .int .u32⟩ := by kernel_rfl
theorem ti85 : tiOf Tryd.prog 85 = some ⟨1, false, 8, [.nilfn], .func⟩ := by kernel_rfl
theorem ti86 : tiOf Tryd.prog 86 = some ⟨3, true, 24, [.d (.int .i64 0), .d (.int .i64 0), .d (.int .i64 0)], .struct [(0, 1), (1, 1), (2, 1)]⟩ := by kernel_rfl
theorem ti87 : tiOf Tryd.prog 87 = some ⟨3, true, 24, [.d (.int .i64 0), .d (.int .i64 0), .d (.int .i64 0)], .struct [(0, 1), (1, 1), (2, 1)]⟩ := by kernel_rfl
theorem ti88 : tiOf Tryd.prog 88 = some ⟨63, true, 504, [.d (.int .i64 0), .d (.int .i64 0), .d (.int .i64 0), .d (.int .i64 0), .d (.int .i64 0), .d (.int .i64 0), .d (.int .i64 0), .d (.int .i64 0), .d (.int .i64 0), .d (.int .i64 0), .d (.int .i64 0), .d (.int .i64 0), .d (.int .i64 0), .d (.int .i64 0), .d (.int .i64 0), .d (.int .i64 0), .d (.int .i64 0), .d (.int .i64 0), .d (.int .i64 0), .d (.int .i64 0), .d (.int .i64 0), .d (.int .i64 0), .d (.int .i64 0), .d (.int .i64 0), .d (.int .i64 0), .d (.int .i64 0), .d (.int .i64 0), .d (.int .i64 0), .d (.int .i64 0), .d (.int .i64 0), .d (.int .i64 0), .d (.int .i64 0), .d (.int .i64 0), .d (.int .i64 0), .d (.int .i64 0), .d (.int .i64 0), .d (.int .i64 0), .d (.int .i64 0), .d (.int .i64 0), .d (.int .i64 0), .d (.int .i64 0), .d (.int .i64 0), .d (.int .i64 0), .d (.int .i64 0), .d (.int .i64 0), .d (.int .i64 0), .d (.int .i64 0), .d (.int .i64 0), .d (.int .i64 0), .d (.int .i64 0), .d (.int .i64 0), .d (.int .i64 0), .d (.int .i64 0), .d (.int .i64 0), .d (.int .i64 0), .d (.int .i64 0), .d (.int .i64 0), .d (.int .i64 0), .d (.int .i64 0), .d (.int .i64 0), .d (.int .i64 0), .d (.int .i64 0), .d (.int .i64 0)], .arr 21 87⟩ := by kernel_rfl
theorem ti89 : tiOf Tryd.prog 89 = some ⟨1, false, 8, [.nilp], .ptr 91⟩ := by kernel_rfl
theorem ti90 : tiOf Tryd.prog 90 = some ⟨3, true, 40, [.nilsl, .d (.int .i64 0), .d (.int .i64 0)], .struct [(0, 1), (1, 1), (2, 1)]⟩ := by kernel_rfl
theorem ti91 : tiOf Tryd.prog 91 = some ⟨3, true, 40, [.nilsl, .d (.int .i64 0), .d (.int .i64 0)], .struct [(0, 1), (1, 1), (2, 1)]⟩ := by kernel_rfl
theorem ti92 : tiOf Tryd.prog 92 = some ⟨1, false, 8, [.nilfn], .func⟩ := by kernel_rfl
theorem ti93 : tiOf Tryd.prog 93 = some ⟨1, false, 8, [.nilfn], .func⟩ := by kernel_rfl
theorem ti94 : tiOf Tryd.prog 94 = some ⟨4, true, 24, [.d (.int .u8 0), .d (.int .i64 0), .d (.bool false), .d (.bool false)], .struct [(0, 1), (1, 1), (2, 1), (3, 1)]⟩ := by kernel_rfl
theorem ti95 : tiOf Tryd.prog 95 = some ⟨4, true, 24, [.d (.int .u8 0), .d (.int .i64 0), .d (.bool false), .d (.bool false)], .struct [(0, 1), (1, 1), (2, 1), (3, 1)]⟩ := by kernel_rfl
theorem ti96 : tiOf Tryd.prog 96 = some ⟨92, true, 552, [.d (.int .u8 0), .d (.int .i64 0), .d (.bool false), .d (.bool false), .d (.int .u8 0), .d (.int .i64 0), .d (.bool false), .d (.bool false), .d (.int .u8 0), .d (.int .i64 0), .d (.bool false), .d (.bool false), .d (.int .u8 0), .d (.int .i64 0), .d (.bool false), .d (.bool false), .d (.int .u8 0), .d (.int .i64 0), .d (.bool false), .d (.bool false), .d (.int .u8 0), .d (.int .i64 0), .d (.bool false), .d (.bool false), .d (.int .u8 0), .d (.int .i64 0), .d (.bool false), .d (.bool false), .d (.int .u8 0), .d (.int .i64 0), .d (.bool false), .d (.bool false), .d (.int .u8 0), .d (.int .i64 0), .d (.bool false), .d (.bool false), .d (.int .u8 0), .d (.int .i64 0), .d (.bool false), .d (.bool false), .d (.int .u8 0), .d (.int .i64 0), .d (.bool false), .d (.bool false), .d (.int .u8 0), .d (.int .i64 0), .d (.bool false), .d (.bool false), .d (.int .u8 0), .d (.int .i64 0), .d (.bool false), .d (.bool false), .d (.int .u8 0), .d (.int .i64 0), .d (.bool false), .d (.bool false), .d (.int .u8 0), .d (.int .i64 0), .d (.bool false), .d (.bool false), .d (.int .u8 0), .d (.int .i64 0), .d (.bool false), .d (.bool false), .d (.int .u8 0), .d (.int .i64 0), .d (.bool false), .d (.bool false), .d (.int .u8 0), .d (.int .i64 0), .d (.bool false), .d (.bool false), .d (.int .u8 0), .d (.int .i64 0), .d (.bool false), .d (.bool false), .d (.int .u8 0), .d (.int .i64 0), .d (.bool false), .d (.bool false), .d (.int .u8 0), .d (.int .i64 0), .d (.bool false), .d (.bool false), .d (.int .u8 0), .d (.int .i64 0), .d (.bool false), .d (.bool false), .d (.int .u8 0), .d (.int .i64 0), .d (.bool false), .d (.bool false)], .arr 23 95⟩ := by kernel_rfl
theorem ti97 : tiOf Tryd.prog 97 = some ⟨1, false, 8, [.nilfn], .func⟩ := by kernel_rfl
theorem ti98 : tiOf Tryd.prog 98 = some ⟨1, false, 8, [.nilp], .ptr 101⟩ := by kernel_rfl
theorem ti99 : tiOf Tryd.prog 99 = some ⟨1, false, 24, [.nilsl], .slice 71⟩ := by kernel_rfl
theorem ti100 : tiOf Tryd.prog 100 = some ⟨1, true, 24, [.nilsl], .struct [(0, 1)]⟩ := by kernel_rfl
theorem ti101 : tiOf Tryd.prog 101 = some ⟨1, true, 24, [.nilsl], .struct [(0, 1)]⟩ := by kernel_rfl
theorem ti103 : tiOf Tryd.prog 103 = some ⟨1, false, 8, [.nilfn], .func⟩ := by kernel_rfl
theorem ti104 : tiOf Tryd.prog 104 = some ⟨1, false, 8, [.nilfn], .func⟩ := by kernel_rfl
theorem ti105 : tiOf Tryd.prog 105 = some ⟨1, false, 24, [.nilsl], .slice 4⟩ := by kernel_rfl
theorem ti106 : tiOf Tryd.prog 106 = some ⟨2, true, 16, [.d (.int .i64 0), .d (.int .i64 0)], .struct [(0, 1), (1, 1)]⟩ := by kernel_rfl
theorem ti108 : tiOf Tryd.prog 108 = some ⟨1, false, 8, [.nilfn], .func⟩ := by kernel_rfl
theorem ti109 : tiOf Tryd.prog 109 = some ⟨1, false, 8, [.nilfn], .func⟩ := by kernel_rfl
theorem ti110 : tiOf Tryd.prog 110 = some ⟨1, false, 8, [.d (.int .u64 0)], .int .u64⟩ := by kernel_rfl
theorem ti112 : tiOf Tryd.prog 112 = some ⟨1, false, 8, [.nilfn], .func⟩ := by kernel_rfl
theorem ti113 : tiOf Tryd.prog 113 = some ⟨1, false, 8, [.nilfn], .func⟩ := by kernel_rfl
theorem ti114 : tiOf Tryd.prog 114 = some ⟨1, false, 8, [.nilfn], .func⟩ := by kernel_rfl
theorem ti116 : tiOf Tryd.prog 116 = some ⟨1, false, 8, [.nilfn], .func⟩ := by kernel_rfl
theorem ti118 : tiOf Tryd.prog 118 = some ⟨1, false, 8, [.nilfn], .func⟩ := by kernel_rfl
theorem ti119 : tiOf Tryd.prog 119 = some ⟨1, false, 8, [.nilfn], .func⟩ := by kernel_rfl
theorem ti120 : tiOf Tryd.prog 120 = some ⟨1, false, 8, [.nilfn], .func⟩ := by kernel_rfl
theorem ti121 : tiOf Tryd.prog 121 = some ⟨1, false, 8, [.nilfn], .func⟩ := by kernel_rfl
theorem ti122 : tiOf Tryd.prog 122 = some ⟨1, false, 8, [.nilfn], .func⟩ := by kernel_rfl
theorem ti123 : tiOf Tryd.prog 123 = some ⟨1, false, 8, [.nilfn], .func⟩ := by kernel_rfl
theorem ti125 : tiOf Tryd.prog 125 = some ⟨1, false, 8, [.nilfn], .func⟩ := by kernel_rfl
theorem ti127 : tiOf Tryd.prog 127 = some ⟨1, false, 8, [.nilfn], .func⟩ := by kernel_rfl
theorem ti129 : tiOf Tryd.prog 129 = some ⟨1, false, 8, [.nilfn], .func⟩ := by kernel_rfl
theorem ti130 : tiOf Tryd.prog 130 = some ⟨1, false, 8, [.nilfn], .func⟩ := by kernel_rfl
theorem ti131 : tiOf Tryd.prog 131 = some ⟨1, false, 8, [.nilfn], .func⟩ := by kernel_rfl
theorem ti132 : tiOf Tryd.prog 132 = some ⟨1, false, 8, [.nilp], .ptr 3⟩ := by kernel_rfl
theorem ti135 : tiOf Tryd.prog 135 = some ⟨1, false, 8, [.nilfn], .func⟩ := by kernel_rfl
theorem ti136 : tiOf Tryd.prog 136 = some ⟨1, false, 8, [.nilfn], .func⟩ := by kernel_rfl
theorem ti137 : tiOf Tryd.prog 137 = some ⟨4, true, 40, [.nilp, .nilp, .nilp, .d (.str [])], .struct [(0, 1), (1, 1), (2, 1), (3, 1)]⟩ := by kernel_rfl
theorem ti138 : tiOf Tryd.prog 138 = some ⟨4, true, 40, [.nilp, .nilp, .nilp, .d (.str [])], .struct [(0, 1), (1, 1), (2, 1), (3, 1)]⟩ := by kernel_rfl
theorem ti139 : tiOf Tryd.prog 139 = some ⟨0, true, 0, [], .arr 0 16⟩ := by kernel_rfl
theorem ti140 : tiOf Tryd.prog 140 = some ⟨0, true, 0, [], .struct [(0, 0)]⟩ := by kernel_rfl
theorem ti141 : tiOf Tryd.prog 141 = some ⟨0, true, 0, [], .struct [(0, 0)]⟩ := by kernel_rfl
theorem ti142 : tiOf Tryd.prog 142 = some ⟨1, false, 1, [.d (.int .u8 0)], .int .u8⟩ := by kernel_rfl
theorem ti143 : tiOf Tryd.prog 143 = some ⟨1, false, 1, [.d (.int .u8 0)], .int .u8⟩ := by kernel_rfl
theorem ti144 : tiOf Tryd.prog 144 = some ⟨1, false, 8, [.nilfn], .func⟩ := by kernel_rfl
theorem ti145 : tiOf Tryd.prog 145 = some ⟨1, false, 8, [.nilp], .ptr 5⟩ := by kernel_rfl
theorem ti146 : tiOf Tryd.prog 146 = some ⟨1, false, 4, [.d (.int .i32 0)], .int .i32⟩ := by kernel_rfl
theorem ti147 : tiOf Tryd.prog 147 = some ⟨1, false, 4, [.d (.int .i32 0)], .int .i32⟩ := by kernel_rfl
theorem ti148 : tiOf Tryd.prog 148 = some ⟨11, true, 48, [.d (.int .u64 0), .d (.int .u64 0), .d (.int .u32 0), .d (.int .u8 0), .d (.int .u8 0), .d (.int .u8 0), .d (.int .u8 0), .nilfn, .nilp, .d (.int .i32 0), .d (.int .i32 0)], .struct [(0, 1), (1, 1), (2, 1), (3, 1), (4, 1), (5, 1), (6, 1), (7, 1), (8, 1), (9, 1), (10, 1)]⟩ := by kernel_rfl
theorem ti149 : tiOf Tryd.prog 149 = some ⟨11, true, 48, [.d (.int .u64 0), .d (.int .u64 0), .d (.int .u32 0), .d (.int .u8 0), .d (.int .u8 0), .d (.int .u8 0), .d (.int .u8 0), .nilfn, .nilp, .d (.int .i32 0), .d (.int .i32 0)], .struct [(0, 1), (1, 1), (2, 1), (3, 1), (4, 1), (5, 1), (6, 1), (7, 1), (8, 1), (9, 1), (10, 1)]⟩ := by kernel_rfl
theorem ti150 : tiOf Tryd.prog 150 = some ⟨1, false, 8, [.nilp], .other⟩ := by kernel_rfl
attribute [go_sem] ti1 ti2 ti3 ti4 ti5 ti6 ti7 ti8 ti9 ti10 ti11 ti12 ti13 ti14 ti15 ti16 ti17 ti18 ti19 ti20 ti21 ti22 ti23 ti24 ti25 ti27 ti28 ti29 ti30 ti31 ti32 ti33 ti34 ti35 ti37 ti38 ti39 ti40 ti41 ti42 ti43 ti45 ti47 ti48 ti49 ti50 ti51 ti53 ti54 ti56 ti57 ti58 ti60 ti61 ti62 ti64 ti65 ti66 ti67 ti68 ti69 ti70 ti71 ti72 ti73 ti74 ti75 ti76 ti77 ti78 ti79 ti80 ti81 ti82 ti83 ti84 ti85 ti86 ti87 ti88 ti89 ti90 ti91 ti92 ti93 ti94 ti95 ti96 ti97 ti98 ti99 ti100 ti101 ti103 ti104 ti105 ti106 ti108 ti109 ti110 ti112 ti113 ti114 ti116 ti118 ti119 ti120 ti121 ti122 ti123 ti125 ti127 ti129 ti130 ti131 ti132 ti135 ti136 ti137 ti138 ti139 ti140 ti141 ti142 ti143 ti144 ti145 ti146 ti147 ti148 ti149 ti150
end Go.Proofs.YtklnkkejkeelaaaDoor.E
