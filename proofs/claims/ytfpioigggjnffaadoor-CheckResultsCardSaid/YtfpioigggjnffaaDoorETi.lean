/- ETi, EvP, EvD, EvB, EvM. -/
import Derived.Test.YtfpioigggjnffaaDoorProg
import Derived.Test.YtfpioigggjnffaaDoorEvR
import Derived.KernelRfl
import Derived.Test.YtfpioigggjnffaaDoorEvSc
import Derived.RangeFuncBox
import Derived.Shelf.RegionOpen
import Derived.WalkKit
import Derived.OwnWalkIn
import Derived.TacticsInMore
import Derived.LoopNIn
import Derived.LoopIn
set_option linter.unnecessarySimpa false
set_option linter.unusedSimpArgs false
set_option linter.unusedVariables false
/- What the types of the program are to the reading. Printed by gti.py, a tool of this work; each fact is checked by the kernel. -/
set_option maxRecDepth 100000
namespace Go.Proofs.YtfpioigggjnffaaDoor.E
open Go.Ev
theorem ti1 : tiOf Tryd.prog 1 = some ⟨1, false, 8, [.nilfn], .func⟩ := by kernel_rfl
theorem ti2 : tiOf Tryd.prog 2 = some ⟨1, false, 8, [.d (.int .i64 0)], .int .i64⟩ := by kernel_rfl
theorem ti3 : tiOf Tryd.prog 3 = some ⟨1, false, 8, [.d (.int .i64 0)], .int .i64⟩ := by kernel_rfl
theorem ti4 : tiOf Tryd.prog 4 = some ⟨1, false, 1, [.d (.bool false)], .bool⟩ := by kernel_rfl
theorem ti5 : tiOf Tryd.prog 5 = some ⟨1, false, 1, [.d (.int .u8 0)], .int .u8⟩ := by kernel_rfl
theorem ti6 : tiOf Tryd.prog 6 = some ⟨1, false, 1, [.d (.int .u8 0)], .int .u8⟩ := by kernel_rfl
theorem ti7 : tiOf Tryd.prog 7 = some ⟨4, true, 24, [.d (.int .i64 0), .d (.int .i64 0), .d (.bool false), .d (.int .u8 0)], .struct [(0, 1), (1, 1), (2, 1), (3, 1)]⟩ := by kernel_rfl
theorem ti8 : tiOf Tryd.prog 8 = some ⟨4, true, 24, [.d (.int .i64 0), .d (.int .i64 0), .d (.bool false), .d (.int .u8 0)], .struct [(0, 1), (1, 1), (2, 1), (3, 1)]⟩ := by kernel_rfl
theorem ti9 : tiOf Tryd.prog 9 = some ⟨1, false, 16, [.d (.str [])], .str⟩ := by kernel_rfl
theorem ti10 : tiOf Tryd.prog 10 = some ⟨1, false, 16, [.d (.str [])], .str⟩ := by kernel_rfl
theorem ti11 : tiOf Tryd.prog 11 = some ⟨1, false, 16, [.d (.str [])], .str⟩ := by kernel_rfl
theorem ti12 : tiOf Tryd.prog 12 = some ⟨1, false, 8, [.d (.int .u64 0)], .int .u64⟩ := by kernel_rfl
theorem ti13 : tiOf Tryd.prog 13 = some ⟨2, true, 24, [.d (.str []), .d (.int .u64 0)], .struct [(0, 1), (1, 1)]⟩ := by kernel_rfl
theorem ti14 : tiOf Tryd.prog 14 = some ⟨2, true, 24, [.d (.str []), .d (.int .u64 0)], .struct [(0, 1), (1, 1)]⟩ := by kernel_rfl
theorem ti15 : tiOf Tryd.prog 15 = some ⟨1, false, 8, [.nilp], .ptr 166⟩ := by kernel_rfl
theorem ti16 : tiOf Tryd.prog 16 = some ⟨1, false, 8, [.nilp], .ptr 169⟩ := by kernel_rfl
theorem ti17 : tiOf Tryd.prog 17 = some ⟨1, false, 8, [.nilp], .ptr 178⟩ := by kernel_rfl
theorem ti18 : tiOf Tryd.prog 18 = some ⟨1, true, 8, [.nilp], .struct [(0, 1)]⟩ := by kernel_rfl
theorem ti19 : tiOf Tryd.prog 19 = some ⟨1, true, 8, [.nilp], .struct [(0, 1)]⟩ := by kernel_rfl
theorem ti20 : tiOf Tryd.prog 20 = some ⟨1, false, 16, [.dead], .other⟩ := by kernel_rfl
theorem ti21 : tiOf Tryd.prog 21 = some ⟨1, false, 4, [.d (.int .i32 0)], .int .i32⟩ := by kernel_rfl
theorem ti22 : tiOf Tryd.prog 22 = some ⟨1, false, 24, [.nilsl], .slice 58⟩ := by kernel_rfl
theorem ti23 : tiOf Tryd.prog 23 = some ⟨1, false, 24, [.nilsl], .slice 3⟩ := by kernel_rfl
theorem ti24 : tiOf Tryd.prog 24 = some ⟨1, false, 24, [.nilsl], .slice 65⟩ := by kernel_rfl
theorem ti25 : tiOf Tryd.prog 25 = some ⟨1, false, 24, [.nilsl], .slice 5⟩ := by kernel_rfl
theorem ti26 : tiOf Tryd.prog 26 = some ⟨7, true, 136, [.nilsl, .nilsl, .d (.int .i64 0), .d (.int .i64 0), .nilsl, .nilsl, .nilsl], .struct [(0, 1), (1, 1), (2, 1), (3, 1), (4, 1), (5, 1), (6, 1)]⟩ := by kernel_rfl
theorem ti27 : tiOf Tryd.prog 27 = some ⟨7, true, 136, [.nilsl, .nilsl, .d (.int .i64 0), .d (.int .i64 0), .nilsl, .nilsl, .nilsl], .struct [(0, 1), (1, 1), (2, 1), (3, 1), (4, 1), (5, 1), (6, 1)]⟩ := by kernel_rfl
theorem ti28 : tiOf Tryd.prog 28 = some ⟨1, false, 24, [.nilsl], .slice 44⟩ := by kernel_rfl
theorem ti29 : tiOf Tryd.prog 29 = some ⟨1, false, 8, [.nilfn], .func⟩ := by kernel_rfl
theorem ti30 : tiOf Tryd.prog 30 = some ⟨1, false, 8, [.nilfn], .func⟩ := by kernel_rfl
theorem ti31 : tiOf Tryd.prog 31 = some ⟨1, false, 8, [.nilfn], .func⟩ := by kernel_rfl
theorem ti32 : tiOf Tryd.prog 32 = some ⟨1, false, 24, [.nilsl], .slice 47⟩ := by kernel_rfl
theorem ti33 : tiOf Tryd.prog 33 = some ⟨1, false, 8, [.d (.int .i64 0)], .int .i64⟩ := by kernel_rfl
theorem ti35 : tiOf Tryd.prog 35 = some ⟨1, false, 8, [.nilfn], .func⟩ := by kernel_rfl
theorem ti36 : tiOf Tryd.prog 36 = some ⟨1, false, 24, [.nilsl], .slice 66⟩ := by kernel_rfl
theorem ti37 : tiOf Tryd.prog 37 = some ⟨7, true, 136, [.nilsl, .nilsl, .d (.int .i64 0), .d (.int .i64 0), .nilsl, .nilsl, .nilsl], .struct [(0, 1), (1, 1), (2, 1), (3, 1), (4, 1), (5, 1), (6, 1)]⟩ := by kernel_rfl
theorem ti38 : tiOf Tryd.prog 38 = some ⟨7, true, 136, [.nilsl, .nilsl, .d (.int .i64 0), .d (.int .i64 0), .nilsl, .nilsl, .nilsl], .struct [(0, 1), (1, 1), (2, 1), (3, 1), (4, 1), (5, 1), (6, 1)]⟩ := by kernel_rfl
theorem ti39 : tiOf Tryd.prog 39 = some ⟨1, false, 8, [.nilfn], .func⟩ := by kernel_rfl
theorem ti40 : tiOf Tryd.prog 40 = some ⟨1, false, 8, [.nilfn], .func⟩ := by kernel_rfl
theorem ti41 : tiOf Tryd.prog 41 = some ⟨1, false, 8, [.nilfn], .func⟩ := by kernel_rfl
theorem ti42 : tiOf Tryd.prog 42 = some ⟨1, false, 8, [.d (.int .u64 0)], .int .u64⟩ := by kernel_rfl
theorem ti43 : tiOf Tryd.prog 43 = some ⟨5, true, 56, [.d (.int .i64 0), .d (.int .i64 0), .d (.int .i64 0), .d (.int .u64 0), .nilsl], .struct [(0, 1), (1, 1), (2, 1), (3, 1), (4, 1)]⟩ := by kernel_rfl
theorem ti44 : tiOf Tryd.prog 44 = some ⟨5, true, 56, [.d (.int .i64 0), .d (.int .i64 0), .d (.int .i64 0), .d (.int .u64 0), .nilsl], .struct [(0, 1), (1, 1), (2, 1), (3, 1), (4, 1)]⟩ := by kernel_rfl
theorem ti45 : tiOf Tryd.prog 45 = some ⟨1, false, 24, [.nilsl], .slice 50⟩ := by kernel_rfl
theorem ti46 : tiOf Tryd.prog 46 = some ⟨2, true, 48, [.nilsl, .nilsl], .struct [(0, 1), (1, 1)]⟩ := by kernel_rfl
theorem ti47 : tiOf Tryd.prog 47 = some ⟨2, true, 48, [.nilsl, .nilsl], .struct [(0, 1), (1, 1)]⟩ := by kernel_rfl
theorem ti48 : tiOf Tryd.prog 48 = some ⟨1, false, 8, [.nilfn], .func⟩ := by kernel_rfl
theorem ti49 : tiOf Tryd.prog 49 = some ⟨4, true, 48, [.d (.int .i64 0), .nilsl, .d (.int .i64 0), .d (.bool false)], .struct [(0, 1), (1, 1), (2, 1), (3, 1)]⟩ := by kernel_rfl
theorem ti50 : tiOf Tryd.prog 50 = some ⟨4, true, 48, [.d (.int .i64 0), .nilsl, .d (.int .i64 0), .d (.bool false)], .struct [(0, 1), (1, 1), (2, 1), (3, 1)]⟩ := by kernel_rfl
theorem ti51 : tiOf Tryd.prog 51 = some ⟨1, false, 8, [.nilfn], .func⟩ := by kernel_rfl
theorem ti52 : tiOf Tryd.prog 52 = some ⟨1, false, 8, [.nilfn], .func⟩ := by kernel_rfl
theorem ti54 : tiOf Tryd.prog 54 = some ⟨1, false, 8, [.nilfn], .func⟩ := by kernel_rfl
theorem ti55 : tiOf Tryd.prog 55 = some ⟨1, false, 8, [.nilfn], .func⟩ := by kernel_rfl
theorem ti56 : tiOf Tryd.prog 56 = some ⟨1, false, 24, [.nilsl], .slice 25⟩ := by kernel_rfl
theorem ti57 : tiOf Tryd.prog 57 = some ⟨2, true, 48, [.nilsl, .nilsl], .struct [(0, 1), (1, 1)]⟩ := by kernel_rfl
theorem ti58 : tiOf Tryd.prog 58 = some ⟨2, true, 48, [.nilsl, .nilsl], .struct [(0, 1), (1, 1)]⟩ := by kernel_rfl
theorem ti59 : tiOf Tryd.prog 59 = some ⟨1, false, 24, [.nilsl], .slice 83⟩ := by kernel_rfl
theorem ti61 : tiOf Tryd.prog 61 = some ⟨1, false, 8, [.nilfn], .func⟩ := by kernel_rfl
theorem ti62 : tiOf Tryd.prog 62 = some ⟨1, false, 8, [.nilfn], .func⟩ := by kernel_rfl
theorem ti63 : tiOf Tryd.prog 63 = some ⟨1, false, 8, [.nilfn], .func⟩ := by kernel_rfl
theorem ti64 : tiOf Tryd.prog 64 = some ⟨2, true, 2, [.d (.int .u8 0), .d (.bool false)], .struct [(0, 1), (1, 1)]⟩ := by kernel_rfl
theorem ti65 : tiOf Tryd.prog 65 = some ⟨2, true, 2, [.d (.int .u8 0), .d (.bool false)], .struct [(0, 1), (1, 1)]⟩ := by kernel_rfl
theorem ti66 : tiOf Tryd.prog 66 = some ⟨2, true, 2, [.d (.int .u8 0), .d (.bool false)], .struct [(0, 1), (1, 1)]⟩ := by kernel_rfl
theorem ti67 : tiOf Tryd.prog 67 = some ⟨1, false, 24, [.nilsl], .slice 92⟩ := by kernel_rfl
theorem ti69 : tiOf Tryd.prog 69 = some ⟨1, false, 8, [.nilfn], .func⟩ := by kernel_rfl
theorem ti70 : tiOf Tryd.prog 70 = some ⟨1, false, 8, [.nilfn], .func⟩ := by kernel_rfl
theorem ti72 : tiOf Tryd.prog 72 = some ⟨1, false, 8, [.nilfn], .func⟩ := by kernel_rfl
theorem ti73 : tiOf Tryd.prog 73 = some ⟨1, false, 8, [.nilfn], .func⟩ := by kernel_rfl
theorem ti74 : tiOf Tryd.prog 74 = some ⟨1, false, 8, [.nilfn], .func⟩ := by kernel_rfl
theorem ti75 : tiOf Tryd.prog 75 = some ⟨1, false, 8, [.nilp], .ptr 77⟩ := by kernel_rfl
theorem ti76 : tiOf Tryd.prog 76 = some ⟨10, true, 192, [.nilsl, .nilsl, .d (.int .i64 0), .d (.int .i64 0), .nilsl, .nilsl, .nilsl, .nilsl, .nilsl, .d (.int .i64 0)], .struct [(0, 7), (7, 2), (9, 1)]⟩ := by kernel_rfl
theorem ti77 : tiOf Tryd.prog 77 = some ⟨10, true, 192, [.nilsl, .nilsl, .d (.int .i64 0), .d (.int .i64 0), .nilsl, .nilsl, .nilsl, .nilsl, .nilsl, .d (.int .i64 0)], .struct [(0, 7), (7, 2), (9, 1)]⟩ := by kernel_rfl
theorem ti78 : tiOf Tryd.prog 78 = some ⟨1, false, 8, [.nilfn], .func⟩ := by kernel_rfl
theorem ti79 : tiOf Tryd.prog 79 = some ⟨1, false, 8, [.nilfn], .func⟩ := by kernel_rfl
theorem ti80 : tiOf Tryd.prog 80 = some ⟨1, false, 8, [.nilfn], .func⟩ := by kernel_rfl
theorem ti81 : tiOf Tryd.prog 81 = some ⟨1, false, 8, [.nilfn], .func⟩ := by kernel_rfl
theorem ti82 : tiOf Tryd.prog 82 = some ⟨2, true, 16, [.d (.int .i64 0), .d (.int .i64 0)], .struct [(0, 1), (1, 1)]⟩ := by kernel_rfl
theorem ti83 : tiOf Tryd.prog 83 = some ⟨2, true, 16, [.d (.int .i64 0), .d (.int .i64 0)], .struct [(0, 1), (1, 1)]⟩ := by kernel_rfl
theorem ti84 : tiOf Tryd.prog 84 = some ⟨1, false, 8, [.nilfn], .func⟩ := by kernel_rfl
theorem ti85 : tiOf Tryd.prog 85 = some ⟨2, true, 16, [.d (.int .i64 0), .d (.int .i64 0)], .struct [(0, 1), (1, 1)]⟩ := by kernel_rfl
theorem ti86 : tiOf Tryd.prog 86 = some ⟨2, true, 16, [.d (.int .i64 0), .d (.int .i64 0)], .struct [(0, 1), (1, 1)]⟩ := by kernel_rfl
theorem ti87 : tiOf Tryd.prog 87 = some ⟨1, false, 8, [.nilfn], .func⟩ := by kernel_rfl
theorem ti88 : tiOf Tryd.prog 88 = some ⟨1, false, 8, [.nilfn], .func⟩ := by kernel_rfl
theorem ti89 : tiOf Tryd.prog 89 = some ⟨1, false, 8, [.nilfn], .func⟩ := by kernel_rfl
theorem ti90 : tiOf Tryd.prog 90 = some ⟨1, false, 8, [.nilfn], .func⟩ := by kernel_rfl
theorem ti91 : tiOf Tryd.prog 91 = some ⟨1, false, 24, [.nilsl], .slice 4⟩ := by kernel_rfl
theorem ti92 : tiOf Tryd.prog 92 = some ⟨2, true, 16, [.d (.int .i64 0), .d (.int .i64 0)], .struct [(0, 1), (1, 1)]⟩ := by kernel_rfl
theorem ti94 : tiOf Tryd.prog 94 = some ⟨1, false, 8, [.nilfn], .func⟩ := by kernel_rfl
theorem ti95 : tiOf Tryd.prog 95 = some ⟨1, false, 8, [.nilp], .ptr 50⟩ := by kernel_rfl
theorem ti96 : tiOf Tryd.prog 96 = some ⟨3, true, 56, [.nilsl, .nilsl, .nilp], .struct [(0, 2), (2, 1)]⟩ := by kernel_rfl
theorem ti97 : tiOf Tryd.prog 97 = some ⟨3, true, 56, [.nilsl, .nilsl, .nilp], .struct [(0, 2), (2, 1)]⟩ := by kernel_rfl
theorem ti99 : tiOf Tryd.prog 99 = some ⟨1, false, 8, [.nilfn], .func⟩ := by kernel_rfl
theorem ti100 : tiOf Tryd.prog 100 = some ⟨1, false, 8, [.nilfn], .func⟩ := by kernel_rfl
theorem ti101 : tiOf Tryd.prog 101 = some ⟨1, false, 8, [.nilfn], .func⟩ := by kernel_rfl
theorem ti102 : tiOf Tryd.prog 102 = some ⟨1, false, 8, [.nilfn], .func⟩ := by kernel_rfl
theorem ti103 : tiOf Tryd.prog 103 = some ⟨1, false, 8, [.nilfn], .func⟩ := by kernel_rfl
theorem ti104 : tiOf Tryd.prog 104 = some ⟨1, false, 8, [.nilfn], .func⟩ := by kernel_rfl
theorem ti105 : tiOf Tryd.prog 105 = some ⟨1, false, 8, [.nilfn], .func⟩ := by kernel_rfl
theorem ti106 : tiOf Tryd.prog 106 = some ⟨1, false, 8, [.nilfn], .func⟩ := by kernel_rfl
theorem ti107 : tiOf Tryd.prog 107 = some ⟨3, true, 24, [.d (.int .i64 0), .d (.int .i64 0), .d (.int .i64 0)], .struct [(0, 1), (1, 1), (2, 1)]⟩ := by kernel_rfl
theorem ti108 : tiOf Tryd.prog 108 = some ⟨3, true, 24, [.d (.int .i64 0), .d (.int .i64 0), .d (.int .i64 0)], .struct [(0, 1), (1, 1), (2, 1)]⟩ := by kernel_rfl
theorem ti109 : tiOf Tryd.prog 109 = some ⟨63, true, 504, [.d (.int .i64 0), .d (.int .i64 0), .d (.int .i64 0), .d (.int .i64 0), .d (.int .i64 0), .d (.int .i64 0), .d (.int .i64 0), .d (.int .i64 0), .d (.int .i64 0), .d (.int .i64 0), .d (.int .i64 0), .d (.int .i64 0), .d (.int .i64 0), .d (.int .i64 0), .d (.int .i64 0), .d (.int .i64 0), .d (.int .i64 0), .d (.int .i64 0), .d (.int .i64 0), .d (.int .i64 0), .d (.int .i64 0), .d (.int .i64 0), .d (.int .i64 0), .d (.int .i64 0), .d (.int .i64 0), .d (.int .i64 0), .d (.int .i64 0), .d (.int .i64 0), .d (.int .i64 0), .d (.int .i64 0), .d (.int .i64 0), .d (.int .i64 0), .d (.int .i64 0), .d (.int .i64 0), .d (.int .i64 0), .d (.int .i64 0), .d (.int .i64 0), .d (.int .i64 0), .d (.int .i64 0), .d (.int .i64 0), .d (.int .i64 0), .d (.int .i64 0), .d (.int .i64 0), .d (.int .i64 0), .d (.int .i64 0), .d (.int .i64 0), .d (.int .i64 0), .d (.int .i64 0), .d (.int .i64 0), .d (.int .i64 0), .d (.int .i64 0), .d (.int .i64 0), .d (.int .i64 0), .d (.int .i64 0), .d (.int .i64 0), .d (.int .i64 0), .d (.int .i64 0), .d (.int .i64 0), .d (.int .i64 0), .d (.int .i64 0), .d (.int .i64 0), .d (.int .i64 0), .d (.int .i64 0)], .arr 21 108⟩ := by kernel_rfl
theorem ti110 : tiOf Tryd.prog 110 = some ⟨1, false, 8, [.d (.int .u64 0)], .int .u64⟩ := by kernel_rfl
theorem ti112 : tiOf Tryd.prog 112 = some ⟨1, false, 8, [.nilfn], .func⟩ := by kernel_rfl
theorem ti113 : tiOf Tryd.prog 113 = some ⟨1, false, 8, [.nilp], .ptr 116⟩ := by kernel_rfl
theorem ti114 : tiOf Tryd.prog 114 = some ⟨1, false, 24, [.nilsl], .slice 86⟩ := by kernel_rfl
theorem ti115 : tiOf Tryd.prog 115 = some ⟨1, true, 24, [.nilsl], .struct [(0, 1)]⟩ := by kernel_rfl
theorem ti116 : tiOf Tryd.prog 116 = some ⟨1, true, 24, [.nilsl], .struct [(0, 1)]⟩ := by kernel_rfl
theorem ti118 : tiOf Tryd.prog 118 = some ⟨1, false, 8, [.nilfn], .func⟩ := by kernel_rfl
theorem ti119 : tiOf Tryd.prog 119 = some ⟨1, false, 8, [.nilp], .ptr 97⟩ := by kernel_rfl
theorem ti120 : tiOf Tryd.prog 120 = some ⟨1, false, 8, [.nilfn], .func⟩ := by kernel_rfl
theorem ti121 : tiOf Tryd.prog 121 = some ⟨1, false, 8, [.nilfn], .func⟩ := by kernel_rfl
theorem ti122 : tiOf Tryd.prog 122 = some ⟨1, false, 8, [.nilfn], .func⟩ := by kernel_rfl
theorem ti124 : tiOf Tryd.prog 124 = some ⟨1, false, 8, [.nilfn], .func⟩ := by kernel_rfl
theorem ti125 : tiOf Tryd.prog 125 = some ⟨1, false, 8, [.nilfn], .func⟩ := by kernel_rfl
theorem ti126 : tiOf Tryd.prog 126 = some ⟨1, false, 8, [.nilfn], .func⟩ := by kernel_rfl
theorem ti127 : tiOf Tryd.prog 127 = some ⟨1, false, 8, [.nilfn], .func⟩ := by kernel_rfl
theorem ti128 : tiOf Tryd.prog 128 = some ⟨1, false, 8, [.nilfn], .func⟩ := by kernel_rfl
theorem ti129 : tiOf Tryd.prog 129 = some ⟨1, false, 8, [.nilfn], .func⟩ := by kernel_rfl
theorem ti130 : tiOf Tryd.prog 130 = some ⟨1, false, 8, [.nilfn], .func⟩ := by kernel_rfl
theorem ti132 : tiOf Tryd.prog 132 = some ⟨1, false, 8, [.nilfn], .func⟩ := by kernel_rfl
theorem ti133 : tiOf Tryd.prog 133 = some ⟨1, false, 8, [.nilfn], .func⟩ := by kernel_rfl
theorem ti134 : tiOf Tryd.prog 134 = some ⟨1, false, 8, [.nilfn], .func⟩ := by kernel_rfl
theorem ti135 : tiOf Tryd.prog 135 = some ⟨1, false, 8, [.nilfn], .func⟩ := by kernel_rfl
theorem ti136 : tiOf Tryd.prog 136 = some ⟨1, false, 8, [.nilfn], .func⟩ := by kernel_rfl
theorem ti138 : tiOf Tryd.prog 138 = some ⟨1, false, 8, [.nilfn], .func⟩ := by kernel_rfl
theorem ti139 : tiOf Tryd.prog 139 = some ⟨1, false, 8, [.nilfn], .func⟩ := by kernel_rfl
theorem ti140 : tiOf Tryd.prog 140 = some ⟨1, false, 8, [.nilfn], .func⟩ := by kernel_rfl
theorem ti142 : tiOf Tryd.prog 142 = some ⟨1, false, 8, [.nilfn], .func⟩ := by kernel_rfl
theorem ti143 : tiOf Tryd.prog 143 = some ⟨1, false, 4, [.d (.int .u32 0)], .int .u32⟩ := by kernel_rfl
theorem ti145 : tiOf Tryd.prog 145 = some ⟨1, false, 8, [.nilfn], .func⟩ := by kernel_rfl
theorem ti147 : tiOf Tryd.prog 147 = some ⟨1, false, 8, [.nilfn], .func⟩ := by kernel_rfl
theorem ti148 : tiOf Tryd.prog 148 = some ⟨1, false, 8, [.nilfn], .func⟩ := by kernel_rfl
theorem ti149 : tiOf Tryd.prog 149 = some ⟨1, false, 8, [.nilfn], .func⟩ := by kernel_rfl
theorem ti150 : tiOf Tryd.prog 150 = some ⟨1, false, 8, [.nilfn], .func⟩ := by kernel_rfl
theorem ti152 : tiOf Tryd.prog 152 = some ⟨1, false, 8, [.nilfn], .func⟩ := by kernel_rfl
theorem ti153 : tiOf Tryd.prog 153 = some ⟨1, false, 8, [.nilfn], .func⟩ := by kernel_rfl
theorem ti154 : tiOf Tryd.prog 154 = some ⟨1, false, 8, [.nilfn], .func⟩ := by kernel_rfl
theorem ti155 : tiOf Tryd.prog 155 = some ⟨4, true, 24, [.d (.int .u8 0), .d (.int .i64 0), .d (.bool false), .d (.bool false)], .struct [(0, 1), (1, 1), (2, 1), (3, 1)]⟩ := by kernel_rfl
theorem ti156 : tiOf Tryd.prog 156 = some ⟨4, true, 24, [.d (.int .u8 0), .d (.int .i64 0), .d (.bool false), .d (.bool false)], .struct [(0, 1), (1, 1), (2, 1), (3, 1)]⟩ := by kernel_rfl
theorem ti157 : tiOf Tryd.prog 157 = some ⟨92, true, 552, [.d (.int .u8 0), .d (.int .i64 0), .d (.bool false), .d (.bool false), .d (.int .u8 0), .d (.int .i64 0), .d (.bool false), .d (.bool false), .d (.int .u8 0), .d (.int .i64 0), .d (.bool false), .d (.bool false), .d (.int .u8 0), .d (.int .i64 0), .d (.bool false), .d (.bool false), .d (.int .u8 0), .d (.int .i64 0), .d (.bool false), .d (.bool false), .d (.int .u8 0), .d (.int .i64 0), .d (.bool false), .d (.bool false), .d (.int .u8 0), .d (.int .i64 0), .d (.bool false), .d (.bool false), .d (.int .u8 0), .d (.int .i64 0), .d (.bool false), .d (.bool false), .d (.int .u8 0), .d (.int .i64 0), .d (.bool false), .d (.bool false), .d (.int .u8 0), .d (.int .i64 0), .d (.bool false), .d (.bool false), .d (.int .u8 0), .d (.int .i64 0), .d (.bool false), .d (.bool false), .d (.int .u8 0), .d (.int .i64 0), .d (.bool false), .d (.bool false), .d (.int .u8 0), .d (.int .i64 0), .d (.bool false), .d (.bool false), .d (.int .u8 0), .d (.int .i64 0), .d (.bool false), .d (.bool false), .d (.int .u8 0), .d (.int .i64 0), .d (.bool false), .d (.bool false), .d (.int .u8 0), .d (.int .i64 0), .d (.bool false), .d (.bool false), .d (.int .u8 0), .d (.int .i64 0), .d (.bool false), .d (.bool false), .d (.int .u8 0), .d (.int .i64 0), .d (.bool false), .d (.bool false), .d (.int .u8 0), .d (.int .i64 0), .d (.bool false), .d (.bool false), .d (.int .u8 0), .d (.int .i64 0), .d (.bool false), .d (.bool false), .d (.int .u8 0), .d (.int .i64 0), .d (.bool false), .d (.bool false), .d (.int .u8 0), .d (.int .i64 0), .d (.bool false), .d (.bool false), .d (.int .u8 0), .d (.int .i64 0), .d (.bool false), .d (.bool false)], .arr 23 156⟩ := by kernel_rfl
theorem ti158 : tiOf Tryd.prog 158 = some ⟨1, false, 8, [.nilfn], .func⟩ := by kernel_rfl
theorem ti160 : tiOf Tryd.prog 160 = some ⟨1, false, 8, [.nilfn], .func⟩ := by kernel_rfl
theorem ti161 : tiOf Tryd.prog 161 = some ⟨1, false, 8, [.nilfn], .func⟩ := by kernel_rfl
theorem ti162 : tiOf Tryd.prog 162 = some ⟨1, false, 8, [.nilfn], .func⟩ := by kernel_rfl
theorem ti163 : tiOf Tryd.prog 163 = some ⟨1, false, 8, [.nilfn], .func⟩ := by kernel_rfl
theorem ti164 : tiOf Tryd.prog 164 = some ⟨1, false, 8, [.nilfn], .func⟩ := by kernel_rfl
theorem ti165 : tiOf Tryd.prog 165 = some ⟨4, true, 40, [.nilp, .nilp, .nilp, .d (.str [])], .struct [(0, 1), (1, 1), (2, 1), (3, 1)]⟩ := by kernel_rfl
theorem ti166 : tiOf Tryd.prog 166 = some ⟨4, true, 40, [.nilp, .nilp, .nilp, .d (.str [])], .struct [(0, 1), (1, 1), (2, 1), (3, 1)]⟩ := by kernel_rfl
theorem ti167 : tiOf Tryd.prog 167 = some ⟨0, true, 0, [], .arr 0 16⟩ := by kernel_rfl
theorem ti168 : tiOf Tryd.prog 168 = some ⟨0, true, 0, [], .struct [(0, 0)]⟩ := by kernel_rfl
theorem ti169 : tiOf Tryd.prog 169 = some ⟨0, true, 0, [], .struct [(0, 0)]⟩ := by kernel_rfl
theorem ti170 : tiOf Tryd.prog 170 = some ⟨1, false, 8, [.nilfn], .func⟩ := by kernel_rfl
theorem ti171 : tiOf Tryd.prog 171 = some ⟨1, false, 1, [.d (.int .u8 0)], .int .u8⟩ := by kernel_rfl
theorem ti172 : tiOf Tryd.prog 172 = some ⟨1, false, 1, [.d (.int .u8 0)], .int .u8⟩ := by kernel_rfl
theorem ti173 : tiOf Tryd.prog 173 = some ⟨1, false, 8, [.nilfn], .func⟩ := by kernel_rfl
theorem ti174 : tiOf Tryd.prog 174 = some ⟨1, false, 8, [.nilp], .ptr 5⟩ := by kernel_rfl
theorem ti175 : tiOf Tryd.prog 175 = some ⟨1, false, 4, [.d (.int .i32 0)], .int .i32⟩ := by kernel_rfl
theorem ti176 : tiOf Tryd.prog 176 = some ⟨1, false, 4, [.d (.int .i32 0)], .int .i32⟩ := by kernel_rfl
theorem ti177 : tiOf Tryd.prog 177 = some ⟨11, true, 48, [.d (.int .u64 0), .d (.int .u64 0), .d (.int .u32 0), .d (.int .u8 0), .d (.int .u8 0), .d (.int .u8 0), .d (.int .u8 0), .nilfn, .nilp, .d (.int .i32 0), .d (.int .i32 0)], .struct [(0, 1), (1, 1), (2, 1), (3, 1), (4, 1), (5, 1), (6, 1), (7, 1), (8, 1), (9, 1), (10, 1)]⟩ := by kernel_rfl
theorem ti178 : tiOf Tryd.prog 178 = some ⟨11, true, 48, [.d (.int .u64 0), .d (.int .u64 0), .d (.int .u32 0), .d (.int .u8 0), .d (.int .u8 0), .d (.int .u8 0), .d (.int .u8 0), .nilfn, .nilp, .d (.int .i32 0), .d (.int .i32 0)], .struct [(0, 1), (1, 1), (2, 1), (3, 1), (4, 1), (5, 1), (6, 1), (7, 1), (8, 1), (9, 1), (10, 1)]⟩ := by kernel_rfl
theorem ti179 : tiOf Tryd.prog 179 = some ⟨1, false, 8, [.nilp], .other⟩ := by kernel_rfl
attribute [go_sem] ti1 ti2 ti3 ti4 ti5 ti6 ti7 ti8 ti9 ti10 ti11 ti12 ti13 ti14 ti15 ti16 ti17 ti18 ti19 ti20 ti21 ti22 ti23 ti24 ti25 ti26 ti27 ti28 ti29 ti30 ti31 ti32 ti33 ti35 ti36 ti37 ti38 ti39 ti40 ti41 ti42 ti43 ti44 ti45 ti46 ti47 ti48 ti49 ti50 ti51 ti52 ti54 ti55 ti56 ti57 ti58 ti59 ti61 ti62 ti63 ti64 ti65 ti66 ti67 ti69 ti70 ti72 ti73 ti74 ti75 ti76 ti77 ti78 ti79 ti80 ti81 ti82 ti83 ti84 ti85 ti86 ti87 ti88 ti89 ti90 ti91 ti92 ti94 ti95 ti96 ti97 ti99 ti100 ti101 ti102 ti103 ti104 ti105 ti106 ti107 ti108 ti109 ti110 ti112 ti113 ti114 ti115 ti116 ti118 ti119 ti120 ti121 ti122 ti124 ti125 ti126 ti127 ti128 ti129 ti130 ti132 ti133 ti134 ti135 ti136 ti138 ti139 ti140 ti142 ti143 ti145 ti147 ti148 ti149 ti150 ti152 ti153 ti154 ti155 ti156 ti157 ti158 ti160 ti161 ti162 ti163 ti164 ti165 ti166 ti167 ti168 ti169 ti170 ti171 ti172 ti173 ti174 ti175 ti176 ti177 ti178 ti179
end Go.Proofs.YtfpioigggjnffaaDoor.E

/- The configuration of the program's reading: printed by mkP.py, a tool of this work. -/
set_option autoImplicit false
namespace Go.Proofs.YtfpioigggjnffaaDoor.E
open Go.Ev
def keepTab : Map (List Nat) := [(3033, [1, 2, 5, 6, 8, 9]), (3034, [1, 2, 5, 6]), (3035, [4]), (4039, [1, 3, 7, 8, 9, 10, 11, 12]), (4040, [1, 3, 7, 8, 9, 10, 11]), (4041, [6]), (6024, [1, 5, 6, 7, 8, 9]), (6025, [5, 6]), (6026, [4]), (8012, [1, 3]), (8013, []), (8014, [2]), (9012, [0, 5]), (9013, []), (9014, [4]), (10027, [2, 8, 10, 32, 33, 34]), (10028, [10]), (10029, [4, 5]), (11009, [1, 2, 3, 4]), (11010, [2, 3]), (11011, [2]), (12012, [0, 3, 4, 5, 6]), (12013, [5]), (12014, [2]), (14009, [1, 3, 7, 8, 9]), (14010, [1, 3]), (14011, [2]), (17006, [1, 11, 12, 13]), (17007, [1]), (17008, [2]), (17027, [1, 5, 28, 29, 30]), (17028, [1, 5]), (17029, [2]), (17042, [1, 40, 41, 42]), (17043, [1]), (17044, [2]), (19012, [0, 4, 5, 6]), (19013, [0, 4, 5]), (19014, [2, 3]), (19024, [0, 4, 5, 7]), (19025, [0, 4, 5]), (19026, [2, 3]), (19060, [0, 4, 5, 10]), (19061, [4]), (19062, [2, 3]), (20009, [0, 1, 2, 7, 8]), (20010, [7]), (20011, [6]), (26006, [0, 5, 6]), (26007, []), (26008, [2]), (27024, [7, 8]), (27025, [7]), (27026, [4]), (28009, [1, 2, 5, 13, 14, 15]), (28010, [5]), (28011, [4]), (34012, [0, 1, 6, 7, 8]), (34013, []), (34014, [4, 5]), (46009, [0, 4, 12, 13, 14]), (46010, [0, 4]), (46011, []), (60006, [0, 1, 7, 8]), (60007, []), (60008, [4]), (61012, [0, 1, 12, 13]), (61013, []), (61014, [4]), (62006, [0, 1, 7, 8]), (62007, []), (62008, [4]), (82003, [0, 1, 3]), (82004, []), (82005, []), (92009, [0, 3, 9, 10, 11]), (92010, [0, 3]), (92011, [2]), (92033, [6, 25, 26, 27]), (92034, [6]), (92035, [2])]
def keeps (f k : Nat) : List Nat := match getM keepTab (f * 1000 + k) with
  | some l => l
  | none => []
theorem kp3_33 : keeps 3 33 = [1, 2, 5, 6, 8, 9] := by kernel_rfl
theorem kp3_34 : keeps 3 34 = [1, 2, 5, 6] := by kernel_rfl
theorem kp3_35 : keeps 3 35 = [4] := by kernel_rfl
theorem kp4_39 : keeps 4 39 = [1, 3, 7, 8, 9, 10, 11, 12] := by kernel_rfl
theorem kp4_40 : keeps 4 40 = [1, 3, 7, 8, 9, 10, 11] := by kernel_rfl
theorem kp4_41 : keeps 4 41 = [6] := by kernel_rfl
theorem kp6_24 : keeps 6 24 = [1, 5, 6, 7, 8, 9] := by kernel_rfl
theorem kp6_25 : keeps 6 25 = [5, 6] := by kernel_rfl
theorem kp6_26 : keeps 6 26 = [4] := by kernel_rfl
theorem kp8_12 : keeps 8 12 = [1, 3] := by kernel_rfl
theorem kp8_13 : keeps 8 13 = [] := by kernel_rfl
theorem kp8_14 : keeps 8 14 = [2] := by kernel_rfl
theorem kp9_12 : keeps 9 12 = [0, 5] := by kernel_rfl
theorem kp9_13 : keeps 9 13 = [] := by kernel_rfl
theorem kp9_14 : keeps 9 14 = [4] := by kernel_rfl
theorem kp10_27 : keeps 10 27 = [2, 8, 10, 32, 33, 34] := by kernel_rfl
theorem kp10_28 : keeps 10 28 = [10] := by kernel_rfl
theorem kp10_29 : keeps 10 29 = [4, 5] := by kernel_rfl
theorem kp11_9 : keeps 11 9 = [1, 2, 3, 4] := by kernel_rfl
theorem kp11_10 : keeps 11 10 = [2, 3] := by kernel_rfl
theorem kp11_11 : keeps 11 11 = [2] := by kernel_rfl
theorem kp12_12 : keeps 12 12 = [0, 3, 4, 5, 6] := by kernel_rfl
theorem kp12_13 : keeps 12 13 = [5] := by kernel_rfl
theorem kp12_14 : keeps 12 14 = [2] := by kernel_rfl
theorem kp14_9 : keeps 14 9 = [1, 3, 7, 8, 9] := by kernel_rfl
theorem kp14_10 : keeps 14 10 = [1, 3] := by kernel_rfl
theorem kp14_11 : keeps 14 11 = [2] := by kernel_rfl
theorem kp17_6 : keeps 17 6 = [1, 11, 12, 13] := by kernel_rfl
theorem kp17_7 : keeps 17 7 = [1] := by kernel_rfl
theorem kp17_8 : keeps 17 8 = [2] := by kernel_rfl
theorem kp17_27 : keeps 17 27 = [1, 5, 28, 29, 30] := by kernel_rfl
theorem kp17_28 : keeps 17 28 = [1, 5] := by kernel_rfl
theorem kp17_29 : keeps 17 29 = [2] := by kernel_rfl
theorem kp17_42 : keeps 17 42 = [1, 40, 41, 42] := by kernel_rfl
theorem kp17_43 : keeps 17 43 = [1] := by kernel_rfl
theorem kp17_44 : keeps 17 44 = [2] := by kernel_rfl
theorem kp19_12 : keeps 19 12 = [0, 4, 5, 6] := by kernel_rfl
theorem kp19_13 : keeps 19 13 = [0, 4, 5] := by kernel_rfl
theorem kp19_14 : keeps 19 14 = [2, 3] := by kernel_rfl
theorem kp19_24 : keeps 19 24 = [0, 4, 5, 7] := by kernel_rfl
theorem kp19_25 : keeps 19 25 = [0, 4, 5] := by kernel_rfl
theorem kp19_26 : keeps 19 26 = [2, 3] := by kernel_rfl
theorem kp19_60 : keeps 19 60 = [0, 4, 5, 10] := by kernel_rfl
theorem kp19_61 : keeps 19 61 = [4] := by kernel_rfl
theorem kp19_62 : keeps 19 62 = [2, 3] := by kernel_rfl
theorem kp20_9 : keeps 20 9 = [0, 1, 2, 7, 8] := by kernel_rfl
theorem kp20_10 : keeps 20 10 = [7] := by kernel_rfl
theorem kp20_11 : keeps 20 11 = [6] := by kernel_rfl
theorem kp26_6 : keeps 26 6 = [0, 5, 6] := by kernel_rfl
theorem kp26_7 : keeps 26 7 = [] := by kernel_rfl
theorem kp26_8 : keeps 26 8 = [2] := by kernel_rfl
theorem kp27_24 : keeps 27 24 = [7, 8] := by kernel_rfl
theorem kp27_25 : keeps 27 25 = [7] := by kernel_rfl
theorem kp27_26 : keeps 27 26 = [4] := by kernel_rfl
theorem kp28_9 : keeps 28 9 = [1, 2, 5, 13, 14, 15] := by kernel_rfl
theorem kp28_10 : keeps 28 10 = [5] := by kernel_rfl
theorem kp28_11 : keeps 28 11 = [4] := by kernel_rfl
theorem kp34_12 : keeps 34 12 = [0, 1, 6, 7, 8] := by kernel_rfl
theorem kp34_13 : keeps 34 13 = [] := by kernel_rfl
theorem kp34_14 : keeps 34 14 = [4, 5] := by kernel_rfl
theorem kp46_9 : keeps 46 9 = [0, 4, 12, 13, 14] := by kernel_rfl
theorem kp46_10 : keeps 46 10 = [0, 4] := by kernel_rfl
theorem kp46_11 : keeps 46 11 = [] := by kernel_rfl
theorem kp60_6 : keeps 60 6 = [0, 1, 7, 8] := by kernel_rfl
theorem kp60_7 : keeps 60 7 = [] := by kernel_rfl
theorem kp60_8 : keeps 60 8 = [4] := by kernel_rfl
theorem kp61_12 : keeps 61 12 = [0, 1, 12, 13] := by kernel_rfl
theorem kp61_13 : keeps 61 13 = [] := by kernel_rfl
theorem kp61_14 : keeps 61 14 = [4] := by kernel_rfl
theorem kp62_6 : keeps 62 6 = [0, 1, 7, 8] := by kernel_rfl
theorem kp62_7 : keeps 62 7 = [] := by kernel_rfl
theorem kp62_8 : keeps 62 8 = [4] := by kernel_rfl
theorem kp82_3 : keeps 82 3 = [0, 1, 3] := by kernel_rfl
theorem kp82_4 : keeps 82 4 = [] := by kernel_rfl
theorem kp82_5 : keeps 82 5 = [] := by kernel_rfl
theorem kp92_9 : keeps 92 9 = [0, 3, 9, 10, 11] := by kernel_rfl
theorem kp92_10 : keeps 92 10 = [0, 3] := by kernel_rfl
theorem kp92_11 : keeps 92 11 = [2] := by kernel_rfl
theorem kp92_33 : keeps 92 33 = [6, 25, 26, 27] := by kernel_rfl
theorem kp92_34 : keeps 92 34 = [6] := by kernel_rfl
theorem kp92_35 : keeps 92 35 = [2] := by kernel_rfl
def tab0 : List D := [.int .i64 0, .int .i64 1, .int .i64 1, .int .i64 2, .int .i64 4, .int .i64 2, .int .i64 5, .int .i64 5, .int .i64 1, .int .i64 11, .int .i64 11, .int .i64 1, .int .i64 12, .int .i64 13, .int .i64 3, .int .i64 14, .int .i64 14, .int .i64 4, .int .i64 15, .int .i64 15, .int .i64 1, .int .i64 16, .int .i64 16, .int .i64 3, .int .i64 17, .int .i64 17, .int .i64 5, .int .i64 26, .int .i64 27, .int .i64 1, .int .i64 32, .int .i64 36, .int .i64 3, .int .i64 40, .int .i64 41, .int .i64 6, .int .i64 44, .int .i64 55, .int .i64 6, .int .i64 58, .int .i64 62, .int .i64 6, .int .i64 63, .int .i64 64, .int .i64 7, .int .i64 65, .int .i64 65, .int .i64 8, .int .i64 66, .int .i64 66, .int .i64 9, .int .i64 69, .int .i64 90, .int .i64 1, .int .i64 103, .int .i64 138, .int .i64 1, .int .i64 167, .int .i64 167, .int .i64 1, .int .i64 172, .int .i64 173, .int .i64 1]
def tab1 : List D := [.int .u8 127, .int .i64 4, .bool false, .bool false, .int .u8 126, .int .i64 8, .bool false, .bool false, .int .u8 0, .int .i64 0, .bool false, .bool false, .int .u8 0, .int .i64 0, .bool false, .bool false, .int .u8 127, .int .i64 1, .bool true, .bool false, .int .u8 127, .int .i64 1, .bool false, .bool false, .int .u8 127, .int .i64 2, .bool true, .bool false, .int .u8 127, .int .i64 2, .bool false, .bool false, .int .u8 126, .int .i64 1, .bool true, .bool false, .int .u8 126, .int .i64 1, .bool false, .bool false, .int .u8 126, .int .i64 2, .bool true, .bool false, .int .u8 126, .int .i64 2, .bool false, .bool false, .int .u8 126, .int .i64 4, .bool true, .bool false, .int .u8 126, .int .i64 4, .bool false, .bool false, .int .u8 127, .int .i64 4, .bool false, .bool true, .int .u8 126, .int .i64 8, .bool false, .bool true, .int .u8 0, .int .i64 0, .bool false, .bool false, .int .u8 0, .int .i64 0, .bool false, .bool false, .int .u8 127, .int .i64 1, .bool false, .bool true, .int .u8 127, .int .i64 2, .bool false, .bool true, .int .u8 126, .int .i64 1, .bool false, .bool true, .int .u8 126, .int .i64 2, .bool false, .bool true, .int .u8 126, .int .i64 4, .bool false, .bool true]
def liveTab : Nat → Map (List Nat)
  | 3 => [(2, [1, 2, 5, 20]), (8, [1, 2, 5, 6, 8, 53]), (14, [1, 2, 5, 6, 8, 9, 10, 78]), (16, [1, 2, 5, 6, 8, 9, 96]), (19, [2, 5, 11, 114]), (21, [4])]
  | 4 => [(2, [1, 2, 3, 7, 28]), (6, [1, 2, 3, 7, 8, 42]), (15, [1, 3, 7, 8, 9, 10, 11, 12]), (19, [6])]
  | 5 => [(2, [1, 2, 3, 7, 24]), (6, [1, 2, 3, 7, 8, 9, 10, 51]), (7, [6]), (9, [1, 3, 7, 8, 11, 97]), (12, [1, 3, 7, 8, 11, 12, 131]), (17, [6])]
  | 6 => [(2, [1, 2, 5, 20]), (13, [1, 5, 6, 7, 8, 9, 10, 66]), (17, [4])]
  | 7 => [(3, [0])]
  | 8 => [(1, [1, 31]), (6, [1, 3, 56])]
  | 12 => [(4, [0, 3, 4, 5, 6, 18])]
  | 14 => [(5, [1, 5, 7, 8, 9, 22]), (9, [2])]
  | 15 => [(1, [3, 4, 5, 6, 16])]
  | 17 => [(16, [1, 40, 41, 42, 51])]
  | 18 => [(1, [1, 2, 3, 6, 16])]
  | 19 => [(22, [0, 4, 5, 10, 92])]
  | 20 => [(5, [0, 1, 2, 7, 8, 37])]
  | 22 => [(1, [2])]
  | 24 => [(4, [1, 3, 4, 30]), (11, [2]), (16, [2]), (20, [2])]
  | 26 => [(4, [0, 4, 5, 6, 18])]
  | 27 => [(4, [0, 6, 26])]
  | 30 => [(2, [2])]
  | 33 => [(1, [2])]
  | 34 => [(8, [0, 1, 6, 7, 8, 25]), (9, [0, 1, 6, 8, 45]), (12, [0, 1, 6, 7, 8, 47])]
  | 37 => [(1, [2])]
  | 39 => [(1, [2])]
  | 40 => [(1, [2])]
  | 41 => [(1, [4])]
  | 47 => [(2, [0, 4])]
  | 48 => [(3, [0, 4, 7])]
  | 54 => [(5, [0, 1, 3, 6, 9, 11, 34]), (13, [0, 1, 9, 11, 12, 82])]
  | 57 => [(1, [2])]
  | 68 => [(1, [1, 2, 4, 14])]
  | 69 => [(0, [0, 2, 14])]
  | 70 => [(6, [8])]
  | 71 => [(4, [0, 4, 23])]
  | 73 => [(1, [1, 2, 4, 14])]
  | 74 => [(1, [0, 12])]
  | 75 => [(2, [0]), (7, [0, 6])]
  | 77 => [(2, [0, 2, 3])]
  | 78 => [(19, [41])]
  | 84 => [(1, [1, 2, 4, 14])]
  | 85 => [(3, [1, 2, 11])]
  | 87 => [(1, [1, 2, 4, 13])]
  | 91 => [(1, [6])]
  | _ => []
def lives (f k : Nat) : List Nat := match getM (liveTab f) k with
  | some l => l
  | none => []
theorem lv0 : liveTab 0 = [] := rfl
theorem lv1 : liveTab 1 = [] := rfl
theorem lv2 : liveTab 2 = [] := rfl
theorem lv3 : liveTab 3 = [(2, [1, 2, 5, 20]), (8, [1, 2, 5, 6, 8, 53]), (14, [1, 2, 5, 6, 8, 9, 10, 78]), (16, [1, 2, 5, 6, 8, 9, 96]), (19, [2, 5, 11, 114]), (21, [4])] := rfl
theorem lv4 : liveTab 4 = [(2, [1, 2, 3, 7, 28]), (6, [1, 2, 3, 7, 8, 42]), (15, [1, 3, 7, 8, 9, 10, 11, 12]), (19, [6])] := rfl
theorem lv5 : liveTab 5 = [(2, [1, 2, 3, 7, 24]), (6, [1, 2, 3, 7, 8, 9, 10, 51]), (7, [6]), (9, [1, 3, 7, 8, 11, 97]), (12, [1, 3, 7, 8, 11, 12, 131]), (17, [6])] := rfl
theorem lv6 : liveTab 6 = [(2, [1, 2, 5, 20]), (13, [1, 5, 6, 7, 8, 9, 10, 66]), (17, [4])] := rfl
theorem lv7 : liveTab 7 = [(3, [0])] := rfl
theorem lv8 : liveTab 8 = [(1, [1, 31]), (6, [1, 3, 56])] := rfl
theorem lv9 : liveTab 9 = [] := rfl
theorem lv10 : liveTab 10 = [] := rfl
theorem lv11 : liveTab 11 = [] := rfl
theorem lv12 : liveTab 12 = [(4, [0, 3, 4, 5, 6, 18])] := rfl
theorem lv13 : liveTab 13 = [] := rfl
theorem lv14 : liveTab 14 = [(5, [1, 5, 7, 8, 9, 22]), (9, [2])] := rfl
theorem lv15 : liveTab 15 = [(1, [3, 4, 5, 6, 16])] := rfl
theorem lv16 : liveTab 16 = [] := rfl
theorem lv17 : liveTab 17 = [(16, [1, 40, 41, 42, 51])] := rfl
theorem lv18 : liveTab 18 = [(1, [1, 2, 3, 6, 16])] := rfl
theorem lv19 : liveTab 19 = [(22, [0, 4, 5, 10, 92])] := rfl
theorem lv20 : liveTab 20 = [(5, [0, 1, 2, 7, 8, 37])] := rfl
theorem lv21 : liveTab 21 = [] := rfl
theorem lv22 : liveTab 22 = [(1, [2])] := rfl
theorem lv23 : liveTab 23 = [] := rfl
theorem lv24 : liveTab 24 = [(4, [1, 3, 4, 30]), (11, [2]), (16, [2]), (20, [2])] := rfl
theorem lv25 : liveTab 25 = [] := rfl
theorem lv26 : liveTab 26 = [(4, [0, 4, 5, 6, 18])] := rfl
theorem lv27 : liveTab 27 = [(4, [0, 6, 26])] := rfl
theorem lv28 : liveTab 28 = [] := rfl
theorem lv29 : liveTab 29 = [] := rfl
theorem lv30 : liveTab 30 = [(2, [2])] := rfl
theorem lv31 : liveTab 31 = [] := rfl
theorem lv32 : liveTab 32 = [] := rfl
theorem lv33 : liveTab 33 = [(1, [2])] := rfl
theorem lv34 : liveTab 34 = [(8, [0, 1, 6, 7, 8, 25]), (9, [0, 1, 6, 8, 45]), (12, [0, 1, 6, 7, 8, 47])] := rfl
theorem lv35 : liveTab 35 = [] := rfl
theorem lv36 : liveTab 36 = [] := rfl
theorem lv37 : liveTab 37 = [(1, [2])] := rfl
theorem lv38 : liveTab 38 = [] := rfl
theorem lv39 : liveTab 39 = [(1, [2])] := rfl
theorem lv40 : liveTab 40 = [(1, [2])] := rfl
theorem lv41 : liveTab 41 = [(1, [4])] := rfl
theorem lv42 : liveTab 42 = [] := rfl
theorem lv43 : liveTab 43 = [] := rfl
theorem lv44 : liveTab 44 = [] := rfl
theorem lv45 : liveTab 45 = [] := rfl
theorem lv46 : liveTab 46 = [] := rfl
theorem lv47 : liveTab 47 = [(2, [0, 4])] := rfl
theorem lv48 : liveTab 48 = [(3, [0, 4, 7])] := rfl
theorem lv49 : liveTab 49 = [] := rfl
theorem lv50 : liveTab 50 = [] := rfl
theorem lv51 : liveTab 51 = [] := rfl
theorem lv52 : liveTab 52 = [] := rfl
theorem lv53 : liveTab 53 = [] := rfl
theorem lv54 : liveTab 54 = [(5, [0, 1, 3, 6, 9, 11, 34]), (13, [0, 1, 9, 11, 12, 82])] := rfl
theorem lv55 : liveTab 55 = [] := rfl
theorem lv56 : liveTab 56 = [] := rfl
theorem lv57 : liveTab 57 = [(1, [2])] := rfl
theorem lv58 : liveTab 58 = [] := rfl
theorem lv59 : liveTab 59 = [] := rfl
theorem lv60 : liveTab 60 = [] := rfl
theorem lv61 : liveTab 61 = [] := rfl
theorem lv62 : liveTab 62 = [] := rfl
theorem lv63 : liveTab 63 = [] := rfl
theorem lv64 : liveTab 64 = [] := rfl
theorem lv65 : liveTab 65 = [] := rfl
theorem lv66 : liveTab 66 = [] := rfl
theorem lv67 : liveTab 67 = [] := rfl
theorem lv68 : liveTab 68 = [(1, [1, 2, 4, 14])] := rfl
theorem lv69 : liveTab 69 = [(0, [0, 2, 14])] := rfl
theorem lv70 : liveTab 70 = [(6, [8])] := rfl
theorem lv71 : liveTab 71 = [(4, [0, 4, 23])] := rfl
theorem lv72 : liveTab 72 = [] := rfl
theorem lv73 : liveTab 73 = [(1, [1, 2, 4, 14])] := rfl
theorem lv74 : liveTab 74 = [(1, [0, 12])] := rfl
theorem lv75 : liveTab 75 = [(2, [0]), (7, [0, 6])] := rfl
theorem lv76 : liveTab 76 = [] := rfl
theorem lv77 : liveTab 77 = [(2, [0, 2, 3])] := rfl
theorem lv78 : liveTab 78 = [(19, [41])] := rfl
theorem lv79 : liveTab 79 = [] := rfl
theorem lv80 : liveTab 80 = [] := rfl
theorem lv81 : liveTab 81 = [] := rfl
theorem lv82 : liveTab 82 = [] := rfl
theorem lv83 : liveTab 83 = [] := rfl
theorem lv84 : liveTab 84 = [(1, [1, 2, 4, 14])] := rfl
theorem lv85 : liveTab 85 = [(3, [1, 2, 11])] := rfl
theorem lv86 : liveTab 86 = [] := rfl
theorem lv87 : liveTab 87 = [(1, [1, 2, 4, 13])] := rfl
theorem lv88 : liveTab 88 = [] := rfl
theorem lv89 : liveTab 89 = [] := rfl
theorem lv90 : liveTab 90 = [] := rfl
theorem lv91 : liveTab 91 = [(1, [6])] := rfl
theorem lv92 : liveTab 92 = [] := rfl
theorem lv93 : liveTab 93 = [] := rfl
theorem lv94 : liveTab 94 = [] := rfl
theorem lv95 : liveTab 95 = [] := rfl
theorem lv96 : liveTab 96 = [] := rfl
theorem lv97 : liveTab 97 = [] := rfl
theorem lv98 : liveTab 98 = [] := rfl
theorem lv99 : liveTab 99 = [] := rfl
theorem lv100 : liveTab 100 = [] := rfl
theorem lv101 : liveTab 101 = [] := rfl
theorem lv102 : liveTab 102 = [] := rfl
theorem lv103 : liveTab 103 = [] := rfl
theorem lv104 : liveTab 104 = [] := rfl
theorem lv105 : liveTab 105 = [] := rfl
theorem lv106 : liveTab 106 = [] := rfl
theorem lv107 : liveTab 107 = [] := rfl
theorem lv108 : liveTab 108 = [] := rfl
theorem lv109 : liveTab 109 = [] := rfl
theorem lv110 : liveTab 110 = [] := rfl
theorem lv111 : liveTab 111 = [] := rfl
theorem lv112 : liveTab 112 = [] := rfl
theorem lv113 : liveTab 113 = [] := rfl
theorem lv114 : liveTab 114 = [] := rfl
theorem lv115 : liveTab 115 = [] := rfl
def globs : Nat → Option (List D)
  | 0 => some tab0
  | 1 => some tab1
  | _ => none
def owns : Nat → Bool
  | 93 => true
  | _ => false
noncomputable def G0 (fuel : Nat) : Cfg := ⟨Tryd.prog, fuel, keeps, globs, owns, fun _ => none, lives⟩
theorem G0P (fu : Nat) : (G0 fu).P = Tryd.prog := rfl
theorem G0fuel (fu : Nat) : (G0 fu).fuel = fu := rfl
theorem G0keep (fu f : Nat) : (G0 fu).keep f = keeps f := rfl
theorem G0own (fu f : Nat) : (G0 fu).own f = owns f := rfl
theorem G0glob (fu : Nat) : (G0 fu).glob = globs := rfl
theorem G0live (fu f : Nat) : (G0 fu).live f = lives f := rfl
theorem G0ext (fu f : Nat) : (G0 fu).ext f = none := rfl
noncomputable def exts (fu : Nat) (f : Nat) : Option (List V → List Go.Ev.Obj → Option Res) := if f = 31 then some (cloneX (G0 fu) 31 1) else if f = 32 then some (cloneX (G0 fu) 32 4) else if f = 36 then some (rangeX (G0 fu) (evF (G0 fu) 4) 82 36) else none
def isExt (f : Nat) : Bool := f == 31 || f == 32 || f == 36 || false
theorem exts_no (fu : Nat) {f : Nat} (h : isExt f = false) : exts fu f = none := by
  simp only [isExt, Bool.or_eq_false_iff, beq_eq_false_iff_ne, ne_eq] at h
  simp [exts, h]
theorem exts_31 (fu : Nat) : exts fu 31 = some (cloneX (G0 fu) 31 1) := by simp [exts]
theorem exts_32 (fu : Nat) : exts fu 32 = some (cloneX (G0 fu) 32 4) := by simp [exts]
theorem exts_36 (fu : Nat) : exts fu 36 = some (rangeX (G0 fu) (evF (G0 fu) 4) 82 36) := by simp [exts]
noncomputable def G (fuel : Nat) : Cfg := ⟨Tryd.prog, fuel, keeps, globs, owns, exts fuel, lives⟩
theorem GP (fu : Nat) : (G fu).P = Tryd.prog := rfl
theorem Gext (fu : Nat) (f : Nat) : (G fu).ext f = exts fu f := rfl
theorem Gfuel (fu : Nat) : (G fu).fuel = fu := rfl
theorem Gkeep (fu f : Nat) : (G fu).keep f = keeps f := rfl
theorem Gown (fu f : Nat) : (G fu).own f = owns f := rfl
theorem Gglob (fu : Nat) : (G fu).glob = globs := rfl
theorem Glive (fu f : Nat) : (G fu).live f = lives f := rfl
attribute [go_sem] lives Glive G0live G0ext GP Gext Gfuel Gkeep Gown Gglob G0P G0fuel G0keep G0own G0glob owns globs kp3_33 kp3_34 kp3_35 kp4_39 kp4_40 kp4_41 kp6_24 kp6_25 kp6_26 kp8_12 kp8_13 kp8_14 kp9_12 kp9_13 kp9_14 kp10_27 kp10_28 kp10_29 kp11_9 kp11_10 kp11_11 kp12_12 kp12_13 kp12_14 kp14_9 kp14_10 kp14_11 kp17_6 kp17_7 kp17_8 kp17_27 kp17_28 kp17_29 kp17_42 kp17_43 kp17_44 kp19_12 kp19_13 kp19_14 kp19_24 kp19_25 kp19_26 kp19_60 kp19_61 kp19_62 kp20_9 kp20_10 kp20_11 kp26_6 kp26_7 kp26_8 kp27_24 kp27_25 kp27_26 kp28_9 kp28_10 kp28_11 kp34_12 kp34_13 kp34_14 kp46_9 kp46_10 kp46_11 kp60_6 kp60_7 kp60_8 kp61_12 kp61_13 kp61_14 kp62_6 kp62_7 kp62_8 kp82_3 kp82_4 kp82_5 kp92_9 kp92_10 kp92_11 kp92_33 kp92_34 kp92_35 lv0 lv1 lv2 lv3 lv4 lv5 lv6 lv7 lv8 lv9 lv10 lv11 lv12 lv13 lv14 lv15 lv16 lv17 lv18 lv19 lv20 lv21 lv22 lv23 lv24 lv25 lv26 lv27 lv28 lv29 lv30 lv31 lv32 lv33 lv34 lv35 lv36 lv37 lv38 lv39 lv40 lv41 lv42 lv43 lv44 lv45 lv46 lv47 lv48 lv49 lv50 lv51 lv52 lv53 lv54 lv55 lv56 lv57 lv58 lv59 lv60 lv61 lv62 lv63 lv64 lv65 lv66 lv67 lv68 lv69 lv70 lv71 lv72 lv73 lv74 lv75 lv76 lv77 lv78 lv79 lv80 lv81 lv82 lv83 lv84 lv85 lv86 lv87 lv88 lv89 lv90 lv91 lv92 lv93 lv94 lv95 lv96 lv97 lv98 lv99 lv100 lv101 lv102 lv103 lv104 lv105 lv106 lv107 lv108 lv109 lv110 lv111 lv112 lv113 lv114 lv115
end Go.Proofs.YtfpioigggjnffaaDoor.E

/- The structs of this seat, as Lean's: printed by mkD.py, a tool of this work. -/
set_option autoImplicit false
namespace Go.Proofs.YtfpioigggjnffaaDoor.E
open Go.Ev
structure TFuncType where
  params : (List Int)
  results : (List Int)
def TFuncType.C : Cd TFuncType := Cd.st (Cd.pair (Cd.list (Cd.int .u8)) (Cd.list (Cd.int .u8))) (fun x => (x.params, x.results))
def TFuncType.d (x : TFuncType) : D := .agg [.list (x.params.map (D.int .u8)), .list (x.results.map (D.int .u8))]
theorem TFuncType.dC : TFuncType.C.d = TFuncType.d := rfl
def TFuncType.ok (x : TFuncType) : Prop := (x.params.length ≤ maxLen ∧ ∀ z ∈ x.params, rng .u8 z) ∧ (x.results.length ≤ maxLen ∧ ∀ z ∈ x.results, rng .u8 z)
theorem TFuncType.reads : Reads Tryd.prog 58 TFuncType.C TFuncType.ok := by
  intro H enc w base spare held fuel cs y h
  obtain ⟨x, h1, h2⟩ := reads_struct (fun x : TFuncType => (x.params, x.results)) (fun p => (⟨p.1, p.2⟩ : TFuncType)) (fun _ => rfl) Tryd.underlying58 (by kernel_rfl) (readsF_cons 0 rfl (by kernel_rfl) (reads_slice Tryd.underlying25 (by kernel_rfl) (by decide) (reads_int Tryd.underlying5)) (readsF_last 1 rfl (by kernel_rfl) (reads_slice Tryd.underlying25 (by kernel_rfl) (by decide) (reads_int Tryd.underlying5)))) H enc w base spare held fuel cs y h
  exact ⟨x, h1, h2⟩
structure Tavocetref10_Glob where
  val_ : Int
  mut_ : Bool
def Tavocetref10_Glob.C : Cd Tavocetref10_Glob := Cd.st (Cd.pair (Cd.int .u8) Cd.bool) (fun x => (x.val_, x.mut_))
def Tavocetref10_Glob.d (x : Tavocetref10_Glob) : D := .agg [.int .u8 x.val_, .bool x.mut_]
theorem Tavocetref10_Glob.dC : Tavocetref10_Glob.C.d = Tavocetref10_Glob.d := rfl
def Tavocetref10_Glob.ok (x : Tavocetref10_Glob) : Prop := rng .u8 x.val_ ∧ True
theorem Tavocetref10_Glob.reads : Reads Tryd.prog 65 Tavocetref10_Glob.C Tavocetref10_Glob.ok := by
  intro H enc w base spare held fuel cs y h
  obtain ⟨x, h1, h2⟩ := reads_struct (fun x : Tavocetref10_Glob => (x.val_, x.mut_)) (fun p => (⟨p.1, p.2⟩ : Tavocetref10_Glob)) (fun _ => rfl) Tryd.underlying65 (by kernel_rfl) (readsF_cons 0 rfl (by kernel_rfl) (reads_int Tryd.underlying5) (readsF_last 1 rfl (by kernel_rfl) (reads_bool Tryd.underlying4))) H enc w base spare held fuel cs y h
  exact ⟨x, h1, h2⟩
structure Tavocetref10_Env where
  types : (List TFuncType)
  funcs : (List Int)
  tables : Int
  mems : Int
  globals : (List Tavocetref10_Glob)
  locals : (List Int)
  results : (List Int)
def Tavocetref10_Env.C : Cd Tavocetref10_Env := Cd.st (Cd.pair (Cd.list TFuncType.C) (Cd.pair (Cd.list (Cd.int .i64)) (Cd.pair (Cd.int .i64) (Cd.pair (Cd.int .i64) (Cd.pair (Cd.list Tavocetref10_Glob.C) (Cd.pair (Cd.list (Cd.int .u8)) (Cd.list (Cd.int .u8)))))))) (fun x => (x.types, x.funcs, x.tables, x.mems, x.globals, x.locals, x.results))
def Tavocetref10_Env.d (x : Tavocetref10_Env) : D := .agg [.list (x.types.map TFuncType.d), .list (x.funcs.map (D.int .i64)), .int .i64 x.tables, .int .i64 x.mems, .list (x.globals.map Tavocetref10_Glob.d), .list (x.locals.map (D.int .u8)), .list (x.results.map (D.int .u8))]
theorem Tavocetref10_Env.dC : Tavocetref10_Env.C.d = Tavocetref10_Env.d := rfl
def Tavocetref10_Env.ok (x : Tavocetref10_Env) : Prop := (x.types.length ≤ maxLen ∧ ∀ z ∈ x.types, TFuncType.ok z) ∧ (x.funcs.length ≤ maxLen ∧ ∀ z ∈ x.funcs, rng .i64 z) ∧ rng .i64 x.tables ∧ rng .i64 x.mems ∧ (x.globals.length ≤ maxLen ∧ ∀ z ∈ x.globals, Tavocetref10_Glob.ok z) ∧ (x.locals.length ≤ maxLen ∧ ∀ z ∈ x.locals, rng .u8 z) ∧ (x.results.length ≤ maxLen ∧ ∀ z ∈ x.results, rng .u8 z)
theorem Tavocetref10_Env.reads : Reads Tryd.prog 27 Tavocetref10_Env.C Tavocetref10_Env.ok := by
  intro H enc w base spare held fuel cs y h
  obtain ⟨x, h1, h2⟩ := reads_struct (fun x : Tavocetref10_Env => (x.types, x.funcs, x.tables, x.mems, x.globals, x.locals, x.results)) (fun p => (⟨p.1, p.2.1, p.2.2.1, p.2.2.2.1, p.2.2.2.2.1, p.2.2.2.2.2.1, p.2.2.2.2.2.2⟩ : Tavocetref10_Env)) (fun _ => rfl) Tryd.underlying27 (by kernel_rfl) (readsF_cons 0 rfl (by kernel_rfl) (reads_slice Tryd.underlying22 (by kernel_rfl) (by decide) TFuncType.reads) (readsF_cons 1 rfl (by kernel_rfl) (reads_slice Tryd.underlying23 (by kernel_rfl) (by decide) (reads_int Tryd.underlying3)) (readsF_cons 2 rfl (by kernel_rfl) (reads_int Tryd.underlying3) (readsF_cons 3 rfl (by kernel_rfl) (reads_int Tryd.underlying3) (readsF_cons 4 rfl (by kernel_rfl) (reads_slice Tryd.underlying24 (by kernel_rfl) (by decide) Tavocetref10_Glob.reads) (readsF_cons 5 rfl (by kernel_rfl) (reads_slice Tryd.underlying25 (by kernel_rfl) (by decide) (reads_int Tryd.underlying5)) (readsF_last 6 rfl (by kernel_rfl) (reads_slice Tryd.underlying25 (by kernel_rfl) (by decide) (reads_int Tryd.underlying5))))))))) H enc w base spare held fuel cs y h
  exact ⟨x, h1, h2⟩
structure TInstr where
  op : Int
  a : Int
  b : Int
  k : Int
  labels : (List Int)
def TInstr.C : Cd TInstr := Cd.st (Cd.pair (Cd.int .i64) (Cd.pair (Cd.int .i64) (Cd.pair (Cd.int .i64) (Cd.pair (Cd.int .u64) (Cd.list (Cd.int .i64)))))) (fun x => (x.op, x.a, x.b, x.k, x.labels))
def TInstr.d (x : TInstr) : D := .agg [.int .i64 x.op, .int .i64 x.a, .int .i64 x.b, .int .u64 x.k, .list (x.labels.map (D.int .i64))]
theorem TInstr.dC : TInstr.C.d = TInstr.d := rfl
def TInstr.ok (x : TInstr) : Prop := rng .i64 x.op ∧ rng .i64 x.a ∧ rng .i64 x.b ∧ rng .u64 x.k ∧ (x.labels.length ≤ maxLen ∧ ∀ z ∈ x.labels, rng .i64 z)
theorem TInstr.reads : Reads Tryd.prog 44 TInstr.C TInstr.ok := by
  intro H enc w base spare held fuel cs y h
  obtain ⟨x, h1, h2⟩ := reads_struct (fun x : TInstr => (x.op, x.a, x.b, x.k, x.labels)) (fun p => (⟨p.1, p.2.1, p.2.2.1, p.2.2.2.1, p.2.2.2.2⟩ : TInstr)) (fun _ => rfl) Tryd.underlying44 (by kernel_rfl) (readsF_cons 0 rfl (by kernel_rfl) (reads_int Tryd.underlying3) (readsF_cons 1 rfl (by kernel_rfl) (reads_int Tryd.underlying3) (readsF_cons 2 rfl (by kernel_rfl) (reads_int Tryd.underlying3) (readsF_cons 3 rfl (by kernel_rfl) (reads_int Tryd.underlying42) (readsF_last 4 rfl (by kernel_rfl) (reads_slice Tryd.underlying23 (by kernel_rfl) (by decide) (reads_int Tryd.underlying3))))))) H enc w base spare held fuel cs y h
  exact ⟨x, h1, h2⟩
structure Tstack_Ctrl where
  op : Int
  end_ : (List Int)
  height : Int
  dead : Bool
def Tstack_Ctrl.C : Cd Tstack_Ctrl := Cd.st (Cd.pair (Cd.int .i64) (Cd.pair (Cd.list (Cd.int .u8)) (Cd.pair (Cd.int .i64) Cd.bool))) (fun x => (x.op, x.end_, x.height, x.dead))
def Tstack_Ctrl.d (x : Tstack_Ctrl) : D := .agg [.int .i64 x.op, .list (x.end_.map (D.int .u8)), .int .i64 x.height, .bool x.dead]
theorem Tstack_Ctrl.dC : Tstack_Ctrl.C.d = Tstack_Ctrl.d := rfl
def Tstack_Ctrl.ok (x : Tstack_Ctrl) : Prop := rng .i64 x.op ∧ (x.end_.length ≤ maxLen ∧ ∀ z ∈ x.end_, rng .u8 z) ∧ rng .i64 x.height ∧ True
theorem Tstack_Ctrl.reads : Reads Tryd.prog 50 Tstack_Ctrl.C Tstack_Ctrl.ok := by
  intro H enc w base spare held fuel cs y h
  obtain ⟨x, h1, h2⟩ := reads_struct (fun x : Tstack_Ctrl => (x.op, x.end_, x.height, x.dead)) (fun p => (⟨p.1, p.2.1, p.2.2.1, p.2.2.2⟩ : Tstack_Ctrl)) (fun _ => rfl) Tryd.underlying50 (by kernel_rfl) (readsF_cons 0 rfl (by kernel_rfl) (reads_int Tryd.underlying3) (readsF_cons 1 rfl (by kernel_rfl) (reads_slice Tryd.underlying25 (by kernel_rfl) (by decide) (reads_int Tryd.underlying5)) (readsF_cons 2 rfl (by kernel_rfl) (reads_int Tryd.underlying3) (readsF_last 3 rfl (by kernel_rfl) (reads_bool Tryd.underlying4))))) H enc w base spare held fuel cs y h
  exact ⟨x, h1, h2⟩
structure Tstack_Stack where
  vals : (List Int)
  ctrls : (List Tstack_Ctrl)
def Tstack_Stack.C : Cd Tstack_Stack := Cd.st (Cd.pair (Cd.list (Cd.int .u8)) (Cd.list Tstack_Ctrl.C)) (fun x => (x.vals, x.ctrls))
def Tstack_Stack.d (x : Tstack_Stack) : D := .agg [.list (x.vals.map (D.int .u8)), .list (x.ctrls.map Tstack_Ctrl.d)]
theorem Tstack_Stack.dC : Tstack_Stack.C.d = Tstack_Stack.d := rfl
def Tstack_Stack.ok (x : Tstack_Stack) : Prop := (x.vals.length ≤ maxLen ∧ ∀ z ∈ x.vals, rng .u8 z) ∧ (x.ctrls.length ≤ maxLen ∧ ∀ z ∈ x.ctrls, Tstack_Ctrl.ok z)
theorem Tstack_Stack.reads : Reads Tryd.prog 47 Tstack_Stack.C Tstack_Stack.ok := by
  intro H enc w base spare held fuel cs y h
  obtain ⟨x, h1, h2⟩ := reads_struct (fun x : Tstack_Stack => (x.vals, x.ctrls)) (fun p => (⟨p.1, p.2⟩ : Tstack_Stack)) (fun _ => rfl) Tryd.underlying47 (by kernel_rfl) (readsF_cons 0 rfl (by kernel_rfl) (reads_slice Tryd.underlying25 (by kernel_rfl) (by decide) (reads_int Tryd.underlying5)) (readsF_last 1 rfl (by kernel_rfl) (reads_slice Tryd.underlying45 (by kernel_rfl) (by decide) Tstack_Ctrl.reads))) H enc w base spare held fuel cs y h
  exact ⟨x, h1, h2⟩
structure Tcheck_Glob where
  val_ : Int
  mut_ : Bool
def Tcheck_Glob.C : Cd Tcheck_Glob := Cd.st (Cd.pair (Cd.int .u8) Cd.bool) (fun x => (x.val_, x.mut_))
def Tcheck_Glob.d (x : Tcheck_Glob) : D := .agg [.int .u8 x.val_, .bool x.mut_]
theorem Tcheck_Glob.dC : Tcheck_Glob.C.d = Tcheck_Glob.d := rfl
def Tcheck_Glob.ok (x : Tcheck_Glob) : Prop := rng .u8 x.val_ ∧ True
theorem Tcheck_Glob.reads : Reads Tryd.prog 66 Tcheck_Glob.C Tcheck_Glob.ok := by
  intro H enc w base spare held fuel cs y h
  obtain ⟨x, h1, h2⟩ := reads_struct (fun x : Tcheck_Glob => (x.val_, x.mut_)) (fun p => (⟨p.1, p.2⟩ : Tcheck_Glob)) (fun _ => rfl) Tryd.underlying66 (by kernel_rfl) (readsF_cons 0 rfl (by kernel_rfl) (reads_int Tryd.underlying5) (readsF_last 1 rfl (by kernel_rfl) (reads_bool Tryd.underlying4))) H enc w base spare held fuel cs y h
  exact ⟨x, h1, h2⟩
structure Tcheck_Env where
  types : (List TFuncType)
  funcs : (List Int)
  tables : Int
  mems : Int
  globals : (List Tcheck_Glob)
  locals : (List Int)
  results : (List Int)
def Tcheck_Env.C : Cd Tcheck_Env := Cd.st (Cd.pair (Cd.list TFuncType.C) (Cd.pair (Cd.list (Cd.int .i64)) (Cd.pair (Cd.int .i64) (Cd.pair (Cd.int .i64) (Cd.pair (Cd.list Tcheck_Glob.C) (Cd.pair (Cd.list (Cd.int .u8)) (Cd.list (Cd.int .u8)))))))) (fun x => (x.types, x.funcs, x.tables, x.mems, x.globals, x.locals, x.results))
def Tcheck_Env.d (x : Tcheck_Env) : D := .agg [.list (x.types.map TFuncType.d), .list (x.funcs.map (D.int .i64)), .int .i64 x.tables, .int .i64 x.mems, .list (x.globals.map Tcheck_Glob.d), .list (x.locals.map (D.int .u8)), .list (x.results.map (D.int .u8))]
theorem Tcheck_Env.dC : Tcheck_Env.C.d = Tcheck_Env.d := rfl
def Tcheck_Env.ok (x : Tcheck_Env) : Prop := (x.types.length ≤ maxLen ∧ ∀ z ∈ x.types, TFuncType.ok z) ∧ (x.funcs.length ≤ maxLen ∧ ∀ z ∈ x.funcs, rng .i64 z) ∧ rng .i64 x.tables ∧ rng .i64 x.mems ∧ (x.globals.length ≤ maxLen ∧ ∀ z ∈ x.globals, Tcheck_Glob.ok z) ∧ (x.locals.length ≤ maxLen ∧ ∀ z ∈ x.locals, rng .u8 z) ∧ (x.results.length ≤ maxLen ∧ ∀ z ∈ x.results, rng .u8 z)
theorem Tcheck_Env.reads : Reads Tryd.prog 38 Tcheck_Env.C Tcheck_Env.ok := by
  intro H enc w base spare held fuel cs y h
  obtain ⟨x, h1, h2⟩ := reads_struct (fun x : Tcheck_Env => (x.types, x.funcs, x.tables, x.mems, x.globals, x.locals, x.results)) (fun p => (⟨p.1, p.2.1, p.2.2.1, p.2.2.2.1, p.2.2.2.2.1, p.2.2.2.2.2.1, p.2.2.2.2.2.2⟩ : Tcheck_Env)) (fun _ => rfl) Tryd.underlying38 (by kernel_rfl) (readsF_cons 0 rfl (by kernel_rfl) (reads_slice Tryd.underlying22 (by kernel_rfl) (by decide) TFuncType.reads) (readsF_cons 1 rfl (by kernel_rfl) (reads_slice Tryd.underlying23 (by kernel_rfl) (by decide) (reads_int Tryd.underlying3)) (readsF_cons 2 rfl (by kernel_rfl) (reads_int Tryd.underlying3) (readsF_cons 3 rfl (by kernel_rfl) (reads_int Tryd.underlying3) (readsF_cons 4 rfl (by kernel_rfl) (reads_slice Tryd.underlying36 (by kernel_rfl) (by decide) Tcheck_Glob.reads) (readsF_cons 5 rfl (by kernel_rfl) (reads_slice Tryd.underlying25 (by kernel_rfl) (by decide) (reads_int Tryd.underlying5)) (readsF_last 6 rfl (by kernel_rfl) (reads_slice Tryd.underlying25 (by kernel_rfl) (by decide) (reads_int Tryd.underlying5))))))))) H enc w base spare held fuel cs y h
  exact ⟨x, h1, h2⟩
end Go.Proofs.YtfpioigggjnffaaDoor.E

/- slices.Backward of bytes: the iterator's contract. -/
set_option autoImplicit false
set_option linter.unusedSimpArgs false
set_option linter.unusedVariables false
namespace Go.Proofs.YtfpioigggjnffaaDoor.E
open Go.RowKit Go.Shelf Go.Ev
attribute [local go_sem] Oper.semAt_some
set_option maxRecDepth 100000 in
set_option maxHeartbeats 2000000 in
theorem back1_ok : BackOk Tryd.prog 82 := by
  refine ⟨enters_of Tryd.func82 (by kernel_rfl) rfl, ?_⟩
  intro n l b J Jx W a len cap hlen hcell hY h0
  refine callsIn_of_wp Tryd.func82 rfl trivial ?_ rfl
  simp only [Tryd.ntmps82, List.size_toArray, List.length_cons, List.length_nil, Nat.reduceAdd, Nat.reduceSub, Array.replicate_succ, Array.replicate_zero, List.push_toArray, List.append_toArray, List.nil_append, List.cons_append]
  gi_wp2
  gi_loopw [3] (fun i wr => ∃ k : Nat, k ≤ len ∧ i = .int .i64 ((k : Int) - 1) ∧ J k wr) (fun i _ => (intOf i + 1).toNat)
  case atStart => exact ⟨len, Nat.le_refl _, rfl, h0⟩
  case round =>
    obtain ⟨k, hk, rfl, hJs⟩ := hrel
    cases k with
    | zero =>
      gi_wp2
      go_end0
      exact ⟨⟨_, rfl⟩, .inl hJs⟩
    | succ k =>
      obtain ⟨bb, o, m, cap', x, g1, g2, g3, fn, tmps, assign, body, hy, hR⟩ := hY k wr (by omega) hJs
      have e1 : (((k + 1 : Nat) : Int) - 1) = (k : Int) := by omega
      rw [e1]
      gi_wp2
      refine ⟨fun h => by simp [Fence.wide] at h, hR.mono ?_⟩
      rintro e W3 (⟨rfl, hJ3⟩ | ⟨rfl, hJx3⟩)
      · gi_wp2
        go_roundw
        case rel => exact ⟨k, by omega, rfl, hJ3⟩
        case measure => simp [intOf]
      · gi_wp2
        refine bodyPost_ret (results_none rfl _ _ _) rfl ?_
        exact ⟨⟨_, rfl⟩, .inr hJx3⟩
end Go.Proofs.YtfpioigggjnffaaDoor.E

/- Laws on numbers' digits. -/
set_option autoImplicit false
set_option linter.unusedSimpArgs false
namespace Go.Ev
theorem ofInt_toNat {w : Nat} {x : Int} (h0 : 0 ≤ x) (h1 : x < 2 ^ w) : (BitVec.ofInt w x).toNat = x.toNat := by
  rw [BitVec.toNat_ofInt]
  congr 1
  exact Int.emod_eq_of_lt h0 (by exact_mod_cast h1)
theorem and_lt64 (a b : Nat) (h : a < 2 ^ 64) : a &&& b < 2 ^ 64 := Nat.lt_of_le_of_lt Nat.and_le_left h
theorem bits_and_u64 {x y : Int} (hx : 0 ≤ x) (hx' : x < 18446744073709551616) (hy : 0 ≤ y) (hy' : y < 18446744073709551616) : bits2 .and .u64 x y = ((x.toNat &&& y.toNat : Nat) : Int) := by
  show IntKind.wrap .u64 ((BitVec.ofInt 64 x &&& BitVec.ofInt 64 y).toNat : Int) = _
  rw [BitVec.toNat_and, ofInt_toNat hx (by simpa using hx'), ofInt_toNat hy (by simpa using hy'), wrap_u64 (by omega)]
  have := and_lt64 x.toNat y.toNat (by omega)
  omega
theorem and_mask32 {x : Int} (hx : 0 ≤ x) (hx' : x < 18446744073709551616) : bits2 .and .u64 x 4294967295 = x % 4294967296 := by
  rw [bits_and_u64 hx hx' (by omega) (by omega)]
  have : x.toNat &&& (4294967295 : Int).toNat = x.toNat % 2 ^ 32 := Nat.and_two_pow_sub_one_eq_mod x.toNat 32
  rw [this]
  omega
theorem shr_u64 {x : Int} (n : Nat) (hn : n ≤ 64) : shr .u64 x n = x / (2 ^ n : Int) := by
  simp only [shr, IntKind.bits, Int.toNat_natCast, Nat.min_eq_left hn]
  rw [Int.fdiv_eq_ediv_of_nonneg _ (by exact Int.le_of_lt (Int.pow_pos (by decide)))]
theorem shr32 {x : Int} : shr .u64 x 32 = x / 4294967296 := shr_u64 32 (by decide)
theorem sizedAll_of {sz : Nat} : ∀ {xs : List D}, (∀ x ∈ xs, ∃ cs, cellsOkD sz x = some cs) → sizedAll sz xs = true
  | [], _ => rfl
  | x :: xs, h => by
    obtain ⟨cs, hc⟩ := h x (by simp)
    simp only [sizedAll, hc, Bool.true_and]
    exact sizedAll_of (fun y hy => h y (by simp [hy]))
theorem sizedAll_map {α : Type} {sz : Nat} {f : α → D} (h : ∀ a, ∃ cs, cellsOkD sz (f a) = some cs) (xs : List α) : sizedAll sz (xs.map f) = true := sizedAll_of fun x hx => by
  obtain ⟨a, _, rfl⟩ := List.mem_map.1 hx
  exact h a
theorem sizedAll_rep {sz n : Nat} {x : D} {cs : List D} (h : cellsOkD sz x = some cs) : sizedAll sz (List.replicate n x) = true := sizedAll_of fun y hy => by
  rw [List.eq_of_mem_replicate hy]
  exact ⟨cs, h⟩
theorem and_low_i64 {x : Int} {n : Nat} (hn : n ≤ 62) : bits2 .and .i64 x (2 ^ n - 1 : Nat) = x % (2 ^ n : Nat) := by
  show IntKind.wrap .i64 ((BitVec.ofInt 64 x &&& BitVec.ofInt 64 ((2 ^ n - 1 : Nat) : Int)).toNat : Int) = _
  have hp : 2 ^ n ≤ 2 ^ 62 := Nat.pow_le_pow_right (by decide) hn
  have hp0 : 0 < 2 ^ n := Nat.pow_pos (by decide)
  have h1 : (BitVec.ofInt 64 ((2 ^ n - 1 : Nat) : Int)).toNat = 2 ^ n - 1 := by
    rw [ofInt_toNat (by omega) (by omega)]; omega
  rw [BitVec.toNat_and, h1, Nat.and_two_pow_sub_one_eq_mod, BitVec.toNat_ofInt]
  have h2 : ((x % ((2 ^ 64 : Nat) : Int)).toNat % 2 ^ n : Nat) = ((x % ((2 ^ n : Nat) : Int)).toNat) := by
    have hd : ((2 ^ n : Nat) : Int) ∣ ((2 ^ 64 : Nat) : Int) := by exact_mod_cast Nat.pow_dvd_pow 2 (by omega)
    have h3 : ((x % ((2 ^ 64 : Nat) : Int)) % ((2 ^ n : Nat) : Int)) = x % ((2 ^ n : Nat) : Int) := Int.emod_emod_of_dvd x hd
    have h4 : 0 ≤ x % ((2 ^ 64 : Nat) : Int) := Int.emod_nonneg _ (by decide)
    rw [← h3]
    generalize x % ((2 ^ 64 : Nat) : Int) = y at h4
    obtain ⟨m, rfl⟩ := Int.eq_ofNat_of_zero_le h4
    rw [Int.toNat_natCast, ← Int.natCast_emod, Int.toNat_natCast]
  rw [h2]
  have h5 : 0 ≤ x % ((2 ^ n : Nat) : Int) := Int.emod_nonneg _ (by omega)
  have h6 : x % ((2 ^ n : Nat) : Int) < ((2 ^ n : Nat) : Int) := Int.emod_lt_of_pos _ (by omega)
  rw [wrap_i64 (by omega) (by omega)]
  omega
theorem and_ffff {x : Int} : bits2 .and .i64 x 65535 = x % 65536 := and_low_i64 (x := x) (n := 16) (by decide)
theorem and_63 {x : Int} : bits2 .and .i64 x 63 = x % 64 := and_low_i64 (x := x) (n := 6) (by decide)
theorem bne_tt : (true != true) = false := rfl
theorem bne_ff : (false != false) = false := rfl
theorem bne_tf : (true != false) = true := rfl
theorem bne_ft : (false != true) = true := rfl
attribute [go_sem] bne_tt bne_ff bne_tf bne_ft
end Go.Ev
