/- ETi. -/
import Derived.Test.YtfpioigggjnffaaGreatDoorProg
import Derived.Test.YtfpioigggjnffaaGreatDoorEvR
import Derived.KernelRfl
set_option linter.unnecessarySimpa false
set_option linter.unusedSimpArgs false
set_option linter.unusedVariables false
set_option maxRecDepth 100000
namespace Go.Proofs.YtfpioigggjnffaaGreatDoor.E
open Go.Ev
theorem ti2:tiOf Tryz.prog 2=some ⟨1,false,8,[.d (.int .i64 0)], .int .i64⟩:=by kernel_rfl
theorem ti3:tiOf Tryz.prog 3=some ⟨1,false,8,[.d (.int .i64 0)], .int .i64⟩:=by kernel_rfl
theorem ti4:tiOf Tryz.prog 4=some ⟨1,false,1,[.d (.bool false)], .bool⟩:=by kernel_rfl
theorem ti5:tiOf Tryz.prog 5=some ⟨1,false,1,[.d (.int .u8 0)], .int .u8⟩:=by kernel_rfl
theorem ti9:tiOf Tryz.prog 9=some ⟨1,false,16,[.d (.str [])], .str⟩:=by kernel_rfl
theorem ti20:tiOf Tryz.prog 20=some ⟨1,false,16,[.dead], .other⟩:=by kernel_rfl
theorem ti21:tiOf Tryz.prog 21=some ⟨1,false,4,[.d (.int .i32 0)], .int .i32⟩:=by kernel_rfl
theorem ti22:tiOf Tryz.prog 22=some ⟨1,false,24,[.nilsl], .slice 51⟩:=by kernel_rfl
theorem ti23:tiOf Tryz.prog 23=some ⟨1,false,24,[.nilsl], .slice 3⟩:=by kernel_rfl
theorem ti24:tiOf Tryz.prog 24=some ⟨1,false,24,[.nilsl], .slice 112⟩:=by kernel_rfl
theorem ti25:tiOf Tryz.prog 25=some ⟨1,false,24,[.nilsl], .slice 5⟩:=by kernel_rfl
theorem ti27:tiOf Tryz.prog 27=some ⟨7,true,136,[.nilsl, .nilsl, .d (.int .i64 0), .d (.int .i64 0), .nilsl, .nilsl, .nilsl], .struct [(0,1),(1,1),(2,1),(3,1),(4,1),(5,1),(6,1)]⟩:=by kernel_rfl
theorem ti28:tiOf Tryz.prog 28=some ⟨1,false,24,[.nilsl], .slice 102⟩:=by kernel_rfl
theorem ti30:tiOf Tryz.prog 30=some ⟨2,true,48,[.nilsl, .nilsl], .struct [(0,1),(1,1)]⟩:=by kernel_rfl
theorem ti31:tiOf Tryz.prog 31=some ⟨1,false,8,[.d (.int .u64 0)], .int .u64⟩:=by kernel_rfl
theorem ti33:tiOf Tryz.prog 33=some ⟨5,true,56,[.d (.int .i64 0), .d (.int .i64 0), .d (.int .i64 0), .d (.int .u64 0), .nilsl], .struct [(0,1),(1,1),(2,1),(3,1),(4,1)]⟩:=by kernel_rfl
theorem ti37:tiOf Tryz.prog 37=some ⟨1,false,24,[.nilsl], .slice 114⟩:=by kernel_rfl
theorem ti39:tiOf Tryz.prog 39=some ⟨2,true,48,[.nilsl, .nilsl], .struct [(0,1),(1,1)]⟩:=by kernel_rfl
theorem ti40:tiOf Tryz.prog 40=some ⟨1,false,8,[.d (.int .i64 0)], .int .i64⟩:=by kernel_rfl
theorem ti43:tiOf Tryz.prog 43=some ⟨1,false,24,[.nilsl], .slice 113⟩:=by kernel_rfl
theorem ti45:tiOf Tryz.prog 45=some ⟨7,true,136,[.nilsl, .nilsl, .d (.int .i64 0), .d (.int .i64 0), .nilsl, .nilsl, .nilsl], .struct [(0,1),(1,1),(2,1),(3,1),(4,1),(5,1),(6,1)]⟩:=by kernel_rfl
theorem ti51:tiOf Tryz.prog 51=some ⟨2,true,48,[.nilsl, .nilsl], .struct [(0,1),(1,1)]⟩:=by kernel_rfl
theorem ti58:tiOf Tryz.prog 58=some ⟨1,false,24,[.nilsl], .slice 33⟩:=by kernel_rfl
theorem ti60:tiOf Tryz.prog 60=some ⟨1,false,24,[.nilsl], .slice 39⟩:=by kernel_rfl
theorem ti69:tiOf Tryz.prog 69=some ⟨1,false,24,[.nilsl], .slice 80⟩:=by kernel_rfl
theorem ti71:tiOf Tryz.prog 71=some ⟨4,true,96,[.nilsl, .nilsl, .nilsl, .nilsl], .struct [(0,1),(1,1),(2,1),(3,1)]⟩:=by kernel_rfl
theorem ti80:tiOf Tryz.prog 80=some ⟨4,true,32,[.d (.int .i64 0), .d (.int .i64 0), .d (.int .i64 0), .d (.int .i64 0)], .struct [(0,1),(1,1),(2,1),(3,1)]⟩:=by kernel_rfl
theorem ti102:tiOf Tryz.prog 102=some ⟨4,true,48,[.d (.int .i64 0), .nilsl, .d (.int .i64 0), .d (.bool false)], .struct [(0,1),(1,1),(2,1),(3,1)]⟩:=by kernel_rfl
theorem ti104:tiOf Tryz.prog 104=some ⟨1,false,8,[.nilfn], .func⟩:=by kernel_rfl
theorem ti105:tiOf Tryz.prog 105=some ⟨1,false,8,[.nilp], .ptr 107⟩:=by kernel_rfl
theorem ti107:tiOf Tryz.prog 107=some ⟨10,true,192,[.nilsl, .nilsl, .d (.int .i64 0), .d (.int .i64 0), .nilsl, .nilsl, .nilsl, .nilsl, .nilsl, .d (.int .i64 0)], .struct [(0,7),(7,2),(9,1)]⟩:=by kernel_rfl
theorem ti108:tiOf Tryz.prog 108=some ⟨1,false,8,[.nilfn], .func⟩:=by kernel_rfl
theorem ti112:tiOf Tryz.prog 112=some ⟨2,true,2,[.d (.int .u8 0), .d (.bool false)], .struct [(0,1),(1,1)]⟩:=by kernel_rfl
theorem ti113:tiOf Tryz.prog 113=some ⟨2,true,2,[.d (.int .u8 0), .d (.bool false)], .struct [(0,1),(1,1)]⟩:=by kernel_rfl
theorem ti114:tiOf Tryz.prog 114=some ⟨4,true,48,[.d (.int .i64 0), .nilsl, .d (.int .i64 0), .d (.bool false)], .struct [(0,1),(1,1),(2,1),(3,1)]⟩:=by kernel_rfl
theorem ti127:tiOf Tryz.prog 127=some ⟨1,false,24,[.nilsl], .slice 187⟩:=by kernel_rfl
theorem ti142:tiOf Tryz.prog 142=some ⟨1,false,8,[.nilp], .ptr 144⟩:=by kernel_rfl
theorem ti144:tiOf Tryz.prog 144=some ⟨7,true,168,[.nilsl, .nilsl, .nilsl, .nilsl, .nilsl, .nilsl, .nilsl], .struct [(0,4),(4,1),(5,1),(6,1)]⟩:=by kernel_rfl
theorem ti152:tiOf Tryz.prog 152=some ⟨1,false,8,[.nilfn], .func⟩:=by kernel_rfl
theorem ti154:tiOf Tryz.prog 154=some ⟨1,false,8,[.nilfn], .func⟩:=by kernel_rfl
theorem ti158:tiOf Tryz.prog 158=some ⟨1,false,8,[.nilp], .ptr 160⟩:=by kernel_rfl
theorem ti160:tiOf Tryz.prog 160=some ⟨3,true,40,[.nilsl, .d (.int .i64 0), .d (.int .i64 0)], .struct [(0,1),(1,1),(2,1)]⟩:=by kernel_rfl
theorem ti164:tiOf Tryz.prog 164=some ⟨1,false,4,[.d (.int .u32 0)], .int .u32⟩:=by kernel_rfl
theorem ti167:tiOf Tryz.prog 167=some ⟨1,false,8,[.nilfn], .func⟩:=by kernel_rfl
theorem ti170:tiOf Tryz.prog 170=some ⟨3,true,24,[.d (.int .i64 0), .d (.int .i64 0), .d (.int .i64 0)], .struct [(0,1),(1,1),(2,1)]⟩:=by kernel_rfl
theorem ti171:tiOf Tryz.prog 171=some ⟨63,true,504,[.d (.int .i64 0), .d (.int .i64 0), .d (.int .i64 0), .d (.int .i64 0), .d (.int .i64 0), .d (.int .i64 0), .d (.int .i64 0), .d (.int .i64 0), .d (.int .i64 0), .d (.int .i64 0), .d (.int .i64 0), .d (.int .i64 0), .d (.int .i64 0), .d (.int .i64 0), .d (.int .i64 0), .d (.int .i64 0), .d (.int .i64 0), .d (.int .i64 0), .d (.int .i64 0), .d (.int .i64 0), .d (.int .i64 0), .d (.int .i64 0), .d (.int .i64 0), .d (.int .i64 0), .d (.int .i64 0), .d (.int .i64 0), .d (.int .i64 0), .d (.int .i64 0), .d (.int .i64 0), .d (.int .i64 0), .d (.int .i64 0), .d (.int .i64 0), .d (.int .i64 0), .d (.int .i64 0), .d (.int .i64 0), .d (.int .i64 0), .d (.int .i64 0), .d (.int .i64 0), .d (.int .i64 0), .d (.int .i64 0), .d (.int .i64 0), .d (.int .i64 0), .d (.int .i64 0), .d (.int .i64 0), .d (.int .i64 0), .d (.int .i64 0), .d (.int .i64 0), .d (.int .i64 0), .d (.int .i64 0), .d (.int .i64 0), .d (.int .i64 0), .d (.int .i64 0), .d (.int .i64 0), .d (.int .i64 0), .d (.int .i64 0), .d (.int .i64 0), .d (.int .i64 0), .d (.int .i64 0), .d (.int .i64 0), .d (.int .i64 0), .d (.int .i64 0), .d (.int .i64 0), .d (.int .i64 0)], .arr 21 170⟩:=by kernel_rfl
theorem ti183:tiOf Tryz.prog 183=some ⟨1,false,8,[.d (.int .u64 0)], .int .u64⟩:=by kernel_rfl
theorem ti187:tiOf Tryz.prog 187=some ⟨2,true,16,[.d (.int .i64 0), .d (.int .i64 0)], .struct [(0,1),(1,1)]⟩:=by kernel_rfl
theorem ti190:tiOf Tryz.prog 190=some ⟨2,true,16,[.d (.int .i64 0), .d (.int .i64 0)], .struct [(0,1),(1,1)]⟩:=by kernel_rfl
theorem ti191:tiOf Tryz.prog 191=some ⟨1,false,8,[.nilfn], .func⟩:=by kernel_rfl
theorem ti197:tiOf Tryz.prog 197=some ⟨1,false,8,[.nilp], .ptr 114⟩:=by kernel_rfl
theorem ti199:tiOf Tryz.prog 199=some ⟨3,true,56,[.nilsl, .nilsl, .nilp], .struct [(0,2),(2,1)]⟩:=by kernel_rfl
theorem ti203:tiOf Tryz.prog 203=some ⟨1,false,8,[.nilp], .ptr 206⟩:=by kernel_rfl
theorem ti204:tiOf Tryz.prog 204=some ⟨1,false,24,[.nilsl], .slice 190⟩:=by kernel_rfl
theorem ti206:tiOf Tryz.prog 206=some ⟨1,true,24,[.nilsl], .struct [(0,1)]⟩:=by kernel_rfl
theorem ti211:tiOf Tryz.prog 211=some ⟨1,false,8,[.nilfn], .func⟩:=by kernel_rfl
theorem ti221:tiOf Tryz.prog 221=some ⟨3,true,24,[.nilp, .nilp, .d (.int .u64 0)], .struct [(0,1),(1,1),(2,1)]⟩:=by kernel_rfl
theorem ti226:tiOf Tryz.prog 226=some ⟨2,true,16,[.nilfn, .nilfn], .struct [(0,1),(1,1)]⟩:=by kernel_rfl
theorem ti234:tiOf Tryz.prog 234=some ⟨1,false,8,[.nilfn], .func⟩:=by kernel_rfl
theorem ti247:tiOf Tryz.prog 247=some ⟨1,false,8,[.nilp], .ptr 199⟩:=by kernel_rfl
theorem ti248:tiOf Tryz.prog 248=some ⟨1,false,8,[.nilfn], .func⟩:=by kernel_rfl
theorem ti249:tiOf Tryz.prog 249=some ⟨1,false,8,[.nilfn], .func⟩:=by kernel_rfl
theorem ti252:tiOf Tryz.prog 252=some ⟨1,false,8,[.nilfn], .func⟩:=by kernel_rfl
theorem ti270:tiOf Tryz.prog 270=some ⟨4,true,24,[.d (.int .u8 0), .d (.int .i64 0), .d (.bool false), .d (.bool false)], .struct [(0,1),(1,1),(2,1),(3,1)]⟩:=by kernel_rfl
theorem ti271:tiOf Tryz.prog 271=some ⟨92,true,552,[.d (.int .u8 0), .d (.int .i64 0), .d (.bool false), .d (.bool false), .d (.int .u8 0), .d (.int .i64 0), .d (.bool false), .d (.bool false), .d (.int .u8 0), .d (.int .i64 0), .d (.bool false), .d (.bool false), .d (.int .u8 0), .d (.int .i64 0), .d (.bool false), .d (.bool false), .d (.int .u8 0), .d (.int .i64 0), .d (.bool false), .d (.bool false), .d (.int .u8 0), .d (.int .i64 0), .d (.bool false), .d (.bool false), .d (.int .u8 0), .d (.int .i64 0), .d (.bool false), .d (.bool false), .d (.int .u8 0), .d (.int .i64 0), .d (.bool false), .d (.bool false), .d (.int .u8 0), .d (.int .i64 0), .d (.bool false), .d (.bool false), .d (.int .u8 0), .d (.int .i64 0), .d (.bool false), .d (.bool false), .d (.int .u8 0), .d (.int .i64 0), .d (.bool false), .d (.bool false), .d (.int .u8 0), .d (.int .i64 0), .d (.bool false), .d (.bool false), .d (.int .u8 0), .d (.int .i64 0), .d (.bool false), .d (.bool false), .d (.int .u8 0), .d (.int .i64 0), .d (.bool false), .d (.bool false), .d (.int .u8 0), .d (.int .i64 0), .d (.bool false), .d (.bool false), .d (.int .u8 0), .d (.int .i64 0), .d (.bool false), .d (.bool false), .d (.int .u8 0), .d (.int .i64 0), .d (.bool false), .d (.bool false), .d (.int .u8 0), .d (.int .i64 0), .d (.bool false), .d (.bool false), .d (.int .u8 0), .d (.int .i64 0), .d (.bool false), .d (.bool false), .d (.int .u8 0), .d (.int .i64 0), .d (.bool false), .d (.bool false), .d (.int .u8 0), .d (.int .i64 0), .d (.bool false), .d (.bool false), .d (.int .u8 0), .d (.int .i64 0), .d (.bool false), .d (.bool false), .d (.int .u8 0), .d (.int .i64 0), .d (.bool false), .d (.bool false)], .arr 23 270⟩:=by kernel_rfl
theorem ti284:tiOf Tryz.prog 284=some ⟨1,false,8,[.nilp], .ptr 3⟩:=by kernel_rfl
theorem ti288:tiOf Tryz.prog 288=some ⟨1,false,24,[.nilsl], .slice 25⟩:=by kernel_rfl
attribute [go_sem] ti2 ti3 ti4 ti5 ti9 ti20 ti21 ti22 ti23 ti24 ti25 ti27 ti28 ti30 ti31 ti33 ti37 ti39 ti40 ti43 ti45 ti51 ti58 ti60 ti69 ti71 ti80 ti102 ti104 ti105 ti107 ti108 ti112 ti113 ti114 ti127 ti142 ti144 ti152 ti154 ti158 ti160 ti164 ti167 ti170 ti171 ti183 ti187 ti190 ti191 ti197 ti199 ti203 ti204 ti206 ti211 ti221 ti226 ti234 ti247 ti248 ti249 ti252 ti270 ti271 ti284 ti288
end Go.Proofs.YtfpioigggjnffaaGreatDoor.E
