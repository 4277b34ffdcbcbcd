/- F2B. -/
import Derived.Test.YtfpioigggjnffaaGreatDoorQ13
set_option linter.unnecessarySimpa false
set_option linter.unusedSimpArgs false
set_option linter.unusedVariables false
set_option autoImplicit false
set_option maxRecDepth 100000
set_option maxHeartbeats 4000000
set_option pp.maxSteps 20000
namespace Go.Proofs.YtfpioigggjnffaaGreatDoor.E
open Go.Ev
theorem if_evR (fu n:Nat) (l:List TInstr) (k:Int) (h0:0≤k) (hk:k<l.length):evF (G fu) (n+1) 134 [.d (.int .i64 k), .ptr 0 0] [.cells [.row 1 0 0 l.length], .row 5 (l.map TInstr.d) 0 false false]=some (.d (.bool (ifAt l k)),[.cells [.row 1 0 0 l.length], .row 5 (l.map TInstr.d) 0 false false]):=by
 rw[evF.eq_2,evX.eq_def,Gext,exts_no _ (f:=134) (by decide),GP,Tryz.func134];simp only[Tryz.f134,evB]
 simp only[go_sem,seval, -Nat.reduceSubDiff,↓reduceIte,reduceCtorEq,idx,h0,hk,getD_map (d:=in0) (show k.toNat<l.length by omega),TInstr.d]<;>rfl
section
variable (fu n:Nat) (l:List TInstr) (k:Int) (i:TInstr) (h:21<fu)
include h
theorem step_nil_open0 (ho:opensB i.op=true):evF (G fu) (n+3) 133 [.ptr 0 0, .d (.int .i64 k), .d i.d, .fn (.func 134) [] [.ptr 1 0]] [.cells [.nilsl], .cells [.nilsl]]=
 some (.tup [.d (.int .i64 0), .d (nestD (0,0)), .d (.bool true)],[.cells [.row 2 0 0 1], .cells [.nilsl], .row 2 [nestD (k, -1)] 0 false false]):=by
 rw[evF.eq_2,evX.eq_def,Gext,exts_no _ (f:=133) (by decide),GP,Tryz.func133];simp only[Tryz.f133,evB]
 simp only[go_sem,seval, -Nat.reduceSubDiff,↓reduceIte,reduceCtorEq,TInstr.d,opens_ev fu n _ _ _ _ _ h,ho]<;>rfl
theorem step_nil_openR (ho:opensB i.op=true):evF (G fu) (n+3) 133 [.ptr 0 0, .d (.int .i64 k), .d i.d, .fn (.func 134) [] [.ptr 1 0]] [.cells [.nilsl], .cells [.row 2 0 0 l.length], .row 5 (l.map TInstr.d) 0 false false]=
 some (.tup [.d (.int .i64 0), .d (nestD (0,0)), .d (.bool true)],[.cells [.row 3 0 0 1], .cells [.row 2 0 0 l.length], .row 5 (l.map TInstr.d) 0 false false, .row 2 [nestD (k, -1)] 0 false false]):=by
 rw[evF.eq_2,evX.eq_def,Gext,exts_no _ (f:=133) (by decide),GP,Tryz.func133];simp only[Tryz.f133,evB]
 simp only[go_sem,seval, -Nat.reduceSubDiff,↓reduceIte,reduceCtorEq,TInstr.d,opens_ev fu n _ _ _ _ _ h,ho]<;>rfl
theorem step_nil_plain0 (ho:opensB i.op=false) (h5:i.op≠5) (h11:i.op≠11):evF (G fu) (n+3) 133 [.ptr 0 0, .d (.int .i64 k), .d i.d, .fn (.func 134) [] [.ptr 1 0]] [.cells [.nilsl], .cells [.nilsl]]=
 some (.tup [.d (.int .i64 0), .d (nestD (0,0)), .d (.bool true)],[.cells [.nilsl], .cells [.nilsl]]):=by
 rw[evF.eq_2,evX.eq_def,Gext,exts_no _ (f:=133) (by decide),GP,Tryz.func133];simp only[Tryz.f133,evB]
 simp only[go_sem,seval, -Nat.reduceSubDiff,↓reduceIte,reduceCtorEq,TInstr.d,opens_ev fu n _ _ _ _ _ h,ho,h5,h11]<;>rfl
theorem step_nil_plainR (ho:opensB i.op=false) (h5:i.op≠5) (h11:i.op≠11):evF (G fu) (n+3) 133 [.ptr 0 0, .d (.int .i64 k), .d i.d, .fn (.func 134) [] [.ptr 1 0]] [.cells [.nilsl], .cells [.row 2 0 0 l.length], .row 5 (l.map TInstr.d) 0 false false]=
 some (.tup [.d (.int .i64 0), .d (nestD (0,0)), .d (.bool true)],[.cells [.nilsl], .cells [.row 2 0 0 l.length], .row 5 (l.map TInstr.d) 0 false false]):=by
 rw[evF.eq_2,evX.eq_def,Gext,exts_no _ (f:=133) (by decide),GP,Tryz.func133];simp only[Tryz.f133,evB]
 simp only[go_sem,seval, -Nat.reduceSubDiff,↓reduceIte,reduceCtorEq,TInstr.d,opens_ev fu n _ _ _ _ _ h,ho,h5,h11]<;>rfl
theorem step_nil_bare0 (h5:i.op=5∨i.op=11):evF (G fu) (n+3) 133 [.ptr 0 0, .d (.int .i64 k), .d i.d, .fn (.func 134) [] [.ptr 1 0]] [.cells [.nilsl], .cells [.nilsl]]=
 some (.tup [.d (.int .i64 0), .d (nestD (0,0)), .d (.bool false)],[.cells [.nilsl], .cells [.nilsl]]):=by
 rw[evF.eq_2,evX.eq_def,Gext,exts_no _ (f:=133) (by decide),GP,Tryz.func133];simp only[Tryz.f133,evB]
 rcases h5 with h5|h5<;>simp only[go_sem,seval, -Nat.reduceSubDiff,↓reduceIte,reduceCtorEq,TInstr.d,opens_ev fu n _ _ _ _ _ h,opens5,opens11,h5]<;>rfl
theorem step_nil_bareR (h5:i.op=5∨i.op=11):evF (G fu) (n+3) 133 [.ptr 0 0, .d (.int .i64 k), .d i.d, .fn (.func 134) [] [.ptr 1 0]] [.cells [.nilsl], .cells [.row 2 0 0 l.length], .row 5 (l.map TInstr.d) 0 false false]=
 some (.tup [.d (.int .i64 0), .d (nestD (0,0)), .d (.bool false)],[.cells [.nilsl], .cells [.row 2 0 0 l.length], .row 5 (l.map TInstr.d) 0 false false]):=by
 rw[evF.eq_2,evX.eq_def,Gext,exts_no _ (f:=133) (by decide),GP,Tryz.func133];simp only[Tryz.f133,evB]
 rcases h5 with h5|h5<;>simp only[go_sem,seval, -Nat.reduceSubDiff,↓reduceIte,reduceCtorEq,TInstr.d,opens_ev fu n _ _ _ _ _ h,opens5,opens11,h5]<;>rfl
variable (m:Nat) (xs:List D)
theorem step_row_openR (ho:opensB i.op=true) (hm:m<1000000):evF (G fu) (n+3) 133 [.ptr 0 0, .d (.int .i64 k), .d i.d, .fn (.func 134) [] [.ptr 2 0]] [.cells [.row 1 0 0 m], .row 2 xs 0 false false, .cells [.row 3 0 0 l.length], .row 5 (l.map TInstr.d) 0 false false]=
 some (.tup [.d (.int .i64 m), .d (nestD (0,0)), .d (.bool true)],[.cells [.row 1 0 0 (m+1)], .row 2 (xs.take m++[nestD (k, -1)]) 0 false true, .cells [.row 3 0 0 l.length], .row 5 (l.map TInstr.d) 0 false false]):=by
 rw[evF.eq_2,evX.eq_def,Gext,exts_no _ (f:=133) (by decide),GP,Tryz.func133];simp only[Tryz.f133,evB]
 simp only[go_sem,seval, -Nat.reduceSubDiff,↓reduceIte,reduceCtorEq,TInstr.d,opens_ev fu n _ _ _ _ _ h,ho,show m+1≤1099511627776 by omega]<;>rfl
theorem step_row_plainR (ho:opensB i.op=false) (h5:i.op≠5) (h11:i.op≠11):evF (G fu) (n+3) 133 [.ptr 0 0, .d (.int .i64 k), .d i.d, .fn (.func 134) [] [.ptr 2 0]] [.cells [.row 1 0 0 m], .row 2 xs 0 false false, .cells [.row 3 0 0 l.length], .row 5 (l.map TInstr.d) 0 false false]=
 some (.tup [.d (.int .i64 m), .d (nestD (0,0)), .d (.bool true)],[.cells [.row 1 0 0 m], .row 2 xs 0 false false, .cells [.row 3 0 0 l.length], .row 5 (l.map TInstr.d) 0 false false]):=by
 rw[evF.eq_2,evX.eq_def,Gext,exts_no _ (f:=133) (by decide),GP,Tryz.func133];simp only[Tryz.f133,evB]
 simp only[go_sem,seval, -Nat.reduceSubDiff,↓reduceIte,reduceCtorEq,TInstr.d,opens_ev fu n _ _ _ _ _ h,ho,h5,h11]<;>rfl
theorem step_row_bareR (h5:i.op=5∨i.op=11):evF (G fu) (n+3) 133 [.ptr 0 0, .d (.int .i64 k), .d i.d, .fn (.func 134) [] [.ptr 2 0]] [.cells [.row 1 0 0 0], .row 2 xs 0 false false, .cells [.row 3 0 0 l.length], .row 5 (l.map TInstr.d) 0 false false]=
 some (.tup [.d (.int .i64 0), .d (nestD (0,0)), .d (.bool false)],[.cells [.row 1 0 0 0], .row 2 xs 0 false false, .cells [.row 3 0 0 l.length], .row 5 (l.map TInstr.d) 0 false false]):=by
 rw[evF.eq_2,evX.eq_def,Gext,exts_no _ (f:=133) (by decide),GP,Tryz.func133];simp only[Tryz.f133,evB]
 rcases h5 with h5|h5<;>simp only[go_sem,seval, -Nat.reduceSubDiff,↓reduceIte,reduceCtorEq,TInstr.d,opens_ev fu n _ _ _ _ _ h,opens5,opens11,h5]<;>rfl
theorem step_row_popR (a b:Int) (hx:xs[m]? =some (nestD (a,b))) (hm:m<1000000) (h11:i.op=11):evF (G fu) (n+3) 133 [.ptr 0 0, .d (.int .i64 k), .d i.d, .fn (.func 134) [] [.ptr 2 0]] [.cells [.row 1 0 0 (m+1)], .row 2 xs 0 false false, .cells [.row 3 0 0 l.length], .row 5 (l.map TInstr.d) 0 false false]=
 some (.tup [.d (.int .i64 m), .d (nestD (a,b)), .d (.bool true)],[.cells [.row 1 0 0 m], .row 2 xs 0 false false, .cells [.row 3 0 0 l.length], .row 5 (l.map TInstr.d) 0 false false]):=by
 rw[evF.eq_2,evX.eq_def,Gext,exts_no _ (f:=133) (by decide),GP,Tryz.func133];simp only[Tryz.f133,evB]
 simp only[go_sem,seval, -Nat.reduceSubDiff,↓reduceIte,reduceCtorEq,TInstr.d,opens_ev fu n _ _ _ _ _ h,opens11,h11,show((m+1:Nat):Int)≠0 by omega,show((m+1:Nat):Int)-1=m by omega,wrap_i64 (show-9223372036854775808≤(m:Int) by omega) (by omega),show(m:Int)<((m+1:Nat):Int) by omega,show(m:Int)≤((m+1:Nat):Int) by omega,hx,nestD,Int.sub_zero,Int.toNat_zero]
 rw[cond_free]
 ·simp only[go_sem,seval, -Nat.reduceSubDiff,↓reduceIte,reduceCtorEq]<;>rfl
 ·rfl
theorem step_row_elseR (a b:Int) (hx:xs[m]? =some (nestD (a,b))) (hm:m<1000000) (h5:i.op=5) (ha:0≤a) (hl:a<l.length):evF (G fu) (n+3) 133 [.ptr 0 0, .d (.int .i64 k), .d i.d, .fn (.func 134) [] [.ptr 2 0]] [.cells [.row 1 0 0 (m+1)], .row 2 xs 0 false false, .cells [.row 3 0 0 l.length], .row 5 (l.map TInstr.d) 0 false false]=
 if b= -1∧ifAt l a=true then some (.tup [.d (.int .i64 m), .d (nestD (a,b)), .d (.bool true)],[.cells [.row 1 0 0 (m+1)], .row 2 (xs.set m (nestD (a,k))) 0 false false, .cells [.row 3 0 0 l.length], .row 5 (l.map TInstr.d) 0 false false])
 else some (.tup [.d (.int .i64 0), .d (nestD (0,0)), .d (.bool false)],[.cells [.row 1 0 0 (m+1)], .row 2 xs 0 false false, .cells [.row 3 0 0 l.length], .row 5 (l.map TInstr.d) 0 false false]):=by
 rw[evF.eq_2,evX.eq_def,Gext,exts_no _ (f:=133) (by decide),GP,Tryz.func133];simp only[Tryz.f133,evB]
 by_cases hb:b= -1
 ·by_cases hi:ifAt l a=true
  ·simp only[go_sem,seval, -Nat.reduceSubDiff,↓reduceIte,reduceCtorEq,TInstr.d,opens_ev fu n _ _ _ _ _ h,opens5,h5,show((m+1:Nat):Int)≠0 by omega,show((m+1:Nat):Int)-1=m by omega,wrap_i64 (show-9223372036854775808≤(m:Int) by omega) (by omega),show(m:Int)<((m+1:Nat):Int) by omega,show(m:Int)≤((m+1:Nat):Int) by omega,hx,nestD,Int.sub_zero,Int.toNat_zero,hb,if_evR fu (n+1) l a ha hl,hi]
   rw[cond_free]
   ·simp only[go_sem,seval, -Nat.reduceSubDiff,↓reduceIte,reduceCtorEq]<;>rfl
   ·rfl
  ·simp only[go_sem,seval, -Nat.reduceSubDiff,↓reduceIte,reduceCtorEq,TInstr.d,opens_ev fu n _ _ _ _ _ h,opens5,h5,show((m+1:Nat):Int)≠0 by omega,show((m+1:Nat):Int)-1=m by omega,wrap_i64 (show-9223372036854775808≤(m:Int) by omega) (by omega),show(m:Int)<((m+1:Nat):Int) by omega,show(m:Int)≤((m+1:Nat):Int) by omega,hx,nestD,Int.sub_zero,Int.toNat_zero,hb,if_evR fu (n+1) l a ha hl,hi]<;>rfl
 ·simp only[go_sem,seval, -Nat.reduceSubDiff,↓reduceIte,reduceCtorEq,TInstr.d,opens_ev fu n _ _ _ _ _ h,opens5,h5,show((m+1:Nat):Int)≠0 by omega,show((m+1:Nat):Int)-1=m by omega,wrap_i64 (show-9223372036854775808≤(m:Int) by omega) (by omega),show(m:Int)<((m+1:Nat):Int) by omega,show(m:Int)≤((m+1:Nat):Int) by omega,hx,nestD,Int.sub_zero,Int.toNat_zero,hb]<;>rfl
end
end Go.Proofs.YtfpioigggjnffaaGreatDoor.E
