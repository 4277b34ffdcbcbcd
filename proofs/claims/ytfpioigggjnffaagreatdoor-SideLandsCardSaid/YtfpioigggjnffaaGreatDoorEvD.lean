/- EvD, EvB, EvM, EvX, EvC. -/
import Derived.Test.YtfpioigggjnffaaGreatDoorEvR
import Derived.Test.YtfpioigggjnffaaGreatDoorEvP
import Derived.Test.YtfpioigggjnffaaGreatDoorEvSc
import Derived.RangeFuncBox
import Derived.Shelf.RegionOpen
import Derived.WalkKit
import Derived.OwnWalkIn
import Derived.TacticsInMore
import Derived.LoopNIn
import Derived.LoopIn
import Derived.Test.YtfpioigggjnffaaGreatDoorEvL
set_option linter.unnecessarySimpa false
set_option linter.unusedSimpArgs false
set_option linter.unusedVariables false
set_option autoImplicit false
namespace Go.Proofs.YtfpioigggjnffaaGreatDoor.E
open Go.Ev
structure TFuncType where
 params:(List Int)
 results:(List Int)
def TFuncType.C:Cd TFuncType:=Cd.st (Cd.pair (Cd.list (Cd.int .u8)) (Cd.list (Cd.int .u8))) (fun x=>(x.params,x.results))
def TFuncType.d (x:TFuncType):D:= .agg [.list (x.params.map (D.int .u8)), .list (x.results.map (D.int .u8))]
def TFuncType.ok (x:TFuncType):Prop:=(x.params.length≤maxLen∧∀z∈x.params,rng .u8 z)∧(x.results.length≤maxLen∧∀z∈x.results,rng .u8 z)
theorem TFuncType.reads:Reads Tryz.prog 51 TFuncType.C TFuncType.ok:=by
 intro H enc w base spare held fuel cs y h
 obtain⟨x,h1,h2⟩:=reads_struct (fun x:TFuncType=>(x.params,x.results)) (fun p=>(⟨p.1,p.2⟩:TFuncType)) (fun _=>rfl) Tryz.underlying51 (by kernel_rfl) (readsF_cons 0 rfl (by kernel_rfl) (reads_slice Tryz.underlying25 (by kernel_rfl) (by decide) (reads_int Tryz.underlying5)) (readsF_last 1 rfl (by kernel_rfl) (reads_slice Tryz.underlying25 (by kernel_rfl) (by decide) (reads_int Tryz.underlying5)))) H enc w base spare held fuel cs y h
 exact⟨x,h1,h2⟩
structure Tavocetref10_Glob where
 val_:Int
 mut_:Bool
def Tavocetref10_Glob.C:Cd Tavocetref10_Glob:=Cd.st (Cd.pair (Cd.int .u8) Cd.bool) (fun x=>(x.val_,x.mut_))
def Tavocetref10_Glob.d (x:Tavocetref10_Glob):D:= .agg [.int .u8 x.val_, .bool x.mut_]
def Tavocetref10_Glob.ok (x:Tavocetref10_Glob):Prop:=rng .u8 x.val_∧True
theorem Tavocetref10_Glob.reads:Reads Tryz.prog 112 Tavocetref10_Glob.C Tavocetref10_Glob.ok:=by
 intro H enc w base spare held fuel cs y h
 obtain⟨x,h1,h2⟩:=reads_struct (fun x:Tavocetref10_Glob=>(x.val_,x.mut_)) (fun p=>(⟨p.1,p.2⟩:Tavocetref10_Glob)) (fun _=>rfl) Tryz.underlying112 (by kernel_rfl) (readsF_cons 0 rfl (by kernel_rfl) (reads_int Tryz.underlying5) (readsF_last 1 rfl (by kernel_rfl) (reads_bool Tryz.underlying4))) H enc w base spare held fuel cs y h
 exact⟨x,h1,h2⟩
structure Tavocetref10_Env where
 types:(List TFuncType)
 funcs:(List Int)
 tables:Int
 mems:Int
 globals:(List Tavocetref10_Glob)
 locals:(List Int)
 results:(List Int)
def Tavocetref10_Env.C:Cd Tavocetref10_Env:=Cd.st (Cd.pair (Cd.list TFuncType.C) (Cd.pair (Cd.list (Cd.int .i64)) (Cd.pair (Cd.int .i64) (Cd.pair (Cd.int .i64) (Cd.pair (Cd.list Tavocetref10_Glob.C) (Cd.pair (Cd.list (Cd.int .u8)) (Cd.list (Cd.int .u8)))))))) (fun x=>(x.types,x.funcs,x.tables,x.mems,x.globals,x.locals,x.results))
def Tavocetref10_Env.d (x:Tavocetref10_Env):D:= .agg [.list (x.types.map TFuncType.d), .list (x.funcs.map (D.int .i64)), .int .i64 x.tables, .int .i64 x.mems, .list (x.globals.map Tavocetref10_Glob.d), .list (x.locals.map (D.int .u8)), .list (x.results.map (D.int .u8))]
def Tavocetref10_Env.ok (x:Tavocetref10_Env):Prop:=(x.types.length≤maxLen∧∀z∈x.types,TFuncType.ok z)∧(x.funcs.length≤maxLen∧∀z∈x.funcs,rng .i64 z)∧rng .i64 x.tables∧rng .i64 x.mems∧(x.globals.length≤maxLen∧∀z∈x.globals,Tavocetref10_Glob.ok z)∧(x.locals.length≤maxLen∧∀z∈x.locals,rng .u8 z)∧(x.results.length≤maxLen∧∀z∈x.results,rng .u8 z)
theorem Tavocetref10_Env.reads:Reads Tryz.prog 27 Tavocetref10_Env.C Tavocetref10_Env.ok:=by
 intro H enc w base spare held fuel cs y h
 obtain⟨x,h1,h2⟩:=reads_struct (fun x:Tavocetref10_Env=>(x.types,x.funcs,x.tables,x.mems,x.globals,x.locals,x.results)) (fun p=>(⟨p.1,p.2.1,p.2.2.1,p.2.2.2.1,p.2.2.2.2.1,p.2.2.2.2.2.1,p.2.2.2.2.2.2⟩:Tavocetref10_Env)) (fun _=>rfl) Tryz.underlying27 (by kernel_rfl) (readsF_cons 0 rfl (by kernel_rfl) (reads_slice Tryz.underlying22 (by kernel_rfl) (by decide) TFuncType.reads) (readsF_cons 1 rfl (by kernel_rfl) (reads_slice Tryz.underlying23 (by kernel_rfl) (by decide) (reads_int Tryz.underlying3)) (readsF_cons 2 rfl (by kernel_rfl) (reads_int Tryz.underlying3) (readsF_cons 3 rfl (by kernel_rfl) (reads_int Tryz.underlying3) (readsF_cons 4 rfl (by kernel_rfl) (reads_slice Tryz.underlying24 (by kernel_rfl) (by decide) Tavocetref10_Glob.reads) (readsF_cons 5 rfl (by kernel_rfl) (reads_slice Tryz.underlying25 (by kernel_rfl) (by decide) (reads_int Tryz.underlying5)) (readsF_last 6 rfl (by kernel_rfl) (reads_slice Tryz.underlying25 (by kernel_rfl) (by decide) (reads_int Tryz.underlying5))))))))) H enc w base spare held fuel cs y h
 exact⟨x,h1,h2⟩
structure Tavocetref09_Ctrl where
 op:Int
 end_:(List Int)
 height:Int
 dead:Bool
def Tavocetref09_Ctrl.C:Cd Tavocetref09_Ctrl:=Cd.st (Cd.pair (Cd.int .i64) (Cd.pair (Cd.list (Cd.int .u8)) (Cd.pair (Cd.int .i64) Cd.bool))) (fun x=>(x.op,x.end_,x.height,x.dead))
def Tavocetref09_Ctrl.d (x:Tavocetref09_Ctrl):D:= .agg [.int .i64 x.op, .list (x.end_.map (D.int .u8)), .int .i64 x.height, .bool x.dead]
def Tavocetref09_Ctrl.ok (x:Tavocetref09_Ctrl):Prop:=rng .i64 x.op∧(x.end_.length≤maxLen∧∀z∈x.end_,rng .u8 z)∧rng .i64 x.height∧True
theorem Tavocetref09_Ctrl.reads:Reads Tryz.prog 102 Tavocetref09_Ctrl.C Tavocetref09_Ctrl.ok:=by
 intro H enc w base spare held fuel cs y h
 obtain⟨x,h1,h2⟩:=reads_struct (fun x:Tavocetref09_Ctrl=>(x.op,x.end_,x.height,x.dead)) (fun p=>(⟨p.1,p.2.1,p.2.2.1,p.2.2.2⟩:Tavocetref09_Ctrl)) (fun _=>rfl) Tryz.underlying102 (by kernel_rfl) (readsF_cons 0 rfl (by kernel_rfl) (reads_int Tryz.underlying3) (readsF_cons 1 rfl (by kernel_rfl) (reads_slice Tryz.underlying25 (by kernel_rfl) (by decide) (reads_int Tryz.underlying5)) (readsF_cons 2 rfl (by kernel_rfl) (reads_int Tryz.underlying3) (readsF_last 3 rfl (by kernel_rfl) (reads_bool Tryz.underlying4))))) H enc w base spare held fuel cs y h
 exact⟨x,h1,h2⟩
structure Tavocetref09_Stack where
 vals:(List Int)
 ctrls:(List Tavocetref09_Ctrl)
def Tavocetref09_Stack.C:Cd Tavocetref09_Stack:=Cd.st (Cd.pair (Cd.list (Cd.int .u8)) (Cd.list Tavocetref09_Ctrl.C)) (fun x=>(x.vals,x.ctrls))
def Tavocetref09_Stack.d (x:Tavocetref09_Stack):D:= .agg [.list (x.vals.map (D.int .u8)), .list (x.ctrls.map Tavocetref09_Ctrl.d)]
def Tavocetref09_Stack.ok (x:Tavocetref09_Stack):Prop:=(x.vals.length≤maxLen∧∀z∈x.vals,rng .u8 z)∧(x.ctrls.length≤maxLen∧∀z∈x.ctrls,Tavocetref09_Ctrl.ok z)
theorem Tavocetref09_Stack.reads:Reads Tryz.prog 30 Tavocetref09_Stack.C Tavocetref09_Stack.ok:=by
 intro H enc w base spare held fuel cs y h
 obtain⟨x,h1,h2⟩:=reads_struct (fun x:Tavocetref09_Stack=>(x.vals,x.ctrls)) (fun p=>(⟨p.1,p.2⟩:Tavocetref09_Stack)) (fun _=>rfl) Tryz.underlying30 (by kernel_rfl) (readsF_cons 0 rfl (by kernel_rfl) (reads_slice Tryz.underlying25 (by kernel_rfl) (by decide) (reads_int Tryz.underlying5)) (readsF_last 1 rfl (by kernel_rfl) (reads_slice Tryz.underlying28 (by kernel_rfl) (by decide) Tavocetref09_Ctrl.reads))) H enc w base spare held fuel cs y h
 exact⟨x,h1,h2⟩
structure TInstr where
 op:Int
 a:Int
 b:Int
 k:Int
 labels:(List Int)
def TInstr.C:Cd TInstr:=Cd.st (Cd.pair (Cd.int .i64) (Cd.pair (Cd.int .i64) (Cd.pair (Cd.int .i64) (Cd.pair (Cd.int .u64) (Cd.list (Cd.int .i64)))))) (fun x=>(x.op,x.a,x.b,x.k,x.labels))
def TInstr.d (x:TInstr):D:= .agg [.int .i64 x.op, .int .i64 x.a, .int .i64 x.b, .int .u64 x.k, .list (x.labels.map (D.int .i64))]
def TInstr.ok (x:TInstr):Prop:=rng .i64 x.op∧rng .i64 x.a∧rng .i64 x.b∧rng .u64 x.k∧(x.labels.length≤maxLen∧∀z∈x.labels,rng .i64 z)
theorem TInstr.reads:Reads Tryz.prog 33 TInstr.C TInstr.ok:=by
 intro H enc w base spare held fuel cs y h
 obtain⟨x,h1,h2⟩:=reads_struct (fun x:TInstr=>(x.op,x.a,x.b,x.k,x.labels)) (fun p=>(⟨p.1,p.2.1,p.2.2.1,p.2.2.2.1,p.2.2.2.2⟩:TInstr)) (fun _=>rfl) Tryz.underlying33 (by kernel_rfl) (readsF_cons 0 rfl (by kernel_rfl) (reads_int Tryz.underlying3) (readsF_cons 1 rfl (by kernel_rfl) (reads_int Tryz.underlying3) (readsF_cons 2 rfl (by kernel_rfl) (reads_int Tryz.underlying3) (readsF_cons 3 rfl (by kernel_rfl) (reads_int Tryz.underlying31) (readsF_last 4 rfl (by kernel_rfl) (reads_slice Tryz.underlying23 (by kernel_rfl) (by decide) (reads_int Tryz.underlying3))))))) H enc w base spare held fuel cs y h
 exact⟨x,h1,h2⟩
structure Tavocetref12_Jump where
 at_:Int
 to_:Int
 height:Int
 arity:Int
def Tavocetref12_Jump.C:Cd Tavocetref12_Jump:=Cd.st (Cd.pair (Cd.int .i64) (Cd.pair (Cd.int .i64) (Cd.pair (Cd.int .i64) (Cd.int .i64)))) (fun x=>(x.at_,x.to_,x.height,x.arity))
def Tavocetref12_Jump.d (x:Tavocetref12_Jump):D:= .agg [.int .i64 x.at_, .int .i64 x.to_, .int .i64 x.height, .int .i64 x.arity]
def Tavocetref12_Jump.ok (x:Tavocetref12_Jump):Prop:=rng .i64 x.at_∧rng .i64 x.to_∧rng .i64 x.height∧rng .i64 x.arity
theorem Tavocetref12_Jump.reads:Reads Tryz.prog 83 Tavocetref12_Jump.C Tavocetref12_Jump.ok:=by
 intro H enc w base spare held fuel cs y h
 obtain⟨x,h1,h2⟩:=reads_struct (fun x:Tavocetref12_Jump=>(x.at_,x.to_,x.height,x.arity)) (fun p=>(⟨p.1,p.2.1,p.2.2.1,p.2.2.2⟩:Tavocetref12_Jump)) (fun _=>rfl) Tryz.underlying83 (by kernel_rfl) (readsF_cons 0 rfl (by kernel_rfl) (reads_int Tryz.underlying3) (readsF_cons 1 rfl (by kernel_rfl) (reads_int Tryz.underlying3) (readsF_cons 2 rfl (by kernel_rfl) (reads_int Tryz.underlying3) (readsF_last 3 rfl (by kernel_rfl) (reads_int Tryz.underlying3))))) H enc w base spare held fuel cs y h
 exact⟨x,h1,h2⟩
structure Tstack_Ctrl where
 op:Int
 end_:(List Int)
 height:Int
 dead:Bool
def Tstack_Ctrl.C:Cd Tstack_Ctrl:=Cd.st (Cd.pair (Cd.int .i64) (Cd.pair (Cd.list (Cd.int .u8)) (Cd.pair (Cd.int .i64) Cd.bool))) (fun x=>(x.op,x.end_,x.height,x.dead))
def Tstack_Ctrl.d (x:Tstack_Ctrl):D:= .agg [.int .i64 x.op, .list (x.end_.map (D.int .u8)), .int .i64 x.height, .bool x.dead]
def Tstack_Ctrl.ok (x:Tstack_Ctrl):Prop:=rng .i64 x.op∧(x.end_.length≤maxLen∧∀z∈x.end_,rng .u8 z)∧rng .i64 x.height∧True
theorem Tstack_Ctrl.reads:Reads Tryz.prog 114 Tstack_Ctrl.C Tstack_Ctrl.ok:=by
 intro H enc w base spare held fuel cs y h
 obtain⟨x,h1,h2⟩:=reads_struct (fun x:Tstack_Ctrl=>(x.op,x.end_,x.height,x.dead)) (fun p=>(⟨p.1,p.2.1,p.2.2.1,p.2.2.2⟩:Tstack_Ctrl)) (fun _=>rfl) Tryz.underlying114 (by kernel_rfl) (readsF_cons 0 rfl (by kernel_rfl) (reads_int Tryz.underlying3) (readsF_cons 1 rfl (by kernel_rfl) (reads_slice Tryz.underlying25 (by kernel_rfl) (by decide) (reads_int Tryz.underlying5)) (readsF_cons 2 rfl (by kernel_rfl) (reads_int Tryz.underlying3) (readsF_last 3 rfl (by kernel_rfl) (reads_bool Tryz.underlying4))))) H enc w base spare held fuel cs y h
 exact⟨x,h1,h2⟩
structure Tstack_Stack where
 vals:(List Int)
 ctrls:(List Tstack_Ctrl)
def Tstack_Stack.C:Cd Tstack_Stack:=Cd.st (Cd.pair (Cd.list (Cd.int .u8)) (Cd.list Tstack_Ctrl.C)) (fun x=>(x.vals,x.ctrls))
def Tstack_Stack.d (x:Tstack_Stack):D:= .agg [.list (x.vals.map (D.int .u8)), .list (x.ctrls.map Tstack_Ctrl.d)]
def Tstack_Stack.ok (x:Tstack_Stack):Prop:=(x.vals.length≤maxLen∧∀z∈x.vals,rng .u8 z)∧(x.ctrls.length≤maxLen∧∀z∈x.ctrls,Tstack_Ctrl.ok z)
theorem Tstack_Stack.reads:Reads Tryz.prog 39 Tstack_Stack.C Tstack_Stack.ok:=by
 intro H enc w base spare held fuel cs y h
 obtain⟨x,h1,h2⟩:=reads_struct (fun x:Tstack_Stack=>(x.vals,x.ctrls)) (fun p=>(⟨p.1,p.2⟩:Tstack_Stack)) (fun _=>rfl) Tryz.underlying39 (by kernel_rfl) (readsF_cons 0 rfl (by kernel_rfl) (reads_slice Tryz.underlying25 (by kernel_rfl) (by decide) (reads_int Tryz.underlying5)) (readsF_last 1 rfl (by kernel_rfl) (reads_slice Tryz.underlying37 (by kernel_rfl) (by decide) Tstack_Ctrl.reads))) H enc w base spare held fuel cs y h
 exact⟨x,h1,h2⟩
structure Tcheck_Glob where
 val_:Int
 mut_:Bool
def Tcheck_Glob.C:Cd Tcheck_Glob:=Cd.st (Cd.pair (Cd.int .u8) Cd.bool) (fun x=>(x.val_,x.mut_))
def Tcheck_Glob.d (x:Tcheck_Glob):D:= .agg [.int .u8 x.val_, .bool x.mut_]
def Tcheck_Glob.ok (x:Tcheck_Glob):Prop:=rng .u8 x.val_∧True
theorem Tcheck_Glob.reads:Reads Tryz.prog 113 Tcheck_Glob.C Tcheck_Glob.ok:=by
 intro H enc w base spare held fuel cs y h
 obtain⟨x,h1,h2⟩:=reads_struct (fun x:Tcheck_Glob=>(x.val_,x.mut_)) (fun p=>(⟨p.1,p.2⟩:Tcheck_Glob)) (fun _=>rfl) Tryz.underlying113 (by kernel_rfl) (readsF_cons 0 rfl (by kernel_rfl) (reads_int Tryz.underlying5) (readsF_last 1 rfl (by kernel_rfl) (reads_bool Tryz.underlying4))) H enc w base spare held fuel cs y h
 exact⟨x,h1,h2⟩
structure Tcheck_Env where
 types:(List TFuncType)
 funcs:(List Int)
 tables:Int
 mems:Int
 globals:(List Tcheck_Glob)
 locals:(List Int)
 results:(List Int)
def Tcheck_Env.C:Cd Tcheck_Env:=Cd.st (Cd.pair (Cd.list TFuncType.C) (Cd.pair (Cd.list (Cd.int .i64)) (Cd.pair (Cd.int .i64) (Cd.pair (Cd.int .i64) (Cd.pair (Cd.list Tcheck_Glob.C) (Cd.pair (Cd.list (Cd.int .u8)) (Cd.list (Cd.int .u8)))))))) (fun x=>(x.types,x.funcs,x.tables,x.mems,x.globals,x.locals,x.results))
def Tcheck_Env.d (x:Tcheck_Env):D:= .agg [.list (x.types.map TFuncType.d), .list (x.funcs.map (D.int .i64)), .int .i64 x.tables, .int .i64 x.mems, .list (x.globals.map Tcheck_Glob.d), .list (x.locals.map (D.int .u8)), .list (x.results.map (D.int .u8))]
def Tcheck_Env.ok (x:Tcheck_Env):Prop:=(x.types.length≤maxLen∧∀z∈x.types,TFuncType.ok z)∧(x.funcs.length≤maxLen∧∀z∈x.funcs,rng .i64 z)∧rng .i64 x.tables∧rng .i64 x.mems∧(x.globals.length≤maxLen∧∀z∈x.globals,Tcheck_Glob.ok z)∧(x.locals.length≤maxLen∧∀z∈x.locals,rng .u8 z)∧(x.results.length≤maxLen∧∀z∈x.results,rng .u8 z)
theorem Tcheck_Env.reads:Reads Tryz.prog 45 Tcheck_Env.C Tcheck_Env.ok:=by
 intro H enc w base spare held fuel cs y h
 obtain⟨x,h1,h2⟩:=reads_struct (fun x:Tcheck_Env=>(x.types,x.funcs,x.tables,x.mems,x.globals,x.locals,x.results)) (fun p=>(⟨p.1,p.2.1,p.2.2.1,p.2.2.2.1,p.2.2.2.2.1,p.2.2.2.2.2.1,p.2.2.2.2.2.2⟩:Tcheck_Env)) (fun _=>rfl) Tryz.underlying45 (by kernel_rfl) (readsF_cons 0 rfl (by kernel_rfl) (reads_slice Tryz.underlying22 (by kernel_rfl) (by decide) TFuncType.reads) (readsF_cons 1 rfl (by kernel_rfl) (reads_slice Tryz.underlying23 (by kernel_rfl) (by decide) (reads_int Tryz.underlying3)) (readsF_cons 2 rfl (by kernel_rfl) (reads_int Tryz.underlying3) (readsF_cons 3 rfl (by kernel_rfl) (reads_int Tryz.underlying3) (readsF_cons 4 rfl (by kernel_rfl) (reads_slice Tryz.underlying43 (by kernel_rfl) (by decide) Tcheck_Glob.reads) (readsF_cons 5 rfl (by kernel_rfl) (reads_slice Tryz.underlying25 (by kernel_rfl) (by decide) (reads_int Tryz.underlying5)) (readsF_last 6 rfl (by kernel_rfl) (reads_slice Tryz.underlying25 (by kernel_rfl) (by decide) (reads_int Tryz.underlying5))))))))) H enc w base spare held fuel cs y h
 exact⟨x,h1,h2⟩
end Go.Proofs.YtfpioigggjnffaaGreatDoor.E
set_option autoImplicit false
namespace Go.Proofs.YtfpioigggjnffaaGreatDoor.E
open Go.RowKit Go.Shelf Go.Ev
attribute [local go_sem] Oper.semAt_some
set_option maxRecDepth 100000 in
set_option maxHeartbeats 2000000 in
theorem back1_ok:BackOk Tryz.prog 213:=by
 refine⟨enters_of Tryz.func213 (by kernel_rfl) rfl, ?_⟩
 intro n l b J Jx W a len cap hlen hcell hY h0
 refine callsIn_of_wp Tryz.func213 rfl trivial ?_ rfl
 simp only[Tryz.ntmps213,List.size_toArray,List.length_cons,List.length_nil,Nat.reduceAdd,Nat.reduceSub,Array.replicate_succ,Array.replicate_zero,List.push_toArray,List.append_toArray,List.nil_append,List.cons_append]
 gi_wp2
 gi_loopw [3] (fun i wr=> ∃k:Nat,k≤len∧i= .int .i64 ((k:Int)-1)∧J k wr) (fun i _=>(intOf i+1).toNat)
 case atStart=>exact⟨len,Nat.le_refl _,rfl,h0⟩
 case round=>
  obtain⟨k,hk,rfl,hJs⟩:=hrel
  cases k with
  |zero=>
   gi_wp2
   go_end0
   exact⟨⟨_,rfl⟩, .inl hJs⟩
  |succ k=>
   obtain⟨bb,o,m,cap',x,g1,g2,g3,fn,tmps,assign,body,hy,hR⟩:=hY k wr (by omega) hJs
   have e1:(((k+1:Nat):Int)-1)=(k:Int):=by omega
   rw[e1]
   gi_wp2
   refine⟨fun h=>by simp[Fence.wide] at h,hR.mono ?_⟩
   rintro e W3 (⟨rfl,hJ3⟩|⟨rfl,hJx3⟩)
   ·gi_wp2
    go_roundw
    case rel=>exact⟨k,by omega,rfl,hJ3⟩
    case measure=>simp[intOf]
   ·gi_wp2
    refine bodyPost_ret (results_none rfl _ _ _) rfl ?_
    exact⟨⟨_,rfl⟩, .inr hJx3⟩
end Go.Proofs.YtfpioigggjnffaaGreatDoor.E
set_option autoImplicit false
namespace Go.Ev
theorem ofInt_toNat {w:Nat} {x:Int} (h0:0≤x) (h1:x<2^w):(BitVec.ofInt w x).toNat=x.toNat:=by
 rw[BitVec.toNat_ofInt]
 congr 1
 exact Int.emod_eq_of_lt h0 (by exact_mod_cast h1)
theorem and_lt64 (a b:Nat) (h:a<2^64):a&&&b<2^64:=Nat.lt_of_le_of_lt Nat.and_le_left h
theorem bits_and_u64 {x y:Int} (hx:0≤x) (hx':x<18446744073709551616) (hy:0≤y) (hy':y<18446744073709551616):bits2 .and .u64 x y=((x.toNat&&&y.toNat:Nat):Int):=by
 show IntKind.wrap .u64 ((BitVec.ofInt 64 x&&&BitVec.ofInt 64 y).toNat:Int)=_
 rw[BitVec.toNat_and,ofInt_toNat hx (by simpa using hx'),ofInt_toNat hy (by simpa using hy'),wrap_u64 (by omega)]
 have:=and_lt64 x.toNat y.toNat (by omega)
 omega
theorem and_mask32 {x:Int} (hx:0≤x) (hx':x<18446744073709551616):bits2 .and .u64 x 4294967295=x%4294967296:=by
 rw[bits_and_u64 hx hx' (by omega) (by omega)]
 have:x.toNat&&&(4294967295:Int).toNat=x.toNat%2^32:=Nat.and_two_pow_sub_one_eq_mod x.toNat 32
 rw[this]
 omega
theorem shr_u64 {x:Int} (n:Nat) (hn:n≤64):shr .u64 x n=x / (2^n:Int):=by
 simp only[shr,IntKind.bits,Int.toNat_natCast,Nat.min_eq_left hn]
 rw[Int.fdiv_eq_ediv_of_nonneg _ (by exact Int.le_of_lt (Int.pow_pos (by decide)))]
theorem shr32 {x:Int}:shr .u64 x 32=x / 4294967296:=shr_u64 32 (by decide)
theorem sizedAll_of {sz:Nat}: ∀{xs:List D},(∀x∈xs,∃cs,cellsOkD sz x=some cs)→sizedAll sz xs=true
 |[],_=>rfl
 |x::xs,h=>by
  obtain⟨cs,hc⟩:=h x (by simp)
  simp only[sizedAll,hc,Bool.true_and]
  exact sizedAll_of (fun y hy=>h y (by simp[hy]))
theorem sizedAll_map {α:Type} {sz:Nat} {f:α→D} (h: ∀a,∃cs,cellsOkD sz (f a)=some cs) (xs:List α):sizedAll sz (xs.map f)=true:=sizedAll_of fun x hx=>by
 obtain⟨a,_,rfl⟩:=List.mem_map.1 hx
 exact h a
theorem sizedAll_rep {sz n:Nat} {x:D} {cs:List D} (h:cellsOkD sz x=some cs):sizedAll sz (List.replicate n x)=true:=sizedAll_of fun y hy=>by
 rw[List.eq_of_mem_replicate hy]
 exact⟨cs,h⟩
theorem bne_tt:(true !=true)=false:=rfl
theorem bne_ff:(false !=false)=false:=rfl
theorem bne_tf:(true !=false)=true:=rfl
theorem bne_ft:(false !=true)=true:=rfl
attribute [go_sem] bne_tt bne_ff bne_tf bne_ft
end Go.Ev
set_option autoImplicit false
set_option maxRecDepth 100000
set_option maxHeartbeats 4000000
namespace Go.Proofs.YtfpioigggjnffaaGreatDoor.E
open Go.Ev
theorem clone_is79 (fu:Nat):IsClone (G0 fu) 79 Tryz.f79 4:=by
 refine⟨by rw[G0P];exact Tryz.func79,by decide, ?_⟩
 refine⟨_,_,_,1,4,_,_,_,_,_,80,⟨[(2, .nilsl),(0, .d (.list []))],[]⟩,⟨[(3, .d (.list [])),(2, .nilsl),(0, .d (.list []))],[]⟩,⟨[(4, .d (.bool true)),(3, .d (.list [])),(2, .nilsl),(0, .d (.list []))],[]⟩,
  ⟨[(7, .row 384 1 0 0),(6, .d (.list [])),(5, .row 384 0 0 0),(4, .d (.bool false)),(3, .d (.list [])),(2, .row 384 1 0 0),(0, .d (.list []))],[(384, .row 4 [] 1 false true)]⟩,⟨[],[],0⟩,_,rfl,by unfold Tryz.f79;rfl, ?_, ?_, ?_,rfl,rfl,by decide,rfl, ?_, ?_, ?_, ?_, ?_, ?_⟩
 case refine_3=>intro d h;cases h;decide
 all_goals simp only[go_sem,seval, -Nat.reduceSubDiff,↓reduceIte,reduceCtorEq,step,Tryz.f79]
theorem clone_is84 (fu:Nat):IsClone (G0 fu) 84 Tryz.f84 1:=by
 refine⟨by rw[G0P];exact Tryz.func84,by decide, ?_⟩
 refine⟨_,_,_,1,4,_,_,_,_,_,5,⟨[(2, .nilsl),(0, .d (.list []))],[]⟩,⟨[(3, .d (.list [])),(2, .nilsl),(0, .d (.list []))],[]⟩,⟨[(4, .d (.bool true)),(3, .d (.list [])),(2, .nilsl),(0, .d (.list []))],[]⟩,
  ⟨[(7, .row 384 1 0 0),(6, .d (.list [])),(5, .row 384 0 0 0),(4, .d (.bool false)),(3, .d (.list [])),(2, .row 384 1 0 0),(0, .d (.list []))],[(384, .row 1 [] 1 false true)]⟩,⟨[],[],0⟩,_,rfl,by unfold Tryz.f84;rfl, ?_, ?_, ?_,rfl,rfl,by decide,rfl, ?_, ?_, ?_, ?_, ?_, ?_⟩
 case refine_3=>intro d h;cases h;decide
 all_goals simp only[go_sem,seval, -Nat.reduceSubDiff,↓reduceIte,reduceCtorEq,step,Tryz.f84]
theorem clone_is126 (fu:Nat):IsClone (G0 fu) 126 Tryz.f126 4:=by
 refine⟨by rw[G0P];exact Tryz.func126,by decide, ?_⟩
 refine⟨_,_,_,1,4,_,_,_,_,_,114,⟨[(2, .nilsl),(0, .d (.list []))],[]⟩,⟨[(3, .d (.list [])),(2, .nilsl),(0, .d (.list []))],[]⟩,⟨[(4, .d (.bool true)),(3, .d (.list [])),(2, .nilsl),(0, .d (.list []))],[]⟩,
  ⟨[(7, .row 384 1 0 0),(6, .d (.list [])),(5, .row 384 0 0 0),(4, .d (.bool false)),(3, .d (.list [])),(2, .row 384 1 0 0),(0, .d (.list []))],[(384, .row 4 [] 1 false true)]⟩,⟨[],[],0⟩,_,rfl,by unfold Tryz.f126;rfl, ?_, ?_, ?_,rfl,rfl,by decide,rfl, ?_, ?_, ?_, ?_, ?_, ?_⟩
 case refine_3=>intro d h;cases h;decide
 all_goals simp only[go_sem,seval, -Nat.reduceSubDiff,↓reduceIte,reduceCtorEq,step,Tryz.f126]
theorem range_is132 (fn:Func) (h:Tryz.prog.funcs[132]? =some fn):rgFn fn=true:=by
 rw[Tryz.func132] at h
 cases h
 kernel_rfl
end Go.Proofs.YtfpioigggjnffaaGreatDoor.E
set_option autoImplicit false
set_option maxRecDepth 100000
set_option maxHeartbeats 4000000
namespace Go.Proofs.YtfpioigggjnffaaGreatDoor.E
open Go.Ev
abbrev byt (l:List Int):List D:=l.map (D.int .u8)
theorem byt_len (l:List Int):(byt l).length=l.length:=List.length_map ..
theorem byt_sized (l:List Int):sizedAll 1 (byt l)=true:=sizedAll_map (fun x=>⟨_,rfl⟩) l
theorem clone_ev (fu n:Nat) (l:List Int) (h:l.length≤1099511627776):evF (G fu) (n+1) 84 [.d (.list (byt l))] []=some (.row 0 0 0 l.length,[.row 1 (byt l) 0 false false]):=by
 rw[evF.eq_2,evX.eq_def,Gext,exts_84]
 cases l with
 |nil=>rfl
 |cons x l=>
  have hs:=byt_sized (x::l)
  have hl:=byt_len (x::l)
  simp only[byt,List.map_cons] at hs hl ⊢
  simp only[cloneX,G0P,Tryz.func84]
  simp only[Tryz.f84,evB]
  have h':l.length≤1099511627775:=by simp at h;omega
  simp only[go_sem,seval, -Nat.reduceSubDiff,↓reduceIte,reduceCtorEq,hs,hl,h,h']
end Go.Proofs.YtfpioigggjnffaaGreatDoor.E
