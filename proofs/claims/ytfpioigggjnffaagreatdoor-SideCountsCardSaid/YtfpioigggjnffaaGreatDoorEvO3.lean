/- EvO3, EvH, C1. -/
import Derived.Test.YtfpioigggjnffaaGreatDoorS1
import Derived.Lib.ReflectliteSlice
import Derived.Shelf.RegionOpenPlain
import Derived.Laws.Externs
import Derived.WalkKit
import Derived.Test.YtfpioigggjnffaaGreatDoorEvD
set_option linter.unnecessarySimpa false
set_option linter.unusedSimpArgs false
set_option linter.unusedVariables false
set_option autoImplicit false
set_option maxRecDepth 100000
set_option maxHeartbeats 4000000
namespace Go.Proofs.YtfpioigggjnffaaGreatDoor.E
open Go.Ev Go.Lib Go.RowKit
theorem value_wp {P:Program} {ops:Array Oper} {i:Nat} {o:Oper} {a:Act} {w:World} {K:Act→World→Prop} {Q:Exit→Act→World→Prop} (hi:ops[i]? =some o) (hg:o.guard=none) {v:Value} (hrun:(execOp a.eval o).run P w= .ok (.value v) w) (hK:K (a.put o.dst v) w):wpOp P ops Q i K a w:=by
 unfold wpOp
 simp only[hi]
 have hw:Region.wanted o (yielded ops a.tmps)=true:=by unfold Region.wanted;rw[hg]
 rw[hw]
 simp only[if_true]
 left
 unfold Oper.wp
 rw[hrun,Oper.upon_value]
 exact hK
theorem enter_wp {P:Program} {ops:Array Oper} {i:Nat} {o:Oper} {a:Act} {w:World} {K:Act→World→Prop} {Q:Exit→Act→World→Prop} (hi:ops[i]? =some o) (hg:o.guard=none) {f:FuncId} {args:Array Value} (hrun:(execOp a.eval o).run P w= .ok (.enter f args) w)
 {R:World→Prop} (hC:Calls P f args w fun e w'=>e= .returned (.tuple #[])∧R w') (hK: ∀w',R w'→K (a.put o.dst (.tuple #[])) w'):wpOp P ops Q i K a w:=by
 unfold wpOp
 simp only[hi]
 have hw:Region.wanted o (yielded ops a.tmps)=true:=by unfold Region.wanted;rw[hg]
 rw[hw]
 simp only[if_true]
 left
 unfold Oper.wp
 rw[hrun,Oper.upon_enter]
 refine hC.mono fun e w' hq=> ?_
 obtain⟨rfl,hR⟩:=hq
 exact hK w' hR
theorem order_ok (hm:Tryz.prog.follows .mixedOrders=true) (hok: ∀(f:FuncId) fn,Tryz.prog.funcs[f]? =some fn→okFn fn=true):FnOk Tryz.prog globs 37 orderX:=by
 intro args objs v objs' hv h64 hcl
 obtain⟨l,hR,hl,rfl,rfl,rfl,rfl⟩:=orderX_is hv
 obtain⟨fu,hfu⟩: ∃fu,fu=l.length+1:=⟨_,rfl⟩
 have hC:=oC_ok hm hok fu (l.length+3)
 have hst:=stable_ev fu 0 l hR false false (by omega) hl
 have hcln:=cloneJ_ev fu l hl
 refine fn_of_wp (g:=G0 fu) (call:=oC fu (l.length+3)) (f:=37) (fn:=Tryz.f37) (by rw[G0P];exact Tryz.func37) rfl (by decide) h64 hcl fun w Im loc a I Q hQ=> ?_
 have hcl': ∀r o,getM (keyed 0 ([]:List Go.Ev.Obj)) r=some o→clean o:=fun r o e=>by cases e
 refine wp_seq (code_wp hC hm hcl' _ (by decide) (s':=⟨[(2, .nilsl),(0, .d (.list (jds l)))],[]⟩) (x:= .normal) ?_ I fun a1 w1 Im1 loc1 I1=> ?_)
 ·simp only[go_sem,seval, -Nat.reduceSubDiff,↓reduceIte,reduceCtorEq,keyed]
 refine wp_seq (code_wp hC hm hcl' _ (by decide) (s':=⟨[(5, .row 384 0 0 l.length),(4, .d (.list (jds l))),(3, .ptr 256 0),(2, .nilsl),(0, .d (.list (jds l)))],[(256, .cells [.row 384 0 0 l.length]),(384, .row 4 (jds l) 0 false false)]⟩) (x:= .normal) ?_ I1 fun a2 w2 Im2 loc2 I2=> ?_)
 ·simp only[go_sem,seval, -Nat.reduceSubDiff,↓reduceIte,reduceCtorEq,oC,hcln]
 refine wp_seq (wp_region ?_)
 show wpOps _ _ _ [0,1,2,3] _ _
 rw[wpOps_cons]
 refine step_wp hC rfl (fun d e=>by cases e;decide) (s':=⟨[(6, .row 384 0 0 l.length),(5, .row 384 0 0 l.length),(4, .d (.list (jds l))),(3, .ptr 256 0),(2, .nilsl),(0, .d (.list (jds l)))],[(256, .cells [.row 384 0 0 l.length]),(384, .row 4 (jds l) 0 false false)]⟩) (al:=true) (r:=⟨[256],[],0⟩) ?_ I2 fun a3 w3 Im3 loc3 I3=> ?_
 ·simp only[go_sem,seval, -Nat.reduceSubDiff,↓reduceIte,reduceCtorEq,step,List.getElem_toArray,List.getElem_cons_zero]
 obtain⟨u3,hu3⟩: ∃u,a3.eval (.tmp 3)=u:=⟨_,rfl⟩
 obtain⟨u6,hu6⟩: ∃u,a3.eval (.tmp 6)=u:=⟨_,rfl⟩
 have v3:VR w3 Im3 loc3 (stm [(256,Go.Ev.Obj.cells [.row 384 0 0 l.length]),(384, .row 4 (jds l) 0 false false)]) (.ptr 256 0) u3:=by rw[←hu3];exact(I3.tm 3 _ rfl).2
 have v6:VR w3 Im3 loc3 (stm [(256,Go.Ev.Obj.cells [.row 384 0 0 l.length]),(384, .row 4 (jds l) 0 false false)]) (.row 384 0 0 l.length) u6:=by rw[←hu6];exact(I3.tm 6 _ rfl).2
 obtain⟨p,cc,rfl⟩: ∃p cc,u6= .slice p l.length cc:=by
  cases v6 with
  |row _ _ _ _ _ h0 hl h=>
   obtain⟨cur,n,q1,q2,q3⟩:=h
   obtain⟨q4,_⟩:(cur,n)=(0,(jds l).length)∧True:=⟨(Option.some.inj q1).symm,trivial⟩
   cases q4
   obtain⟨aa,cap,sz,own,ad,_,r2,_⟩:=q3 rfl
   exact⟨_,_,r2⟩
 have hsz:11≤a3.tmps.size:=I3.sz
 have h69:Tryz.prog.underlying 69=some (.slice 80):=Tryz.underlying69
 rw[wpOps_cons]
 refine value_wp (o:={dst:=some 7,op:= .makeInterface 69 (.tmp 6),type:=20,pos:= "side.go:135",after:= #[{on:=0,ground:= .data}],guard:=none}) (v:= .iface 69 (.slice p l.length cc)) rfl rfl ?_ ?_
 ·simp only[execOp,hu6,Instr.makeInterface,Sem.run_bind,Sem.run_pure,G0P]
  rw[run_underlying h69]
  rfl
 rw[wpOps_cons]
 refine value_wp (o:={dst:=some 8,op:= .makeFunc (.func 82) #[] #[.tmp 3],type:=154,pos:= "side.go:135",after:= #[],guard:=none}) (v:= .func (.func 82) #[] #[u3]) rfl rfl ?_ ?_
 ·have e3:(a3.put (some 7) (.iface 69 (.slice p l.length cc))).eval (.tmp 3)=u3:=by rw[←hu3];simp[Act.put,Act.eval]
  simp only[execOp,e3,Instr.makeFunc,Sem.run_bind,Sem.run_pure]
  simp[Result.andThen,e3]
 rw[wpOps_cons]
 obtain⟨a8,ha8⟩: ∃x,(a3.put (some 7) (.iface 69 (.slice p l.length cc))).put (some 8) (.func (.func 82) #[] #[u3])=x:=⟨_,rfl⟩
 have e7:a8.eval (.tmp 7)= .iface 69 (.slice p l.length cc):=by rw[←ha8];simp[Act.put,Act.eval,show 7<a3.tmps.size by omega]
 have e8:a8.eval (.tmp 8)= .func (.func 82) #[] #[u3]:=by rw[←ha8];simp[Act.put,Act.eval,show 8<a3.tmps.size by omega]
 suffices hgo:wpOp (G0 fu).P _ (Exit.then _ Q) 3 _ a8 w3 by rw[←ha8] at hgo;exact hgo
 refine enter_wp (o:={dst:=some 9,op:= .call ⟨.value (.func 81), #[.tmp 7, .tmp 8], #[20,154]⟩,type:=0,pos:= "side.go:135",after:= #[{on:=1,ground:= .data},{on:=2,ground:= .data}],guard:=none}) (f:=81) (args:= #[.iface 69 (.slice p l.length cc), .func (.func 82) #[] #[u3]]) rfl rfl ?_
  (R:=fun w'=> ∃Im' loc',Go.Ev.Inv ⟨(G0 fu).P,oC fu (l.length+3),(G0 fu).fuel,(G0 fu).keep 37,0,(G0 fu).glob,(G0 fu).own,(G0 fu).live 37⟩ (Tryz.f37).ntmps w Im loc (keyed 0 []) ⟨[(6, .row 384 0 0 l.length),(5, .row 384 0 0 l.length),(4, .d (.list (jds l))),(3, .ptr 256 0),(2, .nilsl),(0, .d (.list (jds l)))],[(256, .cells [.row 384 0 0 l.length]),(384, .row 4 (jds l) 0 false false)]⟩ a3 w' Im' loc') ?_ ?_
 ·have q1:(Tryz.f81.name== "runtime.NumGoroutine")=false:=by decide
  have q2:(Tryz.f81.body.isNone)=false:=rfl
  have ee:(Operand.func 81)= .func 81:=rfl
  have ef:a8.eval (.func 81)= .func (.func 81) #[] #[]:=rfl
  simp only[execOp,resolve,ef,Deferred.ofValue,Sem.run_bind,Sem.run_pure,Result.andThen_ok,invoke,G0P,run_enter Tryz.func81 q1 q2]
  simp[e7,e8]
 ·refine slice_stable p l.length cc (.func 82) #[] #[u3] w3 _ fun u hu1=> ?_
  have hw0:=I3.frm.size
  have Ia:=I3.beside (Beside.alloc I3.mem (.cells #[.slice p l.length cc] 69)) (fun b hb=>Below.heap_alloc w3 _ b (by omega))
  have Ib:=Ia.beside (Beside.alloc Ia.mem (.cells #[.pointer (some ⟨Tryz.prog.globals.size,69,none⟩), .pointer (some ⟨w3.heap.size,0,none⟩), .int .u64 151] 221)) (fun b hb=>Below.heap_alloc _ _ b (by simp;omega))
  have hvs:VRs (stW p l.length cc w3) Im3 loc3 (stm [(256,Go.Ev.Obj.cells [.row 384 0 0 l.length]),(384, .row 4 (jds l) 0 false false)]) [.agg [.fn (.func 82) [] [.ptr 256 0], .dead], .d (.int .i64 l.length)] [.agg #[.func (.func 82) #[] #[u3],u], .int .i64 l.length]:=by
   have v3':VR (stW p l.length cc w3) Im3 loc3 (stm [(256,Go.Ev.Obj.cells [.row 384 0 0 l.length]),(384, .row 4 (jds l) 0 false false)]) (.ptr 256 0) u3:=by
    cases v3 with
    |ptr _ _ b hb=>exact .ptr _ _ b hb
   refine⟨rfl,fun j v x hv hx=> ?_⟩
   match j,hv,hx with
   |0,hv,hx=>
    cases hv;cases hx
    refine .agg _ _ rfl (fun j x hx=> ?_) (fun j v x hv hx=> ?_)
    ·match j,hx with
     |0,hx=>cases hx;trivial
     |1,hx=>cases hx;exact hu1
     |j+2,hx=>simp at hx
    ·match j,hv,hx with
     |0,hv,hx=>
      cases hv;cases hx
      refine .fn _ _ _ _ _ rfl rfl (fun j v x hv hx=>by simp at hv) (fun j v x hv hx=> ?_)
      match j,hv,hx with
      |0,hv,hx=>cases hv;cases hx;exact v3'
      |j+1,hv,hx=>simp at hv
     |1,hv,hx=>cases hv;exact .dead _
     |j+2,hv,hx=>simp at hv
   |1,hv,hx=>cases hv;cases hx;exact .d _ _ (.int _ _)
   |j+2,hv,hx=>simp at hv
  have hvv:callA ⟨(G0 fu).P,oC fu (l.length+3),(G0 fu).fuel,(G0 fu).keep 37,0,(G0 fu).glob,(G0 fu).own,(G0 fu).live 37⟩ 144 9 [(256,Go.Ev.Obj.cells [.row 384 0 0 l.length]),(384, .row 4 (jds l) 0 false false)]
   (argVs ((G0 fu).own 144) [(256,Go.Ev.Obj.cells [.row 384 0 0 l.length]),(384, .row 4 (jds l) 0 false false)] [.agg [.fn (.func 82) [] [.ptr 256 0], .dead], .d (.int .i64 l.length)])=some (.tup [],[(256,Go.Ev.Obj.cells [.row 384 0 0 l.length]),(384, .row 4 (jds l) 0 false false)],[]):=by
   simp only[sortO,lessV,Nat.zero_add] at hst
   simp only[go_sem,seval, -Nat.reduceSubDiff,↓reduceIte,reduceCtorEq,oC,hst]
  have key:=call_wp (c:=⟨(G0 fu).P,oC fu (l.length+3),(G0 fu).fuel,(G0 fu).keep 37,0,(G0 fu).glob,(G0 fu).own,(G0 fu).live 37⟩) Ib.mem Ib.glob hC (fun r o e=>e) hvs hvv (h2:=[(256,Go.Ev.Obj.cells [.row 384 0 0 l.length]),(384, .row 4 (jds l) 0 false false)]) (by simp only[go_sem,seval, -Nat.reduceSubDiff,↓reduceIte,reduceCtorEq])
  refine key.2.mono fun e w' hq=> ?_
  obtain⟨x,Im',loc',rfl,S,hx⟩:=hq
  cases hx with
  |tup _ arr h1 h3=>
   have:arr= #[]:=Array.size_eq_zero_iff.1 (by simpa using h1)
   subst this
   exact⟨rfl,Im',loc',⟨S.mem,Ib.tm.grow S.grow,Ib.frm.trans S.frm,Ib.sz,Ib.df,Ib.glob.grow S.grow.im S.grow.cell⟩⟩
 ·rintro w' ⟨Im',loc',I'⟩
  have T7:=Tm.put I'.tm (dst:=some 7) (v:= .dead) (u:= .iface 69 (.slice p l.length cc)) (fun d e=>by cases e;exact Nat.lt_of_lt_of_le (by decide) hsz) (.dead _)
  have T8:=Tm.put T7 (dst:=some 8) (v:= .dead) (u:= .func (.func 82) #[] #[u3]) (fun d e=>by cases e;rw[put_size];exact Nat.lt_of_lt_of_le (by decide) hsz) (.dead _)
  rw[ha8] at T8
  have T9:=Tm.put T8 (dst:=some 9) (v:= .dead) (u:= .tuple #[]) (fun d e=>by cases e;rw[←ha8,put_size,put_size];exact Nat.lt_of_lt_of_le (by decide) hsz) (.dead _)
  have I9:Go.Ev.Inv ⟨(G0 fu).P,oC fu (l.length+3),(G0 fu).fuel,(G0 fu).keep 37,0,(G0 fu).glob,(G0 fu).own,(G0 fu).live 37⟩ (Tryz.f37).ntmps w Im loc (keyed 0 []) ⟨put (put (put [(6, .row 384 0 0 l.length),(5, .row 384 0 0 l.length),(4, .d (.list (jds l))),(3, .ptr 256 0),(2, .nilsl),(0, .d (.list (jds l)))] (some 7) .dead) (some 8) .dead) (some 9) .dead,[(256, .cells [.row 384 0 0 l.length]),(384, .row 4 (jds l) 0 false false)]⟩ (a8.put (some 9) (.tuple #[])) w' Im' loc':=
   ⟨I'.mem,T9,I'.frm,by rw[←ha8,put_size,put_size,put_size];exact I'.sz,by rw[←ha8,put_df,put_df,put_df];exact I'.df,I'.glob⟩
  show Code.wp _ _ _ _ _
  refine code_wp hC hm hcl' _ (by decide) (x:= .ret) (s':=⟨[(10, .row 384 0 0 l.length),(9, .dead),(8, .dead),(7, .dead),(6, .row 384 0 0 l.length),(5, .row 384 0 0 l.length),(4, .d (.list (jds l))),(3, .ptr 256 0),(2, .row 384 0 0 l.length),(0, .d (.list (jds l)))],[(256, .cells [.row 384 0 0 l.length]),(384, .row 4 (jds l) 0 false false)]⟩) ?_ I9 fun a4 w4 Im4 loc4 I4=>hQ _ _ _ _ _ ?_ I4
  ·simp only[go_sem,seval, -Nat.reduceSubDiff,↓reduceIte,reduceCtorEq]
  ·simp only[go_sem,seval, -Nat.reduceSubDiff,↓reduceIte,reduceCtorEq,Tryz.f37]
end Go.Proofs.YtfpioigggjnffaaGreatDoor.E
set_option autoImplicit false
set_option maxRecDepth 100000
set_option maxHeartbeats 4000000
namespace Go.Proofs.YtfpioigggjnffaaGreatDoor.E
open Go.Ev
theorem Ghext (hm:Tryz.prog.follows .mixedOrders=true) (hok: ∀(f:FuncId) fn,Tryz.prog.funcs[f]? =some fn→okFn fn=true) (fu:Nat) (f:FuncId) (x:List V→List Go.Ev.Obj→Option Res) (h:(G fu).ext f=some x):FnOk Tryz.prog globs f x:=by
 rw[Gext] at h
 by_cases e79:f=79
 ·subst e79
  rw[exts_79] at h
  obtain rfl:=Option.some.inj h
  exact clone_ok (g:=G0 fu) hm (clone_is79 fu)
 by_cases e84:f=84
 ·subst e84
  rw[exts_84] at h
  obtain rfl:=Option.some.inj h
  exact clone_ok (g:=G0 fu) hm (clone_is84 fu)
 by_cases e126:f=126
 ·subst e126
  rw[exts_126] at h
  obtain rfl:=Option.some.inj h
  exact clone_ok (g:=G0 fu) hm (clone_is126 fu)
 by_cases e132:f=132
 ·subst e132
  rw[exts_132] at h
  obtain rfl:=Option.some.inj h
  exact range_ok (g:=G0 fu) (evF_ok (g:=G0 fu) hm hok (fun f x h=>by cases h) 4) back1_ok range_is132
 by_cases e37:f=37
 ·subst e37
  rw[exts_37] at h
  obtain rfl:=Option.some.inj h
  exact order_ok hm hok
 rw[exts_no fu (by simp[isExt,e79,e84,e126,e132,e37])] at h
 cases h
end Go.Proofs.YtfpioigggjnffaaGreatDoor.E
set_option autoImplicit false
namespace Go.Proofs.YtfpioigggjnffaaGreatDoor.E
open Go.Ev
structure Ctl where
 op:Int
 fin:List Int
 ht:Int
 dead:Bool
 deriving DecidableEq
structure Stk where
 vals:List Int
 ctrls:List Ctl
 deriving DecidableEq
structure TEnv where
 types:List (List Int×List Int)
 funcs:List Int
 tables:Int
 mems:Int
 globals:List (Int×Bool)
 locs:List Int
 results:List Int
def valB (c:Int):Bool:=c==126||c==127
def typesB (l:List Int):Bool:=l.all fun c=>c==0||valB c
def finB:List Int→Bool
 |[]=>true
 |[c]=>valB c
 |_=>false
def risesB:Int→List Ctl→Option Int
 |h,[]=>some h
 |h,c::l=>if finB c.fin&&decide (h≤c.ht) then risesB c.ht l else none
def saneS (s:Stk):Bool:=match risesB 0 s.ctrls with
 |some h=>decide (h≤s.vals.length)&&typesB s.vals
 |none=>false
def pushS (s:Stk) (l:List Int):Except Int Stk:=if !saneS s|| !typesB l then .error 1 else .ok ⟨s.vals++l,s.ctrls⟩
def popV (h:Int) (dead:Bool) (v:List Int):Except Int (Int×List Int):=
 if h<v.length then .ok (v.getLastD 0,v.dropLast) else if dead then .ok (0,v) else .error 5
def wantV (h:Int) (dead:Bool):List Int→List Int→Except Int (List Int)
 |[],v=> .ok v
 |t::l,v=>match popV h dead v with
  | .error e=> .error e
  | .ok (c,v')=>if c≠0∧t≠0∧c≠t then .error 5 else wantV h dead l v'
def topC (s:Stk):Except Int Ctl:=if !saneS s then .error 1 else match s.ctrls.getLast? with
 |none=> .error 5
 |some c=> .ok c
def popS (s:Stk):Except Int (Int×Stk):=match topC s with
 | .error e=> .error e
 | .ok c=>match popV c.ht c.dead s.vals with
   | .error e=> .error e
   | .ok (t,v)=> .ok (t,⟨v,s.ctrls⟩)
def wantS (s:Stk) (l:List Int):Except Int Stk:=
 if saneS s&&l.isEmpty then .ok s else match topC s with
 | .error e=> .error e
 | .ok c=>match wantV c.ht c.dead l.reverse s.vals with
   | .error e=> .error e
   | .ok v=> .ok ⟨v,s.ctrls⟩
def openS (s:Stk) (op:Int) (l:List Int):Except Int Stk:=if !saneS s|| !finB l then .error 1 else .ok ⟨s.vals,s.ctrls++[⟨op,l,s.vals.length,false⟩]⟩
def closeS (s:Stk):Except Int (Ctl×Stk):=match topC s with
 | .error e=> .error e
 | .ok c=>match wantV c.ht c.dead c.fin.reverse s.vals with
   | .error e=> .error e
   | .ok v=>if (v.length:Int)≠c.ht then .error 5 else .ok (c,⟨v,s.ctrls.dropLast⟩)
def killS (s:Stk):Except Int Stk:=match topC s with
 | .error e=> .error e
 | .ok c=> .ok ⟨s.vals.take c.ht.toNat,s.ctrls.dropLast++[{c with dead:=true}]⟩
def labelS (s:Stk) (n:Int):Except Int (List Int):=if !saneS s then .error 1 else
 if n<0∨(s.ctrls.length:Int)≤n then .error 6 else match s.ctrls[s.ctrls.length-1-n.toNat]? with
 |none=> .error 6
 |some c=> .ok (if c.op=3 then[] else c.fin)
structure WkS where
 s:Stk
 e:Int
def WkS.put (w:WkS) (r:Except Int Stk):WkS:=if w.e≠0 then w else match r with
 | .ok s=>⟨s,0⟩
 | .error e=>⟨w.s,e⟩
def WkS.must (w:WkS) (ok:Bool) (e:Int):WkS:=if !ok&&w.e==0 then⟨w.s,e⟩ else w
def WkS.want (w:WkS) (l:List Int):WkS:=w.put (wantS w.s l)
def WkS.push (w:WkS) (l:List Int):WkS:=w.put (pushS w.s l)
def WkS.kill (w:WkS):WkS:=w.put (killS w.s)
def WkS.opens (w:WkS) (op:Int) (l:List Int):WkS:=w.put (openS w.s op l)
def WkS.pop (w:WkS):Int×WkS:=match popS w.s with
 | .ok (t,s)=>(t,w.put (.ok s))
 | .error e=>(0,w.put (.error e))
def WkS.label (w:WkS) (n:Int):List Int×WkS:=match labelS w.s n with
 | .ok l=>(l,w)
 | .error e=>([],w.must false e)
def WkS.closed (w:WkS):Ctl×WkS:=match closeS w.s with
 | .ok (c,s)=>(c,w.put (.ok s))
 | .error e=>(⟨0,[],0,false⟩,w.put (.error e))
def leftOf (i:TInstr):List Int:=if i.a=0 then[] else[i.a%256]
def topIf (s:Stk):Bool:=match s.ctrls.getLast? with
 |some c=>c.op==4
 |none=>false
def nestedS (w:WkS) (i:TInstr):WkS:=
 if i.op=4 then(w.want [127]).opens 4 (leftOf i)
 else if i.op=5 then let r:=(w.must (topIf w.s) 5).closed;r.2.opens 5 r.1.fin
 else if i.op=11 then let r:=(w.must (decide (1<w.s.ctrls.length)) 5).closed;(r.2.must (r.1.op !=4||r.1.fin.isEmpty) 5).push r.1.fin
 else w.opens i.op (leftOf i)
def labelsS (w:WkS) (t:List Int):List Int→WkS
 |[]=>w
 |n::l=>labelsS ((w.label n).2.must ((w.label n).1==t) 5) t l
def branchS (env:TEnv) (w:WkS) (i:TInstr):WkS:=
 if i.op=15 then(w.want env.results).kill
 else
  let t:=(w.label i.a).1
  let w:=labelsS (w.label i.a).2 t i.labels
  let w:=if i.op=12 then w else w.want [127]
  let w:=w.want t
  if i.op=13 then w.push t else w.kill
def typeS (env:TEnv) (f:Int):Option (List Int×List Int):=
 if f<0 then none else match env.funcs[f.toNat]? with
 |none=>none
 |some t=>if t<0 then none else env.types[t.toNat]?
def callS (env:TEnv) (w:WkS) (i:TInstr):WkS:=
 let t:=if i.op=17 then(if 0<env.tables then env.types[i.a.toNat]? else none) else typeS env i.a
 let w:=w.must t.isSome 6
 let w:=if i.op=17 then w.want [127] else w
 (w.want (t.getD ([],[])).1).push (t.getD ([],[])).2
def chosenS (w:WkS) (i:TInstr):WkS:=
 if i.op=26 then w.pop.2
 else
  let w:=w.want [127]
  let a:=w.pop
  let b:=a.2.pop
  let w:=b.2.must (a.1==0||b.1==0||a.1==b.1) 5
  w.push [if a.1=0 then b.1 else a.1]
def variableS (env:TEnv) (w:WkS) (i:TInstr):WkS:=
 let r:Int×WkS:=if i.op≤34 then
     match env.locs[i.a.toNat]? with
     |some t=>(t,w)
     |none=>(0,w.must false 6)
  else
   match env.globals[i.a.toNat]? with
   |some g=>(g.1,w.must (i.op==35||g.2) 5)
   |none=>(0,w.must false 6)
 let w:=if i.op≠32∧i.op≠35 then r.2.want [r.1] else r.2
 if i.op=32∨i.op=34∨i.op=35 then w.push [r.1] else w
def memoryS (acc:Int→Int×Int×Bool) (env:TEnv) (w:WkS) (i:TInstr):WkS:=
 let w:=w.must (decide (0<env.mems)) 6
 let r:=acc i.op
 if i.op=63 then w.push [127]
 else if i.op=64 then(w.want [127]).push [127]
 else
  let w:=w.must (decide (i.a≤3)&&decide ((2:Int)^i.a.toNat≤r.2.1)) 5
  if r.2.2 then w.want [127,r.1] else(w.want [127]).push [r.1]
def goS (acc:Int→Int×Int×Bool) (shape:Int→Option (List Int×Int)) (env:TEnv) (s:Stk) (i:TInstr):WkS:=
 let w:WkS:=⟨s,0⟩
 if i.op=0 then w.kill
 else if i.op=1 then w
 else if i.op≤5∨i.op=11 then nestedS w i
 else if i.op≤15 then branchS env w i
 else if i.op≤17 then callS env w i
 else if i.op≤27 then chosenS w i
 else if i.op≤36 then variableS env w i
 else if i.op≤64 then memoryS acc env w i
 else if i.op=65 then w.push [127]
 else if i.op=66 then w.push [126]
 else match shape i.op with
  |some (p,r)=>(w.want p).push [r]
  |none=>w
def stepS (sane:TInstr→Bool) (acc:Int→Int×Int×Bool) (shape:Int→Option (List Int×Int)) (env:TEnv) (s:Stk) (i:TInstr):Except Int Stk:=
 if !saneS s|| !sane i then .error 1 else
 let w:=goS acc shape env s i
 if w.e≠0 then .error w.e else .ok w.s
def pathS (sane:TInstr→Bool) (acc:Int→Int×Int×Bool) (shape:Int→Option (List Int×Int)) (env:TEnv):Stk→List TInstr→Except Int (List Stk)
 |s,[]=> .ok [s]
 |s,i::l=>match stepS sane acc shape env s i with
  | .error e=> .error e
  | .ok s'=>match pathS sane acc shape env s' l with
    | .error e=> .error e
    | .ok p=> .ok (s::p)
theorem typesB_append (a b:List Int):typesB (a++b)=(typesB a&&typesB b):=by simp[typesB,List.all_append]
theorem typesB_dropLast {a:List Int} (h:typesB a=true):typesB a.dropLast=true:=by
 simp only[typesB,List.all_eq_true] at h ⊢
 exact fun x hx=>h x ((List.dropLast_prefix a).subset hx)
theorem typesB_take {a:List Int} (n:Nat) (h:typesB a=true):typesB (a.take n)=true:=by
 simp only[typesB,List.all_eq_true] at h ⊢
 exact fun x hx=>h x ((List.take_prefix n a).subset hx)
theorem risesB_append (h:Int) (a b:List Ctl):risesB h (a++b)=match risesB h a with
 |some k=>risesB k b
 |none=>none:=by
 induction a generalizing h with
 |nil=>rfl
 |cons c a ih=>
  simp only[List.cons_append,risesB]
  by_cases hc:(finB c.fin&&decide (h≤c.ht))=true
  ·rw[if_pos hc,if_pos hc,ih]
  ·rw[if_neg hc,if_neg hc]
theorem popV_len {h:Int} {d:Bool} {v v':List Int} {c:Int} (e:popV h d v= .ok (c,v')) (hv:h≤v.length) (ht:typesB v=true):h≤v'.length∧typesB v'=true∧v'<+:v:=by
 unfold popV at e
 split at e
 ·rename_i hlt
  cases e
  refine⟨?_,typesB_dropLast ht,List.dropLast_prefix v⟩
  rw[List.length_dropLast];omega
 ·split at e
  ·cases e;exact⟨hv,ht,List.prefix_refl _⟩
  ·cases e
theorem wantV_len {h:Int} {d:Bool} {l v v':List Int} (e:wantV h d l v= .ok v') (hv:h≤v.length) (ht:typesB v=true):h≤v'.length∧typesB v'=true∧v'<+:v:=by
 induction l generalizing v with
 |nil=>cases e;exact⟨hv,ht,List.prefix_refl _⟩
 |cons t l ih=>
  simp only[wantV] at e
  cases hp:popV h d v with
  |error x=>rw[hp] at e;cases e
  |ok r=>
   obtain⟨c,w⟩:=r
   rw[hp] at e
   simp only at e
   split at e
   ·cases e
   ·obtain⟨a1,a2,a3⟩:=popV_len hp hv ht
    obtain⟨b1,b2,b3⟩:=ih e a1 a2
    exact⟨b1,b2,b3.trans a3⟩
end Go.Proofs.YtfpioigggjnffaaGreatDoor.E
