/- The reading held against the model: its soundness. -/
import Derived.Test.YtfpioigggjnffaaGreatDoorEvSb
import Derived.RangeFuncRecord
import Derived.OrdersIn
import Derived.RangeFuncSeq
import Derived.RangeFuncCalls
import Derived.Shelf.Abstract
import Derived.RangeFuncFrom
set_option linter.unnecessarySimpa false
set_option linter.unusedSimpArgs false
set_option linter.unusedVariables false
set_option autoImplicit false
namespace Go.Ev
section
variable {c:Ctx} {n:Nat} {w0:World} {Im0:Nat→Nat→Prop} {loc0:Nat→Loc} {h0:Map Obj} {w:World} {Im:Nat→Nat→Prop} {loc:Nat→Loc}
theorem nilcmp_run {t:TypeId} {x y:Operand} {e:Nat} {ua:Value} (ha:VR w Im loc (fun _=>none) (.d (.list [])) ua) {P:Program} (hk:kindOf (tiOf P t)= .slice e):
 ∃b:Bool,runB P w .eql t x y ua (.slice none 0 0)= .ok (.bool b) w:=by
 obtain⟨d,hd,hd'⟩:=kind_und hk (by simp)
 obtain⟨e',rfl⟩: ∃e',d= .slice e':=⟨_,kindD_slice hd'⟩
 cases ha with
 |d _ _ hh=>
  generalize hl:([]:List D)=l0 at hh
  cases hh with
  |empty a k=>
   obtain⟨u,h1,h2⟩:=nilOp_run (P:=P) (w:=w) (Im:=Im) (loc:=loc) (st:=fun _=>none) (op:= .eql) (t:=t) (x:=x) (y:=y) (a:= .slice a 0 k) (b:= .slice none 0 0) (r:=a.isNone) (v:= .d (.bool a.isNone))
    (eqGuard_at_slice _ _ _ _ _ _ _ _) (by simp[binOp]) (by simp[binOp]) (fun n=>by cases a<;>simp[Op.equalIn,run_underlying hd]) rfl
   cases h2 with
   |d _ _ hx=>cases hx;exact⟨_,h1⟩
  |list xs b o sz k u hc=>
   subst hl
   obtain⟨u,h1,h2⟩:=nilOp_run (P:=P) (w:=w) (Im:=Im) (loc:=loc) (st:=fun _=>none) (op:= .eql) (t:=t) (x:=x) (y:=y) (a:= .slice (some ⟨b,o,none⟩) 0 k) (b:= .slice none 0 0) (r:=false) (v:= .d (.bool false))
    (eqGuard_at_slice _ _ _ _ _ _ _ _) (by simp[binOp]) (by simp[binOp]) (fun n=>by simp[Op.equalIn,run_underlying hd]) rfl
   cases h2 with
   |d _ _ hx=>cases hx;exact⟨_,h1⟩
theorem nilcmp_wp {ops:Array Oper} {i:Nat} {o:Oper} {s:St} {a:Act} {d:Nat} {t t':TypeId} {x:Operand} {e:Nat} (hi:ops[i]? =some o) (ho:o.op= .binOp .eql t x (.const (.slice none 0 0)) t') (hdst:o.dst=some d) (hdn:d<n) (hg:o.guard=none)
 (hk:kindOf (tiOf c.P t)= .slice e) (I:Inv c n w0 Im0 loc0 h0 s a w Im loc) (hx:ev c s x= .d (.list [])) {K:Act→World→Prop} {Q:Exit→Act→World→Prop}
 (hK: ∀(b:Bool) a',Inv c n w0 Im0 loc0 h0 ⟨put s.tmps (some d) (.d (.bool b)),s.heap⟩ a' w Im loc→K a' w):wpOp c.P ops Q i K a w:=by
 have h1:=ev_VR I.tm I.glob x (c:=c) (s:=s) (a:=a)
 rw[hx] at h1
 have h2:VR w Im loc (fun _=>none) (.d (.list [])) (a.eval x):=by
  revert h1
  generalize a.eval x=z
  intro h1
  cases h1 with
  |d _ _ hh=>exact .d _ _ hh
 obtain⟨b,hb⟩:=nilcmp_run (x:=x) (y:= .const (.slice none 0 0)) h2 hk
 have hrun:(execOp a.eval o).run c.P w= .ok (.value (.bool b)) w:=by
  have h3:(execOp a.eval o).run c.P w=(runB c.P w .eql t x (.const (.slice none 0 0)) (a.eval x) (.slice none 0 0)).andThen fun v w'=> .ok (.value v) w':=by
   have hc:a.eval (.const (.slice none 0 0))= .slice none 0 0:=rfl
   simp only[execOp,ho,Sem.run_bind,Sem.run_pure,bind_assoc,runB,hc]
   cases(eqGuard .eql t x (.const (.slice none 0 0)) (a.eval x) (.slice none 0 0)).run c.P w<;>rfl
  rw[h3,hb]
  rfl
 unfold wpOp
 simp only[hi]
 have hw:Region.wanted o (yielded ops a.tmps)=true:=by unfold Region.wanted;rw[hg]
 rw[hw]
 simp only[if_true]
 left
 unfold Oper.wp
 rw[hrun,Oper.upon_value]
 have hd': ∀d',o.dst=some d'→d'<a.tmps.size:=fun d' q=>by
  rw[hdst] at q
  obtain rfl:=Option.some.inj q
  exact Nat.lt_of_lt_of_le hdn I.sz
 have hT:=Tm.put I.tm hd' (u:= .bool b) (v:= .d (.bool b)) (.d _ _ (.bool b))
 rw[hdst] at hT ⊢
 exact hK b _ ⟨I.mem,hT,I.frm,by rw[put_size];exact I.sz,by rw[put_df];exact I.df,I.glob⟩
end
theorem fn_of_wp {g:Cfg} {call:Calling} {f:FuncId} {fn:Func} {body:Code} (hf:g.P.funcs[f]? =some fn) (hb:fn.body=some body) (hng:(fn.name== "runtime.NumGoroutine")=false) {args:List V} {objs objs':List Obj} {v:V}
 (h64:objs.length≤64) (hcl: ∀(i:Nat) o,objs[i]? =some o→clean o)
 (hwp: ∀w Im loc a,Inv ⟨g.P,call,g.fuel,g.keep f,objs.length,g.glob,g.own,g.live f⟩ fn.ntmps w Im loc (keyed 0 objs) ⟨keyed 0 args,keyed 0 objs⟩ a w Im loc→∀Q:Exit→Act→World→Prop,
   (∀s a' w' Im' loc',endF (g.own f) g.P fn.resultTypes.toList fn.results.toList objs.length (some (.ret,s))=some (v,objs')→Inv ⟨g.P,call,g.fuel,g.keep f,objs.length,g.glob,g.own,g.live f⟩ fn.ntmps w Im loc (keyed 0 objs) s a' w' Im' loc'→Q .ret a' w')→body.wp g.P Q a w):
 (∃fn,g.P.funcs[f]? =some fn∧(fn.name== "runtime.NumGoroutine")=false∧fn.body.isNone=false)∧
 ∀w Im loc us,Mem w Im loc (keyed 0 objs)→GlobOk g.glob w Im→VRs w Im loc (stm (keyed 0 objs)) args us→
  Calls g.P f us.toArray w fun e w'=> ∃u Im' loc',e= .returned u∧Back w Im loc objs w' Im' loc' objs'∧VR w' Im' loc' (stm (keyed 0 objs')) v u:=by
 refine⟨⟨fn,hf,hng,by rw[hb];rfl⟩,fun w Im loc us hM hG hV=> ?_⟩
 refine calls_of_wp hf hb ?_
 have I0:Inv ⟨g.P,call,g.fuel,g.keep f,objs.length,g.glob,g.own,g.live f⟩ fn.ntmps w Im loc (keyed 0 objs) ⟨keyed 0 args,keyed 0 objs⟩ {tmps:=us.toArray++Array.replicate (fn.ntmps-us.toArray.size) Go.undef,defers:=[]} w Im loc:=by
  refine⟨hM,fun t v e=> ?_,Frm.refl ..,by simp;omega,rfl,hG⟩
  simp only[keyed0] at e
  have hlt:t<us.length:=by rw[hV.1];exact(List.getElem?_eq_some_iff.1 e).1
  refine⟨by simp;omega, ?_⟩
  have hg:(us.toArray++Array.replicate (fn.ntmps-us.toArray.size) Go.undef).getD t Go.undef=us[t]:=by
   simp[Array.getD_eq_getD_getElem?,Array.getElem?_append,hlt]
  rw[hg]
  exact hV.2 t v us[t] e (by simp[hlt])
 refine hwp w Im loc _ I0 _ fun s a' w' Im' loc' he I'=> ?_
 obtain⟨u,Im2,loc2,r1,r2,r3⟩:=ret_ok I' h64 hcl (fn:=fn) he
 exact⟨I'.df,u,r1,u,Im2,loc2,rfl,r2,r3⟩
def noCall:Calling:=fun _ _ _=>none
theorem noCall_ok (P:Program) (glob:Nat→Option (List D)):CallOk P glob noCall:=fun f args objs v objs' h=>by cases h
structure IsClone (g:Cfg) (f:FuncId) (fn:Func) (z:Nat):Prop where
 hf:g.P.funcs[f]? =some fn
 ok:okFn fn=true
 sh: ∃(r0 A B:Code) (id d:Nat) (o3 o4:Oper) (t t':TypeId) (x:Operand) (e:Nat) (s0 s1 sT sF:St) (r3:Rec) (c:Ctx),c=⟨g.P,noCall,g.fuel,g.keep f,0,g.glob,g.own,g.live f⟩∧
  fn.body=some (r0.seq (((Code.region id #[o3,o4] false).seq (Code.cond (.tmp d) A .skip)).seq B))∧evC c r0 ⟨[(0, .d (.list []))],[]⟩=some (.normal,s0)∧step c true [o3,o4] o3 s0=some (s1,r3)∧(∀d',o3.dst=some d'→d'<fn.ntmps)∧
  o4.op= .binOp .eql t x (.const (.slice none 0 0)) t'∧o4.dst=some d∧d<fn.ntmps∧o4.guard=none∧kindOf (tiOf g.P t)= .slice e∧ev c s1 x= .d (.list [])∧
  evC c A ⟨put s1.tmps (some d) (.d (.bool true)),s1.heap⟩=some (.ret,sT)∧evC c B ⟨put s1.tmps (some d) (.d (.bool false)),s1.heap⟩=some (.ret,sF)∧
  endF (g.own f) g.P fn.resultTypes.toList fn.results.toList 0 (some (.ret,sT))=some (.row 0 0 0 0,[.row z [] 0 false false])∧endF (g.own f) g.P fn.resultTypes.toList fn.results.toList 0 (some (.ret,sF))=some (.row 0 0 0 0,[.row z [] 0 false false])
def cloneX (g:Cfg) (f:FuncId) (z:Nat):List V→List Obj→Option Res
 |[.d (.list [])],[]=>some (.row 0 0 0 0,[.row z [] 0 false false])
 |args,objs=>evB g noCall f args objs g.P.funcs[f]?
theorem clone_ok {g:Cfg} (hm:g.P.follows .mixedOrders=true) {f:FuncId} {fn:Func} {z:Nat} (h:IsClone g f fn z):FnOk g.P g.glob f (cloneX g f z):=by
 have hB:=evB_ok (g:=g) (call:=noCall) (noCall_ok _ _) hm (f:=f) (fun fn' e=>by rw[h.hf] at e;obtain rfl:=Option.some.inj e;exact h.ok)
 intro args objs v objs' hv h64 hcl
 unfold cloneX at hv
 split at hv
 ·simp only[Option.some.injEq,Prod.mk.injEq] at hv
  obtain⟨rfl,rfl⟩:=hv
  obtain⟨r0,A,B,id,d,o3,o4,t,t',x,e,s0,s1,sT,sF,r3,c,rfl,q1,q2,q3,q4,q5,q6,q7,q8,q9,q10,q11,q12,q13,q14⟩:=h.sh
  have hok:=h.ok
  simp only[okFn,Bool.and_eq_true,q1,okCode] at hok
  obtain⟨hng,k0,⟨_,kA,_⟩,kB⟩:=hok
  refine fn_of_wp (call:=noCall) h.hf q1 (by simpa using hng) h64 hcl fun w Im loc a I Q hQ=> ?_
  have hC:=noCall_ok g.P g.glob
  have hcl': ∀r o,getM (keyed 0 ([]:List Obj)) r=some o→clean o:=fun r o e=>by cases e
  refine wp_seq (code_wp hC hm hcl' r0 k0 q2 I fun a1 w1 Im1 loc1 I1=> ?_)
  refine wp_seq (wp_seq (wp_region ?_))
  show wpOps _ _ _ [0,1] _ _
  rw[wpOps_cons]
  refine step_wp (o:=o3) hC rfl q4 q3 I1 fun a2 w2 Im2 loc2 I2=> ?_
  rw[wpOps_cons]
  refine nilcmp_wp (o:=o4) rfl q5 q6 q7 q8 q9 I2 q10 fun b a3 I3=> ?_
  show Code.wp _ _ _ _ _
  have hev: ∀{s:St} {a:Act} (b:Bool),Inv ⟨g.P,noCall,g.fuel,g.keep f,0,g.glob,g.own,g.live f⟩ fn.ntmps w Im loc (keyed 0 []) ⟨put s.tmps (some d) (.d (.bool b)),s.heap⟩ a w2 Im2 loc2→a.eval (.tmp d)= .bool b:=fun{s a} b I=>by
   have h1:=ev_VR I.tm I.glob (.tmp d) (a:=a) (c:=⟨g.P,noCall,g.fuel,g.keep f,0,g.glob,g.own,g.live f⟩) (s:=⟨put s.tmps (some d) (.d (.bool b)),s.heap⟩)
   have:ev ⟨g.P,noCall,g.fuel,g.keep f,0,g.glob,g.own,g.live f⟩ ⟨put s.tmps (some d) (.d (.bool b)),s.heap⟩ (.tmp d)= .d (.bool b):=by simp[ev,put,getT,getM_setT]
   rw[this] at h1
   revert h1
   generalize a.eval (.tmp d)=z
   intro h1
   cases h1 with
   |d _ _ hx=>cases hx;rfl
  have hbe:=hev b I3
  cases b with
  |true=>exact wp_cond hbe (code_wp hC hm hcl' A kA q11 I3 fun a4 w4 Im4 loc4 I4=>hQ _ _ _ _ _ q13 I4)
  |false=>exact wp_cond hbe (wp_skip (code_wp hC hm hcl' B kB q12 I3 fun a4 w4 Im4 loc4 I4=>hQ _ _ _ _ _ q14 I4))
 ·exact hB args objs v objs' hv h64 hcl
end Go.Ev
set_option autoImplicit false
namespace Go.Ev
def lift (ds:List Deferred) (a:Act):Act:={a with defers:=a.defers++ds}
theorem lift_eval (ds:List Deferred) (a:Act):(lift ds a).eval=a.eval:=by
 funext x
 cases x<;>rfl
theorem lift_put (ds:List Deferred) (a:Act) (d:Option Tmp) (u:Value):(lift ds a).put d u=lift ds (a.put d u):=by cases d<;>rfl
def W (ro:Option Nat):Fence:={Fence.wide with round:=ro}
def isDefer:Op→Bool
 | .defer _=>true
 |_=>false
def flat:Code→Bool
 | .skip=>true
 | .ret=>true
 | .exit _=>true
 | .region _ ops opn=> !opn&&ops.toList.all (fun o=> !isDefer o.op)
 | .seq a b=>flat a&&flat b
 | .cond _ a b=>flat a&&flat b
 | .block _ b=>flat b
 |_=>false
section
variable {P:Program} {n:Nat} {ro:Option Nat} {ds:List Deferred}
theorem callsW {f:FuncId} {args:Array Value} {w:World} {R:Ending→World→Prop} (h:Calls P f args w R):CallsIn (W ro) n P f args w R:=by
 have:=(callsIn_wide (n:=n)).2 h
 exact this
theorem rowsW {row:String} {args:Array Value} {w:World} {R:Value→World→Prop} (h:Rows P row args w R):RowsIn (W ro) n P row args w R:=by
 intro c cs _
 obtain⟨v,w',r,s⟩:=h c cs
 exact⟨v,w',r,stepsIn_wide.2 s⟩
theorem op_in {o:Oper} {a:Act} {w:World} {K K':Act→World→Prop} {Q Q':Exit→Act→World→Prop} (hd:isDefer o.op=false) (hK: ∀a w,K a w→K' (lift ds a) w) (hQ: ∀e a w,Q e a w→Q' e (lift ds a) w)
 (h:o.wp P a w K Q):o.wpIn (W ro) n P (lift ds a) w K' Q':=by
 refine⟨fun _ _=>trivial, ?_⟩
 have hs:o.semAt (W ro).round (lift ds a).eval=execOp a.eval o:=by
  rw[lift_eval]
  exact Oper.semAt_eq _ _ _ fun c hc=>by rw[hc] at hd;cases hd
 rw[hs]
 unfold Oper.wp at h
 have hL:LetsOut Q→LetsOut Q':=fun⟨a,w,q⟩=>⟨_,_,hQ _ _ _ q⟩
 generalize(execOp a.eval o).run P w=r at h
 match r,h with
 | .ok (.value v) w',h=>rw[Oper.uponIn_value,lift_put];exact hK _ _ h
 | .ok .skip w',h=>rw[Oper.uponIn_skip,lift_put];exact hK _ _ h
 | .ok (.defer d) w',h=>
   rw[Oper.uponIn_defer]
   have:=hK _ _ h
   rw[←lift_put] at this
   exact this
 | .ok (.enter f args) w',h=>
   rw[Oper.uponIn_enter]
   refine⟨fun hh=>by simp[W,Fence.wide] at hh,(callsW (n:=n-1) h).mono fun e w2 he=> ?_⟩
   cases e with
   |returned v=>simp only[lift_put];exact hK _ _ he
   |panicked ch=>exact hQ _ _ _ he
   |outgrown=>exact hL he
 | .ok (.row row args) w',h=>
   rw[Oper.uponIn_row]
   exact⟨fun hh=>by simp[W,Fence.wide] at hh,(rowsW (n:=n-1) h).mono fun v w2 he=>by rw[lift_put];exact hK _ _ he⟩
 | .halt (.panic v) w',h=>exact hQ _ _ _ h
theorem ops_in {ops:Array Oper} (hd:ops.toList.all (fun o=> !isDefer o.op)=true) {Q Q':Exit→Act→World→Prop} (hQ: ∀e a w,Q e a w→Q' e (lift ds a) w) (hnl: ∀a w,¬Q .outgrown a w):
 ∀(is:List Nat) {a:Act} {w:World},wpOps P ops Q is a w→wpOpsIn (W ro) n P ops Q' is (lift ds a) w
 |[],a,w,h=>hQ _ _ _ h
 |i::is,a,w,h=>by
  rw[wpOps_cons] at h
  rw[wpOpsIn_cons]
  unfold wpOp at h
  unfold wpOpIn
  cases hi:ops[i]? with
  |none=>
   rw[hi] at h
   exact ops_in hd hQ hnl is h
  |some o=>
   rw[hi] at h
   have ho:isDefer o.op=false:=by
    have:=List.all_eq_true.1 hd o (List.mem_of_getElem? (by simpa using hi))
    simpa using this
   simp only at h ⊢
   have hy:yielded ops (lift ds a).tmps=yielded ops a.tmps:=rfl
   rw[hy]
   by_cases hw:Region.wanted o (yielded ops a.tmps)=true
   ·rw[if_pos hw] at h ⊢
    rcases h with h|⟨_,a',w',q⟩
    ·exact op_in ho (fun a w hk=>ops_in hd hQ hnl is hk) hQ h
    ·exact absurd q (hnl a' w')
   ·rw[if_neg hw] at h ⊢
    refine⟨fun _ _=>trivial, ?_⟩
    rw[lift_put]
    exact ops_in hd hQ hnl is h
end
section
variable {c:Ctx} {n:Nat} {w0:World} {Im0:Nat→Nat→Prop} {loc0:Nat→Loc} {h0:Map Obj}
theorem step_wpG {al:Bool} (hC:CallOk c.P c.glob c.call) {ops:Array Oper} {i:Nat} {o:Oper} {s s':St} {a:Act} {w:World} {Im:Nat→Nat→Prop} {loc:Nat→Loc} {r:Rec} (hi:ops[i]? =some o) (hd: ∀d,o.dst=some d→d<n) (hv:step c al ops.toList o s=some (s',r))
 (I:Inv c n w0 Im0 loc0 h0 s a w Im loc) {K:Act→World→Prop} {Q:Exit→Act→World→Prop} (hk: ∀a' w' Im' loc',Inv c n w0 Im0 loc0 h0 s' a' w' Im' loc'→Grow w Im loc (stm s.heap) w' Im' loc' (stm s'.heap)→K a' w'):wpOp c.P ops Q i K a w:=by
 have hd': ∀d,o.dst=some d→d<a.tmps.size:=fun d e=>Nat.lt_of_lt_of_le (hd d e) I.sz
 unfold wpOp
 simp only[hi]
 unfold step at hv
 cases hg:guardO ops.toList s o.guard with
 |none=>rw[hg] at hv;cases hv
 |some b=>
  rw[hg] at hv
  rw[guard_wanted I.tm hg]
  cases b with
  |true=>
   simp only[step1] at hv
   simp only[if_true]
   exact .inl (op1_wp I.mem I.tm I.glob hC hd' hv fun w' Im' loc' u S T=>hk _ _ _ _ ⟨S.mem,T,I.frm.trans S.frm,by rw[put_size];exact I.sz,by rw[put_df];exact I.df,I.glob.grow S.grow.im S.grow.cell⟩ S.grow)
  |false=>
   simp only[step1,Option.some.injEq,Prod.mk.injEq] at hv
   obtain⟨rfl,_⟩:=hv
   simp only[Bool.false_eq_true,if_false]
   exact hk _ _ Im loc ⟨I.mem,Tm.put I.tm hd' .undef,I.frm,by rw[put_size];exact I.sz,by rw[put_df];exact I.df,I.glob⟩ (Grow.refl ..)
theorem evIx_wpG {al:Bool} (hC:CallOk c.P c.glob c.call) {ops:Array Oper} (hd: ∀(i:Nat) o d,ops[i]? =some o→o.dst=some d→d<n) {Q:Exit→Act→World→Prop}: ∀(is:List Nat) {s s':St} {a:Act} {w:World} {Im:Nat→Nat→Prop} {loc:Nat→Loc} {rs:List Rec},
 evIx c al ops is s=some (s',rs)→Inv c n w0 Im0 loc0 h0 s a w Im loc→(∀a' w' Im' loc',Inv c n w0 Im0 loc0 h0 s' a' w' Im' loc'→Grow w Im loc (stm s.heap) w' Im' loc' (stm s'.heap)→Q .normal a' w')→wpOps c.P ops Q is a w
 |[],s,s',a,w,Im,loc,rs,hv,I,hq=>by
  simp only[evIx,Option.some.injEq,Prod.mk.injEq] at hv
  obtain⟨rfl,_⟩:=hv
  exact hq a w Im loc I (Grow.refl ..)
 |i::is,s,s',a,w,Im,loc,rs,hv,I,hq=>by
  simp only[evIx] at hv
  rw[wpOps_cons]
  cases hi:ops[i]? with
  |none=>rw[hi] at hv;cases hv
  |some o=>
   rw[hi] at hv
   simp only at hv
   cases hs:step c al ops.toList o s with
   |none=>rw[hs] at hv;cases hv
   |some p=>
    obtain⟨s1,r⟩:=p
    rw[hs] at hv
    simp only at hv
    cases hr:evIx c al ops is s1 with
    |none=>rw[hr] at hv;cases hv
    |some q=>
     obtain⟨s2,rs2⟩:=q
     rw[hr] at hv
     simp only[Option.some.injEq,Prod.mk.injEq] at hv
     obtain⟨rfl,_⟩:=hv
     exact step_wpG hC hi (fun d e=>hd i o d hi e) hs I fun a' w' Im' loc' I' G=>evIx_wpG hC hd is hr I' fun a2 w2 Im2 loc2 I2 G2=>hq a2 w2 Im2 loc2 I2 (G.trans G2)
theorem flat_in (hC:CallOk c.P c.glob c.call) {m:Nat} {ro:Option Nat} {ds:List Deferred}: ∀(code:Code) {s s':St} {x:Ex} {a:Act} {w:World} {Im:Nat→Nat→Prop} {loc:Nat→Loc} {Q:Exit→Act→World→Prop},
 flat code=true→okCode n code=true→evC c code s=some (x,s')→Inv c n w0 Im0 loc0 h0 s a w Im loc→
 (∀a' w' Im' loc',Inv c n w0 Im0 loc0 h0 s' a' w' Im' loc'→Grow w Im loc (stm s.heap) w' Im' loc' (stm s'.heap)→Q (exOf x) (lift ds a') w')→code.wpIn (W ro) m c.P Q (lift ds a) w:=by
 intro code
 induction code with
 |skip=>
  intro s s' x a w Im loc Q hf hok hv I hq
  simp only[evC,Option.some.injEq,Prod.mk.injEq] at hv
  obtain⟨rfl,rfl⟩:=hv
  exact wpIn_skip (hq _ _ _ _ I (Grow.refl ..))
 |exit i=>
  intro s s' x a w Im loc Q hf hok hv I hq
  simp only[evC,Option.some.injEq,Prod.mk.injEq] at hv
  obtain⟨rfl,rfl⟩:=hv
  exact wpIn_exit (hq _ _ _ _ I (Grow.refl ..))
 |ret=>
  intro s s' x a w Im loc Q hf hok hv I hq
  simp only[evC,Option.some.injEq,Prod.mk.injEq] at hv
  obtain⟨rfl,rfl⟩:=hv
  exact wpIn_ret (hq _ _ _ _ I (Grow.refl ..))
 |region id ops opn=>
  intro s s' x a w Im loc Q hf hok hv I hq
  simp only[flat,Bool.and_eq_true,Bool.not_eq_true'] at hf
  obtain⟨rfl,hnd⟩:=hf
  simp only[okCode,okReg,Bool.and_eq_true,List.all_eq_true] at hok
  have hd: ∀(i:Nat) o d,ops[i]? =some o→o.dst=some d→d<n:=fun i o d hi hdd=>by
   have:=hok.1 o (List.mem_of_getElem? (by simpa using hi))
   rw[hdd] at this
   simpa[dstOk] using this
  simp only[evC] at hv
  obtain⟨s1,hv,hh,ht⟩:=dropE_some hv
  cases he:evOps c true ops.toList ops.toList s with
  |none=>rw[he] at hv;cases hv
  |some p=>
   obtain⟨e,rs⟩:=p
   rw[he] at hv
   simp only[reg,Option.some.injEq,Prod.mk.injEq] at hv
   obtain⟨rfl,rfl⟩:=hv
   have:=evOps_ix ops.toList 0 (by intro j o hj;simpa using hj) he
   rw[nats_range,Array.length_toList] at this
   refine wpIn_region (ops_in (Q:=fun x a' w'=>x= .normal∧∃Im' loc',Inv c n w0 Im0 loc0 h0 s' a' w' Im' loc'∧Grow w Im loc (stm s.heap) w' Im' loc' (stm s'.heap)) hnd ?_ (fun _ _ h=>by cases h.1) _
    (evIx_wpG hC hd _ this I fun a' w' Im' loc' I' G=>⟨rfl,Im',loc',I'.forget hh ht,by rw[hh];exact G⟩))
   rintro x a' w' ⟨rfl,Im',loc',I',G⟩
   exact hq a' w' Im' loc' I' G
 |seq p q ihp ihq=>
  intro s s' x a w Im loc Q hf hok hv I hq
  simp only[flat,Bool.and_eq_true] at hf
  simp only[okCode,Bool.and_eq_true] at hok
  simp only[evC] at hv
  cases he:evC c p s with
  |none=>rw[he] at hv;cases hv
  |some z=>
   obtain⟨y,s1⟩:=z
   rw[he] at hv
   refine wpIn_seq (ihp hf.1 hok.1 he I fun a' w' Im' loc' I' G=> ?_)
   cases y with
   |normal=>exact ihq hf.2 hok.2 hv I' fun a2 w2 Im2 loc2 I2 G2=>hq a2 w2 Im2 loc2 I2 (G.trans G2)
   |exit i=>
    simp only[evThen,Option.some.injEq,Prod.mk.injEq] at hv
    obtain⟨rfl,rfl⟩:=hv
    exact hq _ _ _ _ I' G
   |ret=>
    simp only[evThen,Option.some.injEq,Prod.mk.injEq] at hv
    obtain⟨rfl,rfl⟩:=hv
    exact hq _ _ _ _ I' G
 |cond b p q ihp ihq=>
  intro s s' x a w Im loc Q hf hok hv I hq
  simp only[flat,Bool.and_eq_true] at hf
  simp only[okCode,Bool.and_eq_true] at hok
  simp only[evC] at hv
  cases hb:boolV (ev c s b) with
  |none=>rw[hb] at hv;cases hv
  |some t=>
   rw[hb] at hv
   have h1:=ev_VR I.tm I.glob b (c:=c) (s:=s) (a:=a)
   rw[boolV_some hb] at h1
   have h2:(lift ds a).eval b= .bool t:=by
    rw[lift_eval]
    revert h1
    generalize a.eval b=z
    intro h1
    cases h1 with
    |d _ _ hx=>cases hx;rfl
   cases t with
   |true=>exact wpIn_cond_true h2 (ihp hf.1 hok.1 hv I hq)
   |false=>exact wpIn_cond_false h2 (ihq hf.2 hok.2 hv I hq)
 |block i p ih=>
  intro s s' x a w Im loc Q hf hok hv I hq
  simp only[flat] at hf
  simp only[okCode] at hok
  simp only[evC] at hv
  cases he:evC c p s with
  |none=>rw[he] at hv;cases hv
  |some z=>
   obtain⟨y,s1⟩:=z
   rw[he] at hv
   refine wpIn_block (ih hf hok he I fun a' w' Im' loc' I' G=> ?_)
   cases y with
   |normal=>
    simp only[inBlock,Option.some.injEq,Prod.mk.injEq] at hv
    obtain⟨rfl,rfl⟩:=hv
    exact hq _ _ _ _ I' G
   |exit j=>
    simp only[inBlock] at hv
    by_cases hji:j=i
    ·subst hji
     simp only[beq_self_eq_true,cond_true,Option.some.injEq,Prod.mk.injEq] at hv
     obtain⟨rfl,rfl⟩:=hv
     simp only[exOf,Exit.inBlock,if_true]
     exact hq _ _ _ _ I' G
    ·have hb:(j==i)=false:=by simpa using hji
     rw[hb] at hv
     simp only[cond_false,Option.some.injEq,Prod.mk.injEq] at hv
     obtain⟨rfl,rfl⟩:=hv
     simp only[exOf,Exit.inBlock,hji,if_false]
     exact hq _ _ _ _ I' G
   |ret=>
    simp only[inBlock,Option.some.injEq,Prod.mk.injEq] at hv
    obtain⟨rfl,rfl⟩:=hv
    exact hq _ _ _ _ I' G
 |_=>intro s s' x a w Im loc Q hf;simp[flat] at hf
end
end Go.Ev
set_option autoImplicit false
namespace Go.Ev
open Go.RowKit
def lst:Option Obj→Option (List D)
 |some (.cells [.d (.list xs)])=>some xs
 |_=>none
def rgTm (tm:Map V) (p q:Tmp) (i:Nat) (n:Int):Map V:=setT (setT tm p (.d (.int .i64 i))) q (.d (.int .u8 n))
def rgE:Option (Ex×St)→Option (Ex×Map Obj)
 |some (.normal,s)=>some (.normal,s.heap)
 |some (.ret,s)=>some (.ret,s.heap)
 |some (.exit _,_)=>none
 |none=>none
def rgAsg (k:St→Option (Ex×Map Obj)):Option (Ex×St)→Option (Ex×Map Obj)
 |some (.normal,s)=>k s
 |some (.ret,_)=>none
 |some (.exit _,_)=>none
 |none=>none
def rg1 (c:Ctx) (asg bd:Code) (p q:Tmp) (tm:Map V) (h:Map Obj) (i:Nat):Option D→Option (Ex×Map Obj)
 |some (.int .u8 n)=>rgAsg (fun s=>rgE (evC c bd s)) (evC c asg ⟨rgTm tm p q i n,h⟩)
 |_=>none
theorem rg1_some {c:Ctx} {asg bd:Code} {p q:Tmp} {tm:Map V} {h h':Map Obj} {i:Nat} {d:Option D} {x:Ex} (e:rg1 c asg bd p q tm h i d=some (x,h')):
 ∃n sa s',d=some (.int .u8 n)∧evC c asg ⟨rgTm tm p q i n,h⟩=some (.normal,sa)∧evC c bd sa=some (x,s')∧s'.heap=h'∧(x= .normal∨x= .ret):=by
 unfold rg1 at e
 split at e
 ·rename_i n
  cases ha:evC c asg ⟨rgTm tm p q i n,h⟩ with
  |none=>rw[ha] at e;cases e
  |some z=>
   obtain⟨y,sa⟩:=z
   rw[ha] at e
   cases y with
   |exit j=>cases e
   |ret=>cases e
   |normal=>
    simp only[rgAsg] at e
    cases hb:evC c bd sa with
    |none=>rw[hb] at e;cases e
    |some z=>
     obtain⟨y,s'⟩:=z
     rw[hb] at e
     cases y with
     |exit j=>cases e
     |ret=>simp only[rgE,Option.some.injEq,Prod.mk.injEq] at e;obtain⟨rfl,rfl⟩:=e;exact⟨n,sa,s',rfl,ha,hb,rfl, .inr rfl⟩
     |normal=>simp only[rgE,Option.some.injEq,Prod.mk.injEq] at e;obtain⟨rfl,rfl⟩:=e;exact⟨n,sa,s',rfl,ha,hb,rfl, .inl rfl⟩
 ·cases e
def rgNext (k:Map Obj→Option (Ex×Map Obj)):Option (Ex×Map Obj)→Option (Ex×Map Obj)
 |some (.normal,h)=>k h
 |some (.ret,h)=>some (.ret,h)
 |some (.exit _,_)=>none
 |none=>none
def rgAt (i:Nat):Option (List D)→Option D
 |some xs=>xs[i]?
 |none=>none
def rgGet (h:Map Obj) (r i:Nat):Option D:=rgAt i (lst (getM h r))
def rgGo (c:Ctx) (asg bd:Code) (p q:Tmp) (tm:Map V) (r:Nat):Nat→Map Obj→Option (Ex×Map Obj)
 |0,h=>some (.normal,h)
 |k+1,h=>rgNext (rgGo c asg bd p q tm r k) (rg1 c asg bd p q tm h k (rgGet h r k))
def rgEnd (c:Ctx) (post:Code) (tm:Map V) (e:Option (Ex×St)→Option Res):Option (Ex×Map Obj)→Option Res
 |some (.normal,h)=>e (evC c post ⟨tm,h⟩)
 |some (.ret,h)=>e (some (.ret,⟨tm,h⟩))
 |_=>none
def rgLen (c:Ctx) (asg bd post:Code) (p q:Tmp) (s:St) (r:Nat) (e:Option (Ex×St)→Option Res):Option (List D)→Option Res
 |some xs=>bif decide (xs.length≤1099511627776) then rgEnd c post s.tmps e (rgGo c asg bd p q s.tmps r xs.length s.heap) else none
 |none=>none
def rgIt (c:Ctx) (it:FuncId) (asg bd post:Code) (p q:Tmp) (s:St) (e:Option (Ex×St)→Option Res):V→Option Res
 | .fn (.func f) [] [.ptr r 0]=>bif f==it then rgLen c asg bd post p q s r e (lst (getM s.heap r)) else none
 |_=>none
def rgSt (c:Ctx) (it:FuncId) (t:Tmp) (asg bd post:Code) (p q:Tmp) (e:Option (Ex×St)→Option Res):Option (Ex×St)→Option Res
 |some (.normal,s)=>rgIt c it asg bd post p q s e (getT s.tmps t)
 |_=>none
def rgB (c:Ctx) (it:FuncId) (args:List V) (objs:List Obj) (e:Option (Ex×St)→Option Res):Code→Option Res
 | .seq p1 (.seq (.seq p2 (.block _ (.rangeFunc (.tmp t) ⟨[p,q]⟩ asg bd))) post)=>rgSt c it t asg bd post p q e (evThen (evC c p2) (evC c p1 ⟨keyed 0 args,keyed 0 objs⟩))
 |_=>none
def rangeX1 (g:Cfg) (call:Calling) (it f:FuncId) (args:List V) (objs:List Obj):Option Func→Option Res
 |some ⟨_,_,_,_,rts,_,_,res,some body,_,_,_,_,_,_,_⟩=>rgB ⟨g.P,call,g.fuel,g.keep f,objs.length,g.glob,g.own,g.live f⟩ it args objs (endF (g.own f) g.P rts.toList res.toList objs.length) body
 |_=>none
def rangeX (g:Cfg) (call:Calling) (it f:FuncId) (args:List V) (objs:List Obj):Option Res:=rangeX1 g call it f args objs g.P.funcs[f]?
def BackOk (P:Program) (it:FuncId):Prop:=
 (∀args w,(callFunc it args).run P w= .ok (.enter it args) w)∧
 ∀(n l b:Nat) (J:Nat→World→Prop) (Jx:World→Prop) (W:World) (a:Option Addr) (len cap:Nat),len≤1099511627776→W.cell? ⟨b,0,none⟩=some (.slice a len cap)→
  (∀k W1,k<len→J (k+1) W1→∃bb o m cap' x,W1.cell? ⟨b,0,none⟩=some (.slice (some ⟨bb,o,none⟩) m cap')∧k<m∧W1.cell? ⟨bb,o+k,none⟩=some (.int .u8 x)∧
    YieldAt Fence.wide (n-1) P l #[.int .i64 k, .int .u8 x] W1 fun e W'=>(e= .returned (.bool true)∧J k W')∨(e= .returned (.bool false)∧Jx W'))→
  J len W→CallsIn Fence.wide n P it #[.func (.yield l) #[] #[], .pointer (some ⟨b,0,none⟩)] W fun e W'=>(∃v,e= .returned v)∧(J 0 W'∨Jx W')
def rgOk (n:Nat):Code→Bool
 | .seq p1 (.seq (.seq p2 (.block _ (.rangeFunc (.tmp _) ⟨[p,q]⟩ asg bd))) post)=>
   flat p1&&okCode n p1&&(flat p2&&okCode n p2)&&(flat asg&&okCode n asg)&&(flat bd&&okCode n bd)&&(flat post&&okCode n post)&&(decide (p<n)&&decide (q<n))
 |_=>false
def rgFn (fn:Func):Bool:=(fn.name != "runtime.NumGoroutine")&&(match fn.body with
 |some b=>rgOk fn.ntmps b
 |none=>false)
section
variable {w:World} {Im:Nat→Nat→Prop} {loc:Nat→Loc} {h:Map Obj}
structure Beside (w:World) (Im:Nat→Nat→Prop) (loc:Nat→Loc) (w':World):Prop where
 os:w'.os=w.os
 tape:w'.tape=w.tape
 output:w'.output=w.output
 size:w.heap.size≤w'.heap.size
 own: ∀r b,owns (loc r) b→w'.heap[b]? =w.heap[b]?
 im: ∀b o,Im b o→w'.heap[b]? =w.heap[b]?
theorem Beside.grow {w':World} (B:Beside w Im loc w') (st:Nat→Option (Nat×Nat)):Grow w Im loc st w' Im loc st:=
 ⟨fun _ _ h=>h,fun b o h=>World.cell?_of_block (a:=⟨b,o,none⟩) (B.im b o h),fun _ _ h=>h,fun _ cur n hl h=>⟨hl,cur,n,h,Nat.le_refl _,fun _=>⟨rfl,Nat.le_refl _⟩⟩⟩
theorem Beside.mem {w':World} (B:Beside w Im loc w') (hM:Mem w Im loc h):Mem w' Im loc h:=
 ⟨fun r o e=>(hM.obj r o e).keep (B.grow _) rfl fun b hb=>⟨B.own r b hb,fun q hq=>hq⟩,hM.no,hM.inj,fun b o hi=>Nat.lt_of_lt_of_le (hM.im b o hi) B.size⟩
theorem Beside.frm {w' w0:World} {Im0:Nat→Nat→Prop} {loc0:Nat→Loc} {h0:Map Obj} (B:Beside w Im loc w') (F:Frm w0 Im0 loc0 h0 w Im loc h) (hb: ∀b,b<w0.heap.size→w'.heap[b]? =w.heap[b]? ):Frm w0 Im0 loc0 h0 w' Im loc h:=
 ⟨B.os.trans F.os,B.tape.trans F.tape,B.output.trans F.output,Nat.le_trans F.size B.size,fun b hlt hn=>(hb b hlt).trans (F.old b hlt hn),F.imS,fun b o hi=>(World.cell?_of_block (a:=⟨b,o,none⟩) (B.im b o (F.imS b o hi))).trans (F.imC b o hi),F.imN,F.ownN,F.chg⟩
theorem Beside.putObj {l:Nat} {o':Go.Obj} (ho: ∀r,¬owns (loc r) l) (hi: ∀o,¬Im l o):Beside w Im loc (w.putObj l o'):=
 ⟨rfl,rfl,rfl,by simp,fun r b hb=>World.putObj_heap_other (fun e=>ho r (e ▸ hb)),fun b o hb=>World.putObj_heap_other (fun e=>hi o (e ▸ hb))⟩
theorem Beside.alloc (hM:Mem w Im loc h) (o':Go.Obj):Beside w Im loc (w.alloc o'):=
 ⟨rfl,rfl,rfl,by simp,fun r b hb=>Below.heap_alloc w o' b (owns_lt hM hb),fun b o hb=>Below.heap_alloc w o' b (hM.im b o hb)⟩
theorem Inv.beside {c:Ctx} {n:Nat} {w0 w':World} {Im0:Nat→Nat→Prop} {loc0:Nat→Loc} {h0:Map Obj} {s:St} {a:Act} (I:Inv c n w0 Im0 loc0 h0 s a w Im loc) (B:Beside w Im loc w') (hb: ∀b,b<w0.heap.size→w'.heap[b]? =w.heap[b]?):Inv c n w0 Im0 loc0 h0 s a w' Im loc:=
 ⟨B.mem I.mem,I.tm.grow (B.grow _),B.frm I.frm hb,I.sz,I.df,I.glob.grow (B.grow (stm s.heap)).im (B.grow (stm s.heap)).cell⟩
theorem lst_read {r:Nat} {xs:List D} (hM:Mem w Im loc h) (hl:lst (getM h r)=some xs): ∃b a cap,loc r= .blk b∧w.cell? ⟨b,0,none⟩=some (.slice a xs.length cap)∧
 ∀(k:Nat) (x:Int),xs[k]? =some (.int .u8 x)→∃bb o,a=some ⟨bb,o,none⟩∧w.cell? ⟨bb,o+k,none⟩=some (.int .u8 x):=by
 unfold lst at hl
 split at hl
 ·rename_i ys hg
  cases hl
  obtain⟨b,h1,arr,t,f,h2,h3,h4,h5,h6,h7⟩:=hM.obj r _ hg
  have hlt:0<arr.size:=by rw[h3];simp
  have hv:=h6 0 _ arr[0] rfl (by simp[hlt])
  have hcell:w.cell? ⟨b,0,none⟩=some arr[0]:=by simp[World.cell?,h2,hlt]
  cases hv with
  |d _ _ hd=>
   generalize arr[0]=u at hd hcell
   cases hd with
   |empty a c=>exact⟨b,a,c,h1,hcell,fun k x hk=>by simp at hk⟩
   |list _ bb o sz c u hc g1 g2 g3=>
    refine⟨b,_,c,h1,hcell,fun k x hk=>⟨bb,o,rfl, ?_⟩⟩
    have hs:sz=1:=by have:=g1 k _ hk;simpa[cellsD] using this.symm
    subst hs
    have a1:=g2 k _ 0 _ hk rfl
    have a2:=g3 k _ 0 _ hk rfl
    rw[Nat.mul_one,Nat.add_zero] at a1
    rw[a1.2.2]
    generalize u k 0=z at a2
    cases a2;rfl
 ·cases hl
end
end Go.Ev
set_option autoImplicit false
namespace Go.Ev
open Go.RowKit
theorem round_tm {w:World} {Im:Nat→Nat→Prop} {loc:Nat→Loc} {st:Nat→Option (Nat×Nat)} {tm:Map V} {a:Act} {p q:Tmp} (hT:Tm w Im loc st tm a.tmps) (hp:p<a.tmps.size) (hq:q<a.tmps.size) (i:Nat) (x:Int):
 Tm w Im loc st (rgTm tm p q i x) (((#[p,q]:Array Tmp).zip #[Value.int .i64 i,Value.int .u8 x]).foldl (fun t (p,v)=>t.setIfInBounds p v) a.tmps):=by
 have h1:Tm w Im loc st (put tm (some p) (.d (.int .i64 i))) (a.put (some p) (.int .i64 i)).tmps:=Tm.put hT (fun d e=>by cases e;exact hp) (.d _ _ (.int _ _))
 have h2:Tm w Im loc st (put (put tm (some p) (.d (.int .i64 i))) (some q) (.d (.int .u8 x))) ((a.put (some p) (.int .i64 i)).put (some q) (.int .u8 x)).tmps:=Tm.put h1 (fun d e=>by cases e;rw[put_size];exact hq) (.d _ _ (.int _ _))
 have e:((#[p,q]:Array Tmp).zip #[Value.int .i64 i,Value.int .u8 x]).foldl (fun t (p,v)=>t.setIfInBounds p v) a.tmps=((a.put (some p) (.int .i64 i)).put (some q) (.int .u8 x)).tmps:=by simp[Act.put]
 rw[e]
 exact h2
theorem round_size {a:Act} {p q:Tmp} (i:Nat) (x:Int):(((#[p,q]:Array Tmp).zip #[Value.int .i64 i,Value.int .u8 x]).foldl (fun t (p,v)=>t.setIfInBounds p v) a.tmps).size=a.tmps.size:=by simp
theorem keepL {w w':World} {Im Im':Nat→Nat→Prop} {loc loc':Nat→Loc} {h h':Map Obj} {l:Nat} {o:Go.Obj} (F:Frm w Im loc h w' Im' loc' h') (hl:w.heap[l]? =some o) (h1: ∀q,¬owns (loc q) l) (h2: ∀o,¬Im l o):
 w'.heap[l]? =some o∧(∀q,¬owns (loc' q) l)∧∀o,¬Im' l o:=by
 have hlt:=(Array.getElem?_eq_some_iff.1 hl).1
 refine⟨(F.old l hlt h1).trans hl,fun q hq=> ?_,fun o ho=> ?_⟩
 ·rcases F.ownN q l hq with⟨r,hr⟩|hr
  ·exact h1 r hr
  ·omega
 ·rcases F.imN l o ho with hr|⟨r,hr⟩|hr
  ·exact h2 o hr
  ·exact h1 r hr
  ·omega
def markOf (D:Nat):Deferred:={target:= .collected D,args:= #[]}
section
variable {c:Ctx} {n m:Nat} {w0:World} {Im0:Nat→Nat→Prop} {loc0:Nat→Loc} {h0:Map Obj} {s:St} {a:Act} {w:World} {Im:Nat→Nat→Prop} {loc:Nat→Loc}
set_option maxHeartbeats 1000000 in
theorem range_part (hC:CallOk c.P c.glob c.call) {it:FuncId} (hB:BackOk c.P it) {asg bd:Code} {p q t:Tmp} (f3:flat asg=true) (k3:okCode n asg=true) (f4:flat bd=true) (k4:okCode n bd=true) (hp:p<n) (hq:q<n)
 (I:Inv c n w0 Im0 loc0 h0 s a w Im loc) {r:Nat} {xs:List D} {xf:Ex} {hf:Map Obj} (ht:getT s.tmps t= .fn (.func it) [] [.ptr r 0]) (hl:lst (getM s.heap r)=some xs) (hlen:xs.length≤1099511627776)
 (hgo:rgGo c asg bd p q s.tmps r xs.length s.heap=some (xf,hf)) {Q:Exit→Act→World→Prop}
 (hQ: ∀D w' Im' loc',Inv c n w0 Im0 loc0 h0 ⟨s.tmps,hf⟩ a w' Im' loc'→w'.heap[D]? =some (.deferred (some []))→(∀q,¬owns (loc' q) D)→(∀o,¬Im' D o)→w0.heap.size≤D→(xf= .normal→Q .normal (lift [markOf D] a) w')∧(xf= .ret→Q .ret (lift [markOf D] a) w')):
 (Code.rangeFunc (.tmp t) #[p,q] asg bd).wpIn (W none) m c.P Q a w:=by
 obtain⟨b,ad,cap,hlr,hcell,hread⟩:=lst_read I.mem hl
 have hev:a.eval (.tmp t)= .func (.func it) #[] #[.pointer (some ⟨b,0,none⟩)]:=by
  have h1:=ev_VR I.tm I.glob (.tmp t) (c:=c) (s:=s) (a:=a)
  have h2:ev c s (.tmp t)=getT s.tmps t:=rfl
  rw[h2,ht] at h1
  revert h1
  generalize a.eval (.tmp t)=z
  intro h1
  cases h1 with
  |fn _ _ _ a' b' g1 g2 g3 g4=>
   have e1:a'= #[]:=Array.size_eq_zero_iff.1 (by simpa using g1)
   obtain⟨v,rfl⟩: ∃v,b'= #[v]:=Array.size_eq_one_iff.1 (by simpa using g2)
   have:=g4 0 _ v rfl rfl
   subst e1
   cases this with
   |ptr _ _ b2 hb2=>
    rw[hlr] at hb2
    cases hb2;rfl
 have hDlt:=I.frm.size
 refine wpIn_rangeFunc ?_
 intro fn hfn
 obtain⟨rec,hrec⟩: ∃rec:LoopState→Option Code→Loop,rec=fun st pe=>{state:=st,pending:=pe,fn,tmps:=a.tmps,params:= #[p,q],assign:=asg,body:=bd,defers:=w.heap.size}:=⟨_,rfl⟩
 obtain⟨W1,hW1⟩: ∃W1,(w.alloc (.deferred (some []))).alloc (.loop (rec .ready none))=W1:=⟨_,rfl⟩
 have hL1:W1.heap[w.heap.size+1]? =some (.loop (rec .ready none)):=by
  rw[←hW1];have:=World.alloc_heap_new (w.alloc (.deferred (some []))) (.loop (rec .ready none));rwa [World.size_alloc] at this
 have hK1:W1.heap[w.heap.size]? =some (.deferred (some [])):=by
  rw[←hW1];exact(Below.heap_alloc _ _ _ (by simp)).trans (World.alloc_heap_new w _)
 have Ia:=I.beside (Beside.alloc I.mem (.deferred (some []))) (fun b hb=>Below.heap_alloc w _ b (by omega))
 have Ib:=Ia.beside (Beside.alloc Ia.mem (.loop (rec .ready none))) (fun b hb=>Below.heap_alloc _ _ b (by simp;omega))
 rw[hW1] at Ib
 have hno: ∀l,w.heap.size≤l→(∀q,¬owns (loc q) l)∧∀o,¬Im l o:=fun l hl=>⟨fun q hq=>by have:=owns_lt I.mem hq;omega,fun o ho=>by have:=I.mem.im l o ho;omega⟩
 obtain⟨l,hl0⟩: ∃l,l=w.heap.size+1:=⟨_,rfl⟩
 obtain⟨D,hD0⟩: ∃D,D=w.heap.size:=⟨_,rfl⟩
 refine⟨w.heap.size+1,[markOf w.heap.size],W1,{target:= .fn (.func it) #[.pointer (some ⟨b,0,none⟩)],args:= #[.func (.yield (w.heap.size+1)) #[] #[]]},W1,it,
  #[.func (.yield (w.heap.size+1)) #[] #[]]++ #[.pointer (some ⟨b,0,none⟩)],W1, ?_, ?_,fun _ _=>trivial, ?_,fun h=>by simp[W,Fence.wide] at h, ?_⟩
 ·rw[←hW1,hrec];exact run_enterLoop_outer _ _ _ _ _
 ·simp only[resolve,hev]
  simp[go_sem]
 ·simp[invoke,go_sem,hB.1]
 ·have hcell1:W1.cell? ⟨b,0,none⟩=some (.slice ad xs.length cap):=by
   obtain⟨b',ad',cap',g1,g2,_⟩:=lst_read Ib.mem hl
   rw[hlr] at g1
   cases g1
   have hb:W1.cell? ⟨b,0,none⟩=w.cell? ⟨b,0,none⟩:=World.cell?_of_block (a:=⟨b,0,none⟩) (by
    have hlt:b<w.heap.size:=owns_lt I.mem (r:=r) (by rw[hlr];rfl)
    rw[←hW1]
    exact(Below.heap_alloc _ _ _ (by simp;omega)).trans (Below.heap_alloc _ _ _ hlt))
   rw[hb];exact hcell
  rw[←hl0] at hL1 ⊢
  rw[←hD0] at hK1 hrec ⊢
  have hlD:l≠D:=by omega
  refine(hB.2 (m-1) l b
   (fun k W=> ∃h Im' loc',rgGo c asg bd p q s.tmps r k h=some (xf,hf)∧Inv c n w0 Im0 loc0 h0 ⟨s.tmps,h⟩ a W Im' loc'∧loc' r= .blk b∧W.heap[l]? =some (.loop (rec .ready none))∧W.heap[D]? =some (.deferred (some []))∧
     (∀q,¬owns (loc' q) l)∧(∀o,¬Im' l o)∧(∀q,¬owns (loc' q) D)∧∀o,¬Im' D o)
   (fun W=> ∃Im' loc',xf= .ret∧Inv c n w0 Im0 loc0 h0 ⟨s.tmps,hf⟩ a W Im' loc'∧W.heap[l]? =some (.loop (rec .done (some .ret)))∧W.heap[D]? =some (.deferred (some []))∧
     (∀q,¬owns (loc' q) l)∧(∀o,¬Im' l o)∧(∀q,¬owns (loc' q) D)∧∀o,¬Im' D o)
   W1 ad xs.length cap hlen hcell1 ?_ ⟨s.heap,Im,loc,hgo,Ib,hlr,hL1,hK1,(hno l (by omega)).1,(hno l (by omega)).2,(hno D (by omega)).1,(hno D (by omega)).2⟩).mono ?_
  ·
   rintro k W hk ⟨h,Im',loc',hg,I',hlr',hl1,hk1,o1,o2,o3,o4⟩
   have hlt:l<W.heap.size:=(Array.getElem?_eq_some_iff.1 hl1).1
   have hw0: ∀{X:World} {o:Go.Obj} (b:Nat),b<w0.heap.size→(X.putObj l o).heap[b]? =X.heap[b]? :=fun{X o} b hb=>World.putObj_heap_other (by omega)
   simp only[rgGo] at hg
   cases h1:rg1 c asg bd p q s.tmps h k (rgGet h r k) with
   |none=>rw[h1] at hg;cases hg
   |some z=>
    obtain⟨y,h'⟩:=z
    rw[h1] at hg
    obtain⟨x,sa,s',hget,ha,hb,rfl,hy⟩:=rg1_some h1
    unfold rgGet at hget
    cases hls:lst (getM h r) with
    |none=>rw[hls] at hget;cases hget
    |some ys=>
     rw[hls] at hget
     obtain⟨b',ad',cap',g1,g2,g3⟩:=lst_read I'.mem hls
     rw[hlr'] at g1
     cases g1
     obtain⟨bb,o,rfl,g4⟩:=g3 k x hget
     have hkl:k<ys.length:=(List.getElem?_eq_some_iff.1 hget).1
     refine⟨bb,o,ys.length,cap',x,g2,hkl,g4, ?_⟩
     have hy2:=run_yield (P:=c.P) (args:= #[.int .i64 k, .int .u8 x]) hl1 (by rw[hrec];rfl)
     rw[hrec] at hy2
     refine⟨fn,_,asg,bd,hy2,roundIn_of_wpIn trivial ?_⟩
     have IA:Inv c n W Im' loc' h ⟨rgTm s.tmps p q k x,h⟩ {tmps:=((#[p,q]:Array Tmp).zip #[Value.int .i64 k,Value.int .u8 x]).foldl (fun t (p,v)=>t.setIfInBounds p v) a.tmps,defers:=[]} W Im' loc':=
      ⟨I'.mem,round_tm I'.tm (Nat.lt_of_lt_of_le hp I'.sz) (Nat.lt_of_lt_of_le hq I'.sz) k x,Frm.refl ..,by rw[round_size];exact I'.sz,rfl,I'.glob⟩
     refine flat_in (ro:=some l) (ds:=[]) hC asg f3 k3 ha IA fun aa wa Ima loca Ia Ga=> ?_
     obtain⟨q1,q2,q3⟩:=keepL Ia.frm hl1 o1 o2
     obtain⟨q4,q5,q6⟩:=keepL Ia.frm hk1 o3 o4
     show ∃w₂,(Instr.beginRound l).run c.P wa= .ok () w₂∧_
     refine⟨_,run_beginRound q1 (by rw[hrec]), ?_⟩
     have Bb:Beside wa Ima loca (wa.putObj l (.loop {rec .ready none with state:= .busy})):=Beside.putObj q2 q3
     have IB:Inv c n (wa.putObj l (.loop {rec .ready none with state:= .busy})) Ima loca sa.heap sa (lift [] aa) (wa.putObj l (.loop {rec .ready none with state:= .busy})) Ima loca:=
      ⟨Bb.mem Ia.mem,Ia.tm.grow (Bb.grow _),Frm.refl ..,Ia.sz,by show aa.defers++[]=[];rw[Ia.df];rfl,Ia.glob.grow (Bb.grow (stm sa.heap)).im (Bb.grow (stm sa.heap)).cell⟩
     have hlb:(wa.putObj l (.loop {rec .ready none with state:= .busy})).heap[l]? =some (.loop {rec .ready none with state:= .busy}):=World.putObj_heap_same (Array.getElem?_eq_some_iff.1 q1).1
     have hkb:(wa.putObj l (.loop {rec .ready none with state:= .busy})).heap[D]? =some (.deferred (some [])):=(World.putObj_heap_other (Ne.symm hlD)).trans q4
     have key:=flat_in (m:=m-1-1) (ro:=some l) (ds:=[]) hC bd f4 k4 hb IB (Q:=roundPost c.P l fun e W'=>(e= .returned (.bool true)∧∃h Im' loc',rgGo c asg bd p q s.tmps r k h=some (xf,hf)∧Inv c n w0 Im0 loc0 h0 ⟨s.tmps,h⟩ a W' Im' loc'∧loc' r= .blk b∧W'.heap[l]? =some (.loop (rec .ready none))∧W'.heap[D]? =some (.deferred (some []))∧
      (∀q,¬owns (loc' q) l)∧(∀o,¬Im' l o)∧(∀q,¬owns (loc' q) D)∧∀o,¬Im' D o)∨(e= .returned (.bool false)∧∃Im' loc',xf= .ret∧Inv c n w0 Im0 loc0 h0 ⟨s.tmps,hf⟩ a W' Im' loc'∧W'.heap[l]? =some (.loop (rec .done (some .ret)))∧W'.heap[D]? =some (.deferred (some []))∧
      (∀q,¬owns (loc' q) l)∧(∀o,¬Im' l o)∧(∀q,¬owns (loc' q) D)∧∀o,¬Im' D o)) ?_
     ·have hle:lift [] (lift [] aa)=lift [] aa:=by simp[lift]
      rw[hle] at key
      exact key
     ·intro a' w' Im2 loc2 I2 G2
      obtain⟨r1,r2,r3⟩:=keepL I2.frm hlb q2 q3
      obtain⟨r4,r5,r6⟩:=keepL I2.frm hkb q5 q6
      have fin: ∀(st:LoopState) (pe:Option Code),Inv c n w0 Im0 loc0 h0 ⟨s.tmps,s'.heap⟩ a (w'.putObj l (.loop (rec st pe))) Im2 loc2∧loc2 r= .blk b∧(w'.putObj l (.loop (rec st pe))).heap[l]? =some (.loop (rec st pe))∧(w'.putObj l (.loop (rec st pe))).heap[D]? =some (.deferred (some [])):=fun st pe=>by
       have Bc:Beside w' Im2 loc2 (w'.putObj l (.loop (rec st pe))):=Beside.putObj r2 r3
       have Gall:=((Ga.trans (Bb.grow _)).trans G2).trans (Bc.grow _)
       refine⟨⟨Bc.mem I2.mem,I'.tm.grow Gall,Bc.frm ((Bb.frm (I'.frm.trans Ia.frm) hw0).trans I2.frm) hw0,I'.sz,I'.df,I2.glob.grow (Bc.grow (stm s'.heap)).im (Bc.grow (stm s'.heap)).cell⟩,Gall.blk r b hlr', ?_, ?_⟩
       ·exact World.putObj_heap_same (Array.getElem?_eq_some_iff.1 r1).1
       ·exact(World.putObj_heap_other (Ne.symm hlD)).trans r4
      rcases hy with rfl|rfl
      ·simp only[rgNext] at hg
       obtain⟨z1,z2,z3,z4⟩:=fin .ready none
       have hend:=run_endRound (P:=c.P) none r1
       rw[hrec] at hend z1 z3 z4 ⊢
       exact⟨_,_,hend, .inl ⟨rfl,s'.heap,Im2,loc2,hg,z1,z2,z3,z4,r2,r3,r5,r6⟩⟩
      ·simp only[rgNext,Option.some.injEq,Prod.mk.injEq] at hg
       obtain⟨rfl,rfl⟩:=hg
       obtain⟨z1,z2,z3,z4⟩:=fin .done (some .ret)
       have hend:=run_endRound (P:=c.P) (some .ret) r1
       rw[hrec] at hend z1 z3 z4 ⊢
       exact⟨_,_,hend, .inr ⟨rfl,Im2,loc2,rfl,z1,z3,z4,r2,r3,r5,r6⟩⟩
  ·
   have hlift:({a with defers:=[markOf D]++a.defers}:Act)=lift [markOf D] a:=by simp[lift,I.df]
   rintro e W2 ⟨⟨v,rfl⟩,(⟨h,Im',loc',hg,I',_,hl1,hk1,o1,o2,o3,o4⟩|⟨Im',loc',rfl,I',hl1,hk1,o1,o2,o3,o4⟩)⟩
   ·simp only[rgGo,Option.some.injEq,Prod.mk.injEq] at hg
    obtain⟨rfl,rfl⟩:=hg
    have hend:=run_endLoop (P:=c.P) hl1 (by rw[hrec];simp)
    refine⟨none,_,by rw[hend,hrec], ?_⟩
    have Bc: ∀o,Beside W2 Im' loc' (W2.putObj l o):=fun o=>Beside.putObj o1 o2
    show Q .normal {a with defers:=[markOf D]++a.defers} _
    rw[hlift]
    exact(hQ D _ Im' loc' (I'.beside (Bc _) fun b hb=>World.putObj_heap_other (by omega)) ((World.putObj_heap_other (Ne.symm hlD)).trans hk1) o3 o4 (by omega)).1 rfl
   ·have hend:=run_endLoop (P:=c.P) hl1 (by rw[hrec];simp)
    refine⟨some .ret,_,by rw[hend,hrec], ?_⟩
    have Bc: ∀o,Beside W2 Im' loc' (W2.putObj l o):=fun o=>Beside.putObj o1 o2
    refine wpIn_ret ?_
    show Q .ret {a with defers:=[markOf D]++a.defers} _
    rw[hlift]
    exact(hQ D _ Im' loc' (I'.beside (Bc _) fun b hb=>World.putObj_heap_other (by omega)) ((World.putObj_heap_other (Ne.symm hlD)).trans hk1) o3 o4 (by omega)).2 rfl
end
theorem range_ok {g:Cfg} {call:Calling} (hC:CallOk g.P g.glob call) {it f:FuncId} (hB:BackOk g.P it) (hok: ∀fn,g.P.funcs[f]? =some fn→rgFn fn=true):FnOk g.P g.glob f (rangeX g call it f):=by
 intro args objs v objs' hv h64 hcl
 unfold rangeX at hv
 cases hf:g.P.funcs[f]? with
 |none=>rw[hf] at hv;cases hv
 |some fn=>
  rw[hf] at hv
  have hk:=hok fn hf
  simp only[rgFn,Bool.and_eq_true] at hk
  obtain⟨hng,hk⟩:=hk
  cases hb:fn.body with
  |none=>rw[hb] at hk;cases hk
  |some body=>
   rw[hb] at hk
   simp only at hk
   obtain⟨E,hE⟩: ∃E,E=endF (g.own f) g.P fn.resultTypes.toList fn.results.toList objs.length:=⟨_,rfl⟩
   obtain⟨c,hc⟩: ∃c:Ctx,c=⟨g.P,call,g.fuel,g.keep f,objs.length,g.glob,g.own,g.live f⟩:=⟨_,rfl⟩
   have hv2:rgB c it args objs E body=some (v,objs'):=by
    obtain⟨n1,n2,n3,n4,n5,n6,n7,n8,b,n10,n11,n12,n13,n14,n15,n16⟩:=fn
    simp only at hb
    subst hb
    rw[hE,hc]
    exact hv
   refine⟨⟨fn,rfl,by simpa using hng,by rw[hb];rfl⟩,fun w Im loc us hM hG hV=> ?_⟩
   unfold rgOk at hk
   split at hk
   ·rename_i p1 p2 i t p q asg bd post
    simp only[Bool.and_eq_true,decide_eq_true_eq] at hk
    obtain⟨⟨⟨⟨⟨⟨f1,k1⟩,f2,k2⟩,f3,k3⟩,f4,k4⟩,f5,k5⟩,hp,hq⟩:=hk
    simp only[rgB] at hv2
    have hCc:CallOk c.P c.glob c.call:=by rw[hc];exact hC
    have hcP:c.P=g.P:=by rw[hc]
    have hcg:c.glob=g.glob:=by rw[hc]
    have I0:Inv c fn.ntmps w Im loc (keyed 0 objs) ⟨keyed 0 args,keyed 0 objs⟩ {tmps:=us.toArray++Array.replicate (fn.ntmps-us.toArray.size) Go.undef,defers:=[]} w Im loc:=by
     refine⟨hM,fun t v e=> ?_,Frm.refl ..,by simp;omega,rfl,by rw[hcg];exact hG⟩
     simp only[keyed0] at e
     have hlt:t<us.length:=by rw[hV.1];exact(List.getElem?_eq_some_iff.1 e).1
     refine⟨by simp;omega, ?_⟩
     have hg:(us.toArray++Array.replicate (fn.ntmps-us.toArray.size) Go.undef).getD t Go.undef=us[t]:=by
      simp[Array.getD_eq_getD_getElem?,Array.getElem?_append,hlt]
     rw[hg]
     exact hV.2 t v us[t] e (by simp[hlt])
    refine(callsIn_wide (n:=3)).1 (callsIn_of_wp_marks hf hb trivial ?_ rfl)
    cases he1:evC c p1 ⟨keyed 0 args,keyed 0 objs⟩ with
    |none=>rw[he1] at hv2;cases hv2
    |some z=>
     obtain⟨x1,s0⟩:=z
     rw[he1] at hv2
     cases x1 with
     |exit j=>cases hv2
     |ret=>cases hv2
     |normal=>
      simp only[evThen] at hv2
      cases he2:evC c p2 s0 with
      |none=>rw[he2] at hv2;cases hv2
      |some z=>
       obtain⟨x2,s1⟩:=z
       rw[he2] at hv2
       cases x2 with
       |exit j=>cases hv2
       |ret=>cases hv2
       |normal=>
        simp only[rgSt] at hv2
        have step1:=flat_in (ro:=none) (m:=3) (ds:=[]) hCc p1 f1 k1 he1 I0 (Q:=Exit.then (((p2.seq (Code.block i (Code.rangeFunc (.tmp t) #[p,q] asg bd))).seq post).wpIn (W none) 3 g.P (bodyPostM Fence.wide 3 g.P fn fun e w'=> ∃u Im' loc',e= .returned u∧Back w Im loc objs w' Im' loc' objs'∧VR w' Im' loc' (stm (keyed 0 objs')) v u)) (bodyPostM Fence.wide 3 g.P fn fun e w'=> ∃u Im' loc',e= .returned u∧Back w Im loc objs w' Im' loc' objs'∧VR w' Im' loc' (stm (keyed 0 objs')) v u)) ?_
        ·rw[hcP] at step1
         exact wpIn_seq step1
        ·intro a1 w1 Im1 loc1 I1 _
         have step2:=flat_in (ro:=none) (m:=3) (ds:=[]) hCc p2 f2 k2 he2 I1 (Q:=Exit.then ((Code.block i (Code.rangeFunc (.tmp t) #[p,q] asg bd)).wpIn (W none) 3 g.P (Exit.then (post.wpIn (W none) 3 g.P (bodyPostM Fence.wide 3 g.P fn fun e w'=> ∃u Im' loc',e= .returned u∧Back w Im loc objs w' Im' loc' objs'∧VR w' Im' loc' (stm (keyed 0 objs')) v u)) (bodyPostM Fence.wide 3 g.P fn fun e w'=> ∃u Im' loc',e= .returned u∧Back w Im loc objs w' Im' loc' objs'∧VR w' Im' loc' (stm (keyed 0 objs')) v u)))
          (Exit.then (post.wpIn (W none) 3 g.P (bodyPostM Fence.wide 3 g.P fn fun e w'=> ∃u Im' loc',e= .returned u∧Back w Im loc objs w' Im' loc' objs'∧VR w' Im' loc' (stm (keyed 0 objs')) v u)) (bodyPostM Fence.wide 3 g.P fn fun e w'=> ∃u Im' loc',e= .returned u∧Back w Im loc objs w' Im' loc' objs'∧VR w' Im' loc' (stm (keyed 0 objs')) v u))) ?_
         ·rw[hcP] at step2
          exact wpIn_seq (wpIn_seq step2)
         ·intro a2 w2 Im2 loc2 I2 _
          have fin: ∀(x:Ex) (sF:St) (aF:Act) (wF:World) (ImF:Nat→Nat→Prop) (locF:Nat→Loc) (D:Nat),(x= .normal∨x= .ret)→E (some (x,sF))=some (v,objs')→Inv c fn.ntmps w Im loc (keyed 0 objs) sF aF wF ImF locF→wF.heap[D]? =some (.deferred (some []))→(∀q,¬owns (locF q) D)→(∀o,¬ImF D o)→w.heap.size≤D→
           LeavesInM Fence.wide 3 g.P fn (lift [markOf D] aF).tmps (fun e w'=> ∃u Im' loc',e= .returned u∧Back w Im loc objs w' Im' loc' objs'∧VR w' Im' loc' (stm (keyed 0 objs')) v u) (lift [markOf D] aF).defers .returning wF:=fun x sF aF wF ImF locF D hx hE' IF hD o1 o2 hsz=>by
           have hd:(lift [markOf D] aF).defers=[markOf D]:=by simp[lift,IF.df]
           rw[hd]
           refine⟨by simp, .inl ⟨D,_,rfl,run_takeDeferred hD, ?_⟩⟩
           have IG:=IF.beside (Beside.putObj (o':= .deferred none) o1 o2) (fun b hb=>World.putObj_heap_other (by omega))
           have hr:ret (g.own f) sF (szs g.P fn.resultTypes.toList) objs.length (resVs c.P sF fn.results.toList)=some (v,objs'):=by
            rw[hcP]
            rw[hE] at hE'
            rcases hx with rfl|rfl<;>exact hE'
           obtain⟨u,Im3,loc3,r1,r2,r3⟩:=ret_ok IG h64 hcl (fn:=fn) hr
           rw[hcP] at r1
           exact⟨u,r1,u,Im3,loc3,rfl,r2,r3⟩
          have h0:lift [] (lift [] a2)=a2∨True:= .inr trivial
          have hl0:lift [] a2=a2:=by simp[lift]
          show(Code.block i (Code.rangeFunc (.tmp t) #[p,q] asg bd)).wpIn (W none) 3 g.P _ (lift [] a2) w2
          rw[hl0]
          cases hvt:getT s1.tmps t with
          |fn fx fa fb=>
           rw[hvt] at hv2
           unfold rgIt at hv2
           split at hv2
           ·rename_i f' r heq
            cases heq
            cases hbf:f'==it with
            |false=>rw[hbf] at hv2;cases hv2
            |true=>
             rw[hbf] at hv2
             obtain rfl:f'=it:=by simpa using hbf
             simp only[cond_true] at hv2
             cases hls:lst (getM s1.heap r) with
             |none=>rw[hls] at hv2;cases hv2
             |some xs=>
              rw[hls] at hv2
              simp only[rgLen] at hv2
              cases hdl:decide (xs.length≤1099511627776) with
              |false=>rw[hdl] at hv2;cases hv2
              |true=>
               rw[hdl] at hv2
               simp only[cond_true] at hv2
               cases hgo:rgGo c asg bd p q s1.tmps r xs.length s1.heap with
               |none=>rw[hgo] at hv2;cases hv2
               |some z=>
                obtain⟨xf,hf'⟩:=z
                rw[hgo] at hv2
                have key:=range_part (m:=3) hCc (by rw[hcP];exact hB) f3 k3 f4 k4 hp hq I2 hvt hls (by simpa using hdl) hgo (Q:=Exit.inBlock i (Exit.then (post.wpIn (W none) 3 g.P (bodyPostM Fence.wide 3 g.P fn fun e w'=> ∃u Im' loc',e= .returned u∧Back w Im loc objs w' Im' loc' objs'∧VR w' Im' loc' (stm (keyed 0 objs')) v u)) (bodyPostM Fence.wide 3 g.P fn fun e w'=> ∃u Im' loc',e= .returned u∧Back w Im loc objs w' Im' loc' objs'∧VR w' Im' loc' (stm (keyed 0 objs')) v u))) ?_
                ·rw[hcP] at key
                 exact wpIn_block key
                ·intro D w' Im' loc' I3 hD o1 o2 hsz
                 refine⟨?_, ?_⟩
                 ·rintro rfl
                  simp only[rgEnd] at hv2
                  cases hp5:evC c post ⟨s1.tmps,hf'⟩ with
                  |none=>rw[hp5,hE] at hv2;cases hv2
                  |some z=>
                   obtain⟨x5,s5⟩:=z
                   rw[hp5] at hv2
                   have I4:Inv c fn.ntmps w' Im' loc' hf' ⟨s1.tmps,hf'⟩ a2 w' Im' loc':=⟨I3.mem,I3.tm,Frm.refl ..,I3.sz,I3.df,I3.glob⟩
                   have k5':=flat_in (m:=3) (ro:=none) (ds:=[markOf D]) hCc post f5 k5 hp5 I4 (Q:=bodyPostM Fence.wide 3 g.P fn fun e w'=> ∃u Im' loc',e= .returned u∧Back w Im loc objs w' Im' loc' objs'∧VR w' Im' loc' (stm (keyed 0 objs')) v u) ?_
                   ·rw[hcP] at k5'
                    exact k5'
                   ·intro a5 w5 Im5 loc5 I5 G5
                    obtain⟨q1,q2,q3⟩:=keepL I5.frm hD o1 o2
                    have I6:Inv c fn.ntmps w Im loc (keyed 0 objs) s5 a5 w5 Im5 loc5:=⟨I5.mem,I5.tm,I3.frm.trans I5.frm,I5.sz,I5.df,I5.glob⟩
                    cases x5 with
                    |normal=>exact fin .normal s5 a5 w5 Im5 loc5 D (.inl rfl) hv2 I6 q1 q2 q3 hsz
                    |ret=>exact fin .ret s5 a5 w5 Im5 loc5 D (.inr rfl) hv2 I6 q1 q2 q3 hsz
                    |exit j=>rw[hE] at hv2;cases hv2
                 ·rintro rfl
                  simp only[rgEnd] at hv2
                  exact fin .ret ⟨s1.tmps,hf'⟩ a2 w' Im' loc' D (.inr rfl) hv2 I3 hD o1 o2 hsz
           ·cases hv2
          |_=>rw[hvt] at hv2;cases hv2
   ·cases hk
end Go.Ev
