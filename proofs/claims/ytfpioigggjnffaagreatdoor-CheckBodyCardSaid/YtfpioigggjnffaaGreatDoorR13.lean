/- R13, Q17. -/
import Derived.Test.YtfpioigggjnffaaGreatDoorR12
import Derived.Test.YtfpioigggjnffaaGreatDoorN4
import Derived.Test.YtfpioigggjnffaaGreatDoorQ15
set_option linter.unnecessarySimpa false
set_option linter.unusedSimpArgs false
set_option linter.unusedVariables false
set_option autoImplicit false
set_option maxRecDepth 100000
set_option maxHeartbeats 4000000
set_option pp.maxSteps 20000
namespace Go.Proofs.YtfpioigggjnffaaGreatDoor.E
open Go.Ev
theorem rpath_ev (fu n:Nat) (e:TEnv) (h:EOk fu e) (l:List TInstr) (hl:l.length*65+300<fu) (hl2:l.length*65+300<100000) (hb: ∀i∈l,i.labels.length<fu∧i.labels.length<1000000):
 evF (G fu) (n+9) 24 [.d e.dd, .d (.list (l.map TInstr.d))] []=pathR (pathF e l):=by
 have M:=rMatches_ev fu (n+5) l (by omega) (by omega)
 have S:=rEnvSane_ev fu (n+4) e h
 unfold pathF
 rw[evF.eq_2,evX.eq_def,Gext,exts_no _ (f:=24) (by decide),GP,Tryz.func24];simp only[Tryz.f24,evB]
 simp only[TEnv.dd] at S
 cases hw:walkOk l with
 |false=>
  rw[hw] at M
  simp only[go_sem,Nat.reduceAdd,Nat.reduceMul,Nat.reduceSub,Nat.reduceLT,Nat.reduceLeDiff,Nat.reduceEqDiff,Nat.reduceBEq,Nat.reduceBeqDiff,Int.reduceEq,Int.reduceLT,Int.reduceLE,Int.reduceToNat,Int.reduceNeg,Int.reduceAdd,Int.reduceSub,Int.reduceMul,reduceIte,reduceCtorEq,Nat.reducePow,Nat.reduceDiv,Nat.reduceMod,Int.reduceBEq,TEnv.dd,M,pathR,Bool.false_eq_true,if_false]
 |true=>
  rw[hw] at M
  cases hs:envSane e with
  |false=>
   rw[hs] at S
   simp only[go_sem,Nat.reduceAdd,Nat.reduceMul,Nat.reduceSub,Nat.reduceLT,Nat.reduceLeDiff,Nat.reduceEqDiff,Nat.reduceBEq,Nat.reduceBeqDiff,Int.reduceEq,Int.reduceLT,Int.reduceLE,Int.reduceToNat,Int.reduceNeg,Int.reduceAdd,Int.reduceSub,Int.reduceMul,reduceIte,reduceCtorEq,Nat.reducePow,Nat.reduceDiv,Nat.reduceMod,Int.reduceBEq,TEnv.dd,M,S,pathR,Bool.false_eq_true,if_false,if_true]
  |true=>
   rw[hs] at S
   have hfin:finB e.results=true:=by
    unfold envSane at hs
    simp only[Bool.and_eq_true,decide_eq_true_eq,List.all_append] at hs
    match hr:e.results,hs with
    |[],_=>rfl
    |[c],hs=>simpa[finB] using hs.1.2.1.2
    |a::b::r,hs=>have:=hs.2;simp at this;omega
   have O:=r9open_ev fu (n+5) stk0 2 e.results ⟨by simp[stk0];omega,by simp[stk0];omega,by simp[stk0],by simp[stk0]⟩ (by have:=h.results;omega)
   have hop:openS stk0 2 e.results= .ok (start e):=start_open hfin
   rw[hop] at O
   simp only[stkR,Stk.dd,stk0,List.map_nil] at O
   simp only[go_sem,Nat.reduceAdd,Nat.reduceMul,Nat.reduceSub,Nat.reduceLT,Nat.reduceLeDiff,Nat.reduceEqDiff,Nat.reduceBEq,Nat.reduceBeqDiff,Int.reduceEq,Int.reduceLT,Int.reduceLE,Int.reduceToNat,Int.reduceNeg,Int.reduceAdd,Int.reduceSub,Int.reduceMul,reduceIte,reduceCtorEq,Nat.reducePow,Nat.reduceDiv,Nat.reduceMod,Int.reduceBEq,TEnv.dd,M,S,O,List.length_map,byt0,if_true]
   generalize hr:loopN _ _ _ _ _=r
   obtain⟨x,s1,rfl,hx,hJ⟩: ∃x s1,r=some (x,s1)∧Go.Ev.leaves x∧((∃p c,x= .exit 0∧pathS saneF accE shapeF e (start e) l= .ok p∧s1=⟨[(10,V.row 2112 0 0 p.length)],[(2112, .row 2 (stkds p) 0 false c)]⟩)∨
    (∃f,x= .ret∧pathS saneF accE shapeF e (start e) l= .error f∧s1=⟨[(4,V.nilsl),(5,V.d (D.int .i64 f))],[]⟩)):=by
    rw[←hr]
    refine loop_inv (J:=fun x s1=>((∃p c,x= .exit 0∧pathS saneF accE shapeF e (start e) l= .ok p∧s1=⟨[(10,V.row 2112 0 0 p.length)],[(2112, .row 2 (stkds p) 0 false c)]⟩)∨
     (∃f,x= .ret∧pathS saneF accE shapeF e (start e) l= .error f∧s1=⟨[(4,V.nilsl),(5,V.d (D.int .i64 f))],[]⟩)))
     l.length (fun k z=> ∃p c,pathS saneF accE shapeF e (start e) (l.take k)= .ok p∧Rm (65*k+1) (p.getLastD (start e))∧p.length=k+1∧
      z=⟨[(1,V.d (D.list (List.map TInstr.d l))),(2,V.ptr 192 0),(8,V.ptr 576 0),(10,V.row 2112 0 0 p.length),(11,V.d (D.int IntKind.i64 k))],[(192, .cells [V.d (D.list (List.map tyD e.types)),V.d (D.list (List.map (D.int IntKind.i64) e.funcs)),V.d (D.int IntKind.i64 e.tables),V.d (D.int IntKind.i64 e.mems),V.d (D.list (List.map glD e.globals)),V.d (D.list (byt e.locs)),V.d (D.list (byt e.results))]),(576, .cells [V.d (D.list (byt (p.getLastD (start e)).vals)),V.d (D.list (ctlds (p.getLastD (start e)).ctrls))]),(2112, .row 2 (stkds p) 0 false c)]⟩) ?_ ?_ fu _ (by omega) ?_
    ·rintro k z hk ⟨p,c,hp,hrm,hpl,rfl⟩
     have hxi:(l.map TInstr.d)[k]? =some (l.getD k in0).d:=getD_map hk
     have hkI:(k:Int)<l.length:=by omega
     have W:=wrap_i64 (show-9223372036854775808≤(k:Int)+1 by omega) (by omega)
     have hm:l.getD k in0∈l:=by
      rw[List.getD_eq_getElem?_getD,List.getElem?_eq_getElem hk];exact List.getElem_mem hk
     have P:=rstep_ev fu n (65*k+1) e h.sm (p.getLastD (start e)) (by omega) (by omega) hrm (l.getD k in0) (hb _ hm).1 (hb _ hm).2
     have e1:l.take (k+1)=l.take k++[l.getD k in0]:=by
      rw[List.take_add_one,List.getElem?_eq_getElem hk,List.getD_eq_getElem?_getD,List.getElem?_eq_getElem hk];rfl
     have hsn:=path_snoc (e:=e) (s:=start e) (l:=l.take k) (x:=l.getD k in0)
     rw[←e1,hp] at hsn
     have hsE:pathS saneF accE shapeF e (start e) (l.take k)= .ok p:=hp
     simp only at hsn
     have hrs:=fun s'=>Rm.step h.sm hrm (s':=s') (i:=l.getD k in0)
     generalize l.getD k in0=i at*
     generalize hlast:p.getLastD (start e)=s at*
     cases hst:stepS saneF accE shapeF e s i with
     |error f=>
      rw[hst] at hsn P
      have hf: ¬f=0:=stepS_ne hst
      simp only[stkR,TEnv.dd,Stk.dd,TInstr.d,stk0,List.map_nil] at P
      simp only[go_sem,Nat.reduceAdd,Nat.reduceMul,Nat.reduceSub,Nat.reduceLT,Nat.reduceLeDiff,Nat.reduceEqDiff,Nat.reduceBEq,Nat.reduceBeqDiff,Int.reduceEq,Int.reduceLT,Int.reduceLE,Int.reduceToNat,Int.reduceNeg,Int.reduceAdd,Int.reduceSub,Int.reduceMul,reduceIte,reduceCtorEq,Nat.reducePow,Nat.reduceDiv,Nat.reduceMod,Int.reduceBEq,List.length_map,hkI,idx,hxi,TInstr.d,P,hf]
      (rw[cond_free];rotate_left;·rfl)
      simp only[go_sem,Nat.reduceAdd,Nat.reduceMul,Nat.reduceSub,Nat.reduceLT,Nat.reduceLeDiff,Nat.reduceEqDiff,Nat.reduceBEq,Nat.reduceBeqDiff,Int.reduceEq,Int.reduceLT,Int.reduceLE,Int.reduceToNat,Int.reduceNeg,Int.reduceAdd,Int.reduceSub,Int.reduceMul,reduceIte,reduceCtorEq,Nat.reducePow,Nat.reduceDiv,Nat.reduceMod,Int.reduceBEq,List.length_map,hkI,idx,hxi,TInstr.d,P,hf]
      exact⟨_,_,rfl, .inr ⟨f,rfl,path_errT hsn,rfl⟩⟩
     |ok s'=>
      rw[hst] at hsn P
      have hlast2:(p++[s']).getLastD (start e)=s':=by simp[List.getLastD_eq_getLast?]
      have hr2:p.length+1≤1099511627776:=by omega
      have z1:sizedAll 2 [Stk.dd s']=true:=rfl
      have t1:(stkds p).take p.length=stkds p:=List.take_of_length_le (by simp)
      have t2:stkds p++[Stk.dd s']=stkds (p++[s']):=by simp[stkds]
      simp only[stkR,TEnv.dd,Stk.dd,TInstr.d] at P
      simp only[Stk.dd] at z1 t2
      simp only[go_sem,Nat.reduceAdd,Nat.reduceMul,Nat.reduceSub,Nat.reduceLT,Nat.reduceLeDiff,Nat.reduceEqDiff,Nat.reduceBEq,Nat.reduceBeqDiff,Int.reduceEq,Int.reduceLT,Int.reduceLE,Int.reduceToNat,Int.reduceNeg,Int.reduceAdd,Int.reduceSub,Int.reduceMul,reduceIte,reduceCtorEq,Nat.reducePow,Nat.reduceDiv,Nat.reduceMod,Int.reduceBEq,List.length_map,hkI,idx,hxi,TInstr.d,P,W,z1,hr2,t1,t2]
      (rw[cond_free];rotate_left;·rfl)
      simp only[go_sem,Nat.reduceAdd,Nat.reduceMul,Nat.reduceSub,Nat.reduceLT,Nat.reduceLeDiff,Nat.reduceEqDiff,Nat.reduceBEq,Nat.reduceBeqDiff,Int.reduceEq,Int.reduceLT,Int.reduceLE,Int.reduceToNat,Int.reduceNeg,Int.reduceAdd,Int.reduceSub,Int.reduceMul,reduceIte,reduceCtorEq,Nat.reducePow,Nat.reduceDiv,Nat.reduceMod,Int.reduceBEq,List.length_map,hkI,idx,hxi,TInstr.d,P,W,z1,hr2,t1,t2]
      refine⟨_,_,rfl,p++[s'],true,hsn, ?_,by simp[hpl], ?_⟩
      ·rw[hlast2];exact(hrs s' hst).up (by omega)
      ·rw[hlast2,List.length_append];rfl
    ·rintro z ⟨p,c,hp,hrm,hpl,rfl⟩
     rw[List.take_length] at hp
     simp only[go_sem,Nat.reduceAdd,Nat.reduceMul,Nat.reduceSub,Nat.reduceLT,Nat.reduceLeDiff,Nat.reduceEqDiff,Nat.reduceBEq,Nat.reduceBeqDiff,Int.reduceEq,Int.reduceLT,Int.reduceLE,Int.reduceToNat,Int.reduceNeg,Int.reduceAdd,Int.reduceSub,Int.reduceMul,reduceIte,reduceCtorEq,Nat.reducePow,Nat.reduceDiv,Nat.reduceMod,Int.reduceBEq,List.length_map,Int.lt_irrefl]
     exact⟨_,_,rfl,trivial, .inl ⟨p,c,rfl,hp,rfl⟩⟩
    ·exact⟨[start e],false,rfl,⟨by simp[start],by simp[start,List.getLastD]⟩,rfl,rfl⟩
   rcases hJ with⟨p,c,rfl,hp,rfl⟩|⟨f,rfl,hp,rfl⟩
   ·rw[hp]
    simp only[go_sem,Nat.reduceAdd,Nat.reduceMul,Nat.reduceSub,Nat.reduceLT,Nat.reduceLeDiff,Nat.reduceEqDiff,Nat.reduceBEq,Nat.reduceBeqDiff,Int.reduceEq,Int.reduceLT,Int.reduceLE,Int.reduceToNat,Int.reduceNeg,Int.reduceAdd,Int.reduceSub,Int.reduceMul,reduceIte,reduceCtorEq,Nat.reducePow,Nat.reduceDiv,Nat.reduceMod,Int.reduceBEq,pathR]
   ·rw[hp]
    simp only[go_sem,Nat.reduceAdd,Nat.reduceMul,Nat.reduceSub,Nat.reduceLT,Nat.reduceLeDiff,Nat.reduceEqDiff,Nat.reduceBEq,Nat.reduceBeqDiff,Int.reduceEq,Int.reduceLT,Int.reduceLE,Int.reduceToNat,Int.reduceNeg,Int.reduceAdd,Int.reduceSub,Int.reduceMul,reduceIte,reduceCtorEq,Nat.reducePow,Nat.reduceDiv,Nat.reduceMod,Int.reduceBEq,pathR]
theorem rbody_ev (fu n:Nat) (e:TEnv) (h:EOk fu e) (l:List TInstr) (hl:l.length*65+300<fu) (hl2:l.length*65+300<100000) (hb: ∀i∈l,i.labels.length<fu∧i.labels.length<1000000):
 evF (G fu) (n+10) 26 [.d e.dd, .d (.list (l.map TInstr.d))] []=some (.d (.int .i64 (bodyF e l)),[]):=by
 have P:=rpath_ev fu n e h l hl hl2 hb
 simp only[TEnv.dd] at P
 unfold bodyF
 rw[evF.eq_2,evX.eq_def,Gext,exts_no _ (f:=26) (by decide),GP,Tryz.func26];simp only[Tryz.f26,evB]
 cases hp:pathF e l with
 |error f=>
  rw[hp] at P
  simp only[pathR] at P
  have hf:=pathF_ne hp
  simp only[go_sem,Nat.reduceAdd,Nat.reduceMul,Nat.reduceSub,Nat.reduceLT,Nat.reduceLeDiff,Nat.reduceEqDiff,Nat.reduceBEq,Nat.reduceBeqDiff,Int.reduceEq,Int.reduceLT,Int.reduceLE,Int.reduceToNat,Int.reduceNeg,Int.reduceAdd,Int.reduceSub,Int.reduceMul,reduceIte,reduceCtorEq,Nat.reducePow,Nat.reduceDiv,Nat.reduceMod,Int.reduceBEq,TEnv.dd,P,hf]
 |ok p=>
  rw[hp] at P
  simp only[pathR] at P
  have hps:=(pathF_ok hp).2.2
  have hpl:=pathS_len hps
  have hx:(stkds p)[p.length-1]? =some (p.getD (p.length-1) stk0).dd:=getD_map (by omega)
  have hlast:p.getD (p.length-1) stk0=p.getLastD stk0:=by
   rw[List.getLastD_eq_getLast?,List.getLast?_eq_getElem?,List.getD_eq_getElem?_getD]
  have hm:p.getLastD stk0∈p:=by
   rw[←hlast,List.getD_eq_getElem?_getD,List.getElem?_eq_getElem (show p.length-1<p.length by omega)]
   exact List.getElem_mem _
  have hR:=path_rm h.sm (start_rm e) hps _ hm
  have C:=r9close_ev fu (n+4) (p.getLastD stk0) (hR.ok (by omega) (by omega)) (by omega)
  rw[hlast] at hx
  have Wn:IntKind.wrap .i64 ((p.length:Int)-1)=((p.length-1:Nat):Int):=by rw[wrap_i64 (by omega) (by omega)];omega
  have hlt:((p.length-1:Nat):Int)<p.length:=by omega
  have t1:(stkds p).take p.length=stkds p:=List.take_of_length_le (by simp)
  obtain⟨s,hS⟩: ∃s,p.getLastD stk0=s:=⟨_,rfl⟩
  rw[hS] at hx C
  simp only[Stk.dd] at hx C
  cases hc:closeS s with
  |ok r=>
   rw[hc] at C
   simp only[closeR,Stk.dd,Ctl.dd] at C
   simp only[go_sem,Nat.reduceAdd,Nat.reduceMul,Nat.reduceSub,Nat.reduceLT,Nat.reduceLeDiff,Nat.reduceEqDiff,Nat.reduceBEq,Nat.reduceBeqDiff,Int.reduceEq,Int.reduceLT,Int.reduceLE,Int.reduceToNat,Int.reduceNeg,Int.reduceAdd,Int.reduceSub,Int.reduceMul,reduceIte,reduceCtorEq,Nat.reducePow,Nat.reduceDiv,Nat.reduceMod,Int.reduceBEq,TEnv.dd,P,Wn,hlt,hx,C,t1,hS,hc]
  |error f=>
   rw[hc] at C
   have hf: ¬f=0:=by have:=closeS_err hc;omega
   simp only[closeR,Stk.dd,Ctl.dd,stk0,ctl0,List.map_nil] at C
   simp only[go_sem,Nat.reduceAdd,Nat.reduceMul,Nat.reduceSub,Nat.reduceLT,Nat.reduceLeDiff,Nat.reduceEqDiff,Nat.reduceBEq,Nat.reduceBeqDiff,Int.reduceEq,Int.reduceLT,Int.reduceLE,Int.reduceToNat,Int.reduceNeg,Int.reduceAdd,Int.reduceSub,Int.reduceMul,reduceIte,reduceCtorEq,Nat.reducePow,Nat.reduceDiv,Nat.reduceMod,Int.reduceBEq,TEnv.dd,P,Wn,hlt,hx,C,hf,t1,hS,hc]
end Go.Proofs.YtfpioigggjnffaaGreatDoor.E
set_option autoImplicit false
set_option maxRecDepth 100000
set_option maxHeartbeats 4000000
set_option pp.maxSteps 20000
namespace Go.Proofs.YtfpioigggjnffaaGreatDoor.E
open Go.Ev
def tyOf (t:TFuncType):List Int×List Int:=(t.params,t.results)
def glOf (g:Tavocetref10_Glob):Int×Bool:=(g.val_,g.mut_)
def envOf (e:Tavocetref10_Env):TEnv:=⟨e.types.map tyOf,e.funcs,e.tables,e.mems,e.globals.map glOf,e.locals,e.results⟩
def gl1:Tavocetref10_Glob:=⟨0,false⟩
def gvE:Nat→V
 |0=> .nilsl
 |k+1=> .row 2688 0 0 (k+1)
def ghE (gs:List D):Nat→Map Go.Ev.Obj
 |0=>[]
 |k+1=>[(2688, .row 2 (gs.take (k+1)) 0 false (decide (0<k)))]
theorem env_ev (fu n:Nat) (e:Tavocetref10_Env) (h:e.globals.length<fu) (h2:e.globals.length<1000000):evF (G fu) (n+1) 15 [.d e.d] []=some (.d (envOf e).dd,[]):=by
 have eT:e.types.map TFuncType.d=(envOf e).types.map tyD:=by simp[envOf,tyOf,tyD,TFuncType.d,Function.comp_def]
 have eG:(e.globals.map glOf).map glD=e.globals.map Tavocetref10_Glob.d:=by simp[glOf,glD,Tavocetref10_Glob.d,Function.comp_def]
 have hdd:(envOf e).dd= .agg [.list (e.types.map TFuncType.d), .list (e.funcs.map (D.int .i64)), .int .i64 e.tables, .int .i64 e.mems, .list (e.globals.map Tavocetref10_Glob.d), .list (e.locals.map (D.int .u8)), .list (e.results.map (D.int .u8))]:=by
  unfold TEnv.dd
  rw[←eT]
  simp only[envOf,eG]
 rw[hdd]
 rw[evF.eq_2,evX.eq_def,Gext,exts_no _ (f:=15) (by decide),GP,Tryz.func15];simp only[Tryz.f15,evB]
 simp only[go_sem,Nat.reduceAdd,Nat.reduceMul,Nat.reduceSub,Nat.reduceLT,Nat.reduceLeDiff,Nat.reduceEqDiff,Nat.reduceBEq,Nat.reduceBeqDiff,Int.reduceEq,Int.reduceLT,Int.reduceLE,Int.reduceToNat,Int.reduceNeg,Int.reduceAdd,Int.reduceSub,Int.reduceMul,reduceIte,reduceCtorEq,Nat.reducePow,Nat.reduceDiv,Nat.reduceMod,Int.reduceBEq,Tavocetref10_Env.d,List.length_map]
 generalize e.types.map TFuncType.d=T
 generalize e.funcs.map (D.int .i64)=F
 generalize e.locals.map (D.int .u8)=L
 generalize e.results.map (D.int .u8)=R
 have hgs: ∀k,k<e.globals.length→(e.globals.map Tavocetref10_Glob.d)[k]? =some (e.globals.getD k gl1).d:=fun k hk=>getD_map hk
 have hgl:(e.globals.map Tavocetref10_Glob.d).length=e.globals.length:=List.length_map ..
 generalize hgd:e.globals.map Tavocetref10_Glob.d=gs at*
 generalize e.globals.length=N at*
 rw[loop_some N (fun k=>⟨[(1,V.ptr 128 0),(2,V.ptr 192 0),(3,V.ptr 256 0),(4,V.d (D.int .i64 k))],[(128, .cells [V.d (D.list T),V.d (D.list F),V.d (D.int .i64 e.tables),V.d (D.int .i64 e.mems),V.d (D.list gs),V.d (D.list L),V.d (D.list R)]),(192, .cells [V.nilsl,V.nilsl,V.d (D.int .i64 0),V.d (D.int .i64 0),V.nilsl,V.nilsl,V.nilsl]),(256, .cells [V.d (D.list T),V.d (D.list F),V.d (D.int .i64 e.tables),V.d (D.int .i64 e.mems),gvE k,V.d (D.list L),V.d (D.list R)])]++ghE gs k⟩)
  (.exit 0,⟨[(2,V.ptr 192 0),(3,V.ptr 256 0)],[(192, .cells [V.nilsl,V.nilsl,V.d (D.int .i64 0),V.d (D.int .i64 0),V.nilsl,V.nilsl,V.nilsl]),(256, .cells [V.d (D.list T),V.d (D.list F),V.d (D.int .i64 e.tables),V.d (D.int .i64 e.mems),gvE N,V.d (D.list L),V.d (D.list R)])]++ghE gs N⟩) trivial h ?_]
 case hs=>
  intro k hk
  have hx:=hgs k hk
  have hkI:(k:Int)<N:=by omega
  have W:=wrap_i64 (show-9223372036854775808≤(k:Int)+1 by omega) (by omega)
  have z1:sizedAll 2 [D.agg [D.int .u8 (e.globals.getD k gl1).val_,D.bool (e.globals.getD k gl1).mut_]]=true:=rfl
  have hst:gs.take (k+1)=gs.take k++[D.agg [D.int .u8 (e.globals.getD k gl1).val_,D.bool (e.globals.getD k gl1).mut_]]:=by
   rw[List.take_add_one,hx];rfl
  simp only[Tavocetref10_Glob.d] at hx
  generalize(e.globals.getD k gl1).val_=v at*
  generalize(e.globals.getD k gl1).mut_=m at*
  cases k with
  |zero=>
   have hk0:(0:Int)<N:=by omega
   have V1:=wrap_i64 (show-9223372036854775808≤(1:Int) by omega) (by omega)
   simp only[go_sem,Nat.reduceAdd,Nat.reduceMul,Nat.reduceSub,Nat.reduceLT,Nat.reduceLeDiff,Nat.reduceEqDiff,Nat.reduceBEq,Nat.reduceBeqDiff,Int.reduceEq,Int.reduceLT,Int.reduceLE,Int.reduceToNat,Int.reduceNeg,Int.reduceAdd,Int.reduceSub,Int.reduceMul,reduceIte,reduceCtorEq,Nat.reducePow,Nat.reduceDiv,Nat.reduceMod,Int.reduceBEq,gvE,ghE,hk0,idx,hx,z1,hgl,V1]
   (rw[cond_free];rotate_left;·rfl)
   simp only[go_sem,Nat.reduceAdd,Nat.reduceMul,Nat.reduceSub,Nat.reduceLT,Nat.reduceLeDiff,Nat.reduceEqDiff,Nat.reduceBEq,Nat.reduceBeqDiff,Int.reduceEq,Int.reduceLT,Int.reduceLE,Int.reduceToNat,Int.reduceNeg,Int.reduceAdd,Int.reduceSub,Int.reduceMul,reduceIte,reduceCtorEq,Nat.reducePow,Nat.reduceDiv,Nat.reduceMod,Int.reduceBEq,V1,hst]
  |succ k=>
   have hr:k+1+1≤1099511627776:=by omega
   have ht:(gs.take (k+1)).take (k+1)=gs.take (k+1):=by rw[List.take_take];simp
   simp only[go_sem,Nat.reduceAdd,Nat.reduceMul,Nat.reduceSub,Nat.reduceLT,Nat.reduceLeDiff,Nat.reduceEqDiff,Nat.reduceBEq,Nat.reduceBeqDiff,Int.reduceEq,Int.reduceLT,Int.reduceLE,Int.reduceToNat,Int.reduceNeg,Int.reduceAdd,Int.reduceSub,Int.reduceMul,reduceIte,reduceCtorEq,Nat.reducePow,Nat.reduceDiv,Nat.reduceMod,Int.reduceBEq,gvE,ghE,hkI,idx,hx,z1,hgl,hr,ht]
   (rw[cond_free];rotate_left;·rfl)
   simp only[go_sem,Nat.reduceAdd,Nat.reduceMul,Nat.reduceSub,Nat.reduceLT,Nat.reduceLeDiff,Nat.reduceEqDiff,Nat.reduceBEq,Nat.reduceBeqDiff,Int.reduceEq,Int.reduceLT,Int.reduceLE,Int.reduceToNat,Int.reduceNeg,Int.reduceAdd,Int.reduceSub,Int.reduceMul,reduceIte,reduceCtorEq,Nat.reducePow,Nat.reduceDiv,Nat.reduceMod,Int.reduceBEq,W]
   have hd:decide (0<k+1)=true:=by simp
   rw[hst,hd];rfl
 case he=>
  cases N with
  |zero=>simp only[go_sem,Nat.reduceAdd,Nat.reduceMul,Nat.reduceSub,Nat.reduceLT,Nat.reduceLeDiff,Nat.reduceEqDiff,Nat.reduceBEq,Nat.reduceBeqDiff,Int.reduceEq,Int.reduceLT,Int.reduceLE,Int.reduceToNat,Int.reduceNeg,Int.reduceAdd,Int.reduceSub,Int.reduceMul,reduceIte,reduceCtorEq,Nat.reducePow,Nat.reduceDiv,Nat.reduceMod,Int.reduceBEq,gvE,ghE,hgl,Int.lt_irrefl]
  |succ k=>simp only[go_sem,Nat.reduceAdd,Nat.reduceMul,Nat.reduceSub,Nat.reduceLT,Nat.reduceLeDiff,Nat.reduceEqDiff,Nat.reduceBEq,Nat.reduceBeqDiff,Int.reduceEq,Int.reduceLT,Int.reduceLE,Int.reduceToNat,Int.reduceNeg,Int.reduceAdd,Int.reduceSub,Int.reduceMul,reduceIte,reduceCtorEq,Nat.reducePow,Nat.reduceDiv,Nat.reduceMod,Int.reduceBEq,gvE,ghE,hgl,Int.lt_irrefl]
 ·cases N with
  |zero=>
   have:gs=[]:=List.length_eq_zero_iff.1 hgl
   simp only[go_sem,Nat.reduceAdd,Nat.reduceMul,Nat.reduceSub,Nat.reduceLT,Nat.reduceLeDiff,Nat.reduceEqDiff,Nat.reduceBEq,Nat.reduceBeqDiff,Int.reduceEq,Int.reduceLT,Int.reduceLE,Int.reduceToNat,Int.reduceNeg,Int.reduceAdd,Int.reduceSub,Int.reduceMul,reduceIte,reduceCtorEq,Nat.reducePow,Nat.reduceDiv,Nat.reduceMod,Int.reduceBEq,gvE,ghE,this]
  |succ k=>
   have ht:gs.take (k+1)=gs:=List.take_of_length_le (by omega)
   simp only[go_sem,Nat.reduceAdd,Nat.reduceMul,Nat.reduceSub,Nat.reduceLT,Nat.reduceLeDiff,Nat.reduceEqDiff,Nat.reduceBEq,Nat.reduceBeqDiff,Int.reduceEq,Int.reduceLT,Int.reduceLE,Int.reduceToNat,Int.reduceNeg,Int.reduceAdd,Int.reduceSub,Int.reduceMul,reduceIte,reduceCtorEq,Nat.reducePow,Nat.reduceDiv,Nat.reduceMod,Int.reduceBEq,gvE,ghE,ht]
 ·rfl
def tySm (t:TFuncType):Bool:=decide ((t.params.length:Int)≤40)&&decide ((t.results.length:Int)≤40)
def smallE (e:Tavocetref10_Env):Bool:=decide ((e.types.length:Int)≤70)&&decide ((e.funcs.length:Int)≤130)&&decide ((e.globals.length:Int)≤70)&&decide ((e.locals.length:Int)≤100)&&decide ((e.results.length:Int)≤20)&&e.types.all tySm
def ft0:TFuncType:=⟨[],[]⟩
theorem small_ev (fu n:Nat) (e:Tavocetref10_Env) (h:100<fu):evF (G fu) (n+1) 12 [.d e.d] []=some (.d (.bool (smallE e)),[]):=by
 rw[evF.eq_2,evX.eq_def,Gext,exts_no _ (f:=12) (by decide),GP,Tryz.func12];simp only[Tryz.f12,evB]
 unfold smallE
 by_cases c1:(e.types.length:Int)≤70
 ·by_cases c2:(e.funcs.length:Int)≤130
  ·by_cases c3:(e.globals.length:Int)≤70
   ·by_cases c4:(e.locals.length:Int)≤100
    ·by_cases c5:(e.results.length:Int)≤20
     ·simp only[go_sem,Nat.reduceAdd,Nat.reduceMul,Nat.reduceSub,Nat.reduceLT,Nat.reduceLeDiff,Nat.reduceEqDiff,Nat.reduceBEq,Nat.reduceBeqDiff,Int.reduceEq,Int.reduceLT,Int.reduceLE,Int.reduceToNat,Int.reduceNeg,Int.reduceAdd,Int.reduceSub,Int.reduceMul,reduceIte,reduceCtorEq,Nat.reducePow,Nat.reduceDiv,Nat.reduceMod,Int.reduceBEq,Tavocetref10_Env.d,List.length_map,c1,c2,c3,c4,c5,show ¬(70:Int)<e.types.length by omega,show ¬(130:Int)<e.funcs.length by omega,show ¬(70:Int)<e.globals.length by omega,show ¬(100:Int)<e.locals.length by omega,show ¬(20:Int)<e.results.length by omega]
      generalize List.map (D.int IntKind.i64) e.funcs=F
      generalize List.map Tavocetref10_Glob.d e.globals=gs
      rw[loop_scan e.types.length (fun k=>⟨[(1,V.ptr 128 0),(3,V.d (D.int .i64 k))],[(128, .cells [V.d (D.list (List.map TFuncType.d e.types)),V.d (D.list F),V.d (D.int IntKind.i64 e.tables),V.d (D.int IntKind.i64 e.mems),V.d (D.list gs),V.d (D.list (List.map (D.int IntKind.u8) e.locals)),V.d (D.list (List.map (D.int IntKind.u8) e.results))])]⟩) (fun k=> !tySm (e.types.getD k ft0)) (fun _=>(.ret,⟨[(2,V.d (D.bool false))],[]⟩)) (.exit 0,⟨[],[]⟩) (by omega) (fun _=>trivial) trivial ?_]
      case hs=>
       intro k hk
       have hx:(e.types.map TFuncType.d)[k]? =some (e.types.getD k ft0).d:=getD_map hk
       have hkI:(k:Int)<e.types.length:=by omega
       have W:=wrap_i64 (show-9223372036854775808≤(k:Int)+1 by omega) (by omega)
       generalize e.types.getD k ft0=t at*
       unfold tySm
       by_cases d1:(t.params.length:Int)≤40
       ·by_cases d2:(t.results.length:Int)≤40
        ·simp only[go_sem,Nat.reduceAdd,Nat.reduceMul,Nat.reduceSub,Nat.reduceLT,Nat.reduceLeDiff,Nat.reduceEqDiff,Nat.reduceBEq,Nat.reduceBeqDiff,Int.reduceEq,Int.reduceLT,Int.reduceLE,Int.reduceToNat,Int.reduceNeg,Int.reduceAdd,Int.reduceSub,Int.reduceMul,reduceIte,reduceCtorEq,Nat.reducePow,Nat.reduceDiv,Nat.reduceMod,Int.reduceBEq,List.length_map,hkI,idx,hx,TFuncType.d,d1,d2,W,show ¬(40:Int)<t.params.length by omega,show ¬(40:Int)<t.results.length by omega]
         rfl
        ·simp only[go_sem,Nat.reduceAdd,Nat.reduceMul,Nat.reduceSub,Nat.reduceLT,Nat.reduceLeDiff,Nat.reduceEqDiff,Nat.reduceBEq,Nat.reduceBeqDiff,Int.reduceEq,Int.reduceLT,Int.reduceLE,Int.reduceToNat,Int.reduceNeg,Int.reduceAdd,Int.reduceSub,Int.reduceMul,reduceIte,reduceCtorEq,Nat.reducePow,Nat.reduceDiv,Nat.reduceMod,Int.reduceBEq,List.length_map,hkI,idx,hx,TFuncType.d,d1,d2,W,show ¬(40:Int)<t.params.length by omega,show(40:Int)<t.results.length by omega]
       ·simp only[go_sem,Nat.reduceAdd,Nat.reduceMul,Nat.reduceSub,Nat.reduceLT,Nat.reduceLeDiff,Nat.reduceEqDiff,Nat.reduceBEq,Nat.reduceBeqDiff,Int.reduceEq,Int.reduceLT,Int.reduceLE,Int.reduceToNat,Int.reduceNeg,Int.reduceAdd,Int.reduceSub,Int.reduceMul,reduceIte,reduceCtorEq,Nat.reducePow,Nat.reduceDiv,Nat.reduceMod,Int.reduceBEq,List.length_map,hkI,idx,hx,TFuncType.d,d1,W,show(40:Int)<t.params.length by omega]
      case he=>simp only[go_sem,Nat.reduceAdd,Nat.reduceMul,Nat.reduceSub,Nat.reduceLT,Nat.reduceLeDiff,Nat.reduceEqDiff,Nat.reduceBEq,Nat.reduceBeqDiff,Int.reduceEq,Int.reduceLT,Int.reduceLE,Int.reduceToNat,Int.reduceNeg,Int.reduceAdd,Int.reduceSub,Int.reduceMul,reduceIte,reduceCtorEq,Nat.reducePow,Nat.reduceDiv,Nat.reduceMod,Int.reduceBEq,List.length_map,Int.lt_irrefl]
      ·have hA:=any_false (p:=tySm) (d:=ft0) e.types
       unfold Go.Ev.scan
       cases hf:first (fun k=> !tySm (e.types.getD k ft0)) 0 e.types.length with
       |some k=>rw[hf] at hA;simp only[go_sem,Nat.reduceAdd,Nat.reduceMul,Nat.reduceSub,Nat.reduceLT,Nat.reduceLeDiff,Nat.reduceEqDiff,Nat.reduceBEq,Nat.reduceBeqDiff,Int.reduceEq,Int.reduceLT,Int.reduceLE,Int.reduceToNat,Int.reduceNeg,Int.reduceAdd,Int.reduceSub,Int.reduceMul,reduceIte,reduceCtorEq,Nat.reducePow,Nat.reduceDiv,Nat.reduceMod,Int.reduceBEq,←hA]
       |none=>rw[hf] at hA;simp only[go_sem,Nat.reduceAdd,Nat.reduceMul,Nat.reduceSub,Nat.reduceLT,Nat.reduceLeDiff,Nat.reduceEqDiff,Nat.reduceBEq,Nat.reduceBeqDiff,Int.reduceEq,Int.reduceLT,Int.reduceLE,Int.reduceToNat,Int.reduceNeg,Int.reduceAdd,Int.reduceSub,Int.reduceMul,reduceIte,reduceCtorEq,Nat.reducePow,Nat.reduceDiv,Nat.reduceMod,Int.reduceBEq,←hA]
      ·rfl
     ·simp only[go_sem,Nat.reduceAdd,Nat.reduceMul,Nat.reduceSub,Nat.reduceLT,Nat.reduceLeDiff,Nat.reduceEqDiff,Nat.reduceBEq,Nat.reduceBeqDiff,Int.reduceEq,Int.reduceLT,Int.reduceLE,Int.reduceToNat,Int.reduceNeg,Int.reduceAdd,Int.reduceSub,Int.reduceMul,reduceIte,reduceCtorEq,Nat.reducePow,Nat.reduceDiv,Nat.reduceMod,Int.reduceBEq,Tavocetref10_Env.d,List.length_map,c1,c2,c3,c4,c5,show ¬(70:Int)<e.types.length by omega,show ¬(130:Int)<e.funcs.length by omega,show ¬(70:Int)<e.globals.length by omega,show ¬(100:Int)<e.locals.length by omega,show(20:Int)<e.results.length by omega]
    ·simp only[go_sem,Nat.reduceAdd,Nat.reduceMul,Nat.reduceSub,Nat.reduceLT,Nat.reduceLeDiff,Nat.reduceEqDiff,Nat.reduceBEq,Nat.reduceBeqDiff,Int.reduceEq,Int.reduceLT,Int.reduceLE,Int.reduceToNat,Int.reduceNeg,Int.reduceAdd,Int.reduceSub,Int.reduceMul,reduceIte,reduceCtorEq,Nat.reducePow,Nat.reduceDiv,Nat.reduceMod,Int.reduceBEq,Tavocetref10_Env.d,List.length_map,c1,c2,c3,c4,show ¬(70:Int)<e.types.length by omega,show ¬(130:Int)<e.funcs.length by omega,show ¬(70:Int)<e.globals.length by omega,show(100:Int)<e.locals.length by omega]
   ·simp only[go_sem,Nat.reduceAdd,Nat.reduceMul,Nat.reduceSub,Nat.reduceLT,Nat.reduceLeDiff,Nat.reduceEqDiff,Nat.reduceBEq,Nat.reduceBeqDiff,Int.reduceEq,Int.reduceLT,Int.reduceLE,Int.reduceToNat,Int.reduceNeg,Int.reduceAdd,Int.reduceSub,Int.reduceMul,reduceIte,reduceCtorEq,Nat.reducePow,Nat.reduceDiv,Nat.reduceMod,Int.reduceBEq,Tavocetref10_Env.d,List.length_map,c1,c2,c3,show ¬(70:Int)<e.types.length by omega,show ¬(130:Int)<e.funcs.length by omega,show(70:Int)<e.globals.length by omega]
  ·simp only[go_sem,Nat.reduceAdd,Nat.reduceMul,Nat.reduceSub,Nat.reduceLT,Nat.reduceLeDiff,Nat.reduceEqDiff,Nat.reduceBEq,Nat.reduceBeqDiff,Int.reduceEq,Int.reduceLT,Int.reduceLE,Int.reduceToNat,Int.reduceNeg,Int.reduceAdd,Int.reduceSub,Int.reduceMul,reduceIte,reduceCtorEq,Nat.reducePow,Nat.reduceDiv,Nat.reduceMod,Int.reduceBEq,Tavocetref10_Env.d,List.length_map,c1,c2,show ¬(70:Int)<e.types.length by omega,show(130:Int)<e.funcs.length by omega]
 ·simp only[go_sem,Nat.reduceAdd,Nat.reduceMul,Nat.reduceSub,Nat.reduceLT,Nat.reduceLeDiff,Nat.reduceEqDiff,Nat.reduceBEq,Nat.reduceBeqDiff,Int.reduceEq,Int.reduceLT,Int.reduceLE,Int.reduceToNat,Int.reduceNeg,Int.reduceAdd,Int.reduceSub,Int.reduceMul,reduceIte,reduceCtorEq,Nat.reducePow,Nat.reduceDiv,Nat.reduceMod,Int.reduceBEq,Tavocetref10_Env.d,List.length_map,c1,show(70:Int)<e.types.length by omega]
def in65:TInstr:=⟨65,0,0,0,[]⟩
def in26:TInstr:=⟨26,0,0,0,[]⟩
def env0:TEnv:=⟨[],[],0,0,[],[],[]⟩
def env1:TEnv:=⟨[],[],0,0,[],[],[127]⟩
theorem awake10_ev (fu n:Nat) (h:1000<fu):evF (G fu) (n+15) 11 [] []=some (.d (.bool true),[]):=by
 have e0:EOk fu env0:=⟨by simp[env0];omega,by simp[env0],by simp[env0];omega,by simp[env0],by simp[env0],by simp[env0];omega,by omega⟩
 have e1:EOk fu env1:=⟨by simp[env1];omega,by simp[env1],by simp[env1];omega,by simp[env1],by simp[env1],by simp[env1];omega,by omega⟩
 have hb: ∀i∈[in65,in26],i.labels.length<fu∧i.labels.length<1000000:=by
  intro i hi
  simp only[List.mem_cons,List.not_mem_nil,or_false] at hi
  rcases hi with rfl|rfl<;>simp[in65,in26]<;>omega
 have hb1: ∀i∈[in65],i.labels.length<fu∧i.labels.length<1000000:=fun i hi=>hb i (by simp only[List.mem_singleton] at hi;subst hi;simp)
 have P1:=path_ev fu (n+1) env0 e0 [in65,in26] (by simp;omega) (by simp) hb
 have P2:=body_ev fu n env0 e0 [in65,in26] (by simp;omega) (by simp) hb
 have P3:=body_ev fu n env1 e1 [in65,in26] (by simp;omega) (by simp) hb
 have P4:=body_ev fu n env1 e1 [in65] (by simp;omega) (by simp) hb1
 obtain⟨p,hp,hl⟩: ∃p,pathF env0 [in65,in26]= .ok p∧p.length=3:=⟨_,by rfl,rfl⟩
 have r2:bodyF env0 [in65,in26]=0:=by rfl
 have r3:bodyF env1 [in65,in26]=5:=by rfl
 have r4:bodyF env1 [in65]=0:=by rfl
 rw[hp] at P1
 rw[r2] at P2
 rw[r3] at P3
 rw[r4] at P4
 simp only[pathR,hl] at P1
 simp only[TEnv.dd,env0,env1,in65,in26,TInstr.d,List.map_nil,List.map_cons,byt0,byt1] at P1 P2 P3 P4
 have t1:(stkds p).take 3=stkds p:=List.take_of_length_le (by simp[hl])
 rw[evF.eq_2,evX.eq_def,Gext,exts_no _ (f:=11) (by decide),GP,Tryz.func11];simp only[Tryz.f11,evB]
 simp only[go_sem,Nat.reduceAdd,Nat.reduceMul,Nat.reduceSub,Nat.reduceLT,Nat.reduceLeDiff,Nat.reduceEqDiff,Nat.reduceBEq,Nat.reduceBeqDiff,Int.reduceEq,Int.reduceLT,Int.reduceLE,Int.reduceToNat,Int.reduceNeg,Int.reduceAdd,Int.reduceSub,Int.reduceMul,reduceIte,reduceCtorEq,Nat.reducePow,Nat.reduceDiv,Nat.reduceMod,Int.reduceBEq,P1,P2,P3,P4,t1]
end Go.Proofs.YtfpioigggjnffaaGreatDoor.E
