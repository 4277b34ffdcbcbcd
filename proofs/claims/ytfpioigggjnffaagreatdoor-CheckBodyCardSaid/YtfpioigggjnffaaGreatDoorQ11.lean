/- Q11, R7, R8. -/
import Derived.Test.YtfpioigggjnffaaGreatDoorQ10
import Derived.Test.YtfpioigggjnffaaGreatDoorC17
set_option linter.unnecessarySimpa false
set_option linter.unusedSimpArgs false
set_option linter.unusedVariables false
set_option autoImplicit false
set_option maxRecDepth 100000
set_option maxHeartbeats 4000000
set_option pp.maxSteps 20000
namespace Go.Proofs.YtfpioigggjnffaaGreatDoor.E
open Go.Ev
theorem rngL {k:Int} (h:numB k=true): -9223372036854775808≤k∧k≤9223372036854775807:=by
 unfold numB at h
 simp only[Bool.and_eq_true,decide_eq_true_eq] at h
 omega
theorem br_ev (fu n b:Nat) (e:TEnv) (w:WkS) (hb:b+100<fu) (hm:b+100<1000000) (h:Rm b w.s) (i:TInstr) (ha:numB i.a=true) (hl:i.labels=[]) (hop:i.op=12):evF (G fu) (n+11) 100 [.ptr 0 0, .d i.d] [.cells (ck e w)]=some (.tup [],[.cells (ck e (branchS e w i))]):=by
 have P1:=cklabel_ev fu (n+2) e w i.a (h.ok (by omega) (by omega)) (rngL ha)
 have h1:Rm b (w.label i.a).2.s:=h.label _
 have hlen:(w.label i.a).1.length≤1:=fin_len (label_fin w i.a)
 have P2:=ckwant_ev fu (n+1) e (w.label i.a).2 (w.label i.a).1 (h1.ok (by omega) (by omega)) (by omega)
 have h2:=h1.want (w.label i.a).1
 have P3:=ckkill_ev fu (n+1) e ((w.label i.a).2.want (w.label i.a).1) (h2.ok (by omega) (by omega))
 have t1:=byt_takeL (w.label i.a).1
 have hB:branchS e w i=((w.label i.a).2.want (w.label i.a).1).kill:=by
  unfold branchS
  rw[if_neg (show ¬i.op=15 by omega),hl]
  simp only[labelsS]
  rw[if_pos hop,if_neg (show ¬i.op=13 by omega)]
 rw[hB]
 rw[evF.eq_2,evX.eq_def,Gext,exts_no _ (f:=100) (by decide),GP,Tryz.func100];simp only[Tryz.f100,evB]
 simp only[go_sem,Nat.reduceAdd,Nat.reduceMul,Nat.reduceSub,Nat.reduceLT,Nat.reduceLeDiff,Nat.reduceEqDiff,Nat.reduceBEq,Nat.reduceBeqDiff,Int.reduceEq,Int.reduceLT,Int.reduceLE,Int.reduceToNat,Int.reduceNeg,Int.reduceAdd,Int.reduceSub,Int.reduceMul,reduceIte,reduceCtorEq,Nat.reducePow,Nat.reduceDiv,Nat.reduceMod,Int.reduceBEq,TInstr.d,hop,P1,P2,P3,t1]
theorem brif_ev (fu n b:Nat) (e:TEnv) (w:WkS) (hb:b+100<fu) (hm:b+100<1000000) (h:Rm b w.s) (i:TInstr) (ha:numB i.a=true) (hl:i.labels=[]) (hop:i.op=13):evF (G fu) (n+11) 100 [.ptr 0 0, .d i.d] [.cells (ck e w)]=some (.tup [],[.cells (ck e (branchS e w i))]):=by
 have P1:=cklabel_ev fu (n+2) e w i.a (h.ok (by omega) (by omega)) (rngL ha)
 have h1:Rm b (w.label i.a).2.s:=h.label _
 have hlen:(w.label i.a).1.length≤1:=fin_len (label_fin w i.a)
 have P2:=ckwant_ev fu (n+1) e (w.label i.a).2 [127] (h1.ok (by omega) (by omega)) (by simp)
 have h2:=h1.want [127]
 have P3:=ckwant_ev fu (n+1) e ((w.label i.a).2.want [127]) (w.label i.a).1 (h2.ok (by omega) (by omega)) (by omega)
 have h3:=h2.want (w.label i.a).1
 have P4:=ckpush_ev fu (n+1) e (((w.label i.a).2.want [127]).want (w.label i.a).1) (w.label i.a).1 (h3.ok (by omega) (by omega)) (by omega) (by omega) (by omega)
 have t1:=byt_takeL (w.label i.a).1
 have hB:branchS e w i=(((w.label i.a).2.want [127]).want (w.label i.a).1).push (w.label i.a).1:=by
  unfold branchS
  rw[if_neg (show ¬i.op=15 by omega),hl]
  simp only[labelsS]
  rw[if_neg (show ¬i.op=12 by omega),if_pos hop]
 rw[hB]
 rw[evF.eq_2,evX.eq_def,Gext,exts_no _ (f:=100) (by decide),GP,Tryz.func100];simp only[Tryz.f100,evB]
 simp only[byt1] at P2
 simp only[go_sem,Nat.reduceAdd,Nat.reduceMul,Nat.reduceSub,Nat.reduceLT,Nat.reduceLeDiff,Nat.reduceEqDiff,Nat.reduceBEq,Nat.reduceBeqDiff,Int.reduceEq,Int.reduceLT,Int.reduceLE,Int.reduceToNat,Int.reduceNeg,Int.reduceAdd,Int.reduceSub,Int.reduceMul,reduceIte,reduceCtorEq,Nat.reducePow,Nat.reduceDiv,Nat.reduceMod,Int.reduceBEq,TInstr.d,hop,P1,P2,P3,P4,t1]
theorem call_ev (fu n b:Nat) (e:TEnv) (he:ESm e) (w:WkS) (hb:b+100<fu) (hm:b+100<1000000) (h:Rm b w.s) (i:TInstr) (hop:i.op=16):evF (G fu) (n+11) 100 [.ptr 0 0, .d i.d] [.cells (ck e w)]=some (.tup [],[.cells (ck e (callS e w i))]):=by
 have N:=type_ev fu (n+8) e i.a
 rw[tyR_get] at N
 have sm:=type_sm he (f:=i.a)
 unfold callS
 simp only[hop]
 rw[if_neg (show ¬(16:Int)=17 by decide),if_neg (show ¬(16:Int)=17 by decide)]
 rw[evF.eq_2,evX.eq_def,Gext,exts_no _ (f:=100) (by decide),GP,Tryz.func100];simp only[Tryz.f100,evB]
 simp only[TEnv.dd] at N
 have P1:=must_ev fu (n+9) e w (typeS e i.a).isSome 6
 have h1:Rm b (w.must (typeS e i.a).isSome 6).s:=h.must _ _
 have P3:=ckwant_ev fu (n+1) e (w.must (typeS e i.a).isSome 6) ((typeS e i.a).getD ([],[])).1 (h1.ok (by omega) (by omega)) (by omega)
 have h3:=h1.want ((typeS e i.a).getD ([],[])).1
 have P4:=ckpush_ev fu (n+1) e ((w.must (typeS e i.a).isSome 6).want ((typeS e i.a).getD ([],[])).1) ((typeS e i.a).getD ([],[])).2 (h3.ok (by omega) (by omega)) (by omega) (by omega) (by omega)
 generalize(typeS e i.a).getD ([],[])=t at*
 generalize(typeS e i.a).isSome=k at*
 simp only[go_sem,Nat.reduceAdd,Nat.reduceMul,Nat.reduceSub,Nat.reduceLT,Nat.reduceLeDiff,Nat.reduceEqDiff,Nat.reduceBEq,Nat.reduceBeqDiff,Int.reduceEq,Int.reduceLT,Int.reduceLE,Int.reduceToNat,Int.reduceNeg,Int.reduceAdd,Int.reduceSub,Int.reduceMul,reduceIte,reduceCtorEq,Nat.reducePow,Nat.reduceDiv,Nat.reduceMod,Int.reduceBEq,TInstr.d,hop,N,tyD]
 (rw[cond_free];rotate_left;·rfl)
 simp only[go_sem,Nat.reduceAdd,Nat.reduceMul,Nat.reduceSub,Nat.reduceLT,Nat.reduceLeDiff,Nat.reduceEqDiff,Nat.reduceBEq,Nat.reduceBeqDiff,Int.reduceEq,Int.reduceLT,Int.reduceLE,Int.reduceToNat,Int.reduceNeg,Int.reduceAdd,Int.reduceSub,Int.reduceMul,reduceIte,reduceCtorEq,Nat.reducePow,Nat.reduceDiv,Nat.reduceMod,Int.reduceBEq,P1,P3,P4]
theorem vars_ev (fu n b:Nat) (e:TEnv) (w:WkS) (hb:b+100<fu) (hm:b+100<1000000) (h:Rm b w.s) (i:TInstr) (ha:0≤i.a) (hop:32≤i.op∧i.op≤36):evF (G fu) (n+11) 100 [.ptr 0 0, .d i.d] [.cells (ck e w)]=some (.tup [],[.cells (ck e (variableS e w i))]):=by
 by_cases h35:i.op=35
 ·have hv:variableS e w i=(globS e w i.a false).2.push [(globS e w i.a false).1]:=by
   unfold variableS globS
   rw[if_neg (show ¬i.op≤34 by omega)]
   simp only[h35]
   cases e.globals[i.a.toNat]? with
   |none=>rfl
   |some g=>rfl
  rw[hv]
  have P1:=global_ev fu (n+8) e w i.a false ha
  have h1:Rm b (globS e w i.a false).2.s:=h.glob
  have P2:=ckpush_ev fu (n+1) e (globS e w i.a false).2 [(globS e w i.a false).1] (h1.ok (by omega) (by omega)) (by simp) (by simp;omega) (by omega)
  simp only[byt1] at P2
  rw[evF.eq_2,evX.eq_def,Gext,exts_no _ (f:=100) (by decide),GP,Tryz.func100];simp only[Tryz.f100,evB]
  simp only[go_sem,Nat.reduceAdd,Nat.reduceMul,Nat.reduceSub,Nat.reduceLT,Nat.reduceLeDiff,Nat.reduceEqDiff,Nat.reduceBEq,Nat.reduceBeqDiff,Int.reduceEq,Int.reduceLT,Int.reduceLE,Int.reduceToNat,Int.reduceNeg,Int.reduceAdd,Int.reduceSub,Int.reduceMul,reduceIte,reduceCtorEq,Nat.reducePow,Nat.reduceDiv,Nat.reduceMod,Int.reduceBEq,TInstr.d,h35,P1,P2]
 by_cases h36:i.op=36
 ·have hv:variableS e w i=(globS e w i.a true).2.want [(globS e w i.a true).1]:=by
   unfold variableS globS
   rw[if_neg (show ¬i.op≤34 by omega)]
   simp only[h36]
   cases e.globals[i.a.toNat]? with
   |none=>rfl
   |some g=>rfl
  rw[hv]
  have P1:=global_ev fu (n+8) e w i.a true ha
  have h1:Rm b (globS e w i.a true).2.s:=h.glob
  have P2:=ckwant_ev fu (n+1) e (globS e w i.a true).2 [(globS e w i.a true).1] (h1.ok (by omega) (by omega)) (by simp)
  simp only[byt1] at P2
  rw[evF.eq_2,evX.eq_def,Gext,exts_no _ (f:=100) (by decide),GP,Tryz.func100];simp only[Tryz.f100,evB]
  simp only[go_sem,Nat.reduceAdd,Nat.reduceMul,Nat.reduceSub,Nat.reduceLT,Nat.reduceLeDiff,Nat.reduceEqDiff,Nat.reduceBEq,Nat.reduceBeqDiff,Int.reduceEq,Int.reduceLT,Int.reduceLE,Int.reduceToNat,Int.reduceNeg,Int.reduceAdd,Int.reduceSub,Int.reduceMul,reduceIte,reduceCtorEq,Nat.reducePow,Nat.reduceDiv,Nat.reduceMod,Int.reduceBEq,TInstr.d,h36,P1,P2]
 have P:=localOp_ev fu n b e w hb hm h i ha (by omega)
 simp only[TInstr.d] at P
 rw[evF.eq_2,evX.eq_def,Gext,exts_no _ (f:=100) (by decide),GP,Tryz.func100];simp only[Tryz.f100,evB]
 simp only[go_sem,Nat.reduceAdd,Nat.reduceMul,Nat.reduceSub,Nat.reduceLT,Nat.reduceLeDiff,Nat.reduceEqDiff,Nat.reduceBEq,Nat.reduceBeqDiff,Int.reduceEq,Int.reduceLT,Int.reduceLE,Int.reduceToNat,Int.reduceNeg,Int.reduceAdd,Int.reduceSub,Int.reduceMul,reduceIte,reduceCtorEq,Nat.reducePow,Nat.reduceDiv,Nat.reduceMod,Int.reduceBEq,TInstr.d,show ¬i.op=12 by omega,show ¬i.op=13 by omega,show ¬i.op=16 by omega,h35,h36,P]
end Go.Proofs.YtfpioigggjnffaaGreatDoor.E
set_option autoImplicit false
set_option maxRecDepth 100000
set_option maxHeartbeats 4000000
set_option pp.maxSteps 20000
namespace Go.Proofs.YtfpioigggjnffaaGreatDoor.E
open Go.Ev
theorem rtype_ev (fu n:Nat) (e:TEnv) (f:Int):evF (G fu) (n+1) 19 [.d e.dd, .d (.int .i64 f)] []=tyR (typeS e f):=by
 unfold typeS
 rw[evF.eq_2,evX.eq_def,Gext,exts_no _ (f:=19) (by decide),GP,Tryz.func19];simp only[Tryz.f19,evB]
 by_cases f0:f<0
 ·rw[if_pos f0]
  simp only[go_sem,Nat.reduceAdd,Nat.reduceMul,Nat.reduceSub,Nat.reduceLT,Nat.reduceLeDiff,Nat.reduceEqDiff,Nat.reduceBEq,Nat.reduceBeqDiff,Int.reduceEq,Int.reduceLT,Int.reduceLE,Int.reduceToNat,Int.reduceNeg,Int.reduceAdd,Int.reduceSub,Int.reduceMul,reduceIte,reduceCtorEq,Nat.reducePow,Nat.reduceDiv,Nat.reduceMod,Int.reduceBEq,TEnv.dd,f0,tyR,tyD,ty0,List.map_nil]
 ·rw[if_neg f0]
  have hf:f=((f.toNat:Nat):Int):=by omega
  cases hg:e.funcs[f.toNat]? with
  |none=>
   have hl:(e.funcs.length:Int)≤f:=by have:=List.getElem?_eq_none_iff.1 hg;omega
   simp only[go_sem,Nat.reduceAdd,Nat.reduceMul,Nat.reduceSub,Nat.reduceLT,Nat.reduceLeDiff,Nat.reduceEqDiff,Nat.reduceBEq,Nat.reduceBeqDiff,Int.reduceEq,Int.reduceLT,Int.reduceLE,Int.reduceToNat,Int.reduceNeg,Int.reduceAdd,Int.reduceSub,Int.reduceMul,reduceIte,reduceCtorEq,Nat.reducePow,Nat.reduceDiv,Nat.reduceMod,Int.reduceBEq,TEnv.dd,f0,List.length_map,hl,tyR,tyD,ty0,List.map_nil]
  |some t=>
   have hlt:f.toNat<e.funcs.length:=(List.getElem?_eq_some_iff.1 hg).1
   have hl: ¬(e.funcs.length:Int)≤f:=by omega
   have hx:(e.funcs.map (D.int .i64))[f.toNat]? =some (.int .i64 t):=by rw[List.getElem?_map,hg];rfl
   have hfl:((f.toNat:Nat):Int)<e.funcs.length:=by omega
   simp only
   generalize f.toNat=k at*
   subst hf
   by_cases t0:t<0
   ·rw[if_pos t0]
    simp only[go_sem,Nat.reduceAdd,Nat.reduceMul,Nat.reduceSub,Nat.reduceLT,Nat.reduceLeDiff,Nat.reduceEqDiff,Nat.reduceBEq,Nat.reduceBeqDiff,Int.reduceEq,Int.reduceLT,Int.reduceLE,Int.reduceToNat,Int.reduceNeg,Int.reduceAdd,Int.reduceSub,Int.reduceMul,reduceIte,reduceCtorEq,Nat.reducePow,Nat.reduceDiv,Nat.reduceMod,Int.reduceBEq,TEnv.dd,f0,List.length_map,hl,hfl,idx,hx,t0,tyR,tyD,ty0,List.map_nil]
   ·rw[if_neg t0]
    have ht:t=((t.toNat:Nat):Int):=by omega
    cases hy:e.types[t.toNat]? with
    |none=>
     have hm:(e.types.length:Int)≤t:=by have:=List.getElem?_eq_none_iff.1 hy;omega
     simp only[go_sem,Nat.reduceAdd,Nat.reduceMul,Nat.reduceSub,Nat.reduceLT,Nat.reduceLeDiff,Nat.reduceEqDiff,Nat.reduceBEq,Nat.reduceBeqDiff,Int.reduceEq,Int.reduceLT,Int.reduceLE,Int.reduceToNat,Int.reduceNeg,Int.reduceAdd,Int.reduceSub,Int.reduceMul,reduceIte,reduceCtorEq,Nat.reducePow,Nat.reduceDiv,Nat.reduceMod,Int.reduceBEq,TEnv.dd,f0,List.length_map,hl,hfl,idx,hx,t0,hm,tyR,tyD,ty0,List.map_nil]
    |some y=>
     have hlt2:t.toNat<e.types.length:=(List.getElem?_eq_some_iff.1 hy).1
     have hm: ¬(e.types.length:Int)≤t:=by omega
     have hz:(e.types.map tyD)[t.toNat]? =some (tyD y):=by rw[List.getElem?_map,hy];rfl
     have htl:((t.toNat:Nat):Int)<e.types.length:=by omega
     generalize t.toNat=j at*
     subst ht
     simp only[tyD] at hz
     simp only[go_sem,Nat.reduceAdd,Nat.reduceMul,Nat.reduceSub,Nat.reduceLT,Nat.reduceLeDiff,Nat.reduceEqDiff,Nat.reduceBEq,Nat.reduceBeqDiff,Int.reduceEq,Int.reduceLT,Int.reduceLE,Int.reduceToNat,Int.reduceNeg,Int.reduceAdd,Int.reduceSub,Int.reduceMul,reduceIte,reduceCtorEq,Nat.reducePow,Nat.reduceDiv,Nat.reduceMod,Int.reduceBEq,TEnv.dd,f0,List.length_map,hl,hfl,idx,hx,t0,hm,htl,hz,tyR,tyD]
     (rw[cond_free];rotate_left;·rfl)
     simp only[go_sem,Nat.reduceAdd,Nat.reduceMul,Nat.reduceSub,Nat.reduceLT,Nat.reduceLeDiff,Nat.reduceEqDiff,Nat.reduceBEq,Nat.reduceBeqDiff,Int.reduceEq,Int.reduceLT,Int.reduceLE,Int.reduceToNat,Int.reduceNeg,Int.reduceAdd,Int.reduceSub,Int.reduceMul,reduceIte,reduceCtorEq,Nat.reducePow,Nat.reduceDiv,Nat.reduceMod,Int.reduceBEq]
theorem rvars_ev (fu n b:Nat) (e:TEnv) (w:WkS) (hb:b+100<fu) (hm:b+100<1000000) (h:Rm b w.s) (i:TInstr) (ha:0≤i.a) (hop:32≤i.op∧i.op≤36):evF (G fu) (n+7) 57 [.ptr 0 0, .d e.dd, .d i.d] [.cells (wk w)]=some (.tup [],[.cells (wk (variableS e w i))]):=by
 obtain⟨op,a,b',kk,lb⟩:=i
 simp only at ha hop
 obtain⟨k,rfl⟩: ∃k:Nat,a=k:=⟨a.toNat,by omega⟩
 unfold variableS
 simp only[Int.toNat_natCast]
 have PW:=fun(w1:WkS) (h1:Rm b w1.s) (t:Int)=>wwant_ev fu (n+1) w1 [t] (h1.ok (by omega) (by omega)) (by simp;omega) (by simp)
 have PP:=fun(w1:WkS) (h1:Rm b w1.s) (t:Int)=>wpush_ev fu n w1 [t] (h1.ok (by omega) (by omega)) (by simp;omega) (by simp)
 simp only[byt1] at PW PP
 have hT: ∀(w1:WkS) (x:Int),w1.must true x=w1:=fun w1 x=>by simp[WkS.must]
 have M0:=wmust_ev fu (n+5) w true 6
 rw[hT] at M0
 have M1:=wmust_ev fu (n+5) w false 6
 have hM:Rm b (w.must false 6).s:=h.must _ _
 rw[evF.eq_2,evX.eq_def,Gext,exts_no _ (f:=57) (by decide),GP,Tryz.func57];simp only[Tryz.f57,evB]
 by_cases h34:op≤34
 ·rw[if_pos h34]
  have ho:op=32∨op=33∨op=34:=by omega
  cases hg:e.locs[k]? with
  |none=>
   have hl: ¬(k:Int)<(e.locs.length:Int):=by have:=List.getElem?_eq_none_iff.1 hg;omega
   have Q1:=PW _ hM 0
   have Q2:=PP _ hM 0
   have Q3:=PP _ (hM.want [0]) 0
   rcases ho with rfl|rfl|rfl
   ·simp only[go_sem,Nat.reduceAdd,Nat.reduceMul,Nat.reduceSub,Nat.reduceLT,Nat.reduceLeDiff,Nat.reduceEqDiff,Nat.reduceBEq,Nat.reduceBeqDiff,Int.reduceEq,Int.reduceLT,Int.reduceLE,Int.reduceToNat,Int.reduceNeg,Int.reduceAdd,Int.reduceSub,Int.reduceMul,reduceIte,reduceCtorEq,Nat.reducePow,Nat.reduceDiv,Nat.reduceMod,Int.reduceBEq,TEnv.dd,TInstr.d,byt_len,hl,M1,Q2];try rfl
   ·simp only[go_sem,Nat.reduceAdd,Nat.reduceMul,Nat.reduceSub,Nat.reduceLT,Nat.reduceLeDiff,Nat.reduceEqDiff,Nat.reduceBEq,Nat.reduceBeqDiff,Int.reduceEq,Int.reduceLT,Int.reduceLE,Int.reduceToNat,Int.reduceNeg,Int.reduceAdd,Int.reduceSub,Int.reduceMul,reduceIte,reduceCtorEq,Nat.reducePow,Nat.reduceDiv,Nat.reduceMod,Int.reduceBEq,TEnv.dd,TInstr.d,byt_len,hl,M1,Q1];try rfl
   ·simp only[go_sem,Nat.reduceAdd,Nat.reduceMul,Nat.reduceSub,Nat.reduceLT,Nat.reduceLeDiff,Nat.reduceEqDiff,Nat.reduceBEq,Nat.reduceBeqDiff,Int.reduceEq,Int.reduceLT,Int.reduceLE,Int.reduceToNat,Int.reduceNeg,Int.reduceAdd,Int.reduceSub,Int.reduceMul,reduceIte,reduceCtorEq,Nat.reducePow,Nat.reduceDiv,Nat.reduceMod,Int.reduceBEq,TEnv.dd,TInstr.d,byt_len,hl,M1,Q1,Q3];try rfl
  |some t=>
   have hlt:k<e.locs.length:=(List.getElem?_eq_some_iff.1 hg).1
   have hl:(k:Int)<(e.locs.length:Int):=by omega
   have hx:(byt e.locs)[k]? =some (.int .u8 t):=by rw[byt,List.getElem?_map,hg];rfl
   have Q1:=PW _ h t
   have Q2:=PP _ h t
   have Q3:=PP _ (h.want [t]) t
   rcases ho with rfl|rfl|rfl
   ·simp only[go_sem,Nat.reduceAdd,Nat.reduceMul,Nat.reduceSub,Nat.reduceLT,Nat.reduceLeDiff,Nat.reduceEqDiff,Nat.reduceBEq,Nat.reduceBeqDiff,Int.reduceEq,Int.reduceLT,Int.reduceLE,Int.reduceToNat,Int.reduceNeg,Int.reduceAdd,Int.reduceSub,Int.reduceMul,reduceIte,reduceCtorEq,Nat.reducePow,Nat.reduceDiv,Nat.reduceMod,Int.reduceBEq,TEnv.dd,TInstr.d,byt_len,hl,idx,hx,M0,Q2];try rfl
   ·simp only[go_sem,Nat.reduceAdd,Nat.reduceMul,Nat.reduceSub,Nat.reduceLT,Nat.reduceLeDiff,Nat.reduceEqDiff,Nat.reduceBEq,Nat.reduceBeqDiff,Int.reduceEq,Int.reduceLT,Int.reduceLE,Int.reduceToNat,Int.reduceNeg,Int.reduceAdd,Int.reduceSub,Int.reduceMul,reduceIte,reduceCtorEq,Nat.reducePow,Nat.reduceDiv,Nat.reduceMod,Int.reduceBEq,TEnv.dd,TInstr.d,byt_len,hl,idx,hx,M0,Q1];try rfl
   ·simp only[go_sem,Nat.reduceAdd,Nat.reduceMul,Nat.reduceSub,Nat.reduceLT,Nat.reduceLeDiff,Nat.reduceEqDiff,Nat.reduceBEq,Nat.reduceBeqDiff,Int.reduceEq,Int.reduceLT,Int.reduceLE,Int.reduceToNat,Int.reduceNeg,Int.reduceAdd,Int.reduceSub,Int.reduceMul,reduceIte,reduceCtorEq,Nat.reducePow,Nat.reduceDiv,Nat.reduceMod,Int.reduceBEq,TEnv.dd,TInstr.d,byt_len,hl,idx,hx,M0,Q1,Q3];try rfl
 ·rw[if_neg h34]
  have ho:op=35∨op=36:=by omega
  cases hg:e.globals[k]? with
  |none=>
   have hl: ¬(k:Int)<(e.globals.length:Int):=by have:=List.getElem?_eq_none_iff.1 hg;omega
   have Q1:=PW _ hM 0
   have Q2:=PP _ hM 0
   rcases ho with rfl|rfl
   ·simp only[go_sem,Nat.reduceAdd,Nat.reduceMul,Nat.reduceSub,Nat.reduceLT,Nat.reduceLeDiff,Nat.reduceEqDiff,Nat.reduceBEq,Nat.reduceBeqDiff,Int.reduceEq,Int.reduceLT,Int.reduceLE,Int.reduceToNat,Int.reduceNeg,Int.reduceAdd,Int.reduceSub,Int.reduceMul,reduceIte,reduceCtorEq,Nat.reducePow,Nat.reduceDiv,Nat.reduceMod,Int.reduceBEq,TEnv.dd,TInstr.d,List.length_map,hl,M1,Q2];try rfl
   ·simp only[go_sem,Nat.reduceAdd,Nat.reduceMul,Nat.reduceSub,Nat.reduceLT,Nat.reduceLeDiff,Nat.reduceEqDiff,Nat.reduceBEq,Nat.reduceBeqDiff,Int.reduceEq,Int.reduceLT,Int.reduceLE,Int.reduceToNat,Int.reduceNeg,Int.reduceAdd,Int.reduceSub,Int.reduceMul,reduceIte,reduceCtorEq,Nat.reducePow,Nat.reduceDiv,Nat.reduceMod,Int.reduceBEq,TEnv.dd,TInstr.d,List.length_map,hl,M1,Q1];try rfl
  |some g=>
   obtain⟨t,mu⟩:=g
   have hlt:k<e.globals.length:=(List.getElem?_eq_some_iff.1 hg).1
   have hl:(k:Int)<(e.globals.length:Int):=by omega
   have hx:(e.globals.map glD)[k]? =some (.agg [.int .u8 t, .bool mu]):=by rw[List.getElem?_map,hg];rfl
   have M2:=wmust_ev fu (n+5) w true 5
   have M3:=wmust_ev fu (n+5) w mu 5
   have hm2:Rm b (w.must mu 5).s:=h.must _ _
   rw[hT] at M2
   have Q1:=PW _ hm2 t
   have Q2:=PP _ h t
   rcases ho with rfl|rfl
   ·simp only[hT,beq_self_eq_true,Bool.true_or]
    simp only[go_sem,Nat.reduceAdd,Nat.reduceMul,Nat.reduceSub,Nat.reduceLT,Nat.reduceLeDiff,Nat.reduceEqDiff,Nat.reduceBEq,Nat.reduceBeqDiff,Int.reduceEq,Int.reduceLT,Int.reduceLE,Int.reduceToNat,Int.reduceNeg,Int.reduceAdd,Int.reduceSub,Int.reduceMul,reduceIte,reduceCtorEq,Nat.reducePow,Nat.reduceDiv,Nat.reduceMod,Int.reduceBEq,TEnv.dd,TInstr.d,List.length_map,hl,idx,hx,M0,M2,Q2];try rfl
   ·simp only[show((36:Int)==35)=false from rfl,Bool.false_or]
    simp only[go_sem,Nat.reduceAdd,Nat.reduceMul,Nat.reduceSub,Nat.reduceLT,Nat.reduceLeDiff,Nat.reduceEqDiff,Nat.reduceBEq,Nat.reduceBeqDiff,Int.reduceEq,Int.reduceLT,Int.reduceLE,Int.reduceToNat,Int.reduceNeg,Int.reduceAdd,Int.reduceSub,Int.reduceMul,reduceIte,reduceCtorEq,Nat.reducePow,Nat.reduceDiv,Nat.reduceMod,Int.reduceBEq,TEnv.dd,TInstr.d,List.length_map,hl,idx,hx,M0,M3,Q1];try rfl
end Go.Proofs.YtfpioigggjnffaaGreatDoor.E
set_option autoImplicit false
set_option maxRecDepth 100000
set_option maxHeartbeats 4000000
set_option pp.maxSteps 20000
namespace Go.Proofs.YtfpioigggjnffaaGreatDoor.E
open Go.Ev
theorem want_off {w:WkS} (h: ¬w.e=0) (l:List Int):w.want l=w:=put_off h
theorem push_off {w:WkS} (h: ¬w.e=0) (l:List Int):w.push l=w:=put_off h
theorem must_off (w:WkS): ¬(w.must false 6).e=0:=by
 unfold WkS.must
 by_cases h:w.e=0<;>simp[h]
theorem rcall_ev (fu n b:Nat) (e:TEnv) (he:ESm e) (w:WkS) (hb:b+100<fu) (hm:b+100<1000000) (h:Rm b w.s) (i:TInstr) (ha:0≤i.a) (hop:i.op=16∨i.op=17):evF (G fu) (n+7) 55 [.ptr 0 0, .d e.dd, .d i.d] [.cells (wk w)]=some (.tup [],[.cells (wk (callS e w i))]):=by
 obtain⟨op,a,b',kk,lb⟩:=i
 simp only at ha hop
 obtain⟨k,rfl⟩: ∃k:Nat,a=k:=⟨a.toNat,by omega⟩
 have I:=i32_ev fu (n+5)
 simp only[byt1] at I
 have N:=rtype_ev fu (n+5) e k
 rw[tyR_get] at N
 have sm:=type_sm he (f:=(k:Int))
 have PW:=fun(w1:WkS) (h1:Rm b w1.s) (l:List Int) (hl:l.length≤64)=>wwant_ev fu (n+1) w1 l (h1.ok (by omega) (by omega)) (by omega) (by omega)
 have PP:=fun(w1:WkS) (h1:Rm b w1.s) (l:List Int) (hl:l.length≤64)=>wpush_ev fu n w1 l (h1.ok (by omega) (by omega)) (by omega) (by omega)
 have hM: ∀x,Rm b (w.must x 6).s:=fun x=>h.must _ _
 have M:=fun x=>wmust_ev fu (n+5) w x 6
 unfold callS
 simp only[Int.toNat_natCast]
 simp only[TEnv.dd,tyD] at N
 rw[evF.eq_2,evX.eq_def,Gext,exts_no _ (f:=55) (by decide),GP,Tryz.func55];simp only[Tryz.f55,evB]
 rcases hop with rfl|rfl
 ·simp only[show ¬(16:Int)=17 by decide,if_false]
  generalize typeS e k=o at*
  generalize hx:o.isSome=x at*
  have Q1:=PW _ (hM x) (o.getD ([],[])).1 sm.1
  have Q2:=PP _ ((hM x).want (o.getD ([],[])).1) (o.getD ([],[])).2 sm.2
  generalize o.getD ([],[])=t at*
  have Mx:=M x
  simp only[go_sem,Nat.reduceAdd,Nat.reduceMul,Nat.reduceSub,Nat.reduceLT,Nat.reduceLeDiff,Nat.reduceEqDiff,Nat.reduceBEq,Nat.reduceBeqDiff,Int.reduceEq,Int.reduceLT,Int.reduceLE,Int.reduceToNat,Int.reduceNeg,Int.reduceAdd,Int.reduceSub,Int.reduceMul,reduceIte,reduceCtorEq,Nat.reducePow,Nat.reduceDiv,Nat.reduceMod,Int.reduceBEq,TEnv.dd,TInstr.d,N,Mx,Q1,Q2]
 ·simp only[if_true]
  generalize(typeS e k).getD ([],[])=t0 at*
  generalize(typeS e k).isSome=x0 at*
  have hWf: ∀l,(w.must false 6).want l=w.must false 6:=want_off (must_off w)
  have hPf: ∀l,(w.must false 6).push l=w.must false 6:=push_off (must_off w)
  have Mf:=M false
  have Qf0:=PW _ (hM false) [127] (by simp)
  have Qf1:=PW _ (hM false) t0.1 sm.1
  have Qf2:=PP _ (hM false) t0.2 sm.2
  rw[hWf] at Qf0 Qf1
  rw[hPf] at Qf2
  simp only[byt1] at Qf0
  by_cases ht:0<e.tables
  ·simp only[ht,if_true]
   cases hg:e.types[k]? with
   |none=>
    have hl: ¬(k:Int)<(e.types.length:Int):=by have:=List.getElem?_eq_none_iff.1 hg;omega
    simp only[Option.isSome_none,hWf,hPf]
    simp only[go_sem,Nat.reduceAdd,Nat.reduceMul,Nat.reduceSub,Nat.reduceLT,Nat.reduceLeDiff,Nat.reduceEqDiff,Nat.reduceBEq,Nat.reduceBeqDiff,Int.reduceEq,Int.reduceLT,Int.reduceLE,Int.reduceToNat,Int.reduceNeg,Int.reduceAdd,Int.reduceSub,Int.reduceMul,reduceIte,reduceCtorEq,Nat.reducePow,Nat.reduceDiv,Nat.reduceMod,Int.reduceBEq,TEnv.dd,TInstr.d,N,ht,List.length_map,hl,I,Mf,Qf0,Qf1,Qf2]
   |some y=>
    have hlt:k<e.types.length:=(List.getElem?_eq_some_iff.1 hg).1
    have hl:(k:Int)<(e.types.length:Int):=by omega
    have hx:(e.types.map tyD)[k]? =some (.agg [.list (byt y.1), .list (byt y.2)]):=by rw[List.getElem?_map,hg];rfl
    have hT:w.must true 6=w:=by simp[WkS.must]
    have Mt:=M true
    rw[hT] at Mt
    have hy:=he.types y (List.mem_of_getElem? hg)
    have Q0:=PW _ h [127] (by simp)
    have Q1:=PW _ (h.want [127]) y.1 hy.1
    have Q2:=PP _ ((h.want [127]).want y.1) y.2 hy.2
    simp only[byt1] at Q0
    simp only[Option.isSome_some,Option.getD_some,hT]
    simp only[go_sem,Nat.reduceAdd,Nat.reduceMul,Nat.reduceSub,Nat.reduceLT,Nat.reduceLeDiff,Nat.reduceEqDiff,Nat.reduceBEq,Nat.reduceBeqDiff,Int.reduceEq,Int.reduceLT,Int.reduceLE,Int.reduceToNat,Int.reduceNeg,Int.reduceAdd,Int.reduceSub,Int.reduceMul,reduceIte,reduceCtorEq,Nat.reducePow,Nat.reduceDiv,Nat.reduceMod,Int.reduceBEq,TEnv.dd,TInstr.d,N,ht,List.length_map,hl,idx,hx,I,Mt,Q0,Q1,Q2]
  ·simp only[ht,if_false,Option.isSome_none,hWf,hPf]
   simp only[go_sem,Nat.reduceAdd,Nat.reduceMul,Nat.reduceSub,Nat.reduceLT,Nat.reduceLeDiff,Nat.reduceEqDiff,Nat.reduceBEq,Nat.reduceBeqDiff,Int.reduceEq,Int.reduceLT,Int.reduceLE,Int.reduceToNat,Int.reduceNeg,Int.reduceAdd,Int.reduceSub,Int.reduceMul,reduceIte,reduceCtorEq,Nat.reducePow,Nat.reduceDiv,Nat.reduceMod,Int.reduceBEq,TEnv.dd,TInstr.d,N,ht,I,Mf,Qf0,Qf1,Qf2]
end Go.Proofs.YtfpioigggjnffaaGreatDoor.E
