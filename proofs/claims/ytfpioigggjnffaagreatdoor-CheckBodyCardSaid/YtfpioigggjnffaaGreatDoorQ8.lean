/- Q8, C7, C9, C10, C15, C16. -/
import Derived.Test.YtfpioigggjnffaaGreatDoorQ7
import Derived.Test.YtfpioigggjnffaaGreatDoorQ3
set_option linter.unnecessarySimpa false
set_option linter.unusedSimpArgs false
set_option linter.unusedVariables false
set_option autoImplicit false
set_option maxRecDepth 100000
set_option maxHeartbeats 4000000
set_option pp.maxSteps 20000
namespace Go.Proofs.YtfpioigggjnffaaGreatDoor.E
open Go.Ev
def Rm (b:Nat) (s:Stk):Prop:=s.vals.length≤b∧s.ctrls.length≤b
theorem Rm.ok {b fu:Nat} {s:Stk} (h:Rm b s) (hb:b<fu) (hm:b<1000000):SzOk fu s:=⟨by have:=h.1;omega,by have:=h.2;omega,by have:=h.1;omega,by have:=h.2;omega⟩
theorem Rm.up {b c:Nat} {s:Stk} (h:Rm b s) (hc:b≤c):Rm c s:=⟨by have:=h.1;omega,by have:=h.2;omega⟩
theorem Rm.put {b:Nat} {w:WkS} {r:Except Int Stk} (h:Rm b w.s) (hr: ∀s,r= .ok s→Rm b s):Rm b (w.put r).s:=by
 unfold WkS.put
 split
 ·exact h
 ·cases r with
  |ok s=>exact hr s rfl
  |error e=>exact h
theorem Rm.want {b:Nat} {w:WkS} (h:Rm b w.s) (l:List Int):Rm b (w.want l).s:=h.put fun s e=>⟨by have:=(wantS_ok e).2.2.length_le;have:=h.1;omega,by rw[(wantS_ok e).2.1];exact h.2⟩
theorem Rm.push {b c:Nat} {w:WkS} (h:Rm b w.s) {l:List Int} (hl:b+l.length≤c):Rm c (w.push l).s:=(h.up (by omega)).put fun s e=>⟨by rw[(pushS_ok e).2.2,List.length_append];have:=h.1;omega,by rw[(pushS_ok e).2.1];have:=h.2;omega⟩
theorem Rm.opens {b c:Nat} {w:WkS} (h:Rm b w.s) (op:Int) (l:List Int) (hc:b+1≤c):Rm c (w.opens op l).s:=(h.up (by omega)).put fun s e=>⟨by rw[(openS_ok e).2.2];have:=h.1;omega,by rw[(openS_ok e).2.1,List.length_append];have:=h.2;simp;omega⟩
theorem Rm.kill {b:Nat} {w:WkS} (h:Rm b w.s):Rm b w.kill.s:=h.put fun s e=>⟨by have:=(killS_ok e).2.2.1.length_le;have:=h.1;omega,by rw[(killS_ok e).2.1];exact h.2⟩
theorem Rm.must {b:Nat} {w:WkS} (h:Rm b w.s) (ok:Bool) (e:Int):Rm b (w.must ok e).s:=by
 unfold WkS.must
 split
 ·exact h
 ·exact h
theorem Rm.pop {b:Nat} {w:WkS} (h:Rm b w.s):Rm b w.pop.2.s:=by
 unfold WkS.pop
 cases hp:popS w.s with
 |ok r=>obtain⟨t,s'⟩:=r;exact h.put fun s e=>by cases e;exact⟨by have:=(popS_ok hp).2.2.length_le;have:=h.1;omega,by rw[(popS_ok hp).2.1];exact h.2⟩
 |error e=>exact h.put fun s x=>by cases x
theorem Rm.closed {b:Nat} {w:WkS} (h:Rm b w.s):Rm b w.closed.2.s:=by
 unfold WkS.closed
 cases hp:closeS w.s with
 |ok r=>obtain⟨t,s'⟩:=r;exact h.put fun s e=>by cases e;exact⟨by have:=(closeS_ok hp).2.2.2.1.length_le;have:=h.1;omega,by rw[(closeS_ok hp).2.2.1,List.length_dropLast];have:=h.2;omega⟩
 |error e=>exact h.put fun s x=>by cases x
theorem Rm.label {b:Nat} {w:WkS} (h:Rm b w.s) (k:Int):Rm b (w.label k).2.s:=by
 unfold WkS.label
 cases labelS w.s k with
 |ok l=>exact h
 |error e=>exact h.must _ _
theorem fin_len {l:List Int} (h:finB l=true):l.length≤1:=by
 match l,h with
 |[],_=>simp
 |[_],_=>simp
theorem closed_len (w:WkS):w.closed.1.fin.length≤1:=by
 unfold WkS.closed
 cases hp:closeS w.s with
 |ok r=>obtain⟨t,s'⟩:=r;exact fin_len (closeS_ok hp).2.2.2.2.2
 |error e=>simp
theorem label_fin (w:WkS) (k:Int):finB (w.label k).1=true:=by
 unfold WkS.label labelS
 cases hs:saneS w.s with
 |false=>rfl
 |true=>
  obtain⟨m,r1,_⟩:=(saneS_iff w.s).1 hs
  simp only[Bool.not_true,Bool.false_eq_true,if_false]
  by_cases hk:k<0∨(w.s.ctrls.length:Int)≤k
  ·rw[if_pos hk];rfl
  ·rw[if_neg hk]
   cases hc:w.s.ctrls[w.s.ctrls.length-1-k.toNat]? with
   |none=>rfl
   |some c=>
    simp only
    split
    ·rfl
    ·exact rises_fin r1 c (List.mem_of_getElem? hc)
theorem renL_ck (fr:Nat→Option Nat) (fs:Nat→Nat→Option Nat) (e:TEnv) (w:WkS):renL fr fs (ck e w)=ck e w:=rfl
theorem refsL_ck (e:TEnv) (w:WkS):refsL (ck e w)=[]:=rfl
theorem ck_0 (e:TEnv) (w:WkS):(ck e w)[0]? =some (.d (.list (e.types.map tyD))):=rfl
theorem ck_1 (e:TEnv) (w:WkS):(ck e w)[1]? =some (.d (.list (e.funcs.map (D.int .i64)))):=rfl
theorem ck_2 (e:TEnv) (w:WkS):(ck e w)[2]? =some (.d (.int .i64 e.tables)):=rfl
theorem ck_3 (e:TEnv) (w:WkS):(ck e w)[3]? =some (.d (.int .i64 e.mems)):=rfl
theorem ck_4 (e:TEnv) (w:WkS):(ck e w)[4]? =some (.d (.list (e.globals.map glD))):=rfl
theorem ck_5 (e:TEnv) (w:WkS):(ck e w)[5]? =some (.d (.list (byt e.locs))):=rfl
theorem ck_6 (e:TEnv) (w:WkS):(ck e w)[6]? =some (.d (.list (byt e.results))):=rfl
theorem ck_7 (e:TEnv) (w:WkS):(ck e w)[7]? =some (.d (.list (byt w.s.vals))):=rfl
theorem ck_8 (e:TEnv) (w:WkS):(ck e w)[8]? =some (.d (.list (ctlds w.s.ctrls))):=rfl
theorem ck_9 (e:TEnv) (w:WkS):(ck e w)[9]? =some (.d (.int .i64 w.e)):=rfl
theorem ck_env (e:TEnv) (w:WkS):takeN (ck e w) 7=some [.d (.list (e.types.map tyD)), .d (.list (e.funcs.map (D.int .i64))), .d (.int .i64 e.tables), .d (.int .i64 e.mems), .d (.list (e.globals.map glD)), .d (.list (byt e.locs)), .d (.list (byt e.results))]:=rfl
theorem ck_stk (e:TEnv) (w:WkS):takeN ((ck e w).drop 7) 2=some [.d (.list (byt w.s.vals)), .d (.list (ctlds w.s.ctrls))]:=rfl
attribute [go_sem] renL_ck refsL_ck ck_0 ck_1 ck_2 ck_3 ck_4 ck_5 ck_6 ck_7 ck_8 ck_9 ck_env ck_stk
theorem byt1 (x:Int):byt [x]=[D.int .u8 x]:=rfl
theorem byt2 (x y:Int):byt [x,y]=[D.int .u8 x,D.int .u8 y]:=rfl
theorem byt0:byt []=[]:=rfl
theorem chosen_ev (fu n b:Nat) (e:TEnv) (w:WkS) (hb:b+100<fu) (hm:b+100<1000000) (h:Rm b w.s) (i:TInstr) (hi:i.op≠26):evF (G fu) (n+10) 169 [.ptr 0 0] [.cells (ck e w)]=some (.tup [],[.cells (ck e (chosenS w i))]):=by
 have P1:=ckwant_ev fu n e w [127] (h.ok (by omega) (by omega)) (by simp)
 have h1:=h.want [127]
 have P2:=ckpop_ev fu n e (w.want [127]) (h1.ok (by omega) (by omega))
 have P3:=ckpop_ev fu n e (w.want [127]).pop.2 (h1.pop.ok (by omega) (by omega))
 have P4:=must_ev fu (n+8) e (w.want [127]).pop.2.pop.2 ((w.want [127]).pop.1==0||(w.want [127]).pop.2.pop.1==0||(w.want [127]).pop.1==(w.want [127]).pop.2.pop.1) 5
 have h4:Rm b ((w.want [127]).pop.2.pop.2.must ((w.want [127]).pop.1==0||(w.want [127]).pop.2.pop.1==0||(w.want [127]).pop.1==(w.want [127]).pop.2.pop.1) 5).s:=(h1.pop.pop).must _ _
 have P5:=fun x=>ckpush_ev fu n e ((w.want [127]).pop.2.pop.2.must ((w.want [127]).pop.1==0||(w.want [127]).pop.2.pop.1==0||(w.want [127]).pop.1==(w.want [127]).pop.2.pop.1) 5) [x] (h4.ok (by omega) (by omega)) (by simp) (by simp;omega) (by omega)
 unfold chosenS
 rw[if_neg hi]
 rw[evF.eq_2,evX.eq_def,Gext,exts_no _ (f:=169) (by decide),GP,Tryz.func169];simp only[Tryz.f169,evB]
 simp only[byt1] at P1 P5
 generalize(w.want [127]).pop.1=x at*
 generalize(w.want [127]).pop.2.pop.1=y at*
 by_cases hx:x=0
 ·subst hx
  simp only[beq_self_eq_true,Bool.true_or] at P4 P5
  simp only[go_sem,Nat.reduceAdd,Nat.reduceMul,Nat.reduceSub,Nat.reduceLT,Nat.reduceLeDiff,Nat.reduceEqDiff,Nat.reduceBEq,Nat.reduceBeqDiff,Int.reduceEq,Int.reduceLT,Int.reduceLE,Int.reduceToNat,Int.reduceNeg,Int.reduceAdd,Int.reduceSub,Int.reduceMul,reduceIte,reduceCtorEq,Nat.reducePow,Nat.reduceDiv,Nat.reduceMod,Int.reduceBEq,P1,P2,P3,P4,P5]
 ·by_cases hy:y=0
  ·subst hy
   simp only[beq_self_eq_true,Bool.or_true,Bool.true_or] at P4 P5
   simp only[go_sem,Nat.reduceAdd,Nat.reduceMul,Nat.reduceSub,Nat.reduceLT,Nat.reduceLeDiff,Nat.reduceEqDiff,Nat.reduceBEq,Nat.reduceBeqDiff,Int.reduceEq,Int.reduceLT,Int.reduceLE,Int.reduceToNat,Int.reduceNeg,Int.reduceAdd,Int.reduceSub,Int.reduceMul,reduceIte,reduceCtorEq,Nat.reducePow,Nat.reduceDiv,Nat.reduceMod,Int.reduceBEq,P1,P2,P3,P4,P5,hx]
  ·by_cases hxy:x=y
   ·subst hxy
    have e1:(x==0)=false:=by simpa using hx
    simp only[e1,beq_self_eq_true,Bool.or_true,Bool.false_or] at P4 P5
    simp only[go_sem,Nat.reduceAdd,Nat.reduceMul,Nat.reduceSub,Nat.reduceLT,Nat.reduceLeDiff,Nat.reduceEqDiff,Nat.reduceBEq,Nat.reduceBeqDiff,Int.reduceEq,Int.reduceLT,Int.reduceLE,Int.reduceToNat,Int.reduceNeg,Int.reduceAdd,Int.reduceSub,Int.reduceMul,reduceIte,reduceCtorEq,Nat.reducePow,Nat.reduceDiv,Nat.reduceMod,Int.reduceBEq,P1,P2,P3,P4,P5,hx,e1]
   ·have e1:(x==0)=false:=by simpa using hx
    have e2:(y==0)=false:=by simpa using hy
    have e3:(x==y)=false:=by simpa using hxy
    simp only[e1,e2,e3,Bool.or_false] at P4 P5
    simp only[go_sem,Nat.reduceAdd,Nat.reduceMul,Nat.reduceSub,Nat.reduceLT,Nat.reduceLeDiff,Nat.reduceEqDiff,Nat.reduceBEq,Nat.reduceBeqDiff,Int.reduceEq,Int.reduceLT,Int.reduceLE,Int.reduceToNat,Int.reduceNeg,Int.reduceAdd,Int.reduceSub,Int.reduceMul,reduceIte,reduceCtorEq,Nat.reducePow,Nat.reduceDiv,Nat.reduceMod,Int.reduceBEq,P1,P2,P3,P4,P5,hx,hy,hxy,e1,e2,e3]
theorem topIf_get (s:Stk):topIf s=(decide (0<s.ctrls.length)&&decide ((s.ctrls.getD (s.ctrls.length-1) ctl0).op=4)):=by
 unfold topIf
 cases hh:s.ctrls.getLast? with
 |none=>rw[List.getLast?_eq_none_iff] at hh;rw[hh];rfl
 |some c=>
  have hpos:0<s.ctrls.length:=by
   cases hc:s.ctrls with
   |nil=>rw[hc] at hh;cases hh
   |cons _ _=>simp
  rw[List.getLast?_eq_getElem?] at hh
  rw[List.getD_eq_getElem?_getD,hh]
  simp only[Option.getD_some,hpos,decide_true,Bool.true_and]
  by_cases h4:c.op=4<;>simp[h4]
theorem else_ev (fu n b:Nat) (e:TEnv) (w:WkS) (hb:b+100<fu) (hm:b+100<1000000) (h:Rm b w.s) (i:TInstr) (hi:i.op=5):evF (G fu) (n+10) 167 [.ptr 0 0, .d (.int .i64 5)] [.cells (ck e w)]=some (.tup [],[.cells (ck e (nestedS w i))]):=by
 have P1:=must_ev fu (n+8) e w (topIf w.s) 5
 have h1:Rm b (w.must (topIf w.s) 5).s:=h.must _ _
 have P2:=ckshut_ev fu n e (w.must (topIf w.s) 5) (h1.ok (by omega) (by omega))
 have h2:=h1.closed
 have hl:=closed_len (w.must (topIf w.s) 5)
 have P3:=ckopen_ev fu n e (w.must (topIf w.s) 5).closed.2 5 (w.must (topIf w.s) 5).closed.1.fin (h2.ok (by omega) (by omega)) (by omega)
 unfold nestedS
 rw[if_neg (show ¬i.op=4 by omega),if_pos hi]
 simp only
 rw[evF.eq_2,evX.eq_def,Gext,exts_no _ (f:=167) (by decide),GP,Tryz.func167];simp only[Tryz.f167,evB]
 generalize hw1:w.must (topIf w.s) 5=w1 at*
 rw[topIf_get] at P1
 by_cases hp:0<w.s.ctrls.length
 ·have hx:(ctlds w.s.ctrls)[w.s.ctrls.length-1]? =some (w.s.ctrls.getD (w.s.ctrls.length-1) ctl0).dd:=getD_map (by omega)
  have Wn:IntKind.wrap .i64 ((w.s.ctrls.length:Int)-1)=((w.s.ctrls.length-1:Nat):Int):=by have:=h.2;rw[wrap_i64 (by omega) (by omega)];omega
  have hpI:(0:Int)<w.s.ctrls.length:=by omega
  generalize w.s.ctrls.getD (w.s.ctrls.length-1) ctl0=c at*
  simp only[hp,decide_true,Bool.true_and] at P1
  by_cases h4:c.op=4
  ·simp only[h4,decide_true] at P1
   simp only[go_sem,Nat.reduceAdd,Nat.reduceMul,Nat.reduceSub,Nat.reduceLT,Nat.reduceLeDiff,Nat.reduceEqDiff,Nat.reduceBEq,Nat.reduceBeqDiff,Int.reduceEq,Int.reduceLT,Int.reduceLE,Int.reduceToNat,Int.reduceNeg,Int.reduceAdd,Int.reduceSub,Int.reduceMul,reduceIte,reduceCtorEq,Nat.reducePow,Nat.reduceDiv,Nat.reduceMod,Int.reduceBEq,ctlds_len,hpI,Wn,idx,hx,P1,P2,P3,Ctl.dd,h4]
  ·simp only[h4,decide_false] at P1
   simp only[go_sem,Nat.reduceAdd,Nat.reduceMul,Nat.reduceSub,Nat.reduceLT,Nat.reduceLeDiff,Nat.reduceEqDiff,Nat.reduceBEq,Nat.reduceBeqDiff,Int.reduceEq,Int.reduceLT,Int.reduceLE,Int.reduceToNat,Int.reduceNeg,Int.reduceAdd,Int.reduceSub,Int.reduceMul,reduceIte,reduceCtorEq,Nat.reducePow,Nat.reduceDiv,Nat.reduceMod,Int.reduceBEq,ctlds_len,hpI,Wn,idx,hx,P1,P2,P3,Ctl.dd,h4]
 ·have hpI: ¬(0:Int)<w.s.ctrls.length:=by omega
  simp only[hp,decide_false,Bool.false_and] at P1
  simp only[go_sem,Nat.reduceAdd,Nat.reduceMul,Nat.reduceSub,Nat.reduceLT,Nat.reduceLeDiff,Nat.reduceEqDiff,Nat.reduceBEq,Nat.reduceBeqDiff,Int.reduceEq,Int.reduceLT,Int.reduceLE,Int.reduceToNat,Int.reduceNeg,Int.reduceAdd,Int.reduceSub,Int.reduceMul,reduceIte,reduceCtorEq,Nat.reducePow,Nat.reduceDiv,Nat.reduceMod,Int.reduceBEq,ctlds_len,hpI,P1,P2,P3,Ctl.dd]
theorem end_ev (fu n b:Nat) (e:TEnv) (w:WkS) (hb:b+100<fu) (hm:b+100<1000000) (h:Rm b w.s) (i:TInstr) (hi:i.op=11):evF (G fu) (n+10) 167 [.ptr 0 0, .d (.int .i64 11)] [.cells (ck e w)]=some (.tup [],[.cells (ck e (nestedS w i))]):=by
 have P1:=must_ev fu (n+8) e w (decide (1<w.s.ctrls.length)) 5
 have h1:Rm b (w.must (decide (1<w.s.ctrls.length)) 5).s:=h.must _ _
 have P2:=ckshut_ev fu n e (w.must (decide (1<w.s.ctrls.length)) 5) (h1.ok (by omega) (by omega))
 have h2:=h1.closed
 have hl:=closed_len (w.must (decide (1<w.s.ctrls.length)) 5)
 have P3:=must_ev fu (n+8) e (w.must (decide (1<w.s.ctrls.length)) 5).closed.2 ((w.must (decide (1<w.s.ctrls.length)) 5).closed.1.op !=4||(w.must (decide (1<w.s.ctrls.length)) 5).closed.1.fin.isEmpty) 5
 have h3:=h2.must ((w.must (decide (1<w.s.ctrls.length)) 5).closed.1.op !=4||(w.must (decide (1<w.s.ctrls.length)) 5).closed.1.fin.isEmpty) 5
 have P4:=ckpush_ev fu n e ((w.must (decide (1<w.s.ctrls.length)) 5).closed.2.must ((w.must (decide (1<w.s.ctrls.length)) 5).closed.1.op !=4||(w.must (decide (1<w.s.ctrls.length)) 5).closed.1.fin.isEmpty) 5) (w.must (decide (1<w.s.ctrls.length)) 5).closed.1.fin (h3.ok (by omega) (by omega)) (by omega) (by omega) (by omega)
 unfold nestedS
 rw[if_neg (show ¬i.op=4 by omega),if_neg (show ¬i.op=5 by omega),if_pos hi]
 simp only
 rw[evF.eq_2,evX.eq_def,Gext,exts_no _ (f:=167) (by decide),GP,Tryz.func167];simp only[Tryz.f167,evB]
 have hd:decide ((1:Int)<(w.s.ctrls.length:Int))=decide (1<w.s.ctrls.length):=by
  by_cases hc:1<w.s.ctrls.length
  ·have:(1:Int)<w.s.ctrls.length:=by omega
   simp[hc,this]
  ·have: ¬(1:Int)<w.s.ctrls.length:=by omega
   simp[hc,this]
 generalize hw1:w.must (decide (1<w.s.ctrls.length)) 5=w1 at*
 generalize w1.closed.1=c at*
 by_cases h4:c.op=4
 ·have e4:(c.op !=4)=false:=by simpa using h4
  by_cases h5:c.fin=[]
  ·simp only[e4,h5,List.isEmpty_nil,Bool.or_true,byt0] at P3 P4
   simp only[go_sem,Nat.reduceAdd,Nat.reduceMul,Nat.reduceSub,Nat.reduceLT,Nat.reduceLeDiff,Nat.reduceEqDiff,Nat.reduceBEq,Nat.reduceBeqDiff,Int.reduceEq,Int.reduceLT,Int.reduceLE,Int.reduceToNat,Int.reduceNeg,Int.reduceAdd,Int.reduceSub,Int.reduceMul,reduceIte,reduceCtorEq,Nat.reducePow,Nat.reduceDiv,Nat.reduceMod,Int.reduceBEq,ctlds_len,hd,P1,P2,P3,P4,Ctl.dd,h4,h5,bne,List.map_nil,byt0]
  ·have e5:c.fin.isEmpty=false:=by simpa using h5
   have e6: ¬(c.fin.length:Int)=0:=by intro hh;exact h5 (List.length_eq_zero_iff.1 (by omega))
   simp only[e4,e5,Bool.or_false] at P3 P4
   simp only[go_sem,Nat.reduceAdd,Nat.reduceMul,Nat.reduceSub,Nat.reduceLT,Nat.reduceLeDiff,Nat.reduceEqDiff,Nat.reduceBEq,Nat.reduceBeqDiff,Int.reduceEq,Int.reduceLT,Int.reduceLE,Int.reduceToNat,Int.reduceNeg,Int.reduceAdd,Int.reduceSub,Int.reduceMul,reduceIte,reduceCtorEq,Nat.reducePow,Nat.reduceDiv,Nat.reduceMod,Int.reduceBEq,ctlds_len,hd,P1,P2,P3,P4,Ctl.dd,h4,e5,e6,byt_len,bne]
 ·have e4:(c.op !=4)=true:=by simpa using h4
  simp only[e4,Bool.true_or] at P3 P4
  simp only[go_sem,Nat.reduceAdd,Nat.reduceMul,Nat.reduceSub,Nat.reduceLT,Nat.reduceLeDiff,Nat.reduceEqDiff,Nat.reduceBEq,Nat.reduceBeqDiff,Int.reduceEq,Int.reduceLT,Int.reduceLE,Int.reduceToNat,Int.reduceNeg,Int.reduceAdd,Int.reduceSub,Int.reduceMul,reduceIte,reduceCtorEq,Nat.reducePow,Nat.reduceDiv,Nat.reduceMod,Int.reduceBEq,ctlds_len,hd,P1,P2,P3,P4,Ctl.dd,h4,e4]
end Go.Proofs.YtfpioigggjnffaaGreatDoor.E
set_option autoImplicit false
namespace Go.Proofs.YtfpioigggjnffaaGreatDoor.E
open Go.Ev
def EnvOk (env:TEnv):Prop:=(∀t∈env.types,NZ t.2)∧(∀g∈env.globals,g.1≠0)∧NZ env.locs
variable {sane:TInstr→Bool} {acc:Int→Int×Int×Bool} {shape:Int→Option (List Int×Int)} {env:TEnv}
theorem typeS_mem {f:Int} {t:List Int×List Int} (e:typeS env f=some t):t∈env.types:=by
 unfold typeS at e
 split at e
 ·cases e
 ·split at e
  ·cases e
  ·split at e
   ·cases e
   ·exact List.mem_of_getElem? e
theorem WL.call {w:WkS} (h:WL w) (he:EnvOk env) (i:TInstr):WL (callS env w i):=by
 unfold callS
 simp only
 have ht:NZ (((if i.op=17 then(if 0<env.tables then env.types[i.a.toNat]? else none) else typeS env i.a).getD ([],[])).2):=by
  split
  ·split
   ·cases hh:env.types[i.a.toNat]? with
    |some t=>exact he.1 t (List.mem_of_getElem? hh)
    |none=>exact NZ.nil
   ·exact NZ.nil
  ·cases hh:typeS env i.a with
   |some t=>exact he.1 t (typeS_mem hh)
   |none=>exact NZ.nil
 refine WL.push (WL.want ?_ _) ht
 by_cases h17:i.op=17
 ·rw[if_pos h17];exact(h.must _ _).want _
 ·rw[if_neg h17];exact h.must _ _
theorem put_e0 {w:WkS} {r:Except Int Stk} (he: ∀e,r= .error e→e≠0) (h:(w.put r).e=0):w.e=0∧∃s,r= .ok s∧(w.put r).s=s:=by
 unfold WkS.put at h ⊢
 by_cases h0:w.e≠0
 ·rw[if_pos h0] at h;exact absurd h h0
 ·rw[if_neg h0] at h ⊢
  cases r with
  |ok s=>exact⟨by simpa using h0,s,rfl,rfl⟩
  |error e=>exact absurd h (he e rfl)
theorem must_e0 {w:WkS} {b:Bool} {e:Int} (he:e≠0) (h:(w.must b e).e=0):w.e=0∧(w.must b e)=w:=by
 unfold WkS.must at h ⊢
 split at h
 ·exact absurd h he
 ·rename_i hn;rw[if_neg hn];exact⟨h,rfl⟩
theorem WL.mem {w:WkS} (h:WL w) (i:TInstr) (ha:(acc i.op).1≠0∨i.op=63∨i.op=64):WL (memoryS acc env w i):=by
 unfold memoryS
 simp only
 by_cases h63:i.op=63
 ·rw[if_pos h63];exact(h.must _ _).push (NZ.one (by decide))
 ·rw[if_neg h63]
  by_cases h64:i.op=64
  ·rw[if_pos h64];exact((h.must _ _).want _).push (NZ.one (by decide))
  ·rw[if_neg h64]
   split
   ·exact((h.must _ _).must _ _).want _
   ·exact(((h.must _ _).must _ _).want _).push (NZ.one (by omega))
end Go.Proofs.YtfpioigggjnffaaGreatDoor.E
set_option autoImplicit false
namespace Go.Proofs.YtfpioigggjnffaaGreatDoor.E
open Go.Ev
variable {sane:TInstr→Bool} {acc:Int→Int×Int×Bool} {shape:Int→Option (List Int×Int)} {env:TEnv}
def BaseOk (res:List Int) (s:Stk):Prop:=∃(d:Bool) (rest:List Ctl),s.ctrls=⟨2,res,0,d⟩::rest
variable {res:List Int}
def WB (res:List Int) (w:WkS):Prop:=w.e=0→BaseOk res w.s
theorem WB.put {w:WkS} {r:Except Int Stk} (hr: ∀s,r= .ok s→w.e=0→BaseOk res s) (he: ∀e,r= .error e→e≠0):WB res (w.put r):=by
 intro h
 obtain⟨h0,s,e1,e2⟩:=put_e0 he h
 rw[e2];exact hr s e1 h0
theorem BaseOk.same {s s':Stk} (h:BaseOk res s) (hc:s'.ctrls=s.ctrls):BaseOk res s':=by
 obtain⟨d,rest,e⟩:=h;exact⟨d,rest,hc.trans e⟩
theorem WB.want {w:WkS} (h:WB res w) (l:List Int):WB res (w.want l):=
 WB.put (fun _ e h0=>(h h0).same (wantS_ok e).2.1) (fun _ x=>by have:=wantS_err x;omega)
theorem WB.push {w:WkS} (h:WB res w) (l:List Int):WB res (w.push l):=
 WB.put (fun _ e h0=>(h h0).same (pushS_ok e).2.1) (fun _ x=>by have:=pushS_err x;omega)
theorem WB.kill {w:WkS} (h:WB res w):WB res w.kill:=
 WB.put (fun s' e h0=>by
  obtain⟨d,rest,hb⟩:=h h0
  obtain⟨_,_,_,c,hlast,hc,_⟩:=killS_ok e
  rw[hb] at hlast hc
  cases rest with
  |nil=>
   have hdc:(⟨2,res,0,d⟩:Ctl)=c:=by simpa using hlast
   subst hdc
   exact⟨true,[],hc⟩
  |cons a rest=>
   exact⟨d,(a::rest).dropLast++[{c with dead:=true}],by rw[hc];rfl⟩) (fun _ x=>by have:=killS_err x;omega)
theorem WB.opens {w:WkS} (h:WB res w) (op:Int) (l:List Int):WB res (w.opens op l):=
 WB.put (fun s' e h0=>by
  obtain⟨d,rest,hb⟩:=h h0
  exact⟨d,rest++[⟨op,l,w.s.vals.length,false⟩],by rw[(openS_ok e).2.1,hb];rfl⟩) (fun _ x=>by have:=openS_err x;omega)
theorem WB.pop {w:WkS} (h:WB res w):WB res w.pop.2:=by
 unfold WkS.pop
 cases hp:popS w.s with
 |ok r=>obtain⟨t,s'⟩:=r;exact WB.put (fun s e h0=>by cases e;exact(h h0).same (popS_ok hp).2.1) (fun _ x=>by cases x)
 |error e=>exact WB.put (fun s x=>by cases x) (fun e' x=>by cases x;have:=popS_err hp;omega)
theorem WB.closed {w:WkS} (h:WB res w) (h1:w.e=0→1<w.s.ctrls.length):WB res w.closed.2:=by
 unfold WkS.closed
 cases hp:closeS w.s with
 |ok r=>
  obtain⟨t,s'⟩:=r
  refine WB.put (fun s e h0=> ?_) (fun _ x=>by cases x)
  cases e
  obtain⟨d,rest,hb⟩:=h h0
  have hl:=h1 h0
  have hc:=(closeS_ok hp).2.2.1
  rw[hb] at hc hl
  cases rest with
  |nil=>simp at hl
  |cons a rest=>exact⟨d,(a::rest).dropLast,hc⟩
 |error e=>exact WB.put (fun s x=>by cases x) (fun e' x=>by cases x;have:=closeS_err hp;omega)
theorem WB.must {w:WkS} (h:WB res w) (b:Bool) (e:Int):WB res (w.must b e):=by
 unfold WkS.must
 split
 ·rename_i hh
  simp only[Bool.and_eq_true,beq_iff_eq] at hh
  intro _;exact h hh.2
 ·exact h
theorem must_true {w:WkS} {b:Bool} {e:Int} (he:e≠0) (h:(w.must b e).e=0):b=true:=by
 unfold WkS.must at h
 split at h
 ·exact absurd h he
 ·rename_i hn
  cases b with
  |true=>rfl
  |false=>exact absurd (by simpa using h) (by simpa using hn)
theorem WB.label {w:WkS} (h:WB res w) (k:Int):WB res (w.label k).2:=by
 unfold WkS.label
 cases labelS w.s k with
 |ok l=>exact h
 |error e=>exact h.must _ _
theorem WB.labels {w:WkS} (h:WB res w) (t l:List Int):WB res (labelsS w t l):=by
 induction l generalizing w with
 |nil=>exact h
 |cons a l ih=>exact ih ((h.label a).must _ _)
theorem WB.call {w:WkS} (h:WB res w) (i:TInstr):WB res (callS env w i):=by
 unfold callS
 simp only
 refine WB.push (WB.want ?_ _) _
 by_cases h17:i.op=17
 ·rw[if_pos h17];exact(h.must _ _).want _
 ·rw[if_neg h17];exact h.must _ _
theorem WB.mem {w:WkS} (h:WB res w) (i:TInstr):WB res (memoryS acc env w i):=by
 unfold memoryS
 simp only
 by_cases h63:i.op=63
 ·rw[if_pos h63];exact(h.must _ _).push _
 ·rw[if_neg h63]
  by_cases h64:i.op=64
  ·rw[if_pos h64];exact((h.must _ _).want _).push _
  ·rw[if_neg h64]
   split
   ·exact((h.must _ _).must _ _).want _
   ·exact(((h.must _ _).must _ _).want _).push _
end Go.Proofs.YtfpioigggjnffaaGreatDoor.E
set_option autoImplicit false
namespace Go.Proofs.YtfpioigggjnffaaGreatDoor.E
open Go.Ev
variable {sane:TInstr→Bool} {acc:Int→Int×Int×Bool} {shape:Int→Option (List Int×Int)} {env:TEnv}
def start (env:TEnv):Stk:=⟨[],[⟨2,env.results,0,false⟩]⟩
theorem start_open (hf:finB env.results=true):openS ⟨[],[]⟩ 2 env.results= .ok (start env):=by
 simp[openS,saneS,risesB,typesB,hf,start]
theorem stepS_parts {s s':Stk} {i:TInstr} (e:stepS sane acc shape env s i= .ok s'):saneS s=true∧sane i=true∧(goS acc shape env s i).e=0∧(goS acc shape env s i).s=s':=by
 unfold stepS at e
 split at e
 ·cases e
 ·rename_i hh
  simp only[Bool.or_eq_true,Bool.not_eq_true',not_or,Bool.not_eq_false] at hh
  simp only at e
  split at e
  ·cases e
  ·rename_i he
   simp only[ne_eq,Classical.not_not] at he
   cases e
   exact⟨hh.1,hh.2,he,rfl⟩
end Go.Proofs.YtfpioigggjnffaaGreatDoor.E
set_option autoImplicit false
namespace Go.Proofs.YtfpioigggjnffaaGreatDoor.E
open Go.Ev
theorem popV_mono {h:Int} {d d':Bool} (hd:d=true→d'=true) {v:List Int} {r:Int×List Int} (e:popV h d v= .ok r):popV h d' v= .ok r:=by
 unfold popV at e ⊢
 by_cases hlt:h<v.length
 ·rw[if_pos hlt] at e ⊢;exact e
 ·rw[if_neg hlt] at e ⊢
  cases d with
  |false=>simp at e
  |true=>rw[hd rfl];exact e
theorem wantV_mono {h:Int} {d d':Bool} (hd:d=true→d'=true) {l v v':List Int} (e:wantV h d l v= .ok v'):wantV h d' l v= .ok v':=by
 induction l generalizing v with
 |nil=>exact e
 |cons t l ih=>
  simp only[wantV] at e ⊢
  cases hp:popV h d v with
  |error x=>rw[hp] at e;cases e
  |ok r=>
   rw[popV_mono hd hp]
   rw[hp] at e
   simp only at e ⊢
   split at e
   ·cases e
   ·rename_i hn;rw[if_neg hn];exact ih e
def Rel (pre:List Ctl) (f:List Int) (s s':Stk):Prop:=
 ∃d d' rest,s.ctrls=⟨2,[],0,d⟩::rest∧s'.ctrls=pre++⟨2,f,0,d'⟩::rest∧s'.vals=s.vals∧(d=true→d'=true)
variable {pre:List Ctl} {f:List Int}
theorem Rel.sane {s s':Stk} (hp:risesB 0 pre=some 0) (hf:finB f=true) (h:Rel pre f s s') (hs:saneS s=true):saneS s'=true:=by
 obtain⟨d,d',rest,h1,h2,h3,_⟩:=h
 obtain⟨m,hr,hm,ht⟩:=(saneS_iff s).1 hs
 refine(saneS_iff s').2 ⟨m, ?_,by rw[h3];exact hm,by rw[h3];exact ht⟩
 rw[h1] at hr
 rw[h2,risesB_append,hp]
 simp only[risesB] at hr ⊢
 rw[hf]
 simpa[finB] using hr
theorem Rel.top {s s':Stk} {c:Ctl} (hp:risesB 0 pre=some 0) (hf:finB f=true) (h:Rel pre f s s') (e:topC s= .ok c):
 ∃c',topC s'= .ok c'∧c'.ht=c.ht∧(c.dead=true→c'.dead=true):=by
 obtain⟨hs,hc⟩:=topC_ok e
 have hs':=h.sane hp hf hs
 obtain⟨d,d',rest,h1,h2,h3,h4⟩:=h
 rw[h1] at hc
 have h5:s'.ctrls.getLast? =(⟨2,f,0,d'⟩::rest:List Ctl).getLast? :=by rw[h2,List.getLast?_append];simp[List.getLast?_cons]
 unfold topC
 rw[hs',h5]
 cases rest with
 |nil=>
  have hcc:c=⟨2,[],0,d⟩:=by simpa using hc.symm
  subst hcc
  exact⟨⟨2,f,0,d'⟩,rfl,rfl,h4⟩
 |cons a r=>
  rw[List.getLast?_cons_cons] at hc ⊢
  rw[hc]
  exact⟨c,rfl,rfl,id⟩
theorem Rel.want {s s' t:Stk} {l:List Int} (hp:risesB 0 pre=some 0) (hf:finB f=true) (h:Rel pre f s s') (e:wantS s l= .ok t): ∃t',wantS s' l= .ok t'∧Rel pre f t t':=by
 unfold wantS at e ⊢
 by_cases hl:l.isEmpty=true
 ·cases hs:saneS s with
  |true=>
   rw[hs,hl] at e
   rw[h.sane hp hf hs,hl]
   cases e;exact⟨s',rfl,h⟩
  |false=>
   rw[hs] at e
   have:topC s= .error 1:=by unfold topC;rw[hs];rfl
   rw[this] at e;cases e
 ·have hl':l.isEmpty=false:=by simpa using hl
  rw[hl',Bool.and_false] at e ⊢
  simp only[Bool.false_eq_true,if_false] at e ⊢
  cases ht:topC s with
  |error x=>rw[ht] at e;cases e
  |ok c=>
   obtain⟨c',h1,h2,h3⟩:=h.top hp hf ht
   rw[ht] at e
   rw[h1]
   simp only at e ⊢
   cases hw:wantV c.ht c.dead l.reverse s.vals with
   |error x=>rw[hw] at e;cases e
   |ok v=>
    rw[hw] at e
    cases e
    obtain⟨d,d',rest,g1,g2,g3,g4⟩:=h
    rw[h2,g3,wantV_mono h3 hw]
    exact⟨_,rfl,d,d',rest,g1,g2,rfl,g4⟩
end Go.Proofs.YtfpioigggjnffaaGreatDoor.E
set_option autoImplicit false
namespace Go.Proofs.YtfpioigggjnffaaGreatDoor.E
open Go.Ev
variable {pre:List Ctl} {f:List Int}
theorem Rel.push {s s' t:Stk} {l:List Int} (hp:risesB 0 pre=some 0) (hf:finB f=true) (h:Rel pre f s s') (e:pushS s l= .ok t): ∃t',pushS s' l= .ok t'∧Rel pre f t t':=by
 unfold pushS at e ⊢
 split at e
 ·cases e
 ·rename_i hn
  simp only[Bool.or_eq_true,Bool.not_eq_true',not_or,Bool.not_eq_false] at hn
  cases e
  rw[h.sane hp hf hn.1,hn.2]
  obtain⟨d,d',rest,g1,g2,g3,g4⟩:=h
  exact⟨_,rfl,d,d',rest,g1,g2,by simp only;rw[g3],g4⟩
theorem Rel.pop {s s' t:Stk} {x:Int} (hp:risesB 0 pre=some 0) (hf:finB f=true) (h:Rel pre f s s') (e:popS s= .ok (x,t)): ∃t',popS s'= .ok (x,t')∧Rel pre f t t':=by
 unfold popS at e ⊢
 cases ht:topC s with
 |error x=>rw[ht] at e;cases e
 |ok c=>
  obtain⟨c',h1,h2,h3⟩:=h.top hp hf ht
  rw[ht] at e
  rw[h1]
  simp only at e ⊢
  cases hw:popV c.ht c.dead s.vals with
  |error x=>rw[hw] at e;cases e
  |ok r=>
   obtain⟨y,v⟩:=r
   rw[hw] at e
   cases e
   obtain⟨d,d',rest,g1,g2,g3,g4⟩:=h
   rw[h2,g3,popV_mono h3 hw]
   exact⟨_,rfl,d,d',rest,g1,g2,rfl,g4⟩
theorem Rel.open {s s' t:Stk} {op:Int} {l:List Int} (hp:risesB 0 pre=some 0) (hf:finB f=true) (h:Rel pre f s s') (e:openS s op l= .ok t): ∃t',openS s' op l= .ok t'∧Rel pre f t t':=by
 unfold openS at e ⊢
 split at e
 ·cases e
 ·rename_i hn
  simp only[Bool.or_eq_true,Bool.not_eq_true',not_or,Bool.not_eq_false] at hn
  cases e
  rw[h.sane hp hf hn.1,hn.2]
  obtain⟨d,d',rest,g1,g2,g3,g4⟩:=h
  refine⟨_,rfl,d,d',rest++[⟨op,l,s.vals.length,false⟩],by simp only;rw[g1];rfl, ?_,by simp only;rw[g3],g4⟩
  simp only[g2,g3,List.append_assoc,List.cons_append]
theorem Rel.kill {s s' t:Stk} (hp:risesB 0 pre=some 0) (hf:finB f=true) (h:Rel pre f s s') (e:killS s= .ok t): ∃t',killS s'= .ok t'∧Rel pre f t t':=by
 unfold killS at e ⊢
 cases ht:topC s with
 |error x=>rw[ht] at e;cases e
 |ok c=>
  obtain⟨c',h1,h2,h3⟩:=h.top hp hf ht
  have hl:=(topC_ok ht).2
  have hl':=(topC_ok h1).2
  rw[ht] at e
  rw[h1]
  cases e
  obtain⟨d,d',rest,g1,g2,g3,g4⟩:=h
  rw[g1] at hl
  rw[g2,List.getLast?_append] at hl'
  refine⟨_,rfl, ?_⟩
  cases rest with
  |nil=>
   have e1:c=⟨2,[],0,d⟩:=by simpa using hl.symm
   have e2:c'=⟨2,f,0,d'⟩:=by simpa using hl'.symm
   subst e1;subst e2
   exact⟨true,true,[],by simp only;rw[g1];rfl,by simp only;rw[g2,List.dropLast_append_of_ne_nil (by simp)];simp,by simp only;rw[g3],id⟩
  |cons a r=>
   have e1:c'=c:=by
    have h5:(⟨2,f,0,d'⟩::a::r:List Ctl).getLast? =(⟨2,[],0,d⟩::a::r:List Ctl).getLast? :=by rw[List.getLast?_cons_cons,List.getLast?_cons_cons]
    rw[h5,hl] at hl'
    simpa using hl'.symm
   subst e1
   refine⟨d,d',(a::r).dropLast++[{c' with dead:=true}],by simp only;rw[g1];rfl, ?_,by simp only;rw[g3],g4⟩
   simp only
   rw[g2,List.dropLast_append_of_ne_nil (by simp)]
   simp
end Go.Proofs.YtfpioigggjnffaaGreatDoor.E
