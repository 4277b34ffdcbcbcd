/- Q7, Q8, Q9. -/
import Derived.Test.YtfpioigggjnffaaGreatDoorC6
import Derived.Test.YtfpioigggjnffaaGreatDoorF1
set_option linter.unnecessarySimpa false
set_option linter.unusedSimpArgs false
set_option linter.unusedVariables false
set_option autoImplicit false
set_option maxRecDepth 100000
set_option maxHeartbeats 4000000
set_option pp.maxSteps 20000
namespace Go.Proofs.YtfpioigggjnffaaGreatDoor.E
open Go.Ev
def glD (g:Int×Bool):D:= .agg [.int .u8 g.1, .bool g.2]
def TEnv.dd (e:TEnv):D:= .agg [.list (e.types.map tyD), .list (e.funcs.map (D.int .i64)), .int .i64 e.tables, .int .i64 e.mems, .list (e.globals.map glD), .list (byt e.locs), .list (byt e.results)]
def ck (e:TEnv) (w:WkS):List V:=[.d (.list (e.types.map tyD)), .d (.list (e.funcs.map (D.int .i64))), .d (.int .i64 e.tables), .d (.int .i64 e.mems), .d (.list (e.globals.map glD)), .d (.list (byt e.locs)), .d (.list (byt e.results)), .d (.list (byt w.s.vals)), .d (.list (ctlds w.s.ctrls)), .d (.int .i64 w.e)]
theorem must_ev (fu n:Nat) (e:TEnv) (w:WkS) (ok:Bool) (x:Int):evF (G fu) (n+1) 162 [.ptr 0 0, .d (.bool ok), .d (.int .i64 x)] [.cells (ck e w)]=some (.tup [],[.cells (ck e (w.must ok x))]):=by
 rw[evF.eq_2,evX.eq_def,Gext,exts_no _ (f:=162) (by decide),GP,Tryz.func162];simp only[Tryz.f162,evB]
 unfold WkS.must
 by_cases h:w.e=0
 ·have h2:(w.e==0)=true:=by simpa using h
  cases ok with
  |true=>simp only[go_sem,seval, -Nat.reduceSubDiff,↓reduceIte,reduceCtorEq,ck,h,h2]
  |false=>simp only[go_sem,seval, -Nat.reduceSubDiff,↓reduceIte,reduceCtorEq,ck,h,h2]
 ·have h2:(w.e==0)=false:=by simpa using h
  cases ok with
  |true=>simp only[go_sem,seval, -Nat.reduceSubDiff,↓reduceIte,reduceCtorEq,ck,h,h2]
  |false=>simp only[go_sem,seval, -Nat.reduceSubDiff,↓reduceIte,reduceCtorEq,ck,h,h2]
def takeS (w:WkS) (s:Stk) (x:Int):WkS:=if w.e≠0 then w else if x=0 then⟨s,0⟩ else⟨w.s,x⟩
theorem take_ev (fu n:Nat) (e:TEnv) (w:WkS) (s:Stk) (x:Int):evF (G fu) (n+2) 202 [.ptr 0 0, .d s.dd, .d (.int .i64 x)] [.cells (ck e w)]=some (.tup [],[.cells (ck e (takeS w s x))]):=by
 have M:=must_ev fu n e w (decide (x=0)) x
 rw[evF.eq_2,evX.eq_def,Gext,exts_no _ (f:=202) (by decide),GP,Tryz.func202];simp only[Tryz.f202,evB]
 unfold takeS
 unfold WkS.must at M
 by_cases h:w.e=0
 ·have h2:(w.e==0)=true:=by simpa using h
  by_cases hx:x=0
  ·subst hx
   simp only[ck,h,h2,decide_true,Bool.not_true,Bool.false_and,Bool.false_eq_true,if_false] at M
   simp only[go_sem,seval, -Nat.reduceSubDiff,↓reduceIte,reduceCtorEq,ck,Stk.dd,h,ne_eq,M]
  ·simp only[ck,h,h2,hx,decide_false,Bool.not_false,Bool.true_and,if_true] at M
   simp only[go_sem,seval, -Nat.reduceSubDiff,↓reduceIte,reduceCtorEq,ck,Stk.dd,h,ne_eq,hx,M]
 ·have h2:(w.e==0)=false:=by simpa using h
  simp only[ck,h2,Bool.and_false,Bool.false_eq_true,if_false] at M
  simp only[go_sem,seval, -Nat.reduceSubDiff,↓reduceIte,reduceCtorEq,ck,Stk.dd,h,ne_eq,M]
def takeR (w:WkS):Except Int Stk→WkS
 | .ok s=>takeS w s 0
 | .error x=>takeS w stk0 x
theorem takeS_put (w:WkS) (r:Except Int Stk) (he: ∀x,r= .error x→x≠0):w.put r=takeR w r:=by
 unfold WkS.put takeR takeS
 cases r with
 |ok s=>by_cases h:w.e=0<;>simp[h]
 |error x=>have:=he x rfl;by_cases h:w.e=0<;>simp[h,this]
theorem put_off {w:WkS} {r:Except Int Stk} (h: ¬w.e=0):w.put r=w:=by unfold WkS.put;rw[if_pos h]
theorem ckwant_ev (fu n:Nat) (e:TEnv) (w:WkS) (l:List Int) (hs:SzOk fu w.s) (hl:l.length<1000000):evF (G fu) (n+9) 157 [.ptr 0 0, .d (.list (byt l))] [.cells (ck e w)]=some (.tup [],[.cells (ck e (w.want l))]):=by
 have R:=wantR_ev fu n w.s l hs hl
 rw[evF.eq_2,evX.eq_def,Gext,exts_no _ (f:=157) (by decide),GP,Tryz.func157];simp only[Tryz.f157,evB]
 unfold WkS.want
 by_cases h:w.e=0
 ·rw[takeS_put w _ (fun _ x=>by have:=wantS_err x;omega)]
  cases hr:wantS w.s l with
  |ok s=>
   rw[hr] at R
   have T:=take_ev fu (n+6) e w s 0
   simp only[ck,h] at T
   simp only[stkR,Stk.dd] at R T
   simp only[go_sem,seval, -Nat.reduceSubDiff,↓reduceIte,reduceCtorEq,ck,h,R,T,takeR]
  |error x=>
   rw[hr] at R
   have T:=take_ev fu (n+6) e w stk0 x
   simp only[ck,h] at T
   simp only[stkR,Stk.dd] at R T
   simp only[go_sem,seval, -Nat.reduceSubDiff,↓reduceIte,reduceCtorEq,ck,h,R,T,takeR]
 ·simp only[go_sem,seval, -Nat.reduceSubDiff,↓reduceIte,reduceCtorEq,ck,h,put_off h]
theorem ckpush_ev (fu n:Nat) (e:TEnv) (w:WkS) (l:List Int) (hs:SzOk fu w.s) (hl:l.length<1000000) (hl2:l.length<fu) (hf:3<fu):evF (G fu) (n+9) 161 [.ptr 0 0, .d (.list (byt l))] [.cells (ck e w)]=some (.tup [],[.cells (ck e (w.push l))]):=by
 have R:=push_ev fu (n+1) w.s l hs hl2 hl hf
 rw[evF.eq_2,evX.eq_def,Gext,exts_no _ (f:=161) (by decide),GP,Tryz.func161];simp only[Tryz.f161,evB]
 unfold WkS.push
 by_cases h:w.e=0
 ·rw[takeS_put w _ (fun _ x=>by have:=pushS_err x;omega)]
  cases hr:pushS w.s l with
  |ok s=>
   rw[hr] at R
   have T:=take_ev fu (n+6) e w s 0
   simp only[ck,h] at T
   simp only[stkR,Stk.dd] at R T
   simp only[go_sem,seval, -Nat.reduceSubDiff,↓reduceIte,reduceCtorEq,ck,h,R,T,takeR]
  |error x=>
   rw[hr] at R
   have T:=take_ev fu (n+6) e w stk0 x
   simp only[ck,h] at T
   simp only[stkR,Stk.dd] at R T
   simp only[go_sem,seval, -Nat.reduceSubDiff,↓reduceIte,reduceCtorEq,ck,h,R,T,takeR]
 ·simp only[go_sem,seval, -Nat.reduceSubDiff,↓reduceIte,reduceCtorEq,ck,h,put_off h]
theorem ckkill_ev (fu n:Nat) (e:TEnv) (w:WkS) (hs:SzOk fu w.s):evF (G fu) (n+9) 160 [.ptr 0 0] [.cells (ck e w)]=some (.tup [],[.cells (ck e w.kill)]):=by
 have R:=killR_ev fu n w.s hs
 rw[evF.eq_2,evX.eq_def,Gext,exts_no _ (f:=160) (by decide),GP,Tryz.func160];simp only[Tryz.f160,evB]
 unfold WkS.kill
 by_cases h:w.e=0
 ·rw[takeS_put w _ (fun _ x=>by have:=killS_err x;omega)]
  cases hr:killS w.s with
  |ok s=>
   rw[hr] at R
   have T:=take_ev fu (n+6) e w s 0
   simp only[ck,h] at T
   simp only[stkR,Stk.dd] at R T
   simp only[go_sem,seval, -Nat.reduceSubDiff,↓reduceIte,reduceCtorEq,ck,h,R,T,takeR]
  |error x=>
   rw[hr] at R
   have T:=take_ev fu (n+6) e w stk0 x
   simp only[ck,h] at T
   simp only[stkR,Stk.dd] at R T
   simp only[go_sem,seval, -Nat.reduceSubDiff,↓reduceIte,reduceCtorEq,ck,h,R,T,takeR]
 ·simp only[go_sem,seval, -Nat.reduceSubDiff,↓reduceIte,reduceCtorEq,ck,h,put_off h]
theorem ckopen_ev (fu n:Nat) (e:TEnv) (w:WkS) (op:Int) (l:List Int) (hs:SzOk fu w.s) (hl:l.length<1000000):evF (G fu) (n+9) 158 [.ptr 0 0, .d (.int .i64 op), .d (.list (byt l))] [.cells (ck e w)]=some (.tup [],[.cells (ck e (w.opens op l))]):=by
 have R:=openR_ev fu (n+1) w.s op l hs hl
 rw[evF.eq_2,evX.eq_def,Gext,exts_no _ (f:=158) (by decide),GP,Tryz.func158];simp only[Tryz.f158,evB]
 unfold WkS.opens
 by_cases h:w.e=0
 ·rw[takeS_put w _ (fun _ x=>by have:=openS_err x;omega)]
  cases hr:openS w.s op l with
  |ok s=>
   rw[hr] at R
   have T:=take_ev fu (n+6) e w s 0
   simp only[ck,h] at T
   simp only[stkR,Stk.dd] at R T
   simp only[go_sem,seval, -Nat.reduceSubDiff,↓reduceIte,reduceCtorEq,ck,h,R,T,takeR]
  |error x=>
   rw[hr] at R
   have T:=take_ev fu (n+6) e w stk0 x
   simp only[ck,h] at T
   simp only[stkR,Stk.dd] at R T
   simp only[go_sem,seval, -Nat.reduceSubDiff,↓reduceIte,reduceCtorEq,ck,h,R,T,takeR]
 ·simp only[go_sem,seval, -Nat.reduceSubDiff,↓reduceIte,reduceCtorEq,ck,h,put_off h]
theorem ckpop_ev (fu n:Nat) (e:TEnv) (w:WkS) (hs:SzOk fu w.s):evF (G fu) (n+9) 168 [.ptr 0 0] [.cells (ck e w)]=some (.d (.int .u8 w.pop.1),[.cells (ck e w.pop.2)]):=by
 have R:=popR_ev fu n w.s hs
 rw[evF.eq_2,evX.eq_def,Gext,exts_no _ (f:=168) (by decide),GP,Tryz.func168];simp only[Tryz.f168,evB]
 unfold WkS.pop
 cases hr:popS w.s with
 |ok z=>
  obtain⟨t,s⟩:=z
  rw[hr] at R
  have T:=take_ev fu (n+6) e w s 0
  simp only
  rw[takeS_put w _ (fun _ x=>by cases x)]
  simp only[popR,ck,Stk.dd] at R T
  simp only[go_sem,seval, -Nat.reduceSubDiff,↓reduceIte,reduceCtorEq,ck,R,T,takeR]
 |error x=>
  rw[hr] at R
  have T:=take_ev fu (n+6) e w stk0 x
  simp only
  rw[takeS_put w _ (fun y hy=>by cases hy;have:=popS_err hr;omega)]
  simp only[popR,ck,Stk.dd] at R T
  simp only[go_sem,seval, -Nat.reduceSubDiff,↓reduceIte,reduceCtorEq,ck,R,T,takeR]
theorem ckshut_ev (fu n:Nat) (e:TEnv) (w:WkS) (hs:SzOk fu w.s):evF (G fu) (n+9) 208 [.ptr 0 0] [.cells (ck e w)]=some (.d w.closed.1.dd,[.cells (ck e w.closed.2)]):=by
 have R:=closeR_ev fu n w.s hs
 rw[evF.eq_2,evX.eq_def,Gext,exts_no _ (f:=208) (by decide),GP,Tryz.func208];simp only[Tryz.f208,evB]
 unfold WkS.closed
 cases hr:closeS w.s with
 |ok z=>
  obtain⟨t,s⟩:=z
  rw[hr] at R
  have T:=take_ev fu (n+6) e w s 0
  simp only
  rw[takeS_put w _ (fun _ x=>by cases x)]
  simp only[closeR,ck,Stk.dd,Ctl.dd] at R T
  simp only[go_sem,seval, -Nat.reduceSubDiff,↓reduceIte,reduceCtorEq,ck,Ctl.dd,R,T,takeR]
 |error x=>
  rw[hr] at R
  have T:=take_ev fu (n+6) e w stk0 x
  simp only
  rw[takeS_put w _ (fun y hy=>by cases hy;have:=closeS_err hr;omega)]
  simp only[closeR,ck,Stk.dd,Ctl.dd,ctl0] at R T
  simp only[go_sem,seval, -Nat.reduceSubDiff,↓reduceIte,reduceCtorEq,ck,Ctl.dd,R,T,takeR]
theorem cklabel_ev (fu n:Nat) (e:TEnv) (w:WkS) (k:Int) (hs:SzOk fu w.s) (hk: -9223372036854775808≤k∧k≤9223372036854775807):evF (G fu) (n+8) 159 [.ptr 0 0, .d (.int .i64 k)] [.cells (ck e w)]=
 some (.row 1 0 0 (w.label k).1.length,[.cells (ck e (w.label k).2), .row 1 (byt (w.label k).1) 0 false false]):=by
 have R:=labelR_ev fu n w.s k hs hk
 rw[evF.eq_2,evX.eq_def,Gext,exts_no _ (f:=159) (by decide),GP,Tryz.func159];simp only[Tryz.f159,evB]
 unfold WkS.label
 cases hr:labelS w.s k with
 |ok l=>
  rw[hr] at R
  have T:=must_ev fu (n+6) e w true 0
  have hw:w.must true 0=w:=rfl
  rw[hw] at T
  simp only[labR,ck,Stk.dd] at R T
  simp only[go_sem,seval, -Nat.reduceSubDiff,↓reduceIte,reduceCtorEq,ck,R,T,takeR]
 |error x=>
  rw[hr] at R
  have T:=must_ev fu (n+6) e w false x
  have he: ¬x=0:=by
   unfold labelS at hr
   split at hr
   ·cases hr;decide
   ·split at hr
    ·cases hr;decide
    ·split at hr
     ·cases hr;decide
     ·cases hr
  simp only[labR,ck,Stk.dd] at R T
  simp only[go_sem,seval, -Nat.reduceSubDiff,↓reduceIte,reduceCtorEq,ck,R,T,he,List.map_nil]
end Go.Proofs.YtfpioigggjnffaaGreatDoor.E
set_option autoImplicit false
set_option maxRecDepth 100000
set_option maxHeartbeats 4000000
set_option pp.maxSteps 20000
namespace Go.Proofs.YtfpioigggjnffaaGreatDoor.E
open Go.Ev
def Rm (b:Nat) (s:Stk):Prop:=s.vals.length≤b∧s.ctrls.length≤b
theorem Rm.ok {b fu:Nat} {s:Stk} (h:Rm b s) (hb:b<fu) (hm:b<1000000):SzOk fu s:=⟨by have:=h.1;omega,by have:=h.2;omega,by have:=h.1;omega,by have:=h.2;omega⟩
theorem Rm.up {b c:Nat} {s:Stk} (h:Rm b s) (hc:b≤c):Rm c s:=⟨by have:=h.1;omega,by have:=h.2;omega⟩
theorem Rm.put {b:Nat} {w:WkS} {r:Except Int Stk} (h:Rm b w.s) (hr: ∀s,r= .ok s→Rm b s):Rm b (w.put r).s:=by
 unfold WkS.put
 split
 ·exact h
 ·cases r with
  |ok s=>exact hr s rfl
  |error e=>exact h
theorem Rm.want {b:Nat} {w:WkS} (h:Rm b w.s) (l:List Int):Rm b (w.want l).s:=h.put fun s e=>⟨by have:=(wantS_ok e).2.2.length_le;have:=h.1;omega,by rw[(wantS_ok e).2.1];exact h.2⟩
theorem Rm.push {b c:Nat} {w:WkS} (h:Rm b w.s) {l:List Int} (hl:b+l.length≤c):Rm c (w.push l).s:=(h.up (by omega)).put fun s e=>⟨by rw[(pushS_ok e).2.2,List.length_append];have:=h.1;omega,by rw[(pushS_ok e).2.1];have:=h.2;omega⟩
theorem Rm.opens {b c:Nat} {w:WkS} (h:Rm b w.s) (op:Int) (l:List Int) (hc:b+1≤c):Rm c (w.opens op l).s:=(h.up (by omega)).put fun s e=>⟨by rw[(openS_ok e).2.2];have:=h.1;omega,by rw[(openS_ok e).2.1,List.length_append];have:=h.2;simp;omega⟩
theorem Rm.kill {b:Nat} {w:WkS} (h:Rm b w.s):Rm b w.kill.s:=h.put fun s e=>⟨by have:=(killS_ok e).2.2.1.length_le;have:=h.1;omega,by rw[(killS_ok e).2.1];exact h.2⟩
theorem Rm.must {b:Nat} {w:WkS} (h:Rm b w.s) (ok:Bool) (e:Int):Rm b (w.must ok e).s:=by
 unfold WkS.must
 split
 ·exact h
 ·exact h
theorem Rm.pop {b:Nat} {w:WkS} (h:Rm b w.s):Rm b w.pop.2.s:=by
 unfold WkS.pop
 cases hp:popS w.s with
 |ok r=>obtain⟨t,s'⟩:=r;exact h.put fun s e=>by cases e;exact⟨by have:=(popS_ok hp).2.2.length_le;have:=h.1;omega,by rw[(popS_ok hp).2.1];exact h.2⟩
 |error e=>exact h.put fun s x=>by cases x
theorem Rm.closed {b:Nat} {w:WkS} (h:Rm b w.s):Rm b w.closed.2.s:=by
 unfold WkS.closed
 cases hp:closeS w.s with
 |ok r=>obtain⟨t,s'⟩:=r;exact h.put fun s e=>by cases e;exact⟨by have:=(closeS_ok hp).2.2.2.1.length_le;have:=h.1;omega,by rw[(closeS_ok hp).2.2.1,List.length_dropLast];have:=h.2;omega⟩
 |error e=>exact h.put fun s x=>by cases x
theorem Rm.label {b:Nat} {w:WkS} (h:Rm b w.s) (k:Int):Rm b (w.label k).2.s:=by
 unfold WkS.label
 cases labelS w.s k with
 |ok l=>exact h
 |error e=>exact h.must _ _
theorem fin_len {l:List Int} (h:finB l=true):l.length≤1:=by
 match l,h with
 |[],_=>simp
 |[_],_=>simp
theorem closed_len (w:WkS):w.closed.1.fin.length≤1:=by
 unfold WkS.closed
 cases hp:closeS w.s with
 |ok r=>obtain⟨t,s'⟩:=r;exact fin_len (closeS_ok hp).2.2.2.2.2
 |error e=>simp
theorem label_fin (w:WkS) (k:Int):finB (w.label k).1=true:=by
 unfold WkS.label labelS
 cases hs:saneS w.s with
 |false=>rfl
 |true=>
  obtain⟨m,r1,_⟩:=(saneS_iff w.s).1 hs
  simp only[Bool.not_true,Bool.false_eq_true,if_false]
  by_cases hk:k<0∨(w.s.ctrls.length:Int)≤k
  ·rw[if_pos hk];rfl
  ·rw[if_neg hk]
   cases hc:w.s.ctrls[w.s.ctrls.length-1-k.toNat]? with
   |none=>rfl
   |some c=>
    simp only
    split
    ·rfl
    ·exact rises_fin r1 c (List.mem_of_getElem? hc)
theorem renL_ck (fr:Nat→Option Nat) (fs:Nat→Nat→Option Nat) (e:TEnv) (w:WkS):renL fr fs (ck e w)=ck e w:=rfl
theorem refsL_ck (e:TEnv) (w:WkS):refsL (ck e w)=[]:=rfl
theorem ck_0 (e:TEnv) (w:WkS):(ck e w)[0]? =some (.d (.list (e.types.map tyD))):=rfl
theorem ck_1 (e:TEnv) (w:WkS):(ck e w)[1]? =some (.d (.list (e.funcs.map (D.int .i64)))):=rfl
theorem ck_2 (e:TEnv) (w:WkS):(ck e w)[2]? =some (.d (.int .i64 e.tables)):=rfl
theorem ck_3 (e:TEnv) (w:WkS):(ck e w)[3]? =some (.d (.int .i64 e.mems)):=rfl
theorem ck_4 (e:TEnv) (w:WkS):(ck e w)[4]? =some (.d (.list (e.globals.map glD))):=rfl
theorem ck_5 (e:TEnv) (w:WkS):(ck e w)[5]? =some (.d (.list (byt e.locs))):=rfl
theorem ck_6 (e:TEnv) (w:WkS):(ck e w)[6]? =some (.d (.list (byt e.results))):=rfl
theorem ck_7 (e:TEnv) (w:WkS):(ck e w)[7]? =some (.d (.list (byt w.s.vals))):=rfl
theorem ck_8 (e:TEnv) (w:WkS):(ck e w)[8]? =some (.d (.list (ctlds w.s.ctrls))):=rfl
theorem ck_9 (e:TEnv) (w:WkS):(ck e w)[9]? =some (.d (.int .i64 w.e)):=rfl
theorem ck_env (e:TEnv) (w:WkS):takeN (ck e w) 7=some [.d (.list (e.types.map tyD)), .d (.list (e.funcs.map (D.int .i64))), .d (.int .i64 e.tables), .d (.int .i64 e.mems), .d (.list (e.globals.map glD)), .d (.list (byt e.locs)), .d (.list (byt e.results))]:=rfl
theorem ck_stk (e:TEnv) (w:WkS):takeN ((ck e w).drop 7) 2=some [.d (.list (byt w.s.vals)), .d (.list (ctlds w.s.ctrls))]:=rfl
attribute [go_sem] renL_ck refsL_ck ck_0 ck_1 ck_2 ck_3 ck_4 ck_5 ck_6 ck_7 ck_8 ck_9 ck_env ck_stk
theorem byt1 (x:Int):byt [x]=[D.int .u8 x]:=rfl
theorem byt2 (x y:Int):byt [x,y]=[D.int .u8 x,D.int .u8 y]:=rfl
theorem byt0:byt []=[]:=rfl
theorem chosen_ev (fu n b:Nat) (e:TEnv) (w:WkS) (hb:b+100<fu) (hm:b+100<1000000) (h:Rm b w.s) (i:TInstr) (hi:i.op≠26):evF (G fu) (n+10) 169 [.ptr 0 0] [.cells (ck e w)]=some (.tup [],[.cells (ck e (chosenS w i))]):=by
 have P1:=ckwant_ev fu n e w [127] (h.ok (by omega) (by omega)) (by simp)
 have h1:=h.want [127]
 have P2:=ckpop_ev fu n e (w.want [127]) (h1.ok (by omega) (by omega))
 have P3:=ckpop_ev fu n e (w.want [127]).pop.2 (h1.pop.ok (by omega) (by omega))
 have P4:=must_ev fu (n+8) e (w.want [127]).pop.2.pop.2 ((w.want [127]).pop.1==0||(w.want [127]).pop.2.pop.1==0||(w.want [127]).pop.1==(w.want [127]).pop.2.pop.1) 5
 have h4:Rm b ((w.want [127]).pop.2.pop.2.must ((w.want [127]).pop.1==0||(w.want [127]).pop.2.pop.1==0||(w.want [127]).pop.1==(w.want [127]).pop.2.pop.1) 5).s:=(h1.pop.pop).must _ _
 have P5:=fun x=>ckpush_ev fu n e ((w.want [127]).pop.2.pop.2.must ((w.want [127]).pop.1==0||(w.want [127]).pop.2.pop.1==0||(w.want [127]).pop.1==(w.want [127]).pop.2.pop.1) 5) [x] (h4.ok (by omega) (by omega)) (by simp) (by simp;omega) (by omega)
 unfold chosenS
 rw[if_neg hi]
 rw[evF.eq_2,evX.eq_def,Gext,exts_no _ (f:=169) (by decide),GP,Tryz.func169];simp only[Tryz.f169,evB]
 simp only[byt1] at P1 P5
 generalize(w.want [127]).pop.1=x at*
 generalize(w.want [127]).pop.2.pop.1=y at*
 by_cases hx:x=0
 ·subst hx
  simp only[beq_self_eq_true,Bool.true_or] at P4 P5
  simp only[go_sem,seval, -Nat.reduceSubDiff,↓reduceIte,reduceCtorEq,P1,P2,P3,P4,P5]
 ·by_cases hy:y=0
  ·subst hy
   simp only[beq_self_eq_true,Bool.or_true,Bool.true_or] at P4 P5
   simp only[go_sem,seval, -Nat.reduceSubDiff,↓reduceIte,reduceCtorEq,P1,P2,P3,P4,P5,hx]
  ·by_cases hxy:x=y
   ·subst hxy
    have e1:(x==0)=false:=by simpa using hx
    simp only[e1,beq_self_eq_true,Bool.or_true,Bool.false_or] at P4 P5
    simp only[go_sem,seval, -Nat.reduceSubDiff,↓reduceIte,reduceCtorEq,P1,P2,P3,P4,P5,hx,e1]
   ·have e1:(x==0)=false:=by simpa using hx
    have e2:(y==0)=false:=by simpa using hy
    have e3:(x==y)=false:=by simpa using hxy
    simp only[e1,e2,e3,Bool.or_false] at P4 P5
    simp only[go_sem,seval, -Nat.reduceSubDiff,↓reduceIte,reduceCtorEq,P1,P2,P3,P4,P5,hx,hy,hxy,e1,e2,e3]
theorem topIf_get (s:Stk):topIf s=(decide (0<s.ctrls.length)&&decide ((s.ctrls.getD (s.ctrls.length-1) ctl0).op=4)):=by
 unfold topIf
 cases hh:s.ctrls.getLast? with
 |none=>rw[List.getLast?_eq_none_iff] at hh;rw[hh];rfl
 |some c=>
  have hpos:0<s.ctrls.length:=by
   cases hc:s.ctrls with
   |nil=>rw[hc] at hh;cases hh
   |cons _ _=>simp
  rw[List.getLast?_eq_getElem?] at hh
  rw[List.getD_eq_getElem?_getD,hh]
  simp only[Option.getD_some,hpos,decide_true,Bool.true_and]
  by_cases h4:c.op=4<;>simp[h4]
theorem else_ev (fu n b:Nat) (e:TEnv) (w:WkS) (hb:b+100<fu) (hm:b+100<1000000) (h:Rm b w.s) (i:TInstr) (hi:i.op=5):evF (G fu) (n+10) 167 [.ptr 0 0, .d (.int .i64 5)] [.cells (ck e w)]=some (.tup [],[.cells (ck e (nestedS w i))]):=by
 have P1:=must_ev fu (n+8) e w (topIf w.s) 5
 have h1:Rm b (w.must (topIf w.s) 5).s:=h.must _ _
 have P2:=ckshut_ev fu n e (w.must (topIf w.s) 5) (h1.ok (by omega) (by omega))
 have h2:=h1.closed
 have hl:=closed_len (w.must (topIf w.s) 5)
 have P3:=ckopen_ev fu n e (w.must (topIf w.s) 5).closed.2 5 (w.must (topIf w.s) 5).closed.1.fin (h2.ok (by omega) (by omega)) (by omega)
 unfold nestedS
 rw[if_neg (show ¬i.op=4 by omega),if_pos hi]
 simp only
 rw[evF.eq_2,evX.eq_def,Gext,exts_no _ (f:=167) (by decide),GP,Tryz.func167];simp only[Tryz.f167,evB]
 generalize hw1:w.must (topIf w.s) 5=w1 at*
 rw[topIf_get] at P1
 by_cases hp:0<w.s.ctrls.length
 ·have hx:(ctlds w.s.ctrls)[w.s.ctrls.length-1]? =some (w.s.ctrls.getD (w.s.ctrls.length-1) ctl0).dd:=getD_map (by omega)
  have Wn:IntKind.wrap .i64 ((w.s.ctrls.length:Int)-1)=((w.s.ctrls.length-1:Nat):Int):=by have:=h.2;rw[wrap_i64 (by omega) (by omega)];omega
  have hpI:(0:Int)<w.s.ctrls.length:=by omega
  generalize w.s.ctrls.getD (w.s.ctrls.length-1) ctl0=c at*
  simp only[hp,decide_true,Bool.true_and] at P1
  by_cases h4:c.op=4
  ·simp only[h4,decide_true] at P1
   simp only[go_sem,seval, -Nat.reduceSubDiff,↓reduceIte,reduceCtorEq,ctlds_len,hpI,Wn,idx,hx,P1,P2,P3,Ctl.dd,h4]
  ·simp only[h4,decide_false] at P1
   simp only[go_sem,seval, -Nat.reduceSubDiff,↓reduceIte,reduceCtorEq,ctlds_len,hpI,Wn,idx,hx,P1,P2,P3,Ctl.dd,h4]
 ·have hpI: ¬(0:Int)<w.s.ctrls.length:=by omega
  simp only[hp,decide_false,Bool.false_and] at P1
  simp only[go_sem,seval, -Nat.reduceSubDiff,↓reduceIte,reduceCtorEq,ctlds_len,hpI,P1,P2,P3,Ctl.dd]
theorem end_ev (fu n b:Nat) (e:TEnv) (w:WkS) (hb:b+100<fu) (hm:b+100<1000000) (h:Rm b w.s) (i:TInstr) (hi:i.op=11):evF (G fu) (n+10) 167 [.ptr 0 0, .d (.int .i64 11)] [.cells (ck e w)]=some (.tup [],[.cells (ck e (nestedS w i))]):=by
 have P1:=must_ev fu (n+8) e w (decide (1<w.s.ctrls.length)) 5
 have h1:Rm b (w.must (decide (1<w.s.ctrls.length)) 5).s:=h.must _ _
 have P2:=ckshut_ev fu n e (w.must (decide (1<w.s.ctrls.length)) 5) (h1.ok (by omega) (by omega))
 have h2:=h1.closed
 have hl:=closed_len (w.must (decide (1<w.s.ctrls.length)) 5)
 have P3:=must_ev fu (n+8) e (w.must (decide (1<w.s.ctrls.length)) 5).closed.2 ((w.must (decide (1<w.s.ctrls.length)) 5).closed.1.op !=4||(w.must (decide (1<w.s.ctrls.length)) 5).closed.1.fin.isEmpty) 5
 have h3:=h2.must ((w.must (decide (1<w.s.ctrls.length)) 5).closed.1.op !=4||(w.must (decide (1<w.s.ctrls.length)) 5).closed.1.fin.isEmpty) 5
 have P4:=ckpush_ev fu n e ((w.must (decide (1<w.s.ctrls.length)) 5).closed.2.must ((w.must (decide (1<w.s.ctrls.length)) 5).closed.1.op !=4||(w.must (decide (1<w.s.ctrls.length)) 5).closed.1.fin.isEmpty) 5) (w.must (decide (1<w.s.ctrls.length)) 5).closed.1.fin (h3.ok (by omega) (by omega)) (by omega) (by omega) (by omega)
 unfold nestedS
 rw[if_neg (show ¬i.op=4 by omega),if_neg (show ¬i.op=5 by omega),if_pos hi]
 simp only
 rw[evF.eq_2,evX.eq_def,Gext,exts_no _ (f:=167) (by decide),GP,Tryz.func167];simp only[Tryz.f167,evB]
 have hd:decide ((1:Int)<(w.s.ctrls.length:Int))=decide (1<w.s.ctrls.length):=by
  by_cases hc:1<w.s.ctrls.length
  ·have:(1:Int)<w.s.ctrls.length:=by omega
   simp[hc,this]
  ·have: ¬(1:Int)<w.s.ctrls.length:=by omega
   simp[hc,this]
 generalize hw1:w.must (decide (1<w.s.ctrls.length)) 5=w1 at*
 generalize w1.closed.1=c at*
 by_cases h4:c.op=4
 ·have e4:(c.op !=4)=false:=by simpa using h4
  by_cases h5:c.fin=[]
  ·simp only[e4,h5,List.isEmpty_nil,Bool.or_true,byt0] at P3 P4
   simp only[go_sem,seval, -Nat.reduceSubDiff,↓reduceIte,reduceCtorEq,ctlds_len,hd,P1,P2,P3,P4,Ctl.dd,h4,h5,bne,List.map_nil,byt0]
  ·have e5:c.fin.isEmpty=false:=by simpa using h5
   have e6: ¬(c.fin.length:Int)=0:=by intro hh;exact h5 (List.length_eq_zero_iff.1 (by omega))
   simp only[e4,e5,Bool.or_false] at P3 P4
   simp only[go_sem,seval, -Nat.reduceSubDiff,↓reduceIte,reduceCtorEq,ctlds_len,hd,P1,P2,P3,P4,Ctl.dd,h4,e5,e6,byt_len,bne]
 ·have e4:(c.op !=4)=true:=by simpa using h4
  simp only[e4,Bool.true_or] at P3 P4
  simp only[go_sem,seval, -Nat.reduceSubDiff,↓reduceIte,reduceCtorEq,ctlds_len,hd,P1,P2,P3,P4,Ctl.dd,h4,e4]
end Go.Proofs.YtfpioigggjnffaaGreatDoor.E
set_option autoImplicit false
set_option maxRecDepth 100000
set_option maxHeartbeats 4000000
set_option pp.maxSteps 20000
namespace Go.Proofs.YtfpioigggjnffaaGreatDoor.E
open Go.Ev
theorem must_true' (w:WkS) (e:Int):w.must true e=w:=rfl
theorem block_ev (fu n b:Nat) (e:TEnv) (w:WkS) (hb:b+100<fu) (hm:b+100<1000000) (h:Rm b w.s) (i:TInstr) (h5:i.op≠5) (h11:i.op≠11):evF (G fu) (n+10) 99 [.ptr 0 0, .d i.d] [.cells (ck e w)]=some (.tup [],[.cells (ck e (nestedS w i))]):=by
 have P1:=ckwant_ev fu n e w [127] (h.ok (by omega) (by omega)) (by simp)
 have h1:=h.want [127]
 have P2:=fun l=>ckopen_ev fu n e (w.want [127]) 4 l (h1.ok (by omega) (by omega))
 have P3:=fun l=>ckopen_ev fu n e w i.op l (h.ok (by omega) (by omega))
 unfold nestedS leftOf
 rw[if_neg h5,if_neg h11]
 rw[evF.eq_2,evX.eq_def,Gext,exts_no _ (f:=99) (by decide),GP,Tryz.func99];simp only[Tryz.f99,evB]
 simp only[byt1] at P1
 have W:=wrap_u8_mod i.a
 by_cases h4:i.op=4
 ·by_cases ha:i.a=0
  ·have P2:=P2 [] (by simp)
   simp only[byt0] at P2
   simp only[go_sem,seval, -Nat.reduceSubDiff,↓reduceIte,reduceCtorEq,TInstr.d,h4,ha,P1,P2]
  ·have P2:=P2 [i.a%256] (by simp)
   simp only[byt1] at P2
   simp only[go_sem,seval, -Nat.reduceSubDiff,↓reduceIte,reduceCtorEq,TInstr.d,h4,ha,P1,P2,W]
 ·by_cases ha:i.a=0
  ·have P3:=P3 [] (by simp)
   simp only[byt0] at P3
   simp only[go_sem,seval, -Nat.reduceSubDiff,↓reduceIte,reduceCtorEq,TInstr.d,h4,ha,P3]
  ·have P3:=P3 [i.a%256] (by simp)
   simp only[byt1] at P3
   simp only[go_sem,seval, -Nat.reduceSubDiff,↓reduceIte,reduceCtorEq,TInstr.d,h4,ha,P3,W]
def locS (env:TEnv) (w:WkS) (a:Int):Int×WkS:=match env.locs[a.toNat]? with
 |some t=>(t,w)
 |none=>(0,w.must false 6)
def globS (env:TEnv) (w:WkS) (a:Int) (set:Bool):Int×WkS:=match env.globals[a.toNat]? with
 |some g=>(g.1,w.must (!set||g.2) 5)
 |none=>(0,w.must false 6)
theorem local_ev (fu n:Nat) (e:TEnv) (w:WkS) (a:Int) (ha:0≤a):evF (G fu) (n+2) 207 [.ptr 0 0, .d (.int .i64 a)] [.cells (ck e w)]=some (.d (.int .u8 (locS e w a).1),[.cells (ck e (locS e w a).2)]):=by
 have P:=must_ev fu n e w
 rw[evF.eq_2,evX.eq_def,Gext,exts_no _ (f:=207) (by decide),GP,Tryz.func207];simp only[Tryz.f207,evB]
 unfold locS
 by_cases h:a<e.locs.length
 ·have hlt:a.toNat<e.locs.length:=by omega
  have hx:(byt e.locs)[a.toNat]? =some (.int .u8 (e.locs.getD a.toNat 0)):=getD_map hlt
  have hx2:e.locs[a.toNat]? =some (e.locs.getD a.toNat 0):=by simp[hlt]
  simp only[go_sem,seval, -Nat.reduceSubDiff,↓reduceIte,reduceCtorEq,byt_len,h,P,must_true',idx,ha,hx,hx2]
 ·have hx2:e.locs[a.toNat]? =none:=List.getElem?_eq_none (by omega)
  simp only[go_sem,seval, -Nat.reduceSubDiff,↓reduceIte,reduceCtorEq,byt_len,h,P,hx2]
def gl0:Int×Bool:=(0,false)
theorem global_ev (fu n:Nat) (e:TEnv) (w:WkS) (a:Int) (set:Bool) (ha:0≤a):evF (G fu) (n+2) 163 [.ptr 0 0, .d (.int .i64 a), .d (.bool set)] [.cells (ck e w)]=some (.d (.int .u8 (globS e w a set).1),[.cells (ck e (globS e w a set).2)]):=by
 have P:=must_ev fu n e w
 rw[evF.eq_2,evX.eq_def,Gext,exts_no _ (f:=163) (by decide),GP,Tryz.func163];simp only[Tryz.f163,evB]
 unfold globS
 by_cases h:a<e.globals.length
 ·have hlt:a.toNat<e.globals.length:=by omega
  have hx:(e.globals.map glD)[a.toNat]? =some (glD (e.globals.getD a.toNat gl0)):=getD_map hlt
  have hx2:e.globals[a.toNat]? =some (e.globals.getD a.toNat gl0):=by simp[hlt]
  generalize e.globals.getD a.toNat gl0=g at*
  obtain⟨v,m⟩:=g
  cases m<;>cases set<;>simp only[go_sem,seval, -Nat.reduceSubDiff,↓reduceIte,reduceCtorEq,List.length_map,h,P,must_true',idx,ha,hx,hx2,glD]
 ·have hx2:e.globals[a.toNat]? =none:=List.getElem?_eq_none (by omega)
  simp only[go_sem,seval, -Nat.reduceSubDiff,↓reduceIte,reduceCtorEq,List.length_map,h,P,hx2]
theorem Rm.loc {b:Nat} {e:TEnv} {w:WkS} {a:Int} (h:Rm b w.s):Rm b (locS e w a).2.s:=by
 unfold locS
 cases e.locs[a.toNat]? with
 |some t=>exact h
 |none=>exact h.must _ _
theorem Rm.glob {b:Nat} {e:TEnv} {w:WkS} {a:Int} {set:Bool} (h:Rm b w.s):Rm b (globS e w a set).2.s:=by
 unfold globS
 cases e.globals[a.toNat]? with
 |some t=>exact h.must _ _
 |none=>exact h.must _ _
theorem localOp_ev (fu n b:Nat) (e:TEnv) (w:WkS) (hb:b+100<fu) (hm:b+100<1000000) (h:Rm b w.s) (i:TInstr) (ha:0≤i.a) (h34:i.op=32∨i.op=33∨i.op=34):evF (G fu) (n+10) 164 [.ptr 0 0, .d i.d] [.cells (ck e w)]=some (.tup [],[.cells (ck e (variableS e w i))]):=by
 have P1:=local_ev fu (n+7) e w i.a ha
 have h1:Rm b (locS e w i.a).2.s:=h.loc
 have P2:=ckwant_ev fu n e (locS e w i.a).2 [(locS e w i.a).1] (h1.ok (by omega) (by omega)) (by simp)
 have h2:=h1.want [(locS e w i.a).1]
 have P3:=ckpush_ev fu n e (locS e w i.a).2 [(locS e w i.a).1] (h1.ok (by omega) (by omega)) (by simp) (by simp;omega) (by omega)
 have P4:=ckpush_ev fu n e ((locS e w i.a).2.want [(locS e w i.a).1]) [(locS e w i.a).1] (h2.ok (by omega) (by omega)) (by simp) (by simp;omega) (by omega)
 have hv:variableS e w i=(if i.op=32∨i.op=34∨i.op=35 then(if i.op≠32∧i.op≠35 then(locS e w i.a).2.want [(locS e w i.a).1] else(locS e w i.a).2).push [(locS e w i.a).1] else(if i.op≠32∧i.op≠35 then(locS e w i.a).2.want [(locS e w i.a).1] else(locS e w i.a).2)):=by
  unfold variableS locS
  rw[if_pos (show i.op≤34 by omega)]
  rfl
 rw[hv]
 rw[evF.eq_2,evX.eq_def,Gext,exts_no _ (f:=164) (by decide),GP,Tryz.func164];simp only[Tryz.f164,evB]
 simp only[byt1] at P2 P3 P4
 generalize hop:i.op=op at*
 rcases h34 with rfl|rfl|rfl
 ·simp only[go_sem,seval, -Nat.reduceSubDiff,↓reduceIte,reduceCtorEq,TInstr.d,hop,P1,P2,P3,P4,ne_eq]
 ·simp only[go_sem,seval, -Nat.reduceSubDiff,↓reduceIte,reduceCtorEq,TInstr.d,hop,P1,P2,P3,P4,ne_eq]
 ·simp only[go_sem,seval, -Nat.reduceSubDiff,↓reduceIte,reduceCtorEq,TInstr.d,hop,P1,P2,P3,P4,ne_eq]
end Go.Proofs.YtfpioigggjnffaaGreatDoor.E
