/- Q10, Q11, Q12. -/
import Derived.Test.YtfpioigggjnffaaGreatDoorQ7
import Derived.Test.YtfpioigggjnffaaGreatDoorC7
set_option linter.unnecessarySimpa false
set_option linter.unusedSimpArgs false
set_option linter.unusedVariables false
set_option autoImplicit false
set_option maxRecDepth 100000
set_option maxHeartbeats 4000000
set_option pp.maxSteps 20000
namespace Go.Proofs.YtfpioigggjnffaaGreatDoor.E
open Go.Ev
structure ESm (e:TEnv):Prop where
 types: ∀t∈e.types,t.1.length≤64∧t.2.length≤64
 results:e.results.length≤64
def ty0:List Int×List Int:=([],[])
def tyR:Option (List Int×List Int)→Option Res
 |some t=>some (.tup [.d (tyD t), .d (.bool true)],[])
 |none=>some (.tup [.d (tyD ty0), .d (.bool false)],[])
theorem named_ev (fu n:Nat) (e:TEnv) (f:Int):evF (G fu) (n+1) 62 [.d e.dd, .d (.int .i64 f)] []=tyR (if f<0 then none else e.types[f.toNat]?):=by
 rw[evF.eq_2,evX.eq_def,Gext,exts_no _ (f:=62) (by decide),GP,Tryz.func62];simp only[Tryz.f62,evB]
 by_cases h0:f<0
 ·simp only[go_sem,seval, -Nat.reduceSubDiff,↓reduceIte,reduceCtorEq,TEnv.dd,h0,tyR,tyD,ty0,List.map_nil]
 ·by_cases h1:(e.types.length:Int)≤f
  ·have hx2:e.types[f.toNat]? =none:=List.getElem?_eq_none (by omega)
   simp only[go_sem,seval, -Nat.reduceSubDiff,↓reduceIte,reduceCtorEq,TEnv.dd,List.length_map,h0,h1,hx2,tyR,tyD,ty0,List.map_nil]
  ·have hlt:f.toNat<e.types.length:=by omega
   have hx:(e.types.map tyD)[f.toNat]? =some (tyD (e.types.getD f.toNat ty0)):=getD_map hlt
   have hx2:e.types[f.toNat]? =some (e.types.getD f.toNat ty0):=by simp[hlt]
   have hf:0≤f:=by omega
   generalize e.types.getD f.toNat ty0=t at*
   simp only[go_sem,seval, -Nat.reduceSubDiff,↓reduceIte,reduceCtorEq,TEnv.dd,List.length_map,h0,h1,hx2,idx,hx,hf,tyR,tyD]
theorem type_ev (fu n:Nat) (e:TEnv) (f:Int):evF (G fu) (n+2) 18 [.d e.dd, .d (.int .i64 f)] []=tyR (typeS e f):=by
 have N:=named_ev fu n e
 rw[evF.eq_2,evX.eq_def,Gext,exts_no _ (f:=18) (by decide),GP,Tryz.func18];simp only[Tryz.f18,evB]
 unfold typeS
 by_cases h0:f<0
 ·simp only[go_sem,seval, -Nat.reduceSubDiff,↓reduceIte,reduceCtorEq,TEnv.dd,h0,tyR,tyD,ty0,List.map_nil]
 ·by_cases h1:(e.funcs.length:Int)≤f
  ·have hx2:e.funcs[f.toNat]? =none:=List.getElem?_eq_none (by omega)
   simp only[go_sem,seval, -Nat.reduceSubDiff,↓reduceIte,reduceCtorEq,TEnv.dd,List.length_map,h0,h1,hx2,tyR,tyD,ty0,List.map_nil]
  ·have hlt:f.toNat<e.funcs.length:=by omega
   have hx:(e.funcs.map (D.int .i64))[f.toNat]? =some (.int .i64 (e.funcs.getD f.toNat 0)):=getD_map hlt
   have hx2:e.funcs[f.toNat]? =some (e.funcs.getD f.toNat 0):=by simp[hlt]
   have hf:0≤f:=by omega
   generalize e.funcs.getD f.toNat 0=t at*
   have N:=N t
   simp only[TEnv.dd] at N
   cases hr:(if t<0 then none else e.types[t.toNat]?) with
   |none=>
    rw[hr] at N
    simp only[tyR] at N
    simp only[go_sem,seval, -Nat.reduceSubDiff,↓reduceIte,reduceCtorEq,TEnv.dd,List.length_map,h0,h1,hx2,idx,hx,hf,N,tyD]
    (rw[cond_free];rotate_left;·rfl)
    simp only[go_sem,seval, -Nat.reduceSubDiff,↓reduceIte,reduceCtorEq,hr,tyR,tyD]
   |some q=>
    rw[hr] at N
    simp only[tyR] at N
    simp only[go_sem,seval, -Nat.reduceSubDiff,↓reduceIte,reduceCtorEq,TEnv.dd,List.length_map,h0,h1,hx2,idx,hx,hf,N,tyD]
    (rw[cond_free];rotate_left;·rfl)
    simp only[go_sem,seval, -Nat.reduceSubDiff,↓reduceIte,reduceCtorEq,hr,tyR,tyD]
theorem type_sm {e:TEnv} (h:ESm e) {f:Int}:((typeS e f).getD ([],[])).1.length≤64∧((typeS e f).getD ([],[])).2.length≤64:=by
 cases hr:typeS e f with
 |none=>simp
 |some t=>exact h.types t (typeS_mem hr)
theorem getM_sm {e:TEnv} (h:ESm e) {f:Nat}:((e.types[f]?).getD ([],[])).1.length≤64∧((e.types[f]?).getD ([],[])).2.length≤64:=by
 cases hr:e.types[f]? with
 |none=>simp
 |some t=>exact h.types t (List.mem_of_getElem? hr)
theorem tyR_get (o:Option (List Int×List Int)):tyR o=some (.tup [.d (tyD (o.getD ([],[]))), .d (.bool o.isSome)],[]):=by cases o<;>rfl
theorem indirect_ev (fu n b:Nat) (e:TEnv) (he:ESm e) (w:WkS) (hb:b+100<fu) (hm:b+100<1000000) (h:Rm b w.s) (i:TInstr) (ha:0≤i.a) (h17:i.op=17):evF (G fu) (n+10) 102 [.ptr 0 0, .d i.d] [.cells (ck e w)]=some (.tup [],[.cells (ck e (callS e w i))]):=by
 have N:=named_ev fu (n+8) e i.a
 rw[if_neg (show ¬i.a<0 by omega),tyR_get] at N
 unfold callS
 simp only[h17,if_true]
 rw[evF.eq_2,evX.eq_def,Gext,exts_no _ (f:=102) (by decide),GP,Tryz.func102];simp only[Tryz.f102,evB]
 simp only[TEnv.dd] at N
 have sm:=getM_sm he (f:=i.a.toNat)
 by_cases ht:0<e.tables
 ·rw[if_pos ht]
  have P1:=must_ev fu (n+8) e w (e.types[i.a.toNat]?).isSome 6
  have h1:Rm b (w.must (e.types[i.a.toNat]?).isSome 6).s:=h.must _ _
  have P2:=ckwant_ev fu n e (w.must (e.types[i.a.toNat]?).isSome 6) [127] (h1.ok (by omega) (by omega)) (by simp)
  have h2:=h1.want [127]
  have P3:=ckwant_ev fu n e ((w.must (e.types[i.a.toNat]?).isSome 6).want [127]) ((e.types[i.a.toNat]?).getD ([],[])).1 (h2.ok (by omega) (by omega)) (by omega)
  have h3:=h2.want ((e.types[i.a.toNat]?).getD ([],[])).1
  have P4:=ckpush_ev fu n e (((w.must (e.types[i.a.toNat]?).isSome 6).want [127]).want ((e.types[i.a.toNat]?).getD ([],[])).1) ((e.types[i.a.toNat]?).getD ([],[])).2 (h3.ok (by omega) (by omega)) (by omega) (by omega) (by omega)
  simp only[byt1] at P2
  generalize(e.types[i.a.toNat]?).getD ([],[])=t at*
  generalize(e.types[i.a.toNat]?).isSome=k at*
  simp only[go_sem,seval, -Nat.reduceSubDiff,↓reduceIte,reduceCtorEq,TInstr.d,N,tyD]
  (rw[cond_free];rotate_left;·rfl)
  cases k<;>simp only[go_sem,seval, -Nat.reduceSubDiff,↓reduceIte,reduceCtorEq,ht,P1,P2,P3,P4]
 ·rw[if_neg ht]
  have P1:=must_ev fu (n+8) e w false 6
  have h1:Rm b (w.must false 6).s:=h.must _ _
  have P2:=ckwant_ev fu n e (w.must false 6) [127] (h1.ok (by omega) (by omega)) (by simp)
  have h2:=h1.want [127]
  have off: ∀(w':WkS) (r:Except Int Stk),¬w'.e=0→w'.put r=w':=fun _ _=>put_off
  have e1: ¬(w.must false 6).e=0:=by
   unfold WkS.must
   by_cases h0:w.e=0
   ·simp[h0]
   ·simp[h0]
  have key: ∀l,(w.must false 6).want l=w.must false 6:=fun l=>off _ _ e1
  have key2: ∀l,(w.must false 6).push l=w.must false 6:=fun l=>off _ _ e1
  rw[key] at P2 h2
  have P3:=ckwant_ev fu n e (w.must false 6) ((e.types[i.a.toNat]?).getD ([],[])).1 (h2.ok (by omega) (by omega)) (by omega)
  have P4:=ckpush_ev fu n e (w.must false 6) ((e.types[i.a.toNat]?).getD ([],[])).2 (h2.ok (by omega) (by omega)) (by omega) (by omega) (by omega)
  rw[key] at P3
  rw[key2] at P4
  simp only[byt1] at P2
  simp only[Option.isSome_none,Option.getD_none,key,key2]
  generalize(e.types[i.a.toNat]?).getD ([],[])=t at*
  generalize(e.types[i.a.toNat]?).isSome=k at*
  simp only[go_sem,seval, -Nat.reduceSubDiff,↓reduceIte,reduceCtorEq,TInstr.d,N,tyD]
  (rw[cond_free];rotate_left;·rfl)
  cases k<;>simp only[go_sem,seval, -Nat.reduceSubDiff,↓reduceIte,reduceCtorEq,ht,P1,P2,P3,P4]
def accE (op:Int):Int×Int×Bool:=((accF op).1,(accF op).2.1,(accF op).2.2.2)
theorem shl_le {a x:Int} (h0:0≤a) (h3:a≤3):shl .i64 1 (min a 3)=2^a.toNat:=by
 have:a=0∨a=1∨a=2∨a=3:=by omega
 rcases this with rfl|rfl|rfl|rfl<;>decide
theorem access_ev (fu n b:Nat) (e:TEnv) (w:WkS) (hb:b+100<fu) (hm:b+100<1000000) (h:Rm b w.s) (i:TInstr) (hi: -9223372036854775808≤i.op∧i.op≤9223372036854775807) (ha:0≤i.a) (h1:i.op≠63) (h2:i.op≠64):evF (G fu) (n+10) 103 [.ptr 0 0, .d i.d] [.cells (ck e w)]=some (.tup [],[.cells (ck e (memoryS accE e w i))]):=by
 have A:=acc_ev fu (n+8) i.op hi.1 hi.2
 unfold accR at A
 have P1:=must_ev fu (n+8) e w (decide (0<e.mems)) 6
 have r1:Rm b (w.must (decide (0<e.mems)) 6).s:=h.must _ _
 have P2:=must_ev fu (n+8) e (w.must (decide (0<e.mems)) 6) (decide (i.a≤3)&&decide ((2:Int)^i.a.toNat≤(accE i.op).2.1)) 5
 have r2:=r1.must (decide (i.a≤3)&&decide ((2:Int)^i.a.toNat≤(accE i.op).2.1)) 5
 have P3:=ckwant_ev fu n e ((w.must (decide (0<e.mems)) 6).must (decide (i.a≤3)&&decide ((2:Int)^i.a.toNat≤(accE i.op).2.1)) 5) [127,(accE i.op).1] (r2.ok (by omega) (by omega)) (by simp)
 have P4:=ckwant_ev fu n e ((w.must (decide (0<e.mems)) 6).must (decide (i.a≤3)&&decide ((2:Int)^i.a.toNat≤(accE i.op).2.1)) 5) [127] (r2.ok (by omega) (by omega)) (by simp)
 have P5:=ckpush_ev fu n e (((w.must (decide (0<e.mems)) 6).must (decide (i.a≤3)&&decide ((2:Int)^i.a.toNat≤(accE i.op).2.1)) 5).want [127]) [(accE i.op).1] ((r2.want [127]).ok (by omega) (by omega)) (by simp) (by simp;omega) (by omega)
 unfold memoryS
 simp only
 rw[if_neg h1,if_neg h2]
 rw[evF.eq_2,evX.eq_def,Gext,exts_no _ (f:=103) (by decide),GP,Tryz.func103];simp only[Tryz.f103,evB]
 obtain⟨r,hr⟩: ∃r,accF i.op=r:=⟨_,rfl⟩
 obtain⟨t,m,sg,st⟩:=r
 have hE:accE i.op=(t,m,st):=by unfold accE;rw[hr]
 simp only[byt1,byt2,hE,hr] at A P1 P2 P3 P4 P5 ⊢
 by_cases c3:i.a≤3
 ·have S:=shl_le (x:=0) ha c3
  have hmn: ¬min i.a 3<0:=by omega
  simp only[c3,decide_true,Bool.true_and] at P2 P3 P4 P5
  cases st with
  |true=>simp only[go_sem,seval, -Nat.reduceSubDiff,↓reduceIte,reduceCtorEq,TInstr.d,A,P1,c3,minV,hmn,S,P2,P3,P4,P5]
  |false=>simp only[go_sem,seval, -Nat.reduceSubDiff,↓reduceIte,reduceCtorEq,TInstr.d,A,P1,c3,minV,hmn,S,P2,P3,P4,P5]
 ·simp only[c3,decide_false,Bool.false_and] at P2 P3 P4 P5
  cases st with
  |true=>simp only[go_sem,seval, -Nat.reduceSubDiff,↓reduceIte,reduceCtorEq,TInstr.d,A,P1,c3,P2,P3,P4,P5]
  |false=>simp only[go_sem,seval, -Nat.reduceSubDiff,↓reduceIte,reduceCtorEq,TInstr.d,A,P1,c3,P2,P3,P4,P5]
theorem memory_ev (fu n b:Nat) (e:TEnv) (w:WkS) (hb:b+100<fu) (hm:b+100<1000000) (h:Rm b w.s) (i:TInstr) (h6:i.op=63∨i.op=64):evF (G fu) (n+10) 104 [.ptr 0 0, .d i.d] [.cells (ck e w)]=some (.tup [],[.cells (ck e (memoryS accE e w i))]):=by
 have P1:=must_ev fu (n+8) e w (decide (0<e.mems)) 6
 have r1:Rm b (w.must (decide (0<e.mems)) 6).s:=h.must _ _
 have P2:=ckpush_ev fu n e (w.must (decide (0<e.mems)) 6) [127] (r1.ok (by omega) (by omega)) (by simp) (by simp;omega) (by omega)
 have P4:=ckwant_ev fu n e (w.must (decide (0<e.mems)) 6) [127] (r1.ok (by omega) (by omega)) (by simp)
 have P5:=ckpush_ev fu n e ((w.must (decide (0<e.mems)) 6).want [127]) [127] ((r1.want [127]).ok (by omega) (by omega)) (by simp) (by simp;omega) (by omega)
 unfold memoryS
 simp only[byt1] at P2 P4 P5 ⊢
 rw[evF.eq_2,evX.eq_def,Gext,exts_no _ (f:=104) (by decide),GP,Tryz.func104];simp only[Tryz.f104,evB]
 generalize hop:i.op=op at*
 rcases h6 with rfl|rfl
 ·simp only[go_sem,seval, -Nat.reduceSubDiff,↓reduceIte,reduceCtorEq,TInstr.d,hop,P1,P2,ne_eq]
 ·simp only[go_sem,seval, -Nat.reduceSubDiff,↓reduceIte,reduceCtorEq,TInstr.d,hop,P1,P4,P5,ne_eq]
theorem const32_ev (fu n b:Nat) (e:TEnv) (w:WkS) (hb:b+100<fu) (hm:b+100<1000000) (h:Rm b w.s) (i:TInstr):evF (G fu) (n+10) 105 [.ptr 0 0, .d i.d] [.cells (ck e w)]=some (.tup [],[.cells (ck e (w.push [127]))]):=by
 have P2:=ckpush_ev fu n e w [127] (h.ok (by omega) (by omega)) (by simp) (by simp;omega) (by omega)
 simp only[byt1] at P2
 rw[evF.eq_2,evX.eq_def,Gext,exts_no _ (f:=105) (by decide),GP,Tryz.func105];simp only[Tryz.f105,evB]
 simp only[go_sem,seval, -Nat.reduceSubDiff,↓reduceIte,reduceCtorEq,TInstr.d,P2]
theorem const64_ev (fu n b:Nat) (e:TEnv) (w:WkS) (hb:b+100<fu) (hm:b+100<1000000) (h:Rm b w.s) (i:TInstr):evF (G fu) (n+10) 106 [.ptr 0 0, .d i.d] [.cells (ck e w)]=some (.tup [],[.cells (ck e (w.push [126]))]):=by
 have P2:=ckpush_ev fu n e w [126] (h.ok (by omega) (by omega)) (by simp) (by simp;omega) (by omega)
 simp only[byt1] at P2
 rw[evF.eq_2,evX.eq_def,Gext,exts_no _ (f:=106) (by decide),GP,Tryz.func106];simp only[Tryz.f106,evB]
 simp only[go_sem,seval, -Nat.reduceSubDiff,↓reduceIte,reduceCtorEq,TInstr.d,P2]
theorem shaped_ev (fu n b:Nat) (e:TEnv) (w:WkS) (hb:b+100<fu) (hm:b+100<1000000) (h:Rm b w.s) (i:TInstr) (h27:27<i.op) {p:List Int} {r:Int} (hs:shapeF i.op=some (p,r)):evF (G fu) (n+10) 107 [.ptr 0 0, .d i.d] [.cells (ck e w)]=some (.tup [],[.cells (ck e ((w.want p).push [r]))]):=by
 have S:=shape_ev fu (n+7) i.op
 rw[hs] at S
 simp only[shapeR] at S
 have hp:p.length≤2:=by
  unfold shapeF at hs
  repeat' (first|split at hs|(cases hs;simp)|cases hs)
 have P1:=ckwant_ev fu n e w p (h.ok (by omega) (by omega)) (by omega)
 have P2:=ckpush_ev fu n e (w.want p) [r] ((h.want p).ok (by omega) (by omega)) (by simp) (by simp;omega) (by omega)
 simp only[byt1] at P2
 have t1:=byt_takeL p
 rw[evF.eq_2,evX.eq_def,Gext,exts_no _ (f:=107) (by decide),GP,Tryz.func107];simp only[Tryz.f107,evB]
 have c0: ¬i.op=0:=by omega
 have c1: ¬i.op=1:=by omega
 have c5: ¬i.op=5:=by omega
 have c11: ¬i.op=11:=by omega
 have c15: ¬i.op=15:=by omega
 have c26: ¬i.op=26:=by omega
 have c27: ¬i.op=27:=by omega
 simp only[go_sem,seval, -Nat.reduceSubDiff,↓reduceIte,reduceCtorEq,TInstr.d,c0,c1,c5,c11,c15,c26,c27,S,P1,P2,t1]
theorem plain_ev (fu n b:Nat) (e:TEnv) (he:ESm e) (w:WkS) (hb:b+100<fu) (hm:b+100<1000000) (h:Rm b w.s) (i:TInstr):
 (i.op=0→evF (G fu) (n+11) 107 [.ptr 0 0, .d i.d] [.cells (ck e w)]=some (.tup [],[.cells (ck e w.kill)]))∧
 (i.op=1→evF (G fu) (n+11) 107 [.ptr 0 0, .d i.d] [.cells (ck e w)]=some (.tup [],[.cells (ck e w)]))∧
 (i.op=5∨i.op=11→evF (G fu) (n+11) 107 [.ptr 0 0, .d i.d] [.cells (ck e w)]=some (.tup [],[.cells (ck e (nestedS w i))]))∧
 (i.op=15→evF (G fu) (n+11) 107 [.ptr 0 0, .d i.d] [.cells (ck e w)]=some (.tup [],[.cells (ck e ((w.want e.results).kill))]))∧
 (i.op=26∨i.op=27→evF (G fu) (n+11) 107 [.ptr 0 0, .d i.d] [.cells (ck e w)]=some (.tup [],[.cells (ck e (chosenS w i))])):=by
 refine⟨fun hop=> ?_,fun hop=> ?_,fun hop=> ?_,fun hop=> ?_,fun hop=> ?_⟩
 ·have P:=ckkill_ev fu (n+1) e w (h.ok (by omega) (by omega))
  rw[evF.eq_2,evX.eq_def,Gext,exts_no _ (f:=107) (by decide),GP,Tryz.func107];simp only[Tryz.f107,evB]
  simp only[go_sem,seval, -Nat.reduceSubDiff,↓reduceIte,reduceCtorEq,TInstr.d,hop,P]
 ·rw[evF.eq_2,evX.eq_def,Gext,exts_no _ (f:=107) (by decide),GP,Tryz.func107];simp only[Tryz.f107,evB]
  simp only[go_sem,seval, -Nat.reduceSubDiff,↓reduceIte,reduceCtorEq,TInstr.d,hop]
 ·rcases hop with hop|hop
  ·have P:=else_ev fu n b e w hb hm h i hop
   rw[evF.eq_2,evX.eq_def,Gext,exts_no _ (f:=107) (by decide),GP,Tryz.func107];simp only[Tryz.f107,evB]
   simp only[go_sem,seval, -Nat.reduceSubDiff,↓reduceIte,reduceCtorEq,TInstr.d,hop,P]
  ·have P:=end_ev fu n b e w hb hm h i hop
   rw[evF.eq_2,evX.eq_def,Gext,exts_no _ (f:=107) (by decide),GP,Tryz.func107];simp only[Tryz.f107,evB]
   simp only[go_sem,seval, -Nat.reduceSubDiff,↓reduceIte,reduceCtorEq,TInstr.d,hop,P]
 ·have P:=ckwant_ev fu (n+1) e w e.results (h.ok (by omega) (by omega)) (by have:=he.results;omega)
  have P2:=ckkill_ev fu (n+1) e (w.want e.results) ((h.want _).ok (by omega) (by omega))
  rw[evF.eq_2,evX.eq_def,Gext,exts_no _ (f:=107) (by decide),GP,Tryz.func107];simp only[Tryz.f107,evB]
  simp only[go_sem,seval, -Nat.reduceSubDiff,↓reduceIte,reduceCtorEq,TInstr.d,hop,P,P2]
 ·rcases hop with hop|hop
  ·have P:=ckpop_ev fu (n+1) e w (h.ok (by omega) (by omega))
   have hc:chosenS w i=w.pop.2:=by unfold chosenS;rw[if_pos hop]
   rw[hc]
   rw[evF.eq_2,evX.eq_def,Gext,exts_no _ (f:=107) (by decide),GP,Tryz.func107];simp only[Tryz.f107,evB]
   simp only[go_sem,seval, -Nat.reduceSubDiff,↓reduceIte,reduceCtorEq,TInstr.d,hop,P]
  ·have P:=chosen_ev fu n b e w hb hm h i (by omega)
   rw[evF.eq_2,evX.eq_def,Gext,exts_no _ (f:=107) (by decide),GP,Tryz.func107];simp only[Tryz.f107,evB]
   simp only[go_sem,seval, -Nat.reduceSubDiff,↓reduceIte,reduceCtorEq,TInstr.d,hop,P]
end Go.Proofs.YtfpioigggjnffaaGreatDoor.E
set_option autoImplicit false
set_option maxRecDepth 100000
set_option maxHeartbeats 4000000
set_option pp.maxSteps 20000
namespace Go.Proofs.YtfpioigggjnffaaGreatDoor.E
open Go.Ev
theorem rngL {k:Int} (h:numB k=true): -9223372036854775808≤k∧k≤9223372036854775807:=by
 unfold numB at h
 simp only[Bool.and_eq_true,decide_eq_true_eq] at h
 omega
theorem br_ev (fu n b:Nat) (e:TEnv) (w:WkS) (hb:b+100<fu) (hm:b+100<1000000) (h:Rm b w.s) (i:TInstr) (ha:numB i.a=true) (hl:i.labels=[]) (hop:i.op=12):evF (G fu) (n+11) 100 [.ptr 0 0, .d i.d] [.cells (ck e w)]=some (.tup [],[.cells (ck e (branchS e w i))]):=by
 have P1:=cklabel_ev fu (n+2) e w i.a (h.ok (by omega) (by omega)) (rngL ha)
 have h1:Rm b (w.label i.a).2.s:=h.label _
 have hlen:(w.label i.a).1.length≤1:=fin_len (label_fin w i.a)
 have P2:=ckwant_ev fu (n+1) e (w.label i.a).2 (w.label i.a).1 (h1.ok (by omega) (by omega)) (by omega)
 have h2:=h1.want (w.label i.a).1
 have P3:=ckkill_ev fu (n+1) e ((w.label i.a).2.want (w.label i.a).1) (h2.ok (by omega) (by omega))
 have t1:=byt_takeL (w.label i.a).1
 have hB:branchS e w i=((w.label i.a).2.want (w.label i.a).1).kill:=by
  unfold branchS
  rw[if_neg (show ¬i.op=15 by omega),hl]
  simp only[labelsS]
  rw[if_pos hop,if_neg (show ¬i.op=13 by omega)]
 rw[hB]
 rw[evF.eq_2,evX.eq_def,Gext,exts_no _ (f:=100) (by decide),GP,Tryz.func100];simp only[Tryz.f100,evB]
 simp only[go_sem,seval, -Nat.reduceSubDiff,↓reduceIte,reduceCtorEq,TInstr.d,hop,P1,P2,P3,t1]
theorem brif_ev (fu n b:Nat) (e:TEnv) (w:WkS) (hb:b+100<fu) (hm:b+100<1000000) (h:Rm b w.s) (i:TInstr) (ha:numB i.a=true) (hl:i.labels=[]) (hop:i.op=13):evF (G fu) (n+11) 100 [.ptr 0 0, .d i.d] [.cells (ck e w)]=some (.tup [],[.cells (ck e (branchS e w i))]):=by
 have P1:=cklabel_ev fu (n+2) e w i.a (h.ok (by omega) (by omega)) (rngL ha)
 have h1:Rm b (w.label i.a).2.s:=h.label _
 have hlen:(w.label i.a).1.length≤1:=fin_len (label_fin w i.a)
 have P2:=ckwant_ev fu (n+1) e (w.label i.a).2 [127] (h1.ok (by omega) (by omega)) (by simp)
 have h2:=h1.want [127]
 have P3:=ckwant_ev fu (n+1) e ((w.label i.a).2.want [127]) (w.label i.a).1 (h2.ok (by omega) (by omega)) (by omega)
 have h3:=h2.want (w.label i.a).1
 have P4:=ckpush_ev fu (n+1) e (((w.label i.a).2.want [127]).want (w.label i.a).1) (w.label i.a).1 (h3.ok (by omega) (by omega)) (by omega) (by omega) (by omega)
 have t1:=byt_takeL (w.label i.a).1
 have hB:branchS e w i=(((w.label i.a).2.want [127]).want (w.label i.a).1).push (w.label i.a).1:=by
  unfold branchS
  rw[if_neg (show ¬i.op=15 by omega),hl]
  simp only[labelsS]
  rw[if_neg (show ¬i.op=12 by omega),if_pos hop]
 rw[hB]
 rw[evF.eq_2,evX.eq_def,Gext,exts_no _ (f:=100) (by decide),GP,Tryz.func100];simp only[Tryz.f100,evB]
 simp only[byt1] at P2
 simp only[go_sem,seval, -Nat.reduceSubDiff,↓reduceIte,reduceCtorEq,TInstr.d,hop,P1,P2,P3,P4,t1]
theorem call_ev (fu n b:Nat) (e:TEnv) (he:ESm e) (w:WkS) (hb:b+100<fu) (hm:b+100<1000000) (h:Rm b w.s) (i:TInstr) (hop:i.op=16):evF (G fu) (n+11) 100 [.ptr 0 0, .d i.d] [.cells (ck e w)]=some (.tup [],[.cells (ck e (callS e w i))]):=by
 have N:=type_ev fu (n+8) e i.a
 rw[tyR_get] at N
 have sm:=type_sm he (f:=i.a)
 unfold callS
 simp only[hop]
 rw[if_neg (show ¬(16:Int)=17 by decide),if_neg (show ¬(16:Int)=17 by decide)]
 rw[evF.eq_2,evX.eq_def,Gext,exts_no _ (f:=100) (by decide),GP,Tryz.func100];simp only[Tryz.f100,evB]
 simp only[TEnv.dd] at N
 have P1:=must_ev fu (n+9) e w (typeS e i.a).isSome 6
 have h1:Rm b (w.must (typeS e i.a).isSome 6).s:=h.must _ _
 have P3:=ckwant_ev fu (n+1) e (w.must (typeS e i.a).isSome 6) ((typeS e i.a).getD ([],[])).1 (h1.ok (by omega) (by omega)) (by omega)
 have h3:=h1.want ((typeS e i.a).getD ([],[])).1
 have P4:=ckpush_ev fu (n+1) e ((w.must (typeS e i.a).isSome 6).want ((typeS e i.a).getD ([],[])).1) ((typeS e i.a).getD ([],[])).2 (h3.ok (by omega) (by omega)) (by omega) (by omega) (by omega)
 generalize(typeS e i.a).getD ([],[])=t at*
 generalize(typeS e i.a).isSome=k at*
 simp only[go_sem,seval, -Nat.reduceSubDiff,↓reduceIte,reduceCtorEq,TInstr.d,hop,N,tyD]
 (rw[cond_free];rotate_left;·rfl)
 simp only[go_sem,seval, -Nat.reduceSubDiff,↓reduceIte,reduceCtorEq,P1,P3,P4]
theorem vars_ev (fu n b:Nat) (e:TEnv) (w:WkS) (hb:b+100<fu) (hm:b+100<1000000) (h:Rm b w.s) (i:TInstr) (ha:0≤i.a) (hop:32≤i.op∧i.op≤36):evF (G fu) (n+11) 100 [.ptr 0 0, .d i.d] [.cells (ck e w)]=some (.tup [],[.cells (ck e (variableS e w i))]):=by
 by_cases h35:i.op=35
 ·have hv:variableS e w i=(globS e w i.a false).2.push [(globS e w i.a false).1]:=by
   unfold variableS globS
   rw[if_neg (show ¬i.op≤34 by omega)]
   simp only[h35]
   cases e.globals[i.a.toNat]? with
   |none=>rfl
   |some g=>rfl
  rw[hv]
  have P1:=global_ev fu (n+8) e w i.a false ha
  have h1:Rm b (globS e w i.a false).2.s:=h.glob
  have P2:=ckpush_ev fu (n+1) e (globS e w i.a false).2 [(globS e w i.a false).1] (h1.ok (by omega) (by omega)) (by simp) (by simp;omega) (by omega)
  simp only[byt1] at P2
  rw[evF.eq_2,evX.eq_def,Gext,exts_no _ (f:=100) (by decide),GP,Tryz.func100];simp only[Tryz.f100,evB]
  simp only[go_sem,seval, -Nat.reduceSubDiff,↓reduceIte,reduceCtorEq,TInstr.d,h35,P1,P2]
 by_cases h36:i.op=36
 ·have hv:variableS e w i=(globS e w i.a true).2.want [(globS e w i.a true).1]:=by
   unfold variableS globS
   rw[if_neg (show ¬i.op≤34 by omega)]
   simp only[h36]
   cases e.globals[i.a.toNat]? with
   |none=>rfl
   |some g=>rfl
  rw[hv]
  have P1:=global_ev fu (n+8) e w i.a true ha
  have h1:Rm b (globS e w i.a true).2.s:=h.glob
  have P2:=ckwant_ev fu (n+1) e (globS e w i.a true).2 [(globS e w i.a true).1] (h1.ok (by omega) (by omega)) (by simp)
  simp only[byt1] at P2
  rw[evF.eq_2,evX.eq_def,Gext,exts_no _ (f:=100) (by decide),GP,Tryz.func100];simp only[Tryz.f100,evB]
  simp only[go_sem,seval, -Nat.reduceSubDiff,↓reduceIte,reduceCtorEq,TInstr.d,h36,P1,P2]
 have P:=localOp_ev fu n b e w hb hm h i ha (by omega)
 simp only[TInstr.d] at P
 rw[evF.eq_2,evX.eq_def,Gext,exts_no _ (f:=100) (by decide),GP,Tryz.func100];simp only[Tryz.f100,evB]
 simp only[go_sem,seval, -Nat.reduceSubDiff,↓reduceIte,reduceCtorEq,TInstr.d,show ¬i.op=12 by omega,show ¬i.op=13 by omega,show ¬i.op=16 by omega,h35,h36,P]
end Go.Proofs.YtfpioigggjnffaaGreatDoor.E
set_option autoImplicit false
set_option maxRecDepth 100000
set_option maxHeartbeats 4000000
set_option pp.maxSteps 20000
namespace Go.Proofs.YtfpioigggjnffaaGreatDoor.E
open Go.Ev
theorem Rm.labels {b:Nat} {w:WkS} (h:Rm b w.s) (t l:List Int):Rm b (labelsS w t l).s:=by
 induction l generalizing w with
 |nil=>exact h
 |cons a l ih=>exact ih ((h.label a).must _ _)
theorem labelsS_append (w:WkS) (t a b:List Int):labelsS w t (a++b)=labelsS (labelsS w t a) t b:=by
 induction a generalizing w with
 |nil=>rfl
 |cons x a ih=>simp only[List.cons_append,labelsS,ih]
theorem labelsS_step (w:WkS) (t l:List Int) {k:Nat} (hk:k<l.length):labelsS w t (l.take (k+1))=((labelsS w t (l.take k)).label (l.getD k 0)).2.must (((labelsS w t (l.take k)).label (l.getD k 0)).1==t) 5:=by
 have e1:l.take (k+1)=l.take k++[l.getD k 0]:=by
  rw[List.take_add_one,List.getElem?_eq_getElem hk]
  simp[hk]
 rw[e1,labelsS_append]
 rfl
theorem fin_byt {l:List Int} (h:finB l=true):Byt l:=by
 match l,h with
 |[],_=>intro x hx;simp at hx
 |[c],h=>
  intro x hx
  simp only[List.mem_singleton] at hx
  subst hx
  simp only[finB,valB,Bool.or_eq_true,beq_iff_eq] at h
  omega
theorem beq_dec (a b:List Int):(a==b)=decide (a=b):=by
 by_cases h:a=b
 ·subst h;simp
 ·have:(a==b)=false:=by simpa using h
  rw[this];simp[h]
theorem table_ev (fu n b:Nat) (e:TEnv) (w:WkS) (hb:b+100<fu) (hm:b+100<1000000) (h:Rm b w.s) (i:TInstr) (ha:numB i.a=true) (hl:i.labels.all numB=true) (hll:i.labels.length≤64) (hop:i.op=14):evF (G fu) (n+11) 101 [.ptr 0 0, .d i.d] [.cells (ck e w)]=some (.tup [],[.cells (ck e (branchS e w i))]):=by
 have P1:=cklabel_ev fu (n+2) e w i.a (h.ok (by omega) (by omega)) (rngL ha)
 have h1:Rm b (w.label i.a).2.s:=h.label _
 have hfin:=label_fin w i.a
 have hlen:(w.label i.a).1.length≤1:=fin_len hfin
 have t1:=byt_takeL (w.label i.a).1
 have hB:branchS e w i=(((labelsS (w.label i.a).2 (w.label i.a).1 i.labels).want [127]).want (w.label i.a).1).kill:=by
  unfold branchS
  rw[if_neg (show ¬i.op=15 by omega)]
  simp only
  rw[if_neg (show ¬i.op=12 by omega),if_neg (show ¬i.op=13 by omega)]
 rw[hB]
 generalize hw1:(w.label i.a).2=w1 at*
 generalize ht:(w.label i.a).1=t at*
 have h2:=h1.labels t i.labels
 have P2:=ckwant_ev fu (n+1) e (labelsS w1 t i.labels) [127] (h2.ok (by omega) (by omega)) (by simp)
 have h3:=h2.want [127]
 have P3:=ckwant_ev fu (n+1) e ((labelsS w1 t i.labels).want [127]) t (h3.ok (by omega) (by omega)) (by omega)
 have h4:=h3.want t
 have P4:=ckkill_ev fu (n+1) e (((labelsS w1 t i.labels).want [127]).want t) (h4.ok (by omega) (by omega))
 simp only[byt1] at P2
 rw[evF.eq_2,evX.eq_def,Gext,exts_no _ (f:=101) (by decide),GP,Tryz.func101];simp only[Tryz.f101,evB]
 simp only[go_sem,seval, -Nat.reduceSubDiff,↓reduceIte,reduceCtorEq,TInstr.d,List.length_map,P1]
 rw[loop_some i.labels.length (fun k=>⟨[(0,V.ptr 0 0),(4,V.row 704 0 0 t.length),(12,V.d (D.list (List.map (D.int IntKind.i64) i.labels))),(13,V.d (D.int IntKind.i64 i.labels.length)),(14,V.d (D.int IntKind.i64 k))],[(0, .cells (ck e (labelsS w1 t (i.labels.take k)))),(704, .row 1 (byt t) 0 (decide (0<k)) false)]⟩)
  (.exit 0,⟨[(0,V.ptr 0 0),(4,V.row 704 0 0 t.length)],[(0, .cells (ck e (labelsS w1 t i.labels))),(704, .row 1 (byt t) 0 (decide (0<i.labels.length)) false)]⟩) trivial (by omega) ?_]
 case hs=>
  intro k hk
  have hx:(i.labels.map (D.int .i64))[k]? =some (.int .i64 (i.labels.getD k 0)):=getD_map hk
  have hkI:(k:Int)<i.labels.length:=by omega
  have W:=wrap_i64 (show-9223372036854775808≤(k:Int)+1 by omega) (by omega)
  have hn:numB (i.labels.getD k 0)=true:=by
   refine List.all_eq_true.1 hl _ ?_
   rw[List.getD_eq_getElem?_getD,List.getElem?_eq_getElem hk]
   exact List.getElem_mem hk
  have hst:=labelsS_step w1 t i.labels hk
  have hR:Rm b (labelsS w1 t (i.labels.take k)).s:=h1.labels t _
  rw[hst]
  generalize labelsS w1 t (i.labels.take k)=v at*
  generalize i.labels.getD k 0=a at*
  have Q1:=cklabel_ev fu (n+2) e v a (hR.ok (by omega) (by omega)) (rngL hn)
  have hf2:=label_fin v a
  have t2:=byt_takeL (v.label a).1
  have Q2:=equal_ev fu (n+9) (v.label a).1 t (fin_byt hf2) (fin_byt hfin)
  have Q3:=must_ev fu (n+9) e (v.label a).2 ((v.label a).1==t) 5
  rw[beq_dec] at Q3 ⊢
  generalize(v.label a).2=v2 at*
  generalize(v.label a).1=t' at*
  have hk1:decide (0<k+1)=true:=by simp
  rw[hk1]
  cases k with
  |zero=>
   have hk0:(0:Int)<i.labels.length:=by omega
   have V1:=wrap_i64 (show-9223372036854775808≤(1:Int) by omega) (by omega)
   simp only[go_sem,seval, -Nat.reduceSubDiff,↓reduceIte,reduceCtorEq,hk0,idx,hx,V1,Q1,Q2,Q3,t1,t2,Nat.lt_irrefl]
  |succ k=>
   simp only[go_sem,seval, -Nat.reduceSubDiff,↓reduceIte,reduceCtorEq,hkI,idx,hx,W,Q1,Q2,Q3,t1,t2,Nat.succ_pos]
   rfl
 case he=>
  simp only[go_sem,seval, -Nat.reduceSubDiff,↓reduceIte,reduceCtorEq,Int.lt_irrefl,List.take_length]
 ·cases hz:decide (0<i.labels.length)<;>simp only[go_sem,seval, -Nat.reduceSubDiff,↓reduceIte,reduceCtorEq,P2,P3,P4,t1]
 ·rfl
theorem by_ev (fu n:Nat) (k:Int):evF (G fu) (n+1) 46 [.d (.int .i64 k)] []=some (.fn (.func (if k=2 then 99 else if k=3 then 100 else if k=4 then 101 else if k=5 then 102 else if k=6 then 103 else if k=7 then 104 else if k=8 then 105 else if k=9 then 106 else 107)) [] [],[]):=by
 rw[evF.eq_2,evX.eq_def,Gext,exts_no _ (f:=46) (by decide),GP,Tryz.func46];simp only[Tryz.f46,evB]
 by_cases h2:k=2
 ·subst h2;simp only[go_sem,seval, -Nat.reduceSubDiff,↓reduceIte,reduceCtorEq]
 by_cases h3:k=3
 ·subst h3;simp only[go_sem,seval, -Nat.reduceSubDiff,↓reduceIte,reduceCtorEq]
 by_cases h4:k=4
 ·subst h4;simp only[go_sem,seval, -Nat.reduceSubDiff,↓reduceIte,reduceCtorEq]
 by_cases h5:k=5
 ·subst h5;simp only[go_sem,seval, -Nat.reduceSubDiff,↓reduceIte,reduceCtorEq]
 by_cases h6:k=6
 ·subst h6;simp only[go_sem,seval, -Nat.reduceSubDiff,↓reduceIte,reduceCtorEq]
 by_cases h7:k=7
 ·subst h7;simp only[go_sem,seval, -Nat.reduceSubDiff,↓reduceIte,reduceCtorEq]
 by_cases h8:k=8
 ·subst h8;simp only[go_sem,seval, -Nat.reduceSubDiff,↓reduceIte,reduceCtorEq]
 by_cases h9:k=9
 ·subst h9;simp only[go_sem,seval, -Nat.reduceSubDiff,↓reduceIte,reduceCtorEq]
 simp only[go_sem,seval, -Nat.reduceSubDiff,↓reduceIte,reduceCtorEq,h2,h3,h4,h5,h6,h7,h8,h9]
end Go.Proofs.YtfpioigggjnffaaGreatDoor.E
