/- S5, S6, S7a, S7b. -/
import Derived.Test.YtfpioigggjnffaaGreatDoorQ15
set_option linter.unnecessarySimpa false
set_option linter.unusedSimpArgs false
set_option linter.unusedVariables false
set_option autoImplicit false
set_option maxRecDepth 100000
set_option maxHeartbeats 4000000
set_option pp.maxSteps 20000
namespace Go.Proofs.YtfpioigggjnffaaGreatDoor.E
open Go.Ev
def Mk.oL (m:Mk) (x:Int):Option (List Jmp)→Option (List Int)→List Go.Ev.Obj
 |none,none=>[.cells [.row 1 0 0 m.S.length, .nilsl, .row 5 0 0 1, .nilsl, .row 2 0 0 m.l.length, .row 3 0 0 m.M.length, .row 4 0 0 m.P.length], .row 1 (intd m.S) 0 false false]++m.tl++[.row 1 (intd [x]) 0 false false]
 |some j,none=>[.cells [.row 1 0 0 m.S.length, .row 2 0 0 j.length, .row 6 0 0 1, .nilsl, .row 3 0 0 m.l.length, .row 4 0 0 m.M.length, .row 5 0 0 m.P.length], .row 1 (intd m.S) 0 false false, .row 4 (jds j) 0 false false]++m.tl++[.row 1 (intd [x]) 0 false false]
 |none,some L=>[.cells [.row 1 0 0 m.S.length, .nilsl, .row 2 0 0 (L++[x]).length, .nilsl, .row 3 0 0 m.l.length, .row 4 0 0 m.M.length, .row 5 0 0 m.P.length], .row 1 (intd m.S) 0 false false, .row 1 (intd (L++[x])) 0 false true]++m.tl
 |some j,some L=>[.cells [.row 1 0 0 m.S.length, .row 2 0 0 j.length, .row 3 0 0 (L++[x]).length, .nilsl, .row 4 0 0 m.l.length, .row 5 0 0 m.M.length, .row 6 0 0 m.P.length], .row 1 (intd m.S) 0 false false, .row 4 (jds j) 0 false false, .row 1 (intd (L++[x])) 0 false true]++m.tl
theorem szi (v:Int):sizedAll 1 [D.int .i64 v]=true:=rfl
theorem step3_ev (fu n:Nat) (m:Mk) (hm:MkOk fu m) (J:Option (List Jmp)) (L:Option (List Int)) (k:Nat) (hk:k<m.l.length) (i:TInstr) (hop:i.op=3) (hL: ∀j,L=some j→j.length<1000000):
 evF (G fu) (n+8) 74 [.ptr 0 0, .d (.int .i64 k), .d i.d] (m.o J L)=some (.tup [],m.oL (at0 m.S k) J L):=by
 have hx:(intd m.S)[k]? =some (.int .i64 (at0 m.S k)):=getD_map (by rw[hm.S];omega)
 have hkI:(k:Int)<m.S.length:=by rw[hm.S];omega
 generalize at0 m.S k=x at*
 rw[evF.eq_2,evX.eq_def,Gext,exts_no _ (f:=74) (by decide),GP,Tryz.func74];simp only[Tryz.f74,evB]
 cases L with
 |none=>
  cases J
  all_goals
   simp only[go_sem,seval, -Nat.reduceSubDiff,↓reduceIte,reduceCtorEq,TInstr.d,hop,Mk.o,Mk.oL,Mk.tl,List.cons_append,List.nil_append,hkI,hx,szi]
   (rw[cond_free];rotate_left;·rfl)
   simp only[go_sem,seval, -Nat.reduceSubDiff,↓reduceIte,reduceCtorEq,Mk.o,Mk.oL,Mk.tl,List.cons_append,List.nil_append]
 |some L=>
  have hr:L.length+1≤1099511627776:=by have:=hL L rfl;omega
  have tk:(intd L).take L.length=intd L:=List.take_of_length_le (by simp)
  have ct:intd L++[D.int .i64 x]=intd (L++[x]):=by simp[intd]
  have cl:(L++[x]).length=L.length+1:=by simp
  cases J
  all_goals
   simp only[go_sem,seval, -Nat.reduceSubDiff,↓reduceIte,reduceCtorEq,TInstr.d,hop,Mk.o,Mk.oL,Mk.tl,List.cons_append,List.nil_append,hkI,hx,szi,hr,tk,ct,cl]
   (rw[cond_free];rotate_left;·rfl)
   simp only[go_sem,seval, -Nat.reduceSubDiff,↓reduceIte,reduceCtorEq,Mk.o,Mk.oL,Mk.tl,List.cons_append,List.nil_append]
theorem step0_ev (fu n:Nat) (m:Mk) (J:Option (List Jmp)) (L:Option (List Int)) (k:Nat) (i:TInstr) (h3: ¬i.op=3) (h4: ¬i.op=4) (h5: ¬i.op=5) (h12: ¬i.op=12) (h13: ¬i.op=13) (h14: ¬i.op=14):
 evF (G fu) (n+8) 74 [.ptr 0 0, .d (.int .i64 k), .d i.d] (m.o J L)=some (.tup [],m.o J L):=by
 rw[evF.eq_2,evX.eq_def,Gext,exts_no _ (f:=74) (by decide),GP,Tryz.func74];simp only[Tryz.f74,evB]
 cases J<;>cases L
 all_goals simp only[go_sem,seval, -Nat.reduceSubDiff,↓reduceIte,reduceCtorEq,TInstr.d,h3,h4,h5,h12,h13,h14,Mk.o,Mk.tl,List.cons_append,List.nil_append]
theorem step12_ev (fu n:Nat) (m:Mk) (hm:MkOk fu m) (J:Option (List Jmp)) (L:Option (List Int)) (k:Nat) (hk:k<m.l.length) (i:TInstr) (hop:i.op=12∨i.op=13) (lab:Nat) (ha:i.a=lab) (hl:lab<(m.P.getD k stk0).ctrls.length) (hj: ∀j,J=some j→j.length<1000000):
 evF (G fu) (n+8) 74 [.ptr 0 0, .d (.int .i64 k), .d i.d] (m.o J L)=some (.tup [],m.oJ [branchJ m.l m.S m.P k i.a] J L):=by
 have B:=branch_ev fu n m hm J L k lab hk hl hj
 rw[ha]
 generalize branchJ m.l m.S m.P k lab=b at*
 rw[evF.eq_2,evX.eq_def,Gext,exts_no _ (f:=74) (by decide),GP,Tryz.func74];simp only[Tryz.f74,evB]
 rcases hop with h|h
 all_goals
  cases J<;>cases L
  all_goals
   simp only[Mk.o,Mk.oJ,Mk.tl,List.cons_append,List.nil_append] at B
   simp only[go_sem,seval, -Nat.reduceSubDiff,↓reduceIte,reduceCtorEq,TInstr.d,h,ha,Mk.o,Mk.oJ,Mk.tl,List.cons_append,List.nil_append,B]
end Go.Proofs.YtfpioigggjnffaaGreatDoor.E
set_option autoImplicit false
set_option maxRecDepth 100000
set_option maxHeartbeats 4000000
set_option pp.maxSteps 20000
namespace Go.Proofs.YtfpioigggjnffaaGreatDoor.E
open Go.Ev
theorem step4_ev (fu n:Nat) (m:Mk) (hm:MkOk fu m) (J:Option (List Jmp)) (L:Option (List Int)) (k:Nat) (hk:k<m.l.length) (hop:(m.l.getD k in0).op=4) (hc:0<(m.P.getD (k+1) stk0).ctrls.length) (hj: ∀j,J=some j→j.length<1000000):
 evF (G fu) (n+8) 74 [.ptr 0 0, .d (.int .i64 k), .d (m.l.getD k in0).d] (m.o J L)=some (.tup [],m.oJ (stepJ m.l m.S m.P k) J L):=by
 obtain⟨hp,hpc⟩:=hm.at (k:=k+1) (by omega)
 obtain⟨e,o,he,h1,h2,h3⟩:=match_open hm.walk hk (show opensB (opAt m.l k)=true by show opensB (m.l.getD k in0).op=true;rw[hop];rfl)
 obtain⟨t,ht,htl⟩: ∃t:Nat,elseTo (o,(e:Int))=t∧t<m.l.length:=by
  unfold elseTo
  rcases h3 with rfl|⟨q,rfl,q1,q2⟩
  ·exact⟨e,by simp,h2⟩
  ·exact⟨q,by simp only;rw[if_neg (by omega)],by omega⟩
 have hmx:(m.M.map nestD)[k]? =some (.agg [.int .i64 o, .int .i64 e]):=by
  have:(m.M.map nestD)[k]? =some (nestD (m.M.getD k n0)):=getD_map (by rw[hm.M,matchesF_len _ hm.walk];exact hk)
  rw[this,hm.M,he]
  rfl
 have hml:m.M.length=m.l.length:=by rw[hm.M,matchesF_len _ hm.walk]
 have I:=inner_ev fu (n+6) (m.P.getD (k+1) stk0) 0 hc hpc
 rw[show((0:Nat):Int)=0 from rfl] at I
 have JE:=jump_ev fu (n+6) m J L k (t+1) (innerC (m.P.getD (k+1) stk0) 0).ht 0 (by rw[hm.S];omega) (by rw[hm.S];omega) hj
 have hS:stepJ m.l m.S m.P k=[⟨at0 m.S k,at0 m.S (t+1),(innerC (m.P.getD (k+1) stk0) 0).ht,0⟩]:=by
  unfold stepJ
  simp only
  rw[if_pos hop,he,ht]
  simp only[Int.toNat_natCast]
 rw[hS]
 have hsh:=hm.short.2
 have hkI:(k:Int)<m.M.length:=by rw[hml];omega
 have hkP:(k:Int)+1<m.P.length:=by rw[hm.P];omega
 have hk1:((k+1:Nat):Int)=(k:Int)+1:=by omega
 have W1:=wrap_i64 (show-9223372036854775808≤(k:Int)+1 by omega) (by omega)
 have W2:=wrap_i64 (show-9223372036854775808≤(t:Int)+1 by omega) (by omega)
 have e1:((t+1:Nat):Int)=(t:Int)+1:=by omega
 rw[e1] at JE
 unfold innerC at*
 generalize(m.P.getD (k+1) stk0).ctrls.getD ((m.P.getD (k+1) stk0).ctrls.length-1-0) ctl0=c at*
 generalize m.P.getD (k+1) stk0=s at*
 generalize m.l.getD k in0=i at*
 have hk0: ¬(k:Int)+1<0:=by omega
 have hge:(0:Int)≤(k:Int)+1:=by omega
 have hkn:0+((k:Int)+1).toNat=k+1:=by omega
 have hkn2:((k:Int)+1).toNat=k+1:=by omega
 simp only[Stk.dd,Ctl.dd] at hp I
 unfold elseTo at ht
 simp only at ht
 rw[evF.eq_2,evX.eq_def,Gext,exts_no _ (f:=74) (by decide),GP,Tryz.func74];simp only[Tryz.f74,evB]
 by_cases ho:o<0
 ·rw[if_pos ho] at ht
  cases J<;>cases L
  all_goals
   simp only[Mk.o,Mk.oJ,Mk.tl,List.cons_append,List.nil_append] at JE
   simp only[go_sem,seval, -Nat.reduceSubDiff,↓reduceIte,reduceCtorEq,TInstr.d,hop,Mk.o,Mk.oJ,Mk.tl,List.cons_append,List.nil_append,hkI,hmx,ho,ht,W1,W2,hkP,hge,hkn,hkn2,hp,I,JE]
 ·rw[if_neg ho] at ht
  have htn: ¬(t:Int)<0:=by omega
  cases J<;>cases L
  all_goals
   simp only[Mk.o,Mk.oJ,Mk.tl,List.cons_append,List.nil_append] at JE
   simp only[go_sem,seval, -Nat.reduceSubDiff,↓reduceIte,reduceCtorEq,TInstr.d,hop,Mk.o,Mk.oJ,Mk.tl,List.cons_append,List.nil_append,hkI,hmx,htn,ht,W1,W2,hkP,hge,hkn,hkn2,hp,I,JE]
theorem step5_ev (fu n:Nat) (m:Mk) (hm:MkOk fu m) (J:Option (List Jmp)) (L:Option (List Int)) (k:Nat) (hk:k<m.l.length) (hop:(m.l.getD k in0).op=5) (hc:0<(m.P.getD k stk0).ctrls.length) (hcw: ∀c∈(m.P.getD k stk0).ctrls, -9223372036854000000≤c.ht∧c.ht≤9223372036854000000∧c.fin.length≤1) (hj: ∀j,J=some j→j.length<1000000):
 evF (G fu) (n+8) 74 [.ptr 0 0, .d (.int .i64 k), .d (m.l.getD k in0).d] (m.o J L)=some (.tup [],m.oJ (stepJ m.l m.S m.P k) J L):=by
 obtain⟨hp,hpc⟩:=hm.at (k:=k) (by omega)
 obtain⟨e,he,h2,h1⟩:=match_els hm.walk hk hop
 have hmx:(m.M.map nestD)[k]? =some (.agg [.int .i64 (-1), .int .i64 e]):=by
  have:(m.M.map nestD)[k]? =some (nestD (m.M.getD k n0)):=getD_map (by rw[hm.M,matchesF_len _ hm.walk];exact hk)
  rw[this,hm.M,he]
  rfl
 have hml:m.M.length=m.l.length:=by rw[hm.M,matchesF_len _ hm.walk]
 have I:=inner_ev fu (n+6) (m.P.getD k stk0) 0 hc hpc
 rw[show((0:Nat):Int)=0 from rfl] at I
 have JE:=jump_ev fu (n+6) m J L k (e+1) ((innerC (m.P.getD k stk0) 0).ht+(innerC (m.P.getD k stk0) 0).fin.length) 0 (by rw[hm.S];omega) (by rw[hm.S];omega) hj
 have hS:stepJ m.l m.S m.P k=[⟨at0 m.S k,at0 m.S (e+1),(innerC (m.P.getD k stk0) 0).ht+(innerC (m.P.getD k stk0) 0).fin.length,0⟩]:=by
  unfold stepJ
  simp only
  rw[if_neg (by rw[hop];decide),if_pos hop,he]
  simp only[Int.toNat_natCast]
 rw[hS]
 have hsh:=hm.short.2
 have hkI:(k:Int)<m.M.length:=by rw[hml];omega
 have hkP:(k:Int)<m.P.length:=by rw[hm.P];omega
 have W2:=wrap_i64 (show-9223372036854775808≤(e:Int)+1 by omega) (by omega)
 have e1:((e+1:Nat):Int)=(e:Int)+1:=by omega
 rw[e1] at JE
 have gm: ∀(q:List Ctl),0<q.length→q.getD (q.length-1-0) ctl0∈q:=fun q hq=>by
  have hlt:q.length-1-0<q.length:=by omega
  rw[List.getD_eq_getElem?_getD,List.getElem?_eq_getElem hlt]
  exact List.getElem_mem hlt
 have hcm:=gm _ hc
 obtain⟨w1,w2,w3⟩:=hcw _ hcm
 unfold innerC at*
 generalize(m.P.getD k stk0).ctrls.getD ((m.P.getD k stk0).ctrls.length-1-0) ctl0=c at*
 generalize m.P.getD k stk0=s at*
 generalize m.l.getD k in0=i at*
 have W3:=wrap_i64 (show-9223372036854775808≤c.ht+(c.fin.length:Int) by omega) (by omega)
 simp only[Stk.dd,Ctl.dd] at hp I
 rw[evF.eq_2,evX.eq_def,Gext,exts_no _ (f:=74) (by decide),GP,Tryz.func74];simp only[Tryz.f74,evB]
 cases J<;>cases L
 all_goals
  simp only[Mk.o,Mk.oJ,Mk.tl,List.cons_append,List.nil_append] at JE
  simp only[go_sem,seval, -Nat.reduceSubDiff,↓reduceIte,reduceCtorEq,TInstr.d,hop,Mk.o,Mk.oJ,Mk.tl,List.cons_append,List.nil_append,hkI,hmx,W2,hkP,hp,I,byt_len,W3,JE]
  (rw[cond_free];rotate_left;·rfl)
  simp only[go_sem,seval, -Nat.reduceSubDiff,↓reduceIte,reduceCtorEq]
end Go.Proofs.YtfpioigggjnffaaGreatDoor.E
set_option autoImplicit false
set_option maxRecDepth 100000
set_option maxHeartbeats 4000000
set_option pp.maxSteps 20000
namespace Go.Proofs.YtfpioigggjnffaaGreatDoor.E
open Go.Ev
theorem step14a (fu n:Nat) (m:Mk) (k:Nat) (i:TInstr) (hop:i.op=14) (B:Int→Jmp) (nn:Int) (hla: ∀x∈i.labels,0≤x∧x<nn) (ha:0≤i.a∧i.a<nn) (hll:i.labels.length<fu) (hl2:i.labels.length<900000)
 (BB: ∀(J':Option (List Jmp)),(∀j,J'=some j→j.length<1000000)→∀lab:Int,0≤lab→lab<nn→evF (G fu) (n+7) 137 [.ptr 0 0, .d (.int .i64 k), .d (.int .i64 lab)] (m.o J' (none))=some (.tup [],m.oJ [B lab] J' (none))):
 evF (G fu) (n+8) 74 [.ptr 0 0, .d (.int .i64 k), .d i.d] (m.o (none) (none))=some (.tup [],m.oJ (i.labels.map B++[B i.a]) (none) (none)):=by
 obtain⟨a1,a2⟩:=ha
 rw[evF.eq_2,evX.eq_def,Gext,exts_no _ (f:=74) (by decide),GP,Tryz.func74];simp only[Tryz.f74,evB]
 simp(maxSteps:=10000000) only[go_sem,seval, -Nat.reduceSubDiff,↓reduceIte,reduceCtorEq,TInstr.d,hop,Mk.o,Mk.tl,List.cons_append,List.nil_append,List.length_map]
 generalize hr:loopN _ _ _ _ _=r
 obtain⟨x,s1,rfl,hx,hF⟩: ∃x s1,r=some (x,s1)∧leaves x∧(x= .exit 1∧∃H,s1=⟨[(0, .ptr 0 0),(1, .d (.int .i64 k)),(5, .ptr 384 0)],H⟩∧((i.labels=[]∧H=[(0, .cells [.row 1 0 0 m.S.length, .nilsl, .nilsl, .nilsl, .row 2 0 0 m.l.length, .row 3 0 0 m.M.length, .row 4 0 0 m.P.length]),(1, .row 1 (intd m.S) 0 false false),(2, .row 5 (m.l.map TInstr.d) 0 true false),(3, .row 2 (m.M.map nestD) 0 false false),(4, .row 2 (stkds m.P) 0 false false),(384, .cells [.d (.int .i64 14), .d (.int .i64 i.a), .d (.int .i64 i.b), .d (.int .u64 i.k), .d (.list (i.labels.map (D.int .i64)))])])∨(∃c:Bool,H=[(0, .cells [.row 1 0 0 m.S.length, .row 7488 0 0 (i.labels.map B).length, .nilsl, .nilsl, .row 2 0 0 m.l.length, .row 3 0 0 m.M.length, .row 4 0 0 m.P.length]),(1, .row 1 (intd m.S) 0 false false),(2, .row 5 (m.l.map TInstr.d) 0 true false),(3, .row 2 (m.M.map nestD) 0 false false),(4, .row 2 (stkds m.P) 0 false false),(384, .cells [.d (.int .i64 14), .d (.int .i64 i.a), .d (.int .i64 i.b), .d (.int .u64 i.k), .d (.list (i.labels.map (D.int .i64)))]),(7488, .row 4 (jds (i.labels.map B)) 0 false c)]))):=by
  rw[←hr]
  refine loop_inv (J:=fun x s1=>x= .exit 1∧∃H,s1=⟨[(0, .ptr 0 0),(1, .d (.int .i64 k)),(5, .ptr 384 0)],H⟩∧((i.labels=[]∧H=[(0, .cells [.row 1 0 0 m.S.length, .nilsl, .nilsl, .nilsl, .row 2 0 0 m.l.length, .row 3 0 0 m.M.length, .row 4 0 0 m.P.length]),(1, .row 1 (intd m.S) 0 false false),(2, .row 5 (m.l.map TInstr.d) 0 true false),(3, .row 2 (m.M.map nestD) 0 false false),(4, .row 2 (stkds m.P) 0 false false),(384, .cells [.d (.int .i64 14), .d (.int .i64 i.a), .d (.int .i64 i.b), .d (.int .u64 i.k), .d (.list (i.labels.map (D.int .i64)))])])∨(∃c:Bool,H=[(0, .cells [.row 1 0 0 m.S.length, .row 7488 0 0 (i.labels.map B).length, .nilsl, .nilsl, .row 2 0 0 m.l.length, .row 3 0 0 m.M.length, .row 4 0 0 m.P.length]),(1, .row 1 (intd m.S) 0 false false),(2, .row 5 (m.l.map TInstr.d) 0 true false),(3, .row 2 (m.M.map nestD) 0 false false),(4, .row 2 (stkds m.P) 0 false false),(384, .cells [.d (.int .i64 14), .d (.int .i64 i.a), .d (.int .i64 i.b), .d (.int .u64 i.k), .d (.list (i.labels.map (D.int .i64)))]),(7488, .row 4 (jds (i.labels.map B)) 0 false c)]))) i.labels.length (fun j z=> ∃H,z=⟨[(0, .ptr 0 0),(1, .d (.int .i64 k)),(5, .ptr 384 0),(107, .d (.list (i.labels.map (D.int .i64)))),(108, .d (.int .i64 i.labels.length)),(109, .d (.int .i64 j))],H⟩∧((j=0∧H=[(0, .cells [.row 1 0 0 m.S.length, .nilsl, .nilsl, .nilsl, .row 2 0 0 m.l.length, .row 3 0 0 m.M.length, .row 4 0 0 m.P.length]),(1, .row 1 (intd m.S) 0 false false),(2, .row 5 (m.l.map TInstr.d) 0 true false),(3, .row 2 (m.M.map nestD) 0 false false),(4, .row 2 (stkds m.P) 0 false false),(384, .cells [.d (.int .i64 14), .d (.int .i64 i.a), .d (.int .i64 i.b), .d (.int .u64 i.k), .d (.list (i.labels.map (D.int .i64)))])])∨(∃c:Bool,0<j∧H=[(0, .cells [.row 1 0 0 m.S.length, .row 7488 0 0 ((i.labels.take j).map B).length, .nilsl, .nilsl, .row 2 0 0 m.l.length, .row 3 0 0 m.M.length, .row 4 0 0 m.P.length]),(1, .row 1 (intd m.S) 0 false false),(2, .row 5 (m.l.map TInstr.d) 0 true false),(3, .row 2 (m.M.map nestD) 0 false false),(4, .row 2 (stkds m.P) 0 false false),(384, .cells [.d (.int .i64 14), .d (.int .i64 i.a), .d (.int .i64 i.b), .d (.int .u64 i.k), .d (.list (i.labels.map (D.int .i64)))]),(7488, .row 4 (jds ((i.labels.take j).map B)) 0 false c)]))) ?_ ?_ fu _ hll ⟨_,rfl, .inl ⟨rfl,rfl⟩⟩
  ·rintro j z hjl ⟨H,rfl,hH⟩
   have hx:(i.labels.map (D.int .i64))[j]? =some (.int .i64 (i.labels.getD j 0)):=getD_map hjl
   have hv:i.labels.getD j 0∈i.labels:=by
    rw[List.getD_eq_getElem?_getD,List.getElem?_eq_getElem hjl];exact List.getElem_mem hjl
   have hP:(i.labels.take (j+1)).map B=(i.labels.take j).map B++[B (i.labels.getD j 0)]:=by
    rw[List.take_add_one,List.map_append,List.getD_eq_getElem?_getD,List.getElem?_eq_getElem hjl];rfl
   have hPl:((i.labels.take j).map B).length≤i.labels.length:=by rw[List.length_map,List.length_take];omega
   have hjI:(j:Int)<i.labels.length:=by omega
   have Wj:=wrap_i64 (show-9223372036854775808≤(j:Int)+1 by omega) (by omega)
   obtain⟨v1,v2⟩:=hla _ hv
   rcases hH with⟨rfl,rfl⟩|⟨c,hj0,rfl⟩
   ·have X:=BB none (fun j h=>by cases h) _ v1 v2
    rw[hP]
    have hj0I:(0:Int)<i.labels.length:=by omega
    generalize i.labels.getD 0 0=y at*
    simp only[Mk.o,Mk.oJ,Mk.tl,List.cons_append,List.nil_append] at X
    simp(maxSteps:=10000000) only[go_sem,seval, -Nat.reduceSubDiff,↓reduceIte,reduceCtorEq,idx,hx,X,hj0I,Wj,List.take_zero,List.map_nil,List.nil_append]
    exact⟨_,_,rfl,_,rfl,false,rfl⟩
   ·have X:=BB (some ((i.labels.take j).map B)) (fun j h=>by cases h;omega) _ v1 v2
    rw[hP]
    generalize(i.labels.take j).map B=Q at*
    generalize i.labels.getD j 0=y at*
    simp only[Mk.o,Mk.oJ,Mk.tl,List.cons_append,List.nil_append] at X
    simp(maxSteps:=10000000) only[go_sem,seval, -Nat.reduceSubDiff,↓reduceIte,reduceCtorEq,idx,hx,X,hjI,Wj]
    exact⟨_,_,rfl,_,rfl,true,by omega,rfl⟩
  ·rintro z ⟨H,rfl,hH⟩
   rcases hH with⟨h0,rfl⟩|⟨c,hj0,rfl⟩
   ·have hn:i.labels=[]:=List.length_eq_zero_iff.1 h0
    simp(maxSteps:=10000000) only[go_sem,seval, -Nat.reduceSubDiff,↓reduceIte,reduceCtorEq,hn,List.length_nil,Int.lt_irrefl]
    exact⟨_,_,rfl,trivial,rfl,_,rfl, .inl rfl⟩
   ·simp(maxSteps:=10000000) only[go_sem,seval, -Nat.reduceSubDiff,↓reduceIte,reduceCtorEq,Int.lt_irrefl,List.take_length]
    exact⟨_,_,rfl,trivial,rfl,_,rfl, .inr ⟨c,rfl⟩⟩
 obtain⟨rfl,H,rfl,hH⟩:=hF
 rcases hH with⟨hn,rfl⟩|⟨c,rfl⟩
 ·have X:=BB none (fun j h=>by cases h) _ a1 a2
  rw[hn]
  simp only[Mk.o,Mk.oJ,Mk.tl,List.cons_append,List.nil_append] at X
  simp(maxSteps:=10000000) only[go_sem,seval, -Nat.reduceSubDiff,↓reduceIte,reduceCtorEq,X,hn,List.map_nil,Mk.oJ,Mk.tl,List.cons_append,List.nil_append]
 ·have X:=BB (some (i.labels.map B)) (fun j h=>by cases h;rw[List.length_map];omega) _ a1 a2
  generalize i.labels.map B=Q at*
  simp only[Mk.o,Mk.oJ,Mk.tl,List.cons_append,List.nil_append] at X
  simp(maxSteps:=10000000) only[go_sem,seval, -Nat.reduceSubDiff,↓reduceIte,reduceCtorEq,X,Mk.oJ,Mk.tl,List.cons_append,List.nil_append]
end Go.Proofs.YtfpioigggjnffaaGreatDoor.E
set_option autoImplicit false
set_option maxRecDepth 100000
set_option maxHeartbeats 4000000
set_option pp.maxSteps 20000
namespace Go.Proofs.YtfpioigggjnffaaGreatDoor.E
open Go.Ev
theorem step14b (fu n:Nat) (m:Mk) (L:List Int) (k:Nat) (i:TInstr) (hop:i.op=14) (B:Int→Jmp) (nn:Int) (hla: ∀x∈i.labels,0≤x∧x<nn) (ha:0≤i.a∧i.a<nn) (hll:i.labels.length<fu) (hl2:i.labels.length<900000)
 (BB: ∀(J':Option (List Jmp)),(∀j,J'=some j→j.length<1000000)→∀lab:Int,0≤lab→lab<nn→evF (G fu) (n+7) 137 [.ptr 0 0, .d (.int .i64 k), .d (.int .i64 lab)] (m.o J' (some L))=some (.tup [],m.oJ [B lab] J' (some L))):
 evF (G fu) (n+8) 74 [.ptr 0 0, .d (.int .i64 k), .d i.d] (m.o (none) (some L))=some (.tup [],m.oJ (i.labels.map B++[B i.a]) (none) (some L)):=by
 obtain⟨a1,a2⟩:=ha
 rw[evF.eq_2,evX.eq_def,Gext,exts_no _ (f:=74) (by decide),GP,Tryz.func74];simp only[Tryz.f74,evB]
 simp(maxSteps:=10000000) only[go_sem,seval, -Nat.reduceSubDiff,↓reduceIte,reduceCtorEq,TInstr.d,hop,Mk.o,Mk.tl,List.cons_append,List.nil_append,List.length_map]
 generalize hr:loopN _ _ _ _ _=r
 obtain⟨x,s1,rfl,hx,hF⟩: ∃x s1,r=some (x,s1)∧leaves x∧(x= .exit 1∧∃H,s1=⟨[(0, .ptr 0 0),(1, .d (.int .i64 k)),(5, .ptr 384 0)],H⟩∧((i.labels=[]∧H=[(0, .cells [.row 1 0 0 m.S.length, .nilsl, .row 2 0 0 L.length, .nilsl, .row 3 0 0 m.l.length, .row 4 0 0 m.M.length, .row 5 0 0 m.P.length]),(1, .row 1 (intd m.S) 0 false false),(2, .row 1 (intd L) 0 false false),(3, .row 5 (m.l.map TInstr.d) 0 true false),(4, .row 2 (m.M.map nestD) 0 false false),(5, .row 2 (stkds m.P) 0 false false),(384, .cells [.d (.int .i64 14), .d (.int .i64 i.a), .d (.int .i64 i.b), .d (.int .u64 i.k), .d (.list (i.labels.map (D.int .i64)))])])∨(∃c:Bool,H=[(0, .cells [.row 1 0 0 m.S.length, .row 7488 0 0 (i.labels.map B).length, .row 2 0 0 L.length, .nilsl, .row 3 0 0 m.l.length, .row 4 0 0 m.M.length, .row 5 0 0 m.P.length]),(1, .row 1 (intd m.S) 0 false false),(2, .row 1 (intd L) 0 false false),(3, .row 5 (m.l.map TInstr.d) 0 true false),(4, .row 2 (m.M.map nestD) 0 false false),(5, .row 2 (stkds m.P) 0 false false),(384, .cells [.d (.int .i64 14), .d (.int .i64 i.a), .d (.int .i64 i.b), .d (.int .u64 i.k), .d (.list (i.labels.map (D.int .i64)))]),(7488, .row 4 (jds (i.labels.map B)) 0 false c)]))):=by
  rw[←hr]
  refine loop_inv (J:=fun x s1=>x= .exit 1∧∃H,s1=⟨[(0, .ptr 0 0),(1, .d (.int .i64 k)),(5, .ptr 384 0)],H⟩∧((i.labels=[]∧H=[(0, .cells [.row 1 0 0 m.S.length, .nilsl, .row 2 0 0 L.length, .nilsl, .row 3 0 0 m.l.length, .row 4 0 0 m.M.length, .row 5 0 0 m.P.length]),(1, .row 1 (intd m.S) 0 false false),(2, .row 1 (intd L) 0 false false),(3, .row 5 (m.l.map TInstr.d) 0 true false),(4, .row 2 (m.M.map nestD) 0 false false),(5, .row 2 (stkds m.P) 0 false false),(384, .cells [.d (.int .i64 14), .d (.int .i64 i.a), .d (.int .i64 i.b), .d (.int .u64 i.k), .d (.list (i.labels.map (D.int .i64)))])])∨(∃c:Bool,H=[(0, .cells [.row 1 0 0 m.S.length, .row 7488 0 0 (i.labels.map B).length, .row 2 0 0 L.length, .nilsl, .row 3 0 0 m.l.length, .row 4 0 0 m.M.length, .row 5 0 0 m.P.length]),(1, .row 1 (intd m.S) 0 false false),(2, .row 1 (intd L) 0 false false),(3, .row 5 (m.l.map TInstr.d) 0 true false),(4, .row 2 (m.M.map nestD) 0 false false),(5, .row 2 (stkds m.P) 0 false false),(384, .cells [.d (.int .i64 14), .d (.int .i64 i.a), .d (.int .i64 i.b), .d (.int .u64 i.k), .d (.list (i.labels.map (D.int .i64)))]),(7488, .row 4 (jds (i.labels.map B)) 0 false c)]))) i.labels.length (fun j z=> ∃H,z=⟨[(0, .ptr 0 0),(1, .d (.int .i64 k)),(5, .ptr 384 0),(107, .d (.list (i.labels.map (D.int .i64)))),(108, .d (.int .i64 i.labels.length)),(109, .d (.int .i64 j))],H⟩∧((j=0∧H=[(0, .cells [.row 1 0 0 m.S.length, .nilsl, .row 2 0 0 L.length, .nilsl, .row 3 0 0 m.l.length, .row 4 0 0 m.M.length, .row 5 0 0 m.P.length]),(1, .row 1 (intd m.S) 0 false false),(2, .row 1 (intd L) 0 false false),(3, .row 5 (m.l.map TInstr.d) 0 true false),(4, .row 2 (m.M.map nestD) 0 false false),(5, .row 2 (stkds m.P) 0 false false),(384, .cells [.d (.int .i64 14), .d (.int .i64 i.a), .d (.int .i64 i.b), .d (.int .u64 i.k), .d (.list (i.labels.map (D.int .i64)))])])∨(∃c:Bool,0<j∧H=[(0, .cells [.row 1 0 0 m.S.length, .row 7488 0 0 ((i.labels.take j).map B).length, .row 2 0 0 L.length, .nilsl, .row 3 0 0 m.l.length, .row 4 0 0 m.M.length, .row 5 0 0 m.P.length]),(1, .row 1 (intd m.S) 0 false false),(2, .row 1 (intd L) 0 false false),(3, .row 5 (m.l.map TInstr.d) 0 true false),(4, .row 2 (m.M.map nestD) 0 false false),(5, .row 2 (stkds m.P) 0 false false),(384, .cells [.d (.int .i64 14), .d (.int .i64 i.a), .d (.int .i64 i.b), .d (.int .u64 i.k), .d (.list (i.labels.map (D.int .i64)))]),(7488, .row 4 (jds ((i.labels.take j).map B)) 0 false c)]))) ?_ ?_ fu _ hll ⟨_,rfl, .inl ⟨rfl,rfl⟩⟩
  ·rintro j z hjl ⟨H,rfl,hH⟩
   have hx:(i.labels.map (D.int .i64))[j]? =some (.int .i64 (i.labels.getD j 0)):=getD_map hjl
   have hv:i.labels.getD j 0∈i.labels:=by
    rw[List.getD_eq_getElem?_getD,List.getElem?_eq_getElem hjl];exact List.getElem_mem hjl
   have hP:(i.labels.take (j+1)).map B=(i.labels.take j).map B++[B (i.labels.getD j 0)]:=by
    rw[List.take_add_one,List.map_append,List.getD_eq_getElem?_getD,List.getElem?_eq_getElem hjl];rfl
   have hPl:((i.labels.take j).map B).length≤i.labels.length:=by rw[List.length_map,List.length_take];omega
   have hjI:(j:Int)<i.labels.length:=by omega
   have Wj:=wrap_i64 (show-9223372036854775808≤(j:Int)+1 by omega) (by omega)
   obtain⟨v1,v2⟩:=hla _ hv
   rcases hH with⟨rfl,rfl⟩|⟨c,hj0,rfl⟩
   ·have X:=BB none (fun j h=>by cases h) _ v1 v2
    rw[hP]
    have hj0I:(0:Int)<i.labels.length:=by omega
    generalize i.labels.getD 0 0=y at*
    simp only[Mk.o,Mk.oJ,Mk.tl,List.cons_append,List.nil_append] at X
    simp(maxSteps:=10000000) only[go_sem,seval, -Nat.reduceSubDiff,↓reduceIte,reduceCtorEq,idx,hx,X,hj0I,Wj,List.take_zero,List.map_nil,List.nil_append]
    exact⟨_,_,rfl,_,rfl,false,rfl⟩
   ·have X:=BB (some ((i.labels.take j).map B)) (fun j h=>by cases h;omega) _ v1 v2
    rw[hP]
    generalize(i.labels.take j).map B=Q at*
    generalize i.labels.getD j 0=y at*
    simp only[Mk.o,Mk.oJ,Mk.tl,List.cons_append,List.nil_append] at X
    simp(maxSteps:=10000000) only[go_sem,seval, -Nat.reduceSubDiff,↓reduceIte,reduceCtorEq,idx,hx,X,hjI,Wj]
    exact⟨_,_,rfl,_,rfl,true,by omega,rfl⟩
  ·rintro z ⟨H,rfl,hH⟩
   rcases hH with⟨h0,rfl⟩|⟨c,hj0,rfl⟩
   ·have hn:i.labels=[]:=List.length_eq_zero_iff.1 h0
    simp(maxSteps:=10000000) only[go_sem,seval, -Nat.reduceSubDiff,↓reduceIte,reduceCtorEq,hn,List.length_nil,Int.lt_irrefl]
    exact⟨_,_,rfl,trivial,rfl,_,rfl, .inl rfl⟩
   ·simp(maxSteps:=10000000) only[go_sem,seval, -Nat.reduceSubDiff,↓reduceIte,reduceCtorEq,Int.lt_irrefl,List.take_length]
    exact⟨_,_,rfl,trivial,rfl,_,rfl, .inr ⟨c,rfl⟩⟩
 obtain⟨rfl,H,rfl,hH⟩:=hF
 rcases hH with⟨hn,rfl⟩|⟨c,rfl⟩
 ·have X:=BB none (fun j h=>by cases h) _ a1 a2
  rw[hn]
  simp only[Mk.o,Mk.oJ,Mk.tl,List.cons_append,List.nil_append] at X
  simp(maxSteps:=10000000) only[go_sem,seval, -Nat.reduceSubDiff,↓reduceIte,reduceCtorEq,X,hn,List.map_nil,Mk.oJ,Mk.tl,List.cons_append,List.nil_append]
 ·have X:=BB (some (i.labels.map B)) (fun j h=>by cases h;rw[List.length_map];omega) _ a1 a2
  generalize i.labels.map B=Q at*
  simp only[Mk.o,Mk.oJ,Mk.tl,List.cons_append,List.nil_append] at X
  simp(maxSteps:=10000000) only[go_sem,seval, -Nat.reduceSubDiff,↓reduceIte,reduceCtorEq,X,Mk.oJ,Mk.tl,List.cons_append,List.nil_append]
end Go.Proofs.YtfpioigggjnffaaGreatDoor.E
