/- S7c, S7d, S7, S4B, S9, K1. -/
import Derived.Test.YtfpioigggjnffaaGreatDoorS5
import Derived.Test.YtfpioigggjnffaaGreatDoorQ15
import Derived.Test.YtfpioigggjnffaaGreatDoorEvD
import Derived.KernelRfl
set_option linter.unnecessarySimpa false
set_option linter.unusedSimpArgs false
set_option linter.unusedVariables false
set_option autoImplicit false
set_option maxRecDepth 100000
set_option maxHeartbeats 4000000
set_option pp.maxSteps 20000
namespace Go.Proofs.YtfpioigggjnffaaGreatDoor.E
open Go.Ev
theorem step14c (fu n:Nat) (m:Mk) (J:List Jmp) (k:Nat) (i:TInstr) (hop:i.op=14) (B:Int→Jmp) (nn:Int) (hla: ∀x∈i.labels,0≤x∧x<nn) (ha:0≤i.a∧i.a<nn) (hll:i.labels.length<fu) (hj:J.length+i.labels.length<1000000) (hl2:i.labels.length<900000)
 (BB: ∀(J':Option (List Jmp)),(∀j,J'=some j→j.length<1000000)→∀lab:Int,0≤lab→lab<nn→evF (G fu) (n+7) 137 [.ptr 0 0, .d (.int .i64 k), .d (.int .i64 lab)] (m.o J' (none))=some (.tup [],m.oJ [B lab] J' (none))):
 evF (G fu) (n+8) 74 [.ptr 0 0, .d (.int .i64 k), .d i.d] (m.o (some J) (none))=some (.tup [],m.oJ (i.labels.map B++[B i.a]) (some J) (none)):=by
 obtain⟨a1,a2⟩:=ha
 rw[evF.eq_2,evX.eq_def,Gext,exts_no _ (f:=74) (by decide),GP,Tryz.func74];simp only[Tryz.f74,evB]
 simp(maxSteps:=10000000) only[go_sem,seval, -Nat.reduceSubDiff,↓reduceIte,reduceCtorEq,TInstr.d,hop,Mk.o,Mk.tl,List.cons_append,List.nil_append,List.length_map]
 generalize hr:loopN _ _ _ _ _=r
 obtain⟨x,s1,rfl,hx,hF⟩: ∃x s1,r=some (x,s1)∧leaves x∧(x= .exit 1∧∃c:Bool,s1=⟨[(0, .ptr 0 0),(1, .d (.int .i64 k)),(5, .ptr 384 0)],[(0, .cells [.row 1 0 0 m.S.length, .row 2 0 0 (J++i.labels.map B).length, .nilsl, .nilsl, .row 3 0 0 m.l.length, .row 4 0 0 m.M.length, .row 5 0 0 m.P.length]),(1, .row 1 (intd m.S) 0 false false),(2, .row 4 (jds (J++i.labels.map B)) 0 false c),(3, .row 5 (m.l.map TInstr.d) 0 true false),(4, .row 2 (m.M.map nestD) 0 false false),(5, .row 2 (stkds m.P) 0 false false),(384, .cells [.d (.int .i64 14), .d (.int .i64 i.a), .d (.int .i64 i.b), .d (.int .u64 i.k), .d (.list (i.labels.map (D.int .i64)))])]⟩):=by
  rw[←hr]
  refine loop_inv (J:=fun x s1=>x= .exit 1∧∃c:Bool,s1=⟨[(0, .ptr 0 0),(1, .d (.int .i64 k)),(5, .ptr 384 0)],[(0, .cells [.row 1 0 0 m.S.length, .row 2 0 0 (J++i.labels.map B).length, .nilsl, .nilsl, .row 3 0 0 m.l.length, .row 4 0 0 m.M.length, .row 5 0 0 m.P.length]),(1, .row 1 (intd m.S) 0 false false),(2, .row 4 (jds (J++i.labels.map B)) 0 false c),(3, .row 5 (m.l.map TInstr.d) 0 true false),(4, .row 2 (m.M.map nestD) 0 false false),(5, .row 2 (stkds m.P) 0 false false),(384, .cells [.d (.int .i64 14), .d (.int .i64 i.a), .d (.int .i64 i.b), .d (.int .u64 i.k), .d (.list (i.labels.map (D.int .i64)))])]⟩) i.labels.length (fun j z=> ∃c:Bool,z=⟨[(0, .ptr 0 0),(1, .d (.int .i64 k)),(5, .ptr 384 0),(107, .d (.list (i.labels.map (D.int .i64)))),(108, .d (.int .i64 i.labels.length)),(109, .d (.int .i64 j))],[(0, .cells [.row 1 0 0 m.S.length, .row 2 0 0 (J++(i.labels.take j).map B).length, .nilsl, .nilsl, .row 3 0 0 m.l.length, .row 4 0 0 m.M.length, .row 5 0 0 m.P.length]),(1, .row 1 (intd m.S) 0 false false),(2, .row 4 (jds (J++(i.labels.take j).map B)) 0 false c),(3, .row 5 (m.l.map TInstr.d) 0 true false),(4, .row 2 (m.M.map nestD) 0 false false),(5, .row 2 (stkds m.P) 0 false false),(384, .cells [.d (.int .i64 14), .d (.int .i64 i.a), .d (.int .i64 i.b), .d (.int .u64 i.k), .d (.list (i.labels.map (D.int .i64)))])]⟩) ?_ ?_ fu _ hll ⟨false,by simp only[List.take_zero,List.map_nil,List.append_nil];rfl⟩
  ·rintro j z hjl ⟨c,rfl⟩
   have hx:(i.labels.map (D.int .i64))[j]? =some (.int .i64 (i.labels.getD j 0)):=getD_map hjl
   have hv:i.labels.getD j 0∈i.labels:=by
    rw[List.getD_eq_getElem?_getD,List.getElem?_eq_getElem hjl];exact List.getElem_mem hjl
   have hP:(i.labels.take (j+1)).map B=(i.labels.take j).map B++[B (i.labels.getD j 0)]:=by
    rw[List.take_add_one,List.map_append,List.getD_eq_getElem?_getD,List.getElem?_eq_getElem hjl];rfl
   have hPl:((i.labels.take j).map B).length≤i.labels.length:=by rw[List.length_map,List.length_take];omega
   have hjI:(j:Int)<i.labels.length:=by omega
   have Wj:=wrap_i64 (show-9223372036854775808≤(j:Int)+1 by omega) (by omega)
   obtain⟨v1,v2⟩:=hla _ hv
   have X:=BB (some (J++(i.labels.take j).map B)) (fun j h=>by cases h;rw[List.length_append];omega) _ v1 v2
   rw[hP,←List.append_assoc]
   generalize J++(i.labels.take j).map B=Q at*
   generalize i.labels.getD j 0=y at*
   simp only[Mk.o,Mk.oJ,Mk.tl,List.cons_append,List.nil_append] at X
   simp(maxSteps:=10000000) only[go_sem,seval, -Nat.reduceSubDiff,↓reduceIte,reduceCtorEq,idx,hx,X,hjI,Wj]
   exact⟨_,_,rfl,true,rfl⟩
  ·rintro z ⟨c,rfl⟩
   simp(maxSteps:=10000000) only[go_sem,seval, -Nat.reduceSubDiff,↓reduceIte,reduceCtorEq,Int.lt_irrefl,List.take_length]
   exact⟨_,_,rfl,trivial,rfl,c,rfl⟩
 obtain⟨rfl,c,rfl⟩:=hF
 have X:=BB (some (J++i.labels.map B)) (fun j h=>by cases h;rw[List.length_append,List.length_map];omega) _ a1 a2
 have eQ:m.oJ (i.labels.map B++[B i.a]) (some J) (none)=m.oJ [B i.a] (some (J++i.labels.map B)) (none):=by simp only[Mk.oJ,List.append_assoc]
 rw[eQ]
 generalize J++i.labels.map B=Q at*
 simp only[Mk.o,Mk.oJ,Mk.tl,List.cons_append,List.nil_append] at X
 simp(maxSteps:=10000000) only[go_sem,seval, -Nat.reduceSubDiff,↓reduceIte,reduceCtorEq,X,Mk.oJ,Mk.tl,List.cons_append,List.nil_append]
end Go.Proofs.YtfpioigggjnffaaGreatDoor.E
set_option autoImplicit false
set_option maxRecDepth 100000
set_option maxHeartbeats 4000000
set_option pp.maxSteps 20000
namespace Go.Proofs.YtfpioigggjnffaaGreatDoor.E
open Go.Ev
theorem step14d (fu n:Nat) (m:Mk) (J:List Jmp) (L:List Int) (k:Nat) (i:TInstr) (hop:i.op=14) (B:Int→Jmp) (nn:Int) (hla: ∀x∈i.labels,0≤x∧x<nn) (ha:0≤i.a∧i.a<nn) (hll:i.labels.length<fu) (hj:J.length+i.labels.length<1000000) (hl2:i.labels.length<900000)
 (BB: ∀(J':Option (List Jmp)),(∀j,J'=some j→j.length<1000000)→∀lab:Int,0≤lab→lab<nn→evF (G fu) (n+7) 137 [.ptr 0 0, .d (.int .i64 k), .d (.int .i64 lab)] (m.o J' (some L))=some (.tup [],m.oJ [B lab] J' (some L))):
 evF (G fu) (n+8) 74 [.ptr 0 0, .d (.int .i64 k), .d i.d] (m.o (some J) (some L))=some (.tup [],m.oJ (i.labels.map B++[B i.a]) (some J) (some L)):=by
 obtain⟨a1,a2⟩:=ha
 rw[evF.eq_2,evX.eq_def,Gext,exts_no _ (f:=74) (by decide),GP,Tryz.func74];simp only[Tryz.f74,evB]
 simp(maxSteps:=10000000) only[go_sem,seval, -Nat.reduceSubDiff,↓reduceIte,reduceCtorEq,TInstr.d,hop,Mk.o,Mk.tl,List.cons_append,List.nil_append,List.length_map]
 generalize hr:loopN _ _ _ _ _=r
 obtain⟨x,s1,rfl,hx,hF⟩: ∃x s1,r=some (x,s1)∧leaves x∧(x= .exit 1∧∃c:Bool,s1=⟨[(0, .ptr 0 0),(1, .d (.int .i64 k)),(5, .ptr 384 0)],[(0, .cells [.row 1 0 0 m.S.length, .row 2 0 0 (J++i.labels.map B).length, .row 3 0 0 L.length, .nilsl, .row 4 0 0 m.l.length, .row 5 0 0 m.M.length, .row 6 0 0 m.P.length]),(1, .row 1 (intd m.S) 0 false false),(2, .row 4 (jds (J++i.labels.map B)) 0 false c),(3, .row 1 (intd L) 0 false false),(4, .row 5 (m.l.map TInstr.d) 0 true false),(5, .row 2 (m.M.map nestD) 0 false false),(6, .row 2 (stkds m.P) 0 false false),(384, .cells [.d (.int .i64 14), .d (.int .i64 i.a), .d (.int .i64 i.b), .d (.int .u64 i.k), .d (.list (i.labels.map (D.int .i64)))])]⟩):=by
  rw[←hr]
  refine loop_inv (J:=fun x s1=>x= .exit 1∧∃c:Bool,s1=⟨[(0, .ptr 0 0),(1, .d (.int .i64 k)),(5, .ptr 384 0)],[(0, .cells [.row 1 0 0 m.S.length, .row 2 0 0 (J++i.labels.map B).length, .row 3 0 0 L.length, .nilsl, .row 4 0 0 m.l.length, .row 5 0 0 m.M.length, .row 6 0 0 m.P.length]),(1, .row 1 (intd m.S) 0 false false),(2, .row 4 (jds (J++i.labels.map B)) 0 false c),(3, .row 1 (intd L) 0 false false),(4, .row 5 (m.l.map TInstr.d) 0 true false),(5, .row 2 (m.M.map nestD) 0 false false),(6, .row 2 (stkds m.P) 0 false false),(384, .cells [.d (.int .i64 14), .d (.int .i64 i.a), .d (.int .i64 i.b), .d (.int .u64 i.k), .d (.list (i.labels.map (D.int .i64)))])]⟩) i.labels.length (fun j z=> ∃c:Bool,z=⟨[(0, .ptr 0 0),(1, .d (.int .i64 k)),(5, .ptr 384 0),(107, .d (.list (i.labels.map (D.int .i64)))),(108, .d (.int .i64 i.labels.length)),(109, .d (.int .i64 j))],[(0, .cells [.row 1 0 0 m.S.length, .row 2 0 0 (J++(i.labels.take j).map B).length, .row 3 0 0 L.length, .nilsl, .row 4 0 0 m.l.length, .row 5 0 0 m.M.length, .row 6 0 0 m.P.length]),(1, .row 1 (intd m.S) 0 false false),(2, .row 4 (jds (J++(i.labels.take j).map B)) 0 false c),(3, .row 1 (intd L) 0 false false),(4, .row 5 (m.l.map TInstr.d) 0 true false),(5, .row 2 (m.M.map nestD) 0 false false),(6, .row 2 (stkds m.P) 0 false false),(384, .cells [.d (.int .i64 14), .d (.int .i64 i.a), .d (.int .i64 i.b), .d (.int .u64 i.k), .d (.list (i.labels.map (D.int .i64)))])]⟩) ?_ ?_ fu _ hll ⟨false,by simp only[List.take_zero,List.map_nil,List.append_nil];rfl⟩
  ·rintro j z hjl ⟨c,rfl⟩
   have hx:(i.labels.map (D.int .i64))[j]? =some (.int .i64 (i.labels.getD j 0)):=getD_map hjl
   have hv:i.labels.getD j 0∈i.labels:=by
    rw[List.getD_eq_getElem?_getD,List.getElem?_eq_getElem hjl];exact List.getElem_mem hjl
   have hP:(i.labels.take (j+1)).map B=(i.labels.take j).map B++[B (i.labels.getD j 0)]:=by
    rw[List.take_add_one,List.map_append,List.getD_eq_getElem?_getD,List.getElem?_eq_getElem hjl];rfl
   have hPl:((i.labels.take j).map B).length≤i.labels.length:=by rw[List.length_map,List.length_take];omega
   have hjI:(j:Int)<i.labels.length:=by omega
   have Wj:=wrap_i64 (show-9223372036854775808≤(j:Int)+1 by omega) (by omega)
   obtain⟨v1,v2⟩:=hla _ hv
   have X:=BB (some (J++(i.labels.take j).map B)) (fun j h=>by cases h;rw[List.length_append];omega) _ v1 v2
   rw[hP,←List.append_assoc]
   generalize J++(i.labels.take j).map B=Q at*
   generalize i.labels.getD j 0=y at*
   simp only[Mk.o,Mk.oJ,Mk.tl,List.cons_append,List.nil_append] at X
   simp(maxSteps:=10000000) only[go_sem,seval, -Nat.reduceSubDiff,↓reduceIte,reduceCtorEq,idx,hx,X,hjI,Wj]
   exact⟨_,_,rfl,true,rfl⟩
  ·rintro z ⟨c,rfl⟩
   simp(maxSteps:=10000000) only[go_sem,seval, -Nat.reduceSubDiff,↓reduceIte,reduceCtorEq,Int.lt_irrefl,List.take_length]
   exact⟨_,_,rfl,trivial,rfl,c,rfl⟩
 obtain⟨rfl,c,rfl⟩:=hF
 have X:=BB (some (J++i.labels.map B)) (fun j h=>by cases h;rw[List.length_append,List.length_map];omega) _ a1 a2
 have eQ:m.oJ (i.labels.map B++[B i.a]) (some J) (some L)=m.oJ [B i.a] (some (J++i.labels.map B)) (some L):=by simp only[Mk.oJ,List.append_assoc]
 rw[eQ]
 generalize J++i.labels.map B=Q at*
 simp only[Mk.o,Mk.oJ,Mk.tl,List.cons_append,List.nil_append] at X
 simp(maxSteps:=10000000) only[go_sem,seval, -Nat.reduceSubDiff,↓reduceIte,reduceCtorEq,X,Mk.oJ,Mk.tl,List.cons_append,List.nil_append]
end Go.Proofs.YtfpioigggjnffaaGreatDoor.E
set_option autoImplicit false
set_option maxRecDepth 100000
set_option maxHeartbeats 4000000
set_option pp.maxSteps 20000
namespace Go.Proofs.YtfpioigggjnffaaGreatDoor.E
open Go.Ev
theorem step14_ev (fu n:Nat) (m:Mk) (hm:MkOk fu m) (J:Option (List Jmp)) (L:Option (List Int)) (k:Nat) (hk:k<m.l.length) (hop:(m.l.getD k in0).op=14) (hla: ∀x∈(m.l.getD k in0).labels,0≤x∧x<(m.P.getD k stk0).ctrls.length) (ha:0≤(m.l.getD k in0).a∧(m.l.getD k in0).a<(m.P.getD k stk0).ctrls.length) (hll:(m.l.getD k in0).labels.length<fu) (hj: ∀j,J=some j→j.length+(m.l.getD k in0).labels.length<1000000) (hl2:(m.l.getD k in0).labels.length<900000):
 evF (G fu) (n+8) 74 [.ptr 0 0, .d (.int .i64 k), .d (m.l.getD k in0).d] (m.o J L)=some (.tup [],m.oJ (stepJ m.l m.S m.P k) J L):=by
 have hS:stepJ m.l m.S m.P k=(m.l.getD k in0).labels.map (branchJ m.l m.S m.P k)++[branchJ m.l m.S m.P k (m.l.getD k in0).a]:=by
  unfold stepJ
  simp only
  rw[if_neg (by rw[hop];decide),if_neg (by rw[hop];decide),if_neg (by rw[hop];decide),if_pos hop]
 rw[hS]
 have BB: ∀(J':Option (List Jmp)),(∀j,J'=some j→j.length<1000000)→∀lab:Int,0≤lab→lab<((m.P.getD k stk0).ctrls.length:Int)→evF (G fu) (n+7) 137 [.ptr 0 0, .d (.int .i64 k), .d (.int .i64 lab)] (m.o J' L)=some (.tup [],m.oJ [branchJ m.l m.S m.P k lab] J' L):=by
  intro J' hJ' lab h0 h1
  obtain⟨x,rfl⟩: ∃x:Nat,lab=x:=⟨lab.toNat,by omega⟩
  exact branch_ev fu n m hm J' L k x hk (by omega) hJ'
 cases J with
 |none=>
  cases L with
  |none=>exact step14a fu n m k _ hop _ _ hla ha hll hl2 BB
  |some L=>exact step14b fu n m L k _ hop _ _ hla ha hll hl2 BB
 |some J=>
  cases L with
  |none=>exact step14c fu n m J k _ hop _ _ hla ha hll (hj J rfl) hl2 BB
  |some L=>exact step14d fu n m J L k _ hop _ _ hla ha hll (hj J rfl) hl2 BB
end Go.Proofs.YtfpioigggjnffaaGreatDoor.E
set_option autoImplicit false
set_option maxRecDepth 100000
namespace Go.Proofs.YtfpioigggjnffaaGreatDoor.E
open Go.Ev
structure Sd (fu:Nat) (m:Mk):Prop where
 c: ∀s∈m.P,0<s.ctrls.length∧∀c∈s.ctrls,0≤c.ht∧c.ht≤1000000∧c.fin.length≤1
 b: ∀k,k<m.l.length→((m.l.getD k in0).op=12∨(m.l.getD k in0).op=13∨(m.l.getD k in0).op=14)→(0≤(m.l.getD k in0).a∧(m.l.getD k in0).a<(m.P.getD k stk0).ctrls.length)∧∀x∈(m.l.getD k in0).labels,0≤x∧x<(m.P.getD k stk0).ctrls.length
 lb: ∀i∈m.l,i.labels.length≤64
 big:70<fu
theorem stepJ_none {l:List TInstr} {S:List Int} {P:List Stk} {k:Nat} (h4: ¬(l.getD k in0).op=4) (h5: ¬(l.getD k in0).op=5) (h12: ¬(l.getD k in0).op=12) (h13: ¬(l.getD k in0).op=13) (h14: ¬(l.getD k in0).op=14):stepJ l S P k=[]:=by
 unfold stepJ
 simp only
 rw[if_neg h4,if_neg h5,if_neg (by omega),if_neg h14]
theorem stepJ_le {l:List TInstr} {S:List Int} {P:List Stk} {k:Nat} (hl:(l.getD k in0).labels.length≤64):(stepJ l S P k).length≤65:=by
 unfold stepJ
 simp only
 split
 ·simp
 ·split
  ·simp
  ·split
   ·simp
   ·split
    ·rw[List.length_append,List.length_map];simp only[List.length_cons,List.length_nil];omega
    ·simp
theorem stepJ_some {l:List TInstr} {S:List Int} {P:List Stk} {k:Nat} (h:(l.getD k in0).op=4∨(l.getD k in0).op=5∨(l.getD k in0).op=12∨(l.getD k in0).op=13∨(l.getD k in0).op=14):stepJ l S P k≠[]:=by
 unfold stepJ
 simp only
 split
 ·simp
 ·split
  ·simp
  ·split
   ·simp
   ·split
    ·simp
    ·omega
end Go.Proofs.YtfpioigggjnffaaGreatDoor.E
set_option autoImplicit false
set_option maxRecDepth 100000
set_option maxHeartbeats 4000000
namespace Go.Proofs.YtfpioigggjnffaaGreatDoor.E
open Go.Ev
inductive StepR (fu n:Nat) (m:Mk) (J:Option (List Jmp)) (L:Option (List Int)) (k:Nat) (R:Option Res):Prop
 |no (h1:stepJ m.l m.S m.P k=[]) (h2:stepL m.l m.S k=[]) (h:R=some (.tup [],m.o J L))
 |jumps (h1:stepJ m.l m.S m.P k≠[]) (h2:stepL m.l m.S k=[]) (h:R=some (.tup [],m.oJ (stepJ m.l m.S m.P k) J L))
 |loop (h1:stepJ m.l m.S m.P k=[]) (h2:stepL m.l m.S k=[at0 m.S k]) (h:R=some (.tup [],m.oL (at0 m.S k) J L))
theorem step_all (fu n:Nat) (m:Mk) (hm:MkOk fu m) (hs:Sd fu m) (J:Option (List Jmp)) (L:Option (List Int)) (k:Nat) (hk:k<m.l.length) (hj: ∀j,J=some j→j.length+100<1000000) (hl: ∀j,L=some j→j.length<1000000):
 StepR fu n m J L k (evF (G fu) (n+8) 74 [.ptr 0 0, .d (.int .i64 k), .d (m.l.getD k in0).d] (m.o J L)):=by
 have hj0: ∀j,J=some j→j.length<1000000:=fun j h=>by have:=hj j h;omega
 have hmem: ∀k,k≤m.l.length→m.P.getD k stk0∈m.P:=fun k hk=>by
  have hlt:k<m.P.length:=by rw[hm.P];omega
  rw[List.getD_eq_getElem?_getD,List.getElem?_eq_getElem hlt]
  exact List.getElem_mem hlt
 have hlm:(m.l.getD k in0).labels.length≤64:=by
  refine hs.lb _ ?_
  rw[List.getD_eq_getElem?_getD,List.getElem?_eq_getElem hk]
  exact List.getElem_mem hk
 have hbig:=hs.big
 by_cases h3:(m.l.getD k in0).op=3
 ·refine .loop (stepJ_none (by omega) (by omega) (by omega) (by omega) (by omega)) (by unfold stepL;rw[if_pos h3]) ?_
  exact step3_ev fu n m hm J L k hk _ h3 hl
 ·have hL0:stepL m.l m.S k=[]:=by unfold stepL;rw[if_neg h3]
  by_cases h4:(m.l.getD k in0).op=4
  ·exact .jumps (stepJ_some (by omega)) hL0 (step4_ev fu n m hm J L k hk h4 (hs.c _ (hmem (k+1) (by omega))).1 hj0)
  by_cases h5:(m.l.getD k in0).op=5
  ·refine .jumps (stepJ_some (by omega)) hL0 (step5_ev fu n m hm J L k hk h5 (hs.c _ (hmem k (by omega))).1 (fun c hc=> ?_) hj0)
   have:=(hs.c _ (hmem k (by omega))).2 c hc
   omega
  by_cases h12:(m.l.getD k in0).op=12∨(m.l.getD k in0).op=13
  ·obtain⟨⟨b1,b2⟩,_⟩:=hs.b k hk (by omega)
   obtain⟨x,hx⟩: ∃x:Nat,(m.l.getD k in0).a=x:=⟨(m.l.getD k in0).a.toNat,by omega⟩
   have:=step12_ev fu n m hm J L k hk _ h12 x hx (by omega) hj0
   refine .jumps (stepJ_some (by omega)) hL0 ?_
   have e:stepJ m.l m.S m.P k=[branchJ m.l m.S m.P k (m.l.getD k in0).a]:=by
    unfold stepJ
    simp only
    rw[if_neg h4,if_neg h5,if_pos h12]
   rw[e];exact this
  by_cases h14:(m.l.getD k in0).op=14
  ·obtain⟨b1,b2⟩:=hs.b k hk (by omega)
   exact .jumps (stepJ_some (by omega)) hL0 (step14_ev fu n m hm J L k hk h14 b2 b1 (by omega) (fun j h=>by have:=hj j h;omega) (by omega))
  exact .no (stepJ_none h4 h5 (by omega) (by omega) h14) hL0 (step0_ev fu n m J L k _ h3 h4 h5 (by omega) (by omega) h14)
end Go.Proofs.YtfpioigggjnffaaGreatDoor.E
set_option autoImplicit false
namespace Go.Proofs.YtfpioigggjnffaaGreatDoor.E
open Go.Ev
def Bs (l:List Int):Prop:=∀x∈l,0≤x∧x<256
theorem Bs.nil:Bs []:=fun x h=>absurd h (by simp)
theorem Bs.cons {c:Int} {l:List Int} (h:0≤c∧c<256) (hl:Bs l):Bs (c::l):=fun x hx=>by
 rcases List.mem_cons.1 hx with rfl|hx
 ·exact h
 ·exact hl x hx
theorem Bs.append {l m:List Int} (h:Bs l) (h2:Bs m):Bs (l++m):=fun x hx=>by
 rcases List.mem_append.1 hx with hx|hx
 ·exact h x hx
 ·exact h2 x hx
theorem Bs.drop {l:List Int} (h:Bs l) (n:Nat):Bs (l.drop n):=fun x hx=>h x (List.mem_of_mem_drop hx)
theorem Bs.take {l:List Int} (h:Bs l) (n:Nat):Bs (l.take n):=fun x hx=>h x (List.mem_of_mem_take hx)
theorem all256 {p:Int→Bool} (h:(List.range 256).all (fun n=>p (n:Int))=true) {c:Int} (h0:0≤c) (h1:c<256):p c=true:=by
 have:=List.all_eq_true.1 h c.toNat (by simp;omega)
 rwa [Int.toNat_of_nonneg h0] at this
theorem or128 {c:Int} (h0:0≤c) (h1:c<256):bits2 .or .u8 c 128=c%128+128:=by
 have:=all256 (p:=fun c=>bits2 .or .u8 c 128==c%128+128) (by kernel_rfl) h0 h1
 simpa using this
theorem and127 {c:Int} (h0:0≤c) (h1:c<256):bits2 .and .u8 c 127=c%128:=by
 have:=all256 (p:=fun c=>bits2 .and .u8 c 127==c%128) (by kernel_rfl) h0 h1
 simpa using this
def ulebF:Nat→Int→List Int
 |0,_=>[]
 |f+1,v=>if v≥128 then(v%128+128)::ulebF f (v / 128) else[v]
def uleb (v:Int):List Int:=ulebF 10 v
def slebF:Nat→Int→List Int
 |0,_=>[]
 |f+1,v=>if v< -64∨v≥64 then(v%128+128)::slebF f (v / 128) else[v%128]
def sleb (v:Int):List Int:=slebF 10 v
theorem ulebF_len (f:Nat): ∀v,(ulebF f v).length≤f:=by
 induction f with
 |zero=>intro v;simp[ulebF]
 |succ f ih=>
  intro v
  simp only[ulebF]
  split
  ·have:=ih (v / 128)
   simp
   omega
  ·simp
theorem slebF_len (f:Nat): ∀v,(slebF f v).length≤f:=by
 induction f with
 |zero=>intro v;simp[slebF]
 |succ f ih=>
  intro v
  simp only[slebF]
  split
  ·have:=ih (v / 128)
   simp
   omega
  ·simp
theorem ulebF_bs (f:Nat): ∀v,0≤v→Bs (ulebF f v):=by
 induction f with
 |zero=>intro v _;exact Bs.nil
 |succ f ih=>
  intro v h0
  simp only[ulebF]
  split
  ·exact Bs.cons (by omega) (ih _ (by omega))
  ·exact Bs.cons (by omega) Bs.nil
theorem slebF_bs (f:Nat): ∀v,Bs (slebF f v):=by
 induction f with
 |zero=>intro v;exact Bs.nil
 |succ f ih=>
  intro v
  simp only[slebF]
  split
  ·exact Bs.cons (by omega) (ih _)
  ·exact Bs.cons (by omega) Bs.nil
def scan:Nat→List Int→Except Int (List Int)
 |0,_=> .error 3
 |_+1,[]=> .error 2
 |f+1,c::l=>if c<128 then .ok [c] else match scan f l with
  | .error e=> .error e
  | .ok ds=> .ok (c::ds)
def val:List Int→Int
 |[]=>0
 |c::l=>c%128+128*val l
def lastB:List Int→Int
 |[]=>0
 |[c]=>c
 |_::c::l=>lastB (c::l)
theorem val_nonneg (l:List Int):0≤val l:=by
 induction l with
 |nil=>exact Int.le_refl _
 |cons c l ih=>simp only[val];omega
theorem val_lt (l:List Int):val l<128^l.length:=by
 induction l with
 |nil=>decide
 |cons c l ih=>
  simp only[val,List.length_cons,Int.pow_succ]
  omega
theorem scan_ok {f:Nat}: ∀{l ds:List Int},scan f l= .ok ds→ds≠[]∧ds.length≤f∧ds=l.take ds.length∧ds.length≤l.length∧lastB ds<128:=by
 induction f with
 |zero=>intro l ds h;simp[scan] at h
 |succ f ih=>
  intro l ds h
  cases l with
  |nil=>simp[scan] at h
  |cons c l=>
   simp only[scan] at h
   split at h
   ·injection h with h
    subst h
    exact⟨by simp,by simp,by simp,by simp,by simpa[lastB]⟩
   ·split at h
    ·cases h
    ·rename_i d e
     injection h with h
     subst h
     obtain⟨h1,h2,h3,h4,h5⟩:=ih e
     refine⟨by simp,by simp;omega, ?_,by simp;omega, ?_⟩
     ·rw[List.length_cons,List.take_succ_cons,←h3]
     ·cases d with
      |nil=>exact absurd rfl h1
      |cons c2 d=>exact h5
theorem pow_mono {m n:Nat} (h:m≤n):(128:Int)^m≤128^n:=by exact_mod_cast Nat.pow_le_pow_right (by decide) h
theorem lastB_nonneg (ds:List Int) (hb:Bs ds):0≤lastB ds:=by
 induction ds with
 |nil=>exact Int.le_refl _
 |cons c l ih=>
  cases l with
  |nil=>exact(hb c (by simp)).1
  |cons d l=>exact ih (fun z hz=>hb z (List.mem_cons_of_mem _ hz))
theorem lastB_cons (c:Int) {ds:List Int} (h:ds≠[]):lastB (c::ds)=lastB ds:=by
 cases ds with
 |nil=>exact absurd rfl h
 |cons d l=>rfl
def rdU (l:List Int):Except Int (List Int):=
 match scan 5 l with
 | .error e=> .error e
 | .ok ds=>if ds.length=5∧16≤lastB ds then .error 3 else .ok ds
theorem rdU_lt {l ds:List Int} (hb:Bs l) (h:rdU l= .ok ds):val ds<4294967296:=by
 unfold rdU at h
 split at h
 ·cases h
 ·rename_i d hs
  split at h
  ·cases h
  ·rename_i hc
   injection h with h
   subst h
   obtain⟨h1,h2,h3,_,h5⟩:=scan_ok hs
   have hl0:=lastB_nonneg d (by rw[h3];exact hb.take _)
   by_cases h6:d.length=5
   ·have h7: ¬16≤lastB d:=fun h=>hc ⟨h6,h⟩
    match d,h6 with
    |[a,b,c,d,e],_=>
     simp only[lastB,val] at h7 hl0 ⊢
     omega
   ·exact Int.lt_of_lt_of_le (val_lt d) (Int.le_trans (pow_mono (n:=4) (by omega)) (by decide))
theorem rdU_scan {l ds:List Int} (h:rdU l= .ok ds):scan 5 l= .ok ds:=by
 unfold rdU at h
 split at h
 ·cases h
 ·rename_i d hs
  split at h
  ·cases h
  ·injection h with h
   rw[hs,h]
theorem uleb_least (ds:List Int): ∀(f:Nat),ds≠[]→ds.length≤f→(ulebF f (val ds)).length≤ds.length:=by
 induction ds with
 |nil=>intro f h;exact absurd rfl h
 |cons c l ih=>
  intro f _ hf
  obtain⟨f,rfl⟩: ∃j,f=j+1:=⟨f-1,by simp at hf;omega⟩
  have h0:=val_nonneg l
  rw[show val (c::l)=c%128+128*val l from rfl,ulebF]
  by_cases h:c%128+128*val l≥128
  ·rw[if_pos h]
   have e:(c%128+128*val l) / 128=val l:=by omega
   rw[e]
   have hl:l≠[]:=by
    rintro rfl
    simp only[val] at h
    omega
   have:=ih f hl (by simpa using hf)
   simpa using this
  ·rw[if_neg h]
   simp
end Go.Proofs.YtfpioigggjnffaaGreatDoor.E
