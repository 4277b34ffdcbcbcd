/- S7a, S7b, S7c, S7d, S7. -/
import Derived.Test.YtfpioigggjnffaaGreatDoorZ2
set_option linter.unnecessarySimpa false
set_option linter.unusedSimpArgs false
set_option linter.unusedVariables false
set_option autoImplicit false
set_option maxRecDepth 100000
set_option maxHeartbeats 4000000
set_option pp.maxSteps 20000
namespace Go.Proofs.YtfpioigggjnffaaGreatDoor.E
open Go.Ev
theorem step14a (fu n:Nat) (m:Mk) (k:Nat) (i:TInstr) (hop:i.op=14) (B:Int→Jmp) (nn:Int) (hla: ∀x∈i.labels,0≤x∧x<nn) (ha:0≤i.a∧i.a<nn) (hll:i.labels.length<fu) (hl2:i.labels.length<900000)
 (BB: ∀(J':Option (List Jmp)),(∀j,J'=some j→j.length<1000000)→∀lab:Int,0≤lab→lab<nn→evF (G fu) (n+7) 137 [.ptr 0 0, .d (.int .i64 k), .d (.int .i64 lab)] (m.o J' (none))=some (.tup [],m.oJ [B lab] J' (none))):
 evF (G fu) (n+8) 74 [.ptr 0 0, .d (.int .i64 k), .d i.d] (m.o (none) (none))=some (.tup [],m.oJ (i.labels.map B++[B i.a]) (none) (none)):=by
 obtain⟨a1,a2⟩:=ha
 rw[evF.eq_2,evX.eq_def,Gext,exts_no _ (f:=74) (by decide),GP,Tryz.func74];simp only[Tryz.f74,evB]
 simp(maxSteps:=10000000) only[go_sem,seval, -Nat.reduceSubDiff,↓reduceIte,reduceCtorEq,TInstr.d,hop,Mk.o,Mk.tl,List.cons_append,List.nil_append,List.length_map]
 generalize hr:loopN _ _ _ _ _=r
 obtain⟨x,s1,rfl,hx,hF⟩: ∃x s1,r=some (x,s1)∧leaves x∧(x= .exit 1∧∃H,s1=⟨[(0, .ptr 0 0),(1, .d (.int .i64 k)),(5, .ptr 384 0)],H⟩∧((i.labels=[]∧H=[(0, .cells [.row 1 0 0 m.S.length, .nilsl, .nilsl, .nilsl, .row 2 0 0 m.l.length, .row 3 0 0 m.M.length, .row 4 0 0 m.P.length]),(1, .row 1 (intd m.S) 0 false false),(2, .row 5 (m.l.map TInstr.d) 0 true false),(3, .row 2 (m.M.map nestD) 0 false false),(4, .row 2 (stkds m.P) 0 false false),(384, .cells [.d (.int .i64 14), .d (.int .i64 i.a), .d (.int .i64 i.b), .d (.int .u64 i.k), .d (.list (i.labels.map (D.int .i64)))])])∨(∃c:Bool,H=[(0, .cells [.row 1 0 0 m.S.length, .row 7488 0 0 (i.labels.map B).length, .nilsl, .nilsl, .row 2 0 0 m.l.length, .row 3 0 0 m.M.length, .row 4 0 0 m.P.length]),(1, .row 1 (intd m.S) 0 false false),(2, .row 5 (m.l.map TInstr.d) 0 true false),(3, .row 2 (m.M.map nestD) 0 false false),(4, .row 2 (stkds m.P) 0 false false),(384, .cells [.d (.int .i64 14), .d (.int .i64 i.a), .d (.int .i64 i.b), .d (.int .u64 i.k), .d (.list (i.labels.map (D.int .i64)))]),(7488, .row 4 (jds (i.labels.map B)) 0 false c)]))):=by
  rw[←hr]
  refine loop_inv (J:=fun x s1=>x= .exit 1∧∃H,s1=⟨[(0, .ptr 0 0),(1, .d (.int .i64 k)),(5, .ptr 384 0)],H⟩∧((i.labels=[]∧H=[(0, .cells [.row 1 0 0 m.S.length, .nilsl, .nilsl, .nilsl, .row 2 0 0 m.l.length, .row 3 0 0 m.M.length, .row 4 0 0 m.P.length]),(1, .row 1 (intd m.S) 0 false false),(2, .row 5 (m.l.map TInstr.d) 0 true false),(3, .row 2 (m.M.map nestD) 0 false false),(4, .row 2 (stkds m.P) 0 false false),(384, .cells [.d (.int .i64 14), .d (.int .i64 i.a), .d (.int .i64 i.b), .d (.int .u64 i.k), .d (.list (i.labels.map (D.int .i64)))])])∨(∃c:Bool,H=[(0, .cells [.row 1 0 0 m.S.length, .row 7488 0 0 (i.labels.map B).length, .nilsl, .nilsl, .row 2 0 0 m.l.length, .row 3 0 0 m.M.length, .row 4 0 0 m.P.length]),(1, .row 1 (intd m.S) 0 false false),(2, .row 5 (m.l.map TInstr.d) 0 true false),(3, .row 2 (m.M.map nestD) 0 false false),(4, .row 2 (stkds m.P) 0 false false),(384, .cells [.d (.int .i64 14), .d (.int .i64 i.a), .d (.int .i64 i.b), .d (.int .u64 i.k), .d (.list (i.labels.map (D.int .i64)))]),(7488, .row 4 (jds (i.labels.map B)) 0 false c)]))) i.labels.length (fun j z=> ∃H,z=⟨[(0, .ptr 0 0),(1, .d (.int .i64 k)),(5, .ptr 384 0),(107, .d (.list (i.labels.map (D.int .i64)))),(108, .d (.int .i64 i.labels.length)),(109, .d (.int .i64 j))],H⟩∧((j=0∧H=[(0, .cells [.row 1 0 0 m.S.length, .nilsl, .nilsl, .nilsl, .row 2 0 0 m.l.length, .row 3 0 0 m.M.length, .row 4 0 0 m.P.length]),(1, .row 1 (intd m.S) 0 false false),(2, .row 5 (m.l.map TInstr.d) 0 true false),(3, .row 2 (m.M.map nestD) 0 false false),(4, .row 2 (stkds m.P) 0 false false),(384, .cells [.d (.int .i64 14), .d (.int .i64 i.a), .d (.int .i64 i.b), .d (.int .u64 i.k), .d (.list (i.labels.map (D.int .i64)))])])∨(∃c:Bool,0<j∧H=[(0, .cells [.row 1 0 0 m.S.length, .row 7488 0 0 ((i.labels.take j).map B).length, .nilsl, .nilsl, .row 2 0 0 m.l.length, .row 3 0 0 m.M.length, .row 4 0 0 m.P.length]),(1, .row 1 (intd m.S) 0 false false),(2, .row 5 (m.l.map TInstr.d) 0 true false),(3, .row 2 (m.M.map nestD) 0 false false),(4, .row 2 (stkds m.P) 0 false false),(384, .cells [.d (.int .i64 14), .d (.int .i64 i.a), .d (.int .i64 i.b), .d (.int .u64 i.k), .d (.list (i.labels.map (D.int .i64)))]),(7488, .row 4 (jds ((i.labels.take j).map B)) 0 false c)]))) ?_ ?_ fu _ hll ⟨_,rfl, .inl ⟨rfl,rfl⟩⟩
  ·rintro j z hjl ⟨H,rfl,hH⟩
   have hx:(i.labels.map (D.int .i64))[j]? =some (.int .i64 (i.labels.getD j 0)):=getD_map hjl
   have hv:i.labels.getD j 0∈i.labels:=by
    rw[List.getD_eq_getElem?_getD,List.getElem?_eq_getElem hjl];exact List.getElem_mem hjl
   have hP:(i.labels.take (j+1)).map B=(i.labels.take j).map B++[B (i.labels.getD j 0)]:=by
    rw[List.take_add_one,List.map_append,List.getD_eq_getElem?_getD,List.getElem?_eq_getElem hjl];rfl
   have hPl:((i.labels.take j).map B).length≤i.labels.length:=by rw[List.length_map,List.length_take];omega
   have hjI:(j:Int)<i.labels.length:=by omega
   have Wj:=wrap_i64 (show-9223372036854775808≤(j:Int)+1 by omega) (by omega)
   obtain⟨v1,v2⟩:=hla _ hv
   rcases hH with⟨rfl,rfl⟩|⟨c,hj0,rfl⟩
   ·have X:=BB none (fun j h=>by cases h) _ v1 v2
    rw[hP]
    have hj0I:(0:Int)<i.labels.length:=by omega
    generalize i.labels.getD 0 0=y at*
    simp only[Mk.o,Mk.oJ,Mk.tl,List.cons_append,List.nil_append] at X
    simp(maxSteps:=10000000) only[go_sem,seval, -Nat.reduceSubDiff,↓reduceIte,reduceCtorEq,idx,hx,X,hj0I,Wj,List.take_zero,List.map_nil,List.nil_append]
    exact⟨_,_,rfl,_,rfl,false,rfl⟩
   ·have X:=BB (some ((i.labels.take j).map B)) (fun j h=>by cases h;omega) _ v1 v2
    rw[hP]
    generalize(i.labels.take j).map B=Q at*
    generalize i.labels.getD j 0=y at*
    simp only[Mk.o,Mk.oJ,Mk.tl,List.cons_append,List.nil_append] at X
    simp(maxSteps:=10000000) only[go_sem,seval, -Nat.reduceSubDiff,↓reduceIte,reduceCtorEq,idx,hx,X,hjI,Wj]
    exact⟨_,_,rfl,_,rfl,true,by omega,rfl⟩
  ·rintro z ⟨H,rfl,hH⟩
   rcases hH with⟨h0,rfl⟩|⟨c,hj0,rfl⟩
   ·have hn:i.labels=[]:=List.length_eq_zero_iff.1 h0
    simp(maxSteps:=10000000) only[go_sem,seval, -Nat.reduceSubDiff,↓reduceIte,reduceCtorEq,hn,List.length_nil,Int.lt_irrefl]
    exact⟨_,_,rfl,trivial,rfl,_,rfl, .inl rfl⟩
   ·simp(maxSteps:=10000000) only[go_sem,seval, -Nat.reduceSubDiff,↓reduceIte,reduceCtorEq,Int.lt_irrefl,List.take_length]
    exact⟨_,_,rfl,trivial,rfl,_,rfl, .inr ⟨c,rfl⟩⟩
 obtain⟨rfl,H,rfl,hH⟩:=hF
 rcases hH with⟨hn,rfl⟩|⟨c,rfl⟩
 ·have X:=BB none (fun j h=>by cases h) _ a1 a2
  rw[hn]
  simp only[Mk.o,Mk.oJ,Mk.tl,List.cons_append,List.nil_append] at X
  simp(maxSteps:=10000000) only[go_sem,seval, -Nat.reduceSubDiff,↓reduceIte,reduceCtorEq,X,hn,List.map_nil,Mk.oJ,Mk.tl,List.cons_append,List.nil_append]
 ·have X:=BB (some (i.labels.map B)) (fun j h=>by cases h;rw[List.length_map];omega) _ a1 a2
  generalize i.labels.map B=Q at*
  simp only[Mk.o,Mk.oJ,Mk.tl,List.cons_append,List.nil_append] at X
  simp(maxSteps:=10000000) only[go_sem,seval, -Nat.reduceSubDiff,↓reduceIte,reduceCtorEq,X,Mk.oJ,Mk.tl,List.cons_append,List.nil_append]
end Go.Proofs.YtfpioigggjnffaaGreatDoor.E
set_option autoImplicit false
set_option maxRecDepth 100000
set_option maxHeartbeats 4000000
set_option pp.maxSteps 20000
namespace Go.Proofs.YtfpioigggjnffaaGreatDoor.E
open Go.Ev
theorem step14b (fu n:Nat) (m:Mk) (L:List Int) (k:Nat) (i:TInstr) (hop:i.op=14) (B:Int→Jmp) (nn:Int) (hla: ∀x∈i.labels,0≤x∧x<nn) (ha:0≤i.a∧i.a<nn) (hll:i.labels.length<fu) (hl2:i.labels.length<900000)
 (BB: ∀(J':Option (List Jmp)),(∀j,J'=some j→j.length<1000000)→∀lab:Int,0≤lab→lab<nn→evF (G fu) (n+7) 137 [.ptr 0 0, .d (.int .i64 k), .d (.int .i64 lab)] (m.o J' (some L))=some (.tup [],m.oJ [B lab] J' (some L))):
 evF (G fu) (n+8) 74 [.ptr 0 0, .d (.int .i64 k), .d i.d] (m.o (none) (some L))=some (.tup [],m.oJ (i.labels.map B++[B i.a]) (none) (some L)):=by
 obtain⟨a1,a2⟩:=ha
 rw[evF.eq_2,evX.eq_def,Gext,exts_no _ (f:=74) (by decide),GP,Tryz.func74];simp only[Tryz.f74,evB]
 simp(maxSteps:=10000000) only[go_sem,seval, -Nat.reduceSubDiff,↓reduceIte,reduceCtorEq,TInstr.d,hop,Mk.o,Mk.tl,List.cons_append,List.nil_append,List.length_map]
 generalize hr:loopN _ _ _ _ _=r
 obtain⟨x,s1,rfl,hx,hF⟩: ∃x s1,r=some (x,s1)∧leaves x∧(x= .exit 1∧∃H,s1=⟨[(0, .ptr 0 0),(1, .d (.int .i64 k)),(5, .ptr 384 0)],H⟩∧((i.labels=[]∧H=[(0, .cells [.row 1 0 0 m.S.length, .nilsl, .row 2 0 0 L.length, .nilsl, .row 3 0 0 m.l.length, .row 4 0 0 m.M.length, .row 5 0 0 m.P.length]),(1, .row 1 (intd m.S) 0 false false),(2, .row 1 (intd L) 0 false false),(3, .row 5 (m.l.map TInstr.d) 0 true false),(4, .row 2 (m.M.map nestD) 0 false false),(5, .row 2 (stkds m.P) 0 false false),(384, .cells [.d (.int .i64 14), .d (.int .i64 i.a), .d (.int .i64 i.b), .d (.int .u64 i.k), .d (.list (i.labels.map (D.int .i64)))])])∨(∃c:Bool,H=[(0, .cells [.row 1 0 0 m.S.length, .row 7488 0 0 (i.labels.map B).length, .row 2 0 0 L.length, .nilsl, .row 3 0 0 m.l.length, .row 4 0 0 m.M.length, .row 5 0 0 m.P.length]),(1, .row 1 (intd m.S) 0 false false),(2, .row 1 (intd L) 0 false false),(3, .row 5 (m.l.map TInstr.d) 0 true false),(4, .row 2 (m.M.map nestD) 0 false false),(5, .row 2 (stkds m.P) 0 false false),(384, .cells [.d (.int .i64 14), .d (.int .i64 i.a), .d (.int .i64 i.b), .d (.int .u64 i.k), .d (.list (i.labels.map (D.int .i64)))]),(7488, .row 4 (jds (i.labels.map B)) 0 false c)]))):=by
  rw[←hr]
  refine loop_inv (J:=fun x s1=>x= .exit 1∧∃H,s1=⟨[(0, .ptr 0 0),(1, .d (.int .i64 k)),(5, .ptr 384 0)],H⟩∧((i.labels=[]∧H=[(0, .cells [.row 1 0 0 m.S.length, .nilsl, .row 2 0 0 L.length, .nilsl, .row 3 0 0 m.l.length, .row 4 0 0 m.M.length, .row 5 0 0 m.P.length]),(1, .row 1 (intd m.S) 0 false false),(2, .row 1 (intd L) 0 false false),(3, .row 5 (m.l.map TInstr.d) 0 true false),(4, .row 2 (m.M.map nestD) 0 false false),(5, .row 2 (stkds m.P) 0 false false),(384, .cells [.d (.int .i64 14), .d (.int .i64 i.a), .d (.int .i64 i.b), .d (.int .u64 i.k), .d (.list (i.labels.map (D.int .i64)))])])∨(∃c:Bool,H=[(0, .cells [.row 1 0 0 m.S.length, .row 7488 0 0 (i.labels.map B).length, .row 2 0 0 L.length, .nilsl, .row 3 0 0 m.l.length, .row 4 0 0 m.M.length, .row 5 0 0 m.P.length]),(1, .row 1 (intd m.S) 0 false false),(2, .row 1 (intd L) 0 false false),(3, .row 5 (m.l.map TInstr.d) 0 true false),(4, .row 2 (m.M.map nestD) 0 false false),(5, .row 2 (stkds m.P) 0 false false),(384, .cells [.d (.int .i64 14), .d (.int .i64 i.a), .d (.int .i64 i.b), .d (.int .u64 i.k), .d (.list (i.labels.map (D.int .i64)))]),(7488, .row 4 (jds (i.labels.map B)) 0 false c)]))) i.labels.length (fun j z=> ∃H,z=⟨[(0, .ptr 0 0),(1, .d (.int .i64 k)),(5, .ptr 384 0),(107, .d (.list (i.labels.map (D.int .i64)))),(108, .d (.int .i64 i.labels.length)),(109, .d (.int .i64 j))],H⟩∧((j=0∧H=[(0, .cells [.row 1 0 0 m.S.length, .nilsl, .row 2 0 0 L.length, .nilsl, .row 3 0 0 m.l.length, .row 4 0 0 m.M.length, .row 5 0 0 m.P.length]),(1, .row 1 (intd m.S) 0 false false),(2, .row 1 (intd L) 0 false false),(3, .row 5 (m.l.map TInstr.d) 0 true false),(4, .row 2 (m.M.map nestD) 0 false false),(5, .row 2 (stkds m.P) 0 false false),(384, .cells [.d (.int .i64 14), .d (.int .i64 i.a), .d (.int .i64 i.b), .d (.int .u64 i.k), .d (.list (i.labels.map (D.int .i64)))])])∨(∃c:Bool,0<j∧H=[(0, .cells [.row 1 0 0 m.S.length, .row 7488 0 0 ((i.labels.take j).map B).length, .row 2 0 0 L.length, .nilsl, .row 3 0 0 m.l.length, .row 4 0 0 m.M.length, .row 5 0 0 m.P.length]),(1, .row 1 (intd m.S) 0 false false),(2, .row 1 (intd L) 0 false false),(3, .row 5 (m.l.map TInstr.d) 0 true false),(4, .row 2 (m.M.map nestD) 0 false false),(5, .row 2 (stkds m.P) 0 false false),(384, .cells [.d (.int .i64 14), .d (.int .i64 i.a), .d (.int .i64 i.b), .d (.int .u64 i.k), .d (.list (i.labels.map (D.int .i64)))]),(7488, .row 4 (jds ((i.labels.take j).map B)) 0 false c)]))) ?_ ?_ fu _ hll ⟨_,rfl, .inl ⟨rfl,rfl⟩⟩
  ·rintro j z hjl ⟨H,rfl,hH⟩
   have hx:(i.labels.map (D.int .i64))[j]? =some (.int .i64 (i.labels.getD j 0)):=getD_map hjl
   have hv:i.labels.getD j 0∈i.labels:=by
    rw[List.getD_eq_getElem?_getD,List.getElem?_eq_getElem hjl];exact List.getElem_mem hjl
   have hP:(i.labels.take (j+1)).map B=(i.labels.take j).map B++[B (i.labels.getD j 0)]:=by
    rw[List.take_add_one,List.map_append,List.getD_eq_getElem?_getD,List.getElem?_eq_getElem hjl];rfl
   have hPl:((i.labels.take j).map B).length≤i.labels.length:=by rw[List.length_map,List.length_take];omega
   have hjI:(j:Int)<i.labels.length:=by omega
   have Wj:=wrap_i64 (show-9223372036854775808≤(j:Int)+1 by omega) (by omega)
   obtain⟨v1,v2⟩:=hla _ hv
   rcases hH with⟨rfl,rfl⟩|⟨c,hj0,rfl⟩
   ·have X:=BB none (fun j h=>by cases h) _ v1 v2
    rw[hP]
    have hj0I:(0:Int)<i.labels.length:=by omega
    generalize i.labels.getD 0 0=y at*
    simp only[Mk.o,Mk.oJ,Mk.tl,List.cons_append,List.nil_append] at X
    simp(maxSteps:=10000000) only[go_sem,seval, -Nat.reduceSubDiff,↓reduceIte,reduceCtorEq,idx,hx,X,hj0I,Wj,List.take_zero,List.map_nil,List.nil_append]
    exact⟨_,_,rfl,_,rfl,false,rfl⟩
   ·have X:=BB (some ((i.labels.take j).map B)) (fun j h=>by cases h;omega) _ v1 v2
    rw[hP]
    generalize(i.labels.take j).map B=Q at*
    generalize i.labels.getD j 0=y at*
    simp only[Mk.o,Mk.oJ,Mk.tl,List.cons_append,List.nil_append] at X
    simp(maxSteps:=10000000) only[go_sem,seval, -Nat.reduceSubDiff,↓reduceIte,reduceCtorEq,idx,hx,X,hjI,Wj]
    exact⟨_,_,rfl,_,rfl,true,by omega,rfl⟩
  ·rintro z ⟨H,rfl,hH⟩
   rcases hH with⟨h0,rfl⟩|⟨c,hj0,rfl⟩
   ·have hn:i.labels=[]:=List.length_eq_zero_iff.1 h0
    simp(maxSteps:=10000000) only[go_sem,seval, -Nat.reduceSubDiff,↓reduceIte,reduceCtorEq,hn,List.length_nil,Int.lt_irrefl]
    exact⟨_,_,rfl,trivial,rfl,_,rfl, .inl rfl⟩
   ·simp(maxSteps:=10000000) only[go_sem,seval, -Nat.reduceSubDiff,↓reduceIte,reduceCtorEq,Int.lt_irrefl,List.take_length]
    exact⟨_,_,rfl,trivial,rfl,_,rfl, .inr ⟨c,rfl⟩⟩
 obtain⟨rfl,H,rfl,hH⟩:=hF
 rcases hH with⟨hn,rfl⟩|⟨c,rfl⟩
 ·have X:=BB none (fun j h=>by cases h) _ a1 a2
  rw[hn]
  simp only[Mk.o,Mk.oJ,Mk.tl,List.cons_append,List.nil_append] at X
  simp(maxSteps:=10000000) only[go_sem,seval, -Nat.reduceSubDiff,↓reduceIte,reduceCtorEq,X,hn,List.map_nil,Mk.oJ,Mk.tl,List.cons_append,List.nil_append]
 ·have X:=BB (some (i.labels.map B)) (fun j h=>by cases h;rw[List.length_map];omega) _ a1 a2
  generalize i.labels.map B=Q at*
  simp only[Mk.o,Mk.oJ,Mk.tl,List.cons_append,List.nil_append] at X
  simp(maxSteps:=10000000) only[go_sem,seval, -Nat.reduceSubDiff,↓reduceIte,reduceCtorEq,X,Mk.oJ,Mk.tl,List.cons_append,List.nil_append]
end Go.Proofs.YtfpioigggjnffaaGreatDoor.E
set_option autoImplicit false
set_option maxRecDepth 100000
set_option maxHeartbeats 4000000
set_option pp.maxSteps 20000
namespace Go.Proofs.YtfpioigggjnffaaGreatDoor.E
open Go.Ev
theorem step14c (fu n:Nat) (m:Mk) (J:List Jmp) (k:Nat) (i:TInstr) (hop:i.op=14) (B:Int→Jmp) (nn:Int) (hla: ∀x∈i.labels,0≤x∧x<nn) (ha:0≤i.a∧i.a<nn) (hll:i.labels.length<fu) (hj:J.length+i.labels.length<1000000) (hl2:i.labels.length<900000)
 (BB: ∀(J':Option (List Jmp)),(∀j,J'=some j→j.length<1000000)→∀lab:Int,0≤lab→lab<nn→evF (G fu) (n+7) 137 [.ptr 0 0, .d (.int .i64 k), .d (.int .i64 lab)] (m.o J' (none))=some (.tup [],m.oJ [B lab] J' (none))):
 evF (G fu) (n+8) 74 [.ptr 0 0, .d (.int .i64 k), .d i.d] (m.o (some J) (none))=some (.tup [],m.oJ (i.labels.map B++[B i.a]) (some J) (none)):=by
 obtain⟨a1,a2⟩:=ha
 rw[evF.eq_2,evX.eq_def,Gext,exts_no _ (f:=74) (by decide),GP,Tryz.func74];simp only[Tryz.f74,evB]
 simp(maxSteps:=10000000) only[go_sem,seval, -Nat.reduceSubDiff,↓reduceIte,reduceCtorEq,TInstr.d,hop,Mk.o,Mk.tl,List.cons_append,List.nil_append,List.length_map]
 generalize hr:loopN _ _ _ _ _=r
 obtain⟨x,s1,rfl,hx,hF⟩: ∃x s1,r=some (x,s1)∧leaves x∧(x= .exit 1∧∃c:Bool,s1=⟨[(0, .ptr 0 0),(1, .d (.int .i64 k)),(5, .ptr 384 0)],[(0, .cells [.row 1 0 0 m.S.length, .row 2 0 0 (J++i.labels.map B).length, .nilsl, .nilsl, .row 3 0 0 m.l.length, .row 4 0 0 m.M.length, .row 5 0 0 m.P.length]),(1, .row 1 (intd m.S) 0 false false),(2, .row 4 (jds (J++i.labels.map B)) 0 false c),(3, .row 5 (m.l.map TInstr.d) 0 true false),(4, .row 2 (m.M.map nestD) 0 false false),(5, .row 2 (stkds m.P) 0 false false),(384, .cells [.d (.int .i64 14), .d (.int .i64 i.a), .d (.int .i64 i.b), .d (.int .u64 i.k), .d (.list (i.labels.map (D.int .i64)))])]⟩):=by
  rw[←hr]
  refine loop_inv (J:=fun x s1=>x= .exit 1∧∃c:Bool,s1=⟨[(0, .ptr 0 0),(1, .d (.int .i64 k)),(5, .ptr 384 0)],[(0, .cells [.row 1 0 0 m.S.length, .row 2 0 0 (J++i.labels.map B).length, .nilsl, .nilsl, .row 3 0 0 m.l.length, .row 4 0 0 m.M.length, .row 5 0 0 m.P.length]),(1, .row 1 (intd m.S) 0 false false),(2, .row 4 (jds (J++i.labels.map B)) 0 false c),(3, .row 5 (m.l.map TInstr.d) 0 true false),(4, .row 2 (m.M.map nestD) 0 false false),(5, .row 2 (stkds m.P) 0 false false),(384, .cells [.d (.int .i64 14), .d (.int .i64 i.a), .d (.int .i64 i.b), .d (.int .u64 i.k), .d (.list (i.labels.map (D.int .i64)))])]⟩) i.labels.length (fun j z=> ∃c:Bool,z=⟨[(0, .ptr 0 0),(1, .d (.int .i64 k)),(5, .ptr 384 0),(107, .d (.list (i.labels.map (D.int .i64)))),(108, .d (.int .i64 i.labels.length)),(109, .d (.int .i64 j))],[(0, .cells [.row 1 0 0 m.S.length, .row 2 0 0 (J++(i.labels.take j).map B).length, .nilsl, .nilsl, .row 3 0 0 m.l.length, .row 4 0 0 m.M.length, .row 5 0 0 m.P.length]),(1, .row 1 (intd m.S) 0 false false),(2, .row 4 (jds (J++(i.labels.take j).map B)) 0 false c),(3, .row 5 (m.l.map TInstr.d) 0 true false),(4, .row 2 (m.M.map nestD) 0 false false),(5, .row 2 (stkds m.P) 0 false false),(384, .cells [.d (.int .i64 14), .d (.int .i64 i.a), .d (.int .i64 i.b), .d (.int .u64 i.k), .d (.list (i.labels.map (D.int .i64)))])]⟩) ?_ ?_ fu _ hll ⟨false,by simp only[List.take_zero,List.map_nil,List.append_nil];rfl⟩
  ·rintro j z hjl ⟨c,rfl⟩
   have hx:(i.labels.map (D.int .i64))[j]? =some (.int .i64 (i.labels.getD j 0)):=getD_map hjl
   have hv:i.labels.getD j 0∈i.labels:=by
    rw[List.getD_eq_getElem?_getD,List.getElem?_eq_getElem hjl];exact List.getElem_mem hjl
   have hP:(i.labels.take (j+1)).map B=(i.labels.take j).map B++[B (i.labels.getD j 0)]:=by
    rw[List.take_add_one,List.map_append,List.getD_eq_getElem?_getD,List.getElem?_eq_getElem hjl];rfl
   have hPl:((i.labels.take j).map B).length≤i.labels.length:=by rw[List.length_map,List.length_take];omega
   have hjI:(j:Int)<i.labels.length:=by omega
   have Wj:=wrap_i64 (show-9223372036854775808≤(j:Int)+1 by omega) (by omega)
   obtain⟨v1,v2⟩:=hla _ hv
   have X:=BB (some (J++(i.labels.take j).map B)) (fun j h=>by cases h;rw[List.length_append];omega) _ v1 v2
   rw[hP,←List.append_assoc]
   generalize J++(i.labels.take j).map B=Q at*
   generalize i.labels.getD j 0=y at*
   simp only[Mk.o,Mk.oJ,Mk.tl,List.cons_append,List.nil_append] at X
   simp(maxSteps:=10000000) only[go_sem,seval, -Nat.reduceSubDiff,↓reduceIte,reduceCtorEq,idx,hx,X,hjI,Wj]
   exact⟨_,_,rfl,true,rfl⟩
  ·rintro z ⟨c,rfl⟩
   simp(maxSteps:=10000000) only[go_sem,seval, -Nat.reduceSubDiff,↓reduceIte,reduceCtorEq,Int.lt_irrefl,List.take_length]
   exact⟨_,_,rfl,trivial,rfl,c,rfl⟩
 obtain⟨rfl,c,rfl⟩:=hF
 have X:=BB (some (J++i.labels.map B)) (fun j h=>by cases h;rw[List.length_append,List.length_map];omega) _ a1 a2
 have eQ:m.oJ (i.labels.map B++[B i.a]) (some J) (none)=m.oJ [B i.a] (some (J++i.labels.map B)) (none):=by simp only[Mk.oJ,List.append_assoc]
 rw[eQ]
 generalize J++i.labels.map B=Q at*
 simp only[Mk.o,Mk.oJ,Mk.tl,List.cons_append,List.nil_append] at X
 simp(maxSteps:=10000000) only[go_sem,seval, -Nat.reduceSubDiff,↓reduceIte,reduceCtorEq,X,Mk.oJ,Mk.tl,List.cons_append,List.nil_append]
end Go.Proofs.YtfpioigggjnffaaGreatDoor.E
set_option autoImplicit false
set_option maxRecDepth 100000
set_option maxHeartbeats 4000000
set_option pp.maxSteps 20000
namespace Go.Proofs.YtfpioigggjnffaaGreatDoor.E
open Go.Ev
theorem step14d (fu n:Nat) (m:Mk) (J:List Jmp) (L:List Int) (k:Nat) (i:TInstr) (hop:i.op=14) (B:Int→Jmp) (nn:Int) (hla: ∀x∈i.labels,0≤x∧x<nn) (ha:0≤i.a∧i.a<nn) (hll:i.labels.length<fu) (hj:J.length+i.labels.length<1000000) (hl2:i.labels.length<900000)
 (BB: ∀(J':Option (List Jmp)),(∀j,J'=some j→j.length<1000000)→∀lab:Int,0≤lab→lab<nn→evF (G fu) (n+7) 137 [.ptr 0 0, .d (.int .i64 k), .d (.int .i64 lab)] (m.o J' (some L))=some (.tup [],m.oJ [B lab] J' (some L))):
 evF (G fu) (n+8) 74 [.ptr 0 0, .d (.int .i64 k), .d i.d] (m.o (some J) (some L))=some (.tup [],m.oJ (i.labels.map B++[B i.a]) (some J) (some L)):=by
 obtain⟨a1,a2⟩:=ha
 rw[evF.eq_2,evX.eq_def,Gext,exts_no _ (f:=74) (by decide),GP,Tryz.func74];simp only[Tryz.f74,evB]
 simp(maxSteps:=10000000) only[go_sem,seval, -Nat.reduceSubDiff,↓reduceIte,reduceCtorEq,TInstr.d,hop,Mk.o,Mk.tl,List.cons_append,List.nil_append,List.length_map]
 generalize hr:loopN _ _ _ _ _=r
 obtain⟨x,s1,rfl,hx,hF⟩: ∃x s1,r=some (x,s1)∧leaves x∧(x= .exit 1∧∃c:Bool,s1=⟨[(0, .ptr 0 0),(1, .d (.int .i64 k)),(5, .ptr 384 0)],[(0, .cells [.row 1 0 0 m.S.length, .row 2 0 0 (J++i.labels.map B).length, .row 3 0 0 L.length, .nilsl, .row 4 0 0 m.l.length, .row 5 0 0 m.M.length, .row 6 0 0 m.P.length]),(1, .row 1 (intd m.S) 0 false false),(2, .row 4 (jds (J++i.labels.map B)) 0 false c),(3, .row 1 (intd L) 0 false false),(4, .row 5 (m.l.map TInstr.d) 0 true false),(5, .row 2 (m.M.map nestD) 0 false false),(6, .row 2 (stkds m.P) 0 false false),(384, .cells [.d (.int .i64 14), .d (.int .i64 i.a), .d (.int .i64 i.b), .d (.int .u64 i.k), .d (.list (i.labels.map (D.int .i64)))])]⟩):=by
  rw[←hr]
  refine loop_inv (J:=fun x s1=>x= .exit 1∧∃c:Bool,s1=⟨[(0, .ptr 0 0),(1, .d (.int .i64 k)),(5, .ptr 384 0)],[(0, .cells [.row 1 0 0 m.S.length, .row 2 0 0 (J++i.labels.map B).length, .row 3 0 0 L.length, .nilsl, .row 4 0 0 m.l.length, .row 5 0 0 m.M.length, .row 6 0 0 m.P.length]),(1, .row 1 (intd m.S) 0 false false),(2, .row 4 (jds (J++i.labels.map B)) 0 false c),(3, .row 1 (intd L) 0 false false),(4, .row 5 (m.l.map TInstr.d) 0 true false),(5, .row 2 (m.M.map nestD) 0 false false),(6, .row 2 (stkds m.P) 0 false false),(384, .cells [.d (.int .i64 14), .d (.int .i64 i.a), .d (.int .i64 i.b), .d (.int .u64 i.k), .d (.list (i.labels.map (D.int .i64)))])]⟩) i.labels.length (fun j z=> ∃c:Bool,z=⟨[(0, .ptr 0 0),(1, .d (.int .i64 k)),(5, .ptr 384 0),(107, .d (.list (i.labels.map (D.int .i64)))),(108, .d (.int .i64 i.labels.length)),(109, .d (.int .i64 j))],[(0, .cells [.row 1 0 0 m.S.length, .row 2 0 0 (J++(i.labels.take j).map B).length, .row 3 0 0 L.length, .nilsl, .row 4 0 0 m.l.length, .row 5 0 0 m.M.length, .row 6 0 0 m.P.length]),(1, .row 1 (intd m.S) 0 false false),(2, .row 4 (jds (J++(i.labels.take j).map B)) 0 false c),(3, .row 1 (intd L) 0 false false),(4, .row 5 (m.l.map TInstr.d) 0 true false),(5, .row 2 (m.M.map nestD) 0 false false),(6, .row 2 (stkds m.P) 0 false false),(384, .cells [.d (.int .i64 14), .d (.int .i64 i.a), .d (.int .i64 i.b), .d (.int .u64 i.k), .d (.list (i.labels.map (D.int .i64)))])]⟩) ?_ ?_ fu _ hll ⟨false,by simp only[List.take_zero,List.map_nil,List.append_nil];rfl⟩
  ·rintro j z hjl ⟨c,rfl⟩
   have hx:(i.labels.map (D.int .i64))[j]? =some (.int .i64 (i.labels.getD j 0)):=getD_map hjl
   have hv:i.labels.getD j 0∈i.labels:=by
    rw[List.getD_eq_getElem?_getD,List.getElem?_eq_getElem hjl];exact List.getElem_mem hjl
   have hP:(i.labels.take (j+1)).map B=(i.labels.take j).map B++[B (i.labels.getD j 0)]:=by
    rw[List.take_add_one,List.map_append,List.getD_eq_getElem?_getD,List.getElem?_eq_getElem hjl];rfl
   have hPl:((i.labels.take j).map B).length≤i.labels.length:=by rw[List.length_map,List.length_take];omega
   have hjI:(j:Int)<i.labels.length:=by omega
   have Wj:=wrap_i64 (show-9223372036854775808≤(j:Int)+1 by omega) (by omega)
   obtain⟨v1,v2⟩:=hla _ hv
   have X:=BB (some (J++(i.labels.take j).map B)) (fun j h=>by cases h;rw[List.length_append];omega) _ v1 v2
   rw[hP,←List.append_assoc]
   generalize J++(i.labels.take j).map B=Q at*
   generalize i.labels.getD j 0=y at*
   simp only[Mk.o,Mk.oJ,Mk.tl,List.cons_append,List.nil_append] at X
   simp(maxSteps:=10000000) only[go_sem,seval, -Nat.reduceSubDiff,↓reduceIte,reduceCtorEq,idx,hx,X,hjI,Wj]
   exact⟨_,_,rfl,true,rfl⟩
  ·rintro z ⟨c,rfl⟩
   simp(maxSteps:=10000000) only[go_sem,seval, -Nat.reduceSubDiff,↓reduceIte,reduceCtorEq,Int.lt_irrefl,List.take_length]
   exact⟨_,_,rfl,trivial,rfl,c,rfl⟩
 obtain⟨rfl,c,rfl⟩:=hF
 have X:=BB (some (J++i.labels.map B)) (fun j h=>by cases h;rw[List.length_append,List.length_map];omega) _ a1 a2
 have eQ:m.oJ (i.labels.map B++[B i.a]) (some J) (some L)=m.oJ [B i.a] (some (J++i.labels.map B)) (some L):=by simp only[Mk.oJ,List.append_assoc]
 rw[eQ]
 generalize J++i.labels.map B=Q at*
 simp only[Mk.o,Mk.oJ,Mk.tl,List.cons_append,List.nil_append] at X
 simp(maxSteps:=10000000) only[go_sem,seval, -Nat.reduceSubDiff,↓reduceIte,reduceCtorEq,X,Mk.oJ,Mk.tl,List.cons_append,List.nil_append]
end Go.Proofs.YtfpioigggjnffaaGreatDoor.E
set_option autoImplicit false
set_option maxRecDepth 100000
set_option maxHeartbeats 4000000
set_option pp.maxSteps 20000
namespace Go.Proofs.YtfpioigggjnffaaGreatDoor.E
open Go.Ev
theorem step14_ev (fu n:Nat) (m:Mk) (hm:MkOk fu m) (J:Option (List Jmp)) (L:Option (List Int)) (k:Nat) (hk:k<m.l.length) (hop:(m.l.getD k in0).op=14) (hla: ∀x∈(m.l.getD k in0).labels,0≤x∧x<(m.P.getD k stk0).ctrls.length) (ha:0≤(m.l.getD k in0).a∧(m.l.getD k in0).a<(m.P.getD k stk0).ctrls.length) (hll:(m.l.getD k in0).labels.length<fu) (hj: ∀j,J=some j→j.length+(m.l.getD k in0).labels.length<1000000) (hl2:(m.l.getD k in0).labels.length<900000):
 evF (G fu) (n+8) 74 [.ptr 0 0, .d (.int .i64 k), .d (m.l.getD k in0).d] (m.o J L)=some (.tup [],m.oJ (stepJ m.l m.S m.P k) J L):=by
 have hS:stepJ m.l m.S m.P k=(m.l.getD k in0).labels.map (branchJ m.l m.S m.P k)++[branchJ m.l m.S m.P k (m.l.getD k in0).a]:=by
  unfold stepJ
  simp only
  rw[if_neg (by rw[hop];decide),if_neg (by rw[hop];decide),if_neg (by rw[hop];decide),if_pos hop]
 rw[hS]
 have BB: ∀(J':Option (List Jmp)),(∀j,J'=some j→j.length<1000000)→∀lab:Int,0≤lab→lab<((m.P.getD k stk0).ctrls.length:Int)→evF (G fu) (n+7) 137 [.ptr 0 0, .d (.int .i64 k), .d (.int .i64 lab)] (m.o J' L)=some (.tup [],m.oJ [branchJ m.l m.S m.P k lab] J' L):=by
  intro J' hJ' lab h0 h1
  obtain⟨x,rfl⟩: ∃x:Nat,lab=x:=⟨lab.toNat,by omega⟩
  exact branch_ev fu n m hm J' L k x hk (by omega) hJ'
 cases J with
 |none=>
  cases L with
  |none=>exact step14a fu n m k _ hop _ _ hla ha hll hl2 BB
  |some L=>exact step14b fu n m L k _ hop _ _ hla ha hll hl2 BB
 |some J=>
  cases L with
  |none=>exact step14c fu n m J k _ hop _ _ hla ha hll (hj J rfl) hl2 BB
  |some L=>exact step14d fu n m J L k _ hop _ _ hla ha hll (hj J rfl) hl2 BB
end Go.Proofs.YtfpioigggjnffaaGreatDoor.E
