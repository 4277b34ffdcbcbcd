/- R9, MB, R10, K1, K3, K4, L5. -/
import Derived.Test.YtfpioigggjnffaaGreatDoorQ11
import Derived.Test.YtfpioigggjnffaaGreatDoorQ5
import Derived.Test.YtfpioigggjnffaaGreatDoorEvD
import Derived.KernelRfl
import Derived.Test.YtfpioigggjnffaaGreatDoorF8
set_option linter.unnecessarySimpa false
set_option linter.unusedSimpArgs false
set_option linter.unusedVariables false
set_option autoImplicit false
set_option maxRecDepth 100000
set_option maxHeartbeats 4000000
set_option pp.maxSteps 20000
namespace Go.Proofs.YtfpioigggjnffaaGreatDoor.E
open Go.Ev
def str8 (l:List Int):List UInt8:=l.map fun n=>UInt8.ofNat n.toNat
theorem fin_cases {l:List Int} (h:finB l=true):l=[]∨l=[126]∨l=[127]:=by
 match l,h with
 |[],_=>exact .inl rfl
 |[c],h=>
  simp only[finB,valB,Bool.or_eq_true,beq_iff_eq] at h
  rcases h with rfl|rfl
  ·exact .inr (.inl rfl)
  ·exact .inr (.inr rfl)
theorem str_eq {a b:List Int} (ha:finB a=true) (hb:finB b=true):(str8 a=str8 b)↔a=b:=by
 rcases fin_cases ha with rfl|rfl|rfl<;>rcases fin_cases hb with rfl|rfl|rfl<;>decide
theorem rret_ev (fu n b:Nat) (e:TEnv) (he:ESm e) (w:WkS) (hb:b+100<fu) (hm:b+100<1000000) (h:Rm b w.s) (i:TInstr) (hop:i.op=15):evF (G fu) (n+7) 54 [.ptr 0 0, .d e.dd, .d i.d] [.cells (wk w)]=some (.tup [],[.cells (wk (branchS e w i))]):=by
 have hr:=he.results
 have P1:=wwant_ev fu (n+1) w e.results (h.ok (by omega) (by omega)) (by omega) (by omega)
 have P2:=wkill_ev fu n (w.want e.results) ((h.want _).ok (by omega) (by omega))
 unfold branchS
 rw[if_pos hop]
 rw[evF.eq_2,evX.eq_def,Gext,exts_no _ (f:=54) (by decide),GP,Tryz.func54];simp only[Tryz.f54,evB]
 simp only[go_sem,Nat.reduceAdd,Nat.reduceMul,Nat.reduceSub,Nat.reduceLT,Nat.reduceLeDiff,Nat.reduceEqDiff,Nat.reduceBEq,Nat.reduceBeqDiff,Int.reduceEq,Int.reduceLT,Int.reduceLE,Int.reduceToNat,Int.reduceNeg,Int.reduceAdd,Int.reduceSub,Int.reduceMul,reduceIte,reduceCtorEq,Nat.reducePow,Nat.reduceDiv,Nat.reduceMod,Int.reduceBEq,TEnv.dd,TInstr.d,hop,P1,P2]
theorem labelsS_cat (w:WkS) (t a b:List Int):labelsS w t (a++b)=labelsS (labelsS w t a) t b:=by
 induction a generalizing w with
 |nil=>rfl
 |cons x a ih=>exact ih _
theorem labelsS_step9 (w:WkS) (t:List Int) {l:List Int} {k:Nat} {x:Int} (hx:l[k]? =some x):labelsS w t (l.take (k+1))=((labelsS w t (l.take k)).label x).2.must (((labelsS w t (l.take k)).label x).1==t) 5:=by
 rw[List.take_add_one,hx,labelsS_cat]
 rfl
theorem Rm.labels9 {b:Nat} {t:List Int}: ∀{l:List Int} {w:WkS},Rm b w.s→Rm b (labelsS w t l).s
 |[],w,h=>h
 |x::l,w,h=>Rm.labels9 (l:=l) ((h.label x).must _ _)
theorem beq_str {a b:List Int} (ha:finB a=true) (hb:finB b=true):decide (str8 a=str8 b)=(a==b):=by
 by_cases h:a=b
 ·simp[h]
 ·have: ¬str8 a=str8 b:=fun e=>h ((str_eq ha hb).1 e)
  simp[h,this]
theorem strOf8 (l:List Int):strOf (byt l)=some (str8 l):=strOf_byt l
theorem rbranch_ev (fu n b:Nat) (e:TEnv) (he:ESm e) (w:WkS) (hb:b+100<fu) (hm:b+100<1000000) (h:Rm b w.s) (i:TInstr) (hop: ¬i.op=15) (hi: -9223372036854775808≤i.a∧i.a≤9223372036854775807) (hl:i.labels.length<fu) (hl2:i.labels.length<1000000) (hls: ∀x∈i.labels, -9223372036854775808≤x∧x≤9223372036854775807):evF (G fu) (n+7) 54 [.ptr 0 0, .d e.dd, .d i.d] [.cells (wk w)]=some (.tup [],[.cells (wk (branchS e w i))]):=by
 have I:=i32_ev fu (n+5)
 simp only[byt1] at I
 unfold branchS
 rw[if_neg hop]
 rw[evF.eq_2,evX.eq_def,Gext,exts_no _ (f:=54) (by decide),GP,Tryz.func54];simp only[Tryz.f54,evB]
 have hT:=label_fin w i.a
 have h0:=h.label i.a
 rcases wlabel_ev fu n b w hb hm h i.a hi with L|⟨hl0,L⟩
 ·simp only[go_sem,Nat.reduceAdd,Nat.reduceMul,Nat.reduceSub,Nat.reduceLT,Nat.reduceLeDiff,Nat.reduceEqDiff,Nat.reduceBEq,Nat.reduceBeqDiff,Int.reduceEq,Int.reduceLT,Int.reduceLE,Int.reduceToNat,Int.reduceNeg,Int.reduceAdd,Int.reduceSub,Int.reduceMul,reduceIte,reduceCtorEq,Nat.reducePow,Nat.reduceDiv,Nat.reduceMod,Int.reduceBEq,TEnv.dd,TInstr.d,hop,L,List.length_map]
  generalize(w.label i.a).1=t at*
  generalize(w.label i.a).2=w0 at*
  rw[loop_some i.labels.length (fun k=>⟨[(0,V.ptr 0 0),(5,V.ptr 384 0),(6,V.d (D.list (byt t))),(7,V.d (D.int .i64 k))],[(0, .cells (wk (labelsS w0 t (i.labels.take k)))),(384, .cells [V.d (D.int .i64 i.op),V.d (D.int .i64 i.a),V.d (D.int .i64 i.b),V.d (D.int .u64 i.k),V.d (D.list (i.labels.map (D.int .i64)))])]⟩)
   (.exit 0,⟨[(0,V.ptr 0 0),(5,V.ptr 384 0),(6,V.d (D.list (byt t)))],[(0, .cells (wk (labelsS w0 t i.labels))),(384, .cells [V.d (D.int .i64 i.op),V.d (D.int .i64 i.a),V.d (D.int .i64 i.b),V.d (D.int .u64 i.k),V.d (D.list (i.labels.map (D.int .i64)))])]⟩) trivial hl ?_]
  case hs=>
   intro k hk
   have hx:(i.labels.map (D.int .i64))[k]? =some (.int .i64 (i.labels.getD k 0)):=getD_map hk
   have hy:i.labels[k]? =some (i.labels.getD k 0):=by simp[hk]
   have hr:=hls _ (List.mem_of_getElem? hy)
   rw[labelsS_step9 w0 t hy]
   generalize i.labels.getD k 0=x at*
   have hw1:Rm b (labelsS w0 t (i.labels.take k)).s:=Rm.labels9 h0
   generalize labelsS w0 t (i.labels.take k)=w1 at*
   have hf:=label_fin w1 x
   have hkI:(k:Int)<i.labels.length:=by omega
   have W:=wrap_i64 (show-9223372036854775808≤(k:Int)+1 by omega) (by omega)
   have M:=wmust_ev fu (n+5) (w1.label x).2 ((w1.label x).1==t) 5
   rw[←beq_str hf hT] at M ⊢
   rcases wlabel_ev fu n b w1 hb hm hw1 x hr with L1|⟨hl1,L1⟩
   ·simp only[go_sem,Nat.reduceAdd,Nat.reduceMul,Nat.reduceSub,Nat.reduceLT,Nat.reduceLeDiff,Nat.reduceEqDiff,Nat.reduceBEq,Nat.reduceBeqDiff,Int.reduceEq,Int.reduceLT,Int.reduceLE,Int.reduceToNat,Int.reduceNeg,Int.reduceAdd,Int.reduceSub,Int.reduceMul,reduceIte,reduceCtorEq,Nat.reducePow,Nat.reduceDiv,Nat.reduceMod,Int.reduceBEq,hkI,idx,hx,L1,List.length_map,strOf8,M,W]
    rfl
   ·rw[hl1] at M ⊢
    have e0:str8 []=[]:=rfl
    have e1:strOf []=some []:=rfl
    rw[e0] at M ⊢
    simp only[go_sem,Nat.reduceAdd,Nat.reduceMul,Nat.reduceSub,Nat.reduceLT,Nat.reduceLeDiff,Nat.reduceEqDiff,Nat.reduceBEq,Nat.reduceBeqDiff,Int.reduceEq,Int.reduceLT,Int.reduceLE,Int.reduceToNat,Int.reduceNeg,Int.reduceAdd,Int.reduceSub,Int.reduceMul,reduceIte,reduceCtorEq,Nat.reducePow,Nat.reduceDiv,Nat.reduceMod,Int.reduceBEq,hkI,idx,hx,L1,List.length_map,strOf8,e1,M,W]
    rfl
  case he=>
   simp only[go_sem,Nat.reduceAdd,Nat.reduceMul,Nat.reduceSub,Nat.reduceLT,Nat.reduceLeDiff,Nat.reduceEqDiff,Nat.reduceBEq,Nat.reduceBeqDiff,Int.reduceEq,Int.reduceLT,Int.reduceLE,Int.reduceToNat,Int.reduceNeg,Int.reduceAdd,Int.reduceSub,Int.reduceMul,reduceIte,reduceCtorEq,Nat.reducePow,Nat.reduceDiv,Nat.reduceMod,Int.reduceBEq,List.length_map,Int.lt_irrefl,List.take_length]
  ·have hw1:Rm b (labelsS w0 t i.labels).s:=Rm.labels9 h0
   generalize labelsS w0 t i.labels=w1 at*
   have ht1:=finB_len hT
   have P0:=wwant_ev fu (n+1) w1 [127] (hw1.ok (by omega) (by omega)) (by simp;omega) (by simp)
   simp only[byt1] at P0
   have PW:=fun(w2:WkS) (h2:Rm b w2.s)=>wwant_ev fu (n+1) w2 t (h2.ok (by omega) (by omega)) (by omega) (by omega)
   have PP:=fun(w2:WkS) (h2:Rm b w2.s)=>wpush_ev fu n w2 t (h2.ok (by omega) (by omega)) (by omega) (by omega)
   have PK:=fun(w2:WkS) (h2:Rm b w2.s)=>wkill_ev fu n w2 (h2.ok (by omega) (by omega))
   by_cases h12:i.op=12
   ·have Q1:=PW w1 hw1
    have Q2:=PK _ (hw1.want t)
    simp only[h12,if_true,show ¬(12:Int)=13 by decide,if_false]
    simp only[go_sem,Nat.reduceAdd,Nat.reduceMul,Nat.reduceSub,Nat.reduceLT,Nat.reduceLeDiff,Nat.reduceEqDiff,Nat.reduceBEq,Nat.reduceBeqDiff,Int.reduceEq,Int.reduceLT,Int.reduceLE,Int.reduceToNat,Int.reduceNeg,Int.reduceAdd,Int.reduceSub,Int.reduceMul,reduceIte,reduceCtorEq,Nat.reducePow,Nat.reduceDiv,Nat.reduceMod,Int.reduceBEq,I,h12,Q1,Q2]
   ·have Q1:=PW _ (hw1.want [127])
    have Q2:=PK _ ((hw1.want [127]).want t)
    have Q3:=PP _ ((hw1.want [127]).want t)
    by_cases h13:i.op=13
    ·simp only[h13,if_true,show ¬(13:Int)=12 by decide,if_false]
     simp only[go_sem,Nat.reduceAdd,Nat.reduceMul,Nat.reduceSub,Nat.reduceLT,Nat.reduceLeDiff,Nat.reduceEqDiff,Nat.reduceBEq,Nat.reduceBeqDiff,Int.reduceEq,Int.reduceLT,Int.reduceLE,Int.reduceToNat,Int.reduceNeg,Int.reduceAdd,Int.reduceSub,Int.reduceMul,reduceIte,reduceCtorEq,Nat.reducePow,Nat.reduceDiv,Nat.reduceMod,Int.reduceBEq,I,h13,P0,Q1,Q3]
    ·simp only[h12,h13,if_false]
     simp only[go_sem,Nat.reduceAdd,Nat.reduceMul,Nat.reduceSub,Nat.reduceLT,Nat.reduceLeDiff,Nat.reduceEqDiff,Nat.reduceBEq,Nat.reduceBeqDiff,Int.reduceEq,Int.reduceLT,Int.reduceLE,Int.reduceToNat,Int.reduceNeg,Int.reduceAdd,Int.reduceSub,Int.reduceMul,reduceIte,reduceCtorEq,Nat.reducePow,Nat.reduceDiv,Nat.reduceMod,Int.reduceBEq,I,h12,h13,P0,Q1,Q2]
  ·rfl
 ·rw[hl0]
  simp only[go_sem,Nat.reduceAdd,Nat.reduceMul,Nat.reduceSub,Nat.reduceLT,Nat.reduceLeDiff,Nat.reduceEqDiff,Nat.reduceBEq,Nat.reduceBeqDiff,Int.reduceEq,Int.reduceLT,Int.reduceLE,Int.reduceToNat,Int.reduceNeg,Int.reduceAdd,Int.reduceSub,Int.reduceMul,reduceIte,reduceCtorEq,Nat.reducePow,Nat.reduceDiv,Nat.reduceMod,Int.reduceBEq,TEnv.dd,TInstr.d,hop,L,List.length_map]
  have e0:str8 []=[]:=rfl
  have e1:strOf []=some []:=rfl
  rw[hl0] at hT
  generalize(w.label i.a).2=w0 at*
  rw[loop_some i.labels.length (fun k=>⟨[(0,V.ptr 0 0),(5,V.ptr 384 0),(6,V.row 1408 0 0 0),(7,V.d (D.int .i64 k))],[(0, .cells (wk (labelsS w0 [] (i.labels.take k)))),(384, .cells [V.d (D.int .i64 i.op),V.d (D.int .i64 i.a),V.d (D.int .i64 i.b),V.d (D.int .u64 i.k),V.d (D.list (i.labels.map (D.int .i64)))]),(1408, .row 1 [] 0 false false)]⟩)
   (.exit 0,⟨[(0,V.ptr 0 0),(5,V.ptr 384 0),(6,V.row 1408 0 0 0)],[(0, .cells (wk (labelsS w0 [] i.labels))),(384, .cells [V.d (D.int .i64 i.op),V.d (D.int .i64 i.a),V.d (D.int .i64 i.b),V.d (D.int .u64 i.k),V.d (D.list (i.labels.map (D.int .i64)))]),(1408, .row 1 [] 0 false false)]⟩) trivial hl ?_]
  case hs=>
   intro k hk
   have hx:(i.labels.map (D.int .i64))[k]? =some (.int .i64 (i.labels.getD k 0)):=getD_map hk
   have hy:i.labels[k]? =some (i.labels.getD k 0):=by simp[hk]
   have hr:=hls _ (List.mem_of_getElem? hy)
   rw[labelsS_step9 w0 [] hy]
   generalize i.labels.getD k 0=x at*
   have hw1:Rm b (labelsS w0 [] (i.labels.take k)).s:=Rm.labels9 h0
   generalize labelsS w0 [] (i.labels.take k)=w1 at*
   have hf:=label_fin w1 x
   have hkI:(k:Int)<i.labels.length:=by omega
   have W:=wrap_i64 (show-9223372036854775808≤(k:Int)+1 by omega) (by omega)
   have M:=wmust_ev fu (n+5) (w1.label x).2 ((w1.label x).1==[]) 5
   rw[←beq_str hf hT,e0] at M ⊢
   rcases wlabel_ev fu n b w1 hb hm hw1 x hr with L1|⟨hl1,L1⟩
   ·simp only[go_sem,Nat.reduceAdd,Nat.reduceMul,Nat.reduceSub,Nat.reduceLT,Nat.reduceLeDiff,Nat.reduceEqDiff,Nat.reduceBEq,Nat.reduceBeqDiff,Int.reduceEq,Int.reduceLT,Int.reduceLE,Int.reduceToNat,Int.reduceNeg,Int.reduceAdd,Int.reduceSub,Int.reduceMul,reduceIte,reduceCtorEq,Nat.reducePow,Nat.reduceDiv,Nat.reduceMod,Int.reduceBEq,hkI,idx,hx,L1,List.length_map,strOf8,e1,M,W]
    rfl
   ·rw[hl1,e0,show decide (([]:List UInt8)=[])=true from rfl] at M ⊢
    simp only[go_sem,Nat.reduceAdd,Nat.reduceMul,Nat.reduceSub,Nat.reduceLT,Nat.reduceLeDiff,Nat.reduceEqDiff,Nat.reduceBEq,Nat.reduceBeqDiff,Int.reduceEq,Int.reduceLT,Int.reduceLE,Int.reduceToNat,Int.reduceNeg,Int.reduceAdd,Int.reduceSub,Int.reduceMul,reduceIte,reduceCtorEq,Nat.reducePow,Nat.reduceDiv,Nat.reduceMod,Int.reduceBEq,hkI,idx,hx,L1,List.length_map,strOf8,e1,M,W]
    rfl
  case he=>
   simp only[go_sem,Nat.reduceAdd,Nat.reduceMul,Nat.reduceSub,Nat.reduceLT,Nat.reduceLeDiff,Nat.reduceEqDiff,Nat.reduceBEq,Nat.reduceBeqDiff,Int.reduceEq,Int.reduceLT,Int.reduceLE,Int.reduceToNat,Int.reduceNeg,Int.reduceAdd,Int.reduceSub,Int.reduceMul,reduceIte,reduceCtorEq,Nat.reducePow,Nat.reduceDiv,Nat.reduceMod,Int.reduceBEq,List.length_map,Int.lt_irrefl,List.take_length]
  ·have hw1:Rm b (labelsS w0 [] i.labels).s:=Rm.labels9 h0
   generalize labelsS w0 [] i.labels=w1 at*
   have ht1:=finB_len hT
   have P0:=wwant_ev fu (n+1) w1 [127] (hw1.ok (by omega) (by omega)) (by simp;omega) (by simp)
   simp only[byt1,byt0] at P0
   have PW:=fun(w2:WkS) (h2:Rm b w2.s)=>wwant_ev fu (n+1) w2 [] (h2.ok (by omega) (by omega)) (by omega) (by omega)
   have PP:=fun(w2:WkS) (h2:Rm b w2.s)=>wpush_ev fu n w2 [] (h2.ok (by omega) (by omega)) (by omega) (by omega)
   have PK:=fun(w2:WkS) (h2:Rm b w2.s)=>wkill_ev fu n w2 (h2.ok (by omega) (by omega))
   simp only[byt0] at PW PP
   by_cases h12:i.op=12
   ·have Q1:=PW w1 hw1
    have Q2:=PK _ (hw1.want [])
    simp only[h12,if_true,show ¬(12:Int)=13 by decide,if_false]
    simp only[go_sem,Nat.reduceAdd,Nat.reduceMul,Nat.reduceSub,Nat.reduceLT,Nat.reduceLeDiff,Nat.reduceEqDiff,Nat.reduceBEq,Nat.reduceBeqDiff,Int.reduceEq,Int.reduceLT,Int.reduceLE,Int.reduceToNat,Int.reduceNeg,Int.reduceAdd,Int.reduceSub,Int.reduceMul,reduceIte,reduceCtorEq,Nat.reducePow,Nat.reduceDiv,Nat.reduceMod,Int.reduceBEq,I,h12,Q1,Q2]
   ·have Q1:=PW _ (hw1.want [127])
    have Q2:=PK _ ((hw1.want [127]).want [])
    have Q3:=PP _ ((hw1.want [127]).want [])
    by_cases h13:i.op=13
    ·simp only[h13,if_true,show ¬(13:Int)=12 by decide,if_false]
     simp only[go_sem,Nat.reduceAdd,Nat.reduceMul,Nat.reduceSub,Nat.reduceLT,Nat.reduceLeDiff,Nat.reduceEqDiff,Nat.reduceBEq,Nat.reduceBeqDiff,Int.reduceEq,Int.reduceLT,Int.reduceLE,Int.reduceToNat,Int.reduceNeg,Int.reduceAdd,Int.reduceSub,Int.reduceMul,reduceIte,reduceCtorEq,Nat.reducePow,Nat.reduceDiv,Nat.reduceMod,Int.reduceBEq,I,h13,P0,Q1,Q3]
    ·simp only[h12,h13,if_false]
     simp only[go_sem,Nat.reduceAdd,Nat.reduceMul,Nat.reduceSub,Nat.reduceLT,Nat.reduceLeDiff,Nat.reduceEqDiff,Nat.reduceBEq,Nat.reduceBeqDiff,Int.reduceEq,Int.reduceLT,Int.reduceLE,Int.reduceToNat,Int.reduceNeg,Int.reduceAdd,Int.reduceSub,Int.reduceMul,reduceIte,reduceCtorEq,Nat.reducePow,Nat.reduceDiv,Nat.reduceMod,Int.reduceBEq,I,h12,h13,P0,Q1,Q2]
  ·rfl
end Go.Proofs.YtfpioigggjnffaaGreatDoor.E
set_option autoImplicit false
set_option maxRecDepth 100000
set_option maxHeartbeats 4000000
set_option pp.maxSteps 20000
namespace Go.Proofs.YtfpioigggjnffaaGreatDoor.E
open Go.Ev
theorem rAcc_at (fu n:Nat): ∀k:Nat,k<23→evF (G fu) (n+1) 119 [.d (.int .i64 ((40+k:Nat):Int))] []=accR (accT.getD k (0,0,false,false)):=fun k h=>match k,h with
 |0,_=>by kernel_rfl
 |1,_=>by kernel_rfl
 |2,_=>by kernel_rfl
 |3,_=>by kernel_rfl
 |4,_=>by kernel_rfl
 |5,_=>by kernel_rfl
 |6,_=>by kernel_rfl
 |7,_=>by kernel_rfl
 |8,_=>by kernel_rfl
 |9,_=>by kernel_rfl
 |10,_=>by kernel_rfl
 |11,_=>by kernel_rfl
 |12,_=>by kernel_rfl
 |13,_=>by kernel_rfl
 |14,_=>by kernel_rfl
 |15,_=>by kernel_rfl
 |16,_=>by kernel_rfl
 |17,_=>by kernel_rfl
 |18,_=>by kernel_rfl
 |19,_=>by kernel_rfl
 |20,_=>by kernel_rfl
 |21,_=>by kernel_rfl
 |22,_=>by kernel_rfl
 |_+23,h=>absurd h (by omega)
theorem rAcc_ev (fu n:Nat) (op:Int):evF (G fu) (n+1) 119 [.d (.int .i64 op)] []=accR (accF op):=by
 unfold accF
 by_cases h:40≤op∧op≤62
 ·rw[if_pos h]
  have:=rAcc_at fu n (op-40).toNat (by omega)
  rwa [show((40+(op-40).toNat:Nat):Int)=op by omega] at this
 ·rw[if_neg h]
  unfold accR
  rw[evF.eq_2,evX.eq_def,Gext,exts_no _ (f:=119) (by decide),GP,Tryz.func119];simp only[Tryz.f119,evB]
  simp(maxSteps:=1000000) only[go_sem,Nat.reduceAdd,Nat.reduceMul,Nat.reduceSub,Nat.reduceLT,Nat.reduceLeDiff,Nat.reduceEqDiff,Nat.reduceBEq,Nat.reduceBeqDiff,Int.reduceEq,Int.reduceLT,Int.reduceLE,Int.reduceToNat,Int.reduceNeg,Int.reduceAdd,Int.reduceSub,Int.reduceMul,reduceIte,reduceCtorEq,Nat.reducePow,Nat.reduceDiv,Nat.reduceMod,Int.reduceBEq,show ¬op=(40:Int) by omega,show ¬op=(41:Int) by omega,show ¬op=(44:Int) by omega,show ¬op=(45:Int) by omega,show ¬op=(46:Int) by omega,show ¬op=(47:Int) by omega,show ¬op=(48:Int) by omega,show ¬op=(49:Int) by omega,show ¬op=(50:Int) by omega,show ¬op=(51:Int) by omega,show ¬op=(52:Int) by omega,show ¬op=(53:Int) by omega,show ¬op=(54:Int) by omega,show ¬op=(55:Int) by omega,show ¬op=(58:Int) by omega,show ¬op=(59:Int) by omega,show ¬op=(60:Int) by omega,show ¬op=(61:Int) by omega,show ¬op=(62:Int) by omega]
end Go.Proofs.YtfpioigggjnffaaGreatDoor.E
set_option autoImplicit false
set_option maxRecDepth 100000
set_option maxHeartbeats 4000000
set_option pp.maxSteps 20000
namespace Go.Proofs.YtfpioigggjnffaaGreatDoor.E
open Go.Ev
theorem and3 {a:Int} (h0:0≤a) (h3:a≤3):bits2 .and .i64 a 3=a:=by
 have:a=0∨a=1∨a=2∨a=3:=by omega
 rcases this with rfl|rfl|rfl|rfl<;>decide
theorem wrap_u64_3 {a:Int} (h0:0≤a) (h3:a≤3):IntKind.wrap .u64 a=a:=by
 have:a=0∨a=1∨a=2∨a=3:=by omega
 rcases this with rfl|rfl|rfl|rfl<;>decide
theorem shl_3 {a:Int} (h0:0≤a) (h3:a≤3):shl .i64 1 a=2^a.toNat:=by
 have:a=0∨a=1∨a=2∨a=3:=by omega
 rcases this with rfl|rfl|rfl|rfl<;>decide
theorem rmemory_ev (fu n b:Nat) (e:TEnv) (w:WkS) (hb:b+100<fu) (hm:b+100<1000000) (h:Rm b w.s) (i:TInstr) (ha:0≤i.a):evF (G fu) (n+7) 58 [.ptr 0 0, .d e.dd, .d i.d] [.cells (wk w)]=some (.tup [],[.cells (wk (memoryS accE e w i))]):=by
 obtain⟨op,a,b',kk,lb⟩:=i
 simp only at ha
 have A:=rAcc_ev fu (n+5) op
 unfold accR at A
 have I:=i32_ev fu (n+5)
 have P1:=wmust_ev fu (n+5) w (decide (0<e.mems)) 6
 have r1:Rm b (w.must (decide (0<e.mems)) 6).s:=h.must _ _
 have PW1:=fun(w1:WkS) (h1:Rm b w1.s) (x:Int)=>wwant_ev fu (n+1) w1 [x] (h1.ok (by omega) (by omega)) (by simp;omega) (by simp)
 have PW2:=fun(w1:WkS) (h1:Rm b w1.s) (x y:Int)=>wwant_ev fu (n+1) w1 [x,y] (h1.ok (by omega) (by omega)) (by simp;omega) (by simp)
 have PP:=fun(w1:WkS) (h1:Rm b w1.s) (t:Int)=>wpush_ev fu n w1 [t] (h1.ok (by omega) (by omega)) (by simp;omega) (by simp)
 have M2:=fun x=>wmust_ev fu (n+5) (w.must (decide (0<e.mems)) 6) x 5
 have r2:=fun x=>r1.must x 5
 simp only[byt1,byt2] at I PW1 PW2 PP
 unfold memoryS
 simp only[accE]
 generalize w.must (decide (0<e.mems)) 6=w1 at*
 obtain⟨r,hr⟩: ∃r,accF op=r:=⟨_,rfl⟩
 obtain⟨t,m,sg,st⟩:=r
 simp only[hr] at A ⊢
 rw[evF.eq_2,evX.eq_def,Gext,exts_no _ (f:=58) (by decide),GP,Tryz.func58];simp only[Tryz.f58,evB]
 by_cases h63:op=63
 ·subst h63
  have Q1:=PP _ r1 127
  simp only[go_sem,Nat.reduceAdd,Nat.reduceMul,Nat.reduceSub,Nat.reduceLT,Nat.reduceLeDiff,Nat.reduceEqDiff,Nat.reduceBEq,Nat.reduceBeqDiff,Int.reduceEq,Int.reduceLT,Int.reduceLE,Int.reduceToNat,Int.reduceNeg,Int.reduceAdd,Int.reduceSub,Int.reduceMul,reduceIte,reduceCtorEq,Nat.reducePow,Nat.reduceDiv,Nat.reduceMod,Int.reduceBEq,TEnv.dd,TInstr.d,A,I,P1,Q1]
 rw[if_neg h63]
 by_cases h64:op=64
 ·subst h64
  have Q1:=PW1 _ r1 127
  have Q2:=PP _ (r1.want [127]) 127
  simp only[go_sem,Nat.reduceAdd,Nat.reduceMul,Nat.reduceSub,Nat.reduceLT,Nat.reduceLeDiff,Nat.reduceEqDiff,Nat.reduceBEq,Nat.reduceBeqDiff,Int.reduceEq,Int.reduceLT,Int.reduceLE,Int.reduceToNat,Int.reduceNeg,Int.reduceAdd,Int.reduceSub,Int.reduceMul,reduceIte,reduceCtorEq,Nat.reducePow,Nat.reduceDiv,Nat.reduceMod,Int.reduceBEq,TEnv.dd,TInstr.d,A,I,P1,Q1,Q2]
 rw[if_neg h64]
 by_cases c3:a≤3
 ·have E1:=and3 ha c3
  have E2:=wrap_u64_3 ha c3
  have E3:=shl_3 ha c3
  have hn: ¬a<0:=by omega
  simp only[c3,decide_true,Bool.true_and]
  have Mx:=M2 (decide ((2:Int)^a.toNat≤m))
  have rx:=r2 (decide ((2:Int)^a.toNat≤m))
  generalize w1.must (decide ((2:Int)^a.toNat≤m)) 5=w2 at*
  have Q1:=PW1 _ rx 127
  have Q2:=PP _ (rx.want [127]) t
  have Q3:=PW2 _ rx 127 t
  cases st with
  |true=>simp only[go_sem,Nat.reduceAdd,Nat.reduceMul,Nat.reduceSub,Nat.reduceLT,Nat.reduceLeDiff,Nat.reduceEqDiff,Nat.reduceBEq,Nat.reduceBeqDiff,Int.reduceEq,Int.reduceLT,Int.reduceLE,Int.reduceToNat,Int.reduceNeg,Int.reduceAdd,Int.reduceSub,Int.reduceMul,reduceIte,reduceCtorEq,Nat.reducePow,Nat.reduceDiv,Nat.reduceMod,Int.reduceBEq,TEnv.dd,TInstr.d,h63,h64,A,I,P1,c3,hn,E1,E2,E3,Mx,Q3]
  |false=>simp only[go_sem,Nat.reduceAdd,Nat.reduceMul,Nat.reduceSub,Nat.reduceLT,Nat.reduceLeDiff,Nat.reduceEqDiff,Nat.reduceBEq,Nat.reduceBeqDiff,Int.reduceEq,Int.reduceLT,Int.reduceLE,Int.reduceToNat,Int.reduceNeg,Int.reduceAdd,Int.reduceSub,Int.reduceMul,reduceIte,reduceCtorEq,Nat.reducePow,Nat.reduceDiv,Nat.reduceMod,Int.reduceBEq,TEnv.dd,TInstr.d,h63,h64,A,I,P1,c3,hn,E1,E2,E3,Mx,Q1,Q2]
 ·simp only[c3,decide_false,Bool.false_and]
  have Mx:=M2 false
  have rx:=r2 false
  generalize w1.must false 5=w2 at*
  have Q1:=PW1 _ rx 127
  have Q2:=PP _ (rx.want [127]) t
  have Q3:=PW2 _ rx 127 t
  cases st with
  |true=>simp only[go_sem,Nat.reduceAdd,Nat.reduceMul,Nat.reduceSub,Nat.reduceLT,Nat.reduceLeDiff,Nat.reduceEqDiff,Nat.reduceBEq,Nat.reduceBeqDiff,Int.reduceEq,Int.reduceLT,Int.reduceLE,Int.reduceToNat,Int.reduceNeg,Int.reduceAdd,Int.reduceSub,Int.reduceMul,reduceIte,reduceCtorEq,Nat.reducePow,Nat.reduceDiv,Nat.reduceMod,Int.reduceBEq,TEnv.dd,TInstr.d,h63,h64,A,I,P1,c3,Mx,Q3]
  |false=>simp only[go_sem,Nat.reduceAdd,Nat.reduceMul,Nat.reduceSub,Nat.reduceLT,Nat.reduceLeDiff,Nat.reduceEqDiff,Nat.reduceBEq,Nat.reduceBeqDiff,Int.reduceEq,Int.reduceLT,Int.reduceLE,Int.reduceToNat,Int.reduceNeg,Int.reduceAdd,Int.reduceSub,Int.reduceMul,reduceIte,reduceCtorEq,Nat.reducePow,Nat.reduceDiv,Nat.reduceMod,Int.reduceBEq,TEnv.dd,TInstr.d,h63,h64,A,I,P1,c3,Mx,Q1,Q2]
end Go.Proofs.YtfpioigggjnffaaGreatDoor.E
set_option autoImplicit false
namespace Go.Proofs.YtfpioigggjnffaaGreatDoor.E
open Go.Ev
def Bs (l:List Int):Prop:=∀x∈l,0≤x∧x<256
theorem Bs.nil:Bs []:=fun x h=>absurd h (by simp)
theorem Bs.cons {c:Int} {l:List Int} (h:0≤c∧c<256) (hl:Bs l):Bs (c::l):=fun x hx=>by
 rcases List.mem_cons.1 hx with rfl|hx
 ·exact h
 ·exact hl x hx
theorem Bs.append {l m:List Int} (h:Bs l) (h2:Bs m):Bs (l++m):=fun x hx=>by
 rcases List.mem_append.1 hx with hx|hx
 ·exact h x hx
 ·exact h2 x hx
theorem Bs.drop {l:List Int} (h:Bs l) (n:Nat):Bs (l.drop n):=fun x hx=>h x (List.mem_of_mem_drop hx)
theorem Bs.take {l:List Int} (h:Bs l) (n:Nat):Bs (l.take n):=fun x hx=>h x (List.mem_of_mem_take hx)
theorem all256 {p:Int→Bool} (h:(List.range 256).all (fun n=>p (n:Int))=true) {c:Int} (h0:0≤c) (h1:c<256):p c=true:=by
 have:=List.all_eq_true.1 h c.toNat (by simp;omega)
 rwa [Int.toNat_of_nonneg h0] at this
def ulebF:Nat→Int→List Int
 |0,_=>[]
 |f+1,v=>if v≥128 then(v%128+128)::ulebF f (v / 128) else[v]
def uleb (v:Int):List Int:=ulebF 10 v
def slebF:Nat→Int→List Int
 |0,_=>[]
 |f+1,v=>if v< -64∨v≥64 then(v%128+128)::slebF f (v / 128) else[v%128]
def sleb (v:Int):List Int:=slebF 10 v
def scan:Nat→List Int→Except Int (List Int)
 |0,_=> .error 3
 |_+1,[]=> .error 2
 |f+1,c::l=>if c<128 then .ok [c] else match scan f l with
  | .error e=> .error e
  | .ok ds=> .ok (c::ds)
end Go.Proofs.YtfpioigggjnffaaGreatDoor.E
set_option autoImplicit false
namespace Go.Proofs.YtfpioigggjnffaaGreatDoor.E
open Go.Ev
theorem kd_out (x:Int) (h:x<0∨173<x):kindF x=0:=by
 have:spanL.find? (inSpan x)=none:=by
  rw[List.find?_eq_none]
  intro s hs
  have:0≤s.1∧s.2.1≤173:=by
   have:=List.all_eq_true.1 (show spanL.all (fun s=>decide (0≤s.1∧s.2.1≤173))=true by kernel_rfl) s hs
   simpa using this
  simp only[inSpan,Bool.and_eq_true,decide_eq_true_eq]
  omega
 unfold kindF
 rw[this]
theorem kd_in (x:Int):kindF x=0∨kindF x=1∨kindF x=2∨kindF x=3∨kindF x=4∨kindF x=5∨kindF x=6∨kindF x=7∨kindF x=8∨kindF x=9:=by
 by_cases h:x<0∨173<x
 ·exact .inl (kd_out x h)
 ·have hp:(List.range 256).all (fun n=>(fun c=>decide (kindF c=0∨kindF c=1∨kindF c=2∨kindF c=3∨kindF c=4∨kindF c=5∨kindF c=6∨kindF c=7∨kindF c=8∨kindF c=9)) (n:Int))=true:=by kernel_rfl
  have:=all256 (p:=fun c=>decide (kindF c=0∨kindF c=1∨kindF c=2∨kindF c=3∨kindF c=4∨kindF c=5∨kindF c=6∨kindF c=7∨kindF c=8∨kindF c=9)) hp (c:=x) (by omega) (by omega)
  simpa using this
def Num (x:Int):Prop:=0≤x∧x≤4294967295
instance (x:Int):Decidable (Num x):=inferInstanceAs (Decidable (_∧_))
instance (x:Int):Decidable (Num x):=inferInstanceAs (Decidable (_∧_))
def San (i:TInstr):Prop:=kindF i.op≠0∧Num i.a∧Num i.b∧(kindF i.op≠4→i.labels=[])∧
 (kindF i.op=1∨kindF i.op=7→i.a=0∧i.b=0∧i.k=0)∧(kindF i.op=2→i.b=0∧i.k=0∧(i.a=0∨i.a=127∨i.a=126))∧(kindF i.op=3∨kindF i.op=5→i.b=0∧i.k=0)∧
 (kindF i.op=4→i.b=0∧i.k=0∧i.labels.length≤64∧∀x∈i.labels,Num x)∧(kindF i.op=6→i.k=0)∧(kindF i.op=8→i.a=0∧i.b=0∧i.k≤4294967295)∧(kindF i.op=9→i.a=0∧i.b=0)
theorem numB_iff (x:Int):numB x=true↔Num x:=by simp[numB,Num]
theorem saneF_iff (i:TInstr):saneF i=true↔San i:=by
 unfold saneF San
 have e:=kd_in i.op
 have hall:i.labels.all numB=true↔∀x∈i.labels,Num x:=by
  rw[List.all_eq_true]
  exact⟨fun h x hx=>(numB_iff x).1 (h x hx),fun h x hx=>(numB_iff x).2 (h x hx)⟩
 rcases e with e|e|e|e|e|e|e|e|e|e<;>simp[e,numB_iff,hall]<;>grind
def s32 (c:Int):Int:=if c<2147483648 then c else c-4294967296
def s64 (c:Int):Int:=if c<9223372036854775808 then c else c-18446744073709551616
def tl (i:TInstr):List Int:=
 if kindF i.op=2 then[if i.a=0 then 64 else i.a]
 else if kindF i.op=3 then uleb i.a
 else if kindF i.op=4 then uleb (i.labels.length:Int)++(i.labels.flatMap uleb++uleb i.a)
 else if kindF i.op=5 then uleb i.a++[0]
 else if kindF i.op=6 then uleb i.a++uleb i.b
 else if kindF i.op=7 then[0]
 else if kindF i.op=8 then sleb (s32 i.k)
 else if kindF i.op=9 then sleb (s64 i.k) else[]
def enc (i:TInstr):List Int:=i.op::tl i
end Go.Proofs.YtfpioigggjnffaaGreatDoor.E
set_option autoImplicit false
namespace Go.Proofs.YtfpioigggjnffaaGreatDoor.E
open Go.Ev
theorem drop_left {α:Type} (a b:List α):(a++b).drop a.length=b:=by simp
end Go.Proofs.YtfpioigggjnffaaGreatDoor.E
set_option autoImplicit false
set_option maxRecDepth 100000
set_option maxHeartbeats 4000000
set_option pp.maxSteps 20000
namespace Go.Proofs.YtfpioigggjnffaaGreatDoor.E
open Go.Ev
def lst (l:List Int) (N:Int) (p e:Int) (i:Nat) (c:Bool):List Int→St
 |[]=>⟨[(0, .ptr 0 0),(3, .d (.int .i64 N)),(4, .nilsl),(5, .d (.int .i64 i))],[(0, .cells [.d (.list (byt l)), .d (.int .i64 p), .d (.int .i64 e)])]⟩
 |a::acc=>⟨[(0, .ptr 0 0),(3, .d (.int .i64 N)),(4, .row 1856 0 0 (acc.length+1)),(5, .d (.int .i64 i))],[(0, .cells [.d (.list (byt l)), .d (.int .i64 p), .d (.int .i64 e)]),(1856, .row 1 (.int .i64 a::acc.map (D.int .i64)) 0 false c)]⟩
end Go.Proofs.YtfpioigggjnffaaGreatDoor.E
