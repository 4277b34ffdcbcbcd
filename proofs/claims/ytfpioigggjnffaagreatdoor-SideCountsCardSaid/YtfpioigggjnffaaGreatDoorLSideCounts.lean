/- LSideCounts. -/
import Derived.Test.YtfpioigggjnffaaGreatDoorL10
set_option linter.unnecessarySimpa false
set_option linter.unusedSimpArgs false
set_option linter.unusedVariables false
set_option autoImplicit false
set_option maxRecDepth 100000
set_option maxHeartbeats 40000000
namespace Go.Proofs.YtfpioigggjnffaaGreatDoor.E
open Go.Ev
theorem sideCounts_ev (k n:Nat) (e:Tavocetref10_Env) (l:List TInstr) (hc: ∀i∈l,Cok i) (hfl:l.length<k+300000) (hl9:l.length≤maxLen):
 evF (G (k+300001)) (n+22) 9 [.d e.d, .d (.list (l.map TInstr.d))] []=some (.d (.bool true),[]):=by
 have A:=awake12_ev (k+294001) (n+1)
 rw[show k+294001+6000=k+300001 by omega] at A
 generalize hfu:k+300001=fu at*
 have Sm:=small12_ev fu (n+20) e (by omega)
 have F:=few_ev fu (n+20) l 100 (by omega) hl9
 simp only[Tavocetref10_Env.d] at Sm
 rw[evF.eq_2,evX.eq_def,Gext,exts_no _ (f:=9) (by decide),GP,Tryz.func9];simp only[Tryz.f9,evB]
 cases c1:smallE e with
 |false=>
  rw[c1] at Sm
  simp only[go_sem,seval, -Nat.reduceSubDiff,↓reduceIte,reduceCtorEq,Tavocetref10_Env.d,A,Sm]
 |true=>
 cases c2:few l 100 with
 |false=>
  rw[c1] at Sm
  rw[c2] at F
  simp only[go_sem,seval, -Nat.reduceSubDiff,↓reduceIte,reduceCtorEq,Tavocetref10_Env.d,A,Sm,F]
 |true=>
 rw[c1] at Sm
 rw[c2] at F
 have heok:=eok_of c1 (show 1000<fu by omega)
 obtain⟨hlb,hlen⟩:=few12 c2 (show 1000<fu by omega)
 have hgl:e.globals.length≤70:=by
  unfold smallE at c1
  simp only[Bool.and_eq_true,decide_eq_true_eq] at c1
  omega
 have E:=env12_ev fu (n+20) e (by omega) (by omega)
 simp only[Tavocetref10_Env.d] at E
 have P:=BPut_ev fu (n+11) [] l hc (by omega) (by omega) hlb (by omega) (by simp)
 rw[bputR_is] at P
 have hB:=putB_bs (b:=[]) (fun z hz=>by cases hz) hc
 have hBl:=putB_len [] l
 have hsan:bodySane l=true→putB [] l=encs l++[11]:=fun h=>by unfold putB;rw[h];rfl
 have hpe:putE l=if bodySane l then 0 else 1:=by unfold putE;cases bodySane l<;>rfl
 simp only[List.length_nil] at hBl
 generalize putB [] l=b at*
 have M:=Make_ev fu (n+1) (envOf e) heok b hB 0 (by omega) (by omega) (by omega)
 have tk:(byt b).take b.length=byt b:=List.take_of_length_le (by simp)
 simp only[byt0,Int.ofNat_zero] at P M
 have hrd:bodySane l=true→brd b 4097 0 [] []= .ok (l,(encs l).length+1):=fun h=>by
  have:=brd_put h hc [] []
  rw[hsan h]
  simpa using this
 cases hm:makeF (envOf e) b 0 with
 |error f=>
  rw[hm] at M
  have hf0:=makeF_ne hB hm
  simp only[makeR,Tab.dd] at M
  cases hp:bodySane l with
  |false=>
   rw[hp] at hpe
   simp only[hpe,Bool.false_eq_true,if_false] at P
   simp only[go_sem,seval, -Nat.reduceSubDiff,↓reduceIte,reduceCtorEq,Tavocetref10_Env.d,A,Sm,F,E,P,M,tk,hf0]
  |true=>
   rw[hp] at hpe
   simp only[hpe,if_true] at P
   have B:=body_ev fu (n+7) (envOf e) heok l (by omega) (by omega) (fun i hi=>by have:=(hlb i hi).1;have:=(hlb i hi).2;omega)
   have hb0: ¬bodyF (envOf e) l=0:=by
    intro h0
    unfold makeF at hm
    rw[hrd hp] at hm
    simp only[h0,if_true] at hm
    obtain⟨Q,r,hq,_⟩:=body_fits h0
    rw[hq] at hm
    cases hm
   simp only[go_sem,seval, -Nat.reduceSubDiff,↓reduceIte,reduceCtorEq,Tavocetref10_Env.d,A,Sm,F,E,P,M,tk,hf0,B,hb0]
 |ok r=>
  obtain⟨t,z⟩:=r
  rw[hm] at M
  simp only[makeR,Tab.dd] at M
  cases hp:bodySane l with
  |false=>
   rw[hp] at hpe
   simp only[hpe,Bool.false_eq_true,if_false] at P
   simp only[go_sem,seval, -Nat.reduceSubDiff,↓reduceIte,reduceCtorEq,Tavocetref10_Env.d,A,Sm,F,E,P,M,tk]
  |true=>
  rw[hp] at hpe
  simp only[hpe,if_true] at P
  obtain⟨l',Q,hBo,ht⟩:=makeF_ok heok.sm hB hm
  obtain rfl:l'=l:=by
   have:=hBo.read
   rw[hrd hp] at this
   cases this
   rfl
  have hrise:=hBo.rise hB
  have lJ:=jumpsTo_le (S:=stF b 0 l') (P:=Q) (fun i hi=>san_labels (hBo.san i hi).1) l'.length (Nat.le_refl _)
  have lS:=stF_len b l' 0
  have hlb9:=hBo.len
  have hsanl:=fun i hi=>san_labels (hBo.san i hi).1
  subst ht
  simp only[tabF] at M
  clear hBo hm hrd hsan
  generalize stF b 0 l'=S at*
  generalize hts Q=H at*
  generalize loopsTo l' S l'.length=L at*
  simp only[go_sem,seval, -Nat.reduceSubDiff,↓reduceIte,reduceCtorEq,Tavocetref10_Env.d,A,Sm,F,E,P,M,tk]
  have hof:=fun k hk j=>of_step hrise Q (k:=k) hk j
  have hget:=fun k (hk:k<l'.length) j hj=>stepJ_getD (l:=l') (S:=S) (P:=Q) (n:=l'.length) (k:=k) hk j hj
  generalize hJ:jumpsTo l' S Q l'.length=J at*
  rw[loop_some l'.length (fun k=>⟨[(1, .d (.list (l'.map TInstr.d))),(5, .d (.bool true)),(8, .ptr 576 0),(11, .d (.int .i64 (jumpsTo l' S Q k).length)),(12, .d (.int .i64 k))],[(576, .cells [.d (.list (intd S)), .d (.list (jds J)), .d (.list (intd L)), .d (.list (intd H))])]⟩) (.exit 0,⟨[(5, .d (.bool true)),(8, .ptr 576 0),(11, .d (.int .i64 J.length))],[(576, .cells [.d (.list (intd S)), .d (.list (jds J)), .d (.list (intd L)), .d (.list (intd H))])]⟩) trivial (by omega) ?_]
  case hs=>
   intro k hk
   have hx:(l'.map TInstr.d)[k]? =some (l'.getD k in0).d:=getD_map hk
   have hs:(intd S)[k]? =some (.int .i64 (at0 S k)):=getD_map (by omega)
   have hkI:(k:Int)<l'.length:=by omega
   have hkS: ¬(S.length:Int)≤k:=by omega
   have hkS2:(k:Int)<S.length:=by omega
   have W:=wrap_i64 (show-9223372036854775808≤(k:Int)+1 by omega) (by omega)
   have hw:=wants l' S Q k
   have hlk:=jumpsTo_le (S:=S) (P:=Q) hsanl k (by omega)
   have hl1:=jumpsTo_le (S:=S) (P:=Q) hsanl (k+1) (by omega)
   have hge: ∀j,j<(stepJ l' S Q k).length→(jumpsTo l' S Q k).length+j<J.length:=fun j hj=>by
    have:=(List.getElem?_eq_some_iff.1 ((hget k hk j hj).trans (List.getElem?_eq_getElem hj))).1
    exact this
   have hJ1:(jumpsTo l' S Q (k+1)).length=(jumpsTo l' S Q k).length+(stepJ l' S Q k).length:=by rw[jumpsTo,List.length_append]
   have hofk:=hof k hk
   have hgk:=hget k hk
   have hll:(l'.getD k in0).labels.length≤64:=hsanl _ (by rw[List.getD_eq_getElem?_getD,List.getElem?_eq_getElem hk];exact List.getElem_mem hk)
   clear hof hget
   rw[hJ1] at hl1 ⊢
   generalize(jumpsTo l' S Q k).length=N at*
   generalize stepJ l' S Q k=js at*
   generalize at0 S k=v at*
   generalize l'.getD k in0=i at*
   have Wl:=wrap_i64 (show-9223372036854775808≤(i.labels.length:Int)+1 by omega) (by omega)
   have O:=fun j=>of_ev fu (n+17) (intd S) (intd L) (intd H) J v j (by omega) (by omega)
   have e13: ∀w:Int,w=(js.length:Int)→((13,V.d (D.int .i64 w)):Nat×V)=(13,V.d (D.int .i64 js.length)):=fun w h=>by rw[h]
   simp only[TInstr.d] at hx
   have hcase:i.op=4∨i.op=5∨i.op=12∨i.op=13∨i.op=14∨(¬i.op=4∧¬i.op=5∧¬i.op=12∧¬i.op=13∧¬i.op=14):=by omega
   have hw1:(i.op=4∨i.op=5∨i.op=12∨i.op=13)→(1:Int)=js.length:=fun h=>by rw[hw,if_pos h]
   have hw14:i.op=14→(i.labels.length:Int)+1=js.length:=fun h=>by rw[hw,if_neg (by omega),if_pos h]
   have hw0:(¬i.op=4∧¬i.op=5∧¬i.op=12∧¬i.op=13∧¬i.op=14)→(0:Int)=js.length:=fun h=>by rw[hw,if_neg (by omega),if_neg h.2.2.2.2]
   clear hw
   rcases hcase with o|o|o|o|o|o
   all_goals
    simp(maxSteps:=1000000) only[go_sem,seval, -Nat.reduceSubDiff,↓reduceIte,reduceCtorEq,List.length_map,hkI,idx,hx,o,hkS,Wl]
   all_goals first|rw[e13 1 (hw1 (by omega))]|rw[e13 0 (hw0 (by omega))]|rw[e13 ((i.labels.length:Int)+1) (hw14 (by omega))]
   all_goals
    rw[loop_some js.length (fun j=>⟨[(1, .d (.list (l'.map TInstr.d))),(5, .d (.bool true)),(8, .ptr 576 0),(11, .d (.int .i64 N)),(12, .d (.int .i64 k)),(13, .d (.int .i64 js.length)),(14, .d (.int .i64 j))],[(576, .cells [.d (.list (intd S)), .d (.list (jds J)), .d (.list (intd L)), .d (.list (intd H))])]⟩) (.exit 3,⟨[(1, .d (.list (l'.map TInstr.d))),(5, .d (.bool true)),(8, .ptr 576 0),(11, .d (.int .i64 N)),(12, .d (.int .i64 k)),(13, .d (.int .i64 js.length))],[(576, .cells [.d (.list (intd S)), .d (.list (jds J)), .d (.list (intd L)), .d (.list (intd H))])]⟩) trivial (by omega) ?_]
    case hs=>
     intro j hj
     have O1:=O j
     rw[hofk j,if_pos hj] at O1
     have hy:(jds J)[N+j]? =some (js.getD j jm0).dd:=by
      rw[List.getElem?_map,hgk j hj,List.getElem?_eq_getElem hj,List.getD_eq_getElem?_getD,List.getElem?_eq_getElem hj];rfl
     have hjI:(j:Int)<js.length:=by omega
     have hNj:=hge j hj
     have hnl: ¬(J.length:Int)≤(N:Int)+j:=by omega
     have hnl2:(N:Int)+j<J.length:=by omega
     have hn0:(0:Int)≤(N:Int)+j:=by omega
     have hnt:((N:Int)+j).toNat=N+j:=by omega
     have Wn:=wrap_i64 (show-9223372036854775808≤(N:Int)+j by omega) (by omega)
     have Wj:=wrap_i64 (show-9223372036854775808≤(j:Int)+1 by omega) (by omega)
     generalize js.getD j jm0=y at*
     simp only[Jmp.dd] at O1 hy
     simp(maxSteps:=1000000) only[go_sem,seval, -Nat.reduceSubDiff,↓reduceIte,reduceCtorEq,List.length_map,hjI,idx,hs,hkS2,O1,Wn,Wj,hnl,hnl2,hn0,hnt,hy]
     (rw[cond_free];rotate_left;·rfl)
     simp(maxSteps:=1000000) only[go_sem,seval, -Nat.reduceSubDiff,↓reduceIte,reduceCtorEq,List.length_map,hjI,idx,hs,hkS2,O1,Wn,Wj,hnl,hnl2,hn0,hnt,hy]
     rfl
    case he=>simp only[go_sem,seval, -Nat.reduceSubDiff,↓reduceIte,reduceCtorEq,Int.lt_irrefl]
    ·have O2:=O js.length
     rw[hofk js.length,if_neg (by omega)] at O2
     have Wn:=wrap_i64 (show-9223372036854775808≤(N:Int)+js.length by omega) (by omega)
     simp only[Jmp.dd,jm0] at O2
     simp(maxSteps:=1000000) only[go_sem,seval, -Nat.reduceSubDiff,↓reduceIte,reduceCtorEq,List.length_map,idx,hs,hkS2,O2,Wn,W]
     (rw[cond_free];rotate_left;·rfl)
     simp(maxSteps:=1000000) only[go_sem,seval, -Nat.reduceSubDiff,↓reduceIte,reduceCtorEq,List.length_map,idx,hs,hkS2,O2,Wn,W]
     rfl
    ·rfl
  case he=>simp only[go_sem,seval, -Nat.reduceSubDiff,↓reduceIte,reduceCtorEq,List.length_map,Int.lt_irrefl,hJ]
  ·simp only[go_sem,seval, -Nat.reduceSubDiff,↓reduceIte,reduceCtorEq,List.length_map]
  ·rfl
theorem SideCounts.pure (e:Tavocetref10_Env) (he:e.ok) (l:List TInstr) (hl:l.length≤maxLen∧∀z∈l,z.ok):
 ∃fu n,evF (G fu) n 9 [.d e.d, .d (.list (l.map TInstr.d))] []=some (.d (.bool true),[]):=
 ⟨l.length+300001,22,sideCounts_ev l.length 0 e l (fun i hi=>cok12 (hl.2 i hi)) (by omega) hl.1⟩
end Go.Proofs.YtfpioigggjnffaaGreatDoor.E
