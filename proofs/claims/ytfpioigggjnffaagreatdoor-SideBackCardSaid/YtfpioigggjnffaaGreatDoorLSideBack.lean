/- LSideBack. -/
import Derived.Test.YtfpioigggjnffaaGreatDoorS11
set_option linter.unnecessarySimpa false
set_option linter.unusedSimpArgs false
set_option linter.unusedVariables false
set_option autoImplicit false
set_option maxRecDepth 100000
set_option maxHeartbeats 4000000
namespace Go.Proofs.YtfpioigggjnffaaGreatDoor.E
open Go.Ev
theorem sideBack_ev (k n:Nat) (e:Tavocetref10_Env) (l:List TInstr) (hc: ∀i∈l,Cok i) (hfl:l.length<k+300000) (hl9:l.length≤maxLen):
 evF (G (k+300001)) (n+22) 10 [.d e.d, .d (.list (l.map TInstr.d))] []=some (.d (.bool true),[]):=by
 have A:=awake12_ev (k+294001) (n+1)
 rw[show k+294001+6000=k+300001 by omega] at A
 generalize hfu:k+300001=fu at*
 have Sm:=small12_ev fu (n+20) e (by omega)
 have F:=few_ev fu (n+20) l 100 (by omega) hl9
 simp only[Tavocetref10_Env.d] at Sm
 rw[evF.eq_2,evX.eq_def,Gext,exts_no _ (f:=10) (by decide),GP,Tryz.func10];simp only[Tryz.f10,evB]
 cases c1:smallE e with
 |false=>
  rw[c1] at Sm
  simp only[go_sem,seval, -Nat.reduceSubDiff,↓reduceIte,reduceCtorEq,Tavocetref10_Env.d,A,Sm]
 |true=>
 cases c2:few l 100 with
 |false=>
  rw[c1] at Sm
  rw[c2] at F
  simp only[go_sem,seval, -Nat.reduceSubDiff,↓reduceIte,reduceCtorEq,Tavocetref10_Env.d,A,Sm,F]
 |true=>
 have heok:=eok_of c1 (show 1000<fu by omega)
 obtain⟨hlb,hlen⟩:=few12 c2 (show 1000<fu by omega)
 have hgl:e.globals.length≤70:=by
  unfold smallE at c1
  simp only[Bool.and_eq_true,decide_eq_true_eq] at c1
  omega
 have E:=env12_ev fu (n+20) e (by omega) (by omega)
 have P:=BPut_ev fu (n+11) [] l hc (by omega) (by omega) hlb (by omega) (by simp)
 rw[bputR_is] at P
 simp only[Tavocetref10_Env.d] at E
 have hB:=putB_bs (b:=[]) (fun z hz=>by cases hz) hc
 have hBl:=putB_len [] l
 have M:=Make_ev fu (n+1) (envOf e) heok (putB [] l) hB 0 (by omega) (by omega) (by simp at hBl;omega)
 have tk:(byt (putB [] l)).take (putB [] l).length=byt (putB [] l):=List.take_of_length_le (by simp)
 rw[c1] at Sm
 rw[c2] at F
 simp only[byt0,Int.ofNat_zero] at P M
 cases hm:makeF (envOf e) (putB [] l) 0 with
 |error f=>
  rw[hm] at M
  have hf0:=makeF_ne hB hm
  simp only[makeR,Tab.dd] at M
  simp only[go_sem,seval, -Nat.reduceSubDiff,↓reduceIte,reduceCtorEq,Tavocetref10_Env.d,A,Sm,F,E,P,M,tk,hf0]
 |ok r=>
  obtain⟨t,z⟩:=r
  rw[hm] at M
  simp only[makeR,Tab.dd] at M
  obtain⟨l',Q,hBo,ht⟩:=makeF_ok heok.sm hB hm
  have hg: ∀j∈t.J,Goes t.L j:=by
   rw[ht];exact jumpsTo_goes hBo (hBo.rise hB) _ (Nat.le_refl _)
  obtain⟨lJ,lL,_,_⟩:=tabF_lens hBo
  rw[←ht] at lJ lL
  clear hBo ht hm
  simp only[go_sem,seval, -Nat.reduceSubDiff,↓reduceIte,reduceCtorEq,Tavocetref10_Env.d,A,Sm,F,E,P,M,tk]
  generalize intd t.S=S
  generalize intd t.H=H
  rw[loop_some t.J.length (fun i=>⟨[(5, .d (.bool true)),(8, .ptr 576 0),(11, .d (.int .i64 i))],[(576, .cells [.d (.list S), .d (.list (jds t.J)), .d (.list (intd t.L)), .d (.list H)])]⟩) (.exit 0,⟨[(5, .d (.bool true))],[]⟩) trivial (by omega) ?_]
  case hs=>
   intro i hi
   have hx:(jds t.J)[i]? =some (t.J.getD i jm0).dd:=getD_map hi
   have hkI:(i:Int)<t.J.length:=by omega
   have W:=wrap_i64 (show-9223372036854775808≤(i:Int)+1 by omega) (by omega)
   have hgo:=hg (t.J.getD i jm0) (by rw[List.getD_eq_getElem?_getD,List.getElem?_eq_getElem hi];exact List.getElem_mem hi)
   generalize t.J.getD i jm0=j at*
   simp only[Jmp.dd] at hx
   simp only[go_sem,seval, -Nat.reduceSubDiff,↓reduceIte,reduceCtorEq,List.length_map,hkI,idx,hx]
   rw[loop_some t.L.length (fun q=>⟨[(5, .d (.bool true)),(8, .ptr 576 0),(11, .d (.int .i64 i)),(12, .ptr 832 0),(13, .d (.bool ((t.L.take q).any (fun x=>decide (x=j.to))))),(14, .d (.int .i64 q))],[(576, .cells [.d (.list S), .d (.list (jds t.J)), .d (.list (intd t.L)), .d (.list H)]),(832, .cells [.d (.int .i64 j.at_), .d (.int .i64 j.to), .d (.int .i64 j.ht), .d (.int .i64 j.ar)])]⟩)
    (.exit 2,⟨[(5, .d (.bool true)),(8, .ptr 576 0),(11, .d (.int .i64 i)),(12, .ptr 832 0),(13, .d (.bool (t.L.any (fun x=>decide (x=j.to)))))],[(576, .cells [.d (.list S), .d (.list (jds t.J)), .d (.list (intd t.L)), .d (.list H)]),(832, .cells [.d (.int .i64 j.at_), .d (.int .i64 j.to), .d (.int .i64 j.ht), .d (.int .i64 j.ar)])]⟩) trivial (by omega) ?_]
   case hs=>
    intro q hq
    have hy:(intd t.L)[q]? =some (.int .i64 (t.L.getD q 0)):=getD_map hq
    have hqI:(q:Int)<t.L.length:=by omega
    have Wq:=wrap_i64 (show-9223372036854775808≤(q:Int)+1 by omega) (by omega)
    have hT:(t.L.take (q+1)).any (fun x=>decide (x=j.to))=((t.L.take q).any (fun x=>decide (x=j.to))||decide (t.L.getD q 0=j.to)):=by
     rw[List.take_add_one,List.any_append,List.getD_eq_getElem?_getD,List.getElem?_eq_getElem hq];simp
    rw[hT]
    generalize(t.L.take q).any (fun x=>decide (x=j.to))=a
    generalize t.L.getD q 0=y at*
    cases a with
    |true=>
     simp only[go_sem,seval, -Nat.reduceSubDiff,↓reduceIte,reduceCtorEq,List.length_map,hqI,Wq]
     rfl
    |false=>
     simp only[go_sem,seval, -Nat.reduceSubDiff,↓reduceIte,reduceCtorEq,List.length_map,hqI,idx,hy,Wq]
     rfl
   case he=>simp only[go_sem,seval, -Nat.reduceSubDiff,↓reduceIte,reduceCtorEq,List.length_map,Int.lt_irrefl,List.take_length]
   ·by_cases c:j.to≤j.at_
    ·have hT:j.to∈t.L∧j.ar=0:=by
      rcases hgo with h|h
      ·omega
      ·exact h
     have hA:t.L.any (fun x=>decide (x=j.to))=true:=List.any_eq_true.2 ⟨j.to,hT.1,by simp⟩
     simp only[go_sem,seval, -Nat.reduceSubDiff,↓reduceIte,reduceCtorEq,hA,c,hT.2,W]
     rfl
    ·generalize t.L.any (fun x=>decide (x=j.to))=a
     cases a<;>(simp only[go_sem,seval, -Nat.reduceSubDiff,↓reduceIte,reduceCtorEq,c,W];rfl)
   ·rfl
  case he=>simp only[go_sem,seval, -Nat.reduceSubDiff,↓reduceIte,reduceCtorEq,List.length_map,Int.lt_irrefl]
  ·simp only[go_sem,seval, -Nat.reduceSubDiff,↓reduceIte,reduceCtorEq]
  ·rfl
theorem SideBack.pure (e:Tavocetref10_Env) (he:e.ok) (l:List TInstr) (hl:l.length≤maxLen∧∀z∈l,z.ok):
 ∃fu n,evF (G fu) n 10 [.d e.d, .d (.list (l.map TInstr.d))] []=some (.d (.bool true),[]):=
 ⟨l.length+300001,22,sideBack_ev l.length 0 e l (fun i hi=>cok12 (hl.2 i hi)) (by omega) hl.1⟩
end Go.Proofs.YtfpioigggjnffaaGreatDoor.E
