/- LSideMoves. -/
import Derived.Test.YtfpioigggjnffaaGreatDoorL10
set_option linter.unnecessarySimpa false
set_option linter.unusedSimpArgs false
set_option linter.unusedVariables false
set_option autoImplicit false
set_option maxRecDepth 100000
set_option maxHeartbeats 40000000
namespace Go.Proofs.YtfpioigggjnffaaGreatDoor.E
open Go.Ev
theorem sideMoves_ev (k n:Nat) (e:Tavocetref10_Env) (l:List TInstr) (hc: ∀i∈l,Cok i) (hfl:l.length<k+300000) (hl9:l.length≤maxLen) (ah:List Int) (ha:Bs ah):
 evF (G (k+300001)) (n+22) 8 [.d e.d, .d (.list (l.map TInstr.d)), .d (.list (byt ah))] []=some (.d (.bool true),[]):=by
 have A:=awake12_ev (k+294001) (n+1)
 rw[show k+294001+6000=k+300001 by omega] at A
 generalize hfu:k+300001=fu at*
 have Sm:=small12_ev fu (n+20) e (by omega)
 have F:=few_ev fu (n+20) l 100 (by omega) hl9
 simp only[Tavocetref10_Env.d] at Sm
 rw[evF.eq_2,evX.eq_def,Gext,exts_no _ (f:=8) (by decide),GP,Tryz.func8];simp only[Tryz.f8,evB]
 cases c1:smallE e with
 |false=>
  rw[c1] at Sm
  simp only[go_sem,seval, -Nat.reduceSubDiff,↓reduceIte,reduceCtorEq,Tavocetref10_Env.d,A,Sm]
 |true=>
 cases c2:few l 100 with
 |false=>
  rw[c1] at Sm
  rw[c2] at F
  simp only[go_sem,seval, -Nat.reduceSubDiff,↓reduceIte,reduceCtorEq,Tavocetref10_Env.d,A,Sm,F]
 |true=>
 rw[c1] at Sm
 rw[c2] at F
 have heok:=eok_of c1 (show 1000<fu by omega)
 obtain⟨hlb,hlen⟩:=few12 c2 (show 1000<fu by omega)
 have hgl:e.globals.length≤70:=by
  unfold smallE at c1
  simp only[Bool.and_eq_true,decide_eq_true_eq] at c1
  omega
 have E:=env12_ev fu (n+20) e (by omega) (by omega)
 simp only[Tavocetref10_Env.d] at E
 by_cases c3:(50:Int)<ah.length
 ·simp only[go_sem,seval, -Nat.reduceSubDiff,↓reduceIte,reduceCtorEq,Tavocetref10_Env.d,A,Sm,F,byt_len,c3]
 have P:=BPut_ev fu (n+11) [] l hc (by omega) (by omega) hlb (by omega) (by simp)
 rw[bputR_is] at P
 have hB:=putB_bs (b:=[]) (fun z hz=>by cases hz) hc
 have hBl:=putB_len [] l
 cases hp:bodySane l with
 |false=>
  unfold putE at P
  rw[hp] at P
  simp only[byt0] at P
  simp only[go_sem,seval, -Nat.reduceSubDiff,↓reduceIte,reduceCtorEq,Tavocetref10_Env.d,A,Sm,F,byt_len,c3,P]
 |true=>
 have hp0:putE l=0:=by unfold putE;rw[hp];rfl
 rw[hp0] at P
 simp only[List.length_nil] at hBl
 generalize putB [] l=b at*
 have M:=Make_ev fu (n+1) (envOf e) heok b hB 0 (by omega) (by omega) (by omega)
 have N:=Make_ev fu (n+1) (envOf e) heok (ah++b) (ha.append hB) ah.length (by omega) (by rw[List.length_append];omega) (by rw[List.length_append];omega)
 obtain⟨s1,s2⟩:=makeF_shift (e:=envOf e) ah b
 have tk:(byt b).take b.length=byt b:=List.take_of_length_le (by simp)
 have tk2:(byt (ah++b)).take (ah.length+b.length)=byt (ah++b):=List.take_of_length_le (by simp)
 have ct:byt ah++byt b=byt (ah++b):=by simp[byt]
 have tk3:(byt ah).take ah.length=byt ah:=List.take_of_length_le (by simp)
 simp only[byt0,Int.ofNat_zero] at P M
 have z1:=byt_sized ah
 have z2:=byt_sized b
 have r1:ah.length≤1099511627776:=by omega
 have r2:ah.length+b.length≤1099511627776:=by omega
 cases hm:makeF (envOf e) b 0 with
 |error f=>
  rw[hm] at M
  rw[s1 f hm] at N
  have hf0:=makeF_ne hB hm
  simp only[makeR,Tab.dd] at M N
  simp only[go_sem,seval, -Nat.reduceSubDiff,↓reduceIte,reduceCtorEq,Tavocetref10_Env.d,A,Sm,F,E,byt_len,c3,P,M,N,tk,tk2,tk3,ct,z1,z2,r1,r2,hf0]
 |ok r=>
  obtain⟨t,z⟩:=r
  rw[hm] at M
  obtain⟨u,hu,uJ,uS,uH⟩:=s2 t z hm
  rw[hu] at N
  simp only[makeR,Tab.dd] at M N
  obtain⟨l',Q,hBo,ht⟩:=makeF_ok heok.sm hB hm
  have hland: ∀j∈t.J,(0≤j.at_∧j.at_≤b.length)∧0≤j.to∧j.to≤b.length:=fun j hj=>by
   rw[ht] at hj
   obtain⟨⟨i,i1,i2⟩,⟨q,q1,q2⟩,_⟩:=hBo.lands j hj
   rw[i2,q2]
   exact⟨hBo.bound hB (by omega) i1,hBo.bound hB (by omega) q1⟩
  obtain⟨lJ,lL,lS,lH⟩:=tabF_lens hBo
  rw[←ht] at lJ lL lS lH
  have hlb9:=hBo.len
  have hz:=hBo.zle hB (by omega)
  clear hBo ht hm hu
  have Wz:IntKind.wrap .i64 ((z:Int)+ah.length)=((ah.length+z:Nat):Int):=by rw[wrap_i64 (by omega) (by omega)];omega
  have uJl:u.J.length=t.J.length:=by rw[uJ,List.length_map]
  have I:=ints_same fu (n+20) t.H (by omega) (by omega)
  rw[uH] at N
  simp only[go_sem,seval, -Nat.reduceSubDiff,↓reduceIte,reduceCtorEq,Tavocetref10_Env.d,A,Sm,F,E,byt_len,c3,P,M,N,tk,tk2,tk3,ct,z1,z2,r1,r2,List.length_map,uJl,uS]
  generalize intd t.S=S
  generalize intd u.S=S'
  generalize intd u.L=L'
  generalize intd t.L=L
  rw[loop_some t.J.length (fun i=>⟨[(7, .d (.bool true)),(11, .ptr 768 0),(12, .d (.int .i64 z)),(14, .ptr 960 0),(15, .d (.int .i64 ((ah.length+z:Nat):Int))),(17, .d (.int .i64 ah.length)),(18, .d (.int .i64 i))],[(768, .cells [.d (.list S), .d (.list (jds t.J)), .d (.list L), .d (.list (intd t.H))]),(960, .cells [.d (.list S'), .d (.list (jds u.J)), .d (.list L'), .d (.list (intd t.H))])]⟩) (.exit 0,⟨[(7, .d (.bool true)),(11, .ptr 768 0),(12, .d (.int .i64 z)),(14, .ptr 960 0),(15, .d (.int .i64 ((ah.length+z:Nat):Int))),(17, .d (.int .i64 ah.length))],[(768, .cells [.d (.list S), .d (.list (jds t.J)), .d (.list L), .d (.list (intd t.H))]),(960, .cells [.d (.list S'), .d (.list (jds u.J)), .d (.list L'), .d (.list (intd t.H))])]⟩) trivial (by omega) ?_]
  case hs=>
   intro i hi
   have hx:(jds t.J)[i]? =some (t.J.getD i jm0).dd:=getD_map hi
   have hy:(jds u.J)[i]? =some ((t.J.getD i jm0).far ah.length).dd:=by
    rw[uJ]
    simp[List.getD_eq_getElem?_getD,List.getElem?_eq_getElem hi]
   have hkI:(i:Int)<t.J.length:=by omega
   have W:=wrap_i64 (show-9223372036854775808≤(i:Int)+1 by omega) (by omega)
   obtain⟨⟨b1,b2⟩,b3,b4⟩:=hland (t.J.getD i jm0) (by rw[List.getD_eq_getElem?_getD,List.getElem?_eq_getElem hi];exact List.getElem_mem hi)
   generalize t.J.getD i jm0=j at*
   have Wa:=wrap_i64 (show-9223372036854775808≤j.at_+(ah.length:Int) by omega) (by omega)
   have Wb:=wrap_i64 (show-9223372036854775808≤j.to+(ah.length:Int) by omega) (by omega)
   simp only[Jmp.far,Jmp.dd] at hx hy
   simp only[go_sem,seval, -Nat.reduceSubDiff,↓reduceIte,reduceCtorEq,List.length_map,hkI,idx,hx,hy,Wa,Wb,W]
   rfl
  case he=>simp only[go_sem,seval, -Nat.reduceSubDiff,↓reduceIte,reduceCtorEq,List.length_map,Int.lt_irrefl]
  ·simp only[go_sem,seval, -Nat.reduceSubDiff,↓reduceIte,reduceCtorEq,I,Wz]
  ·rfl
theorem SideMoves.pure (e:Tavocetref10_Env) (he:e.ok) (l:List TInstr) (hl:l.length≤maxLen∧∀z∈l,z.ok) (a:List Int) (ha:a.length≤maxLen∧∀z∈a,rng .u8 z):
 ∃fu n,evF (G fu) n 8 [.d e.d, .d (.list (l.map TInstr.d)), .d (.list (a.map (D.int .u8)))] []=some (.d (.bool true),[]):=
 ⟨l.length+300001,22,sideMoves_ev l.length 0 e l (fun i hi=>cok12 (hl.2 i hi)) (by omega) hl.1 a (bs12 ha.2)⟩
end Go.Proofs.YtfpioigggjnffaaGreatDoor.E
