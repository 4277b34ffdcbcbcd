/- LSideLands. -/
import Derived.Test.YtfpioigggjnffaaGreatDoorL10
set_option linter.unnecessarySimpa false
set_option linter.unusedSimpArgs false
set_option linter.unusedVariables false
set_option autoImplicit false
set_option maxRecDepth 100000
set_option maxHeartbeats 40000000
namespace Go.Proofs.YtfpioigggjnffaaGreatDoor.E
open Go.Ev
theorem sideLands_ev (k n:Nat) (e:Tavocetref10_Env) (l:List TInstr) (hc: ∀i∈l,Cok i) (hfl:l.length<k+300000) (hl9:l.length≤maxLen) (ah:List Int) (ha:Bs ah):
 evF (G (k+300001)) (n+22) 7 [.d e.d, .d (.list (l.map TInstr.d)), .d (.list (byt ah))] []=some (.d (.bool true),[]):=by
 have A:=awake12_ev (k+294001) (n+1)
 rw[show k+294001+6000=k+300001 by omega] at A
 generalize hfu:k+300001=fu at*
 have Sm:=small12_ev fu (n+20) e (by omega)
 have F:=few_ev fu (n+20) l 100 (by omega) hl9
 simp only[Tavocetref10_Env.d] at Sm
 rw[evF.eq_2,evX.eq_def,Gext,exts_no _ (f:=7) (by decide),GP,Tryz.func7];simp only[Tryz.f7,evB]
 cases c1:smallE e with
 |false=>
  rw[c1] at Sm
  simp only[go_sem,seval, -Nat.reduceSubDiff,↓reduceIte,reduceCtorEq,Tavocetref10_Env.d,A,Sm]
 |true=>
 cases c2:few l 100 with
 |false=>
  rw[c1] at Sm
  rw[c2] at F
  simp only[go_sem,seval, -Nat.reduceSubDiff,↓reduceIte,reduceCtorEq,Tavocetref10_Env.d,A,Sm,F]
 |true=>
 rw[c1] at Sm
 rw[c2] at F
 have heok:=eok_of c1 (show 1000<fu by omega)
 obtain⟨hlb,hlen⟩:=few12 c2 (show 1000<fu by omega)
 have hgl:e.globals.length≤70:=by
  unfold smallE at c1
  simp only[Bool.and_eq_true,decide_eq_true_eq] at c1
  omega
 have E:=env12_ev fu (n+20) e (by omega) (by omega)
 simp only[Tavocetref10_Env.d] at E
 by_cases c3:(50:Int)<ah.length
 ·simp only[go_sem,seval, -Nat.reduceSubDiff,↓reduceIte,reduceCtorEq,Tavocetref10_Env.d,A,Sm,F,byt_len,c3]
 have P:=BPut_ev fu (n+11) ah l hc (by omega) (by omega) hlb (by omega) (by omega)
 rw[bputR_is] at P
 have hB:=putB_bs (b:=ah) ha hc
 have hBl:=putB_len ah l
 cases hp:bodySane l with
 |false=>
  unfold putE at P
  rw[hp] at P
  simp only[Bool.false_eq_true,if_false] at P
  simp only[go_sem,seval, -Nat.reduceSubDiff,↓reduceIte,reduceCtorEq,Tavocetref10_Env.d,A,Sm,F,byt_len,c3,P]
 |true=>
 have hp0:putE l=0:=by unfold putE;rw[hp];rfl
 have hpb:putB ah l=ah++encs l++[11]:=by unfold putB;rw[hp];rfl
 have hrd:=brd_put hp hc ah []
 rw[←hpb] at hrd
 have hbl:(putB ah l).length=ah.length+(encs l).length+1:=by rw[hpb];simp only[List.length_append,List.length_cons,List.length_nil]
 have hbl9:((ah.length+(encs l).length:Nat):Int)=((putB ah l).length:Int)-1:=by rw[hbl];omega
 have hdr:(putB ah l).drop ah.length=encs l++[11]:=by rw[hpb,List.append_assoc,List.drop_left]
 rw[hp0] at P
 generalize putB ah l=b at*
 have B:=body_ev fu (n+7) (envOf e) heok l (by omega) (by omega) (fun i hi=>by have:=(hlb i hi).1;have:=(hlb i hi).2;omega)
 by_cases h0: ¬bodyF (envOf e) l=0
 ·simp only[go_sem,seval, -Nat.reduceSubDiff,↓reduceIte,reduceCtorEq,Tavocetref10_Env.d,A,Sm,F,E,byt_len,c3,P,B,h0]
 have h0:bodyF (envOf e) l=0:=Decidable.not_not.1 h0
 have M:=Make_ev fu (n+1) (envOf e) heok b hB ah.length (by omega) (by omega) (by omega)
 have hm: ∃Q,makeF (envOf e) b ah.length= .ok (tabF b ah.length l Q,b.length)∧BodyOk (envOf e) b ah.length l b.length Q:=by
  obtain⟨Q,hQ⟩:=bodyOk_of heok.sm hB hrd h0
  refine⟨Q, ?_,by rw[hbl];exact hQ⟩
  unfold makeF
  rw[hrd]
  simp only[h0,if_true,hQ.path]
  rw[hbl]
 obtain⟨Q,hm,hBo⟩:=hm
 rw[hm] at M
 rw[h0] at B
 simp only[makeR,Tab.dd] at M
 have hland:=hBo.lands
 have hrise:=hBo.rise hB
 have hst:=stF_put (rest:=[11]) l ah.length (fun i hi=>hBo.san i hi) hdr
 have hend:(stF b ah.length l)[l.length]? =some ((b.length:Int)-1):=by
  rw[hst l.length (Nat.le_refl _),List.take_length,hbl9]
 obtain⟨yy,cc,ii,hch,_⟩:=hBo.chain
 have hat:=fun k hk=>st_at hch k hk
 have hbd:=fun i=>hBo.bound hB (show ah.length≤b.length by omega) (i:=i)
 have hloop:=fun k hk=>loops_iff (l:=l) hrise (k:=k) hk
 obtain⟨lJ,lL,lS,lH⟩:=tabF_lens hBo
 have hlb9:=hBo.len
 have tk:(byt b).take b.length=byt b:=List.take_of_length_le (by simp)
 have Wb:=wrap_i64 (show-9223372036854775808≤(b.length:Int)-1 by omega) (by omega)
 have Wl:=wrap_i64 (show-9223372036854775808≤(l.length:Int)+1 by omega) (by omega)
 simp only[tabF] at M lJ lL lS lH hland
 clear hBo hrd hdr hch hm hst
 generalize stF b ah.length l=S at*
 generalize hts Q=H at*
 generalize loopsTo l S l.length=L at*
 generalize jumpsTo l S Q l.length=J at*
 have hx9:(intd S)[l.length]? =some (.int .i64 ((b.length:Int)-1)):=by rw[List.getElem?_map,hend];rfl
 have lS':((S.length:Nat):Int)=(l.length:Int)+1:=by omega
 have lH':((H.length:Nat):Int)=(l.length:Int)+1:=by omega
 have hlt1:(l.length:Int)<(l.length:Int)+1:=by omega
 have AS:=fun v=>among_ev fu (n+20) v S (by omega) (by omega)
 have AL:=fun v=>among_ev fu (n+20) v L (by omega) (by omega)
 simp only[go_sem,seval, -Nat.reduceSubDiff,↓reduceIte,reduceCtorEq,Tavocetref10_Env.d,A,Sm,F,E,byt_len,c3,P,B,M,tk,List.length_map,lS',lH',Wl,Wb,idx,hx9,hlt1]
 rw[loop_some J.length (fun i=>⟨[(1, .d (.list (l.map TInstr.d))),(7, .d (.bool true)),(8, .row 2432 0 0 b.length),(10, .ptr 704 0),(13, .d (.int .i64 i))],[(704, .cells [.d (.list (intd S)), .d (.list (jds J)), .d (.list (intd L)), .d (.list (intd H))]),(2432, .row 1 (byt b) 0 true false)]⟩) (.exit 0,⟨[(1, .d (.list (l.map TInstr.d))),(7, .d (.bool true)),(8, .row 2432 0 0 b.length),(10, .ptr 704 0)],[(704, .cells [.d (.list (intd S)), .d (.list (jds J)), .d (.list (intd L)), .d (.list (intd H))]),(2432, .row 1 (byt b) 0 true false)]⟩) trivial (by omega) ?_]
 case hs=>
  intro i hi
  have hx:(jds J)[i]? =some (J.getD i jm0).dd:=getD_map hi
  have hkI:(i:Int)<J.length:=by omega
  have W:=wrap_i64 (show-9223372036854775808≤(i:Int)+1 by omega) (by omega)
  obtain⟨⟨p,p1,p2⟩,⟨q,q1,q2⟩,d1,d2,d3⟩:=hland (J.getD i jm0) (by rw[List.getD_eq_getElem?_getD,List.getElem?_eq_getElem hi];exact List.getElem_mem hi)
  generalize J.getD i jm0=j at*
  have hin: ∀p,p<S.length→∀v,v=at0 S p→S.any (fun x=>decide (x=v))=true:=fun p hp v hv=>by
   rw[List.any_eq_true]
   refine⟨at0 S p, ?_,by simp[hv]⟩
   unfold at0
   rw[List.getD_eq_getElem?_getD,List.getElem?_eq_getElem hp]
   exact List.getElem_mem hp
  have a1:=hin p p1 _ p2
  have a2:=hin q q1 _ q2
  have n1: ¬j.ht<0:=by omega
  have n2: ¬j.ar<0:=by omega
  have n3: ¬1<j.ar:=by omega
  simp only[Jmp.dd] at hx
  clear hat hbd hloop hland hend hin
  simp(maxSteps:=1000000) only[go_sem,seval, -Nat.reduceSubDiff,↓reduceIte,reduceCtorEq,List.length_map,hkI,idx,hx,AS,a1,a2,n1,n2,n3,W]
  rfl
 case he=>simp only[go_sem,seval, -Nat.reduceSubDiff,↓reduceIte,reduceCtorEq,List.length_map,Int.lt_irrefl]
 ·simp only[go_sem,seval, -Nat.reduceSubDiff,↓reduceIte,reduceCtorEq]
  rw[loop_some l.length (fun i=>⟨[(1, .d (.list (l.map TInstr.d))),(7, .d (.bool true)),(8, .row 2432 0 0 b.length),(10, .ptr 704 0),(15, .d (.int .i64 i))],[(704, .cells [.d (.list (intd S)), .d (.list (jds J)), .d (.list (intd L)), .d (.list (intd H))]),(2432, .row 1 (byt b) 0 true false)]⟩) (.exit 2,⟨[(7, .d (.bool true))],[]⟩) trivial (by omega) ?_]
  case hs=>
   intro i hi
   have hx:(l.map TInstr.d)[i]? =some (l.getD i in0).d:=getD_map hi
   have hs:(intd S)[i]? =some (.int .i64 (at0 S i)):=getD_map (by omega)
   have hkI:(i:Int)<l.length:=by omega
   have hkS:(i:Int)<S.length:=by omega
   have W:=wrap_i64 (show-9223372036854775808≤(i:Int)+1 by omega) (by omega)
   obtain⟨w,cw,_,w2,w3,_⟩:=hat i hi
   have e1:at0 S i=(w:Int):=by unfold at0;rw[List.getD_eq_getElem?_getD,w2];rfl
   have hw:=hbd i (by omega)
   have R:=Read_ev fu (n+14) b hB w (by omega) (by omega) (by omega)
   rw[w3] at R
   have hL:L.any (fun x=>decide (x=at0 S i))=decide ((l.getD i in0).op=3):=by
    rw[Bool.eq_iff_iff,List.any_eq_true,decide_eq_true_iff,←hloop i hi]
    constructor
    ·rintro⟨x,hx,h⟩
     rw[←of_decide_eq_true h];exact hx
    ·intro h
     exact⟨_,h,by simp⟩
   have hlb2:=hlb (l.getD i in0) (by rw[List.getD_eq_getElem?_getD,List.getElem?_eq_getElem hi];exact List.getElem_mem hi)
   rw[e1] at hL hs
   have ALw:=AL (w:Int)
   rw[hL] at ALw
   generalize l.getD i in0=y at*
   have Q2:=same_ev fu (n+19) y.op y.a y.b y.k y.op y.a y.b y.k y.labels y.labels hlb2.1 hlb2.2
   simp only[and_self,decide_true] at Q2
   simp only[decR,TInstr.d] at R hx
   clear hat hbd hloop hland hend AS AL hL w2 w3
   by_cases o:y.op=3
   ·simp only[o,decide_true] at ALw R hx Q2
    simp(maxSteps:=1000000) only[go_sem,seval, -Nat.reduceSubDiff,↓reduceIte,reduceCtorEq,List.length_map,hkI,idx,hx,hs,hkS,tk,R,Q2,ALw,W]
    rfl
   ·simp only[o,decide_false] at ALw
    simp(maxSteps:=1000000) only[go_sem,seval, -Nat.reduceSubDiff,↓reduceIte,reduceCtorEq,List.length_map,hkI,idx,hx,hs,hkS,tk,R,Q2,ALw,W,o]
    rfl
  case he=>simp only[go_sem,seval, -Nat.reduceSubDiff,↓reduceIte,reduceCtorEq,List.length_map,Int.lt_irrefl]
  ·simp only[go_sem,seval, -Nat.reduceSubDiff,↓reduceIte,reduceCtorEq]
  ·rfl
 ·rfl
theorem SideLands.pure (e:Tavocetref10_Env) (he:e.ok) (l:List TInstr) (hl:l.length≤maxLen∧∀z∈l,z.ok) (a:List Int) (ha:a.length≤maxLen∧∀z∈a,rng .u8 z):
 ∃fu n,evF (G fu) n 7 [.d e.d, .d (.list (l.map TInstr.d)), .d (.list (a.map (D.int .u8)))] []=some (.d (.bool true),[]):=
 ⟨l.length+300001,22,sideLands_ev l.length 0 e l (fun i hi=>cok12 (hl.2 i hi)) (by omega) hl.1 a (bs12 ha.2)⟩
end Go.Proofs.YtfpioigggjnffaaGreatDoor.E
