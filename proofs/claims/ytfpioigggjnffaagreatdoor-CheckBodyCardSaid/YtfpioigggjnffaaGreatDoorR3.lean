/- R3, R4. -/
import Derived.Test.YtfpioigggjnffaaGreatDoorR1
set_option linter.unnecessarySimpa false
set_option linter.unusedSimpArgs false
set_option linter.unusedVariables false
set_option autoImplicit false
set_option maxRecDepth 100000
set_option maxHeartbeats 4000000
set_option pp.maxSteps 20000
namespace Go.Proofs.YtfpioigggjnffaaGreatDoor.E
open Go.Ev
theorem last_at {s:Stk} {c:Ctl} (hcl:s.ctrls.getLast? =some c):0<s.ctrls.length∧(ctlds s.ctrls)[s.ctrls.length-1]? =some c.dd:=by
 constructor
 ·cases hh:s.ctrls with
  |nil=>rw[hh] at hcl;cases hcl
  |cons _ _=>simp
 ·rw[ctlds,List.getElem?_map,←List.getLast?_eq_getElem?,hcl];rfl
theorem set_last9 {α:Type} {l:List α} {x:α} (h:0<l.length):l.set (l.length-1) x=l.dropLast++[x]:=by
 rcases List.eq_nil_or_concat l with rfl|⟨a,b,rfl⟩
 ·simp at h
 ·simp[List.concat_eq_append]
theorem r9kill_ev (fu n:Nat) (s:Stk) (hs:SzOk fu s):evF (G fu) (n+3) 112 [.d s.dd] []=stkR (killS s):=by
 have S:=r9sane_ev fu n s hs.v hs.c hs.hv hs.hc
 have C:=r9copied_ev fu (n+1) s hs.hv hs.hc
 have t0:=byt_takeL s.vals
 have t2:=ctlds_takeL s.ctrls
 unfold r9copy at C
 simp only[Stk.dd] at S C
 have g1:=hs.hv
 have g2:=hs.hc
 have Wm:IntKind.wrap .i64 (-1)= -1:=by decide
 rw[evF.eq_2,evX.eq_def,Gext,exts_no _ (f:=112) (by decide),GP,Tryz.func112];simp only[Tryz.f112,evB]
 cases h1:saneS s with
 |false=>
  have hp:killS s= .error 1:=by simp[killS,topC,h1]
  rw[h1] at S
  simp only[go_sem,Nat.reduceAdd,Nat.reduceMul,Nat.reduceSub,Nat.reduceLT,Nat.reduceLeDiff,Nat.reduceEqDiff,Nat.reduceBEq,Nat.reduceBeqDiff,Int.reduceEq,Int.reduceLT,Int.reduceLE,Int.reduceToNat,Int.reduceNeg,Int.reduceAdd,Int.reduceSub,Int.reduceMul,reduceIte,reduceCtorEq,Nat.reducePow,Nat.reduceDiv,Nat.reduceMod,Int.reduceBEq,Stk.dd,S,hp,stkR,stk0,List.map_nil]
 |true=>
  rw[h1] at S
  cases hcl:s.ctrls.getLast? with
  |none=>
   have h0:s.ctrls=[]:=List.getLast?_eq_none_iff.1 hcl
   have hp:killS s= .error 5:=by simp[killS,topC,h1,hcl]
   have hL0:(s.ctrls.length:Int)=0:=by rw[h0];rfl
   simp only[go_sem,Nat.reduceAdd,Nat.reduceMul,Nat.reduceSub,Nat.reduceLT,Nat.reduceLeDiff,Nat.reduceEqDiff,Nat.reduceBEq,Nat.reduceBeqDiff,Int.reduceEq,Int.reduceLT,Int.reduceLE,Int.reduceToNat,Int.reduceNeg,Int.reduceAdd,Int.reduceSub,Int.reduceMul,reduceIte,reduceCtorEq,Nat.reducePow,Nat.reduceDiv,Nat.reduceMod,Int.reduceBEq,Stk.dd,S,hp,stkR,stk0,List.map_nil,ctlds_len,hL0,Wm,show((-1:Int)<0)=True from by decide]
  |some c=>
   obtain⟨hpos,hgd⟩:=last_at hcl
   have ht:topC s= .ok c:=by simp[topC,h1,hcl]
   have hp:killS s= .ok ⟨s.vals.take c.ht.toNat,s.ctrls.dropLast++[{c with dead:=true}]⟩:=by simp[killS,ht]
   simp only[Ctl.dd] at hgd
   have Wn:IntKind.wrap .i64 ((s.ctrls.length:Int)-1)=((s.ctrls.length-1:Nat):Int):=by rw[wrap_i64 (by omega) (by omega)];omega
   have hlt:((s.ctrls.length-1:Nat):Int)<s.ctrls.length:=by omega
   have hnn: ¬((s.ctrls.length-1:Nat):Int)<0:=by omega
   have hht:=(topC_sz ht).2.2
   have hhl:c.ht≤s.vals.length:=(topC_rises ht).2.1
   simp only[go_sem,Nat.reduceAdd,Nat.reduceMul,Nat.reduceSub,Nat.reduceLT,Nat.reduceLeDiff,Nat.reduceEqDiff,Nat.reduceBEq,Nat.reduceBeqDiff,Int.reduceEq,Int.reduceLT,Int.reduceLE,Int.reduceToNat,Int.reduceNeg,Int.reduceAdd,Int.reduceSub,Int.reduceMul,reduceIte,reduceCtorEq,Nat.reducePow,Nat.reduceDiv,Nat.reduceMod,Int.reduceBEq,Stk.dd,S,C,hp,stkR,byt_len,ctlds_len,Wn,hlt,hnn,hgd,hht,hhl,idx,t0,t2]
   (rw[cond_free];rotate_left;·rfl)
   simp only[go_sem,Nat.reduceAdd,Nat.reduceMul,Nat.reduceSub,Nat.reduceLT,Nat.reduceLeDiff,Nat.reduceEqDiff,Nat.reduceBEq,Nat.reduceBeqDiff,Int.reduceEq,Int.reduceLT,Int.reduceLE,Int.reduceToNat,Int.reduceNeg,Int.reduceAdd,Int.reduceSub,Int.reduceMul,reduceIte,reduceCtorEq,Nat.reducePow,Nat.reduceDiv,Nat.reduceMod,Int.reduceBEq,byt_len,ctlds_len,Wn,hlt,hnn,hgd,hht,hhl,idx,t0,t2]
   have t3:(ctlds s.ctrls).set (s.ctrls.length-1) (D.agg [D.int .i64 c.op,D.list (byt c.fin),D.int .i64 c.ht,D.bool true])=ctlds (s.ctrls.dropLast++[{c with dead:=true}]):=by
    have:=set_last9 (l:=ctlds s.ctrls) (x:=D.agg [D.int .i64 c.op,D.list (byt c.fin),D.int .i64 c.ht,D.bool true]) (by rw[ctlds_len];exact hpos)
    rw[ctlds_len] at this
    rw[this]
    simp[ctlds,Ctl.dd,List.map_dropLast]
   have t4:=ctlds_takeL (s.ctrls.dropLast++[{c with dead:=true}])
   have t5:(s.ctrls.dropLast++[({c with dead:=true}:Ctl)]).length=s.ctrls.length:=by simp;omega
   rw[t5] at t4
   rw[t3,t4,Int.sub_zero,byt_take']
def WantJ (fu:Nat):Except Int Stk→Ex→St→Prop
 | .error e,x,z=>x= .ret∧z=⟨[(4,V.ptr 320 0),(5,V.d (D.int .i64 e))],[(320, .cells [.nilsl, .nilsl])]⟩
 | .ok s,x,z=>x= .exit 0∧SzOk fu s∧z=⟨[(2,V.ptr 192 0),(4,V.ptr 320 0)],[(192, .cells (r9cells s)),(320, .cells [.nilsl, .nilsl])]⟩
theorem r9want_ev (fu n:Nat) (s:Stk) (l:List Int) (hs:SzOk fu s) (hl:l.length<fu) (hl2:l.length<1000000):evF (G fu) (n+4) 121 [.d s.dd, .d (.list (byt l))] []=stkR (wantS s l):=by
 have S:=r9sane_ev fu (n+1) s hs.v hs.c hs.hv hs.hc
 simp only[Stk.dd] at S
 rw[evF.eq_2,evX.eq_def,Gext,exts_no _ (f:=121) (by decide),GP,Tryz.func121];simp only[Tryz.f121,evB]
 cases h1:saneS s with
 |false=>
  have hp:wantS s l= .error 1:=by simp[wantS,topC,h1]
  rw[h1] at S
  simp only[go_sem,Nat.reduceAdd,Nat.reduceMul,Nat.reduceSub,Nat.reduceLT,Nat.reduceLeDiff,Nat.reduceEqDiff,Nat.reduceBEq,Nat.reduceBeqDiff,Int.reduceEq,Int.reduceLT,Int.reduceLE,Int.reduceToNat,Int.reduceNeg,Int.reduceAdd,Int.reduceSub,Int.reduceMul,reduceIte,reduceCtorEq,Nat.reducePow,Nat.reduceDiv,Nat.reduceMod,Int.reduceBEq,Stk.dd,S,hp,stkR,stk0,List.map_nil]
 |true=>
  rw[←wantGo_want h1]
  rw[h1] at S
  simp only[go_sem,Nat.reduceAdd,Nat.reduceMul,Nat.reduceSub,Nat.reduceLT,Nat.reduceLeDiff,Nat.reduceEqDiff,Nat.reduceBEq,Nat.reduceBeqDiff,Int.reduceEq,Int.reduceLT,Int.reduceLE,Int.reduceToNat,Int.reduceNeg,Int.reduceAdd,Int.reduceSub,Int.reduceMul,reduceIte,reduceCtorEq,Nat.reducePow,Nat.reduceDiv,Nat.reduceMod,Int.reduceBEq,Stk.dd,S,byt_len]
  generalize hr:loopN _ _ _ _ _=r
  have Wl:IntKind.wrap .i64 ((l.length:Int)-1)=(l.length:Int)-1:=wrap_i64 (by omega) (by omega)
  rw[Wl] at hr
  obtain⟨x,s1,rfl,hx,hJ⟩: ∃x s1,r=some (x,s1)∧leaves x∧WantJ fu (wantGo l.reverse s) x s1:=by
   rw[←hr]
   refine loop_rel (σ:=List Int×Stk) (fun a z=>saneS a.2=true∧SzOk fu a.2∧(∃rest,l=a.1++rest)∧z=⟨[(1,V.d (D.list (byt l))),(2,V.ptr 192 0),(4,V.ptr 320 0),(6,V.d (D.int .i64 ((a.1.length:Int)-1)))],[(192, .cells (r9cells a.2)),(320, .cells [.nilsl, .nilsl])]⟩) (fun a x z=>WantJ fu (wantGo a.1.reverse a.2) x z) (fun a=>a.1.length) ?_ fu (l,s) _ hl ⟨h1,hs,⟨[],by simp⟩,rfl⟩
   rintro⟨rem,cur⟩ z ⟨hsn,hsz,⟨rest,hrest⟩,rfl⟩
   simp only at hsn hsz hrest ⊢
   rcases List.eq_nil_or_concat rem with rfl|⟨r,t,rfl⟩
   ·simp only[go_sem,Nat.reduceAdd,Nat.reduceMul,Nat.reduceSub,Nat.reduceLT,Nat.reduceLeDiff,Nat.reduceEqDiff,Nat.reduceBEq,Nat.reduceBeqDiff,Int.reduceEq,Int.reduceLT,Int.reduceLE,Int.reduceToNat,Int.reduceNeg,Int.reduceAdd,Int.reduceSub,Int.reduceMul,reduceIte,reduceCtorEq,Nat.reducePow,Nat.reduceDiv,Nat.reduceMod,Int.reduceBEq,r9cells,List.length_nil,Int.natCast_zero,Int.zero_sub,show ¬((0:Int)≤ -1) by decide]
    exact⟨_,_,rfl,rfl,hsz,rfl⟩
   ·have hil:r.length<l.length:=by rw[hrest];simp
    have hi:(byt l)[r.length]? =some (.int .u8 t):=by rw[hrest];simp[byt]
    have hlen:(((r.concat t).length:Int)-1)=(r.length:Int):=by simp
    have hrv:(r.concat t).reverse=t::r.reverse:=by simp
    rw[hlen,hrv]
    have P:=r9pop_ev fu n cur hsz
    have hnn:(0:Int)≤r.length:=by omega
    have hiI:(r.length:Int)<l.length:=by omega
    have W:=wrap_i64 (show-9223372036854775808≤(r.length:Int)-1 by omega) (by omega)
    simp only[wantGo]
    cases hp:popS cur with
    |error e=>
     have he:=popS_err hp
     rw[hp] at P
     simp only[popR,Stk.dd] at P
     simp only[go_sem,Nat.reduceAdd,Nat.reduceMul,Nat.reduceSub,Nat.reduceLT,Nat.reduceLeDiff,Nat.reduceEqDiff,Nat.reduceBEq,Nat.reduceBeqDiff,Int.reduceEq,Int.reduceLT,Int.reduceLE,Int.reduceToNat,Int.reduceNeg,Int.reduceAdd,Int.reduceSub,Int.reduceMul,reduceIte,reduceCtorEq,Nat.reducePow,Nat.reduceDiv,Nat.reduceMod,Int.reduceBEq,r9cells,P,hnn,hiI,byt_len,idx,hi,show ¬e=0 by omega]
     exact⟨_,_,rfl,rfl,rfl⟩
    |ok y=>
     obtain⟨c,s'⟩:=y
     obtain⟨g1,g2,g3⟩:=popS_ok hp
     have g4:=g3.length_le
     have hsz':SzOk fu s':=⟨by have:=hsz.v;omega,by rw[g2];exact hsz.c,by have:=hsz.hv;omega,by rw[g2];exact hsz.hc⟩
     rw[hp] at P
     simp only[popR,Stk.dd] at P
     by_cases c1:c=0
     ·simp only[go_sem,Nat.reduceAdd,Nat.reduceMul,Nat.reduceSub,Nat.reduceLT,Nat.reduceLeDiff,Nat.reduceEqDiff,Nat.reduceBEq,Nat.reduceBeqDiff,Int.reduceEq,Int.reduceLT,Int.reduceLE,Int.reduceToNat,Int.reduceNeg,Int.reduceAdd,Int.reduceSub,Int.reduceMul,reduceIte,reduceCtorEq,Nat.reducePow,Nat.reduceDiv,Nat.reduceMod,Int.reduceBEq,r9cells,P,hnn,hiI,byt_len,idx,hi,c1,W]
      exact⟨_,_,rfl,(r,s'),⟨g1,hsz',⟨t::rest,by rw[hrest];simp⟩,rfl⟩,by simp,fun x z h=>by rw[if_neg (by simp[c1])];exact h⟩
     ·by_cases c2:t=0
      ·simp only[go_sem,Nat.reduceAdd,Nat.reduceMul,Nat.reduceSub,Nat.reduceLT,Nat.reduceLeDiff,Nat.reduceEqDiff,Nat.reduceBEq,Nat.reduceBeqDiff,Int.reduceEq,Int.reduceLT,Int.reduceLE,Int.reduceToNat,Int.reduceNeg,Int.reduceAdd,Int.reduceSub,Int.reduceMul,reduceIte,reduceCtorEq,Nat.reducePow,Nat.reduceDiv,Nat.reduceMod,Int.reduceBEq,r9cells,P,hnn,hiI,byt_len,idx,hi,c1,c2,W]
       exact⟨_,_,rfl,(r,s'),⟨g1,hsz',⟨t::rest,by rw[hrest];simp⟩,rfl⟩,by simp,fun x z h=>by rw[if_neg (by simp[c2])];exact h⟩
      ·by_cases c3:c=t
       ·simp only[go_sem,Nat.reduceAdd,Nat.reduceMul,Nat.reduceSub,Nat.reduceLT,Nat.reduceLeDiff,Nat.reduceEqDiff,Nat.reduceBEq,Nat.reduceBeqDiff,Int.reduceEq,Int.reduceLT,Int.reduceLE,Int.reduceToNat,Int.reduceNeg,Int.reduceAdd,Int.reduceSub,Int.reduceMul,reduceIte,reduceCtorEq,Nat.reducePow,Nat.reduceDiv,Nat.reduceMod,Int.reduceBEq,r9cells,P,hnn,hiI,byt_len,idx,hi,c1,c2,c3,W]
        exact⟨_,_,rfl,(r,s'),⟨g1,hsz',⟨t::rest,by rw[hrest];simp⟩,rfl⟩,by simp,fun x z h=>by rw[if_neg (by simp[c3])];exact h⟩
       ·simp only[go_sem,Nat.reduceAdd,Nat.reduceMul,Nat.reduceSub,Nat.reduceLT,Nat.reduceLeDiff,Nat.reduceEqDiff,Nat.reduceBEq,Nat.reduceBeqDiff,Int.reduceEq,Int.reduceLT,Int.reduceLE,Int.reduceToNat,Int.reduceNeg,Int.reduceAdd,Int.reduceSub,Int.reduceMul,reduceIte,reduceCtorEq,Nat.reducePow,Nat.reduceDiv,Nat.reduceMod,Int.reduceBEq,r9cells,P,hnn,hiI,byt_len,idx,hi,c1,c2,c3,W]
        rw[if_pos ⟨c1,c2,c3⟩]
        exact⟨_,_,rfl,rfl,rfl⟩
  cases hw:wantGo l.reverse s with
  |error e=>
   rw[hw] at hJ
   obtain⟨rfl,rfl⟩:=hJ
   simp only[go_sem,Nat.reduceAdd,Nat.reduceMul,Nat.reduceSub,Nat.reduceLT,Nat.reduceLeDiff,Nat.reduceEqDiff,Nat.reduceBEq,Nat.reduceBeqDiff,Int.reduceEq,Int.reduceLT,Int.reduceLE,Int.reduceToNat,Int.reduceNeg,Int.reduceAdd,Int.reduceSub,Int.reduceMul,reduceIte,reduceCtorEq,Nat.reducePow,Nat.reduceDiv,Nat.reduceMod,Int.reduceBEq,stkR,stk0,Stk.dd,List.map_nil]
  |ok s'=>
   rw[hw] at hJ
   obtain⟨rfl,hz,rfl⟩:=hJ
   have C:=r9copied_ev fu (n+2) s' hz.hv hz.hc
   have t0:=byt_takeL s'.vals
   have t2:=ctlds_takeL s'.ctrls
   unfold r9copy at C
   simp only[Stk.dd] at C
   simp only[go_sem,Nat.reduceAdd,Nat.reduceMul,Nat.reduceSub,Nat.reduceLT,Nat.reduceLeDiff,Nat.reduceEqDiff,Nat.reduceBEq,Nat.reduceBeqDiff,Int.reduceEq,Int.reduceLT,Int.reduceLE,Int.reduceToNat,Int.reduceNeg,Int.reduceAdd,Int.reduceSub,Int.reduceMul,reduceIte,reduceCtorEq,Nat.reducePow,Nat.reduceDiv,Nat.reduceMod,Int.reduceBEq,r9cells,C,stkR,Stk.dd,t0,t2]
end Go.Proofs.YtfpioigggjnffaaGreatDoor.E
set_option autoImplicit false
set_option maxRecDepth 100000
set_option maxHeartbeats 4000000
set_option pp.maxSteps 20000
namespace Go.Proofs.YtfpioigggjnffaaGreatDoor.E
open Go.Ev
theorem closeS_want {s:Stk} {c:Ctl} (ht:topC s= .ok c):closeS s=match wantS s c.fin with
 | .error e=> .error e
 | .ok t=>if (t.vals.length:Int)≠c.ht then .error 5 else .ok (c,⟨t.vals,s.ctrls.dropLast⟩):=by
 have hs:=(topC_ok ht).1
 unfold closeS wantS
 rw[ht]
 simp only
 cases hf:c.fin with
 |nil=>
  rw[hs]
  simp[wantV]
 |cons a l=>
  simp only[List.isEmpty_cons,Bool.and_false,Bool.false_eq_true,if_false]
  cases wantV c.ht c.dead (a::l).reverse s.vals<;>rfl
theorem finB_len {l:List Int} (h:finB l=true):l.length≤1:=by
 match l,h with
 |[],_=>simp
 |[a],_=>simp
theorem r9close_ev (fu n:Nat) (s:Stk) (hs:SzOk fu s) (hf:3<fu):evF (G fu) (n+5) 71 [.d s.dd] []=closeR (closeS s):=by
 have S:=r9sane_ev fu (n+2) s hs.v hs.c hs.hv hs.hc
 have t0:=byt_takeL s.vals
 have t2:=ctlds_takeL s.ctrls
 simp only[Stk.dd] at S
 have g1:=hs.hv
 have g2:=hs.hc
 have Wm:IntKind.wrap .i64 (-1)= -1:=by decide
 rw[evF.eq_2,evX.eq_def,Gext,exts_no _ (f:=71) (by decide),GP,Tryz.func71];simp only[Tryz.f71,evB]
 cases h1:saneS s with
 |false=>
  have hp:closeS s= .error 1:=by simp[closeS,topC,h1]
  rw[h1] at S
  simp only[go_sem,Nat.reduceAdd,Nat.reduceMul,Nat.reduceSub,Nat.reduceLT,Nat.reduceLeDiff,Nat.reduceEqDiff,Nat.reduceBEq,Nat.reduceBeqDiff,Int.reduceEq,Int.reduceLT,Int.reduceLE,Int.reduceToNat,Int.reduceNeg,Int.reduceAdd,Int.reduceSub,Int.reduceMul,reduceIte,reduceCtorEq,Nat.reducePow,Nat.reduceDiv,Nat.reduceMod,Int.reduceBEq,Stk.dd,S,hp,closeR,stk0,ctl0,Ctl.dd,List.map_nil]
  try rfl
 |true=>
  rw[h1] at S
  cases hcl:s.ctrls.getLast? with
  |none=>
   have h0:s.ctrls=[]:=List.getLast?_eq_none_iff.1 hcl
   have hp:closeS s= .error 5:=by simp[closeS,topC,h1,hcl]
   have hL0:(s.ctrls.length:Int)=0:=by rw[h0];rfl
   simp only[go_sem,Nat.reduceAdd,Nat.reduceMul,Nat.reduceSub,Nat.reduceLT,Nat.reduceLeDiff,Nat.reduceEqDiff,Nat.reduceBEq,Nat.reduceBeqDiff,Int.reduceEq,Int.reduceLT,Int.reduceLE,Int.reduceToNat,Int.reduceNeg,Int.reduceAdd,Int.reduceSub,Int.reduceMul,reduceIte,reduceCtorEq,Nat.reducePow,Nat.reduceDiv,Nat.reduceMod,Int.reduceBEq,Stk.dd,S,hp,closeR,stk0,ctl0,Ctl.dd,List.map_nil,ctlds_len,hL0,Wm,show((-1:Int)<0)=True from by decide]
   try rfl
  |some c=>
   obtain⟨hpos,hgd⟩:=last_at hcl
   have ht:topC s= .ok c:=by simp[topC,h1,hcl]
   simp only[Ctl.dd] at hgd
   have Wn:IntKind.wrap .i64 ((s.ctrls.length:Int)-1)=((s.ctrls.length-1:Nat):Int):=by rw[wrap_i64 (by omega) (by omega)];omega
   have hlt:((s.ctrls.length-1:Nat):Int)<s.ctrls.length:=by omega
   have hnn: ¬((s.ctrls.length-1:Nat):Int)<0:=by omega
   have hfl:=finB_len (topC_rises ht).2.2.2.1
   have Q:=r9want_ev fu n s c.fin hs (by omega) (by omega)
   cases hw:wantS s c.fin with
   |error e=>
    have he: ¬e=0:=by have:=wantS_err hw;omega
    rw[hw] at Q
    have hp:closeS s= .error e:=by rw[closeS_want ht,hw]
    simp only[stkR,Stk.dd] at Q
    simp only[go_sem,Nat.reduceAdd,Nat.reduceMul,Nat.reduceSub,Nat.reduceLT,Nat.reduceLeDiff,Nat.reduceEqDiff,Nat.reduceBEq,Nat.reduceBeqDiff,Int.reduceEq,Int.reduceLT,Int.reduceLE,Int.reduceToNat,Int.reduceNeg,Int.reduceAdd,Int.reduceSub,Int.reduceMul,reduceIte,reduceCtorEq,Nat.reducePow,Nat.reduceDiv,Nat.reduceMod,Int.reduceBEq,Stk.dd,S,hp,closeR,stk0,ctl0,Ctl.dd,List.map_nil,ctlds_len,Wn,hlt,hnn,hgd,idx,Q,he]
   |ok t=>
    obtain⟨w1,w2,w3⟩:=wantS_ok hw
    rw[hw] at Q
    simp only[stkR,Stk.dd] at Q
    by_cases hv:(t.vals.length:Int)=c.ht
    ·have hle:((s.ctrls.length-1:Nat):Int)≤s.ctrls.length:=by omega
     have hp:closeS s= .ok (c,⟨t.vals,s.ctrls.dropLast⟩):=by rw[closeS_want ht,hw];simp[hv]
     rw[w2] at Q
     simp only[go_sem,Nat.reduceAdd,Nat.reduceMul,Nat.reduceSub,Nat.reduceLT,Nat.reduceLeDiff,Nat.reduceEqDiff,Nat.reduceBEq,Nat.reduceBeqDiff,Int.reduceEq,Int.reduceLT,Int.reduceLE,Int.reduceToNat,Int.reduceNeg,Int.reduceAdd,Int.reduceSub,Int.reduceMul,reduceIte,reduceCtorEq,Nat.reducePow,Nat.reduceDiv,Nat.reduceMod,Int.reduceBEq,Stk.dd,S,hp,closeR,Ctl.dd,ctlds_len,byt_len,Wn,hlt,hnn,hgd,idx,Q,hv,hle,ctlds_sized,Int.sub_zero,Int.toNat_natCast]
     have t3:(ctlds s.ctrls).take (s.ctrls.length-1)=ctlds s.ctrls.dropLast:=by rw[List.dropLast_eq_take,ctlds,ctlds,List.map_take]
     rw[t3]
     (rw[cond_free];rotate_left;·rfl)
     simp only[go_sem,Nat.reduceAdd,Nat.reduceMul,Nat.reduceSub,Nat.reduceLT,Nat.reduceLeDiff,Nat.reduceEqDiff,Nat.reduceBEq,Nat.reduceBeqDiff,Int.reduceEq,Int.reduceLT,Int.reduceLE,Int.reduceToNat,Int.reduceNeg,Int.reduceAdd,Int.reduceSub,Int.reduceMul,reduceIte,reduceCtorEq,Nat.reducePow,Nat.reduceDiv,Nat.reduceMod,Int.reduceBEq]
    ·have hp:closeS s= .error 5:=by rw[closeS_want ht,hw];simp[hv]
     simp only[go_sem,Nat.reduceAdd,Nat.reduceMul,Nat.reduceSub,Nat.reduceLT,Nat.reduceLeDiff,Nat.reduceEqDiff,Nat.reduceBEq,Nat.reduceBeqDiff,Int.reduceEq,Int.reduceLT,Int.reduceLE,Int.reduceToNat,Int.reduceNeg,Int.reduceAdd,Int.reduceSub,Int.reduceMul,reduceIte,reduceCtorEq,Nat.reducePow,Nat.reduceDiv,Nat.reduceMod,Int.reduceBEq,Stk.dd,S,hp,closeR,stk0,ctl0,Ctl.dd,List.map_nil,ctlds_len,byt_len,Wn,hlt,hnn,hgd,idx,Q,hv]
theorem r9sameC_ev (fu n:Nat) (c:Ctl):evF (G fu) (n+1) 63 [.d c.dd, .d c.dd] []=some (.d (.bool true),[]):=by
 rw[evF.eq_2,evX.eq_def,Gext,exts_no _ (f:=63) (by decide),GP,Tryz.func63];simp only[Tryz.f63,evB]
 have hsb:=strOf_byt c.fin
 simp only[go_sem,Nat.reduceAdd,Nat.reduceMul,Nat.reduceSub,Nat.reduceLT,Nat.reduceLeDiff,Nat.reduceEqDiff,Nat.reduceBEq,Nat.reduceBeqDiff,Int.reduceEq,Int.reduceLT,Int.reduceLE,Int.reduceToNat,Int.reduceNeg,Int.reduceAdd,Int.reduceSub,Int.reduceMul,reduceIte,reduceCtorEq,Nat.reducePow,Nat.reduceDiv,Nat.reduceMod,Int.reduceBEq,Ctl.dd,hsb]
theorem r9same_ev (fu n:Nat) (s:Stk) (hs:SzOk fu s):evF (G fu) (n+2) 20 [.d s.dd, .d s.dd] []=some (.d (.bool true),[]):=by
 rw[evF.eq_2,evX.eq_def,Gext,exts_no _ (f:=20) (by decide),GP,Tryz.func20];simp only[Tryz.f20,evB]
 have hsb:=strOf_byt s.vals
 simp only[go_sem,Nat.reduceAdd,Nat.reduceMul,Nat.reduceSub,Nat.reduceLT,Nat.reduceLeDiff,Nat.reduceEqDiff,Nat.reduceBEq,Nat.reduceBeqDiff,Int.reduceEq,Int.reduceLT,Int.reduceLE,Int.reduceToNat,Int.reduceNeg,Int.reduceAdd,Int.reduceSub,Int.reduceMul,reduceIte,reduceCtorEq,Nat.reducePow,Nat.reduceDiv,Nat.reduceMod,Int.reduceBEq,Stk.dd,hsb,ctlds_len]
 rw[loop_some s.ctrls.length (fun i=>⟨[(2,V.ptr 192 0),(3,V.ptr 256 0),(5,V.d (D.int .i64 i))],[(192, .cells (r9cells s)),(256, .cells (r9cells s))]⟩) (.exit 0,⟨[],[]⟩) trivial hs.c ?_]
 case hs=>
  intro i hi
  have hx:(ctlds s.ctrls)[i]? =some (s.ctrls.getD i ctl0).dd:=getD_map hi
  have C:=r9sameC_ev fu n (s.ctrls.getD i ctl0)
  have hiI:(i:Int)<s.ctrls.length:=by omega
  have g2:=hs.hc
  have W:=wrap_i64 (show-9223372036854775808≤(i:Int)+1 by omega) (by omega)
  generalize s.ctrls.getD i ctl0=c at*
  simp only[Ctl.dd] at hx C
  simp only[go_sem,Nat.reduceAdd,Nat.reduceMul,Nat.reduceSub,Nat.reduceLT,Nat.reduceLeDiff,Nat.reduceEqDiff,Nat.reduceBEq,Nat.reduceBeqDiff,Int.reduceEq,Int.reduceLT,Int.reduceLE,Int.reduceToNat,Int.reduceNeg,Int.reduceAdd,Int.reduceSub,Int.reduceMul,reduceIte,reduceCtorEq,Nat.reducePow,Nat.reduceDiv,Nat.reduceMod,Int.reduceBEq,r9cells,ctlds_len,hiI,idx,hx,C,W]
  rfl
 case he=>simp only[go_sem,Nat.reduceAdd,Nat.reduceMul,Nat.reduceSub,Nat.reduceLT,Nat.reduceLeDiff,Nat.reduceEqDiff,Nat.reduceBEq,Nat.reduceBeqDiff,Int.reduceEq,Int.reduceLT,Int.reduceLE,Int.reduceToNat,Int.reduceNeg,Int.reduceAdd,Int.reduceSub,Int.reduceMul,reduceIte,reduceCtorEq,Nat.reducePow,Nat.reduceDiv,Nat.reduceMod,Int.reduceBEq,r9cells,ctlds_len,Int.lt_irrefl]
 ·simp only[go_sem,Nat.reduceAdd,Nat.reduceMul,Nat.reduceSub,Nat.reduceLT,Nat.reduceLeDiff,Nat.reduceEqDiff,Nat.reduceBEq,Nat.reduceBeqDiff,Int.reduceEq,Int.reduceLT,Int.reduceLE,Int.reduceToNat,Int.reduceNeg,Int.reduceAdd,Int.reduceSub,Int.reduceMul,reduceIte,reduceCtorEq,Nat.reducePow,Nat.reduceDiv,Nat.reduceMod,Int.reduceBEq]
 ·rfl
def labR9 (s:Stk) (k:Int):Except Int (List Int)→Option Res
 | .ok l=>if (match s.ctrls[s.ctrls.length-1-k.toNat]? with|some c=>decide (c.op=3)|none=>true) then some (.tup [.row 0 0 0 0, .d (.int .i64 0)],[.row 1 [] 0 false false]) else some (.tup [.d (.list (byt l)), .d (.int .i64 0)],[])
 | .error e=>some (.tup [.row 0 0 0 0, .d (.int .i64 e)],[.row 1 [] 0 false false])
theorem r9label_ev (fu n:Nat) (s:Stk) (k:Int) (hs:SzOk fu s) (hk: -9223372036854775808≤k∧k≤9223372036854775807):evF (G fu) (n+3) 171 [.d s.dd, .d (.int .i64 k)] []=labR9 s k (labelS s k):=by
 have S:=r9sane_ev fu n s hs.v hs.c hs.hv hs.hc
 simp only[Stk.dd] at S
 have g2:=hs.hc
 rw[evF.eq_2,evX.eq_def,Gext,exts_no _ (f:=171) (by decide),GP,Tryz.func171];simp only[Tryz.f171,evB]
 unfold labelS
 cases h1:saneS s with
 |false=>
  rw[h1] at S
  simp only[go_sem,Nat.reduceAdd,Nat.reduceMul,Nat.reduceSub,Nat.reduceLT,Nat.reduceLeDiff,Nat.reduceEqDiff,Nat.reduceBEq,Nat.reduceBeqDiff,Int.reduceEq,Int.reduceLT,Int.reduceLE,Int.reduceToNat,Int.reduceNeg,Int.reduceAdd,Int.reduceSub,Int.reduceMul,reduceIte,reduceCtorEq,Nat.reducePow,Nat.reduceDiv,Nat.reduceMod,Int.reduceBEq,Stk.dd,S,labR9,Bool.not_false,if_true]
 |true=>
  rw[h1] at S
  simp only[Bool.not_true,Bool.false_eq_true,if_false]
  by_cases k0:k<0
  ·rw[if_pos (.inl k0)]
   simp only[go_sem,Nat.reduceAdd,Nat.reduceMul,Nat.reduceSub,Nat.reduceLT,Nat.reduceLeDiff,Nat.reduceEqDiff,Nat.reduceBEq,Nat.reduceBeqDiff,Int.reduceEq,Int.reduceLT,Int.reduceLE,Int.reduceToNat,Int.reduceNeg,Int.reduceAdd,Int.reduceSub,Int.reduceMul,reduceIte,reduceCtorEq,Nat.reducePow,Nat.reduceDiv,Nat.reduceMod,Int.reduceBEq,Stk.dd,S,labR9,k0]
  ·by_cases k1:(s.ctrls.length:Int)≤k
   ·rw[if_pos (.inr k1)]
    simp only[go_sem,Nat.reduceAdd,Nat.reduceMul,Nat.reduceSub,Nat.reduceLT,Nat.reduceLeDiff,Nat.reduceEqDiff,Nat.reduceBEq,Nat.reduceBeqDiff,Int.reduceEq,Int.reduceLT,Int.reduceLE,Int.reduceToNat,Int.reduceNeg,Int.reduceAdd,Int.reduceSub,Int.reduceMul,reduceIte,reduceCtorEq,Nat.reducePow,Nat.reduceDiv,Nat.reduceMod,Int.reduceBEq,Stk.dd,S,labR9,k0,k1,ctlds_len]
   ·rw[if_neg (by omega)]
    have hlt:s.ctrls.length-1-k.toNat<s.ctrls.length:=by omega
    have hx:(ctlds s.ctrls)[s.ctrls.length-1-k.toNat]? =some (s.ctrls.getD (s.ctrls.length-1-k.toNat) ctl0).dd:=getD_map hlt
    have hy:s.ctrls[s.ctrls.length-1-k.toNat]? =some (s.ctrls.getD (s.ctrls.length-1-k.toNat) ctl0):=by simp[hlt]
    have W1:=wrap_i64 (show-9223372036854775808≤(s.ctrls.length:Int)-1 by omega) (by omega)
    have W2:IntKind.wrap .i64 ((s.ctrls.length:Int)-1-k)=((s.ctrls.length-1-k.toNat:Nat):Int):=by rw[wrap_i64 (by omega) (by omega)];omega
    have hltI:((s.ctrls.length-1-k.toNat:Nat):Int)<s.ctrls.length:=by omega
    rw[hy]
    simp only[labR9,hy]
    generalize s.ctrls.getD (s.ctrls.length-1-k.toNat) ctl0=c at*
    simp only[Ctl.dd] at hx
    by_cases h3:c.op=3
    ·simp only[go_sem,Nat.reduceAdd,Nat.reduceMul,Nat.reduceSub,Nat.reduceLT,Nat.reduceLeDiff,Nat.reduceEqDiff,Nat.reduceBEq,Nat.reduceBeqDiff,Int.reduceEq,Int.reduceLT,Int.reduceLE,Int.reduceToNat,Int.reduceNeg,Int.reduceAdd,Int.reduceSub,Int.reduceMul,reduceIte,reduceCtorEq,Nat.reducePow,Nat.reduceDiv,Nat.reduceMod,Int.reduceBEq,Stk.dd,S,k0,k1,ctlds_len,W1,W2,hltI,idx,hx,h3,decide_true]
    ·simp only[go_sem,Nat.reduceAdd,Nat.reduceMul,Nat.reduceSub,Nat.reduceLT,Nat.reduceLeDiff,Nat.reduceEqDiff,Nat.reduceBEq,Nat.reduceBeqDiff,Int.reduceEq,Int.reduceLT,Int.reduceLE,Int.reduceToNat,Int.reduceNeg,Int.reduceAdd,Int.reduceSub,Int.reduceMul,reduceIte,reduceCtorEq,Nat.reducePow,Nat.reduceDiv,Nat.reduceMod,Int.reduceBEq,Stk.dd,S,k0,k1,ctlds_len,W1,W2,hltI,idx,hx,h3,decide_false,Bool.false_eq_true]
end Go.Proofs.YtfpioigggjnffaaGreatDoor.E
