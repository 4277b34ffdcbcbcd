/- R1, R2. -/
import Derived.Test.YtfpioigggjnffaaGreatDoorQ5
set_option linter.unnecessarySimpa false
set_option linter.unusedSimpArgs false
set_option linter.unusedVariables false
set_option autoImplicit false
set_option maxRecDepth 100000
set_option maxHeartbeats 4000000
set_option pp.maxSteps 20000
namespace Go.Proofs.YtfpioigggjnffaaGreatDoor.E
open Go.Ev
def wantGo:List Int→Stk→Except Int Stk
 |[],s=> .ok s
 |t::l,s=>match popS s with
  | .error e=> .error e
  | .ok (c,s')=>if c≠0∧t≠0∧c≠t then .error 5 else wantGo l s'
theorem wantGo_is {l:List Int}: ∀{s:Stk} {c:Ctl},topC s= .ok c→wantGo l s=match wantV c.ht c.dead l s.vals with
 | .error e=> .error e
 | .ok v=> .ok ⟨v,s.ctrls⟩:=by
 induction l with
 |nil=>intro s c h;rfl
 |cons t l ih=>
  intro s c h
  simp only[wantGo,wantV,popS,h]
  cases hp:popV c.ht c.dead s.vals with
  |error e=>rfl
  |ok r=>
   obtain⟨x,v⟩:=r
   simp only
   have hpop:popS s= .ok (x,⟨v,s.ctrls⟩):=by simp only[popS,h,hp]
   have hs:=(popS_ok hpop).1
   have ht:topC ⟨v,s.ctrls⟩= .ok c:=by
    have:=(topC_ok h).2
    unfold topC
    rw[hs]
    simp only[Bool.not_true,Bool.false_eq_true,if_false,this]
   split
   ·rfl
   ·exact ih ht
theorem wantGo_want {s:Stk} {l:List Int} (h:saneS s=true):wantGo l.reverse s=wantS s l:=by
 unfold wantS
 cases l with
 |nil=>rw[h];rfl
 |cons a l=>
  rw[h]
  simp only[List.isEmpty_cons,Bool.and_false,Bool.false_eq_true,if_false]
  cases ht:topC s with
  |ok c=>exact wantGo_is ht
  |error e=>
   obtain⟨b,m,hb⟩: ∃b m,(a::l).reverse=b::m:=by
    cases hr:(a::l).reverse with
    |nil=>simp at hr
    |cons b m=>exact⟨b,m,rfl⟩
   rw[hb]
   simp only[wantGo,popS,ht]
theorem r9end_ev (fu n:Nat) (l:List Int):evF (G fu) (n+1) 108 [.d (.list (byt l))] []=some (.d (.bool (finB l)),[]):=by
 rw[evF.eq_2,evX.eq_def,Gext,exts_no _ (f:=108) (by decide),GP,Tryz.func108];simp only[Tryz.f108,evB]
 match l with
 |[]=>simp only[go_sem,Nat.reduceAdd,Nat.reduceMul,Nat.reduceSub,Nat.reduceLT,Nat.reduceLeDiff,Nat.reduceEqDiff,Nat.reduceBEq,Nat.reduceBeqDiff,Int.reduceEq,Int.reduceLT,Int.reduceLE,Int.reduceToNat,Int.reduceNeg,Int.reduceAdd,Int.reduceSub,Int.reduceMul,reduceIte,reduceCtorEq,Nat.reducePow,Nat.reduceDiv,Nat.reduceMod,Int.reduceBEq,List.map_nil];rfl
 |[c]=>
  by_cases h1:c=126
  ·subst h1;simp only[go_sem,Nat.reduceAdd,Nat.reduceMul,Nat.reduceSub,Nat.reduceLT,Nat.reduceLeDiff,Nat.reduceEqDiff,Nat.reduceBEq,Nat.reduceBeqDiff,Int.reduceEq,Int.reduceLT,Int.reduceLE,Int.reduceToNat,Int.reduceNeg,Int.reduceAdd,Int.reduceSub,Int.reduceMul,reduceIte,reduceCtorEq,Nat.reducePow,Nat.reduceDiv,Nat.reduceMod,Int.reduceBEq,List.map_cons,List.map_nil,idx];rfl
  ·by_cases h2:c=127
   ·subst h2;simp only[go_sem,Nat.reduceAdd,Nat.reduceMul,Nat.reduceSub,Nat.reduceLT,Nat.reduceLeDiff,Nat.reduceEqDiff,Nat.reduceBEq,Nat.reduceBeqDiff,Int.reduceEq,Int.reduceLT,Int.reduceLE,Int.reduceToNat,Int.reduceNeg,Int.reduceAdd,Int.reduceSub,Int.reduceMul,reduceIte,reduceCtorEq,Nat.reducePow,Nat.reduceDiv,Nat.reduceMod,Int.reduceBEq,List.map_cons,List.map_nil,idx];rfl
   ·have e:finB [c]=false:=by simp[finB,valB,h1,h2]
    simp only[go_sem,Nat.reduceAdd,Nat.reduceMul,Nat.reduceSub,Nat.reduceLT,Nat.reduceLeDiff,Nat.reduceEqDiff,Nat.reduceBEq,Nat.reduceBeqDiff,Int.reduceEq,Int.reduceLT,Int.reduceLE,Int.reduceToNat,Int.reduceNeg,Int.reduceAdd,Int.reduceSub,Int.reduceMul,reduceIte,reduceCtorEq,Nat.reducePow,Nat.reduceDiv,Nat.reduceMod,Int.reduceBEq,List.map_cons,List.map_nil,idx,h1,h2,e]
 |a::b::l=>
  have h0: ¬(((List.map (D.int .u8) l).length+1+1:Nat):Int)=0:=by omega
  have h1: ¬(((List.map (D.int .u8) l).length+1+1:Nat):Int)=1:=by omega
  simp only[go_sem,Nat.reduceAdd,Nat.reduceMul,Nat.reduceSub,Nat.reduceLT,Nat.reduceLeDiff,Nat.reduceEqDiff,Nat.reduceBEq,Nat.reduceBeqDiff,Int.reduceEq,Int.reduceLT,Int.reduceLE,Int.reduceToNat,Int.reduceNeg,Int.reduceAdd,Int.reduceSub,Int.reduceMul,reduceIte,reduceCtorEq,Nat.reducePow,Nat.reduceDiv,Nat.reduceMod,Int.reduceBEq,List.map_cons,h0,h1];rfl
def tyB (c:Int):Bool:=c==0||valB c
def r9cells (s:Stk):List V:=[.d (.list (byt s.vals)), .d (.list (ctlds s.ctrls))]
theorem r9sane_ev (fu n:Nat) (s:Stk) (h:s.vals.length<fu) (hc:s.ctrls.length<fu) (hs:s.vals.length<1000000) (hcs:s.ctrls.length<1000000):evF (G fu) (n+2) 48 [.d s.dd] []=some (.d (.bool (saneS s)),[]):=by
 rw[evF.eq_2,evX.eq_def,Gext,exts_no _ (f:=48) (by decide),GP,Tryz.func48];simp only[Tryz.f48,evB]
 simp only[go_sem,Nat.reduceAdd,Nat.reduceMul,Nat.reduceSub,Nat.reduceLT,Nat.reduceLeDiff,Nat.reduceEqDiff,Nat.reduceBEq,Nat.reduceBeqDiff,Int.reduceEq,Int.reduceLT,Int.reduceLE,Int.reduceToNat,Int.reduceNeg,Int.reduceAdd,Int.reduceSub,Int.reduceMul,reduceIte,reduceCtorEq,Nat.reducePow,Nat.reduceDiv,Nat.reduceMod,Int.reduceBEq,Stk.dd,List.length_map]
 rw[loop_scan s.vals.length (fun i=>⟨[(1,V.ptr 128 0),(3,V.d (D.int .i64 i))],[(128, .cells [V.d (D.list (byt s.vals)),V.d (D.list (ctlds s.ctrls))])]⟩) (fun i=> !tyB (s.vals.getD i 0)) (fun _=>(.ret,⟨[(2,V.d (D.bool false))],[]⟩)) (.exit 0,⟨[(1,V.ptr 128 0)],[(128, .cells [V.d (D.list (byt s.vals)),V.d (D.list (ctlds s.ctrls))])]⟩) h (fun _=>trivial) trivial ?_]
 case hs=>
  intro i hi
  have hx:(byt s.vals)[i]? =some (.int .u8 (s.vals.getD i 0)):=getD_map hi
  have hiI:(i:Int)<s.vals.length:=by omega
  have W:=wrap_i64 (show-9223372036854775808≤(i:Int)+1 by omega) (by omega)
  generalize s.vals.getD i 0=c at*
  by_cases h0:c=0
  ·subst h0;simp only[go_sem,Nat.reduceAdd,Nat.reduceMul,Nat.reduceSub,Nat.reduceLT,Nat.reduceLeDiff,Nat.reduceEqDiff,Nat.reduceBEq,Nat.reduceBeqDiff,Int.reduceEq,Int.reduceLT,Int.reduceLE,Int.reduceToNat,Int.reduceNeg,Int.reduceAdd,Int.reduceSub,Int.reduceMul,reduceIte,reduceCtorEq,Nat.reducePow,Nat.reduceDiv,Nat.reduceMod,Int.reduceBEq,byt_len,hiI,idx,hx,W,tyB];rfl
  ·by_cases h1:c=126
   ·subst h1;simp only[go_sem,Nat.reduceAdd,Nat.reduceMul,Nat.reduceSub,Nat.reduceLT,Nat.reduceLeDiff,Nat.reduceEqDiff,Nat.reduceBEq,Nat.reduceBeqDiff,Int.reduceEq,Int.reduceLT,Int.reduceLE,Int.reduceToNat,Int.reduceNeg,Int.reduceAdd,Int.reduceSub,Int.reduceMul,reduceIte,reduceCtorEq,Nat.reducePow,Nat.reduceDiv,Nat.reduceMod,Int.reduceBEq,byt_len,hiI,idx,hx,W,tyB];rfl
   ·by_cases h2:c=127
    ·subst h2;simp only[go_sem,Nat.reduceAdd,Nat.reduceMul,Nat.reduceSub,Nat.reduceLT,Nat.reduceLeDiff,Nat.reduceEqDiff,Nat.reduceBEq,Nat.reduceBeqDiff,Int.reduceEq,Int.reduceLT,Int.reduceLE,Int.reduceToNat,Int.reduceNeg,Int.reduceAdd,Int.reduceSub,Int.reduceMul,reduceIte,reduceCtorEq,Nat.reducePow,Nat.reduceDiv,Nat.reduceMod,Int.reduceBEq,byt_len,hiI,idx,hx,W,tyB];rfl
    ·have e:tyB c=false:=by simp[tyB,valB,h0,h1,h2]
     simp only[go_sem,Nat.reduceAdd,Nat.reduceMul,Nat.reduceSub,Nat.reduceLT,Nat.reduceLeDiff,Nat.reduceEqDiff,Nat.reduceBEq,Nat.reduceBeqDiff,Int.reduceEq,Int.reduceLT,Int.reduceLE,Int.reduceToNat,Int.reduceNeg,Int.reduceAdd,Int.reduceSub,Int.reduceMul,reduceIte,reduceCtorEq,Nat.reducePow,Nat.reduceDiv,Nat.reduceMod,Int.reduceBEq,byt_len,hiI,idx,hx,W,h0,h1,h2,e]
 case he=>simp only[go_sem,Nat.reduceAdd,Nat.reduceMul,Nat.reduceSub,Nat.reduceLT,Nat.reduceLeDiff,Nat.reduceEqDiff,Nat.reduceBEq,Nat.reduceBeqDiff,Int.reduceEq,Int.reduceLT,Int.reduceLE,Int.reduceToNat,Int.reduceNeg,Int.reduceAdd,Int.reduceSub,Int.reduceMul,reduceIte,reduceCtorEq,Nat.reducePow,Nat.reduceDiv,Nat.reduceMod,Int.reduceBEq,byt_len,Int.lt_irrefl]
 ·rw[scan_list (p:=fun c=> !tyB c) (d:=0)]
  have hT:s.vals.any (fun c=> !tyB c)= !typesB s.vals:=any_not s.vals
  rw[hT]
  cases ht:typesB s.vals with
  |false=>
   have hsn:saneS s=false:=by unfold saneS;rw[ht];cases risesB 0 s.ctrls<;>simp
   simp only[go_sem,Nat.reduceAdd,Nat.reduceMul,Nat.reduceSub,Nat.reduceLT,Nat.reduceLeDiff,Nat.reduceEqDiff,Nat.reduceBEq,Nat.reduceBeqDiff,Int.reduceEq,Int.reduceLT,Int.reduceLE,Int.reduceToNat,Int.reduceNeg,Int.reduceAdd,Int.reduceSub,Int.reduceMul,reduceIte,reduceCtorEq,Nat.reducePow,Nat.reduceDiv,Nat.reduceMod,Int.reduceBEq,hsn]
  |true=>
   simp only[go_sem,Nat.reduceAdd,Nat.reduceMul,Nat.reduceSub,Nat.reduceLT,Nat.reduceLeDiff,Nat.reduceEqDiff,Nat.reduceBEq,Nat.reduceBeqDiff,Int.reduceEq,Int.reduceLT,Int.reduceLE,Int.reduceToNat,Int.reduceNeg,Int.reduceAdd,Int.reduceSub,Int.reduceMul,reduceIte,reduceCtorEq,Nat.reducePow,Nat.reduceDiv,Nat.reduceMod,Int.reduceBEq]
   generalize hr:loopN _ _ _ _ _=r
   obtain⟨x,s1,rfl,hx,hJ⟩: ∃x s1,r=some (x,s1)∧leaves x∧((∃last,x= .exit 2∧risesB 0 s.ctrls=some last∧s1=⟨[(1,V.ptr 128 0),(4,V.d (D.int .i64 last))],[(128, .cells (r9cells s))]⟩)∨(x= .ret∧risesB 0 s.ctrls=none∧s1=⟨[(2,V.d (D.bool false))],[]⟩)):=by
    rw[←hr]
    refine loop_inv (J:=fun x s1=>((∃last,x= .exit 2∧risesB 0 s.ctrls=some last∧s1=⟨[(1,V.ptr 128 0),(4,V.d (D.int .i64 last))],[(128, .cells (r9cells s))]⟩)∨(x= .ret∧risesB 0 s.ctrls=none∧s1=⟨[(2,V.d (D.bool false))],[]⟩)))
     s.ctrls.length (fun i z=> ∃last,risesB 0 (s.ctrls.take i)=some last∧z=⟨[(1,V.ptr 128 0),(4,V.d (D.int .i64 last)),(5,V.d (D.int .i64 i))],[(128, .cells (r9cells s))]⟩) ?_ ?_ fu _ hc ⟨0,rfl,rfl⟩
    ·rintro i z hi ⟨last,hl,rfl⟩
     have hx:(ctlds s.ctrls)[i]? =some (s.ctrls.getD i ctl0).dd:=getD_map hi
     have hk:s.ctrls[i]? =some (s.ctrls.getD i ctl0):=by simp[hi]
     have hs1:=rises_step hl hk
     generalize s.ctrls.getD i ctl0=c at*
     have hL:=r9end_ev fu n c.fin
     have hiI:(i:Int)<s.ctrls.length:=by omega
     have W:=wrap_i64 (show-9223372036854775808≤(i:Int)+1 by omega) (by omega)
     simp only[Ctl.dd] at hx
     cases hf:finB c.fin with
     |false=>
      rw[hf] at hL hs1
      simp only[go_sem,Nat.reduceAdd,Nat.reduceMul,Nat.reduceSub,Nat.reduceLT,Nat.reduceLeDiff,Nat.reduceEqDiff,Nat.reduceBEq,Nat.reduceBeqDiff,Int.reduceEq,Int.reduceLT,Int.reduceLE,Int.reduceToNat,Int.reduceNeg,Int.reduceAdd,Int.reduceSub,Int.reduceMul,reduceIte,reduceCtorEq,Nat.reducePow,Nat.reduceDiv,Nat.reduceMod,Int.reduceBEq,r9cells,ctlds_len,hiI,idx,hx,hL]
      exact⟨_,_,rfl, .inr ⟨rfl,rises_none (k:=i+1) (by rw[hs1];rfl),rfl⟩⟩
     |true=>
      rw[hf] at hL hs1
      by_cases hlt:c.ht<last
      ·have: ¬last≤c.ht:=by omega
       simp only[go_sem,Nat.reduceAdd,Nat.reduceMul,Nat.reduceSub,Nat.reduceLT,Nat.reduceLeDiff,Nat.reduceEqDiff,Nat.reduceBEq,Nat.reduceBeqDiff,Int.reduceEq,Int.reduceLT,Int.reduceLE,Int.reduceToNat,Int.reduceNeg,Int.reduceAdd,Int.reduceSub,Int.reduceMul,reduceIte,reduceCtorEq,Nat.reducePow,Nat.reduceDiv,Nat.reduceMod,Int.reduceBEq,r9cells,ctlds_len,hiI,idx,hx,hL,hlt]
       exact⟨_,_,rfl, .inr ⟨rfl,rises_none (k:=i+1) (by rw[hs1];simp[this]),rfl⟩⟩
      ·have:last≤c.ht:=by omega
       simp only[go_sem,Nat.reduceAdd,Nat.reduceMul,Nat.reduceSub,Nat.reduceLT,Nat.reduceLeDiff,Nat.reduceEqDiff,Nat.reduceBEq,Nat.reduceBeqDiff,Int.reduceEq,Int.reduceLT,Int.reduceLE,Int.reduceToNat,Int.reduceNeg,Int.reduceAdd,Int.reduceSub,Int.reduceMul,reduceIte,reduceCtorEq,Nat.reducePow,Nat.reduceDiv,Nat.reduceMod,Int.reduceBEq,r9cells,ctlds_len,hiI,idx,hx,hL,hlt,W]
       exact⟨_,_,rfl,c.ht,by rw[hs1];simp[this],rfl⟩
    ·rintro z ⟨last,hl,rfl⟩
     rw[List.take_length] at hl
     simp only[go_sem,Nat.reduceAdd,Nat.reduceMul,Nat.reduceSub,Nat.reduceLT,Nat.reduceLeDiff,Nat.reduceEqDiff,Nat.reduceBEq,Nat.reduceBeqDiff,Int.reduceEq,Int.reduceLT,Int.reduceLE,Int.reduceToNat,Int.reduceNeg,Int.reduceAdd,Int.reduceSub,Int.reduceMul,reduceIte,reduceCtorEq,Nat.reducePow,Nat.reduceDiv,Nat.reduceMod,Int.reduceBEq,r9cells,ctlds_len,Int.lt_irrefl]
     exact⟨_,_,rfl,trivial, .inl ⟨last,rfl,hl,rfl⟩⟩
   rcases hJ with⟨last,rfl,hl,rfl⟩|⟨rfl,hl,rfl⟩
   ·unfold saneS
    simp only[hl,ht]
    by_cases hle:last≤s.vals.length
    ·simp only[go_sem,Nat.reduceAdd,Nat.reduceMul,Nat.reduceSub,Nat.reduceLT,Nat.reduceLeDiff,Nat.reduceEqDiff,Nat.reduceBEq,Nat.reduceBeqDiff,Int.reduceEq,Int.reduceLT,Int.reduceLE,Int.reduceToNat,Int.reduceNeg,Int.reduceAdd,Int.reduceSub,Int.reduceMul,reduceIte,reduceCtorEq,Nat.reducePow,Nat.reduceDiv,Nat.reduceMod,Int.reduceBEq,r9cells,byt_len,hle]
    ·simp only[go_sem,Nat.reduceAdd,Nat.reduceMul,Nat.reduceSub,Nat.reduceLT,Nat.reduceLeDiff,Nat.reduceEqDiff,Nat.reduceBEq,Nat.reduceBeqDiff,Int.reduceEq,Int.reduceLT,Int.reduceLE,Int.reduceToNat,Int.reduceNeg,Int.reduceAdd,Int.reduceSub,Int.reduceMul,reduceIte,reduceCtorEq,Nat.reducePow,Nat.reduceDiv,Nat.reduceMod,Int.reduceBEq,r9cells,byt_len,hle]
   ·unfold saneS
    simp only[go_sem,Nat.reduceAdd,Nat.reduceMul,Nat.reduceSub,Nat.reduceLT,Nat.reduceLeDiff,Nat.reduceEqDiff,Nat.reduceBEq,Nat.reduceBeqDiff,Int.reduceEq,Int.reduceLT,Int.reduceLE,Int.reduceToNat,Int.reduceNeg,Int.reduceAdd,Int.reduceSub,Int.reduceMul,reduceIte,reduceCtorEq,Nat.reducePow,Nat.reduceDiv,Nat.reduceMod,Int.reduceBEq,hl]
 ·rfl
def r9copy:Stk→Option Res:=fun s=>some (.agg [.row 0 0 0 s.vals.length, .row 1 0 0 s.ctrls.length],[.row 1 (byt s.vals) 0 false false, .row 4 (ctlds s.ctrls) 0 false false])
theorem r9copied_ev (fu n:Nat) (s:Stk) (hs:s.vals.length<1000000) (hcs:s.ctrls.length<1000000):evF (G fu) (n+1) 52 [.d s.dd] []=r9copy s:=by
 rw[evF.eq_2,evX.eq_def,Gext,exts_no _ (f:=52) (by decide),GP,Tryz.func52];simp only[Tryz.f52,evB]
 have hv:sizedAll 1 (byt s.vals)=true:=byt_sized s.vals
 have hc:sizedAll 4 (ctlds s.ctrls)=true:=ctlds_sized s.ctrls
 have r1:s.vals.length≤1099511627776:=by omega
 have r2:s.ctrls.length≤1099511627776:=by omega
 have t1:=byt_takeL s.vals
 have t2:=ctlds_takeL s.ctrls
 unfold r9copy
 simp only[go_sem,Nat.reduceAdd,Nat.reduceMul,Nat.reduceSub,Nat.reduceLT,Nat.reduceLeDiff,Nat.reduceEqDiff,Nat.reduceBEq,Nat.reduceBeqDiff,Int.reduceEq,Int.reduceLT,Int.reduceLE,Int.reduceToNat,Int.reduceNeg,Int.reduceAdd,Int.reduceSub,Int.reduceMul,reduceIte,reduceCtorEq,Nat.reducePow,Nat.reduceDiv,Nat.reduceMod,Int.reduceBEq,Stk.dd,byt_len,ctlds_len,hv,hc,r1,r2,t1,t2]
 (rw[cond_free];rotate_left;·rfl)
 simp only[go_sem,Nat.reduceAdd,Nat.reduceMul,Nat.reduceSub,Nat.reduceLT,Nat.reduceLeDiff,Nat.reduceEqDiff,Nat.reduceBEq,Nat.reduceBeqDiff,Int.reduceEq,Int.reduceLT,Int.reduceLE,Int.reduceToNat,Int.reduceNeg,Int.reduceAdd,Int.reduceSub,Int.reduceMul,reduceIte,reduceCtorEq,Nat.reducePow,Nat.reduceDiv,Nat.reduceMod,Int.reduceBEq]
end Go.Proofs.YtfpioigggjnffaaGreatDoor.E
set_option autoImplicit false
set_option maxRecDepth 100000
set_option maxHeartbeats 4000000
set_option pp.maxSteps 20000
namespace Go.Proofs.YtfpioigggjnffaaGreatDoor.E
open Go.Ev
theorem saneS_vals (l:List Int):saneS ⟨l,[]⟩=typesB l:=by simp[saneS,risesB]
theorem r9push_ev (fu n:Nat) (s:Stk) (l:List Int) (hs:SzOk fu s) (hl:l.length<fu) (hl2:l.length<1000000):evF (G fu) (n+3) 120 [.d s.dd, .d (.list (byt l))] []=stkR (pushS s l):=by
 have S:=r9sane_ev fu n s hs.v hs.c hs.hv hs.hc
 have S2:=r9sane_ev fu n ⟨l,[]⟩ hl (by show 0<fu;omega) hl2 (by show 0<1000000;omega)
 rw[saneS_vals] at S2
 have C:=r9copied_ev fu (n+1) s hs.hv hs.hc
 have h1:=hs.hv
 have r1:s.vals.length+l.length≤1099511627776:=by omega
 have hz:sizedAll 1 (byt l)=true:=byt_sized l
 have t1:(byt s.vals++byt l).take (s.vals.length+l.length)=byt s.vals++byt l:=List.take_of_length_le (by simp)
 have t2:=ctlds_takeL s.ctrls
 unfold r9copy at C
 simp only[Stk.dd,List.map_nil] at S S2 C
 unfold pushS
 rw[evF.eq_2,evX.eq_def,Gext,exts_no _ (f:=120) (by decide),GP,Tryz.func120];simp only[Tryz.f120,evB]
 cases h1:saneS s with
 |false=>
  rw[h1] at S
  simp only[go_sem,Nat.reduceAdd,Nat.reduceMul,Nat.reduceSub,Nat.reduceLT,Nat.reduceLeDiff,Nat.reduceEqDiff,Nat.reduceBEq,Nat.reduceBeqDiff,Int.reduceEq,Int.reduceLT,Int.reduceLE,Int.reduceToNat,Int.reduceNeg,Int.reduceAdd,Int.reduceSub,Int.reduceMul,reduceIte,reduceCtorEq,Nat.reducePow,Nat.reduceDiv,Nat.reduceMod,Int.reduceBEq,Stk.dd,S,stkR,stk0,List.map_nil]
 |true=>
  rw[h1] at S
  cases h2:typesB l with
  |false=>
   rw[h2] at S2
   simp only[go_sem,Nat.reduceAdd,Nat.reduceMul,Nat.reduceSub,Nat.reduceLT,Nat.reduceLeDiff,Nat.reduceEqDiff,Nat.reduceBEq,Nat.reduceBeqDiff,Int.reduceEq,Int.reduceLT,Int.reduceLE,Int.reduceToNat,Int.reduceNeg,Int.reduceAdd,Int.reduceSub,Int.reduceMul,reduceIte,reduceCtorEq,Nat.reducePow,Nat.reduceDiv,Nat.reduceMod,Int.reduceBEq,Stk.dd,S,S2,stkR,stk0,List.map_nil]
  |true=>
   rw[h2] at S2
   simp only[go_sem,Nat.reduceAdd,Nat.reduceMul,Nat.reduceSub,Nat.reduceLT,Nat.reduceLeDiff,Nat.reduceEqDiff,Nat.reduceBEq,Nat.reduceBeqDiff,Int.reduceEq,Int.reduceLT,Int.reduceLE,Int.reduceToNat,Int.reduceNeg,Int.reduceAdd,Int.reduceSub,Int.reduceMul,reduceIte,reduceCtorEq,Nat.reducePow,Nat.reduceDiv,Nat.reduceMod,Int.reduceBEq,Stk.dd,S,S2,C,stkR,byt_len,ctlds_len,hz,r1,byt_takeL,t1,t2]
   rw[byt_cat]
theorem r9open_ev (fu n:Nat) (s:Stk) (op:Int) (l:List Int) (hs:SzOk fu s) (hl2:l.length<1000000):evF (G fu) (n+3) 69 [.d s.dd, .d (.int .i64 op), .d (.list (byt l))] []=stkR (openS s op l):=by
 have S:=r9sane_ev fu n s hs.v hs.c hs.hv hs.hc
 have E:=r9end_ev fu (n+1) l
 have C:=r9copied_ev fu (n+1) s hs.hv hs.hc
 have h1:=hs.hc
 have r1:s.ctrls.length+1≤1099511627776:=by omega
 have r2:l.length≤1099511627776:=by omega
 have hz:sizedAll 1 (byt l)=true:=byt_sized l
 have t0:=byt_takeL s.vals
 have t1:=byt_takeL l
 have t2:=ctlds_takeL s.ctrls
 unfold r9copy at C
 simp only[Stk.dd] at S C
 unfold openS
 rw[evF.eq_2,evX.eq_def,Gext,exts_no _ (f:=69) (by decide),GP,Tryz.func69];simp only[Tryz.f69,evB]
 cases h1:saneS s with
 |false=>
  rw[h1] at S
  simp only[go_sem,Nat.reduceAdd,Nat.reduceMul,Nat.reduceSub,Nat.reduceLT,Nat.reduceLeDiff,Nat.reduceEqDiff,Nat.reduceBEq,Nat.reduceBeqDiff,Int.reduceEq,Int.reduceLT,Int.reduceLE,Int.reduceToNat,Int.reduceNeg,Int.reduceAdd,Int.reduceSub,Int.reduceMul,reduceIte,reduceCtorEq,Nat.reducePow,Nat.reduceDiv,Nat.reduceMod,Int.reduceBEq,Stk.dd,S,stkR,stk0,List.map_nil]
 |true=>
  rw[h1] at S
  cases h2:finB l with
  |false=>
   rw[h2] at E
   simp only[go_sem,Nat.reduceAdd,Nat.reduceMul,Nat.reduceSub,Nat.reduceLT,Nat.reduceLeDiff,Nat.reduceEqDiff,Nat.reduceBEq,Nat.reduceBeqDiff,Int.reduceEq,Int.reduceLT,Int.reduceLE,Int.reduceToNat,Int.reduceNeg,Int.reduceAdd,Int.reduceSub,Int.reduceMul,reduceIte,reduceCtorEq,Nat.reducePow,Nat.reduceDiv,Nat.reduceMod,Int.reduceBEq,Stk.dd,S,E,stkR,stk0,List.map_nil]
  |true=>
   rw[h2] at E
   simp only[go_sem,Nat.reduceAdd,Nat.reduceMul,Nat.reduceSub,Nat.reduceLT,Nat.reduceLeDiff,Nat.reduceEqDiff,Nat.reduceBEq,Nat.reduceBeqDiff,Int.reduceEq,Int.reduceLT,Int.reduceLE,Int.reduceToNat,Int.reduceNeg,Int.reduceAdd,Int.reduceSub,Int.reduceMul,reduceIte,reduceCtorEq,Nat.reducePow,Nat.reduceDiv,Nat.reduceMod,Int.reduceBEq,Stk.dd,S,E,C,stkR,byt_len,ctlds_len,hz,r1,r2,t0,t1,t2]
   (rw[cond_free];rotate_left;·rfl)
   have t3:(ctlds s.ctrls++[D.agg [D.int .i64 op,D.list (byt l),D.int .i64 s.vals.length,D.bool false]]).take (s.ctrls.length+1)=ctlds s.ctrls++[D.agg [D.int .i64 op,D.list (byt l),D.int .i64 s.vals.length,D.bool false]]:=List.take_of_length_le (by simp)
   simp only[go_sem,Nat.reduceAdd,Nat.reduceMul,Nat.reduceSub,Nat.reduceLT,Nat.reduceLeDiff,Nat.reduceEqDiff,Nat.reduceBEq,Nat.reduceBeqDiff,Int.reduceEq,Int.reduceLT,Int.reduceLE,Int.reduceToNat,Int.reduceNeg,Int.reduceAdd,Int.reduceSub,Int.reduceMul,reduceIte,reduceCtorEq,Nat.reducePow,Nat.reduceDiv,Nat.reduceMod,Int.reduceBEq,t0,t1,t2,t3]
   have t4:ctlds (s.ctrls++[⟨op,l,s.vals.length,false⟩])=ctlds s.ctrls++[D.agg [D.int .i64 op,D.list (byt l),D.int .i64 s.vals.length,D.bool false]]:=by simp[ctlds,Ctl.dd]
   rw[t4]
theorem r9pop_ev (fu n:Nat) (s:Stk) (hs:SzOk fu s):evF (G fu) (n+3) 172 [.d s.dd] []=popR (popS s):=by
 have S:=r9sane_ev fu n s hs.v hs.c hs.hv hs.hc
 have C:=r9copied_ev fu (n+1) s hs.hv hs.hc
 have t0:=byt_takeL s.vals
 have t2:=ctlds_takeL s.ctrls
 unfold r9copy at C
 simp only[Stk.dd] at S C
 have g1:=hs.hv
 have g2:=hs.hc
 rw[evF.eq_2,evX.eq_def,Gext,exts_no _ (f:=172) (by decide),GP,Tryz.func172];simp only[Tryz.f172,evB]
 cases h1:saneS s with
 |false=>
  have hp:popS s= .error 1:=by simp[popS,topC,h1]
  rw[h1] at S
  simp only[go_sem,Nat.reduceAdd,Nat.reduceMul,Nat.reduceSub,Nat.reduceLT,Nat.reduceLeDiff,Nat.reduceEqDiff,Nat.reduceBEq,Nat.reduceBeqDiff,Int.reduceEq,Int.reduceLT,Int.reduceLE,Int.reduceToNat,Int.reduceNeg,Int.reduceAdd,Int.reduceSub,Int.reduceMul,reduceIte,reduceCtorEq,Nat.reducePow,Nat.reduceDiv,Nat.reduceMod,Int.reduceBEq,Stk.dd,S,hp,popR,stk0,List.map_nil]
 |true=>
  rw[h1] at S
  cases hcl:s.ctrls.getLast? with
  |none=>
   have h0:s.ctrls=[]:=List.getLast?_eq_none_iff.1 hcl
   have hp:popS s= .error 5:=by simp[popS,topC,h1,hcl]
   have Wn:IntKind.wrap .i64 (-1)= -1:=by decide
   have hL0:(s.ctrls.length:Int)=0:=by rw[h0];rfl
   simp only[go_sem,Nat.reduceAdd,Nat.reduceMul,Nat.reduceSub,Nat.reduceLT,Nat.reduceLeDiff,Nat.reduceEqDiff,Nat.reduceBEq,Nat.reduceBeqDiff,Int.reduceEq,Int.reduceLT,Int.reduceLE,Int.reduceToNat,Int.reduceNeg,Int.reduceAdd,Int.reduceSub,Int.reduceMul,reduceIte,reduceCtorEq,Nat.reducePow,Nat.reduceDiv,Nat.reduceMod,Int.reduceBEq,Stk.dd,S,hp,popR,stk0,List.map_nil,ctlds_len,hL0,Wn,show((-1:Int)<0)=True from by decide]
  |some c=>
   have hpos:0<s.ctrls.length:=by
    cases hh:s.ctrls with
    |nil=>rw[hh] at hcl;cases hcl
    |cons _ _=>simp
   have ht:topC s= .ok c:=by simp[topC,h1,hcl]
   have hg:s.ctrls[s.ctrls.length-1]? =some c:=by rw[←List.getLast?_eq_getElem?];exact hcl
   have hgd:(ctlds s.ctrls)[s.ctrls.length-1]? =some c.dd:=by rw[ctlds,List.getElem?_map,hg];rfl
   simp only[Ctl.dd] at hgd
   have Wn:IntKind.wrap .i64 ((s.ctrls.length:Int)-1)=((s.ctrls.length-1:Nat):Int):=by rw[wrap_i64 (by omega) (by omega)];omega
   have hlt:((s.ctrls.length-1:Nat):Int)<s.ctrls.length:=by omega
   have hnn: ¬((s.ctrls.length-1:Nat):Int)<0:=by omega
   by_cases hh:c.ht<s.vals.length
   ·have hvp:0<s.vals.length:=by have:=(topC_sz ht).2.2;omega
    have Wv:IntKind.wrap .i64 ((s.vals.length:Int)-1)=((s.vals.length-1:Nat):Int):=by rw[wrap_i64 (by omega) (by omega)];omega
    have hp:popS s= .ok (s.vals.getLastD 0,⟨s.vals.dropLast,s.ctrls⟩):=by simp[popS,ht,popV,hh]
    have hvl:((s.vals.length-1:Nat):Int)<s.vals.length:=by omega
    have hvl2:((s.vals.length-1:Nat):Int)≤s.vals.length:=by omega
    have hgv:(byt s.vals)[s.vals.length-1]? =some (.int .u8 (s.vals.getLastD 0)):=top_get (byt_takeL _) hvp
    simp only[go_sem,Nat.reduceAdd,Nat.reduceMul,Nat.reduceSub,Nat.reduceLT,Nat.reduceLeDiff,Nat.reduceEqDiff,Nat.reduceBEq,Nat.reduceBeqDiff,Int.reduceEq,Int.reduceLT,Int.reduceLE,Int.reduceToNat,Int.reduceNeg,Int.reduceAdd,Int.reduceSub,Int.reduceMul,reduceIte,reduceCtorEq,Nat.reducePow,Nat.reduceDiv,Nat.reduceMod,Int.reduceBEq,Stk.dd,S,C,hp,popR,byt_len,ctlds_len,Wn,Wv,hlt,hnn,hgd,hh,idx,hvl,hvl2,hgv,t0,t2]
    (rw[cond_free];rotate_left;·rfl)
    simp only[go_sem,Nat.reduceAdd,Nat.reduceMul,Nat.reduceSub,Nat.reduceLT,Nat.reduceLeDiff,Nat.reduceEqDiff,Nat.reduceBEq,Nat.reduceBeqDiff,Int.reduceEq,Int.reduceLT,Int.reduceLE,Int.reduceToNat,Int.reduceNeg,Int.reduceAdd,Int.reduceSub,Int.reduceMul,reduceIte,reduceCtorEq,Nat.reducePow,Nat.reduceDiv,Nat.reduceMod,Int.reduceBEq,byt_len,Wv,hvl,hvl2,idx,hgv,t0,t2]
    rw[Int.sub_zero,Int.toNat_natCast,byt_take',←List.dropLast_eq_take]
   ·cases hd:c.dead with
    |true=>
     have hp:popS s= .ok (0,s):=by simp[popS,ht,popV,hh,hd]
     rw[hd] at hgd
     simp only[go_sem,Nat.reduceAdd,Nat.reduceMul,Nat.reduceSub,Nat.reduceLT,Nat.reduceLeDiff,Nat.reduceEqDiff,Nat.reduceBEq,Nat.reduceBeqDiff,Int.reduceEq,Int.reduceLT,Int.reduceLE,Int.reduceToNat,Int.reduceNeg,Int.reduceAdd,Int.reduceSub,Int.reduceMul,reduceIte,reduceCtorEq,Nat.reducePow,Nat.reduceDiv,Nat.reduceMod,Int.reduceBEq,Stk.dd,S,C,hp,popR,byt_len,ctlds_len,Wn,hlt,hnn,hgd,hh,idx,t0,t2]
    |false=>
     have hp:popS s= .error 5:=by simp[popS,ht,popV,hh,hd]
     rw[hd] at hgd
     simp only[go_sem,Nat.reduceAdd,Nat.reduceMul,Nat.reduceSub,Nat.reduceLT,Nat.reduceLeDiff,Nat.reduceEqDiff,Nat.reduceBEq,Nat.reduceBeqDiff,Int.reduceEq,Int.reduceLT,Int.reduceLE,Int.reduceToNat,Int.reduceNeg,Int.reduceAdd,Int.reduceSub,Int.reduceMul,reduceIte,reduceCtorEq,Nat.reducePow,Nat.reduceDiv,Nat.reduceMod,Int.reduceBEq,Stk.dd,S,C,hp,popR,byt_len,ctlds_len,Wn,hlt,hnn,hgd,hh,idx,t0,t2]
     rfl
end Go.Proofs.YtfpioigggjnffaaGreatDoor.E
