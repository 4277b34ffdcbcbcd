/- S8, Q16, Z6, C15, C16, C17, C18, C19. -/
import Derived.Test.YtfpioigggjnffaaGreatDoorL9
import Derived.Test.YtfpioigggjnffaaGreatDoorL6
import Derived.Test.YtfpioigggjnffaaGreatDoorN3
import Derived.Test.YtfpioigggjnffaaGreatDoorZ2
import Derived.Test.YtfpioigggjnffaaGreatDoorC7
set_option linter.unnecessarySimpa false
set_option linter.unusedSimpArgs false
set_option linter.unusedVariables false
set_option autoImplicit false
set_option maxRecDepth 100000
set_option maxHeartbeats 4000000
set_option pp.maxSteps 20000
namespace Go.Proofs.YtfpioigggjnffaaGreatDoor.E
open Go.Ev
theorem starts_ev (fu n:Nat) (b:List Int) (hb:Bs b) (l:List TInstr) (x y:Nat) (h:chain b x l y) (hx:x≤b.length) (hf:70<fu) (hfl:l.length<fu) (hs:l.length<100000) (hl:b.length<1099511627000):
 evF (G fu) (n+8) 73 [.d (.list (byt b)), .d (.int .i64 x), .d (.int .i64 l.length)] []=some (.row 0 0 0 (stF b x l).length,[.row 1 ((stF b x l).map (D.int .i64)) 0 false false]):=by
 rw[evF.eq_2,evX.eq_def,Gext,exts_no _ (f:=73) (by decide),GP,Tryz.func73];simp only[Tryz.f73,evB]
 simp only[go_sem,seval, -Nat.reduceSubDiff,↓reduceIte,reduceCtorEq]
 generalize hr:loopN _ _ _ _ _=r
 obtain⟨r',s1,rfl,hx',rfl,c,rfl⟩: ∃r' s1,r=some (r',s1)∧leaves r'∧(r'= .exit 0∧∃c:Bool,s1=⟨[(7, .row 640 0 0 (stF b x l).length)],[(640, .row 1 ((stF b x l).map (D.int .i64)) 0 false c)]⟩):=by
  rw[←hr]
  refine loop_inv (J:=fun r' s1=>r'= .exit 0∧∃c:Bool,s1=⟨[(7, .row 640 0 0 (stF b x l).length)],[(640, .row 1 ((stF b x l).map (D.int .i64)) 0 false c)]⟩)
   l.length (fun j z=> ∃c:Bool,z=⟨[(0, .d (.list (byt b))),(1, .d (.int .i64 ((stF b x l).getD j 0))),(7, .row 640 0 0 (stF b x (l.take j)).length),(10, .d (.int .i64 l.length)),(11, .d (.int .i64 j))],[(640, .row 1 ((stF b x (l.take j)).map (D.int .i64)) 0 false c)]⟩) ?_ ?_ fu _ hfl ⟨false,by rw[show(stF b x l).getD 0 0=(x:Int) by cases l<;>rfl];rfl⟩
  ·rintro j z hj ⟨cc,rfl⟩
   obtain⟨w,c,q1,q2,q3,q4,q5⟩:=st_next h hj
   have hjI:(j:Int)<l.length:=by omega
   have Wj:=wrap_i64 (show-9223372036854775808≤(j:Int)+1 by omega) (by omega)
   have hw:=chain_end hb hx q1
   have R:=Read_ev fu n b hb w hf hw hl
   rw[q3] at R
   have g1:(stF b x l).getD j 0=w:=by rw[List.getD_eq_getElem?_getD,q2];rfl
   have g2:(stF b x l).getD (j+1) 0=((w+c:Nat):Int):=by rw[List.getD_eq_getElem?_getD,q4];rfl
   rw[g1,g2,q5]
   have hlen:(stF b x (l.take j)).length+1≤1099511627776:=by rw[stF_len,List.length_take];omega
   unfold decR at R
   simp only at R
   generalize stF b x (l.take j)=P at*
   generalize((w+c:Nat):Int)=v at*
   have tk:(P.map (D.int .i64)).take P.length=P.map (D.int .i64):=List.take_of_length_le (by simp)
   have ct:P.map (D.int .i64)++[D.int .i64 v]=(P++[v]).map (D.int .i64):=by simp
   have cl:(P++[v]).length=P.length+1:=by simp
   have sz:sizedAll 1 [D.int .i64 v]=true:=rfl
   simp only[go_sem,seval, -Nat.reduceSubDiff,↓reduceIte,reduceCtorEq,hjI,R,Wj,tk,ct,cl,hlen,sz]
   exact⟨_,_,rfl,true,rfl⟩
  ·rintro z ⟨c,rfl⟩
   simp only[go_sem,seval, -Nat.reduceSubDiff,↓reduceIte,reduceCtorEq,Int.lt_irrefl,List.take_length]
   exact⟨_,_,rfl,trivial,rfl,c,rfl⟩
 simp only[go_sem,seval, -Nat.reduceSubDiff,↓reduceIte,reduceCtorEq]
end Go.Proofs.YtfpioigggjnffaaGreatDoor.E
set_option autoImplicit false
set_option maxRecDepth 100000
set_option maxHeartbeats 4000000
set_option pp.maxSteps 20000
namespace Go.Proofs.YtfpioigggjnffaaGreatDoor.E
open Go.Ev
theorem path_rm {e:TEnv} (he:ESm e) {l:List TInstr}: ∀{b:Nat} {s:Stk} {p:List Stk},Rm b s→pathS saneF accE shapeF e s l= .ok p→∀x∈p,Rm (b+65*l.length) x:=by
 induction l with
 |nil=>
  intro b s p h e x hx
  cases e
  simp only[List.mem_singleton] at hx
  subst hx;exact h.up (by omega)
 |cons i l ih=>
  intro b s p h e x hx
  obtain⟨s',q,h1,h2,rfl⟩:=pathS_cons e
  rcases List.mem_cons.1 hx with rfl|hx
  ·exact h.up (by omega)
  ·have:=ih (h.step he h1) h2 x hx
   exact this.up (by simp only[List.length_cons];omega)
theorem start_rm (e:TEnv):Rm 1 (start e):=⟨by simp[start],by simp[start]⟩
def bodyF (e:TEnv) (l:List TInstr):Int:=match pathF e l with
 | .error f=>f
 | .ok p=>match closeS (p.getLastD stk0) with
   | .ok _=>0
   | .error _=>5
theorem pathF_ok {e:TEnv} {l:List TInstr} {p:List Stk} (h:pathF e l= .ok p):walkOk l=true∧envSane e=true∧pathS saneF accE shapeF e (start e) l= .ok p:=by
 unfold pathF at h
 split at h
 ·rename_i hw
  split at h
  ·rename_i hs;exact⟨hw,hs,h⟩
  ·cases h
 ·cases h
theorem pathF_ne {e:TEnv} {l:List TInstr} {f:Int} (h:pathF e l= .error f): ¬f=0:=by
 unfold pathF at h
 split at h
 ·split at h
  ·induction l generalizing f with
   |nil=>simp[pathS] at h
   |cons i l ih=>
    clear ih
    revert h
    generalize start e=s
    intro h
    have key: ∀(l:List TInstr) (s:Stk),pathS saneF accE shapeF e s l= .error f→¬f=0:=by
     intro l
     induction l with
     |nil=>intro s h;simp[pathS] at h
     |cons i l ih=>
      intro s h
      simp only[pathS] at h
      cases hs:stepS saneF accE shapeF e s i with
      |error g=>rw[hs] at h;cases h;exact stepS_ne hs
      |ok s'=>
       rw[hs] at h
       simp only at h
       cases hp:pathS saneF accE shapeF e s' l with
       |error g=>rw[hp] at h;cases h;exact ih s' hp
       |ok p=>rw[hp] at h;cases h
    exact key _ _ h
  ·cases h;decide
 ·cases h;decide
theorem body_ev (fu n:Nat) (e:TEnv) (h:EOk fu e) (l:List TInstr) (hl:l.length*65+300<fu) (hl2:l.length*65+300<1000000) (hb: ∀i∈l,i.labels.length<fu∧i.labels.length<1000000):
 evF (G fu) (n+14) 25 [.d e.dd, .d (.list (l.map TInstr.d))] []=some (.d (.int .i64 (bodyF e l)),[]):=by
 have P:=path_ev fu n e h l hl hl2 hb
 simp only[TEnv.dd] at P
 unfold bodyF
 rw[evF.eq_2,evX.eq_def,Gext,exts_no _ (f:=25) (by decide),GP,Tryz.func25];simp only[Tryz.f25,evB]
 cases hp:pathF e l with
 |error f=>
  rw[hp] at P
  simp only[pathR] at P
  have hf:=pathF_ne hp
  simp only[go_sem,seval, -Nat.reduceSubDiff,↓reduceIte,reduceCtorEq,TEnv.dd,P,hf]
 |ok p=>
  rw[hp] at P
  simp only[pathR] at P
  have hps:=(pathF_ok hp).2.2
  have hpl:=pathS_len hps
  have hx:(stkds p)[p.length-1]? =some (p.getD (p.length-1) stk0).dd:=getD_map (by omega)
  have hlast:p.getD (p.length-1) stk0=p.getLastD stk0:=by
   rw[List.getLastD_eq_getLast?,List.getLast?_eq_getElem?,List.getD_eq_getElem?_getD]
  have hm:p.getLastD stk0∈p:=by
   rw[←hlast,List.getD_eq_getElem?_getD,List.getElem?_eq_getElem (show p.length-1<p.length by omega)]
   exact List.getElem_mem _
  have hR:=path_rm h.sm (start_rm e) hps _ hm
  have C:=closeR_ev fu (n+5) (p.getLastD stk0) (hR.ok (by omega) (by omega))
  rw[hlast] at hx
  have Wn:IntKind.wrap .i64 ((p.length:Int)-1)=((p.length-1:Nat):Int):=by rw[wrap_i64 (by omega) (by omega)];omega
  have hlt:((p.length-1:Nat):Int)<p.length:=by omega
  have t1:(stkds p).take p.length=stkds p:=List.take_of_length_le (by simp)
  obtain⟨s,hS⟩: ∃s,p.getLastD stk0=s:=⟨_,rfl⟩
  rw[hS] at hx C
  simp only[Stk.dd] at hx C
  cases hc:closeS s with
  |ok r=>
   rw[hc] at C
   simp only[closeR,Stk.dd,Ctl.dd] at C
   simp only[go_sem,seval, -Nat.reduceSubDiff,↓reduceIte,reduceCtorEq,TEnv.dd,P,Wn,hlt,hx,C,t1,hS,hc]
  |error f=>
   rw[hc] at C
   have hf: ¬f=0:=by have:=closeS_err hc;omega
   simp only[closeR,Stk.dd,Ctl.dd,stk0,ctl0,List.map_nil] at C
   simp only[go_sem,seval, -Nat.reduceSubDiff,↓reduceIte,reduceCtorEq,TEnv.dd,P,Wn,hlt,hx,C,hf,t1,hS,hc]
end Go.Proofs.YtfpioigggjnffaaGreatDoor.E
set_option autoImplicit false
namespace Go.Proofs.YtfpioigggjnffaaGreatDoor.E
open Go.Ev
theorem drop_behind (a b:List Int) (x:Nat):(a++b).drop (a.length+x)=b.drop x:=by
 rw[List.drop_append]
 simp
theorem brd_shift (a b:List Int): ∀(f x:Nat) (out:List TInstr) (st:List Nest),brd (a++b) f (a.length+x) out st=(match brd b f x out st with| .error e=> .error e| .ok (l,z)=> .ok (l,a.length+z))
 |0,x,out,st=>rfl
 |f+1,x,out,st=>by
  rw[brd,brd,drop_behind]
  cases hd:dec (b.drop x) with
  |error e=>rfl
  |ok r=>
   obtain⟨i,c⟩:=r
   simp only
   split
   ·simp only[Nat.add_assoc]
   ·split
    ·rfl
    ·split
     ·rfl
     ·rw[Nat.add_assoc]
      exact brd_shift a b f (x+c) _ _
theorem stF_shift (a b:List Int): ∀(l:List TInstr) (x:Nat),stF (a++b) (a.length+x) l=(stF b x l).map (fun y=>y+(a.length:Int))
 |[],x=>by simp[stF];omega
 |i::l,x=>by
  rw[stF,stF,drop_behind,Nat.add_assoc,stF_shift a b l]
  simp only[List.map_cons]
  congr 1
  omega
def Jmp.far (j:Jmp) (k:Int):Jmp:=⟨j.at_+k,j.to+k,j.ht,j.ar⟩
theorem at0_far (S:List Int) (k:Int) {i:Nat} (h:i<S.length):at0 (S.map (fun y=>y+k)) i=at0 S i+k:=by
 unfold at0
 simp[List.getD_eq_getElem?_getD,h]
theorem branchJ_far {l:List TInstr} (hw:walkOk l=true) {S:List Int} (hS:S.length=l.length+1) (P:List Stk) (d:Int) {k:Nat} (hk:k<l.length) (lab:Int):branchJ l (S.map (fun y=>y+d)) P k lab=(branchJ l S P k lab).far d:=by
 obtain⟨r1,r2⟩:=target_range hw k lab
 unfold branchJ Jmp.far
 simp only
 split
 ·rw[at0_far _ _ (by omega),at0_far _ _ (by omega)]
 ·split
  ·rw[at0_far _ _ (by omega),at0_far _ _ (by omega)]
  ·rw[at0_far _ _ (by omega),at0_far _ _ (by omega)]
theorem stepJ_far {l:List TInstr} (hw:walkOk l=true) {S:List Int} (hS:S.length=l.length+1) (P:List Stk) (d:Int) {k:Nat} (hk:k<l.length):stepJ l (S.map (fun y=>y+d)) P k=(stepJ l S P k).map (fun j=>j.far d):=by
 unfold stepJ
 simp only
 by_cases h4:(l.getD k in0).op=4
 ·obtain⟨e,o,he,h1,h2,h3⟩:=match_open hw hk (show opensB (opAt l k)=true by show opensB (l.getD k in0).op=true;rw[h4];rfl)
  have ht:(elseTo (o,(e:Int))).toNat<l.length:=by
   unfold elseTo
   rcases h3 with rfl|⟨q,rfl,q1,q2⟩
   ·simp only;rw[if_pos (by decide)];omega
   ·simp only;rw[if_neg (by omega)];omega
  rw[if_pos h4,if_pos h4,he]
  simp only[List.map_cons,List.map_nil,Jmp.far]
  rw[at0_far _ _ (by omega),at0_far _ _ (by omega)]
 ·rw[if_neg h4,if_neg h4]
  by_cases h5:(l.getD k in0).op=5
  ·obtain⟨e,he,h2,h1⟩:=match_els hw hk h5
   rw[if_pos h5,if_pos h5,he]
   simp only[List.map_cons,List.map_nil,Jmp.far]
   rw[at0_far _ _ (by omega),at0_far _ _ (by omega)]
  ·rw[if_neg h5,if_neg h5]
   split
   ·rw[branchJ_far hw hS P d hk];rfl
   ·split
    ·rw[branchJ_far hw hS P d hk,List.map_append,List.map_map]
     congr 1
     exact List.map_congr_left fun x _=>branchJ_far hw hS P d hk x
    ·rfl
theorem jumpsTo_far {l:List TInstr} (hw:walkOk l=true) {S:List Int} (hS:S.length=l.length+1) (P:List Stk) (d:Int): ∀k,k≤l.length→jumpsTo l (S.map (fun y=>y+d)) P k=(jumpsTo l S P k).map (fun j=>j.far d)
 |0,_=>rfl
 |k+1,h=>by
  rw[jumpsTo,jumpsTo,jumpsTo_far hw hS P d k (by omega),stepJ_far hw hS P d (by omega),List.map_append]
end Go.Proofs.YtfpioigggjnffaaGreatDoor.E
set_option autoImplicit false
namespace Go.Proofs.YtfpioigggjnffaaGreatDoor.E
open Go.Ev
theorem popV_mono {h:Int} {d d':Bool} (hd:d=true→d'=true) {v:List Int} {r:Int×List Int} (e:popV h d v= .ok r):popV h d' v= .ok r:=by
 unfold popV at e ⊢
 by_cases hlt:h<v.length
 ·rw[if_pos hlt] at e ⊢;exact e
 ·rw[if_neg hlt] at e ⊢
  cases d with
  |false=>simp at e
  |true=>rw[hd rfl];exact e
theorem wantV_mono {h:Int} {d d':Bool} (hd:d=true→d'=true) {l v v':List Int} (e:wantV h d l v= .ok v'):wantV h d' l v= .ok v':=by
 induction l generalizing v with
 |nil=>exact e
 |cons t l ih=>
  simp only[wantV] at e ⊢
  cases hp:popV h d v with
  |error x=>rw[hp] at e;cases e
  |ok r=>
   rw[popV_mono hd hp]
   rw[hp] at e
   simp only at e ⊢
   split at e
   ·cases e
   ·rename_i hn;rw[if_neg hn];exact ih e
def Rel (pre:List Ctl) (f:List Int) (s s':Stk):Prop:=
 ∃d d' rest,s.ctrls=⟨2,[],0,d⟩::rest∧s'.ctrls=pre++⟨2,f,0,d'⟩::rest∧s'.vals=s.vals∧(d=true→d'=true)
variable {pre:List Ctl} {f:List Int}
theorem Rel.sane {s s':Stk} (hp:risesB 0 pre=some 0) (hf:finB f=true) (h:Rel pre f s s') (hs:saneS s=true):saneS s'=true:=by
 obtain⟨d,d',rest,h1,h2,h3,_⟩:=h
 obtain⟨m,hr,hm,ht⟩:=(saneS_iff s).1 hs
 refine(saneS_iff s').2 ⟨m, ?_,by rw[h3];exact hm,by rw[h3];exact ht⟩
 rw[h1] at hr
 rw[h2,risesB_append,hp]
 simp only[risesB] at hr ⊢
 rw[hf]
 simpa[finB] using hr
theorem Rel.top {s s':Stk} {c:Ctl} (hp:risesB 0 pre=some 0) (hf:finB f=true) (h:Rel pre f s s') (e:topC s= .ok c):
 ∃c',topC s'= .ok c'∧c'.ht=c.ht∧(c.dead=true→c'.dead=true):=by
 obtain⟨hs,hc⟩:=topC_ok e
 have hs':=h.sane hp hf hs
 obtain⟨d,d',rest,h1,h2,h3,h4⟩:=h
 rw[h1] at hc
 have h5:s'.ctrls.getLast? =(⟨2,f,0,d'⟩::rest:List Ctl).getLast? :=by rw[h2,List.getLast?_append];simp[List.getLast?_cons]
 unfold topC
 rw[hs',h5]
 cases rest with
 |nil=>
  have hcc:c=⟨2,[],0,d⟩:=by simpa using hc.symm
  subst hcc
  exact⟨⟨2,f,0,d'⟩,rfl,rfl,h4⟩
 |cons a r=>
  rw[List.getLast?_cons_cons] at hc ⊢
  rw[hc]
  exact⟨c,rfl,rfl,id⟩
theorem Rel.want {s s' t:Stk} {l:List Int} (hp:risesB 0 pre=some 0) (hf:finB f=true) (h:Rel pre f s s') (e:wantS s l= .ok t): ∃t',wantS s' l= .ok t'∧Rel pre f t t':=by
 unfold wantS at e ⊢
 by_cases hl:l.isEmpty=true
 ·cases hs:saneS s with
  |true=>
   rw[hs,hl] at e
   rw[h.sane hp hf hs,hl]
   cases e;exact⟨s',rfl,h⟩
  |false=>
   rw[hs] at e
   have:topC s= .error 1:=by unfold topC;rw[hs];rfl
   rw[this] at e;cases e
 ·have hl':l.isEmpty=false:=by simpa using hl
  rw[hl',Bool.and_false] at e ⊢
  simp only[Bool.false_eq_true,if_false] at e ⊢
  cases ht:topC s with
  |error x=>rw[ht] at e;cases e
  |ok c=>
   obtain⟨c',h1,h2,h3⟩:=h.top hp hf ht
   rw[ht] at e
   rw[h1]
   simp only at e ⊢
   cases hw:wantV c.ht c.dead l.reverse s.vals with
   |error x=>rw[hw] at e;cases e
   |ok v=>
    rw[hw] at e
    cases e
    obtain⟨d,d',rest,g1,g2,g3,g4⟩:=h
    rw[h2,g3,wantV_mono h3 hw]
    exact⟨_,rfl,d,d',rest,g1,g2,rfl,g4⟩
end Go.Proofs.YtfpioigggjnffaaGreatDoor.E
set_option autoImplicit false
namespace Go.Proofs.YtfpioigggjnffaaGreatDoor.E
open Go.Ev
variable {pre:List Ctl} {f:List Int}
theorem Rel.push {s s' t:Stk} {l:List Int} (hp:risesB 0 pre=some 0) (hf:finB f=true) (h:Rel pre f s s') (e:pushS s l= .ok t): ∃t',pushS s' l= .ok t'∧Rel pre f t t':=by
 unfold pushS at e ⊢
 split at e
 ·cases e
 ·rename_i hn
  simp only[Bool.or_eq_true,Bool.not_eq_true',not_or,Bool.not_eq_false] at hn
  cases e
  rw[h.sane hp hf hn.1,hn.2]
  obtain⟨d,d',rest,g1,g2,g3,g4⟩:=h
  exact⟨_,rfl,d,d',rest,g1,g2,by simp only;rw[g3],g4⟩
theorem Rel.pop {s s' t:Stk} {x:Int} (hp:risesB 0 pre=some 0) (hf:finB f=true) (h:Rel pre f s s') (e:popS s= .ok (x,t)): ∃t',popS s'= .ok (x,t')∧Rel pre f t t':=by
 unfold popS at e ⊢
 cases ht:topC s with
 |error x=>rw[ht] at e;cases e
 |ok c=>
  obtain⟨c',h1,h2,h3⟩:=h.top hp hf ht
  rw[ht] at e
  rw[h1]
  simp only at e ⊢
  cases hw:popV c.ht c.dead s.vals with
  |error x=>rw[hw] at e;cases e
  |ok r=>
   obtain⟨y,v⟩:=r
   rw[hw] at e
   cases e
   obtain⟨d,d',rest,g1,g2,g3,g4⟩:=h
   rw[h2,g3,popV_mono h3 hw]
   exact⟨_,rfl,d,d',rest,g1,g2,rfl,g4⟩
theorem Rel.open {s s' t:Stk} {op:Int} {l:List Int} (hp:risesB 0 pre=some 0) (hf:finB f=true) (h:Rel pre f s s') (e:openS s op l= .ok t): ∃t',openS s' op l= .ok t'∧Rel pre f t t':=by
 unfold openS at e ⊢
 split at e
 ·cases e
 ·rename_i hn
  simp only[Bool.or_eq_true,Bool.not_eq_true',not_or,Bool.not_eq_false] at hn
  cases e
  rw[h.sane hp hf hn.1,hn.2]
  obtain⟨d,d',rest,g1,g2,g3,g4⟩:=h
  refine⟨_,rfl,d,d',rest++[⟨op,l,s.vals.length,false⟩],by simp only;rw[g1];rfl, ?_,by simp only;rw[g3],g4⟩
  simp only[g2,g3,List.append_assoc,List.cons_append]
theorem Rel.kill {s s' t:Stk} (hp:risesB 0 pre=some 0) (hf:finB f=true) (h:Rel pre f s s') (e:killS s= .ok t): ∃t',killS s'= .ok t'∧Rel pre f t t':=by
 unfold killS at e ⊢
 cases ht:topC s with
 |error x=>rw[ht] at e;cases e
 |ok c=>
  obtain⟨c',h1,h2,h3⟩:=h.top hp hf ht
  have hl:=(topC_ok ht).2
  have hl':=(topC_ok h1).2
  rw[ht] at e
  rw[h1]
  cases e
  obtain⟨d,d',rest,g1,g2,g3,g4⟩:=h
  rw[g1] at hl
  rw[g2,List.getLast?_append] at hl'
  refine⟨_,rfl, ?_⟩
  cases rest with
  |nil=>
   have e1:c=⟨2,[],0,d⟩:=by simpa using hl.symm
   have e2:c'=⟨2,f,0,d'⟩:=by simpa using hl'.symm
   subst e1;subst e2
   exact⟨true,true,[],by simp only;rw[g1];rfl,by simp only;rw[g2,List.dropLast_append_of_ne_nil (by simp)];simp,by simp only;rw[g3],id⟩
  |cons a r=>
   have e1:c'=c:=by
    have h5:(⟨2,f,0,d'⟩::a::r:List Ctl).getLast? =(⟨2,[],0,d⟩::a::r:List Ctl).getLast? :=by rw[List.getLast?_cons_cons,List.getLast?_cons_cons]
    rw[h5,hl] at hl'
    simpa using hl'.symm
   subst e1
   refine⟨d,d',(a::r).dropLast++[{c' with dead:=true}],by simp only;rw[g1];rfl, ?_,by simp only;rw[g3],g4⟩
   simp only
   rw[g2,List.dropLast_append_of_ne_nil (by simp)]
   simp
end Go.Proofs.YtfpioigggjnffaaGreatDoor.E
set_option autoImplicit false
namespace Go.Proofs.YtfpioigggjnffaaGreatDoor.E
open Go.Ev
variable {pre:List Ctl} {f:List Int}
theorem Rel.close {s s' t:Stk} {c:Ctl} (hp:risesB 0 pre=some 0) (hf:finB f=true) (h:Rel pre f s s') (h1:1<s.ctrls.length) (e:closeS s= .ok (c,t)): ∃t',closeS s'= .ok (c,t')∧Rel pre f t t':=by
 unfold closeS at e ⊢
 cases ht:topC s with
 |error x=>rw[ht] at e;cases e
 |ok k=>
  obtain⟨c',k1,k2,k3⟩:=h.top hp hf ht
  have hl:=(topC_ok ht).2
  have hl':=(topC_ok k1).2
  rw[ht] at e
  rw[k1]
  obtain⟨d,d',rest,g1,g2,g3,g4⟩:=h
  rw[g1] at hl h1
  rw[g2,List.getLast?_append] at hl'
  cases rest with
  |nil=>simp at h1
  |cons a r=>
   have e1:k=c':=by
    have h5:(⟨2,f,0,d'⟩::a::r:List Ctl).getLast? =(⟨2,[],0,d⟩::a::r:List Ctl).getLast? :=by rw[List.getLast?_cons_cons,List.getLast?_cons_cons]
    rw[h5,hl] at hl'
    simpa using hl'
   subst e1
   simp only at e ⊢
   rw[g3]
   cases hw:wantV k.ht k.dead k.fin.reverse s.vals with
   |error x=>rw[hw] at e;cases e
   |ok v=>
    rw[hw] at e
    simp only at e ⊢
    split at e
    ·cases e
    ·rename_i hv
     rw[if_neg hv]
     cases e
     refine⟨_,rfl,d,d',(a::r).dropLast,by simp only;rw[g1];rfl, ?_,rfl,g4⟩
     simp only
     rw[g2,List.dropLast_append_of_ne_nil (by simp)]
     rfl
end Go.Proofs.YtfpioigggjnffaaGreatDoor.E
set_option autoImplicit false
namespace Go.Proofs.YtfpioigggjnffaaGreatDoor.E
open Go.Ev
variable {pre:List Ctl} {f:List Int}
def RelW (pre:List Ctl) (f:List Int) (w w':WkS):Prop:=w.e=0→w'.e=0∧Rel pre f w.s w'.s
theorem put_ok {w:WkS} {s:Stk} (h:w.e=0):w.put (.ok s)=⟨s,0⟩:=by unfold WkS.put;rw[if_neg (by omega)]
theorem RelW.put {w w':WkS} {r r':Except Int Stk} (h:RelW pre f w w') (hr: ∀t,w.e=0→r= .ok t→Rel pre f w.s w'.s→∃t',r'= .ok t'∧Rel pre f t t') (he: ∀e,r= .error e→e≠0):RelW pre f (w.put r) (w'.put r'):=by
 intro h0
 obtain⟨a,s,e1,e2⟩:=put_e0 he h0
 obtain⟨b,hR⟩:=h a
 obtain⟨t',e3,hR'⟩:=hr s a e1 hR
 rw[e3,put_ok b,e2]
 exact⟨rfl,hR'⟩
theorem RelW.want {w w':WkS} (hp:risesB 0 pre=some 0) (hf:finB f=true) (h:RelW pre f w w') {l l':List Int} (hl:w.e=0→l=l'):RelW pre f (w.want l) (w'.want l'):=
 h.put (fun _ h0 e hR=>by rw[←hl h0];exact hR.want hp hf e) (fun _ x=>by have:=wantS_err x;omega)
theorem RelW.push {w w':WkS} (hp:risesB 0 pre=some 0) (hf:finB f=true) (h:RelW pre f w w') {l l':List Int} (hl:w.e=0→l=l'):RelW pre f (w.push l) (w'.push l'):=
 h.put (fun _ h0 e hR=>by rw[←hl h0];exact hR.push hp hf e) (fun _ x=>by have:=pushS_err x;omega)
theorem RelW.opens {w w':WkS} (hp:risesB 0 pre=some 0) (hf:finB f=true) (h:RelW pre f w w') (op:Int) {l l':List Int} (hl:w.e=0→l=l'):RelW pre f (w.opens op l) (w'.opens op l'):=
 h.put (fun _ h0 e hR=>by rw[←hl h0];exact hR.open hp hf e) (fun _ x=>by have:=openS_err x;omega)
theorem RelW.kill {w w':WkS} (hp:risesB 0 pre=some 0) (hf:finB f=true) (h:RelW pre f w w'):RelW pre f w.kill w'.kill:=
 h.put (fun _ _ e hR=>hR.kill hp hf e) (fun _ x=>by have:=killS_err x;omega)
theorem RelW.must {w w':WkS} (h:RelW pre f w w') {b b':Bool} (hb:w.e=0→b=true→b'=true) {e:Int} (he:e≠0):RelW pre f (w.must b e) (w'.must b' e):=by
 intro h0
 obtain⟨h1,h2⟩:=must_e0 he h0
 have h3:=must_true he h0
 obtain⟨h4,h5⟩:=h h1
 have:w'.must b' e=w':=by unfold WkS.must;rw[hb h1 h3];rfl
 rw[this,h2];exact⟨h4,h5⟩
theorem RelW.pop {w w':WkS} (hp:risesB 0 pre=some 0) (hf:finB f=true) (h:RelW pre f w w'):RelW pre f w.pop.2 w'.pop.2∧(w.pop.2.e=0→w.pop.1=w'.pop.1):=by
 have key:w.pop.2.e=0→w.e=0∧∃x t,popS w.s= .ok (x,t):=fun h0=>by
  unfold WkS.pop at h0
  cases hq:popS w.s with
  |ok r=>
   obtain⟨x,t⟩:=r
   rw[hq] at h0
   exact⟨(put_e0 (fun _ x=>by cases x) h0).1,x,t,rfl⟩
  |error e=>
   rw[hq] at h0
   obtain⟨_,s,e1,_⟩:=put_e0 (fun e' x=>by cases x;have:=popS_err hq;omega) h0
   cases e1
 have both:w.pop.2.e=0→(w'.pop.2.e=0∧Rel pre f w.pop.2.s w'.pop.2.s)∧w.pop.1=w'.pop.1:=fun h0=>by
  obtain⟨a,x,t,hq⟩:=key h0
  obtain⟨b,hR⟩:=h a
  obtain⟨t',hq',hR'⟩:=hR.pop hp hf hq
  unfold WkS.pop
  rw[hq,hq']
  simp only
  rw[put_ok a,put_ok b]
  exact⟨⟨rfl,hR'⟩,trivial⟩
 exact⟨fun h0=>(both h0).1,fun h0=>(both h0).2⟩
theorem RelW.closed {w w':WkS} (hp:risesB 0 pre=some 0) (hf:finB f=true) (h:RelW pre f w w') (h1:w.e=0→1<w.s.ctrls.length):RelW pre f w.closed.2 w'.closed.2∧(w.closed.2.e=0→w.closed.1=w'.closed.1):=by
 have key:w.closed.2.e=0→w.e=0∧∃x t,closeS w.s= .ok (x,t):=fun h0=>by
  unfold WkS.closed at h0
  cases hq:closeS w.s with
  |ok r=>
   obtain⟨x,t⟩:=r
   rw[hq] at h0
   exact⟨(put_e0 (fun _ x=>by cases x) h0).1,x,t,rfl⟩
  |error e=>
   rw[hq] at h0
   obtain⟨_,s,e1,_⟩:=put_e0 (fun e' x=>by cases x;have:=closeS_err hq;omega) h0
   cases e1
 have both:w.closed.2.e=0→(w'.closed.2.e=0∧Rel pre f w.closed.2.s w'.closed.2.s)∧w.closed.1=w'.closed.1:=fun h0=>by
  obtain⟨a,x,t,hq⟩:=key h0
  obtain⟨b,hR⟩:=h a
  obtain⟨t',hq',hR'⟩:=hR.close hp hf (h1 a) hq
  unfold WkS.closed
  rw[hq,hq']
  simp only
  rw[put_ok a,put_ok b]
  exact⟨⟨rfl,hR'⟩,trivial⟩
 exact⟨fun h0=>(both h0).1,fun h0=>(both h0).2⟩
end Go.Proofs.YtfpioigggjnffaaGreatDoor.E
set_option autoImplicit false
namespace Go.Proofs.YtfpioigggjnffaaGreatDoor.E
open Go.Ev
variable {pre:List Ctl} {f:List Int} {acc:Int→Int×Int×Bool} {shape:Int→Option (List Int×Int)} {env env':TEnv}
structure SameEnv (a b:TEnv):Prop where
 types:b.types=a.types
 funcs:b.funcs=a.funcs
 tables:b.tables=a.tables
 mems:b.mems=a.mems
 globals:b.globals=a.globals
 locs:b.locs=a.locs
theorem Rel.topIf {s s':Stk} (h:Rel pre f s s') (e:topIf s=true):topIf s'=true∧1<s.ctrls.length:=by
 obtain⟨d,d',rest,g1,g2,_,_⟩:=h
 unfold Go.Proofs.YtfpioigggjnffaaGreatDoor.E.topIf at e ⊢
 rw[g1] at e ⊢
 cases rest with
 |nil=>simp at e
 |cons a r=>
  rw[List.getLast?_cons_cons] at e
  refine⟨?_,by simp⟩
  have:s'.ctrls.getLast? =(a::r).getLast? :=by
   rw[g2,List.getLast?_append,List.getLast?_cons_cons]
   cases hh:(a::r).getLast? with
   |none=>simp at hh
   |some x=>rfl
  rw[this];exact e
theorem RelW.nested {w w':WkS} (hp:risesB 0 pre=some 0) (hf:finB f=true) (h:RelW pre f w w') (i:TInstr):RelW pre f (nestedS w i) (nestedS w' i):=by
 unfold nestedS
 by_cases h4:i.op=4
 ·rw[if_pos h4,if_pos h4];exact(h.want hp hf fun _=>rfl).opens hp hf _ fun _=>rfl
 ·rw[if_neg h4,if_neg h4]
  by_cases h5:i.op=5
  ·rw[if_pos h5,if_pos h5]
   have hm:RelW pre f (w.must (topIf w.s) 5) (w'.must (topIf w'.s) 5):=h.must (fun h0 hb=>((h h0).2.topIf hb).1) (by decide)
   have hc:=hm.closed hp hf (fun h0=>by
    obtain⟨h1,h2⟩:=must_e0 (by decide) h0
    rw[h2];exact((h h1).2.topIf (must_true (by decide) h0)).2)
   exact hc.1.opens hp hf _ fun h0=>by rw[hc.2 h0]
  ·rw[if_neg h5,if_neg h5]
   by_cases h11:i.op=11
   ·rw[if_pos h11,if_pos h11]
    have hm:RelW pre f (w.must (decide (1<w.s.ctrls.length)) 5) (w'.must (decide (1<w'.s.ctrls.length)) 5):=h.must (fun h0 hb=>by
     obtain⟨d,d',rest,g1,g2,_,_⟩:=(h h0).2
     rw[g1] at hb;rw[g2]
     simp only[decide_eq_true_eq,List.length_append,List.length_cons] at hb ⊢
     omega) (by decide)
    have hc:=hm.closed hp hf (fun h0=>by
     obtain⟨h1,h2⟩:=must_e0 (by decide) h0
     rw[h2];simpa using must_true (by decide) h0)
    refine RelW.push hp hf (hc.1.must (fun h0 hb=>by rw[←hc.2 h0];exact hb) (by decide)) fun h0=> ?_
    rw[hc.2 (must_e0 (by decide) h0).1]
   ·rw[if_neg h11,if_neg h11];exact h.opens hp hf _ fun _=>rfl
theorem RelW.call {w w':WkS} (hp:risesB 0 pre=some 0) (hf:finB f=true) (he:SameEnv env env') (h:RelW pre f w w') (i:TInstr):RelW pre f (callS env w i) (callS env' w' i):=by
 have ht:typeS env' i.a=typeS env i.a:=by unfold typeS;rw[he.funcs,he.types]
 unfold callS
 simp only
 rw[he.tables,he.types,ht]
 refine RelW.push hp hf (RelW.want hp hf ?_ fun _=>rfl) fun _=>rfl
 by_cases h17:i.op=17
 ·rw[if_pos h17,if_pos h17,if_pos h17];exact(h.must (fun _ x=>x) (by decide)).want hp hf fun _=>rfl
 ·rw[if_neg h17,if_neg h17,if_neg h17];exact h.must (fun _ x=>x) (by decide)
theorem RelW.chosen {w w':WkS} (hp:risesB 0 pre=some 0) (hf:finB f=true) (h:RelW pre f w w') (i:TInstr):RelW pre f (chosenS w i) (chosenS w' i):=by
 unfold chosenS
 by_cases h26:i.op=26
 ·rw[if_pos h26,if_pos h26];exact(h.pop hp hf).1
 ·rw[if_neg h26,if_neg h26]
  simp only
  have h1:=(h.want hp hf (l:=[127]) (l':=[127]) fun _=>rfl).pop hp hf
  have h2:=h1.1.pop hp hf
  have hb: ∀h0:((w.want [127]).pop.2.pop.2).e=0,(w.want [127]).pop.1=(w'.want [127]).pop.1∧(w.want [127]).pop.2.pop.1=(w'.want [127]).pop.2.pop.1:=fun h0=>by
   refine⟨h1.2 ?_,h2.2 h0⟩
   unfold WkS.pop at h0
   cases hq:popS (w.want [127]).pop.2.s with
   |ok r=>
    obtain⟨x,t⟩:=r
    unfold WkS.pop at hq ⊢
    rw[hq] at h0
    exact(put_e0 (fun _ x=>by cases x) h0).1
   |error e=>
    unfold WkS.pop at hq
    rw[hq] at h0
    obtain⟨_,s,e1,_⟩:=put_e0 (fun e' x=>by cases x;have:=popS_err hq;omega) h0
    cases e1
  refine RelW.push hp hf (h2.1.must (fun h0 x=>by rw[←(hb h0).1,←(hb h0).2];exact x) (by decide)) fun h0=> ?_
  have h3:=(must_e0 (by decide) h0).1
  rw[(hb h3).1,(hb h3).2]
end Go.Proofs.YtfpioigggjnffaaGreatDoor.E
