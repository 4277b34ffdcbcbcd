/- EvL, EvOX. -/
import Derived.Test.YtfpioigggjnffaaGreatDoorEvR
set_option linter.unnecessarySimpa false
set_option linter.unusedSimpArgs false
set_option linter.unusedVariables false
set_option autoImplicit false
namespace Go.Ev
def leaves:Ex→Prop
 | .normal=>False
 |_=>True
theorem loop_go {c:Ctx} {k:Nat} {body:St→Option (Ex×St)} {x:Ex×St} (hx:leaves x.1): ∀(N:Nat) (S:Nat→St),(∀i,i<N→rnd c k (body (S i))=some (.normal,S (i+1)))→rnd c k (body (S N))=some x→
 ∀fuel,N<fuel→loopN c k body fuel (S 0)=some x
 |0,S,hs,he,0,hf=>by omega
 |0,S,hs,he,n+1,hf=>by
  rw[loopN,he]
  obtain⟨x,s⟩:=x
  cases x<;>first|exact hx.elim|simp only[loopN.loopN1]
 |N+1,S,hs,he,0,hf=>by omega
 |N+1,S,hs,he,n+1,hf=>by
  rw[loopN,hs 0 (by omega)]
  simp only[loopN.loopN1]
  exact loop_go hx N (fun i=>S (i+1)) (fun i hi=>hs (i+1) (by omega)) he n (by omega)
theorem loop_some {c:Ctx} {k:Nat} {body:St→Option (Ex×St)} {fuel:Nat} {s:St} (N:Nat) (S:Nat→St) (x:Ex×St) (hx:leaves x.1) (hf:N<fuel) (h0:s=S 0)
 (hs: ∀i,i<N→rnd c k (body (S i))=some (.normal,S (i+1))) (he:rnd c k (body (S N))=some x):loopN c k body fuel s=some x:=by
 rw[h0]
 exact loop_go hx N S hs he fuel hf
def first (bad:Nat→Bool):Nat→Nat→Option Nat
 |_,0=>none
 |i,n+1=>if bad i then some i else first bad (i+1) n
def scan (bad:Nat→Bool) (out:Nat→Ex×St) (fin:Ex×St) (N:Nat):Ex×St:=match first bad 0 N with
 |some i=>out i
 |none=>fin
theorem first_none {bad:Nat→Bool}: ∀{n i:Nat},first bad i n=none↔∀j,i≤j→j<i+n→bad j=false
 |0,i=>by simp[first];omega
 |n+1,i=>by
  simp only[first]
  by_cases hb:bad i=true
  ·simp only[hb,if_true,reduceCtorEq,false_iff]
   intro h
   rw[h i (Nat.le_refl _) (by omega)] at hb
   cases hb
  ·simp only[hb,if_false,Bool.false_eq_true,first_none (n:=n)]
   constructor
   ·intro h j h1 h2
    by_cases e:j=i
    ·subst e;simpa using hb
    ·exact h j (by omega) (by omega)
   ·intro h j h1 h2
    exact h j (by omega) (by omega)
theorem first_some {bad:Nat→Bool}: ∀{n i k:Nat},first bad i n=some k→i≤k∧k<i+n∧bad k=true∧∀j,i≤j→j<k→bad j=false
 |0,i,k,h=>by simp[first] at h
 |n+1,i,k,h=>by
  simp only[first] at h
  by_cases hb:bad i=true
  ·simp only[hb,if_true,Option.some.injEq] at h
   subst h
   exact⟨Nat.le_refl _,by omega,hb,fun j h1 h2=>by omega⟩
  ·simp only[hb,if_false,Bool.false_eq_true] at h
   obtain⟨h1,h2,h3,h4⟩:=first_some h
   refine⟨by omega,by omega,h3,fun j q1 q2=> ?_⟩
   by_cases e:j=i
   ·subst e;simpa using hb
   ·exact h4 j (by omega) q2
theorem loop_scan {c:Ctx} {k:Nat} {body:St→Option (Ex×St)} {fuel:Nat} {s:St} (N:Nat) (S:Nat→St) (bad:Nat→Bool) (out:Nat→Ex×St) (fin:Ex×St) (hf:N<fuel) (ho: ∀i,leaves (out i).1) (hx:leaves fin.1) (h0:s=S 0)
 (hs: ∀i,i<N→rnd c k (body (S i))=some (if bad i then out i else(.normal,S (i+1)))) (he:rnd c k (body (S N))=some fin):loopN c k body fuel s=some (scan bad out fin N):=by
 unfold Go.Ev.scan
 cases h:first bad 0 N with
 |none=>
  have:=first_none.1 h
  exact loop_some N S fin hx hf h0 (fun i hi=>by rw[hs i hi,this i (by omega) (by omega)];rfl) he
 |some i=>
  obtain⟨h1,h2,h3,h4⟩:=first_some h
  exact loop_some i S (out i) (ho i) (by omega) h0 (fun j hj=>by rw[hs j (by omega),h4 j (by omega) hj];rfl) (by rw[hs i (by omega),h3];rfl)
theorem loop_inv {c:Ctx} {k:Nat} {body:St→Option (Ex×St)} {J:Ex→St→Prop}: ∀(N:Nat) (I:Nat→St→Prop),(∀i s,i<N→I i s→∃x s1,rnd c k (body s)=some (x,s1)∧match x with| .normal=>I (i+1) s1|x=>J x s1)→(∀s,I N s→∃x s1,rnd c k (body s)=some (x,s1)∧leaves x∧J x s1)→
 ∀fuel s,N<fuel→I 0 s→∃x s1,loopN c k body fuel s=some (x,s1)∧leaves x∧J x s1
 |N,I,hs,he,0,s,hf,h0=>by omega
 |0,I,hs,he,n+1,s,hf,h0=>by
  obtain⟨x,s1,h1,h2,h3⟩:=he s h0
  refine⟨x,s1, ?_,h2,h3⟩
  rw[loopN,h1]
  cases x<;>first|exact h2.elim|simp only[loopN.loopN1]
 |N+1,I,hs,he,n+1,s,hf,h0=>by
  obtain⟨x,s1,h1,h2⟩:=hs 0 s (by omega) h0
  cases x with
  |normal=>
   obtain⟨y,s2,q1,q2,q3⟩:=loop_inv N (fun i=>I (i+1)) (fun i s hi h=>hs (i+1) s (by omega) h) he n s1 (by omega) h2
   refine⟨y,s2, ?_,q2,q3⟩
   rw[loopN,h1]
   simpa only[loopN.loopN1] using q1
  |exit j=>exact⟨.exit j,s1,by rw[loopN,h1];simp only[loopN.loopN1],trivial,h2⟩
  |ret=>exact⟨.ret,s1,by rw[loopN,h1];simp only[loopN.loopN1],trivial,h2⟩
theorem loop_rel {c:Ctx} {k:Nat} {body:St→Option (Ex×St)} {σ:Type} (R:σ→St→Prop) (J:σ→Ex→St→Prop) (mu:σ→Nat)
 (step: ∀a s,R a s→∃x s1,rnd c k (body s)=some (x,s1)∧match x with| .normal=> ∃a',R a' s1∧mu a'<mu a∧∀x s,J a' x s→J a x s|x=>J a x s1):
 ∀fuel a s,mu a<fuel→R a s→∃x s1,loopN c k body fuel s=some (x,s1)∧leaves x∧J a x s1
 |0,a,s,hf,h0=>by omega
 |n+1,a,s,hf,h0=>by
  obtain⟨x,s1,h1,h2⟩:=step a s h0
  cases x with
  |normal=>
   obtain⟨a',q1,q2,q3⟩:=h2
   obtain⟨y,s2,p1,p2,p3⟩:=loop_rel R J mu step n a' s1 (by omega) q1
   refine⟨y,s2, ?_,p2,q3 _ _ p3⟩
   rw[loopN,h1]
   simpa only[loopN.loopN1] using p1
  |exit j=>exact⟨.exit j,s1,by rw[loopN,h1];simp only[loopN.loopN1],trivial,h2⟩
  |ret=>exact⟨.ret,s1,by rw[loopN,h1];simp only[loopN.loopN1],trivial,h2⟩
theorem first_list {α:Type} {p:α→Bool} {d:α} (l:List α):first (fun i=>p (l.getD i d)) 0 l.length=none↔l.any p=false:=by
 rw[first_none]
 constructor
 ·intro h
  rw[List.any_eq_false]
  intro x hx
  obtain⟨i,hi,rfl⟩:=List.getElem_of_mem hx
  have:=h i (by omega) (by omega)
  simpa[hi] using this
 ·intro h j _ hj
  have hj':j<l.length:=by omega
  rw[List.any_eq_false] at h
  simpa[hj'] using h l[j] (List.getElem_mem hj')
theorem scan_list {α:Type} {p:α→Bool} {d:α} {o f:Ex×St} (l:List α):scan (fun i=>p (l.getD i d)) (fun _=>o) f l.length=if l.any p then o else f:=by
 unfold Go.Ev.scan
 cases h:first (fun i=>p (l.getD i d)) 0 l.length with
 |none=>rw[(first_list l).1 h];rfl
 |some i=>
  obtain⟨h1,h2,h3,_⟩:=first_some h
  have hi:i<l.length:=by omega
  have:l.any p=true:=List.any_eq_true.2 ⟨l[i],List.getElem_mem hi,by simpa[hi] using h3⟩
  rw[this];rfl
theorem scan_find {α:Type} {p:α→Bool} {d:α} {g:α→Ex×St} {f:Ex×St} (l:List α) {N:Nat} (hN:N=l.length):scan (fun i=>p (l.getD i d)) (fun i=>g (l.getD i d)) f N=match l.find? p with
 |some x=>g x
 |none=>f:=by
 subst hN
 unfold Go.Ev.scan
 cases h:first (fun i=>p (l.getD i d)) 0 l.length with
 |none=>
  have:l.find? p=none:=by
   have:=(first_list l).1 h
   rw[List.any_eq_false] at this
   exact List.find?_eq_none.2 this
  rw[this]
 |some i=>
  obtain⟨h1,h2,h3,h4⟩:=first_some h
  have hi:i<l.length:=by omega
  have hg:l.getD i d=l[i]:=by simp[hi]
  have:l.find? p=some l[i]:=by
   rw[List.find?_eq_some_iff_getElem]
   refine⟨by rw[←hg];exact h3,i,hi,rfl,fun j hj=> ?_⟩
   have:=h4 j (by omega) hj
   have hj2:l.getD j d=l[j]:=by simp[show j<l.length by omega]
   rw[hj2] at this
   simp[this]
  rw[this]
  simp only[hg]
theorem getD_map {α β:Type} {f:α→β} {l:List α} {i:Nat} {d:α} (h:i<l.length):(l.map f)[i]? =some (f (l.getD i d)):=by simp[h]
theorem beq_ft:(false==true)=false:=rfl
theorem beq_tf:(true==false)=false:=rfl
theorem beq_tt:(true==true)=true:=rfl
theorem beq_ff:(false==false)=true:=rfl
attribute [go_sem] beq_ft beq_tf beq_tt beq_ff Int.cast_ofNat_Int
theorem room_iff (n:Nat):room n=(n≤1099511627776):=rfl
attribute [go_sem] room_iff
theorem cond_free {α:Type} {ops:Array Oper} {rs:List Rec} {a b:α} (h:isFree ops rs=true):(bif isFree ops rs then a else b)=a:=by rw[h];rfl
theorem wrap_i64 {n:Int} (h1: -9223372036854775808≤n) (h2:n≤9223372036854775807):IntKind.wrap .i64 n=n:=by
 simp only[IntKind.wrap,IntKind.bits,IntKind.signed,Bool.true_and,decide_eq_true_eq]
 split<;>rename_i h<;>simp at h<;>omega
theorem wrap_u8 {n:Int} (h1:0≤n) (h2:n≤255):IntKind.wrap .u8 n=n:=by
 simp only[IntKind.wrap,IntKind.bits,IntKind.signed,Bool.false_and,Bool.false_eq_true,if_false]
 omega
theorem wrap_u64 {n:Int} (h1:0≤n) (h2:n≤18446744073709551615):IntKind.wrap .u64 n=n:=by
 simp only[IntKind.wrap,IntKind.bits,IntKind.signed,Bool.false_and,Bool.false_eq_true,if_false]
 omega
theorem wrap_u8_mod (n:Int):IntKind.wrap .u8 n=n%256:=by
 simp only[IntKind.wrap,IntKind.bits,IntKind.signed,Bool.false_and,Bool.false_eq_true,if_false]
 omega
theorem wrap_u32_mod (n:Int):IntKind.wrap .u32 n=n%4294967296:=by
 simp only[IntKind.wrap,IntKind.bits,IntKind.signed,Bool.false_and,Bool.false_eq_true,if_false]
 omega
theorem wrap_u64_mod (n:Int):IntKind.wrap .u64 n=n%18446744073709551616:=by
 simp only[IntKind.wrap,IntKind.bits,IntKind.signed,Bool.false_and,Bool.false_eq_true,if_false]
 omega
end Go.Ev
set_option autoImplicit false
namespace Go.Proofs.YtfpioigggjnffaaGreatDoor.E
open Go.Ev
structure Jmp where
 at_:Int
 to:Int
 ht:Int
 ar:Int
 deriving DecidableEq
def Jmp.dd (j:Jmp):D:= .agg [.int .i64 j.at_, .int .i64 j.to, .int .i64 j.ht, .int .i64 j.ar]
def jm0:Jmp:=⟨0,0,0,0⟩
abbrev jds (l:List Jmp):List D:=l.map Jmp.dd
def Rises (l:List Jmp):Prop:=∀i j,i≤j→j<l.length→(l.getD i jm0).at_≤(l.getD j jm0).at_
def jmpD:D→Option Jmp
 | .agg [.int .i64 a, .int .i64 b, .int .i64 c, .int .i64 d]=>some ⟨a,b,c,d⟩
 |_=>none
def jmpL:List D→Option (List Jmp)
 |[]=>some []
 |x::xs=>match jmpD x,jmpL xs with
  |some j,some l=>some (j::l)
  |_,_=>none
def riseB:List Jmp→Bool
 |[]=>true
 |[_]=>true
 |a::b::l=>decide (a.at_≤b.at_)&&riseB (b::l)
theorem jmpL_of: ∀l:List Jmp,jmpL (jds l)=some l
 |[]=>rfl
 |j::l=>by
  have ih:=jmpL_of l
  simp only[jds] at ih
  simp only[jds,List.map_cons,Jmp.dd,jmpL,jmpD,ih]
theorem jmpL_is: ∀{xs:List D} {l:List Jmp},jmpL xs=some l→xs=jds l
 |[],l,h=>by cases h;rfl
 |x::xs,l,h=>by
  simp only[jmpL] at h
  split at h
  ·rename_i j l' h1 h2
   cases h
   rw[jmpL_is h2]
   unfold jmpD at h1
   split at h1
   ·cases h1;rfl
   ·cases h1
  ·cases h
theorem rises_of {l:List Jmp} (h:riseB l=true):Rises l:=by
 have key: ∀(l:List Jmp),riseB l=true→∀i,i+1<l.length→(l.getD i jm0).at_≤(l.getD (i+1) jm0).at_:=by
  intro l
  induction l with
  |nil=>intro _ i hi;simp at hi
  |cons a l ih=>
   intro h i hi
   cases l with
   |nil=>simp at hi
   |cons b l=>
    simp only[riseB,Bool.and_eq_true,decide_eq_true_eq] at h
    cases i with
    |zero=>exact h.1
    |succ i=>exact ih h.2 i (by simpa using hi)
 intro i j hij hj
 induction j with
 |zero=>obtain rfl:i=0:=by omega
        exact Int.le_refl _
 |succ j ih=>
  by_cases e:i=j+1
  ·subst e;exact Int.le_refl _
  ·exact Int.le_trans (ih (by omega) (by omega)) (key l h j hj)
theorem rise_of: ∀{l:List Jmp},Rises l→riseB l=true
 |[],_=>rfl
 |[_],_=>rfl
 |a::b::l,h=>by
  simp only[riseB,Bool.and_eq_true,decide_eq_true_eq]
  refine⟨h 0 1 (by omega) (by simp),rise_of fun i j hij hj=> ?_⟩
  have:=h (i+1) (j+1) (by omega) (by simpa using hj)
  simpa using this
def orderY (xs:List D):Option (List Jmp)→Option Res
 |some l=>bif riseB l&&decide (l.length<1000000) then some (.row 0 0 0 xs.length,[.row 4 xs 0 false false]) else none
 |none=>none
def orderX:List V→List Go.Ev.Obj→Option Res
 |[.d (.list xs)],[]=>orderY xs (jmpL xs)
 |_,_=>none
theorem orderX_of {l:List Jmp} (h:Rises l) (hl:l.length<1000000):orderX [.d (.list (jds l))] []=some (.row 0 0 0 l.length,[.row 4 (jds l) 0 false false]):=by
 simp only[orderX,jmpL_of,orderY,rise_of h,hl,decide_true,Bool.and_self,cond_true,List.length_map]
theorem orderX_is {args:List V} {objs:List Go.Ev.Obj} {v:V} {objs':List Go.Ev.Obj} (h:orderX args objs=some (v,objs')): ∃l:List Jmp,Rises l∧l.length<1000000∧args=[.d (.list (jds l))]∧objs=[]∧v= .row 0 0 0 l.length∧objs'=[.row 4 (jds l) 0 false false]:=by
 unfold orderX at h
 split at h
 ·rename_i xs
  cases hj:jmpL xs with
  |none=>rw[hj] at h;cases h
  |some l=>
   rw[hj] at h
   simp only[orderY] at h
   cases hc:(riseB l&&decide (l.length<1000000)) with
   |false=>rw[hc] at h;cases h
   |true=>
    rw[hc] at h
    simp only[cond_true,Option.some.injEq,Prod.mk.injEq] at h
    simp only[Bool.and_eq_true,decide_eq_true_eq] at hc
    obtain rfl:=jmpL_is hj
    exact⟨l,rises_of hc.1,hc.2,rfl,rfl,by rw[←h.1,List.length_map],h.2.symm⟩
 ·cases h
end Go.Proofs.YtfpioigggjnffaaGreatDoor.E
