/- Z9, S11, S12, SA. -/
import Derived.Test.YtfpioigggjnffaaGreatDoorC20
import Derived.Test.YtfpioigggjnffaaGreatDoorS4B
import Derived.Test.YtfpioigggjnffaaGreatDoorS8
import Derived.Test.YtfpioigggjnffaaGreatDoorL9
import Derived.Test.YtfpioigggjnffaaGreatDoorEvP
import Derived.KernelRfl
set_option linter.unnecessarySimpa false
set_option linter.unusedSimpArgs false
set_option linter.unusedVariables false
set_option autoImplicit false
set_option maxRecDepth 100000
namespace Go.Proofs.YtfpioigggjnffaaGreatDoor.E
open Go.Ev
theorem BodyOk.rise {e:TEnv} {b:List Int} (hb:Bs b) {x:Nat} {l:List TInstr} {z:Nat} {P:List Stk} (h:BodyOk e b x l z P): ∀i j,i<j→j≤l.length→at0 (stF b x l) i<at0 (stF b x l) j:=by
 obtain⟨y,c,i,hc,_⟩:=h.chain
 exact fun i j h1 h2=>stF_lt hb hc h1 h2
theorem atIs_step {l:List TInstr} {S:List Int} (hS: ∀i j,i<j→j≤l.length→at0 S i<at0 S j) (P:List Stk) {k:Nat} (hk:k<l.length): ∀n,n≤l.length→(jumpsTo l S P n).filter (fun j=>decide (j.at_=at0 S k))=if k<n then stepJ l S P k else[]
 |0,_=>rfl
 |n+1,hn=>by
  rw[jumpsTo,List.filter_append,atIs_step hS P hk n (by omega)]
  have hat:=stepJ_at l S P n
  by_cases e:k=n
  ·subst e
   rw[if_neg (by omega),if_pos (by omega),List.nil_append,List.filter_eq_self]
   intro j hj
   simp[hat j hj]
  ·have:(stepJ l S P n).filter (fun j=>decide (j.at_=at0 S k))=[]:=by
    rw[List.filter_eq_nil_iff]
    intro j hj
    rw[hat j hj]
    have:at0 S n≠at0 S k:=by
     rcases Nat.lt_trichotomy n k with q|q|q
     ·have:=hS n k q (by omega);omega
     ·omega
     ·have:=hS k n q (by omega);omega
    simpa using this
   rw[this,List.append_nil]
   by_cases hkn:k<n
   ·rw[if_pos hkn,if_pos (by omega)]
   ·rw[if_neg hkn,if_neg (by omega)]
theorem stepJ_getD {l:List TInstr} {S:List Int} {P:List Stk}: ∀{n k:Nat},k<n→∀j,j<(stepJ l S P k).length→(jumpsTo l S P n)[(jumpsTo l S P k).length+j]? =(stepJ l S P k)[j]?
 |0,k,h,j,hj=>by omega
 |n+1,k,h,j,hj=>by
  rw[jumpsTo]
  by_cases e:k=n
  ·subst e
   rw[List.getElem?_append_right (by omega),Nat.add_sub_cancel_left]
  ·have ih:=stepJ_getD (l:=l) (S:=S) (P:=P) (show k<n by omega) j hj
   rw[List.getElem?_append_left,ih]
   have:=(List.getElem?_eq_some_iff.1 (ih.trans (List.getElem?_eq_getElem hj))).1
   exact this
end Go.Proofs.YtfpioigggjnffaaGreatDoor.E
set_option autoImplicit false
set_option maxRecDepth 100000
set_option maxHeartbeats 4000000
namespace Go.Proofs.YtfpioigggjnffaaGreatDoor.E
open Go.Ev
theorem order_told (fu n:Nat) (l:List Jmp) (h:Rises l) (hl:l.length<1000000):evF (G fu) (n+1) 37 [.d (.list (jds l))] []=some (.row 0 0 0 l.length,[.row 4 (jds l) 0 false false]):=by
 rw[evF.eq_2,evX.eq_def,Gext,exts_37]
 exact orderX_of h hl
def mH (m:Mk) (J L H:V) (r:Map Go.Ev.Obj):Map Go.Ev.Obj:=
 [(448, .cells [.nilsl, .nilsl, .nilsl, .nilsl]),(1344, .row 5 (m.l.map TInstr.d) 0 true false),(2304, .cells [.row 2688 0 0 m.S.length,J,L,H, .row 1344 0 0 m.l.length, .row 3136 0 0 m.M.length, .row 3712 0 0 m.P.length]),(2688, .row 1 (intd m.S) 0 false false),(3136, .row 2 (m.M.map nestD) 0 false false),(3712, .row 2 (stkds m.P) 0 false false)]++r
theorem brd_ne {b:List Int} (hb:Bs b): ∀{f x:Nat} {out:List TInstr} {st:List Nest} {g:Int},brd b f x out st= .error g→¬g=0
 |0,x,out,st,g,h=>by cases h;decide
 |f+1,x,out,st,g,h=>by
  rw[brd] at h
  split at h
  ·rename_i hd
   cases h
   exact dec_err hd
  ·split at h
   ·cases h
   ·split at h
    ·cases h;decide
    ·split at h
     ·cases h;decide
     ·exact brd_ne hb h
structure Kd where
 J:V
 L:V
 r:Map Go.Ev.Obj
 q:Map Go.Ev.Obj
def Kd.h (m:Mk) (K:Kd):Map Go.Ev.Obj:=mH m K.J K.L .nilsl (K.r++K.q)
def Kd.hh (m:Mk) (K:Kd) (h:List Int) (a:Bool):Map Go.Ev.Obj:=mH m K.J K.L (.row 6016 0 0 h.length) (K.r++(6016, .row 1 (intd h) 0 false a)::K.q)
inductive MkH:Option (List Jmp)→Option (List Int)→Kd→Prop
 |nn:MkH none none ⟨.nilsl, .nilsl,[],[]⟩
 |jn (j:List Jmp) (c:Bool):MkH (some j) none ⟨.row 4672 0 0 j.length, .nilsl,[(4672, .row 4 (jds j) 0 false c)],[]⟩
 |nl (L:List Int) (d:Bool):MkH none (some L) ⟨.nilsl, .row 4672 0 0 L.length,[(4672, .row 1 (intd L) 0 false d)],[]⟩
 |jl (j:List Jmp) (L:List Int) (c d:Bool):MkH (some j) (some L) ⟨.row 4672 0 0 j.length, .row 196672 0 0 L.length,[(4672, .row 4 (jds j) 0 false c)],[(196672, .row 1 (intd L) 0 false d)]⟩
 |lj (j:List Jmp) (L:List Int) (c d:Bool):MkH (some j) (some L) ⟨.row 196672 0 0 j.length, .row 4672 0 0 L.length,[(4672, .row 1 (intd L) 0 false d)],[(196672, .row 4 (jds j) 0 false c)]⟩
def kdOf {J:Option (List Jmp)} {L:Option (List Int)} {K:Kd} (_:MkH J L K):Kd:=K
theorem Make_go (fu n:Nat) (e:TEnv) (b:List Int) (x:Nat) (z:Int) (m:Mk) (hm:MkOk fu m) (hs:Sd fu m) (hlen:m.l.length≤4096) (hf:300000<fu) (hv: ∀s∈m.P,s.vals.length<1000000)
 (R:evF (G fu) (n+19) 72 [.d (.list (byt b)), .d (.int .i64 x)] []=some (.tup [.row 0 0 0 m.l.length, .d (.int .i64 z), .d (.int .i64 0)],[.row 5 (m.l.map TInstr.d) 0 false false]))
 (B:evF (G fu) (n+19) 25 [.d e.dd, .d (.list (m.l.map TInstr.d))] []=some (.d (.int .i64 0),[]))
 (St:evF (G fu) (n+19) 73 [.d (.list (byt b)), .d (.int .i64 x), .d (.int .i64 m.l.length)] []=some (.row 0 0 0 m.S.length,[.row 1 (intd m.S) 0 false false]))
 (M:evF (G fu) (n+19) 64 [.d (.list (m.l.map TInstr.d))] []=some (.tup [.row 0 0 0 m.M.length, .d (.bool true)],[.row 2 (m.M.map nestD) 0 false false]))
 (PE:evF (G fu) (n+19) 23 [.d e.dd, .d (.list (m.l.map TInstr.d))] []=some (.tup [.row 0 0 0 m.P.length, .d (.int .i64 0)],[.row 2 (stkds m.P) 0 false false]))
 (O:evF (G fu) (n+19) 37 [.d (.list (jds (jumpsTo m.l m.S m.P m.l.length)))] []=some (.row 0 0 0 (jumpsTo m.l m.S m.P m.l.length).length,[.row 4 (jds (jumpsTo m.l m.S m.P m.l.length)) 0 false false])):
 evF (G fu) (n+20) 29 [.d e.dd, .d (.list (byt b)), .d (.int .i64 x)] []=some (.tup [.d (Tab.dd ⟨m.S,jumpsTo m.l m.S m.P m.l.length,loopsTo m.l m.S m.l.length,hts m.P⟩), .d (.int .i64 z), .d (.int .i64 0)],[]):=by
 have tk1:(m.l.map TInstr.d).take m.l.length=m.l.map TInstr.d:=List.take_of_length_le (by simp)
 have hJl:=jumpsTo_le (S:=m.S) (P:=m.P) hs.lb
 have hLl:=loopsTo_le (l:=m.l) (S:=m.S)
 have hPl:=hm.P
 simp only[TEnv.dd] at B PE
 rw[evF.eq_2,evX.eq_def,Gext,exts_no _ (f:=29) (by decide),GP,Tryz.func29];simp only[Tryz.f29,evB]
 simp only[go_sem,seval, -Nat.reduceSubDiff,↓reduceIte,reduceCtorEq,TEnv.dd,R,B,St,M,PE,tk1]
 clear R B St M PE
 generalize hr1:loopN _ _ _ _ _=r
 obtain⟨y1,s1,rfl,hy1,rfl,J,L,K,hJ,hL,hH,rfl⟩: ∃y1 s1,r=some (y1,s1)∧leaves y1∧(y1= .exit 0∧∃J L K,J.getD []=jumpsTo m.l m.S m.P m.l.length∧L.getD []=loopsTo m.l m.S m.l.length∧MkH J L K∧s1=⟨[(6, .ptr 448 0),(10, .d (.int .i64 z)),(12, .ptr 2304 0)],K.h m⟩):=by
  rw[←hr1]
  refine loop_inv (J:=fun y1 s1=>y1= .exit 0∧∃J L K,J.getD []=jumpsTo m.l m.S m.P m.l.length∧L.getD []=loopsTo m.l m.S m.l.length∧MkH J L K∧s1=⟨[(6, .ptr 448 0),(10, .d (.int .i64 z)),(12, .ptr 2304 0)],K.h m⟩)
   m.l.length (fun k q=> ∃J L K,J.getD []=jumpsTo m.l m.S m.P k∧L.getD []=loopsTo m.l m.S k∧MkH J L K∧q=⟨[(6, .ptr 448 0),(10, .d (.int .i64 z)),(12, .ptr 2304 0),(62, .row 1344 0 0 m.l.length),(63, .d (.int .i64 m.l.length)),(64, .d (.int .i64 k))],K.h m⟩) ?_ ?_ fu _ (by omega) ⟨none,none,_,rfl,rfl, .nn,rfl⟩
  ·rintro k q hk ⟨J,L,K,hJ,hL,hH,rfl⟩
   have hkI:(k:Int)<m.l.length:=by omega
   have hxi:(m.l.map TInstr.d)[k]? =some (m.l.getD k in0).d:=getD_map hk
   have W:=wrap_i64 (show-9223372036854775808≤(k:Int)+1 by omega) (by omega)
   have hJk:=hJl k (by omega)
   have hLk:=hLl k
   have hSt:=step_all fu (n+11) m hm hs J L k hk (fun j h=>by subst h;simp only[Option.getD_some] at hJ;rw[hJ];omega) (fun j h=>by subst h;simp only[Option.getD_some] at hL;rw[hL];omega)
   rw[jumpsTo,loopsTo,←hJ,←hL]
   clear hJ hL hJk hLk hJl hLl hr1 O
   generalize m.l.getD k in0=i at*
   simp only[TInstr.d] at hxi hSt
   cases hSt with
   |no h1 h2 X=>
    rw[h1,h2]
    cases hH
    all_goals
     simp only[Mk.o,Mk.tl,List.cons_append,List.nil_append] at X
     simp(maxSteps:=1000000) only[go_sem,seval, -Nat.reduceSubDiff,↓reduceIte,reduceCtorEq,Kd.h,mH,List.cons_append,List.nil_append,hkI,hxi,X,W]
    ·exact⟨_,_,rfl,none,none,_,rfl,rfl, .nn,rfl⟩
    ·exact⟨_,_,rfl,_,none,_,by simp,rfl, .jn _ _,rfl⟩
    ·exact⟨_,_,rfl,none,_,_,rfl,by simp, .nl _ _,rfl⟩
    ·exact⟨_,_,rfl,_,_,_,by simp,by simp, .jl _ _ _ _,rfl⟩
    ·exact⟨_,_,rfl,_,_,_,by simp,by simp, .lj _ _ _ _,rfl⟩
   |jumps h1 h2 X=>
    rw[h2]
    generalize stepJ m.l m.S m.P k=js at*
    cases hH
    all_goals
     simp only[Mk.o,Mk.oJ,Mk.tl,List.cons_append,List.nil_append] at X
     simp(maxSteps:=1000000) only[go_sem,seval, -Nat.reduceSubDiff,↓reduceIte,reduceCtorEq,Kd.h,mH,List.cons_append,List.nil_append,hkI,hxi,X,W]
    ·exact⟨_,_,rfl,some _,none,_,by simp,rfl, .jn _ _,rfl⟩
    ·exact⟨_,_,rfl,some _,none,_,by simp,rfl, .jn _ _,rfl⟩
    ·exact⟨_,_,rfl,some _,_,_,by simp,by simp, .lj _ _ _ _,rfl⟩
    ·exact⟨_,_,rfl,some _,_,_,by simp,by simp, .jl _ _ _ _,rfl⟩
    ·exact⟨_,_,rfl,some _,_,_,by simp,by simp, .lj _ _ _ _,rfl⟩
   |loop h1 h2 X=>
    rw[h1,h2]
    generalize at0 m.S k=v at*
    cases hH
    all_goals
     simp only[Mk.o,Mk.oL,Mk.tl,List.cons_append,List.nil_append] at X
     simp(maxSteps:=1000000) only[go_sem,seval, -Nat.reduceSubDiff,↓reduceIte,reduceCtorEq,Kd.h,mH,List.cons_append,List.nil_append,hkI,hxi,X,W]
    ·exact⟨_,_,rfl,none,some [v],_,rfl,rfl, .nl _ _,rfl⟩
    ·exact⟨_,_,rfl,_,some [v],_,by simp,rfl, .jl _ _ _ _,rfl⟩
    ·exact⟨_,_,rfl,none,some _,_,rfl,by simp, .nl _ _,rfl⟩
    ·exact⟨_,_,rfl,_,some _,_,by simp,by simp, .jl _ _ _ _,rfl⟩
    ·exact⟨_,_,rfl,_,some _,_,by simp,by simp, .lj _ _ _ _,rfl⟩
  ·rintro q ⟨J,L,K,hJ,hL,hH,rfl⟩
   cases hH
   all_goals
    simp(maxSteps:=1000000) only[go_sem,seval, -Nat.reduceSubDiff,↓reduceIte,reduceCtorEq,Kd.h,mH,List.cons_append,List.nil_append,Int.lt_irrefl]
   ·exact⟨_,_,rfl,trivial,rfl,none,none,_,hJ,hL, .nn,rfl⟩
   ·exact⟨_,_,rfl,trivial,rfl,some _,none,_,hJ,hL, .jn _ _,rfl⟩
   ·exact⟨_,_,rfl,trivial,rfl,none,some _,_,hJ,hL, .nl _ _,rfl⟩
   ·exact⟨_,_,rfl,trivial,rfl,some _,some _,_,hJ,hL, .jl _ _ _ _,rfl⟩
   ·exact⟨_,_,rfl,trivial,rfl,some _,some _,_,hJ,hL, .lj _ _ _ _,rfl⟩
 clear hr1 hy1
 have hPn:0<m.P.length:=by omega
 obtain⟨K0,hK0⟩: ∃K0,K0=kdOf hH:=⟨_,rfl⟩
 cases hH
 all_goals
  simp(maxSteps:=1000000) only[go_sem,seval, -Nat.reduceSubDiff,↓reduceIte,reduceCtorEq,Kd.h,mH,List.cons_append,List.nil_append]
  generalize hr2:loopN _ _ _ _ _=r2
  obtain⟨y2,s2,rfl,hy2,rfl,a,rfl⟩: ∃y2 s2,r2=some (y2,s2)∧leaves y2∧(y2= .exit 2∧∃a,s2=⟨[(6, .ptr 448 0),(10, .d (.int .i64 z)),(12, .ptr 2304 0)],K0.hh m (hts m.P) a⟩):=by
   rw[←hr2]
   refine loop_inv (J:=fun y2 s2=>y2= .exit 2∧∃a,s2=⟨[(6, .ptr 448 0),(10, .d (.int .i64 z)),(12, .ptr 2304 0)],K0.hh m (hts m.P) a⟩)
    m.P.length (fun k q=>(k=0∧q=⟨[(6, .ptr 448 0),(10, .d (.int .i64 z)),(12, .ptr 2304 0),(77, .row 3712 0 0 m.P.length),(78, .d (.int .i64 m.P.length)),(79, .d (.int .i64 k))],K0.h m⟩)∨(0<k∧∃a,q=⟨[(6, .ptr 448 0),(10, .d (.int .i64 z)),(12, .ptr 2304 0),(77, .row 3712 0 0 m.P.length),(78, .d (.int .i64 m.P.length)),(79, .d (.int .i64 k))],K0.hh m (hts (m.P.take k)) a⟩)) ?_ ?_ fu _ (by omega) (.inl ⟨rfl,by rw[hK0];rfl⟩)
   ·rintro k q hk hq
    have hkI:(k:Int)<m.P.length:=by omega
    have hxi:(stkds m.P)[k]? =some (m.P.getD k stk0).dd:=getD_map hk
    have W:=wrap_i64 (show-9223372036854775808≤(k:Int)+1 by omega) (by omega)
    have hT:hts (m.P.take (k+1))=hts (m.P.take k)++[((m.P.getD k stk0).vals.length:Int)]:=by
     unfold hts
     rw[List.take_add_one,List.map_append,List.getD_eq_getElem?_getD,List.getElem?_eq_getElem hk];rfl
    have hTl:(hts (m.P.take k)).length+1≤1099511627776:=by unfold hts;rw[List.length_map,List.length_take];omega
    have z1: ∀v:Int,sizedAll 1 [D.int .i64 v]=true:=fun v=>rfl
    rw[hT]
    rcases hq with⟨rfl,rfl⟩|⟨hk0,a,rfl⟩
    ·have h0:hts (m.P.take 0)=[]:=by simp[hts]
     rw[h0]
     have h0I:(0:Int)<m.P.length:=by omega
     have W1:=wrap_i64 (show-9223372036854775808≤(1:Int) by omega) (by omega)
     generalize m.P.getD 0 stk0=s at*
     simp only[Stk.dd] at hxi
     subst hK0
     simp(maxSteps:=1000000) only[go_sem,seval, -Nat.reduceSubDiff,↓reduceIte,reduceCtorEq,kdOf,Kd.h,mH,List.cons_append,List.nil_append,h0I,idx,hxi,byt_len,z1]
     (rw[cond_free];rotate_left;·rfl)
     simp(maxSteps:=1000000) only[go_sem,seval, -Nat.reduceSubDiff,↓reduceIte,reduceCtorEq,kdOf,Kd.hh,mH,List.cons_append,List.nil_append,W1]
     exact⟨_,_,rfl,false,rfl⟩
    ·generalize hts (m.P.take k)=h at*
     generalize m.P.getD k stk0=s at*
     simp only[Stk.dd] at hxi
     have tk:(intd h).take h.length=intd h:=List.take_of_length_le (by simp)
     have ct: ∀v:Int,intd h++[D.int .i64 v]=intd (h++[v]):=fun v=>by simp[intd]
     have cl: ∀v:Int,(h++[v]).length=h.length+1:=fun v=>by simp
     subst hK0
     simp(maxSteps:=1000000) only[go_sem,seval, -Nat.reduceSubDiff,↓reduceIte,reduceCtorEq,kdOf,Kd.hh,mH,List.cons_append,List.nil_append,hkI,idx,hxi,byt_len,z1,hTl,tk,ct,cl,W]
     (rw[cond_free];rotate_left;·rfl)
     simp(maxSteps:=1000000) only[go_sem,seval, -Nat.reduceSubDiff,↓reduceIte,reduceCtorEq,kdOf,Kd.hh,mH,List.cons_append,List.nil_append,W]
     exact⟨_,_,rfl,by omega,true,rfl⟩
   ·rintro q hq
    rcases hq with⟨h0,_⟩|⟨hk0,a,rfl⟩
    ·omega
    ·subst hK0
     simp(maxSteps:=1000000) only[go_sem,seval, -Nat.reduceSubDiff,↓reduceIte,reduceCtorEq,kdOf,Kd.hh,mH,List.cons_append,List.nil_append,Int.lt_irrefl,List.take_length]
     exact⟨_,_,rfl,trivial,rfl,a,rfl⟩
  subst hK0
  rw[←hJ] at O ⊢
  rw[←hL]
  clear hr2
  generalize hts m.P=h at*
  have tkI: ∀l:List Int,(intd l).take l.length=intd l:=fun l=>List.take_of_length_le (by simp)
  have tkJ: ∀l:List Jmp,(jds l).take l.length=jds l:=fun l=>List.take_of_length_le (by simp)
  simp only[Option.getD_some,Option.getD_none,List.map_nil,List.length_nil] at O ⊢
  simp(maxSteps:=1000000) only[go_sem,seval, -Nat.reduceSubDiff,↓reduceIte,reduceCtorEq,kdOf,Kd.hh,mH,List.cons_append,List.nil_append,tkI,tkJ,O,Tab.dd,List.map_nil]
theorem Make_ev (fu n:Nat) (e:TEnv) (he:EOk fu e) (b:List Int) (hb:Bs b) (x:Nat) (hf:300000<fu) (hx:x≤b.length) (hl:b.length<1099511627000):
 evF (G fu) (n+20) 29 [.d e.dd, .d (.list (byt b)), .d (.int .i64 x)] []=makeR (makeF e b x):=by
 have R:=BRead_ev fu (n+10) b hb x (by omega) hx hl
 unfold makeF
 cases hr:brd b 4097 x [] [] with
 |error f=>
  rw[hr] at R
  simp only[brdR] at R
  have hf0: ¬f=0:=brd_ne hb hr
  rw[evF.eq_2,evX.eq_def,Gext,exts_no _ (f:=29) (by decide),GP,Tryz.func29];simp only[Tryz.f29,evB]
  simp only[go_sem,seval, -Nat.reduceSubDiff,↓reduceIte,reduceCtorEq,TEnv.dd,R,hf0,makeR,tabE,Tab.dd,List.map_nil]
 |ok r=>
  obtain⟨l,z⟩:=r
  rw[hr] at R
  simp only[brdR] at R
  have hlen:=brd_len _ _ _ _ hr
  simp only[List.length_nil,Nat.zero_add] at hlen
  obtain⟨_,y,_,_,q1,q2,_⟩:=brd_chain _ _ _ _ hr
  simp only[List.nil_append] at q1
  subst q1
  have hlb: ∀i∈l,i.labels.length≤64:=fun i hi=>san_labels (chain_san hb q2 i hi).1
  have B:=body_ev fu (n+5) e he l (by omega) (by omega) (fun i hi=>by have:=hlb i hi;omega)
  have tk1:(l.map TInstr.d).take l.length=l.map TInstr.d:=List.take_of_length_le (by simp)
  simp only
  by_cases hf0:bodyF e l=0
  ·rw[if_pos hf0]
   obtain⟨P,hB⟩:=bodyOk_of he.sm hb hr hf0
   rw[hB.path]
   simp only[makeR]
   have St:=starts_ev fu (n+11) b hb l x y q2 hx (by omega) (by omega) (by omega) hl
   have M:=matches_ev fu (n+14) l (by omega) (by omega) (by omega)
   have PE:=path_ev fu (n+6) e he l (by omega) (by omega) (fun i hi=>by have:=hlb i hi;omega)
   rw[hB.path] at PE
   rw[hB.walk] at M
   rw[hf0] at B
   simp only[pathR] at PE
   simp only[TEnv.dd] at B PE
   obtain⟨hm,hs⟩:=hB.mks (fu:=fu) (by omega)
   have hJr:=jumps_rise (l:=l) (S:=stF b x l) (P:=P) (fun i j h1 h2=>by
    rcases Nat.lt_or_ge i j with q|q
    ·have:=hB.rise hb i j q (by omega);omega
    ·have:i=j:=by omega
     subst this;omega) l.length (Nat.le_refl _)
   have hJl:=jumpsTo_le (S:=stF b x l) (P:=P) hlb l.length (Nat.le_refl _)
   have hO:=order_told fu (n+18) _ (rises_iff.2 hJr.1) (by omega)
   have hPl:=hB.pl
   have hPc:=hB.c
   exact Make_go fu n e b x z ⟨stF b x l,l,matchesF l,P⟩ hm hs (by show l.length≤4096;omega) hf (fun s h=>by have:=(hPc s h).2.2.1;omega) R B St M PE hO
  ·rw[if_neg hf0]
   simp only[TEnv.dd] at B
   rw[evF.eq_2,evX.eq_def,Gext,exts_no _ (f:=29) (by decide),GP,Tryz.func29];simp only[Tryz.f29,evB]
   simp only[go_sem,seval, -Nat.reduceSubDiff,↓reduceIte,reduceCtorEq,TEnv.dd,R,B,hf0,makeR,tabE,Tab.dd,List.map_nil,tk1]
end Go.Proofs.YtfpioigggjnffaaGreatDoor.E
set_option autoImplicit false
set_option maxRecDepth 100000
set_option maxHeartbeats 4000000
namespace Go.Proofs.YtfpioigggjnffaaGreatDoor.E
open Go.Ev
theorem env12_ev (fu n:Nat) (e:Tavocetref10_Env) (h:e.globals.length<fu) (h2:e.globals.length<1000000):evF (G fu) (n+1) 30 [.d e.d] []=some (.d (envOf e).dd,[]):=by
 have eT:e.types.map TFuncType.d=(envOf e).types.map tyD:=by simp[envOf,tyOf,tyD,TFuncType.d,Function.comp_def]
 have eG:(e.globals.map glOf).map glD=e.globals.map Tavocetref10_Glob.d:=by simp[glOf,glD,Tavocetref10_Glob.d,Function.comp_def]
 have hdd:(envOf e).dd= .agg [.list (e.types.map TFuncType.d), .list (e.funcs.map (D.int .i64)), .int .i64 e.tables, .int .i64 e.mems, .list (e.globals.map Tavocetref10_Glob.d), .list (e.locals.map (D.int .u8)), .list (e.results.map (D.int .u8))]:=by
  unfold TEnv.dd
  rw[←eT]
  simp only[envOf,eG]
 rw[hdd]
 rw[evF.eq_2,evX.eq_def,Gext,exts_no _ (f:=30) (by decide),GP,Tryz.func30];simp only[Tryz.f30,evB]
 simp only[go_sem,seval, -Nat.reduceSubDiff,↓reduceIte,reduceCtorEq,Tavocetref10_Env.d,List.length_map]
 generalize e.types.map TFuncType.d=T
 generalize e.funcs.map (D.int .i64)=F
 generalize e.locals.map (D.int .u8)=L
 generalize e.results.map (D.int .u8)=R
 have hgs: ∀k,k<e.globals.length→(e.globals.map Tavocetref10_Glob.d)[k]? =some (e.globals.getD k gl1).d:=fun k hk=>getD_map hk
 have hgl:(e.globals.map Tavocetref10_Glob.d).length=e.globals.length:=List.length_map ..
 generalize hgd:e.globals.map Tavocetref10_Glob.d=gs at*
 generalize e.globals.length=N at*
 rw[loop_some N (fun k=>⟨[(1,V.ptr 128 0),(2,V.ptr 192 0),(3,V.ptr 256 0),(4,V.d (D.int .i64 k))],[(128, .cells [V.d (D.list T),V.d (D.list F),V.d (D.int .i64 e.tables),V.d (D.int .i64 e.mems),V.d (D.list gs),V.d (D.list L),V.d (D.list R)]),(192, .cells [V.nilsl,V.nilsl,V.d (D.int .i64 0),V.d (D.int .i64 0),V.nilsl,V.nilsl,V.nilsl]),(256, .cells [V.d (D.list T),V.d (D.list F),V.d (D.int .i64 e.tables),V.d (D.int .i64 e.mems),gvE k,V.d (D.list L),V.d (D.list R)])]++ghE gs k⟩)
  (.exit 0,⟨[(2,V.ptr 192 0),(3,V.ptr 256 0)],[(192, .cells [V.nilsl,V.nilsl,V.d (D.int .i64 0),V.d (D.int .i64 0),V.nilsl,V.nilsl,V.nilsl]),(256, .cells [V.d (D.list T),V.d (D.list F),V.d (D.int .i64 e.tables),V.d (D.int .i64 e.mems),gvE N,V.d (D.list L),V.d (D.list R)])]++ghE gs N⟩) trivial h ?_]
 case hs=>
  intro k hk
  have hx:=hgs k hk
  have hkI:(k:Int)<N:=by omega
  have W:=wrap_i64 (show-9223372036854775808≤(k:Int)+1 by omega) (by omega)
  have z1:sizedAll 2 [D.agg [D.int .u8 (e.globals.getD k gl1).val_,D.bool (e.globals.getD k gl1).mut_]]=true:=rfl
  have hst:gs.take (k+1)=gs.take k++[D.agg [D.int .u8 (e.globals.getD k gl1).val_,D.bool (e.globals.getD k gl1).mut_]]:=by
   rw[List.take_add_one,hx];rfl
  simp only[Tavocetref10_Glob.d] at hx
  generalize(e.globals.getD k gl1).val_=v at*
  generalize(e.globals.getD k gl1).mut_=m at*
  cases k with
  |zero=>
   have hk0:(0:Int)<N:=by omega
   have V1:=wrap_i64 (show-9223372036854775808≤(1:Int) by omega) (by omega)
   simp only[go_sem,seval, -Nat.reduceSubDiff,↓reduceIte,reduceCtorEq,gvE,ghE,hk0,idx,hx,z1,hgl,V1]
   (rw[cond_free];rotate_left;·rfl)
   simp only[go_sem,seval, -Nat.reduceSubDiff,↓reduceIte,reduceCtorEq,V1,hst]
  |succ k=>
   have hr:k+1+1≤1099511627776:=by omega
   have ht:(gs.take (k+1)).take (k+1)=gs.take (k+1):=by rw[List.take_take];simp
   simp only[go_sem,seval, -Nat.reduceSubDiff,↓reduceIte,reduceCtorEq,gvE,ghE,hkI,idx,hx,z1,hgl,hr,ht]
   (rw[cond_free];rotate_left;·rfl)
   simp only[go_sem,seval, -Nat.reduceSubDiff,↓reduceIte,reduceCtorEq,W]
   have hd:decide (0<k+1)=true:=by simp
   rw[hst,hd];rfl
 case he=>
  cases N with
  |zero=>simp only[go_sem,seval, -Nat.reduceSubDiff,↓reduceIte,reduceCtorEq,gvE,ghE,hgl,Int.lt_irrefl]
  |succ k=>simp only[go_sem,seval, -Nat.reduceSubDiff,↓reduceIte,reduceCtorEq,gvE,ghE,hgl,Int.lt_irrefl]
 ·cases N with
  |zero=>
   have:gs=[]:=List.length_eq_zero_iff.1 hgl
   simp only[go_sem,seval, -Nat.reduceSubDiff,↓reduceIte,reduceCtorEq,gvE,ghE,this]
  |succ k=>
   have ht:gs.take (k+1)=gs:=List.take_of_length_le (by omega)
   simp only[go_sem,seval, -Nat.reduceSubDiff,↓reduceIte,reduceCtorEq,gvE,ghE,ht]
 ·rfl
theorem small12_ev (fu n:Nat) (e:Tavocetref10_Env) (h:100<fu):evF (G fu) (n+1) 28 [.d e.d] []=some (.d (.bool (smallE e)),[]):=by
 rw[evF.eq_2,evX.eq_def,Gext,exts_no _ (f:=28) (by decide),GP,Tryz.func28];simp only[Tryz.f28,evB]
 unfold smallE
 by_cases c1:(e.types.length:Int)≤70
 ·by_cases c2:(e.funcs.length:Int)≤130
  ·by_cases c3:(e.globals.length:Int)≤70
   ·by_cases c4:(e.locals.length:Int)≤100
    ·by_cases c5:(e.results.length:Int)≤20
     ·simp only[go_sem,seval, -Nat.reduceSubDiff,↓reduceIte,reduceCtorEq,Tavocetref10_Env.d,List.length_map,c1,c2,c3,c4,c5,show ¬(70:Int)<e.types.length by omega,show ¬(130:Int)<e.funcs.length by omega,show ¬(70:Int)<e.globals.length by omega,show ¬(100:Int)<e.locals.length by omega,show ¬(20:Int)<e.results.length by omega]
      generalize List.map (D.int IntKind.i64) e.funcs=F
      generalize List.map Tavocetref10_Glob.d e.globals=gs
      rw[loop_scan e.types.length (fun k=>⟨[(1,V.ptr 128 0),(3,V.d (D.int .i64 k))],[(128, .cells [V.d (D.list (List.map TFuncType.d e.types)),V.d (D.list F),V.d (D.int IntKind.i64 e.tables),V.d (D.int IntKind.i64 e.mems),V.d (D.list gs),V.d (D.list (List.map (D.int IntKind.u8) e.locals)),V.d (D.list (List.map (D.int IntKind.u8) e.results))])]⟩) (fun k=> !tySm (e.types.getD k ft0)) (fun _=>(.ret,⟨[(2,V.d (D.bool false))],[]⟩)) (.exit 0,⟨[],[]⟩) (by omega) (fun _=>trivial) trivial ?_]
      case hs=>
       intro k hk
       have hx:(e.types.map TFuncType.d)[k]? =some (e.types.getD k ft0).d:=getD_map hk
       have hkI:(k:Int)<e.types.length:=by omega
       have W:=wrap_i64 (show-9223372036854775808≤(k:Int)+1 by omega) (by omega)
       generalize e.types.getD k ft0=t at*
       unfold tySm
       by_cases d1:(t.params.length:Int)≤40
       ·by_cases d2:(t.results.length:Int)≤40
        ·simp only[go_sem,seval, -Nat.reduceSubDiff,↓reduceIte,reduceCtorEq,List.length_map,hkI,idx,hx,TFuncType.d,d1,d2,W,show ¬(40:Int)<t.params.length by omega,show ¬(40:Int)<t.results.length by omega]
         rfl
        ·simp only[go_sem,seval, -Nat.reduceSubDiff,↓reduceIte,reduceCtorEq,List.length_map,hkI,idx,hx,TFuncType.d,d1,d2,W,show ¬(40:Int)<t.params.length by omega,show(40:Int)<t.results.length by omega]
       ·simp only[go_sem,seval, -Nat.reduceSubDiff,↓reduceIte,reduceCtorEq,List.length_map,hkI,idx,hx,TFuncType.d,d1,W,show(40:Int)<t.params.length by omega]
      case he=>simp only[go_sem,seval, -Nat.reduceSubDiff,↓reduceIte,reduceCtorEq,List.length_map,Int.lt_irrefl]
      ·have hA:=any_false (p:=tySm) (d:=ft0) e.types
       unfold Go.Ev.scan
       cases hf:first (fun k=> !tySm (e.types.getD k ft0)) 0 e.types.length with
       |some k=>rw[hf] at hA;simp only[go_sem,seval, -Nat.reduceSubDiff,↓reduceIte,reduceCtorEq,←hA]
       |none=>rw[hf] at hA;simp only[go_sem,seval, -Nat.reduceSubDiff,↓reduceIte,reduceCtorEq,←hA]
      ·rfl
     ·simp only[go_sem,seval, -Nat.reduceSubDiff,↓reduceIte,reduceCtorEq,Tavocetref10_Env.d,List.length_map,c1,c2,c3,c4,c5,show ¬(70:Int)<e.types.length by omega,show ¬(130:Int)<e.funcs.length by omega,show ¬(70:Int)<e.globals.length by omega,show ¬(100:Int)<e.locals.length by omega,show(20:Int)<e.results.length by omega]
    ·simp only[go_sem,seval, -Nat.reduceSubDiff,↓reduceIte,reduceCtorEq,Tavocetref10_Env.d,List.length_map,c1,c2,c3,c4,show ¬(70:Int)<e.types.length by omega,show ¬(130:Int)<e.funcs.length by omega,show ¬(70:Int)<e.globals.length by omega,show(100:Int)<e.locals.length by omega]
   ·simp only[go_sem,seval, -Nat.reduceSubDiff,↓reduceIte,reduceCtorEq,Tavocetref10_Env.d,List.length_map,c1,c2,c3,show ¬(70:Int)<e.types.length by omega,show ¬(130:Int)<e.funcs.length by omega,show(70:Int)<e.globals.length by omega]
  ·simp only[go_sem,seval, -Nat.reduceSubDiff,↓reduceIte,reduceCtorEq,Tavocetref10_Env.d,List.length_map,c1,c2,show ¬(70:Int)<e.types.length by omega,show(130:Int)<e.funcs.length by omega]
 ·simp only[go_sem,seval, -Nat.reduceSubDiff,↓reduceIte,reduceCtorEq,Tavocetref10_Env.d,List.length_map,c1,show(70:Int)<e.types.length by omega]
theorem among_ev (fu n:Nat) (v:Int) (l:List Int) (h:l.length<fu) (hs:l.length<1000000):evF (G fu) (n+1) 41 [.d (.int .i64 v), .d (.list (l.map (D.int .i64)))] []=some (.d (.bool (l.any (fun x=>decide (x=v)))),[]):=by
 rw[evF.eq_2,evX.eq_def,Gext,exts_no _ (f:=41) (by decide),GP,Tryz.func41];simp only[Tryz.f41,evB]
 simp only[go_sem,seval, -Nat.reduceSubDiff,↓reduceIte,reduceCtorEq]
 rw[loop_scan l.length (fun k=>⟨[(0, .d (.int .i64 v)),(1, .d (.list (l.map (D.int .i64)))),(5, .d (.int .i64 k))],[]⟩) (fun k=>decide (l.getD k 0=v)) (fun _=>(.ret,⟨[(4, .d (.bool true))],[]⟩)) (.exit 0,⟨[],[]⟩) h (fun _=>trivial) trivial ?_]
 case hs=>
  intro k hk
  have hx:(l.map (D.int .i64))[k]? =some (.int .i64 (l.getD k 0)):=getD_map hk
  have hkI:(k:Int)<l.length:=by omega
  have W:=wrap_i64 (show-9223372036854775808≤(k:Int)+1 by omega) (by omega)
  generalize l.getD k 0=y at*
  by_cases c:y=v
  ·simp only[go_sem,seval, -Nat.reduceSubDiff,↓reduceIte,reduceCtorEq,List.length_map,hkI,idx,hx,c,W]
  ·simp only[go_sem,seval, -Nat.reduceSubDiff,↓reduceIte,reduceCtorEq,List.length_map,hkI,idx,hx,c,W]
   rfl
 case he=>simp only[go_sem,seval, -Nat.reduceSubDiff,↓reduceIte,reduceCtorEq,List.length_map,Int.lt_irrefl]
 ·rw[scan_list (p:=fun x=>decide (x=v))]
  cases l.any (fun x=>decide (x=v))<;>simp only[go_sem,seval, -Nat.reduceSubDiff,↓reduceIte,reduceCtorEq]
 ·rfl
end Go.Proofs.YtfpioigggjnffaaGreatDoor.E
set_option autoImplicit false
set_option maxRecDepth 100000
set_option maxHeartbeats 4000000
namespace Go.Proofs.YtfpioigggjnffaaGreatDoor.E
open Go.Ev
theorem awake12_ev (k n:Nat):evF (G (k+6000)) (n+20) 27 [] []=some (.d (.bool true),[]):=by kernel_rfl
end Go.Proofs.YtfpioigggjnffaaGreatDoor.E
