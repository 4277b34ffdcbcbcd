/- Z2, S3, S4, S5, S6. -/
import Derived.Test.YtfpioigggjnffaaGreatDoorEvL
import Derived.Test.YtfpioigggjnffaaGreatDoorF6
import Derived.Test.YtfpioigggjnffaaGreatDoorN3
import Derived.Test.YtfpioigggjnffaaGreatDoorEvD
import Derived.Test.YtfpioigggjnffaaGreatDoorQ13
set_option linter.unnecessarySimpa false
set_option linter.unusedSimpArgs false
set_option linter.unusedVariables false
set_option autoImplicit false
namespace Go.Proofs.YtfpioigggjnffaaGreatDoor.E
open Go.Ev
def innerC (s:Stk) (n:Nat):Ctl:=s.ctrls.getD (s.ctrls.length-1-n) ctl0
def at0 (S:List Int) (k:Nat):Int:=S.getD k 0
def branchJ (l:List TInstr) (S:List Int) (P:List Stk) (k:Nat) (lab:Int):Jmp:=
 let c:=innerC (P.getD k stk0) lab.toNat
 let t:=(targetF l k lab).1
 if t=l.length then⟨at0 S k,at0 S t.toNat,c.ht,c.fin.length⟩
 else if (l.getD t.toNat in0).op=3 then⟨at0 S k,at0 S t.toNat,c.ht,0⟩
 else⟨at0 S k,at0 S (t.toNat+1),c.ht,c.fin.length⟩
def elseTo (m:Nest):Int:=if m.1<0 then m.2 else m.1
def stepJ (l:List TInstr) (S:List Int) (P:List Stk) (k:Nat):List Jmp:=
 let i:=l.getD k in0
 let m:=(matchesF l).getD k n0
 if i.op=4 then[⟨at0 S k,at0 S ((elseTo m).toNat+1),(innerC (P.getD (k+1) stk0) 0).ht,0⟩]
 else if i.op=5 then[⟨at0 S k,at0 S (m.2.toNat+1),(innerC (P.getD k stk0) 0).ht+(innerC (P.getD k stk0) 0).fin.length,0⟩]
 else if i.op=12∨i.op=13 then[branchJ l S P k i.a]
 else if i.op=14 then i.labels.map (branchJ l S P k)++[branchJ l S P k i.a]
 else[]
def stepL (l:List TInstr) (S:List Int) (k:Nat):List Int:=if (l.getD k in0).op=3 then[at0 S k] else[]
def jumpsTo (l:List TInstr) (S:List Int) (P:List Stk):Nat→List Jmp
 |0=>[]
 |k+1=>jumpsTo l S P k++stepJ l S P k
def loopsTo (l:List TInstr) (S:List Int):Nat→List Int
 |0=>[]
 |k+1=>loopsTo l S k++stepL l S k
theorem stepJ_at (l:List TInstr) (S:List Int) (P:List Stk) (k:Nat): ∀j∈stepJ l S P k,j.at_=at0 S k:=by
 have hb: ∀lab,(branchJ l S P k lab).at_=at0 S k:=by
  intro lab
  unfold branchJ
  simp only
  split
  ·rfl
  ·split<;>rfl
 intro j hj
 unfold stepJ at hj
 simp only at hj
 split at hj
 ·simp only[List.mem_singleton] at hj;subst hj;rfl
 ·split at hj
  ·simp only[List.mem_singleton] at hj;subst hj;rfl
  ·split at hj
   ·simp only[List.mem_singleton] at hj;subst hj;exact hb _
   ·split at hj
    ·rcases List.mem_append.1 hj with h|h
     ·obtain⟨x,_,rfl⟩:=List.mem_map.1 h
      exact hb _
     ·simp only[List.mem_singleton] at h;subst h;exact hb _
    ·cases hj
theorem rises_iff {l:List Jmp}:Rises l↔l.Pairwise (fun a b=>a.at_≤b.at_):=by
 rw[List.pairwise_iff_getElem]
 constructor
 ·intro h i j hi hj hij
  have:=h i j (by omega) hj
  simpa[hi,hj] using this
 ·intro h i j hij hj
  by_cases e:i=j
  ·subst e;exact Int.le_refl _
  ·have hi:i<l.length:=by omega
   have:=h i j hi hj (by omega)
   simpa[hi,hj] using this
theorem jumps_rise {l:List TInstr} {S:List Int} {P:List Stk} (hS: ∀i j,i≤j→j<l.length→at0 S i≤at0 S j): ∀k,k≤l.length→(jumpsTo l S P k).Pairwise (fun a b=>a.at_≤b.at_)∧∀j∈jumpsTo l S P k,∃i,i<k∧j.at_=at0 S i
 |0,_=>⟨List.Pairwise.nil,fun j hj=>by cases hj⟩
 |k+1,hk=>by
  obtain⟨h1,h2⟩:=jumps_rise hS k (by omega)
  refine⟨?_,fun j hj=> ?_⟩
  ·rw[jumpsTo,List.pairwise_append]
   refine⟨h1, ?_,fun a ha b hb=> ?_⟩
   ·have hall:=stepJ_at l S P k
    generalize stepJ l S P k=s at hall
    induction s with
    |nil=>exact .nil
    |cons x s ih=>
     refine List.pairwise_cons.2 ⟨fun y hy=> ?_,ih fun j hj=>hall j (by simp[hj])⟩
     rw[hall x (by simp),hall y (by simp[hy])]
     exact Int.le_refl _
   ·obtain⟨i,hi,e⟩:=h2 a ha
    rw[e,stepJ_at l S P k b hb]
    exact hS i k (by omega) (by omega)
  ·rw[jumpsTo] at hj
   rcases List.mem_append.1 hj with h|h
   ·obtain⟨i,hi,e⟩:=h2 j h
    exact⟨i,by omega,e⟩
   ·exact⟨k,by omega,stepJ_at l S P k j h⟩
theorem match_open {l:List TInstr} (hw:walkOk l=true) {k:Nat} (hk:k<l.length) (ho:opensB (opAt l k)=true): ∃(e:Nat) (o:Int),(matchesF l).getD k n0=(o,(e:Int))∧k<e∧e<l.length∧(o= -1∨∃m:Nat,o=m∧k<m∧m<e):=by
 obtain⟨e,o,h1,h2,h3,_,h5⟩:=end_is hw hk ho
 rcases endF_range l hk with h|⟨e',o',q1,q2,q3,_,q5⟩
 ·rw[h1] at h;cases h
 ·rw[h1] at q1
  obtain⟨rfl,rfl⟩:e=e'∧o=o':=by
   have:=Prod.mk.inj q1
   exact⟨by omega,this.2⟩
  refine⟨e,o,h5,h2,h3, ?_⟩
  rcases q5 with h|⟨m,a,b,c,_⟩
  ·exact .inl h
  ·exact .inr ⟨m,a,b,c⟩
theorem match_els {l:List TInstr} (hw:walkOk l=true) {k:Nat} (hk:k<l.length) (h5:opAt l k=5): ∃e:Nat,(matchesF l).getD k n0=(-1,(e:Int))∧e<l.length∧k<e:=by
 obtain⟨j,hj,ho,h⟩:=used_all hw hk (.inl h5)
 obtain⟨e,o,h1,h2,h3,_,h4⟩:=end_is hw hj ho
 rcases endF_range l hj with hh|⟨e',o',q1,q2,q3,q4,q5⟩
 ·rw[h1] at hh;cases hh
 ·rw[h1] at q1
  obtain⟨rfl,rfl⟩:e=e'∧o=o':=by
   have:=Prod.mk.inj q1
   exact⟨by omega,this.2⟩
  rw[h1] at h
  simp only at h
  rcases h with h|h
  ·have:e=k:=by omega
   subst this
   rw[h5] at q4;cases q4
  ·subst h
   refine⟨e,match_else hw hj ho h1,h3, ?_⟩
   rcases q5 with h|⟨m,a,b,c,_⟩
   ·omega
   ·omega
theorem tgt_range {l:List TInstr} (hw:walkOk l=true) (a:Int): ∀(j:Nat),j≤l.length→∀left,0≤(tgtGo l (matchesF l) a j left).1∧(tgtGo l (matchesF l) a j left).1≤l.length
 |0,_,left=>by
  rw[tgtGo]
  split
  ·simp
  ·simp
 |j+1,hj,left=>by
  rw[tgtGo]
  split
  ·exact tgt_range hw a j (by omega) left
  ·split
   ·exact tgt_range hw a j (by omega) (left-1)
   ·split
    ·simp only;omega
    ·rename_i h _ _
     have ho:opensB (opAt l j)=true:=by
      by_cases hb:opensB (l.getD j in0).op=true
      ·exact hb
      ·exact absurd (.inl (by simpa using hb)) h
     obtain⟨e,o,h1,h2,h3,_⟩:=match_open hw (k:=j) (by omega) ho
     rw[h1]
     simp only;omega
theorem target_range {l:List TInstr} (hw:walkOk l=true) (a lab:Int):0≤(targetF l a lab).1∧(targetF l a lab).1≤l.length:=by
 unfold targetF
 split
 ·simp
 ·rename_i h
  exact tgt_range hw a _ (by omega) _
end Go.Proofs.YtfpioigggjnffaaGreatDoor.E
set_option autoImplicit false
set_option maxRecDepth 100000
set_option maxHeartbeats 4000000
set_option pp.maxSteps 20000
namespace Go.Proofs.YtfpioigggjnffaaGreatDoor.E
open Go.Ev
theorem inner_ev (fu n:Nat) (s:Stk) (k:Nat) (hk:k<s.ctrls.length) (hl:s.ctrls.length<1000000):evF (G fu) (n+1) 136 [.d s.dd, .d (.int .i64 k)] []=some (.d (s.ctrls.getD (s.ctrls.length-1-k) ctl0).dd,[]):=by
 have hx:(ctlds s.ctrls)[s.ctrls.length-1-k]? =some (s.ctrls.getD (s.ctrls.length-1-k) ctl0).dd:=getD_map (by omega)
 have W1:=wrap_i64 (show-9223372036854775808≤(s.ctrls.length:Int)-1 by omega) (by omega)
 have W2:IntKind.wrap .i64 ((s.ctrls.length:Int)-1-k)=((s.ctrls.length-1-k:Nat):Int):=by rw[wrap_i64 (by omega) (by omega)];omega
 have hlt:((s.ctrls.length-1-k:Nat):Int)<s.ctrls.length:=by omega
 generalize s.ctrls.getD (s.ctrls.length-1-k) ctl0=c at*
 simp only[Ctl.dd] at hx
 rw[evF.eq_2,evX.eq_def,Gext,exts_no _ (f:=136) (by decide),GP,Tryz.func136];simp only[Tryz.f136,evB]
 simp only[go_sem,seval, -Nat.reduceSubDiff,↓reduceIte,reduceCtorEq,Stk.dd,Ctl.dd,ctlds_len,W1,W2,hlt,idx,hx]
structure Mk where
 S:List Int
 l:List TInstr
 M:List Nest
 P:List Stk
abbrev intd (l:List Int):List D:=l.map (D.int .i64)
def Mk.tl (m:Mk):List Go.Ev.Obj:=[.row 5 (m.l.map TInstr.d) 0 true false, .row 2 (m.M.map nestD) 0 false false, .row 2 (stkds m.P) 0 false false]
def Mk.o (m:Mk):Option (List Jmp)→Option (List Int)→List Go.Ev.Obj
 |none,none=>[.cells [.row 1 0 0 m.S.length, .nilsl, .nilsl, .nilsl, .row 2 0 0 m.l.length, .row 3 0 0 m.M.length, .row 4 0 0 m.P.length], .row 1 (intd m.S) 0 false false]++m.tl
 |some j,none=>[.cells [.row 1 0 0 m.S.length, .row 2 0 0 j.length, .nilsl, .nilsl, .row 3 0 0 m.l.length, .row 4 0 0 m.M.length, .row 5 0 0 m.P.length], .row 1 (intd m.S) 0 false false, .row 4 (jds j) 0 false false]++m.tl
 |none,some L=>[.cells [.row 1 0 0 m.S.length, .nilsl, .row 2 0 0 L.length, .nilsl, .row 3 0 0 m.l.length, .row 4 0 0 m.M.length, .row 5 0 0 m.P.length], .row 1 (intd m.S) 0 false false, .row 1 (intd L) 0 false false]++m.tl
 |some j,some L=>[.cells [.row 1 0 0 m.S.length, .row 2 0 0 j.length, .row 3 0 0 L.length, .nilsl, .row 4 0 0 m.l.length, .row 5 0 0 m.M.length, .row 6 0 0 m.P.length], .row 1 (intd m.S) 0 false false, .row 4 (jds j) 0 false false, .row 1 (intd L) 0 false false]++m.tl
def Mk.oJ (m:Mk) (js:List Jmp):Option (List Jmp)→Option (List Int)→List Go.Ev.Obj
 |none,none=>[.cells [.row 1 0 0 m.S.length, .row 5 0 0 js.length, .nilsl, .nilsl, .row 2 0 0 m.l.length, .row 3 0 0 m.M.length, .row 4 0 0 m.P.length], .row 1 (intd m.S) 0 false false]++m.tl++[.row 4 (jds js) 0 false false]
 |some j,none=>[.cells [.row 1 0 0 m.S.length, .row 2 0 0 (j++js).length, .nilsl, .nilsl, .row 3 0 0 m.l.length, .row 4 0 0 m.M.length, .row 5 0 0 m.P.length], .row 1 (intd m.S) 0 false false, .row 4 (jds (j++js)) 0 false true]++m.tl
 |none,some L=>[.cells [.row 1 0 0 m.S.length, .row 6 0 0 js.length, .row 2 0 0 L.length, .nilsl, .row 3 0 0 m.l.length, .row 4 0 0 m.M.length, .row 5 0 0 m.P.length], .row 1 (intd m.S) 0 false false, .row 1 (intd L) 0 false false]++m.tl++[.row 4 (jds js) 0 false false]
 |some j,some L=>[.cells [.row 1 0 0 m.S.length, .row 2 0 0 (j++js).length, .row 3 0 0 L.length, .nilsl, .row 4 0 0 m.l.length, .row 5 0 0 m.M.length, .row 6 0 0 m.P.length], .row 1 (intd m.S) 0 false false, .row 4 (jds (j++js)) 0 false true, .row 1 (intd L) 0 false false]++m.tl
theorem jump_ev (fu n:Nat) (m:Mk) (J:Option (List Jmp)) (L:Option (List Int)) (k to:Nat) (h a:Int) (hk:k<m.S.length) (ht:to<m.S.length) (hj: ∀j,J=some j→j.length<1000000):
 evF (G fu) (n+1) 135 [.ptr 0 0, .d (.int .i64 k), .d (.int .i64 to), .d (.int .i64 h), .d (.int .i64 a)] (m.o J L)=some (.tup [],m.oJ [⟨at0 m.S k,at0 m.S to,h,a⟩] J L):=by
 have hx:(intd m.S)[k]? =some (.int .i64 (at0 m.S k)):=getD_map hk
 have hy:(intd m.S)[to]? =some (.int .i64 (at0 m.S to)):=getD_map ht
 have hkI:(k:Int)<m.S.length:=by omega
 have htI:(to:Int)<m.S.length:=by omega
 generalize at0 m.S k=x at*
 generalize at0 m.S to=y at*
 have z1:sizedAll 4 [D.agg [D.int .i64 x,D.int .i64 y,D.int .i64 h,D.int .i64 a]]=true:=rfl
 rw[evF.eq_2,evX.eq_def,Gext,exts_no _ (f:=135) (by decide),GP,Tryz.func135];simp only[Tryz.f135,evB]
 cases J with
 |none=>
  cases L
  all_goals
   simp only[go_sem,seval, -Nat.reduceSubDiff,↓reduceIte,reduceCtorEq,Mk.o,Mk.oJ,Mk.tl,List.cons_append,List.nil_append,hkI,htI,hx,hy,z1]
   (rw[cond_free];rotate_left;·rfl)
   simp only[go_sem,seval, -Nat.reduceSubDiff,↓reduceIte,reduceCtorEq,Mk.o,Mk.oJ,Mk.tl,List.cons_append,List.nil_append,Jmp.dd]
 |some j=>
  have hr:j.length+1≤1099511627776:=by have:=hj j rfl;omega
  have tk:(jds j).take j.length=jds j:=List.take_of_length_le (by simp)
  have ct:jds j++[D.agg [D.int .i64 x,D.int .i64 y,D.int .i64 h,D.int .i64 a]]=jds (j++[⟨x,y,h,a⟩]):=by simp[jds,Jmp.dd]
  have cl:(j++[(⟨x,y,h,a⟩:Jmp)]).length=j.length+1:=by simp
  cases L
  all_goals
   simp only[go_sem,seval, -Nat.reduceSubDiff,↓reduceIte,reduceCtorEq,Mk.o,Mk.oJ,Mk.tl,List.cons_append,List.nil_append,hkI,htI,hx,hy,z1,hr,tk,ct,cl]
   (rw[cond_free];rotate_left;·rfl)
   simp only[go_sem,seval, -Nat.reduceSubDiff,↓reduceIte,reduceCtorEq,Mk.o,Mk.oJ,Mk.tl,List.cons_append,List.nil_append]
end Go.Proofs.YtfpioigggjnffaaGreatDoor.E
set_option autoImplicit false
set_option maxRecDepth 100000
set_option maxHeartbeats 4000000
set_option pp.maxSteps 20000
namespace Go.Proofs.YtfpioigggjnffaaGreatDoor.E
open Go.Ev
structure MkOk (fu:Nat) (m:Mk):Prop where
 walk:walkOk m.l=true
 S:m.S.length=m.l.length+1
 P:m.P.length=m.l.length+1
 M:m.M=matchesF m.l
 short:m.l.length<fu∧m.l.length<100000
 ctrls: ∀s∈m.P,s.ctrls.length<1000000
 big:21<fu
theorem MkOk.at {fu:Nat} {m:Mk} (h:MkOk fu m) {k:Nat} (hk:k≤m.l.length):(stkds m.P)[k]? =some (m.P.getD k stk0).dd∧(m.P.getD k stk0).ctrls.length<1000000:=by
 have hlt:k<m.P.length:=by rw[h.P];omega
 refine⟨getD_map hlt,h.ctrls _ ?_⟩
 rw[List.getD_eq_getElem?_getD,List.getElem?_eq_getElem hlt]
 exact List.getElem_mem hlt
theorem branch_ev (fu n:Nat) (m:Mk) (hm:MkOk fu m) (J:Option (List Jmp)) (L:Option (List Int)) (k lab:Nat) (hk:k<m.l.length) (hl:lab<(m.P.getD k stk0).ctrls.length) (hj: ∀j,J=some j→j.length<1000000):
 evF (G fu) (n+7) 137 [.ptr 0 0, .d (.int .i64 k), .d (.int .i64 lab)] (m.o J L)=some (.tup [],m.oJ [branchJ m.l m.S m.P k lab] J L):=by
 obtain⟨hp,hpc⟩:=hm.at (k:=k) (by omega)
 have I:=inner_ev fu (n+5) (m.P.getD k stk0) lab hl hpc
 have T:=target_ev fu n m.l k lab (by omega) hm.big hm.short.1 hm.short.2
 obtain⟨r1,r2⟩:=target_range hm.walk k lab
 obtain⟨t,ht⟩: ∃t:Nat,(targetF m.l k lab).1=t:=⟨(targetF m.l k lab).1.toNat,by omega⟩
 have JE:=fun to ha=>jump_ev fu (n+5) m J L k to ((m.P.getD k stk0).ctrls.getD ((m.P.getD k stk0).ctrls.length-1-lab) ctl0).ht ha (by rw[hm.S];omega)
 have hB:branchJ m.l m.S m.P k lab=if (t:Int)=m.l.length then⟨at0 m.S k,at0 m.S t,(innerC (m.P.getD k stk0) lab).ht,(innerC (m.P.getD k stk0) lab).fin.length⟩
  else if (m.l.getD t in0).op=3 then⟨at0 m.S k,at0 m.S t,(innerC (m.P.getD k stk0) lab).ht,0⟩ else⟨at0 m.S k,at0 m.S (t+1),(innerC (m.P.getD k stk0) lab).ht,(innerC (m.P.getD k stk0) lab).fin.length⟩:=by
  unfold branchJ
  simp only[ht,Int.toNat_natCast]
 rw[ht] at T r2
 have hkI:(k:Int)<m.P.length:=by rw[hm.P];omega
 have hil:List.length (List.map TInstr.d m.l)=m.l.length:=List.length_map ..
 have tkl:(m.l.map TInstr.d).take m.l.length=m.l.map TInstr.d:=List.take_of_length_le (by simp)
 rw[hB]
 unfold innerC
 generalize(targetF m.l k lab).2=tb at*
 generalize(m.P.getD k stk0).ctrls.getD ((m.P.getD k stk0).ctrls.length-1-lab) ctl0=c at*
 generalize m.P.getD k stk0=s at*
 simp only[Stk.dd,Ctl.dd] at hp I
 rw[evF.eq_2,evX.eq_def,Gext,exts_no _ (f:=137) (by decide),GP,Tryz.func137];simp only[Tryz.f137,evB]
 have hsh:=hm.short.2
 cases J<;>cases L
 all_goals
  by_cases c1:t=m.l.length
  ·subst c1
   have JX:=JE m.l.length c.fin.length (by rw[hm.S];omega) hj
   simp only[Mk.o,Mk.oJ,Mk.tl,List.cons_append,List.nil_append] at JX
   simp only[go_sem,seval, -Nat.reduceSubDiff,↓reduceIte,reduceCtorEq,Mk.o,Mk.oJ,Mk.tl,List.cons_append,List.nil_append,hkI,hp,I,T,hil,tkl,byt_len,JX]
  ·have hti: ¬(t:Int)=m.l.length:=by omega
   have htl:(t:Int)<m.l.length:=by omega
   have hx:(m.l.map TInstr.d)[t]? =some (m.l.getD t in0).d:=getD_map (by omega)
   generalize m.l.getD t in0=i at*
   simp only[TInstr.d] at hx
   by_cases c2:i.op=3
   ·have JX:=JE t 0 (by rw[hm.S];omega) hj
    simp only[Mk.o,Mk.oJ,Mk.tl,List.cons_append,List.nil_append] at JX
    simp only[c2] at hx
    simp only[go_sem,seval, -Nat.reduceSubDiff,↓reduceIte,reduceCtorEq,Mk.o,Mk.oJ,Mk.tl,List.cons_append,List.nil_append,hkI,hp,I,T,hil,tkl,hti,htl,hx,c2,byt_len,JX]
   ·have JX:=JE (t+1) c.fin.length (by rw[hm.S];omega) hj
    have W:=wrap_i64 (show-9223372036854775808≤(t:Int)+1 by omega) (by omega)
    have e1:((t+1:Nat):Int)=(t:Int)+1:=by omega
    rw[e1] at JX
    simp only[Mk.o,Mk.oJ,Mk.tl,List.cons_append,List.nil_append] at JX
    simp only[go_sem,seval, -Nat.reduceSubDiff,↓reduceIte,reduceCtorEq,Mk.o,Mk.oJ,Mk.tl,List.cons_append,List.nil_append,hkI,hp,I,T,hil,tkl,hti,htl,hx,c2,byt_len,W,JX]
end Go.Proofs.YtfpioigggjnffaaGreatDoor.E
set_option autoImplicit false
set_option maxRecDepth 100000
set_option maxHeartbeats 4000000
set_option pp.maxSteps 20000
namespace Go.Proofs.YtfpioigggjnffaaGreatDoor.E
open Go.Ev
def Mk.oL (m:Mk) (x:Int):Option (List Jmp)→Option (List Int)→List Go.Ev.Obj
 |none,none=>[.cells [.row 1 0 0 m.S.length, .nilsl, .row 5 0 0 1, .nilsl, .row 2 0 0 m.l.length, .row 3 0 0 m.M.length, .row 4 0 0 m.P.length], .row 1 (intd m.S) 0 false false]++m.tl++[.row 1 (intd [x]) 0 false false]
 |some j,none=>[.cells [.row 1 0 0 m.S.length, .row 2 0 0 j.length, .row 6 0 0 1, .nilsl, .row 3 0 0 m.l.length, .row 4 0 0 m.M.length, .row 5 0 0 m.P.length], .row 1 (intd m.S) 0 false false, .row 4 (jds j) 0 false false]++m.tl++[.row 1 (intd [x]) 0 false false]
 |none,some L=>[.cells [.row 1 0 0 m.S.length, .nilsl, .row 2 0 0 (L++[x]).length, .nilsl, .row 3 0 0 m.l.length, .row 4 0 0 m.M.length, .row 5 0 0 m.P.length], .row 1 (intd m.S) 0 false false, .row 1 (intd (L++[x])) 0 false true]++m.tl
 |some j,some L=>[.cells [.row 1 0 0 m.S.length, .row 2 0 0 j.length, .row 3 0 0 (L++[x]).length, .nilsl, .row 4 0 0 m.l.length, .row 5 0 0 m.M.length, .row 6 0 0 m.P.length], .row 1 (intd m.S) 0 false false, .row 4 (jds j) 0 false false, .row 1 (intd (L++[x])) 0 false true]++m.tl
theorem szi (v:Int):sizedAll 1 [D.int .i64 v]=true:=rfl
theorem step3_ev (fu n:Nat) (m:Mk) (hm:MkOk fu m) (J:Option (List Jmp)) (L:Option (List Int)) (k:Nat) (hk:k<m.l.length) (i:TInstr) (hop:i.op=3) (hL: ∀j,L=some j→j.length<1000000):
 evF (G fu) (n+8) 74 [.ptr 0 0, .d (.int .i64 k), .d i.d] (m.o J L)=some (.tup [],m.oL (at0 m.S k) J L):=by
 have hx:(intd m.S)[k]? =some (.int .i64 (at0 m.S k)):=getD_map (by rw[hm.S];omega)
 have hkI:(k:Int)<m.S.length:=by rw[hm.S];omega
 generalize at0 m.S k=x at*
 rw[evF.eq_2,evX.eq_def,Gext,exts_no _ (f:=74) (by decide),GP,Tryz.func74];simp only[Tryz.f74,evB]
 cases L with
 |none=>
  cases J
  all_goals
   simp only[go_sem,seval, -Nat.reduceSubDiff,↓reduceIte,reduceCtorEq,TInstr.d,hop,Mk.o,Mk.oL,Mk.tl,List.cons_append,List.nil_append,hkI,hx,szi]
   (rw[cond_free];rotate_left;·rfl)
   simp only[go_sem,seval, -Nat.reduceSubDiff,↓reduceIte,reduceCtorEq,Mk.o,Mk.oL,Mk.tl,List.cons_append,List.nil_append]
 |some L=>
  have hr:L.length+1≤1099511627776:=by have:=hL L rfl;omega
  have tk:(intd L).take L.length=intd L:=List.take_of_length_le (by simp)
  have ct:intd L++[D.int .i64 x]=intd (L++[x]):=by simp[intd]
  have cl:(L++[x]).length=L.length+1:=by simp
  cases J
  all_goals
   simp only[go_sem,seval, -Nat.reduceSubDiff,↓reduceIte,reduceCtorEq,TInstr.d,hop,Mk.o,Mk.oL,Mk.tl,List.cons_append,List.nil_append,hkI,hx,szi,hr,tk,ct,cl]
   (rw[cond_free];rotate_left;·rfl)
   simp only[go_sem,seval, -Nat.reduceSubDiff,↓reduceIte,reduceCtorEq,Mk.o,Mk.oL,Mk.tl,List.cons_append,List.nil_append]
theorem step0_ev (fu n:Nat) (m:Mk) (J:Option (List Jmp)) (L:Option (List Int)) (k:Nat) (i:TInstr) (h3: ¬i.op=3) (h4: ¬i.op=4) (h5: ¬i.op=5) (h12: ¬i.op=12) (h13: ¬i.op=13) (h14: ¬i.op=14):
 evF (G fu) (n+8) 74 [.ptr 0 0, .d (.int .i64 k), .d i.d] (m.o J L)=some (.tup [],m.o J L):=by
 rw[evF.eq_2,evX.eq_def,Gext,exts_no _ (f:=74) (by decide),GP,Tryz.func74];simp only[Tryz.f74,evB]
 cases J<;>cases L
 all_goals simp only[go_sem,seval, -Nat.reduceSubDiff,↓reduceIte,reduceCtorEq,TInstr.d,h3,h4,h5,h12,h13,h14,Mk.o,Mk.tl,List.cons_append,List.nil_append]
theorem step12_ev (fu n:Nat) (m:Mk) (hm:MkOk fu m) (J:Option (List Jmp)) (L:Option (List Int)) (k:Nat) (hk:k<m.l.length) (i:TInstr) (hop:i.op=12∨i.op=13) (lab:Nat) (ha:i.a=lab) (hl:lab<(m.P.getD k stk0).ctrls.length) (hj: ∀j,J=some j→j.length<1000000):
 evF (G fu) (n+8) 74 [.ptr 0 0, .d (.int .i64 k), .d i.d] (m.o J L)=some (.tup [],m.oJ [branchJ m.l m.S m.P k i.a] J L):=by
 have B:=branch_ev fu n m hm J L k lab hk hl hj
 rw[ha]
 generalize branchJ m.l m.S m.P k lab=b at*
 rw[evF.eq_2,evX.eq_def,Gext,exts_no _ (f:=74) (by decide),GP,Tryz.func74];simp only[Tryz.f74,evB]
 rcases hop with h|h
 all_goals
  cases J<;>cases L
  all_goals
   simp only[Mk.o,Mk.oJ,Mk.tl,List.cons_append,List.nil_append] at B
   simp only[go_sem,seval, -Nat.reduceSubDiff,↓reduceIte,reduceCtorEq,TInstr.d,h,ha,Mk.o,Mk.oJ,Mk.tl,List.cons_append,List.nil_append,B]
end Go.Proofs.YtfpioigggjnffaaGreatDoor.E
set_option autoImplicit false
set_option maxRecDepth 100000
set_option maxHeartbeats 4000000
set_option pp.maxSteps 20000
namespace Go.Proofs.YtfpioigggjnffaaGreatDoor.E
open Go.Ev
theorem step4_ev (fu n:Nat) (m:Mk) (hm:MkOk fu m) (J:Option (List Jmp)) (L:Option (List Int)) (k:Nat) (hk:k<m.l.length) (hop:(m.l.getD k in0).op=4) (hc:0<(m.P.getD (k+1) stk0).ctrls.length) (hj: ∀j,J=some j→j.length<1000000):
 evF (G fu) (n+8) 74 [.ptr 0 0, .d (.int .i64 k), .d (m.l.getD k in0).d] (m.o J L)=some (.tup [],m.oJ (stepJ m.l m.S m.P k) J L):=by
 obtain⟨hp,hpc⟩:=hm.at (k:=k+1) (by omega)
 obtain⟨e,o,he,h1,h2,h3⟩:=match_open hm.walk hk (show opensB (opAt m.l k)=true by show opensB (m.l.getD k in0).op=true;rw[hop];rfl)
 obtain⟨t,ht,htl⟩: ∃t:Nat,elseTo (o,(e:Int))=t∧t<m.l.length:=by
  unfold elseTo
  rcases h3 with rfl|⟨q,rfl,q1,q2⟩
  ·exact⟨e,by simp,h2⟩
  ·exact⟨q,by simp only;rw[if_neg (by omega)],by omega⟩
 have hmx:(m.M.map nestD)[k]? =some (.agg [.int .i64 o, .int .i64 e]):=by
  have:(m.M.map nestD)[k]? =some (nestD (m.M.getD k n0)):=getD_map (by rw[hm.M,matchesF_len _ hm.walk];exact hk)
  rw[this,hm.M,he]
  rfl
 have hml:m.M.length=m.l.length:=by rw[hm.M,matchesF_len _ hm.walk]
 have I:=inner_ev fu (n+6) (m.P.getD (k+1) stk0) 0 hc hpc
 rw[show((0:Nat):Int)=0 from rfl] at I
 have JE:=jump_ev fu (n+6) m J L k (t+1) (innerC (m.P.getD (k+1) stk0) 0).ht 0 (by rw[hm.S];omega) (by rw[hm.S];omega) hj
 have hS:stepJ m.l m.S m.P k=[⟨at0 m.S k,at0 m.S (t+1),(innerC (m.P.getD (k+1) stk0) 0).ht,0⟩]:=by
  unfold stepJ
  simp only
  rw[if_pos hop,he,ht]
  simp only[Int.toNat_natCast]
 rw[hS]
 have hsh:=hm.short.2
 have hkI:(k:Int)<m.M.length:=by rw[hml];omega
 have hkP:(k:Int)+1<m.P.length:=by rw[hm.P];omega
 have hk1:((k+1:Nat):Int)=(k:Int)+1:=by omega
 have W1:=wrap_i64 (show-9223372036854775808≤(k:Int)+1 by omega) (by omega)
 have W2:=wrap_i64 (show-9223372036854775808≤(t:Int)+1 by omega) (by omega)
 have e1:((t+1:Nat):Int)=(t:Int)+1:=by omega
 rw[e1] at JE
 unfold innerC at*
 generalize(m.P.getD (k+1) stk0).ctrls.getD ((m.P.getD (k+1) stk0).ctrls.length-1-0) ctl0=c at*
 generalize m.P.getD (k+1) stk0=s at*
 generalize m.l.getD k in0=i at*
 have hk0: ¬(k:Int)+1<0:=by omega
 have hge:(0:Int)≤(k:Int)+1:=by omega
 have hkn:0+((k:Int)+1).toNat=k+1:=by omega
 have hkn2:((k:Int)+1).toNat=k+1:=by omega
 simp only[Stk.dd,Ctl.dd] at hp I
 unfold elseTo at ht
 simp only at ht
 rw[evF.eq_2,evX.eq_def,Gext,exts_no _ (f:=74) (by decide),GP,Tryz.func74];simp only[Tryz.f74,evB]
 by_cases ho:o<0
 ·rw[if_pos ho] at ht
  cases J<;>cases L
  all_goals
   simp only[Mk.o,Mk.oJ,Mk.tl,List.cons_append,List.nil_append] at JE
   simp only[go_sem,seval, -Nat.reduceSubDiff,↓reduceIte,reduceCtorEq,TInstr.d,hop,Mk.o,Mk.oJ,Mk.tl,List.cons_append,List.nil_append,hkI,hmx,ho,ht,W1,W2,hkP,hge,hkn,hkn2,hp,I,JE]
 ·rw[if_neg ho] at ht
  have htn: ¬(t:Int)<0:=by omega
  cases J<;>cases L
  all_goals
   simp only[Mk.o,Mk.oJ,Mk.tl,List.cons_append,List.nil_append] at JE
   simp only[go_sem,seval, -Nat.reduceSubDiff,↓reduceIte,reduceCtorEq,TInstr.d,hop,Mk.o,Mk.oJ,Mk.tl,List.cons_append,List.nil_append,hkI,hmx,htn,ht,W1,W2,hkP,hge,hkn,hkn2,hp,I,JE]
theorem step5_ev (fu n:Nat) (m:Mk) (hm:MkOk fu m) (J:Option (List Jmp)) (L:Option (List Int)) (k:Nat) (hk:k<m.l.length) (hop:(m.l.getD k in0).op=5) (hc:0<(m.P.getD k stk0).ctrls.length) (hcw: ∀c∈(m.P.getD k stk0).ctrls, -9223372036854000000≤c.ht∧c.ht≤9223372036854000000∧c.fin.length≤1) (hj: ∀j,J=some j→j.length<1000000):
 evF (G fu) (n+8) 74 [.ptr 0 0, .d (.int .i64 k), .d (m.l.getD k in0).d] (m.o J L)=some (.tup [],m.oJ (stepJ m.l m.S m.P k) J L):=by
 obtain⟨hp,hpc⟩:=hm.at (k:=k) (by omega)
 obtain⟨e,he,h2,h1⟩:=match_els hm.walk hk hop
 have hmx:(m.M.map nestD)[k]? =some (.agg [.int .i64 (-1), .int .i64 e]):=by
  have:(m.M.map nestD)[k]? =some (nestD (m.M.getD k n0)):=getD_map (by rw[hm.M,matchesF_len _ hm.walk];exact hk)
  rw[this,hm.M,he]
  rfl
 have hml:m.M.length=m.l.length:=by rw[hm.M,matchesF_len _ hm.walk]
 have I:=inner_ev fu (n+6) (m.P.getD k stk0) 0 hc hpc
 rw[show((0:Nat):Int)=0 from rfl] at I
 have JE:=jump_ev fu (n+6) m J L k (e+1) ((innerC (m.P.getD k stk0) 0).ht+(innerC (m.P.getD k stk0) 0).fin.length) 0 (by rw[hm.S];omega) (by rw[hm.S];omega) hj
 have hS:stepJ m.l m.S m.P k=[⟨at0 m.S k,at0 m.S (e+1),(innerC (m.P.getD k stk0) 0).ht+(innerC (m.P.getD k stk0) 0).fin.length,0⟩]:=by
  unfold stepJ
  simp only
  rw[if_neg (by rw[hop];decide),if_pos hop,he]
  simp only[Int.toNat_natCast]
 rw[hS]
 have hsh:=hm.short.2
 have hkI:(k:Int)<m.M.length:=by rw[hml];omega
 have hkP:(k:Int)<m.P.length:=by rw[hm.P];omega
 have W2:=wrap_i64 (show-9223372036854775808≤(e:Int)+1 by omega) (by omega)
 have e1:((e+1:Nat):Int)=(e:Int)+1:=by omega
 rw[e1] at JE
 have gm: ∀(q:List Ctl),0<q.length→q.getD (q.length-1-0) ctl0∈q:=fun q hq=>by
  have hlt:q.length-1-0<q.length:=by omega
  rw[List.getD_eq_getElem?_getD,List.getElem?_eq_getElem hlt]
  exact List.getElem_mem hlt
 have hcm:=gm _ hc
 obtain⟨w1,w2,w3⟩:=hcw _ hcm
 unfold innerC at*
 generalize(m.P.getD k stk0).ctrls.getD ((m.P.getD k stk0).ctrls.length-1-0) ctl0=c at*
 generalize m.P.getD k stk0=s at*
 generalize m.l.getD k in0=i at*
 have W3:=wrap_i64 (show-9223372036854775808≤c.ht+(c.fin.length:Int) by omega) (by omega)
 simp only[Stk.dd,Ctl.dd] at hp I
 rw[evF.eq_2,evX.eq_def,Gext,exts_no _ (f:=74) (by decide),GP,Tryz.func74];simp only[Tryz.f74,evB]
 cases J<;>cases L
 all_goals
  simp only[Mk.o,Mk.oJ,Mk.tl,List.cons_append,List.nil_append] at JE
  simp only[go_sem,seval, -Nat.reduceSubDiff,↓reduceIte,reduceCtorEq,TInstr.d,hop,Mk.o,Mk.oJ,Mk.tl,List.cons_append,List.nil_append,hkI,hmx,W2,hkP,hp,I,byt_len,W3,JE]
  (rw[cond_free];rotate_left;·rfl)
  simp only[go_sem,seval, -Nat.reduceSubDiff,↓reduceIte,reduceCtorEq]
end Go.Proofs.YtfpioigggjnffaaGreatDoor.E
