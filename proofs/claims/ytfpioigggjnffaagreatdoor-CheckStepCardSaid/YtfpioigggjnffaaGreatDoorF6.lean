/- F6, P06, F7, T06, T07, N1, N4, Q15. -/
import Derived.Test.YtfpioigggjnffaaGreatDoorF3
import Derived.Test.YtfpioigggjnffaaGreatDoorEvD
import Derived.Test.YtfpioigggjnffaaGreatDoorF1
import Derived.Test.YtfpioigggjnffaaGreatDoorQ14
set_option linter.unnecessarySimpa false
set_option linter.unusedSimpArgs false
set_option linter.unusedVariables false
set_option autoImplicit false
set_option maxRecDepth 100000
set_option maxHeartbeats 4000000
set_option pp.maxSteps 20000
namespace Go.Proofs.YtfpioigggjnffaaGreatDoor.E
open Go.Ev
theorem mul64_one (fu n:Nat) (c:Int) (h0:0≤c) (h1:c<4294967296):evF (G fu) (n+1) 212 [.d (.int .u64 1), .d (.int .u64 c)] []=some (.tup [.d (.int .u64 0), .d (.int .u64 c)],[]):=by
 have a1:c%4294967296=c:=Int.emod_eq_of_lt h0 h1
 have a2:c / 4294967296=0:=Int.ediv_eq_zero_of_lt h0 h1
 rw[evF.eq_2,evX.eq_def,Gext,exts_no _ (f:=212) (by decide),GP,Tryz.func212];simp only[Tryz.f212,evB]
 simp only[go_sem,Nat.reduceAdd,Nat.reduceMul,Nat.reduceSub,Nat.reduceLT,Nat.reduceLeDiff,Nat.reduceEqDiff,Nat.reduceBEq,Nat.reduceBeqDiff,Int.reduceEq,Int.reduceLT,Int.reduceLE,Int.reduceToNat,Int.reduceNeg,Int.reduceAdd,Int.reduceSub,Int.reduceMul,reduceIte,reduceCtorEq,Nat.reducePow,Nat.reduceDiv,Nat.reduceMod,Int.reduceBEq,and_mask32 (show(0:Int)≤1 by omega) (by omega),and_mask32 h0 (by omega),shr32,a1,a2,Int.one_mul,Int.zero_mul,Int.mul_zero,Int.zero_add,Int.add_zero,wrap_u64 h0 (by omega),show IntKind.wrap .u64 0=0 from rfl,show(1:Int)%4294967296=1 from rfl,show(1:Int) / 4294967296=0 from rfl,and_mask32 (show(0:Int)≤0 by omega) (by omega),show(0:Int)%4294967296=0 from rfl,show(0:Int) / 4294967296=0 from rfl]
theorem mul_one (fu n:Nat) (c:Int) (h0:0≤c) (h1:c<4294967296):evF (G fu) (n+2) 173 [.d (.int .u64 1), .d (.int .u64 c)] []=some (.tup [.d (.int .u64 0), .d (.int .u64 c)],[]):=by
 rw[evF.eq_2,evX.eq_def,Gext,exts_no _ (f:=173) (by decide),GP,Tryz.func173];simp only[Tryz.f173,evB]
 simp only[go_sem,Nat.reduceAdd,Nat.reduceMul,Nat.reduceSub,Nat.reduceLT,Nat.reduceLeDiff,Nat.reduceEqDiff,Nat.reduceBEq,Nat.reduceBeqDiff,Int.reduceEq,Int.reduceLT,Int.reduceLE,Int.reduceToNat,Int.reduceNeg,Int.reduceAdd,Int.reduceSub,Int.reduceMul,reduceIte,reduceCtorEq,Nat.reducePow,Nat.reduceDiv,Nat.reduceMod,Int.reduceBEq,mul64_one fu n c h0 h1]
def rep (N c:Nat) (x z:D):List D:=List.replicate c x++List.replicate (N-c) z
theorem rep_take {N c:Nat} {x z:D}:(rep N c x z).take c=List.replicate c x:=by simp[rep]
theorem rep_drop {N c n:Nat} {x z:D}:(rep N c x z).drop (c+n)=List.replicate (N-c-n) z:=by simp[rep,List.drop_append,Nat.sub_sub]
theorem rep_copy {N c n:Nat} {x z:D} (hn:n≤c) (h:c+n≤N):List.replicate c x++((List.replicate c x).take n++(rep N c x z).drop (c+n))=rep N (c+n) x z:=by
 rw[rep_drop,List.take_replicate,Nat.min_eq_left hn,←List.append_assoc,List.replicate_append_replicate]
 simp[rep,Nat.sub_sub]
theorem rep_one (N:Nat) (x z:D):List.take (min 1 N) [x]++List.drop (min 1 N) (List.replicate N z)=rep N (min 1 N) x z:=by
 cases N with
 |zero=>rfl
 |succ N=>
  have:min 1 (N+1)=1:=by omega
  rw[this]
  simp[rep]
theorem repeat_ev (fu n:Nat) (p:Nest) (N:Nat) (hN:N<100000) (hf:N<fu):evF (G fu) (n+3) 122 [.d (.list [nestD p]), .d (.int .i64 N)] []=some (.row 0 0 0 N,[.row 2 ((List.replicate N p).map nestD) 0 false false]):=by
 rw[evF.eq_2,evX.eq_def,Gext,exts_no _ (f:=122) (by decide),GP,Tryz.func122];simp only[Tryz.f122,evB]
 have h0: ¬((N:Int)<0):=by omega
 have h1: ¬((9223372036854775807:Int)<N):=by omega
 simp only[go_sem,Nat.reduceAdd,Nat.reduceMul,Nat.reduceSub,Nat.reduceLT,Nat.reduceLeDiff,Nat.reduceEqDiff,Nat.reduceBEq,Nat.reduceBeqDiff,Int.reduceEq,Int.reduceLT,Int.reduceLE,Int.reduceToNat,Int.reduceNeg,Int.reduceAdd,Int.reduceSub,Int.reduceMul,reduceIte,reduceCtorEq,Nat.reducePow,Nat.reduceDiv,Nat.reduceMod,Int.reduceBEq,nestD,h0,h1,wrap_u64 (show(0:Int)≤1 by omega) (by omega),wrap_u64 (show(0:Int)≤N by omega) (by omega),wrap_i64 (show-9223372036854775808≤(N:Int) by omega) (by omega),mul_one fu n N (by omega) (by omega),show N*17≤1099511627776 by omega]
 rw[rep_one]
 generalize hr:loopN _ _ _ _ _=r
 obtain⟨x,s1,rfl,hx,rfl,rfl⟩: ∃x s1,r=some (x,s1)∧leaves x∧(x= .exit 0∧s1=⟨[(7, .row 1984 0 0 N)],[(1984, .row 2 (rep N N (.agg [.int .i64 p.1, .int .i64 p.2]) (.agg [.int .i64 0, .int .i64 0])) 0 false false)]⟩):=by
  rw[←hr]
  refine loop_inv (J:=fun x s1=>(x= .exit 0∧s1=⟨[(7, .row 1984 0 0 N)],[(1984, .row 2 (rep N N (.agg [.int .i64 p.1, .int .i64 p.2]) (.agg [.int .i64 0, .int .i64 0])) 0 false false)]⟩))
   N (fun i z=> ∃c,min (i+1) N≤c∧c≤N∧z=⟨[(7, .row 1984 0 0 N),(8, .d (.int .i64 c))],[(1984, .row 2 (rep N c (.agg [.int .i64 p.1, .int .i64 p.2]) (.agg [.int .i64 0, .int .i64 0])) 0 false false)]⟩) ?_ ?_ fu _ hf ⟨min 1 N,by omega,by omega,rfl⟩
  ·rintro i z hi ⟨c,h2,h3,rfl⟩
   by_cases hc:c<N
   ·simp only[go_sem,Nat.reduceAdd,Nat.reduceMul,Nat.reduceSub,Nat.reduceLT,Nat.reduceLeDiff,Nat.reduceEqDiff,Nat.reduceBEq,Nat.reduceBeqDiff,Int.reduceEq,Int.reduceLT,Int.reduceLE,Int.reduceToNat,Int.reduceNeg,Int.reduceAdd,Int.reduceSub,Int.reduceMul,reduceIte,reduceCtorEq,Nat.reducePow,Nat.reduceDiv,Nat.reduceMod,Int.reduceBEq,Int.ofNat_lt,hc,show(0:Int)≤c by omega,show(c:Int)≤N by omega,Int.sub_zero,Int.le_refl,Int.toNat_sub,rep_take,sizedAll_rep (n:=c) (show cellsOkD 2 (.agg [.int .i64 p.1, .int .i64 p.2])=some [.int .i64 p.1, .int .i64 p.2] from rfl),List.length_replicate,rep_copy (show min c (N-c)≤c by omega) (show c+min c (N-c)≤N by omega),wrap_i64 (show-9223372036854775808≤(c:Int)+((min c (N-c):Nat):Int) by omega) (by omega)]
    rw[cond_free]
    ·simp only[go_sem,Nat.reduceAdd,Nat.reduceMul,Nat.reduceSub,Nat.reduceLT,Nat.reduceLeDiff,Nat.reduceEqDiff,Nat.reduceBEq,Nat.reduceBeqDiff,Int.reduceEq,Int.reduceLT,Int.reduceLE,Int.reduceToNat,Int.reduceNeg,Int.reduceAdd,Int.reduceSub,Int.reduceMul,reduceIte,reduceCtorEq,Nat.reducePow,Nat.reduceDiv,Nat.reduceMod,Int.reduceBEq]
     exact⟨.normal,_,rfl,c+min c (N-c),by omega,by omega,rfl⟩
    ·rfl
   ·obtain rfl:c=N:=by omega
    simp only[go_sem,Nat.reduceAdd,Nat.reduceMul,Nat.reduceSub,Nat.reduceLT,Nat.reduceLeDiff,Nat.reduceEqDiff,Nat.reduceBEq,Nat.reduceBeqDiff,Int.reduceEq,Int.reduceLT,Int.reduceLE,Int.reduceToNat,Int.reduceNeg,Int.reduceAdd,Int.reduceSub,Int.reduceMul,reduceIte,reduceCtorEq,Nat.reducePow,Nat.reduceDiv,Nat.reduceMod,Int.reduceBEq,Int.ofNat_lt,Nat.lt_irrefl]
    exact⟨_,_,rfl,rfl,rfl⟩
  ·rintro z ⟨c,h2,h3,rfl⟩
   obtain rfl:c=N:=by omega
   simp only[go_sem,Nat.reduceAdd,Nat.reduceMul,Nat.reduceSub,Nat.reduceLT,Nat.reduceLeDiff,Nat.reduceEqDiff,Nat.reduceBEq,Nat.reduceBeqDiff,Int.reduceEq,Int.reduceLT,Int.reduceLE,Int.reduceToNat,Int.reduceNeg,Int.reduceAdd,Int.reduceSub,Int.reduceMul,reduceIte,reduceCtorEq,Nat.reducePow,Nat.reduceDiv,Nat.reduceMod,Int.reduceBEq,Int.ofNat_lt,Nat.lt_irrefl]
   exact⟨_,_,rfl,trivial,rfl,rfl⟩
 simp only[go_sem,Nat.reduceAdd,Nat.reduceMul,Nat.reduceSub,Nat.reduceLT,Nat.reduceLeDiff,Nat.reduceEqDiff,Nat.reduceBEq,Nat.reduceBeqDiff,Int.reduceEq,Int.reduceLT,Int.reduceLE,Int.reduceToNat,Int.reduceNeg,Int.reduceAdd,Int.reduceSub,Int.reduceMul,reduceIte,reduceCtorEq,Nat.reducePow,Nat.reduceDiv,Nat.reduceMod,Int.reduceBEq]
 simp[rep,nestD]
def matchesF (l:List TInstr):List Nest:=match walkG (tellM l) (List.replicate l.length (-1, -1)) l l.length with
 |some (st,M)=>if st.isEmpty then M else[]
 |none=>[]
theorem matchesF_len (l:List TInstr) (h:walkOk l=true):(matchesF l).length=l.length:=by
 unfold matchesF
 cases hw:walkG (tellM l) (List.replicate l.length (-1, -1)) l l.length with
 |none=>rw[walkOk_none hw] at h;cases h
 |some q=>
  obtain⟨st,M⟩:=q
  rw[walkOk_of hw] at h
  simp only[h,if_true]
  rw[tellM_len hw];simp
theorem matchesF_no (l:List TInstr) (h:walkOk l=false):matchesF l=[]:=by
 unfold matchesF
 cases hw:walkG (tellM l) (List.replicate l.length (-1, -1)) l l.length with
 |none=>rfl
 |some q=>
  obtain⟨st,M⟩:=q
  rw[walkOk_of hw] at h
  simp only[h,Bool.false_eq_true,if_false]
theorem matches_ev (fu n:Nat) (l:List TInstr) (h:21<fu) (hl:l.length<fu) (hs:l.length<100000):evF (G fu) (n+5) 64 [.d (.list (l.map TInstr.d))] []=
 some (.tup [.row 0 0 0 (matchesF l).length, .d (.bool (walkOk l))],[.row 2 ((matchesF l).map nestD) 0 false false]):=by
 obtain⟨os,h1,h2⟩:=walkM_ev fu n l h hl hs (List.replicate l.length (-1, -1)) (by simp)
 have hr:=repeat_ev fu (n+1) (-1, -1) l.length hs hl
 simp only[nestD] at hr
 rw[evF.eq_2,evX.eq_def,Gext,exts_no _ (f:=64) (by decide),GP,Tryz.func64];simp only[Tryz.f64,evB]
 cases hk:walkOk l with
 |false=>
  rw[hk] at h1
  simp only[go_sem,Nat.reduceAdd,Nat.reduceMul,Nat.reduceSub,Nat.reduceLT,Nat.reduceLeDiff,Nat.reduceEqDiff,Nat.reduceBEq,Nat.reduceBeqDiff,Int.reduceEq,Int.reduceLT,Int.reduceLE,Int.reduceToNat,Int.reduceNeg,Int.reduceAdd,Int.reduceSub,Int.reduceMul,reduceIte,reduceCtorEq,Nat.reducePow,Nat.reduceDiv,Nat.reduceMod,Int.reduceBEq,List.length_map,hr,h1,matchesF_no l hk]
 |true=>
  have hlen:=matchesF_len l hk
  have:matchesF l=os:=by
   unfold matchesF
   cases hw:walkG (tellM l) (List.replicate l.length (-1, -1)) l l.length with
   |none=>rw[walkOk_none hw] at hk;cases hk
   |some q=>
    obtain⟨st,M⟩:=q
    have hq:=walkOk_of hw
    rw[hk] at hq
    simp only[←hq,if_true]
    exact(h2 st M hw).symm
  rw[hlen,this]
  rw[hk] at h1
  simp only[go_sem,Nat.reduceAdd,Nat.reduceMul,Nat.reduceSub,Nat.reduceLT,Nat.reduceLeDiff,Nat.reduceEqDiff,Nat.reduceBEq,Nat.reduceBeqDiff,Int.reduceEq,Int.reduceLT,Int.reduceLE,Int.reduceToNat,Int.reduceNeg,Int.reduceAdd,Int.reduceSub,Int.reduceMul,reduceIte,reduceCtorEq,Nat.reducePow,Nat.reduceDiv,Nat.reduceMod,Int.reduceBEq,List.length_map,hr,h1]
end Go.Proofs.YtfpioigggjnffaaGreatDoor.E
set_option autoImplicit false
namespace Go.Proofs.YtfpioigggjnffaaGreatDoor.E
open Go.Ev
def sh (n:Nat) (p:Nest):Nest:=(p.1+n,if p.2= -1 then-1 else p.2+n)
end Go.Proofs.YtfpioigggjnffaaGreatDoor.E
set_option autoImplicit false
set_option maxRecDepth 100000
set_option maxHeartbeats 4000000
set_option pp.maxSteps 20000
namespace Go.Proofs.YtfpioigggjnffaaGreatDoor.E
open Go.Ev
def n0:Nest:=(-1, -1)
end Go.Proofs.YtfpioigggjnffaaGreatDoor.E
set_option autoImplicit false
namespace Go.Proofs.YtfpioigggjnffaaGreatDoor.E
open Go.Ev
abbrev opAt (l:List TInstr) (k:Nat):Int:=(l.getD k in0).op
def inBlk (l:List TInstr) (j:Nat) (base:List Nest) (k:Nat):Prop:=∃inner o,walkSt l k=some (inner++((j:Int),o)::base)
def elseIs (l:List TInstr) (j:Nat) (base:List Nest) (k:Nat) (o:Int):Prop:=
 (o= -1∨∃m:Nat,o=m∧j<m∧m<k∧opAt l m=5∧opAt l j=4∧∃o',walkSt l m=some (((j:Int),o')::base))∧
 ∀m,j<m→m<k→opAt l m=5→∀o',walkSt l m=some (((j:Int),o')::base)→o=m
structure Shut (l:List TInstr) (M:List Nest) (j:Nat) (base:List Nest) (k:Nat):Prop where
 ex: ∃e:Nat,∃o:Int,j<e∧e<k∧opAt l e=11∧walkSt l e=some (((j:Int),o)::base)∧M.getD j n0=(o,(e:Int))∧elseIs l j base e o∧∀m,j<m→m≤e→inBlk l j base m
theorem elseIs.up {l:List TInstr} {j k:Nat} {base:List Nest} {o:Int} (h:elseIs l j base k o) (hk:opAt l k≠5∨∀o',walkSt l k≠some (((j:Int),o')::base)):elseIs l j base (k+1) o:=by
 refine⟨h.1.imp id (fun⟨m,h1,h2,h3,h4⟩=>⟨m,h1,h2,by omega,h4⟩),fun m h1 h2 h3 o' h4=> ?_⟩
 by_cases e:m=k
 ·subst e
  exact absurd h4 (hk.elim (fun q=>absurd h3 q) (fun q=>q o'))
 ·exact h.2 m h1 (by omega) h3 o' h4
theorem Shut.up {l:List TInstr} {M M':List Nest} {j k:Nat} {base:List Nest} (h:Shut l M j base k) (hM:M'.getD j n0=M.getD j n0):Shut l M' j base (k+1):=by
 obtain⟨e,o,h1,h2,h3,h4,h5,h6⟩:=h.ex
 exact⟨e,o,h1,by omega,h3,h4,by rw[hM];exact h5,h6⟩
end Go.Proofs.YtfpioigggjnffaaGreatDoor.E
set_option autoImplicit false
namespace Go.Proofs.YtfpioigggjnffaaGreatDoor.E
open Go.Ev
def pick (l:List TInstr) (M:List Nest):List Nest→Int→Int×Bool
 |[],left=>if 0<left then(0,false) else(l.length,true)
 |p::r,left=>if 0<left then pick l M r (left-1) else if opAt l p.1.toNat=3 then(p.1,true) else((M.getD p.1.toNat n0).2,true)
end Go.Proofs.YtfpioigggjnffaaGreatDoor.E
set_option autoImplicit false
set_option maxRecDepth 100000
set_option maxHeartbeats 40000000
set_option pp.maxSteps 20000
namespace Go.Proofs.YtfpioigggjnffaaGreatDoor.E
open Go.Ev
def endGo (f:Nat→Int) (a:Nat):Nat→Nat→Int→Int→Int×Int
 |0,_,_,_=>(-1, -1)
 |j+1,k,deep,other=>
  if opensB (f k) then endGo f a j (k+1) (deep+1) other
  else if f k=5∧deep=0 then(if 0≤other∨f a≠4 then(-1, -1) else endGo f a j (k+1) deep k)
  else if f k=11∧deep=0 then(k,other)
  else if f k=11 then endGo f a j (k+1) (deep-1) other
  else endGo f a j (k+1) deep other
def endF (l:List TInstr) (a:Nat):Int×Int:=endGo (opAt l) a (l.length-(a+1)) (a+1) 0 (-1)
end Go.Proofs.YtfpioigggjnffaaGreatDoor.E
set_option autoImplicit false
namespace Go.Proofs.YtfpioigggjnffaaGreatDoor.E
open Go.Ev
theorem getD_set_ne {α:Type} {L:List α} {i k:Nat} {x d:α} (h:i≠k):(L.set k x).getD i d=L.getD i d:=by
 simp only[List.getD_eq_getElem?_getD,List.getElem?_set_ne (Ne.symm h)]
end Go.Proofs.YtfpioigggjnffaaGreatDoor.E
set_option autoImplicit false
set_option maxRecDepth 100000
set_option maxHeartbeats 4000000
set_option pp.maxSteps 20000
namespace Go.Proofs.YtfpioigggjnffaaGreatDoor.E
open Go.Ev
theorem Rm.go {b:Nat} {e:TEnv} (he:ESm e) {s:Stk} (h:Rm b s) (i:TInstr):Rm (b+65) (goS accE shapeF e s i).s:=by
 have hR:Rm b (⟨s,0⟩:WkS).s:=h
 unfold goS
 simp only
 split
 ·exact hR.kill.up (by omega)
 split
 ·exact h.up (by omega)
 split
 ·unfold nestedS
  split
  ·exact(hR.want _).opens _ _ (by omega)
  split
  ·exact((hR.must _ _).closed).opens _ _ (by omega)
  split
  ·refine(((hR.must _ _).closed).must _ _).push ?_
   have:=closed_len ((⟨s,0⟩:WkS).must (decide (1<s.ctrls.length)) 5)
   simp only;omega
  ·exact hR.opens _ _ (by omega)
 split
 ·unfold branchS
  split
  ·exact(hR.want _).kill.up (by omega)
  ·simp only
   have hl:=fin_len (label_fin ⟨s,0⟩ i.a)
   have h1:Rm b (labelsS ((⟨s,0⟩:WkS).label i.a).2 ((⟨s,0⟩:WkS).label i.a).1 i.labels).s:=(hR.label i.a).labels _ _
   have h2:Rm b (if i.op=12 then labelsS ((⟨s,0⟩:WkS).label i.a).2 ((⟨s,0⟩:WkS).label i.a).1 i.labels else(labelsS ((⟨s,0⟩:WkS).label i.a).2 ((⟨s,0⟩:WkS).label i.a).1 i.labels).want [127]).s:=by
    split
    ·exact h1
    ·exact h1.want _
   split
   ·exact(h2.want _).push (by omega)
   ·exact(h2.want _).kill.up (by omega)
 split
 ·unfold callS
  simp only
  have key: ∀(o:Option (List Int×List Int)) (w:WkS),Rm b w.s→(o.getD ([],[])).2.length≤64→Rm (b+65) ((w.want (o.getD ([],[])).1).push (o.getD ([],[])).2).s:=fun o w hw hl=>(hw.want _).push (by omega)
  split
  ·refine key _ _ ((hR.must _ _).want _) ?_
   split
   ·exact(getM_sm he).2
   ·simp
  ·exact key _ _ (hR.must _ _) (type_sm he).2
 split
 ·unfold chosenS
  split
  ·exact hR.pop.up (by omega)
  ·exact(((hR.want _).pop.pop).must _ _).push (by simp)
 split
 ·unfold variableS
  simp only
  have key: ∀r:Int×WkS,Rm b r.2.s→Rm (b+65) (if i.op=32∨i.op=34∨i.op=35 then(if i.op≠32∧i.op≠35 then r.2.want [r.1] else r.2).push [r.1] else(if i.op≠32∧i.op≠35 then r.2.want [r.1] else r.2)).s:=fun r hr=>by
   have h1:Rm b (if i.op≠32∧i.op≠35 then r.2.want [r.1] else r.2).s:=by
    split
    ·exact hr.want _
    ·exact hr
   split
   ·exact h1.push (by simp)
   ·exact h1.up (by omega)
  refine key _ ?_
  split
  ·split
   ·exact hR
   ·exact hR.must _ _
  ·split
   ·exact hR.must _ _
   ·exact hR.must _ _
 split
 ·unfold memoryS
  simp only
  have h1:=hR.must (decide (0<e.mems)) 6
  split
  ·exact h1.push (by simp)
  split
  ·exact(h1.want _).push (by simp)
  ·have h2:=h1.must (decide (i.a≤3)&&decide ((2:Int)^i.a.toNat≤(accE i.op).2.1)) 5
   split
   ·exact(h2.want _).up (by omega)
   ·exact(h2.want _).push (by simp)
 split
 ·exact hR.push (by simp)
 split
 ·exact hR.push (by simp)
 split
 ·exact(hR.want _).push (by simp)
 ·exact h.up (by omega)
theorem Rm.step {b:Nat} {e:TEnv} (he:ESm e) {s s':Stk} (h:Rm b s) {i:TInstr} (hs:stepS saneF accE shapeF e s i= .ok s'):Rm (b+65) s':=by
 have:=(stepS_parts hs).2.2.2
 rw[←this];exact h.go he i
theorem stepS_ne {e:TEnv} {s:Stk} {i:TInstr} {f:Int} (h:stepS saneF accE shapeF e s i= .error f): ¬f=0:=by
 unfold stepS at h
 split at h
 ·cases h;decide
 ·simp only at h
  split at h
  ·rename_i hne;simp only[Except.error.injEq] at h;rw[←h];exact hne
  ·cases h
abbrev stkds (p:List Stk):List D:=p.map Stk.dd
def pathR:Except Int (List Stk)→Option Res
 | .ok p=>some (.tup [.row 0 0 0 p.length, .d (.int .i64 0)],[.row 2 (stkds p) 0 false false])
 | .error e=>some (.tup [.row 0 0 0 0, .d (.int .i64 e)],[.row 2 [] 0 false false])
def pathF (e:TEnv) (l:List TInstr):Except Int (List Stk):=if walkOk l then if envSane e then pathS saneF accE shapeF e (start e) l else .error 1 else .error 3
theorem path_snoc {e:TEnv} {s:Stk} {l:List TInstr} {x:TInstr}:pathS saneF accE shapeF e s (l++[x])=match pathS saneF accE shapeF e s l with
 | .error f=> .error f
 | .ok p=>match stepS saneF accE shapeF e (p.getLastD s) x with
   | .error f=> .error f
   | .ok t=> .ok (p++[t]):=by
 induction l generalizing s with
 |nil=>
  simp only[List.nil_append,pathS]
  have hl:[s].getLastD s=s:=rfl
  rw[hl]
  cases hs:stepS saneF accE shapeF e s x<;>simp only[List.cons_append,List.nil_append]
 |cons i l ih=>
  simp only[List.cons_append,pathS]
  cases hs:stepS saneF accE shapeF e s i with
  |error f=>rfl
  |ok s'=>
   simp only
   rw[ih]
   cases hp:pathS saneF accE shapeF e s' l with
   |error f=>rfl
   |ok p=>
    simp only
    have hl:p.getLastD s'=(s::p).getLastD s:=by
     have:p≠[]:=by
      intro hh;subst hh
      have:=pathS_len hp
      simp at this
     cases p with
     |nil=>exact absurd rfl this
     |cons a p=>rfl
    rw[hl]
    cases stepS saneF accE shapeF e ((s::p).getLastD s) x<;>simp only[List.cons_append]
theorem path_errT {e:TEnv} {s:Stk} {l:List TInstr} {f:Int}: ∀{k:Nat},pathS saneF accE shapeF e s (l.take k)= .error f→pathS saneF accE shapeF e s l= .error f:=by
 intro k h
 induction l generalizing s k with
 |nil=>simpa using h
 |cons i l ih=>
  cases k with
  |zero=>simp[pathS] at h
  |succ k=>
   simp only[List.take_succ_cons,pathS] at h ⊢
   cases hs:stepS saneF accE shapeF e s i with
   |error g=>rw[hs] at h;exact h
   |ok s'=>
    rw[hs] at h
    simp only at h ⊢
    cases hp:pathS saneF accE shapeF e s' (l.take k) with
    |error g=>
     rw[hp] at h
     cases h
     rw[ih hp]
    |ok p=>rw[hp] at h;cases h
theorem path_ev (fu n:Nat) (e:TEnv) (h:EOk fu e) (l:List TInstr) (hl:l.length*65+300<fu) (hl2:l.length*65+300<1000000) (hb: ∀i∈l,i.labels.length<fu∧i.labels.length<1000000):
 evF (G fu) (n+13) 23 [.d e.dd, .d (.list (l.map TInstr.d))] []=pathR (pathF e l):=by
 have M:=matches_ev fu (n+7) l (by omega) (by omega) (by omega)
 have S:=envSane_ev fu (n+6) e h
 unfold pathF
 rw[evF.eq_2,evX.eq_def,Gext,exts_no _ (f:=23) (by decide),GP,Tryz.func23];simp only[Tryz.f23,evB]
 simp only[TEnv.dd] at S
 cases hw:walkOk l with
 |false=>
  rw[hw] at M
  simp only[go_sem,Nat.reduceAdd,Nat.reduceMul,Nat.reduceSub,Nat.reduceLT,Nat.reduceLeDiff,Nat.reduceEqDiff,Nat.reduceBEq,Nat.reduceBeqDiff,Int.reduceEq,Int.reduceLT,Int.reduceLE,Int.reduceToNat,Int.reduceNeg,Int.reduceAdd,Int.reduceSub,Int.reduceMul,reduceIte,reduceCtorEq,Nat.reducePow,Nat.reduceDiv,Nat.reduceMod,Int.reduceBEq,TEnv.dd,M,pathR]
 |true=>
  rw[hw] at M
  cases hs:envSane e with
  |false=>
   rw[hs] at S
   simp only[go_sem,Nat.reduceAdd,Nat.reduceMul,Nat.reduceSub,Nat.reduceLT,Nat.reduceLeDiff,Nat.reduceEqDiff,Nat.reduceBEq,Nat.reduceBeqDiff,Int.reduceEq,Int.reduceLT,Int.reduceLE,Int.reduceToNat,Int.reduceNeg,Int.reduceAdd,Int.reduceSub,Int.reduceMul,reduceIte,reduceCtorEq,Nat.reducePow,Nat.reduceDiv,Nat.reduceMod,Int.reduceBEq,TEnv.dd,M,S,pathR]
  |true=>
   rw[hs] at S
   have hfin:finB e.results=true:=by
    unfold envSane at hs
    simp only[Bool.and_eq_true,decide_eq_true_eq,List.all_append] at hs
    match hr:e.results,hs with
    |[],_=>rfl
    |[c],hs=>simpa[finB] using hs.1.2.1.2
    |a::b::r,hs=>have:=hs.2;simp at this;omega
   have O:=openR_ev fu (n+5) stk0 2 e.results ⟨by simp[stk0];omega,by simp[stk0];omega,by simp[stk0],by simp[stk0]⟩ (by have:=h.results;omega)
   have hop:openS stk0 2 e.results= .ok (start e):=start_open hfin
   rw[hop] at O
   simp only[stkR,Stk.dd,stk0,List.map_nil] at O
   simp only[go_sem,Nat.reduceAdd,Nat.reduceMul,Nat.reduceSub,Nat.reduceLT,Nat.reduceLeDiff,Nat.reduceEqDiff,Nat.reduceBEq,Nat.reduceBeqDiff,Int.reduceEq,Int.reduceLT,Int.reduceLE,Int.reduceToNat,Int.reduceNeg,Int.reduceAdd,Int.reduceSub,Int.reduceMul,reduceIte,reduceCtorEq,Nat.reducePow,Nat.reduceDiv,Nat.reduceMod,Int.reduceBEq,TEnv.dd,M,S,O,List.length_map,byt0]
   generalize hr:loopN _ _ _ _ _=r
   obtain⟨x,s1,rfl,hx,hJ⟩: ∃x s1,r=some (x,s1)∧Go.Ev.leaves x∧((∃p c,x= .exit 0∧pathS saneF accE shapeF e (start e) l= .ok p∧s1=⟨[(10,V.row 2048 0 0 p.length)],[(2048, .row 2 (stkds p) 0 false c)]⟩)∨
    (∃f,x= .ret∧pathS saneF accE shapeF e (start e) l= .error f∧s1=⟨[(4,V.nilsl),(5,V.d (D.int .i64 f))],[]⟩)):=by
    rw[←hr]
    refine loop_inv (J:=fun x s1=>((∃p c,x= .exit 0∧pathS saneF accE shapeF e (start e) l= .ok p∧s1=⟨[(10,V.row 2048 0 0 p.length)],[(2048, .row 2 (stkds p) 0 false c)]⟩)∨
     (∃f,x= .ret∧pathS saneF accE shapeF e (start e) l= .error f∧s1=⟨[(4,V.nilsl),(5,V.d (D.int .i64 f))],[]⟩)))
     l.length (fun k z=> ∃p c,pathS saneF accE shapeF e (start e) (l.take k)= .ok p∧Rm (65*k+1) (p.getLastD (start e))∧p.length=k+1∧
      z=⟨[(2,V.ptr 192 0),(8,V.ptr 576 0),(10,V.row 2048 0 0 p.length),(32,V.d (D.list (List.map TInstr.d l))),(33,V.d (D.int IntKind.i64 l.length)),(34,V.d (D.int IntKind.i64 k))],[(192, .cells [V.d (D.list (List.map tyD e.types)),V.d (D.list (List.map (D.int IntKind.i64) e.funcs)),V.d (D.int IntKind.i64 e.tables),V.d (D.int IntKind.i64 e.mems),V.d (D.list (List.map glD e.globals)),V.d (D.list (byt e.locs)),V.d (D.list (byt e.results))]),(576, .cells [V.d (D.list (byt (p.getLastD (start e)).vals)),V.d (D.list (ctlds (p.getLastD (start e)).ctrls))]),(2048, .row 2 (stkds p) 0 false c)]⟩) ?_ ?_ fu _ (by omega) ?_
    ·rintro k z hk ⟨p,c,hp,hrm,hpl,rfl⟩
     have hxi:(l.map TInstr.d)[k]? =some (l.getD k in0).d:=getD_map hk
     have hkI:(k:Int)<l.length:=by omega
     have W:=wrap_i64 (show-9223372036854775808≤(k:Int)+1 by omega) (by omega)
     have hm:l.getD k in0∈l:=by
      rw[List.getD_eq_getElem?_getD,List.getElem?_eq_getElem hk];exact List.getElem_mem hk
     have P:=step_ev fu n (65*k+1) e h.sm (p.getLastD (start e)) (by omega) (by omega) hrm (l.getD k in0) (hb _ hm).1 (hb _ hm).2
     have e1:l.take (k+1)=l.take k++[l.getD k in0]:=by
      rw[List.take_add_one,List.getElem?_eq_getElem hk,List.getD_eq_getElem?_getD,List.getElem?_eq_getElem hk];rfl
     have hsn:=path_snoc (e:=e) (s:=start e) (l:=l.take k) (x:=l.getD k in0)
     rw[←e1,hp] at hsn
     have hsE:pathS saneF accE shapeF e (start e) (l.take k)= .ok p:=hp
     simp only at hsn
     have hrs:=fun s'=>Rm.step h.sm hrm (s':=s') (i:=l.getD k in0)
     generalize l.getD k in0=i at*
     generalize hlast:p.getLastD (start e)=s at*
     cases hst:stepS saneF accE shapeF e s i with
     |error f=>
      rw[hst] at hsn P
      have hf: ¬f=0:=stepS_ne hst
      simp only[stkR,TEnv.dd,Stk.dd,TInstr.d,stk0,List.map_nil] at P
      simp only[go_sem,Nat.reduceAdd,Nat.reduceMul,Nat.reduceSub,Nat.reduceLT,Nat.reduceLeDiff,Nat.reduceEqDiff,Nat.reduceBEq,Nat.reduceBeqDiff,Int.reduceEq,Int.reduceLT,Int.reduceLE,Int.reduceToNat,Int.reduceNeg,Int.reduceAdd,Int.reduceSub,Int.reduceMul,reduceIte,reduceCtorEq,Nat.reducePow,Nat.reduceDiv,Nat.reduceMod,Int.reduceBEq,hkI,idx,hxi,TInstr.d,P,hf]
      exact⟨_,_,rfl, .inr ⟨f,rfl,path_errT hsn,rfl⟩⟩
     |ok s'=>
      rw[hst] at hsn P
      have hlast2:(p++[s']).getLastD (start e)=s':=by simp[List.getLastD_eq_getLast?]
      have hr2:p.length+1≤1099511627776:=by omega
      have z1:sizedAll 2 [Stk.dd s']=true:=rfl
      have t1:(stkds p).take p.length=stkds p:=List.take_of_length_le (by simp)
      have t2:stkds p++[Stk.dd s']=stkds (p++[s']):=by simp[stkds]
      simp only[stkR,TEnv.dd,Stk.dd,TInstr.d] at P
      simp only[Stk.dd] at z1 t2
      simp only[go_sem,Nat.reduceAdd,Nat.reduceMul,Nat.reduceSub,Nat.reduceLT,Nat.reduceLeDiff,Nat.reduceEqDiff,Nat.reduceBEq,Nat.reduceBeqDiff,Int.reduceEq,Int.reduceLT,Int.reduceLE,Int.reduceToNat,Int.reduceNeg,Int.reduceAdd,Int.reduceSub,Int.reduceMul,reduceIte,reduceCtorEq,Nat.reducePow,Nat.reduceDiv,Nat.reduceMod,Int.reduceBEq,hkI,idx,hxi,TInstr.d,P,W,z1,hr2,t1,t2]
      refine⟨_,_,rfl,p++[s'],true,hsn, ?_,by simp[hpl], ?_⟩
      ·rw[hlast2];exact(hrs s' hst).up (by omega)
      ·rw[hlast2,List.length_append];rfl
    ·rintro z ⟨p,c,hp,hrm,hpl,rfl⟩
     rw[List.take_length] at hp
     simp only[go_sem,Nat.reduceAdd,Nat.reduceMul,Nat.reduceSub,Nat.reduceLT,Nat.reduceLeDiff,Nat.reduceEqDiff,Nat.reduceBEq,Nat.reduceBeqDiff,Int.reduceEq,Int.reduceLT,Int.reduceLE,Int.reduceToNat,Int.reduceNeg,Int.reduceAdd,Int.reduceSub,Int.reduceMul,reduceIte,reduceCtorEq,Nat.reducePow,Nat.reduceDiv,Nat.reduceMod,Int.reduceBEq,Int.lt_irrefl]
     exact⟨_,_,rfl,trivial, .inl ⟨p,c,rfl,hp,rfl⟩⟩
    ·exact⟨[start e],false,rfl,⟨by simp[start],by simp[start,List.getLastD]⟩,rfl,rfl⟩
   rcases hJ with⟨p,c,rfl,hp,rfl⟩|⟨f,rfl,hp,rfl⟩
   ·rw[hp]
    simp only[go_sem,Nat.reduceAdd,Nat.reduceMul,Nat.reduceSub,Nat.reduceLT,Nat.reduceLeDiff,Nat.reduceEqDiff,Nat.reduceBEq,Nat.reduceBeqDiff,Int.reduceEq,Int.reduceLT,Int.reduceLE,Int.reduceToNat,Int.reduceNeg,Int.reduceAdd,Int.reduceSub,Int.reduceMul,reduceIte,reduceCtorEq,Nat.reducePow,Nat.reduceDiv,Nat.reduceMod,Int.reduceBEq,pathR]
   ·rw[hp]
    simp only[go_sem,Nat.reduceAdd,Nat.reduceMul,Nat.reduceSub,Nat.reduceLT,Nat.reduceLeDiff,Nat.reduceEqDiff,Nat.reduceBEq,Nat.reduceBeqDiff,Int.reduceEq,Int.reduceLT,Int.reduceLE,Int.reduceToNat,Int.reduceNeg,Int.reduceAdd,Int.reduceSub,Int.reduceMul,reduceIte,reduceCtorEq,Nat.reducePow,Nat.reduceDiv,Nat.reduceMod,Int.reduceBEq,pathR]
end Go.Proofs.YtfpioigggjnffaaGreatDoor.E
