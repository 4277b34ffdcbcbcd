/- F6, F7, F9, P06. -/
import Derived.Test.YtfpioigggjnffaaGreatDoorF3
import Derived.Test.YtfpioigggjnffaaGreatDoorEvD
import Derived.Test.YtfpioigggjnffaaGreatDoorF1
set_option linter.unnecessarySimpa false
set_option linter.unusedSimpArgs false
set_option linter.unusedVariables false
set_option autoImplicit false
set_option maxRecDepth 100000
set_option maxHeartbeats 4000000
set_option pp.maxSteps 20000
namespace Go.Proofs.YtfpioigggjnffaaGreatDoor.E
open Go.Ev
theorem mul64_one (fu n:Nat) (c:Int) (h0:0≤c) (h1:c<4294967296):evF (G fu) (n+1) 212 [.d (.int .u64 1), .d (.int .u64 c)] []=some (.tup [.d (.int .u64 0), .d (.int .u64 c)],[]):=by
 have a1:c%4294967296=c:=Int.emod_eq_of_lt h0 h1
 have a2:c / 4294967296=0:=Int.ediv_eq_zero_of_lt h0 h1
 rw[evF.eq_2,evX.eq_def,Gext,exts_no _ (f:=212) (by decide),GP,Tryz.func212];simp only[Tryz.f212,evB]
 simp only[go_sem,seval, -Nat.reduceSubDiff,↓reduceIte,reduceCtorEq,and_mask32 (show(0:Int)≤1 by omega) (by omega),and_mask32 h0 (by omega),shr32,a1,a2,Int.one_mul,Int.zero_mul,Int.mul_zero,Int.zero_add,Int.add_zero,wrap_u64 h0 (by omega),show IntKind.wrap .u64 0=0 from rfl,show(1:Int)%4294967296=1 from rfl,show(1:Int) / 4294967296=0 from rfl,and_mask32 (show(0:Int)≤0 by omega) (by omega),show(0:Int)%4294967296=0 from rfl,show(0:Int) / 4294967296=0 from rfl]
theorem mul_one (fu n:Nat) (c:Int) (h0:0≤c) (h1:c<4294967296):evF (G fu) (n+2) 173 [.d (.int .u64 1), .d (.int .u64 c)] []=some (.tup [.d (.int .u64 0), .d (.int .u64 c)],[]):=by
 rw[evF.eq_2,evX.eq_def,Gext,exts_no _ (f:=173) (by decide),GP,Tryz.func173];simp only[Tryz.f173,evB]
 simp only[go_sem,seval, -Nat.reduceSubDiff,↓reduceIte,reduceCtorEq,mul64_one fu n c h0 h1]
def rep (N c:Nat) (x z:D):List D:=List.replicate c x++List.replicate (N-c) z
theorem rep_take {N c:Nat} {x z:D}:(rep N c x z).take c=List.replicate c x:=by simp[rep]
theorem rep_drop {N c n:Nat} {x z:D}:(rep N c x z).drop (c+n)=List.replicate (N-c-n) z:=by simp[rep,List.drop_append,Nat.sub_sub]
theorem rep_copy {N c n:Nat} {x z:D} (hn:n≤c) (h:c+n≤N):List.replicate c x++((List.replicate c x).take n++(rep N c x z).drop (c+n))=rep N (c+n) x z:=by
 rw[rep_drop,List.take_replicate,Nat.min_eq_left hn,←List.append_assoc,List.replicate_append_replicate]
 simp[rep,Nat.sub_sub]
theorem rep_one (N:Nat) (x z:D):List.take (min 1 N) [x]++List.drop (min 1 N) (List.replicate N z)=rep N (min 1 N) x z:=by
 cases N with
 |zero=>rfl
 |succ N=>
  have:min 1 (N+1)=1:=by omega
  rw[this]
  simp[rep]
theorem repeat_ev (fu n:Nat) (p:Nest) (N:Nat) (hN:N<100000) (hf:N<fu):evF (G fu) (n+3) 122 [.d (.list [nestD p]), .d (.int .i64 N)] []=some (.row 0 0 0 N,[.row 2 ((List.replicate N p).map nestD) 0 false false]):=by
 rw[evF.eq_2,evX.eq_def,Gext,exts_no _ (f:=122) (by decide),GP,Tryz.func122];simp only[Tryz.f122,evB]
 have h0: ¬((N:Int)<0):=by omega
 have h1: ¬((9223372036854775807:Int)<N):=by omega
 simp only[go_sem,seval, -Nat.reduceSubDiff,↓reduceIte,reduceCtorEq,nestD,h0,h1,wrap_u64 (show(0:Int)≤1 by omega) (by omega),wrap_u64 (show(0:Int)≤N by omega) (by omega),wrap_i64 (show-9223372036854775808≤(N:Int) by omega) (by omega),mul_one fu n N (by omega) (by omega),show N*17≤1099511627776 by omega]
 rw[rep_one]
 generalize hr:loopN _ _ _ _ _=r
 obtain⟨x,s1,rfl,hx,rfl,rfl⟩: ∃x s1,r=some (x,s1)∧leaves x∧(x= .exit 0∧s1=⟨[(7, .row 1984 0 0 N)],[(1984, .row 2 (rep N N (.agg [.int .i64 p.1, .int .i64 p.2]) (.agg [.int .i64 0, .int .i64 0])) 0 false false)]⟩):=by
  rw[←hr]
  refine loop_inv (J:=fun x s1=>(x= .exit 0∧s1=⟨[(7, .row 1984 0 0 N)],[(1984, .row 2 (rep N N (.agg [.int .i64 p.1, .int .i64 p.2]) (.agg [.int .i64 0, .int .i64 0])) 0 false false)]⟩))
   N (fun i z=> ∃c,min (i+1) N≤c∧c≤N∧z=⟨[(7, .row 1984 0 0 N),(8, .d (.int .i64 c))],[(1984, .row 2 (rep N c (.agg [.int .i64 p.1, .int .i64 p.2]) (.agg [.int .i64 0, .int .i64 0])) 0 false false)]⟩) ?_ ?_ fu _ hf ⟨min 1 N,by omega,by omega,rfl⟩
  ·rintro i z hi ⟨c,h2,h3,rfl⟩
   by_cases hc:c<N
   ·simp only[go_sem,seval, -Nat.reduceSubDiff,↓reduceIte,reduceCtorEq,Int.ofNat_lt,hc,show(0:Int)≤c by omega,show(c:Int)≤N by omega,Int.sub_zero,Int.le_refl,Int.toNat_sub,rep_take,sizedAll_rep (n:=c) (show cellsOkD 2 (.agg [.int .i64 p.1, .int .i64 p.2])=some [.int .i64 p.1, .int .i64 p.2] from rfl),List.length_replicate,rep_copy (show min c (N-c)≤c by omega) (show c+min c (N-c)≤N by omega),wrap_i64 (show-9223372036854775808≤(c:Int)+((min c (N-c):Nat):Int) by omega) (by omega)]
    rw[cond_free]
    ·simp only[go_sem,seval, -Nat.reduceSubDiff,↓reduceIte,reduceCtorEq]
     exact⟨.normal,_,rfl,c+min c (N-c),by omega,by omega,rfl⟩
    ·rfl
   ·obtain rfl:c=N:=by omega
    simp only[go_sem,seval, -Nat.reduceSubDiff,↓reduceIte,reduceCtorEq,Int.ofNat_lt,Nat.lt_irrefl]
    exact⟨_,_,rfl,rfl,rfl⟩
  ·rintro z ⟨c,h2,h3,rfl⟩
   obtain rfl:c=N:=by omega
   simp only[go_sem,seval, -Nat.reduceSubDiff,↓reduceIte,reduceCtorEq,Int.ofNat_lt,Nat.lt_irrefl]
   exact⟨_,_,rfl,trivial,rfl,rfl⟩
 simp only[go_sem,seval, -Nat.reduceSubDiff,↓reduceIte,reduceCtorEq]
 simp[rep,nestD]
def matchesF (l:List TInstr):List Nest:=match walkG (tellM l) (List.replicate l.length (-1, -1)) l l.length with
 |some (st,M)=>if st.isEmpty then M else[]
 |none=>[]
theorem matchesF_len (l:List TInstr) (h:walkOk l=true):(matchesF l).length=l.length:=by
 unfold matchesF
 cases hw:walkG (tellM l) (List.replicate l.length (-1, -1)) l l.length with
 |none=>rw[walkOk_none hw] at h;cases h
 |some q=>
  obtain⟨st,M⟩:=q
  rw[walkOk_of hw] at h
  simp only[h,if_true]
  rw[tellM_len hw];simp
theorem matchesF_no (l:List TInstr) (h:walkOk l=false):matchesF l=[]:=by
 unfold matchesF
 cases hw:walkG (tellM l) (List.replicate l.length (-1, -1)) l l.length with
 |none=>rfl
 |some q=>
  obtain⟨st,M⟩:=q
  rw[walkOk_of hw] at h
  simp only[h,Bool.false_eq_true,if_false]
theorem matches_ev (fu n:Nat) (l:List TInstr) (h:21<fu) (hl:l.length<fu) (hs:l.length<100000):evF (G fu) (n+5) 64 [.d (.list (l.map TInstr.d))] []=
 some (.tup [.row 0 0 0 (matchesF l).length, .d (.bool (walkOk l))],[.row 2 ((matchesF l).map nestD) 0 false false]):=by
 obtain⟨os,h1,h2⟩:=walkM_ev fu n l h hl hs (List.replicate l.length (-1, -1)) (by simp)
 have hr:=repeat_ev fu (n+1) (-1, -1) l.length hs hl
 simp only[nestD] at hr
 rw[evF.eq_2,evX.eq_def,Gext,exts_no _ (f:=64) (by decide),GP,Tryz.func64];simp only[Tryz.f64,evB]
 cases hk:walkOk l with
 |false=>
  rw[hk] at h1
  simp only[go_sem,seval, -Nat.reduceSubDiff,↓reduceIte,reduceCtorEq,List.length_map,hr,h1,matchesF_no l hk]
 |true=>
  have hlen:=matchesF_len l hk
  have:matchesF l=os:=by
   unfold matchesF
   cases hw:walkG (tellM l) (List.replicate l.length (-1, -1)) l l.length with
   |none=>rw[walkOk_none hw] at hk;cases hk
   |some q=>
    obtain⟨st,M⟩:=q
    have hq:=walkOk_of hw
    rw[hk] at hq
    simp only[←hq,if_true]
    exact(h2 st M hw).symm
  rw[hlen,this]
  rw[hk] at h1
  simp only[go_sem,seval, -Nat.reduceSubDiff,↓reduceIte,reduceCtorEq,List.length_map,hr,h1]
end Go.Proofs.YtfpioigggjnffaaGreatDoor.E
set_option autoImplicit false
set_option maxRecDepth 100000
set_option maxHeartbeats 4000000
set_option pp.maxSteps 20000
namespace Go.Proofs.YtfpioigggjnffaaGreatDoor.E
open Go.Ev
def n0:Nest:=(-1, -1)
def tgtGo (l:List TInstr) (M:List Nest) (at_:Int):Nat→Int→Int×Bool
 |0,left=>if 0<left then(0,false) else(l.length,true)
 |k+1,left=>
  if opensB (l.getD k in0).op=false∨(M.getD k n0).2≤at_∨(M.getD k n0).1=at_ then tgtGo l M at_ k left
  else if 0<left then tgtGo l M at_ k (left-1)
  else if (l.getD k in0).op=3 then(k,true) else((M.getD k n0).2,true)
def targetF (l:List TInstr) (at_ label:Int):Int×Bool:=
 if walkOk l=false∨at_<0∨(l.length:Int)≤at_∨label<0 then(0,false) else tgtGo l (matchesF l) at_ at_.toNat label
theorem target_ev (fu n:Nat) (l:List TInstr) (at_ label:Int) (hb:label≤9223372036854775807) (h:21<fu) (hl:l.length<fu) (hs:l.length<100000):evF (G fu) (n+6) 181 [.d (.list (l.map TInstr.d)), .d (.int .i64 at_), .d (.int .i64 label)] []=
 some (.tup [.d (.int .i64 (targetF l at_ label).1), .d (.bool (targetF l at_ label).2)],[]):=by
 rw[evF.eq_2,evX.eq_def,Gext,exts_no _ (f:=181) (by decide),GP,Tryz.func181];simp only[Tryz.f181,evB]
 unfold targetF
 cases hk:walkOk l with
 |false=>simp only[go_sem,seval, -Nat.reduceSubDiff,↓reduceIte,reduceCtorEq,List.length_map,matches_ev fu n l h hl hs,hk]
 |true=>
  by_cases h1:at_<0
  ·simp only[go_sem,seval, -Nat.reduceSubDiff,↓reduceIte,reduceCtorEq,List.length_map,matches_ev fu n l h hl hs,hk,h1]
  ·by_cases h2:(l.length:Int)≤at_
   ·simp only[go_sem,seval, -Nat.reduceSubDiff,↓reduceIte,reduceCtorEq,List.length_map,matches_ev fu n l h hl hs,hk,h1,h2]
   ·by_cases h3:label<0
    ·simp only[go_sem,seval, -Nat.reduceSubDiff,↓reduceIte,reduceCtorEq,List.length_map,matches_ev fu n l h hl hs,hk,h1,h2,h3]
    ·have hM:=matchesF_len l hk
     simp only[go_sem,seval, -Nat.reduceSubDiff,↓reduceIte,reduceCtorEq,List.length_map,matches_ev fu n l h hl hs,hk,h1,h2,h3,hM,wrap_i64 (show-9223372036854775808≤at_-1 by omega) (by omega)]
     generalize hr:loopN _ _ _ _ _=r
     obtain⟨x,s1,rfl,hx,hJ⟩: ∃x s1,r=some (x,s1)∧leaves x∧((∃left:Int,x= .exit 0∧0≤left∧tgtGo l (matchesF l) at_ at_.toNat label=(if 0<left then((0:Int),false) else((l.length:Int),true))∧s1=⟨[(0, .d (.list (l.map TInstr.d))),(10, .d (.int .i64 left))],[]⟩)∨
      (x= .ret∧s1=⟨[(6, .d (.int .i64 (tgtGo l (matchesF l) at_ at_.toNat label).1)),(7, .d (.bool (tgtGo l (matchesF l) at_ at_.toNat label).2))],[]⟩)):=by
      rw[←hr]
      refine loop_inv (J:=fun x s1=>((∃left:Int,x= .exit 0∧0≤left∧tgtGo l (matchesF l) at_ at_.toNat label=(if 0<left then((0:Int),false) else((l.length:Int),true))∧s1=⟨[(0, .d (.list (l.map TInstr.d))),(10, .d (.int .i64 left))],[]⟩)∨
       (x= .ret∧s1=⟨[(6, .d (.int .i64 (tgtGo l (matchesF l) at_ at_.toNat label).1)),(7, .d (.bool (tgtGo l (matchesF l) at_ at_.toNat label).2))],[]⟩)))
       at_.toNat (fun i z=> ∃left:Int,0≤left∧left≤9223372036854775807∧tgtGo l (matchesF l) at_ at_.toNat label=tgtGo l (matchesF l) at_ (at_.toNat-i) left∧z=⟨[(0, .d (.list (l.map TInstr.d))),(1, .d (.int .i64 at_)),(8, .row 960 0 0 l.length),(10, .d (.int .i64 left)),(11, .d (.int .i64 (at_-1-i)))],[(960, .row 2 ((matchesF l).map nestD) 0 false false)]⟩) ?_ ?_ fu _ (by omega) ⟨label,by omega,by omega,by simp,by simp⟩
      ·rintro i z hi ⟨left,hl0,hl1,ht,rfl⟩
       obtain⟨k,hk1⟩: ∃k:Nat,at_-1-i=k:=⟨(at_-1-i).toNat,by omega⟩
       have hk2:at_.toNat-i=k+1:=by omega
       have hkl:k<l.length:=by omega
       have hx:((matchesF l).map nestD)[k]? =some (.agg [.int .i64 ((matchesF l).getD k n0).1, .int .i64 ((matchesF l).getD k n0).2]):=getD_map (f:=nestD) (by omega)
       have W:=wrap_i64 (show-9223372036854775808≤(k:Int)-1 by omega) (by omega)
       have W2:=wrap_i64 (show-9223372036854775808≤left-1 by omega) (by omega)
       have hge:(0:Int)≤k:=by omega
       have hlt:(k:Int)<l.length:=by omega
       have hnext:at_-1-((i+1:Nat):Int)=(k:Int)-1:=by omega
       have hkn:at_.toNat-(i+1)=k:=by omega
       rw[hk2] at ht
       rw[tgtGo] at ht
       rw[hk1]
       have go: ∀left',tgtGo l (matchesF l) at_ at_.toNat label=tgtGo l (matchesF l) at_ k left'→0≤left'→left'≤9223372036854775807→∃left:Int,0≤left∧left≤9223372036854775807∧tgtGo l (matchesF l) at_ at_.toNat label=tgtGo l (matchesF l) at_ (at_.toNat-(i+1)) left∧
        (⟨[(0, .d (.list (l.map TInstr.d))),(1, .d (.int .i64 at_)),(8, .row 960 0 0 l.length),(10, .d (.int .i64 left')),(11, .d (.int .i64 ((k:Int)-1)))],[(960, .row 2 ((matchesF l).map nestD) 0 false false)]⟩:St)=⟨[(0, .d (.list (l.map TInstr.d))),(1, .d (.int .i64 at_)),(8, .row 960 0 0 l.length),(10, .d (.int .i64 left)),(11, .d (.int .i64 (at_-1-((i+1:Nat):Int))))],[(960, .row 2 ((matchesF l).map nestD) 0 false false)]⟩:=fun left' q1 q2 q3=>⟨left',q2,q3,by rw[hkn];exact q1,by rw[hnext]⟩
       have base: ∀{φ:Option (Ex×St)→Prop},True:=fun{_}=>trivial
       rcases Bool.eq_false_or_eq_true (opensB (l.getD k in0).op) with ho|ho
       ·by_cases q1:((matchesF l).getD k n0).2≤at_
        ·rw[if_pos (.inr (.inl q1))] at ht
         simp only[go_sem,seval, -Nat.reduceSubDiff,↓reduceIte,reduceCtorEq,idx,hge,hlt,getD_map (d:=in0) hkl,hx,TInstr.d,opens_ev fu (n+3) _ _ _ _ _ h,ho,q1,W,W2]
         exact⟨.normal,_,rfl,go _ ht hl0 hl1⟩
        ·by_cases q2:((matchesF l).getD k n0).1=at_
         ·rw[if_pos (.inr (.inr q2))] at ht
          have q2':decide (((matchesF l).getD k n0).1=at_)=true:=decide_eq_true q2
          simp only[go_sem,seval, -Nat.reduceSubDiff,↓reduceIte,reduceCtorEq,idx,hge,hlt,getD_map (d:=in0) hkl,hx,TInstr.d,opens_ev fu (n+3) _ _ _ _ _ h,ho,q1,q2',W,W2]
          exact⟨.normal,_,rfl,go _ ht hl0 hl1⟩
         ·rw[if_neg (by simp only[ho,reduceCtorEq,false_or];exact fun q=>q.elim q1 q2)] at ht
          by_cases q3:0<left
          ·rw[if_pos q3] at ht
           simp only[go_sem,seval, -Nat.reduceSubDiff,↓reduceIte,reduceCtorEq,idx,hge,hlt,getD_map (d:=in0) hkl,hx,TInstr.d,opens_ev fu (n+3) _ _ _ _ _ h,ho,q1,q2,q3,W,W2]
           exact⟨.normal,_,rfl,go _ ht (by omega) (by omega)⟩
          ·rw[if_neg q3] at ht
           rcases Bool.eq_false_or_eq_true (decide ((l.getD k in0).op=3)) with q4|q4
           ·rw[if_pos (of_decide_eq_true q4)] at ht
            simp only[go_sem,seval, -Nat.reduceSubDiff,↓reduceIte,reduceCtorEq,idx,hge,hlt,getD_map (d:=in0) hkl,hx,TInstr.d,opens_ev fu (n+3) _ _ _ _ _ h,ho,q1,q2,q3,q4,W,W2]
            exact⟨.ret,_,rfl, .inr ⟨rfl,by rw[ht]⟩⟩
           ·rw[if_neg (of_decide_eq_false q4)] at ht
            simp only[go_sem,seval, -Nat.reduceSubDiff,↓reduceIte,reduceCtorEq,idx,hge,hlt,getD_map (d:=in0) hkl,hx,TInstr.d,opens_ev fu (n+3) _ _ _ _ _ h,ho,q1,q2,q3,q4,W,W2]
            exact⟨.ret,_,rfl, .inr ⟨rfl,by rw[ht]⟩⟩
       ·rw[if_pos (.inl ho)] at ht
        simp only[go_sem,seval, -Nat.reduceSubDiff,↓reduceIte,reduceCtorEq,idx,hge,hlt,getD_map (d:=in0) hkl,hx,TInstr.d,opens_ev fu (n+3) _ _ _ _ _ h,ho,W,W2]
        exact⟨.normal,_,rfl,go _ ht hl0 hl1⟩
      ·rintro z ⟨left,hl0,hl1,ht,rfl⟩
       have hm: ¬(0:Int)≤at_-1-(at_.toNat:Int):=by omega
       rw[Nat.sub_self,tgtGo] at ht
       simp only[go_sem,seval, -Nat.reduceSubDiff,↓reduceIte,reduceCtorEq,hm]
       exact⟨_,_,rfl,trivial, .inl ⟨left,rfl,hl0,ht,rfl⟩⟩
     rcases hJ with⟨left,rfl,hl0,ht,rfl⟩|⟨rfl,rfl⟩
     ·rw[ht]
      by_cases q:0<left<;>simp only[go_sem,seval, -Nat.reduceSubDiff,↓reduceIte,reduceCtorEq,q,List.length_map]
     ·simp only[go_sem,seval, -Nat.reduceSubDiff,↓reduceIte,reduceCtorEq]
end Go.Proofs.YtfpioigggjnffaaGreatDoor.E
set_option autoImplicit false
set_option maxRecDepth 100000
set_option maxHeartbeats 4000000
set_option pp.maxSteps 20000
namespace Go.Proofs.YtfpioigggjnffaaGreatDoor.E
open Go.Ev
theorem sane2_ev (fu n:Nat) (i:TInstr) (h:21<fu) (hl:i.labels.length<fu) (hs:i.labels.length<1000000):evF (G fu) (n+6) 148 [.d i.d] []=some (.d (.bool (!saneF i)),[]):=by
 have q:=sane_ev fu n i h hl hs
 simp only[TInstr.d] at q
 rw[evF.eq_2,evX.eq_def,Gext,exts_no _ (f:=148) (by decide),GP,Tryz.func148];simp only[Tryz.f148,evB]
 simp only[go_sem,seval, -Nat.reduceSubDiff,↓reduceIte,reduceCtorEq,TInstr.d,q]
def findS (l:List TInstr):Int:=match first (fun i=> !saneF (l.getD i in0)) 0 l.length with
 |some i=>i
 |none=> -1
def lab (fu:Nat) (l:List TInstr):Prop:=∀i∈l,i.labels.length<fu∧i.labels.length<1000000
theorem indexS_ev (fu n:Nat) (l:List TInstr) (h:21<fu) (hl:l.length<fu) (hs:l.length<1000000) (hb:lab fu l):evF (G fu) (n+7) 199 [.d (.list (l.map TInstr.d)), .fn (.func 148) [] []] []=some (.d (.int .i64 (findS l)),[]):=by
 rw[evF.eq_2,evX.eq_def,Gext,exts_no _ (f:=199) (by decide),GP,Tryz.func199];simp only[Tryz.f199,evB]
 simp only[go_sem,seval, -Nat.reduceSubDiff,↓reduceIte,reduceCtorEq,List.length_map]
 rw[loop_scan l.length (fun i=>⟨[(0, .d (.list (l.map TInstr.d))),(1, .fn (.func 148) [] []),(7, .d (.int .i64 l.length)),(8, .d (.int .i64 i))],[]⟩) (fun i=> !saneF (l.getD i in0)) (fun i=>(.ret,⟨[(4,V.d (D.int .i64 i))],[]⟩)) (.exit 0,⟨[],[]⟩) (by omega) (fun _=>trivial) trivial ?_]
 case hs=>
  intro i hi
  have hm:l.getD i in0∈l:=by
   have:l.getD i in0=l[i]:=by simp[hi]
   rw[this];exact List.getElem_mem hi
  have q:=sane2_ev fu n (l.getD i in0) h (hb _ hm).1 (hb _ hm).2
  simp only[TInstr.d] at q
  simp only[go_sem,seval, -Nat.reduceSubDiff,↓reduceIte,reduceCtorEq,Int.ofNat_lt,hi,idx,getD_map (d:=in0) hi,TInstr.d,q]
  cases saneF (l.getD i in0)<;>simp only[go_sem,seval, -Nat.reduceSubDiff,↓reduceIte,reduceCtorEq,wrap_i64 (show-9223372036854775808≤(i:Int)+1 by omega) (by omega)]<;>rfl
 case he=>simp only[go_sem,seval, -Nat.reduceSubDiff,↓reduceIte,reduceCtorEq,Int.ofNat_lt,Nat.lt_irrefl]
 ·unfold Go.Ev.scan findS
  cases first (fun i=> !saneF (l.getD i in0)) 0 l.length<;>simp only[go_sem,seval, -Nat.reduceSubDiff,↓reduceIte,reduceCtorEq]
 ·rfl
theorem findS_iff (l:List TInstr):(0≤findS l)↔l.all saneF=false:=by
 unfold findS
 have:=first_list (p:=fun x=> !saneF x) (d:=in0) l
 cases hf:first (fun i=> !saneF (l.getD i in0)) 0 l.length with
 |none=>
  have:=this.1 hf
  simp only[show ¬(0:Int)≤ -1 by omega,false_iff]
  intro h
  rw[List.any_eq_false] at this
  rw[List.all_eq_false] at h
  obtain⟨x,h1,h2⟩:=h
  have:=this x h1
  simp_all
 |some i=>
  simp only[show(0:Int)≤i by omega,true_iff]
  rw[List.all_eq_false]
  have:l.any (fun x=> !saneF x)=true:=by
   cases h:l.any (fun x=> !saneF x) with
   |true=>rfl
   |false=>rw[this.2 h] at hf;cases hf
  obtain⟨x,h1,h2⟩:=List.any_eq_true.1 this
  exact⟨x,h1,by simpa using h2⟩
theorem containsS_ev (fu n:Nat) (l:List TInstr) (h:21<fu) (hl:l.length<fu) (hs:l.length<1000000) (hb:lab fu l):evF (G fu) (n+8) 147 [.d (.list (l.map TInstr.d)), .fn (.func 148) [] []] []=some (.d (.bool (!l.all saneF)),[]):=by
 rw[evF.eq_2,evX.eq_def,Gext,exts_no _ (f:=147) (by decide),GP,Tryz.func147];simp only[Tryz.f147,evB]
 have:=findS_iff l
 cases ha:l.all saneF<;>rw[ha] at this<;>simp only[iff_true,iff_false,reduceCtorEq] at this<;>simp only[go_sem,seval, -Nat.reduceSubDiff,↓reduceIte,reduceCtorEq,indexS_ev fu n l h hl hs hb,this,ha]
def deepF (l:List TInstr):Int:=match walkG tellS 0 l l.length with
 |some (_,s)=>s
 |none=>0
def bodySane (l:List TInstr):Bool:=walkOk l&&decide (deepF l≤32)&&decide ((l.length:Int)≤4096)&&l.all saneF
theorem bodySane_ev (fu n:Nat) (l:List TInstr) (h:21<fu) (hl:l.length<fu) (hs:l.length<100000) (hb:lab fu l):evF (G fu) (n+9) 83 [.d (.list (l.map TInstr.d))] []=some (.d (.bool (bodySane l)),[]):=by
 obtain⟨mx,h1,h2⟩:=walkS_ev fu (n+4) l h hl hs 0
 rw[evF.eq_2,evX.eq_def,Gext,exts_no _ (f:=83) (by decide),GP,Tryz.func83];simp only[Tryz.f83,evB]
 cases hk:walkOk l with
 |false=>
  rw[hk] at h1
  simp only[go_sem,seval, -Nat.reduceSubDiff,↓reduceIte,reduceCtorEq,h1,bodySane,hk]
 |true=>
  have hm:deepF l=mx:=by
   unfold deepF
   cases hw:walkG tellS 0 l l.length with
   |none=>rw[walkOk_none hw] at hk;cases hk
   |some q=>obtain⟨st,s⟩:=q;exact(h2 st s hw).symm
  rw[hk] at h1
  by_cases q1:mx≤32<;>by_cases q2:(l.length:Int)≤4096<;>simp only[go_sem,seval, -Nat.reduceSubDiff,↓reduceIte,reduceCtorEq,h1,bodySane,hk,hm,q1,q2,List.length_map,containsS_ev fu n l h hl (by omega) hb,Bool.not_not]
end Go.Proofs.YtfpioigggjnffaaGreatDoor.E
set_option autoImplicit false
namespace Go.Proofs.YtfpioigggjnffaaGreatDoor.E
open Go.Ev
def sh (n:Nat) (p:Nest):Nest:=(p.1+n,if p.2= -1 then-1 else p.2+n)
theorem walk_some {σ:Type} (tell:Nat→Int→Nest→σ→σ) (s0:σ) {l:List TInstr} (h:walkOk l=true): ∃s,walkG tell s0 l l.length=some ([],s):=by
 cases hw:walkG tell s0 l l.length with
 |none=>rw[walkOk_none hw] at h;cases h
 |some x=>
  obtain⟨st,s⟩:=x
  rw[walkOk_of hw] at h
  cases st with
  |nil=>exact⟨s,rfl⟩
  |cons _ _=>cases h
end Go.Proofs.YtfpioigggjnffaaGreatDoor.E
