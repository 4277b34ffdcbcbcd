/- F3, F4. -/
import Derived.Test.YtfpioigggjnffaaGreatDoorQ13
set_option linter.unnecessarySimpa false
set_option linter.unusedSimpArgs false
set_option linter.unusedVariables false
set_option autoImplicit false
set_option maxRecDepth 100000
set_option maxHeartbeats 4000000
set_option pp.maxSteps 20000
namespace Go.Proofs.YtfpioigggjnffaaGreatDoor.E
open Go.Ev
def stepF (l:List TInstr) (st:List Nest) (k:Nat) (op:Int):Option (List Nest×Int×Nest):=
 if opensB op then some ((↑k, -1)::st,st.length,(0,0))
 else if op≠5∧op≠11 then some (st,st.length,(0,0))
 else match st with
  |[]=>none
  |t::r=>if op=11 then some (r,r.length,t) else if t.2= -1∧ifAt l t.1=true then some ((t.1,↑k)::r,r.length,t) else none
def walkG {σ:Type} (tell:Nat→Int→Nest→σ→σ) (s0:σ) (l:List TInstr):Nat→Option (List Nest×σ)
 |0=>some ([],s0)
 |k+1=>match walkG tell s0 l k with
  |none=>none
  |some (st,s)=>match stepF l st k (l.getD k in0).op with
   |none=>none
   |some (st',deep,e)=>some (st',tell k deep e s)
def walkSt (l:List TInstr) (k:Nat):Option (List Nest):=(walkG (fun _ _ _ _=>()) () l k).map (·.1)
def walkOk (l:List TInstr):Bool:=match walkSt l l.length with
 |none=>false
 |some st=>st.isEmpty
theorem walkG_st {σ:Type} (tell:Nat→Int→Nest→σ→σ) (s0:σ) (l:List TInstr): ∀k,(walkG tell s0 l k).map (·.1)=walkSt l k
 |0=>rfl
 |k+1=>by
  have ih:=walkG_st tell s0 l k
  unfold walkSt at ih ⊢
  simp only[walkG]
  cases h1:walkG tell s0 l k with
  |none=>
   rw[h1] at ih
   cases h2:walkG (fun _ _ _ _=>()) () l k with
   |none=>rfl
   |some q=>rw[h2] at ih;cases ih
  |some p=>
   rw[h1] at ih
   cases h2:walkG (fun _ _ _ _=>()) () l k with
   |none=>rw[h2] at ih;cases ih
   |some q=>
    rw[h2] at ih
    obtain⟨st,s⟩:=p
    obtain⟨st',u⟩:=q
    simp only[Option.map_some,Option.some.injEq] at ih
    subst ih
    simp only
    cases stepF l st k (l.getD k in0).op with
    |none=>rfl
    |some z=>rfl
theorem walkOk_of {σ:Type} {tell:Nat→Int→Nest→σ→σ} {s0 s:σ} {l:List TInstr} {st:List Nest} (h:walkG tell s0 l l.length=some (st,s)):walkOk l=st.isEmpty:=by
 have:=walkG_st tell s0 l l.length
 rw[h] at this
 simp only[walkOk,←this,Option.map_some]
theorem walkOk_none {σ:Type} {tell:Nat→Int→Nest→σ→σ} {s0:σ} {l:List TInstr} (h:walkG tell s0 l l.length=none):walkOk l=false:=by
 have:=walkG_st tell s0 l l.length
 rw[h] at this
 simp only[walkOk,←this,Option.map_none]
def nestIn (k:Nat) (p:Nest):Prop:=0≤p.1∧p.1<(k:Int)∧(p.2= -1∨(0≤p.2∧p.2<(k:Int)∧p.1≠p.2))
theorem nestIn.up {k:Nat} {p:Nest} (h:nestIn k p):nestIn (k+1) p:=by unfold nestIn at*;omega
theorem stepF_in {l:List TInstr} {st st':List Nest} {k:Nat} {op d:Int} {e:Nest} (h:stepF l st k op=some (st',d,e)) (hs: ∀p∈st,nestIn k p):(∀p∈st',nestIn (k+1) p)∧st'.length≤st.length+1:=by
 unfold stepF at h
 split at h
 ·simp only[Option.some.injEq,Prod.mk.injEq] at h
  obtain⟨rfl,_,_⟩:=h
  refine⟨fun p hp=> ?_,by simp⟩
  rcases List.mem_cons.1 hp with rfl|hp
  ·exact⟨by simp,by simp;omega, .inl rfl⟩
  ·exact(hs p hp).up
 ·split at h
  ·simp only[Option.some.injEq,Prod.mk.injEq] at h
   obtain⟨rfl,_,_⟩:=h
   exact⟨fun p hp=>(hs p hp).up,by omega⟩
  ·split at h
   ·cases h
   ·rename_i t r
    split at h
    ·simp only[Option.some.injEq,Prod.mk.injEq] at h
     obtain⟨rfl,_,_⟩:=h
     exact⟨fun p hp=>(hs p (by simp[hp])).up,by simp;omega⟩
    ·split at h
     ·simp only[Option.some.injEq,Prod.mk.injEq] at h
      obtain⟨rfl,_,_⟩:=h
      refine⟨fun p hp=> ?_,by simp⟩
      rcases List.mem_cons.1 hp with rfl|hp
      ·obtain⟨q1,q2,_⟩:=hs t (by simp)
       exact⟨q1,by show t.1<_;omega, .inr ⟨by simp,by simp;omega,by show t.1≠_;omega⟩⟩
      ·exact(hs p (by simp[hp])).up
     ·cases h
theorem walkG_in {σ:Type} {tell:Nat→Int→Nest→σ→σ} {s0:σ} {l:List TInstr}: ∀{k:Nat} {st:List Nest} {s:σ},walkG tell s0 l k=some (st,s)→(∀p∈st,nestIn k p)∧st.length≤k
 |0,st,s,h=>by
  simp only[walkG,Option.some.injEq,Prod.mk.injEq] at h
  obtain⟨rfl,rfl⟩:=h
  exact⟨fun p hp=>by simp at hp,by simp⟩
 |k+1,st,s,h=>by
  simp only[walkG] at h
  split at h
  ·cases h
  ·rename_i st0 ts0 h0
   split at h
   ·cases h
   ·rename_i st1 d e h1
    simp only[Option.some.injEq,Prod.mk.injEq] at h
    obtain⟨rfl,rfl⟩:=h
    obtain⟨q1,q2⟩:=walkG_in h0
    obtain⟨p1,p2⟩:=stepF_in h1 q1
    exact⟨p1,by omega⟩
theorem opens_not11 {op:Int} (h:opensB op=true):op≠11:=by rintro rfl;cases h
theorem tellS_ev (fu n:Nat) (k d a b mx:Int):evF (G fu) (n+1) 146 [.d (.int .i64 k), .d (.int .i64 d), .d (.agg [.int .i64 a, .int .i64 b]), .ptr 0 0] [.cells [.d (.int .i64 mx)]]=some (.tup [],[.cells [.d (.int .i64 (max mx d))]]):=by
 rw[evF.eq_2,evX.eq_def,Gext,exts_no _ (f:=146) (by decide),GP,Tryz.func146];simp only[Tryz.f146,evB]
 simp only[go_sem,seval, -Nat.reduceSubDiff,↓reduceIte,reduceCtorEq]
inductive WkH (L:D) (st:List Nest):Map Go.Ev.Obj→Prop
 |nil:st=[]→WkH L st [(192, .cells [.d L]),(832, .cells [.nilsl])]
 |row (xs:List D) (chg:Bool):xs.take st.length=st.reverse.map nestD→WkH L st [(192, .cells [.d L]),(832, .cells [.row 1664 0 0 st.length]),(1664, .row 2 xs 0 false chg)]
inductive WkX (st:List Nest):Map Go.Ev.Obj→Prop
 |nil:st=[]→WkX st [(832, .cells [.nilsl])]
 |row (xs:List D) (chg:Bool):xs.take st.length=st.reverse.map nestD→WkX st [(832, .cells [.row 1664 0 0 st.length]),(1664, .row 2 xs 0 false chg)]
theorem take_top {st:List Nest} {t:Nest} {xs:List D} (h:xs.take (t::st).length=(t::st).reverse.map nestD):xs[st.length]? =some (nestD t)∧xs.take st.length=st.reverse.map nestD:=by
 have h1:(xs.take (t::st).length)[st.length]? =some (nestD t):=by rw[h];simp
 refine⟨by simpa[List.getElem?_take] using h1, ?_⟩
 have h2:(xs.take (t::st).length).take st.length=st.reverse.map nestD:=by rw[h];simp
 simpa[List.take_take] using h2
theorem take_set {st:List Nest} {t u:Nest} {xs:List D} (h:xs.take (t::st).length=(t::st).reverse.map nestD):(xs.set st.length (nestD u)).take (u::st).length=(u::st).reverse.map nestD:=by
 obtain⟨h1,h2⟩:=take_top h
 have hlt:=(List.getElem?_eq_some_iff.1 h1).1
 rw[List.take_set,show(u::st).length=(t::st).length from rfl,h]
 simp
theorem take_push {st:List Nest} {t:Nest} {xs:List D} (h:xs.take st.length=st.reverse.map nestD):(xs.take st.length++[nestD t]).take (t::st).length=(t::st).reverse.map nestD:=by
 rw[h,List.take_of_length_le (by simp)]
 simp
section
variable {l:List TInstr} {st:List Nest} {k:Nat} {op:Int}
theorem stepF_open (ho:opensB op=true):stepF l st k op=some ((↑k, -1)::st,(st.length:Int),(0,0)):=by simp only[stepF,ho,if_true]
theorem stepF_plain (ho:opensB op=false) (h5:op≠5) (h11:op≠11):stepF l st k op=some (st,(st.length:Int),(0,0)):=by
 simp only[stepF,ho,Bool.false_eq_true,if_false]
 rw[if_pos ⟨h5,h11⟩]
theorem stepF_bare (h5:op=5∨op=11):stepF l [] k op=none:=by rcases h5 with rfl|rfl<;>rfl
theorem stepF_pop (t:Nest):stepF l (t::st) k 11=some (st,(st.length:Int),t):=rfl
theorem stepF_else (t:Nest) (h:t.2= -1∧ifAt l t.1=true):stepF l (t::st) k 5=some ((t.1,↑k)::st,(st.length:Int),t):=by
 simp only[stepF,opens5,Bool.false_eq_true,if_false]
 rw[if_neg (by omega),if_neg (by omega),if_pos h]
theorem stepF_twice (t:Nest) (h: ¬(t.2= -1∧ifAt l t.1=true)):stepF l (t::st) k 5=none:=by
 simp only[stepF,opens5,Bool.false_eq_true,if_false]
 rw[if_neg (by omega),if_neg (by omega),if_neg h]
end
theorem walkG_none {σ:Type} {tell:Nat→Int→Nest→σ→σ} {s0:σ} {l:List TInstr} {k:Nat} (h:walkG tell s0 l k=none): ∀m,k≤m→walkG tell s0 l m=none:=by
 intro m hm
 induction m with
 |zero=>
  obtain rfl:k=0:=by omega
  exact h
 |succ m ih=>
  by_cases e:k=m+1
  ·rw[←e];exact h
  ·simp only[walkG,ih (by omega)]
def tellS (_:Nat) (d:Int) (_:Nest) (mx:Int):Int:=max mx d
theorem walkS_ev (fu n:Nat) (l:List TInstr) (h:21<fu) (hl:l.length<fu) (hs:l.length<100000) (s0:Int):
 ∃os:Int,evF (G fu) (n+4) 123 [.d (.list (l.map TInstr.d)), .fn (.func 146) [] [.ptr 0 0]] [.cells [.d (.int .i64 s0)]]=some (.d (.bool (walkOk l)),[.cells [.d (.int .i64 os)]])∧
  ∀st s,walkG tellS s0 l l.length=some (st,s)→os=s:=by
 rw[evF.eq_2,evX.eq_def,Gext,exts_no _ (f:=123) (by decide),GP,Tryz.func123];simp only[Tryz.f123,evB]
 simp only[go_sem,seval, -Nat.reduceSubDiff,↓reduceIte,reduceCtorEq,List.length_map]
 generalize hr:loopN _ _ _ _ _=r
 obtain⟨x,s1,rfl,hx,hJ⟩: ∃x s1,r=some (x,s1)∧leaves x∧((∃st,∃s:Int,∃H,x= .exit 0∧walkG tellS s0 l l.length=some (st,s)∧WkX st H∧s1=⟨[(5, .ptr 832 0)],[(0, .cells [.d (.int .i64 s)])]++H⟩)∨
  (∃os:Int,x= .ret∧walkG tellS s0 l l.length=none∧s1=⟨[(4, .d (.bool false))],[(0, .cells [.d (.int .i64 os)])]⟩)):=by
  rw[←hr]
  refine loop_inv (J:=fun x s1=>((∃st,∃s:Int,∃H,x= .exit 0∧walkG tellS s0 l l.length=some (st,s)∧WkX st H∧s1=⟨[(5, .ptr 832 0)],[(0, .cells [.d (.int .i64 s)])]++H⟩)∨
   (∃os:Int,x= .ret∧walkG tellS s0 l l.length=none∧s1=⟨[(4, .d (.bool false))],[(0, .cells [.d (.int .i64 os)])]⟩)))
   l.length (fun i z=> ∃st,∃s:Int,∃H,walkG tellS s0 l i=some (st,s)∧WkH (.list (l.map TInstr.d)) st H∧z=⟨[(1, .fn (.func 146) [] [.ptr 0 0]),(2, .ptr 192 0),(5, .ptr 832 0),(13, .d (.list (l.map TInstr.d))),(14, .d (.int .i64 l.length)),(15, .d (.int .i64 i))],[(0, .cells [.d (.int .i64 s)])]++H⟩) ?_ ?_ fu _ hl ⟨[],s0,_,rfl, .nil rfl,rfl⟩
  ·rintro i z hi ⟨st,s,H,hw,hH,rfl⟩
   have W:=wrap_i64 (show-9223372036854775808≤(i:Int)+1 by omega) (by omega)
   have hw1: ∀st' d e,stepF l st i (l.getD i in0).op=some (st',d,e)→walkG tellS s0 l (i+1)=some (st',tellS i d e s):=fun st' d e h=>by simp only[walkG,hw,h]
   have hw2:stepF l st i (l.getD i in0).op=none→walkG tellS s0 l l.length=none:=fun h=>walkG_none (k:=i+1) (by simp only[walkG,hw,h]) _ (by omega)
   obtain⟨hin,hlen⟩:=walkG_in hw
   have hlen0:(0:Nat)≤i:=by omega
   have hop:opensB (l.getD i in0).op=true∨(opensB (l.getD i in0).op=false∧(l.getD i in0).op≠5∧(l.getD i in0).op≠11)∨((l.getD i in0).op=5∨(l.getD i in0).op=11):=by
    cases opensB (l.getD i in0).op<;>simp<;>omega
   cases hH with
   |nil hst=>
    subst hst
    rcases hop with ho|⟨ho,h5,h11⟩|h5
    ·have q:=step_nil_open fu n l i (l.getD i in0) h ho
     simp only[TInstr.d,nestD] at q
     simp only[go_sem,seval, -Nat.reduceSubDiff,↓reduceIte,reduceCtorEq,Int.ofNat_lt,hi,idx,getD_map (d:=in0) hi,TInstr.d,q,tellS_ev,W]
     exact⟨.normal,_,rfl,_,_,_,hw1 _ _ _ (stepF_open ho), .row [nestD (i, -1)] false (by simp),rfl⟩
    ·have q:=step_nil_plain fu n l i (l.getD i in0) h ho h5 h11
     simp only[TInstr.d,nestD] at q
     simp only[go_sem,seval, -Nat.reduceSubDiff,↓reduceIte,reduceCtorEq,Int.ofNat_lt,hi,idx,getD_map (d:=in0) hi,TInstr.d,q,tellS_ev,W]
     exact⟨.normal,_,rfl,_,_,_,hw1 _ _ _ (stepF_plain ho h5 h11), .nil rfl,rfl⟩
    ·have q:=step_nil_bare fu n l i (l.getD i in0) h h5
     simp only[TInstr.d,nestD] at q
     simp only[go_sem,seval, -Nat.reduceSubDiff,↓reduceIte,reduceCtorEq,Int.ofNat_lt,hi,idx,getD_map (d:=in0) hi,TInstr.d,q,hlen0,W]
     exact⟨.ret,_,rfl, .inr ⟨_,rfl,hw2 (stepF_bare h5),rfl⟩⟩
   |row xs chg hxs=>
    rcases hop with ho|⟨ho,h5,h11⟩|h5
    ·have q:=step_row_open fu n l i (l.getD i in0) h st.length xs ho (by omega)
     simp only[TInstr.d,nestD] at q
     simp only[go_sem,seval, -Nat.reduceSubDiff,↓reduceIte,reduceCtorEq,Int.ofNat_lt,hi,idx,getD_map (d:=in0) hi,TInstr.d,q,tellS_ev,W]
     exact⟨.normal,_,rfl,_,_,_,hw1 _ _ _ (stepF_open ho), .row _ _ (take_push hxs),rfl⟩
    ·have q:=step_row_plain fu n l i (l.getD i in0) h st.length xs ho h5 h11
     simp only[TInstr.d,nestD] at q
     simp only[go_sem,seval, -Nat.reduceSubDiff,↓reduceIte,reduceCtorEq,Int.ofNat_lt,hi,idx,getD_map (d:=in0) hi,TInstr.d,q,tellS_ev,W]
     exact⟨.normal,_,rfl,_,_,_,hw1 _ _ _ (stepF_plain ho h5 h11), .row _ _ hxs,rfl⟩
    ·cases st with
     |nil=>
      have q:=step_row_bare fu n l i (l.getD i in0) h xs h5
      simp only[TInstr.d,nestD] at q
      simp only[go_sem,seval, -Nat.reduceSubDiff,↓reduceIte,reduceCtorEq,Int.ofNat_lt,hi,idx,getD_map (d:=in0) hi,TInstr.d,q,hlen0,W]
      exact⟨.ret,_,rfl, .inr ⟨_,rfl,hw2 (stepF_bare h5),rfl⟩⟩
     |cons p st=>
      obtain⟨hx1,hx2⟩:=take_top hxs
      obtain⟨a,b⟩:=p
      have hab:nestIn i (a,b):=hin (a,b) (by simp)
      unfold nestIn at hab
      have hab1:0≤a∧a<(i:Int)∧(b= -1∨(0≤b∧b<(i:Int)∧a≠b)):=hab
      have hsl:st.length<1000000:=by simp at hlen;omega
      rcases h5 with h5|h11
      ·by_cases hh:b= -1∧ifAt l a=true
       ·have q:=step_row_else fu n l i (l.getD i in0) h st.length xs a b hx1 hsl h5 (by omega) (by omega)
        rw[if_pos hh] at q
        simp only[TInstr.d,nestD] at q
        simp only[go_sem,seval, -Nat.reduceSubDiff,↓reduceIte,reduceCtorEq,Int.ofNat_lt,hi,idx,getD_map (d:=in0) hi,TInstr.d,q,tellS_ev,W]
        exact⟨.normal,_,rfl,_,_,_,hw1 _ _ _ (by rw[h5];exact stepF_else (a,b) hh), .row _ _ (take_set hxs),rfl⟩
       ·have q:=step_row_else fu n l i (l.getD i in0) h st.length xs a b hx1 hsl h5 (by omega) (by omega)
        rw[if_neg hh] at q
        simp only[TInstr.d,nestD] at q
        simp only[go_sem,seval, -Nat.reduceSubDiff,↓reduceIte,reduceCtorEq,Int.ofNat_lt,hi,idx,getD_map (d:=in0) hi,TInstr.d,q,hlen0,W]
        exact⟨.ret,_,rfl, .inr ⟨_,rfl,hw2 (by rw[h5];exact stepF_twice (a,b) hh),rfl⟩⟩
      ·have q:=step_row_pop fu n l i (l.getD i in0) h st.length xs a b hx1 hsl h11
       simp only[TInstr.d,nestD] at q
       simp only[go_sem,seval, -Nat.reduceSubDiff,↓reduceIte,reduceCtorEq,Int.ofNat_lt,hi,idx,getD_map (d:=in0) hi,TInstr.d,q,tellS_ev,W]
       exact⟨.normal,_,rfl,_,_,_,hw1 _ _ _ (by rw[h11];exact stepF_pop (a,b)), .row _ _ hx2,rfl⟩
  ·rintro z ⟨st,s,H,hw,hH,rfl⟩
   cases hH with
   |nil hst=>
    simp only[go_sem,seval, -Nat.reduceSubDiff,↓reduceIte,reduceCtorEq,Int.ofNat_lt,Nat.lt_irrefl]
    exact⟨_,_,rfl,trivial, .inl ⟨_,_,_,rfl,hw, .nil hst,rfl⟩⟩
   |row xs chg hxs=>
    simp only[go_sem,seval, -Nat.reduceSubDiff,↓reduceIte,reduceCtorEq,Int.ofNat_lt,Nat.lt_irrefl]
    exact⟨_,_,rfl,trivial, .inl ⟨_,_,_,rfl,hw, .row xs chg hxs,rfl⟩⟩
 rcases hJ with⟨st,s,H,rfl,hw,hH,rfl⟩|⟨os,rfl,hw,rfl⟩
 ·refine⟨s, ?_,fun st' s' e=>by rw[hw] at e;cases e;rfl⟩
  have:walkOk l=decide (st.length=0):=by rw[walkOk_of hw];cases st<;>rfl
  rw[this]
  cases hH with
  |nil hst=>
   subst hst
   simp only[go_sem,seval, -Nat.reduceSubDiff,↓reduceIte,reduceCtorEq]
  |row xs chg hxs=>
   simp only[go_sem,seval, -Nat.reduceSubDiff,↓reduceIte,reduceCtorEq]
   exact congrArg (fun b=>some (V.d (D.bool b),_)) (decide_eq_decide.2 (by omega))
 ·refine⟨os, ?_,fun st s e=>by rw[hw] at e;cases e⟩
  simp only[go_sem,seval, -Nat.reduceSubDiff,↓reduceIte,reduceCtorEq,walkOk_none hw]
end Go.Proofs.YtfpioigggjnffaaGreatDoor.E
set_option autoImplicit false
set_option maxRecDepth 100000
set_option maxHeartbeats 4000000
set_option pp.maxSteps 20000
namespace Go.Proofs.YtfpioigggjnffaaGreatDoor.E
open Go.Ev
def tellM (l:List TInstr) (k:Nat) (_:Int) (e:Nest) (M:List Nest):List Nest:=
 if (l.getD k in0).op=11 then
  (if e.2= -1 then M.set e.1.toNat (e.2,↑k) else(M.set e.1.toNat (e.2,↑k)).set e.2.toNat (((M.set e.1.toNat (e.2,↑k)).getD e.2.toNat (0,0)).1,↑k))
 else M
theorem tellM_length (l:List TInstr) (k:Nat) (d:Int) (e:Nest) (M:List Nest):(tellM l k d e M).length=M.length:=by
 unfold tellM
 split
 ·split<;>simp
 ·rfl
theorem tellM_len {l:List TInstr} {s0:List Nest}: ∀{k:Nat} {st:List Nest} {s:List Nest},walkG (tellM l) s0 l k=some (st,s)→s.length=s0.length
 |0,st,s,h=>by
  simp only[walkG,Option.some.injEq,Prod.mk.injEq] at h
  rw[←h.2]
 |k+1,st,s,h=>by
  simp only[walkG] at h
  split at h
  ·cases h
  ·rename_i st0 ts0 h0
   split at h
   ·cases h
   ·rename_i st1 d e h1
    simp only[Option.some.injEq,Prod.mk.injEq] at h
    obtain⟨rfl,rfl⟩:=h
    rw[tellM_length]
    exact tellM_len h0
section
variable (fu n:Nat) (l:List TInstr) (k:Nat) (hk:k<l.length) (d a b:Int) (M:List Nest)
include hk
theorem tellM_other (h11:(l.getD k in0).op≠11):evF (G fu) (n+1) 124 [.d (.int .i64 k), .d (.int .i64 d), .d (.agg [.int .i64 a, .int .i64 b]), .ptr 0 0, .ptr 1 0] [.cells [.d (.list (l.map TInstr.d))], .cells [.row 2 0 0 l.length], .row 2 (M.map nestD) 0 false false]=
 some (.tup [],[.cells [.d (.list (l.map TInstr.d))], .cells [.row 2 0 0 l.length], .row 2 ((tellM l k d (a,b) M).map nestD) 0 false false]):=by
 rw[evF.eq_2,evX.eq_def,Gext,exts_no _ (f:=124) (by decide),GP,Tryz.func124];simp only[Tryz.f124,evB]
 simp only[go_sem,seval, -Nat.reduceSubDiff,↓reduceIte,reduceCtorEq,idx,getD_map (d:=in0) hk,TInstr.d,tellM,h11]
variable (h11:(l.getD k in0).op=11) (ha:0≤a) (hal:a<l.length) (hM:M.length=l.length)
include h11 ha hal hM
theorem tellM_end (hb:b= -1):evF (G fu) (n+1) 124 [.d (.int .i64 k), .d (.int .i64 d), .d (.agg [.int .i64 a, .int .i64 b]), .ptr 0 0, .ptr 1 0] [.cells [.d (.list (l.map TInstr.d))], .cells [.row 2 0 0 l.length], .row 2 (M.map nestD) 0 false false]=
 some (.tup [],[.cells [.d (.list (l.map TInstr.d))], .cells [.row 2 0 0 l.length], .row 2 ((tellM l k d (a,b) M).map nestD) 0 false false]):=by
 subst hb
 have hx:(M.map nestD)[a.toNat]? =some (.agg [.int .i64 (M.getD a.toNat (0,0)).1, .int .i64 (M.getD a.toNat (0,0)).2]):=getD_map (f:=nestD) (by omega)
 rw[evF.eq_2,evX.eq_def,Gext,exts_no _ (f:=124) (by decide),GP,Tryz.func124];simp only[Tryz.f124,evB]
 simp only[go_sem,seval, -Nat.reduceSubDiff,↓reduceIte,reduceCtorEq,idx,getD_map (d:=in0) hk,TInstr.d,tellM,h11,ha,hal,hx,List.map_set,nestD]
theorem tellM_both (hb: ¬b= -1) (hb0:0≤b) (hbl:b<l.length):evF (G fu) (n+1) 124 [.d (.int .i64 k), .d (.int .i64 d), .d (.agg [.int .i64 a, .int .i64 b]), .ptr 0 0, .ptr 1 0] [.cells [.d (.list (l.map TInstr.d))], .cells [.row 2 0 0 l.length], .row 2 (M.map nestD) 0 false false]=
 some (.tup [],[.cells [.d (.list (l.map TInstr.d))], .cells [.row 2 0 0 l.length], .row 2 ((tellM l k d (a,b) M).map nestD) 0 false false]):=by
 have hx:(M.map nestD)[a.toNat]? =some (.agg [.int .i64 (M.getD a.toNat (0,0)).1, .int .i64 (M.getD a.toNat (0,0)).2]):=getD_map (f:=nestD) (by omega)
 have hy:((M.map nestD).set a.toNat (.agg [.int .i64 b, .int .i64 k]))[b.toNat]? =some (.agg [.int .i64 ((M.set a.toNat (b,↑k)).getD b.toNat (0,0)).1, .int .i64 ((M.set a.toNat (b,↑k)).getD b.toNat (0,0)).2]):=by
  have:=getD_map (f:=nestD) (l:=M.set a.toNat (b,(k:Int))) (i:=b.toNat) (d:=(0,0)) (by simp;omega)
  rw[List.map_set] at this
  exact this
 rw[evF.eq_2,evX.eq_def,Gext,exts_no _ (f:=124) (by decide),GP,Tryz.func124];simp only[Tryz.f124,evB]
 simp only[go_sem,seval, -Nat.reduceSubDiff,↓reduceIte,reduceCtorEq,idx,getD_map (d:=in0) hk,TInstr.d,tellM,h11,ha,hal,hx,hb,hb0,hbl,hy,List.map_set,nestD]
end
theorem walkM_ev (fu n:Nat) (l:List TInstr) (h:21<fu) (hl:l.length<fu) (hs:l.length<100000) (s0:List Nest) (hs0:s0.length=l.length):
 ∃os:List Nest,evF (G fu) (n+4) 123 [.d (.list (l.map TInstr.d)), .fn (.func 124) [] [.ptr 0 0, .ptr 1 0]] [.cells [.d (.list (l.map TInstr.d))], .cells [.row 2 0 0 l.length], .row 2 ((s0).map nestD) 0 false false]=some (.d (.bool (walkOk l)),[.cells [.d (.list (l.map TInstr.d))], .cells [.row 2 0 0 l.length], .row 2 ((os).map nestD) 0 false false])∧
  ∀st s,walkG (tellM l) s0 l l.length=some (st,s)→os=s:=by
 rw[evF.eq_2,evX.eq_def,Gext,exts_no _ (f:=123) (by decide),GP,Tryz.func123];simp only[Tryz.f123,evB]
 simp only[go_sem,seval, -Nat.reduceSubDiff,↓reduceIte,reduceCtorEq,List.length_map]
 generalize hr:loopN _ _ _ _ _=r
 obtain⟨x,s1,rfl,hx,hJ⟩: ∃x s1,r=some (x,s1)∧leaves x∧((∃st,∃s:List Nest,∃H,x= .exit 0∧walkG (tellM l) s0 l l.length=some (st,s)∧WkX st H∧s1=⟨[(5, .ptr 832 0)],[(0, .cells [.d (.list (l.map TInstr.d))]),(1, .cells [.row 2 0 0 l.length]),(2, .row 2 ((s).map nestD) 0 false false)]++H⟩)∨
  (∃os:List Nest,x= .ret∧walkG (tellM l) s0 l l.length=none∧s1=⟨[(4, .d (.bool false))],[(0, .cells [.d (.list (l.map TInstr.d))]),(1, .cells [.row 2 0 0 l.length]),(2, .row 2 ((os).map nestD) 0 false false)]⟩)):=by
  rw[←hr]
  refine loop_inv (J:=fun x s1=>((∃st,∃s:List Nest,∃H,x= .exit 0∧walkG (tellM l) s0 l l.length=some (st,s)∧WkX st H∧s1=⟨[(5, .ptr 832 0)],[(0, .cells [.d (.list (l.map TInstr.d))]),(1, .cells [.row 2 0 0 l.length]),(2, .row 2 ((s).map nestD) 0 false false)]++H⟩)∨
   (∃os:List Nest,x= .ret∧walkG (tellM l) s0 l l.length=none∧s1=⟨[(4, .d (.bool false))],[(0, .cells [.d (.list (l.map TInstr.d))]),(1, .cells [.row 2 0 0 l.length]),(2, .row 2 ((os).map nestD) 0 false false)]⟩)))
   l.length (fun i z=> ∃st,∃s:List Nest,∃H,walkG (tellM l) s0 l i=some (st,s)∧WkH (.list (l.map TInstr.d)) st H∧z=⟨[(1, .fn (.func 124) [] [.ptr 0 0, .ptr 1 0]),(2, .ptr 192 0),(5, .ptr 832 0),(13, .d (.list (l.map TInstr.d))),(14, .d (.int .i64 l.length)),(15, .d (.int .i64 i))],[(0, .cells [.d (.list (l.map TInstr.d))]),(1, .cells [.row 2 0 0 l.length]),(2, .row 2 ((s).map nestD) 0 false false)]++H⟩) ?_ ?_ fu _ hl ⟨[],s0,_,rfl, .nil rfl,rfl⟩
  ·rintro i z hi ⟨st,s,H,hw,hH,rfl⟩
   have W:=wrap_i64 (show-9223372036854775808≤(i:Int)+1 by omega) (by omega)
   have hw1: ∀st' d e,stepF l st i (l.getD i in0).op=some (st',d,e)→walkG (tellM l) s0 l (i+1)=some (st',(tellM l) i d e s):=fun st' d e h=>by simp only[walkG,hw,h]
   have hw2:stepF l st i (l.getD i in0).op=none→walkG (tellM l) s0 l l.length=none:=fun h=>walkG_none (k:=i+1) (by simp only[walkG,hw,h]) _ (by omega)
   obtain⟨hin,hlen⟩:=walkG_in hw
   have hlen0:(0:Nat)≤i:=by omega
   have hop:opensB (l.getD i in0).op=true∨(opensB (l.getD i in0).op=false∧(l.getD i in0).op≠5∧(l.getD i in0).op≠11)∨((l.getD i in0).op=5∨(l.getD i in0).op=11):=by
    cases opensB (l.getD i in0).op<;>simp<;>omega
   have hM:s.length=l.length:=(tellM_len hw).trans hs0
   cases hH with
   |nil hst=>
    subst hst
    rcases hop with ho|⟨ho,h5,h11⟩|h5
    ·have q:=step_nil_open fu n l i (l.getD i in0) h ho
     simp only[TInstr.d,nestD] at q
     simp only[go_sem,seval, -Nat.reduceSubDiff,↓reduceIte,reduceCtorEq,Int.ofNat_lt,hi,idx,getD_map (d:=in0) hi,TInstr.d,q,tellM_other fu (n+2) l i hi _ _ _ _ (opens_not11 ho),W]
     exact⟨.normal,_,rfl,_,_,_,hw1 _ _ _ (stepF_open ho), .row [nestD (i, -1)] false (by simp),rfl⟩
    ·have q:=step_nil_plain fu n l i (l.getD i in0) h ho h5 h11
     simp only[TInstr.d,nestD] at q
     simp only[go_sem,seval, -Nat.reduceSubDiff,↓reduceIte,reduceCtorEq,Int.ofNat_lt,hi,idx,getD_map (d:=in0) hi,TInstr.d,q,tellM_other fu (n+2) l i hi _ _ _ _ h11,W]
     exact⟨.normal,_,rfl,_,_,_,hw1 _ _ _ (stepF_plain ho h5 h11), .nil rfl,rfl⟩
    ·have q:=step_nil_bare fu n l i (l.getD i in0) h h5
     simp only[TInstr.d,nestD] at q
     simp only[go_sem,seval, -Nat.reduceSubDiff,↓reduceIte,reduceCtorEq,Int.ofNat_lt,hi,idx,getD_map (d:=in0) hi,TInstr.d,q,hlen0,W]
     exact⟨.ret,_,rfl, .inr ⟨_,rfl,hw2 (stepF_bare h5),rfl⟩⟩
   |row xs chg hxs=>
    rcases hop with ho|⟨ho,h5,h11⟩|h5
    ·have q:=step_row_open fu n l i (l.getD i in0) h st.length xs ho (by omega)
     simp only[TInstr.d,nestD] at q
     simp only[go_sem,seval, -Nat.reduceSubDiff,↓reduceIte,reduceCtorEq,Int.ofNat_lt,hi,idx,getD_map (d:=in0) hi,TInstr.d,q,tellM_other fu (n+2) l i hi _ _ _ _ (opens_not11 ho),W]
     exact⟨.normal,_,rfl,_,_,_,hw1 _ _ _ (stepF_open ho), .row _ _ (take_push hxs),rfl⟩
    ·have q:=step_row_plain fu n l i (l.getD i in0) h st.length xs ho h5 h11
     simp only[TInstr.d,nestD] at q
     simp only[go_sem,seval, -Nat.reduceSubDiff,↓reduceIte,reduceCtorEq,Int.ofNat_lt,hi,idx,getD_map (d:=in0) hi,TInstr.d,q,tellM_other fu (n+2) l i hi _ _ _ _ h11,W]
     exact⟨.normal,_,rfl,_,_,_,hw1 _ _ _ (stepF_plain ho h5 h11), .row _ _ hxs,rfl⟩
    ·cases st with
     |nil=>
      have q:=step_row_bare fu n l i (l.getD i in0) h xs h5
      simp only[TInstr.d,nestD] at q
      simp only[go_sem,seval, -Nat.reduceSubDiff,↓reduceIte,reduceCtorEq,Int.ofNat_lt,hi,idx,getD_map (d:=in0) hi,TInstr.d,q,hlen0,W]
      exact⟨.ret,_,rfl, .inr ⟨_,rfl,hw2 (stepF_bare h5),rfl⟩⟩
     |cons p st=>
      obtain⟨hx1,hx2⟩:=take_top hxs
      obtain⟨a,b⟩:=p
      have hab:nestIn i (a,b):=hin (a,b) (by simp)
      unfold nestIn at hab
      have hab1:0≤a∧a<(i:Int)∧(b= -1∨(0≤b∧b<(i:Int)∧a≠b)):=hab
      have hsl:st.length<1000000:=by simp at hlen;omega
      rcases h5 with h5|h11
      ·by_cases hh:b= -1∧ifAt l a=true
       ·have q:=step_row_else fu n l i (l.getD i in0) h st.length xs a b hx1 hsl h5 (by omega) (by omega)
        rw[if_pos hh] at q
        simp only[TInstr.d,nestD] at q
        simp only[go_sem,seval, -Nat.reduceSubDiff,↓reduceIte,reduceCtorEq,Int.ofNat_lt,hi,idx,getD_map (d:=in0) hi,TInstr.d,q,tellM_other fu (n+2) l i hi _ _ _ _ (by omega),W]
        exact⟨.normal,_,rfl,_,_,_,hw1 _ _ _ (by rw[h5];exact stepF_else (a,b) hh), .row _ _ (take_set hxs),rfl⟩
       ·have q:=step_row_else fu n l i (l.getD i in0) h st.length xs a b hx1 hsl h5 (by omega) (by omega)
        rw[if_neg hh] at q
        simp only[TInstr.d,nestD] at q
        simp only[go_sem,seval, -Nat.reduceSubDiff,↓reduceIte,reduceCtorEq,Int.ofNat_lt,hi,idx,getD_map (d:=in0) hi,TInstr.d,q,hlen0,W]
        exact⟨.ret,_,rfl, .inr ⟨_,rfl,hw2 (by rw[h5];exact stepF_twice (a,b) hh),rfl⟩⟩
      ·by_cases hpop:b= -1
       ·have q:=step_row_pop fu n l i (l.getD i in0) h st.length xs a b hx1 hsl h11
        simp only[TInstr.d,nestD] at q
        simp only[go_sem,seval, -Nat.reduceSubDiff,↓reduceIte,reduceCtorEq,Int.ofNat_lt,hi,idx,getD_map (d:=in0) hi,TInstr.d,q,tellM_end fu (n+2) l i hi st.length a b s h11 (by omega) (by omega) hM hpop,W]
        exact⟨.normal,_,rfl,_,_,_,hw1 _ _ _ (by rw[h11];exact stepF_pop (a,b)), .row _ _ hx2,rfl⟩
       ·have q:=step_row_pop fu n l i (l.getD i in0) h st.length xs a b hx1 hsl h11
        simp only[TInstr.d,nestD] at q
        simp only[go_sem,seval, -Nat.reduceSubDiff,↓reduceIte,reduceCtorEq,Int.ofNat_lt,hi,idx,getD_map (d:=in0) hi,TInstr.d,q,tellM_both fu (n+2) l i hi st.length a b s h11 (by omega) (by omega) hM hpop (by omega) (by omega),W]
        exact⟨.normal,_,rfl,_,_,_,hw1 _ _ _ (by rw[h11];exact stepF_pop (a,b)), .row _ _ hx2,rfl⟩
  ·rintro z ⟨st,s,H,hw,hH,rfl⟩
   cases hH with
   |nil hst=>
    simp only[go_sem,seval, -Nat.reduceSubDiff,↓reduceIte,reduceCtorEq,Int.ofNat_lt,Nat.lt_irrefl]
    exact⟨_,_,rfl,trivial, .inl ⟨_,_,_,rfl,hw, .nil hst,rfl⟩⟩
   |row xs chg hxs=>
    simp only[go_sem,seval, -Nat.reduceSubDiff,↓reduceIte,reduceCtorEq,Int.ofNat_lt,Nat.lt_irrefl]
    exact⟨_,_,rfl,trivial, .inl ⟨_,_,_,rfl,hw, .row xs chg hxs,rfl⟩⟩
 rcases hJ with⟨st,s,H,rfl,hw,hH,rfl⟩|⟨os,rfl,hw,rfl⟩
 ·refine⟨s, ?_,fun st' s' e=>by rw[hw] at e;cases e;rfl⟩
  have:walkOk l=decide (st.length=0):=by rw[walkOk_of hw];cases st<;>rfl
  rw[this]
  cases hH with
  |nil hst=>
   subst hst
   simp only[go_sem,seval, -Nat.reduceSubDiff,↓reduceIte,reduceCtorEq]
  |row xs chg hxs=>
   simp only[go_sem,seval, -Nat.reduceSubDiff,↓reduceIte,reduceCtorEq]
   exact congrArg (fun b=>some (V.d (D.bool b),_)) (decide_eq_decide.2 (by omega))
 ·refine⟨os, ?_,fun st s e=>by rw[hw] at e;cases e⟩
  simp only[go_sem,seval, -Nat.reduceSubDiff,↓reduceIte,reduceCtorEq,walkOk_none hw]
end Go.Proofs.YtfpioigggjnffaaGreatDoor.E
