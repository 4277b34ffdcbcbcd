/- F2, F3. -/
import Derived.Test.YtfpioigggjnffaaGreatDoorF1
set_option linter.unnecessarySimpa false
set_option linter.unusedSimpArgs false
set_option linter.unusedVariables false
set_option autoImplicit false
set_option maxRecDepth 100000
set_option maxHeartbeats 4000000
set_option pp.maxSteps 20000
namespace Go.Proofs.YtfpioigggjnffaaGreatDoor.E
open Go.Ev
abbrev Nest:=Int×Int
def nestD (p:Nest):D:= .agg [.int .i64 p.1, .int .i64 p.2]
def ifAt (l:List TInstr) (k:Int):Bool:=decide ((l.getD k.toNat in0).op=4)
theorem if_ev (fu n:Nat) (l:List TInstr) (k:Int) (h0:0≤k) (hk:k<l.length):evF (G fu) (n+1) 174 [.d (.int .i64 k), .ptr 0 0] [.cells [.d (.list (l.map TInstr.d))]]=some (.d (.bool (ifAt l k)),[.cells [.d (.list (l.map TInstr.d))]]):=by
 rw[evF.eq_2,evX.eq_def,Gext,exts_no _ (f:=174) (by decide),GP,Tryz.func174];simp only[Tryz.f174,evB]
 simp only[go_sem,Nat.reduceAdd,Nat.reduceMul,Nat.reduceSub,Nat.reduceLT,Nat.reduceLeDiff,Nat.reduceEqDiff,Nat.reduceBEq,Nat.reduceBeqDiff,Int.reduceEq,Int.reduceLT,Int.reduceLE,Int.reduceToNat,Int.reduceNeg,Int.reduceAdd,Int.reduceSub,Int.reduceMul,reduceIte,reduceCtorEq,Nat.reducePow,Nat.reduceDiv,Nat.reduceMod,Int.reduceBEq,idx,h0,getD_map (d:=in0) (show k.toNat<l.length by omega),TInstr.d]<;>rfl
section
variable (fu n:Nat) (l:List TInstr) (k:Int) (i:TInstr) (h:21<fu)
include h
theorem step_nil_open (ho:opensB i.op=true):evF (G fu) (n+3) 133 [.ptr 0 0, .d (.int .i64 k), .d i.d, .fn (.func 174) [] [.ptr 1 0]] [.cells [.nilsl], .cells [.d (.list (l.map TInstr.d))]]=
 some (.tup [.d (.int .i64 0), .d (nestD (0,0)), .d (.bool true)],[.cells [.row 2 0 0 1], .cells [.d (.list (l.map TInstr.d))], .row 2 [nestD (k, -1)] 0 false false]):=by
 rw[evF.eq_2,evX.eq_def,Gext,exts_no _ (f:=133) (by decide),GP,Tryz.func133];simp only[Tryz.f133,evB]
 simp only[go_sem,Nat.reduceAdd,Nat.reduceMul,Nat.reduceSub,Nat.reduceLT,Nat.reduceLeDiff,Nat.reduceEqDiff,Nat.reduceBEq,Nat.reduceBeqDiff,Int.reduceEq,Int.reduceLT,Int.reduceLE,Int.reduceToNat,Int.reduceNeg,Int.reduceAdd,Int.reduceSub,Int.reduceMul,reduceIte,reduceCtorEq,Nat.reducePow,Nat.reduceDiv,Nat.reduceMod,Int.reduceBEq,TInstr.d,opens_ev fu n _ _ _ _ _ h,ho]<;>rfl
theorem step_nil_plain (ho:opensB i.op=false) (h5:i.op≠5) (h11:i.op≠11):evF (G fu) (n+3) 133 [.ptr 0 0, .d (.int .i64 k), .d i.d, .fn (.func 174) [] [.ptr 1 0]] [.cells [.nilsl], .cells [.d (.list (l.map TInstr.d))]]=
 some (.tup [.d (.int .i64 0), .d (nestD (0,0)), .d (.bool true)],[.cells [.nilsl], .cells [.d (.list (l.map TInstr.d))]]):=by
 rw[evF.eq_2,evX.eq_def,Gext,exts_no _ (f:=133) (by decide),GP,Tryz.func133];simp only[Tryz.f133,evB]
 simp only[go_sem,Nat.reduceAdd,Nat.reduceMul,Nat.reduceSub,Nat.reduceLT,Nat.reduceLeDiff,Nat.reduceEqDiff,Nat.reduceBEq,Nat.reduceBeqDiff,Int.reduceEq,Int.reduceLT,Int.reduceLE,Int.reduceToNat,Int.reduceNeg,Int.reduceAdd,Int.reduceSub,Int.reduceMul,reduceIte,reduceCtorEq,Nat.reducePow,Nat.reduceDiv,Nat.reduceMod,Int.reduceBEq,TInstr.d,opens_ev fu n _ _ _ _ _ h,ho,h5,h11]<;>rfl
theorem step_nil_bare (h5:i.op=5∨i.op=11):evF (G fu) (n+3) 133 [.ptr 0 0, .d (.int .i64 k), .d i.d, .fn (.func 174) [] [.ptr 1 0]] [.cells [.nilsl], .cells [.d (.list (l.map TInstr.d))]]=
 some (.tup [.d (.int .i64 0), .d (nestD (0,0)), .d (.bool false)],[.cells [.nilsl], .cells [.d (.list (l.map TInstr.d))]]):=by
 rw[evF.eq_2,evX.eq_def,Gext,exts_no _ (f:=133) (by decide),GP,Tryz.func133];simp only[Tryz.f133,evB]
 rcases h5 with h5|h5<;>simp only[go_sem,Nat.reduceAdd,Nat.reduceMul,Nat.reduceSub,Nat.reduceLT,Nat.reduceLeDiff,Nat.reduceEqDiff,Nat.reduceBEq,Nat.reduceBeqDiff,Int.reduceEq,Int.reduceLT,Int.reduceLE,Int.reduceToNat,Int.reduceNeg,Int.reduceAdd,Int.reduceSub,Int.reduceMul,reduceIte,reduceCtorEq,Nat.reducePow,Nat.reduceDiv,Nat.reduceMod,Int.reduceBEq,TInstr.d,opens_ev fu n _ _ _ _ _ h,opens5,opens11,h5]<;>rfl
variable (m:Nat) (xs:List D)
theorem step_row_open (ho:opensB i.op=true) (hm:m<1000000):evF (G fu) (n+3) 133 [.ptr 0 0, .d (.int .i64 k), .d i.d, .fn (.func 174) [] [.ptr 2 0]] [.cells [.row 1 0 0 m], .row 2 xs 0 false false, .cells [.d (.list (l.map TInstr.d))]]=
 some (.tup [.d (.int .i64 m), .d (nestD (0,0)), .d (.bool true)],[.cells [.row 1 0 0 (m+1)], .row 2 (xs.take m++[nestD (k, -1)]) 0 false true, .cells [.d (.list (l.map TInstr.d))]]):=by
 rw[evF.eq_2,evX.eq_def,Gext,exts_no _ (f:=133) (by decide),GP,Tryz.func133];simp only[Tryz.f133,evB]
 simp only[go_sem,Nat.reduceAdd,Nat.reduceMul,Nat.reduceSub,Nat.reduceLT,Nat.reduceLeDiff,Nat.reduceEqDiff,Nat.reduceBEq,Nat.reduceBeqDiff,Int.reduceEq,Int.reduceLT,Int.reduceLE,Int.reduceToNat,Int.reduceNeg,Int.reduceAdd,Int.reduceSub,Int.reduceMul,reduceIte,reduceCtorEq,Nat.reducePow,Nat.reduceDiv,Nat.reduceMod,Int.reduceBEq,TInstr.d,opens_ev fu n _ _ _ _ _ h,ho,show m+1≤1099511627776 by omega]<;>rfl
theorem step_row_plain (ho:opensB i.op=false) (h5:i.op≠5) (h11:i.op≠11):evF (G fu) (n+3) 133 [.ptr 0 0, .d (.int .i64 k), .d i.d, .fn (.func 174) [] [.ptr 2 0]] [.cells [.row 1 0 0 m], .row 2 xs 0 false false, .cells [.d (.list (l.map TInstr.d))]]=
 some (.tup [.d (.int .i64 m), .d (nestD (0,0)), .d (.bool true)],[.cells [.row 1 0 0 m], .row 2 xs 0 false false, .cells [.d (.list (l.map TInstr.d))]]):=by
 rw[evF.eq_2,evX.eq_def,Gext,exts_no _ (f:=133) (by decide),GP,Tryz.func133];simp only[Tryz.f133,evB]
 simp only[go_sem,Nat.reduceAdd,Nat.reduceMul,Nat.reduceSub,Nat.reduceLT,Nat.reduceLeDiff,Nat.reduceEqDiff,Nat.reduceBEq,Nat.reduceBeqDiff,Int.reduceEq,Int.reduceLT,Int.reduceLE,Int.reduceToNat,Int.reduceNeg,Int.reduceAdd,Int.reduceSub,Int.reduceMul,reduceIte,reduceCtorEq,Nat.reducePow,Nat.reduceDiv,Nat.reduceMod,Int.reduceBEq,TInstr.d,opens_ev fu n _ _ _ _ _ h,ho,h5,h11]<;>rfl
theorem step_row_bare (h5:i.op=5∨i.op=11):evF (G fu) (n+3) 133 [.ptr 0 0, .d (.int .i64 k), .d i.d, .fn (.func 174) [] [.ptr 2 0]] [.cells [.row 1 0 0 0], .row 2 xs 0 false false, .cells [.d (.list (l.map TInstr.d))]]=
 some (.tup [.d (.int .i64 0), .d (nestD (0,0)), .d (.bool false)],[.cells [.row 1 0 0 0], .row 2 xs 0 false false, .cells [.d (.list (l.map TInstr.d))]]):=by
 rw[evF.eq_2,evX.eq_def,Gext,exts_no _ (f:=133) (by decide),GP,Tryz.func133];simp only[Tryz.f133,evB]
 rcases h5 with h5|h5<;>simp only[go_sem,Nat.reduceAdd,Nat.reduceMul,Nat.reduceSub,Nat.reduceLT,Nat.reduceLeDiff,Nat.reduceEqDiff,Nat.reduceBEq,Nat.reduceBeqDiff,Int.reduceEq,Int.reduceLT,Int.reduceLE,Int.reduceToNat,Int.reduceNeg,Int.reduceAdd,Int.reduceSub,Int.reduceMul,reduceIte,reduceCtorEq,Nat.reducePow,Nat.reduceDiv,Nat.reduceMod,Int.reduceBEq,TInstr.d,opens_ev fu n _ _ _ _ _ h,opens5,opens11,h5]<;>rfl
theorem step_row_pop (a b:Int) (hx:xs[m]? =some (nestD (a,b))) (hm:m<1000000) (h11:i.op=11):evF (G fu) (n+3) 133 [.ptr 0 0, .d (.int .i64 k), .d i.d, .fn (.func 174) [] [.ptr 2 0]] [.cells [.row 1 0 0 (m+1)], .row 2 xs 0 false false, .cells [.d (.list (l.map TInstr.d))]]=
 some (.tup [.d (.int .i64 m), .d (nestD (a,b)), .d (.bool true)],[.cells [.row 1 0 0 m], .row 2 xs 0 false false, .cells [.d (.list (l.map TInstr.d))]]):=by
 rw[evF.eq_2,evX.eq_def,Gext,exts_no _ (f:=133) (by decide),GP,Tryz.func133];simp only[Tryz.f133,evB]
 simp only[go_sem,Nat.reduceAdd,Nat.reduceMul,Nat.reduceSub,Nat.reduceLT,Nat.reduceLeDiff,Nat.reduceEqDiff,Nat.reduceBEq,Nat.reduceBeqDiff,Int.reduceEq,Int.reduceLT,Int.reduceLE,Int.reduceToNat,Int.reduceNeg,Int.reduceAdd,Int.reduceSub,Int.reduceMul,reduceIte,reduceCtorEq,Nat.reducePow,Nat.reduceDiv,Nat.reduceMod,Int.reduceBEq,TInstr.d,opens_ev fu n _ _ _ _ _ h,opens11,h11,show((m+1:Nat):Int)≠0 by omega,show((m+1:Nat):Int)-1=m by omega,wrap_i64 (show-9223372036854775808≤(m:Int) by omega) (by omega),show(m:Int)<((m+1:Nat):Int) by omega,show(m:Int)≤((m+1:Nat):Int) by omega,hx,nestD,Int.sub_zero,Int.toNat_zero]
 rw[cond_free]
 ·simp only[go_sem,Nat.reduceAdd,Nat.reduceMul,Nat.reduceSub,Nat.reduceLT,Nat.reduceLeDiff,Nat.reduceEqDiff,Nat.reduceBEq,Nat.reduceBeqDiff,Int.reduceEq,Int.reduceLT,Int.reduceLE,Int.reduceToNat,Int.reduceNeg,Int.reduceAdd,Int.reduceSub,Int.reduceMul,reduceIte,reduceCtorEq,Nat.reducePow,Nat.reduceDiv,Nat.reduceMod,Int.reduceBEq]<;>rfl
 ·rfl
theorem step_row_else (a b:Int) (hx:xs[m]? =some (nestD (a,b))) (hm:m<1000000) (h5:i.op=5) (ha:0≤a) (hl:a<l.length):evF (G fu) (n+3) 133 [.ptr 0 0, .d (.int .i64 k), .d i.d, .fn (.func 174) [] [.ptr 2 0]] [.cells [.row 1 0 0 (m+1)], .row 2 xs 0 false false, .cells [.d (.list (l.map TInstr.d))]]=
 if b= -1∧ifAt l a=true then some (.tup [.d (.int .i64 m), .d (nestD (a,b)), .d (.bool true)],[.cells [.row 1 0 0 (m+1)], .row 2 (xs.set m (nestD (a,k))) 0 false false, .cells [.d (.list (l.map TInstr.d))]])
 else some (.tup [.d (.int .i64 0), .d (nestD (0,0)), .d (.bool false)],[.cells [.row 1 0 0 (m+1)], .row 2 xs 0 false false, .cells [.d (.list (l.map TInstr.d))]]):=by
 rw[evF.eq_2,evX.eq_def,Gext,exts_no _ (f:=133) (by decide),GP,Tryz.func133];simp only[Tryz.f133,evB]
 by_cases hb:b= -1
 ·by_cases hi:ifAt l a=true
  ·simp only[go_sem,Nat.reduceAdd,Nat.reduceMul,Nat.reduceSub,Nat.reduceLT,Nat.reduceLeDiff,Nat.reduceEqDiff,Nat.reduceBEq,Nat.reduceBeqDiff,Int.reduceEq,Int.reduceLT,Int.reduceLE,Int.reduceToNat,Int.reduceNeg,Int.reduceAdd,Int.reduceSub,Int.reduceMul,reduceIte,reduceCtorEq,Nat.reducePow,Nat.reduceDiv,Nat.reduceMod,Int.reduceBEq,TInstr.d,opens_ev fu n _ _ _ _ _ h,opens5,h5,show((m+1:Nat):Int)≠0 by omega,show((m+1:Nat):Int)-1=m by omega,wrap_i64 (show-9223372036854775808≤(m:Int) by omega) (by omega),show(m:Int)<((m+1:Nat):Int) by omega,show(m:Int)≤((m+1:Nat):Int) by omega,hx,nestD,Int.sub_zero,Int.toNat_zero,hb,if_ev fu (n+1) l a ha hl,hi]
   rw[cond_free]
   ·simp only[go_sem,Nat.reduceAdd,Nat.reduceMul,Nat.reduceSub,Nat.reduceLT,Nat.reduceLeDiff,Nat.reduceEqDiff,Nat.reduceBEq,Nat.reduceBeqDiff,Int.reduceEq,Int.reduceLT,Int.reduceLE,Int.reduceToNat,Int.reduceNeg,Int.reduceAdd,Int.reduceSub,Int.reduceMul,reduceIte,reduceCtorEq,Nat.reducePow,Nat.reduceDiv,Nat.reduceMod,Int.reduceBEq]<;>rfl
   ·rfl
  ·simp only[go_sem,Nat.reduceAdd,Nat.reduceMul,Nat.reduceSub,Nat.reduceLT,Nat.reduceLeDiff,Nat.reduceEqDiff,Nat.reduceBEq,Nat.reduceBeqDiff,Int.reduceEq,Int.reduceLT,Int.reduceLE,Int.reduceToNat,Int.reduceNeg,Int.reduceAdd,Int.reduceSub,Int.reduceMul,reduceIte,reduceCtorEq,Nat.reducePow,Nat.reduceDiv,Nat.reduceMod,Int.reduceBEq,TInstr.d,opens_ev fu n _ _ _ _ _ h,opens5,h5,show((m+1:Nat):Int)≠0 by omega,show((m+1:Nat):Int)-1=m by omega,wrap_i64 (show-9223372036854775808≤(m:Int) by omega) (by omega),show(m:Int)<((m+1:Nat):Int) by omega,show(m:Int)≤((m+1:Nat):Int) by omega,hx,nestD,Int.sub_zero,Int.toNat_zero,hb,if_ev fu (n+1) l a ha hl,hi]<;>rfl
 ·simp only[go_sem,Nat.reduceAdd,Nat.reduceMul,Nat.reduceSub,Nat.reduceLT,Nat.reduceLeDiff,Nat.reduceEqDiff,Nat.reduceBEq,Nat.reduceBeqDiff,Int.reduceEq,Int.reduceLT,Int.reduceLE,Int.reduceToNat,Int.reduceNeg,Int.reduceAdd,Int.reduceSub,Int.reduceMul,reduceIte,reduceCtorEq,Nat.reducePow,Nat.reduceDiv,Nat.reduceMod,Int.reduceBEq,TInstr.d,opens_ev fu n _ _ _ _ _ h,opens5,h5,show((m+1:Nat):Int)≠0 by omega,show((m+1:Nat):Int)-1=m by omega,wrap_i64 (show-9223372036854775808≤(m:Int) by omega) (by omega),show(m:Int)<((m+1:Nat):Int) by omega,show(m:Int)≤((m+1:Nat):Int) by omega,hx,nestD,Int.sub_zero,Int.toNat_zero,hb]<;>rfl
end
end Go.Proofs.YtfpioigggjnffaaGreatDoor.E
set_option autoImplicit false
set_option maxRecDepth 100000
set_option maxHeartbeats 4000000
set_option pp.maxSteps 20000
namespace Go.Proofs.YtfpioigggjnffaaGreatDoor.E
open Go.Ev
def stepF (l:List TInstr) (st:List Nest) (k:Nat) (op:Int):Option (List Nest×Int×Nest):=
 if opensB op then some ((↑k, -1)::st,st.length,(0,0))
 else if op≠5∧op≠11 then some (st,st.length,(0,0))
 else match st with
  |[]=>none
  |t::r=>if op=11 then some (r,r.length,t) else if t.2= -1∧ifAt l t.1=true then some ((t.1,↑k)::r,r.length,t) else none
def walkG {σ:Type} (tell:Nat→Int→Nest→σ→σ) (s0:σ) (l:List TInstr):Nat→Option (List Nest×σ)
 |0=>some ([],s0)
 |k+1=>match walkG tell s0 l k with
  |none=>none
  |some (st,s)=>match stepF l st k (l.getD k in0).op with
   |none=>none
   |some (st',deep,e)=>some (st',tell k deep e s)
def walkSt (l:List TInstr) (k:Nat):Option (List Nest):=(walkG (fun _ _ _ _=>()) () l k).map (·.1)
def walkOk (l:List TInstr):Bool:=match walkSt l l.length with
 |none=>false
 |some st=>st.isEmpty
theorem walkG_st {σ:Type} (tell:Nat→Int→Nest→σ→σ) (s0:σ) (l:List TInstr): ∀k,(walkG tell s0 l k).map (·.1)=walkSt l k
 |0=>rfl
 |k+1=>by
  have ih:=walkG_st tell s0 l k
  unfold walkSt at ih ⊢
  simp only[walkG]
  cases h1:walkG tell s0 l k with
  |none=>
   rw[h1] at ih
   cases h2:walkG (fun _ _ _ _=>()) () l k with
   |none=>rfl
   |some q=>rw[h2] at ih;cases ih
  |some p=>
   rw[h1] at ih
   cases h2:walkG (fun _ _ _ _=>()) () l k with
   |none=>rw[h2] at ih;cases ih
   |some q=>
    rw[h2] at ih
    obtain⟨st,s⟩:=p
    obtain⟨st',u⟩:=q
    simp only[Option.map_some,Option.some.injEq] at ih
    subst ih
    simp only
    cases stepF l st k (l.getD k in0).op with
    |none=>rfl
    |some z=>rfl
theorem walkOk_of {σ:Type} {tell:Nat→Int→Nest→σ→σ} {s0 s:σ} {l:List TInstr} {st:List Nest} (h:walkG tell s0 l l.length=some (st,s)):walkOk l=st.isEmpty:=by
 have:=walkG_st tell s0 l l.length
 rw[h] at this
 simp only[walkOk,←this,Option.map_some]
theorem walkOk_none {σ:Type} {tell:Nat→Int→Nest→σ→σ} {s0:σ} {l:List TInstr} (h:walkG tell s0 l l.length=none):walkOk l=false:=by
 have:=walkG_st tell s0 l l.length
 rw[h] at this
 simp only[walkOk,←this,Option.map_none]
def nestIn (k:Nat) (p:Nest):Prop:=0≤p.1∧p.1<(k:Int)∧(p.2= -1∨(0≤p.2∧p.2<(k:Int)∧p.1≠p.2))
theorem nestIn.up {k:Nat} {p:Nest} (h:nestIn k p):nestIn (k+1) p:=by unfold nestIn at*;omega
theorem stepF_in {l:List TInstr} {st st':List Nest} {k:Nat} {op d:Int} {e:Nest} (h:stepF l st k op=some (st',d,e)) (hs: ∀p∈st,nestIn k p):(∀p∈st',nestIn (k+1) p)∧st'.length≤st.length+1:=by
 unfold stepF at h
 split at h
 ·simp only[Option.some.injEq,Prod.mk.injEq] at h
  obtain⟨rfl,_,_⟩:=h
  refine⟨fun p hp=> ?_,by simp⟩
  rcases List.mem_cons.1 hp with rfl|hp
  ·exact⟨by simp,by simp;omega, .inl rfl⟩
  ·exact(hs p hp).up
 ·split at h
  ·simp only[Option.some.injEq,Prod.mk.injEq] at h
   obtain⟨rfl,_,_⟩:=h
   exact⟨fun p hp=>(hs p hp).up,by omega⟩
  ·split at h
   ·cases h
   ·rename_i t r
    split at h
    ·simp only[Option.some.injEq,Prod.mk.injEq] at h
     obtain⟨rfl,_,_⟩:=h
     exact⟨fun p hp=>(hs p (by simp[hp])).up,by simp;omega⟩
    ·split at h
     ·simp only[Option.some.injEq,Prod.mk.injEq] at h
      obtain⟨rfl,_,_⟩:=h
      refine⟨fun p hp=> ?_,by simp⟩
      rcases List.mem_cons.1 hp with rfl|hp
      ·obtain⟨q1,q2,_⟩:=hs t (by simp)
       exact⟨q1,by show t.1<_;omega, .inr ⟨by simp,by simp;omega,by show t.1≠_;omega⟩⟩
      ·exact(hs p (by simp[hp])).up
     ·cases h
theorem walkG_in {σ:Type} {tell:Nat→Int→Nest→σ→σ} {s0:σ} {l:List TInstr}: ∀{k:Nat} {st:List Nest} {s:σ},walkG tell s0 l k=some (st,s)→(∀p∈st,nestIn k p)∧st.length≤k
 |0,st,s,h=>by
  simp only[walkG,Option.some.injEq,Prod.mk.injEq] at h
  obtain⟨rfl,rfl⟩:=h
  exact⟨fun p hp=>by simp at hp,by simp⟩
 |k+1,st,s,h=>by
  simp only[walkG] at h
  split at h
  ·cases h
  ·rename_i st0 ts0 h0
   split at h
   ·cases h
   ·rename_i st1 d e h1
    simp only[Option.some.injEq,Prod.mk.injEq] at h
    obtain⟨rfl,rfl⟩:=h
    obtain⟨q1,q2⟩:=walkG_in h0
    obtain⟨p1,p2⟩:=stepF_in h1 q1
    exact⟨p1,by omega⟩
theorem opens_not11 {op:Int} (h:opensB op=true):op≠11:=by rintro rfl;cases h
inductive WkH (L:D) (st:List Nest):Map Go.Ev.Obj→Prop
 |nil:st=[]→WkH L st [(192, .cells [.d L]),(832, .cells [.nilsl])]
 |row (xs:List D) (chg:Bool):xs.take st.length=st.reverse.map nestD→WkH L st [(192, .cells [.d L]),(832, .cells [.row 1664 0 0 st.length]),(1664, .row 2 xs 0 false chg)]
inductive WkX (st:List Nest):Map Go.Ev.Obj→Prop
 |nil:st=[]→WkX st [(832, .cells [.nilsl])]
 |row (xs:List D) (chg:Bool):xs.take st.length=st.reverse.map nestD→WkX st [(832, .cells [.row 1664 0 0 st.length]),(1664, .row 2 xs 0 false chg)]
theorem take_top {st:List Nest} {t:Nest} {xs:List D} (h:xs.take (t::st).length=(t::st).reverse.map nestD):xs[st.length]? =some (nestD t)∧xs.take st.length=st.reverse.map nestD:=by
 have h1:(xs.take (t::st).length)[st.length]? =some (nestD t):=by rw[h];simp
 refine⟨by simpa[List.getElem?_take] using h1, ?_⟩
 have h2:(xs.take (t::st).length).take st.length=st.reverse.map nestD:=by rw[h];simp
 simpa[List.take_take] using h2
theorem take_set {st:List Nest} {t u:Nest} {xs:List D} (h:xs.take (t::st).length=(t::st).reverse.map nestD):(xs.set st.length (nestD u)).take (u::st).length=(u::st).reverse.map nestD:=by
 obtain⟨h1,h2⟩:=take_top h
 have hlt:=(List.getElem?_eq_some_iff.1 h1).1
 rw[List.take_set,show(u::st).length=(t::st).length from rfl,h]
 simp
theorem take_push {st:List Nest} {t:Nest} {xs:List D} (h:xs.take st.length=st.reverse.map nestD):(xs.take st.length++[nestD t]).take (t::st).length=(t::st).reverse.map nestD:=by
 rw[h,List.take_of_length_le (by simp)]
 simp
section
variable {l:List TInstr} {st:List Nest} {k:Nat} {op:Int}
theorem stepF_open (ho:opensB op=true):stepF l st k op=some ((↑k, -1)::st,(st.length:Int),(0,0)):=by simp only[stepF,ho,if_true]
theorem stepF_plain (ho:opensB op=false) (h5:op≠5) (h11:op≠11):stepF l st k op=some (st,(st.length:Int),(0,0)):=by
 simp only[stepF,ho,Bool.false_eq_true,if_false]
 rw[if_pos ⟨h5,h11⟩]
theorem stepF_bare (h5:op=5∨op=11):stepF l [] k op=none:=by rcases h5 with rfl|rfl<;>rfl
theorem stepF_pop (t:Nest):stepF l (t::st) k 11=some (st,(st.length:Int),t):=rfl
theorem stepF_else (t:Nest) (h:t.2= -1∧ifAt l t.1=true):stepF l (t::st) k 5=some ((t.1,↑k)::st,(st.length:Int),t):=by
 simp only[stepF,opens5,Bool.false_eq_true,if_false]
 rw[if_neg (by omega),if_neg (by omega),if_pos h]
theorem stepF_twice (t:Nest) (h: ¬(t.2= -1∧ifAt l t.1=true)):stepF l (t::st) k 5=none:=by
 simp only[stepF,opens5,Bool.false_eq_true,if_false]
 rw[if_neg (by omega),if_neg (by omega),if_neg h]
end
theorem walkG_none {σ:Type} {tell:Nat→Int→Nest→σ→σ} {s0:σ} {l:List TInstr} {k:Nat} (h:walkG tell s0 l k=none): ∀m,k≤m→walkG tell s0 l m=none:=by
 intro m hm
 induction m with
 |zero=>
  obtain rfl:k=0:=by omega
  exact h
 |succ m ih=>
  by_cases e:k=m+1
  ·rw[←e];exact h
  ·simp only[walkG,ih (by omega)]
end Go.Proofs.YtfpioigggjnffaaGreatDoor.E
