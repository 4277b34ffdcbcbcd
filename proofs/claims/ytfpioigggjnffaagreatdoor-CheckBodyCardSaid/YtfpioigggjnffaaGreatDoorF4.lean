/- F4, F6, P06, F7. -/
import Derived.Test.YtfpioigggjnffaaGreatDoorF2
import Derived.Test.YtfpioigggjnffaaGreatDoorEvD
import Derived.Test.YtfpioigggjnffaaGreatDoorF8
set_option linter.unnecessarySimpa false
set_option linter.unusedSimpArgs false
set_option linter.unusedVariables false
set_option autoImplicit false
set_option maxRecDepth 100000
set_option maxHeartbeats 4000000
set_option pp.maxSteps 20000
namespace Go.Proofs.YtfpioigggjnffaaGreatDoor.E
open Go.Ev
def tellM (l:List TInstr) (k:Nat) (_:Int) (e:Nest) (M:List Nest):List Nest:=
 if (l.getD k in0).op=11 then
  (if e.2= -1 then M.set e.1.toNat (e.2,↑k) else(M.set e.1.toNat (e.2,↑k)).set e.2.toNat (((M.set e.1.toNat (e.2,↑k)).getD e.2.toNat (0,0)).1,↑k))
 else M
theorem tellM_length (l:List TInstr) (k:Nat) (d:Int) (e:Nest) (M:List Nest):(tellM l k d e M).length=M.length:=by
 unfold tellM
 split
 ·split<;>simp
 ·rfl
theorem tellM_len {l:List TInstr} {s0:List Nest}: ∀{k:Nat} {st:List Nest} {s:List Nest},walkG (tellM l) s0 l k=some (st,s)→s.length=s0.length
 |0,st,s,h=>by
  simp only[walkG,Option.some.injEq,Prod.mk.injEq] at h
  rw[←h.2]
 |k+1,st,s,h=>by
  simp only[walkG] at h
  split at h
  ·cases h
  ·rename_i st0 ts0 h0
   split at h
   ·cases h
   ·rename_i st1 d e h1
    simp only[Option.some.injEq,Prod.mk.injEq] at h
    obtain⟨rfl,rfl⟩:=h
    rw[tellM_length]
    exact tellM_len h0
section
variable (fu n:Nat) (l:List TInstr) (k:Nat) (hk:k<l.length) (d a b:Int) (M:List Nest)
include hk
theorem tellM_other (h11:(l.getD k in0).op≠11):evF (G fu) (n+1) 124 [.d (.int .i64 k), .d (.int .i64 d), .d (.agg [.int .i64 a, .int .i64 b]), .ptr 0 0, .ptr 1 0] [.cells [.d (.list (l.map TInstr.d))], .cells [.row 2 0 0 l.length], .row 2 (M.map nestD) 0 false false]=
 some (.tup [],[.cells [.d (.list (l.map TInstr.d))], .cells [.row 2 0 0 l.length], .row 2 ((tellM l k d (a,b) M).map nestD) 0 false false]):=by
 rw[evF.eq_2,evX.eq_def,Gext,exts_no _ (f:=124) (by decide),GP,Tryz.func124];simp only[Tryz.f124,evB]
 simp only[go_sem,Nat.reduceAdd,Nat.reduceMul,Nat.reduceSub,Nat.reduceLT,Nat.reduceLeDiff,Nat.reduceEqDiff,Nat.reduceBEq,Nat.reduceBeqDiff,Int.reduceEq,Int.reduceLT,Int.reduceLE,Int.reduceToNat,Int.reduceNeg,Int.reduceAdd,Int.reduceSub,Int.reduceMul,reduceIte,reduceCtorEq,Nat.reducePow,Nat.reduceDiv,Nat.reduceMod,Int.reduceBEq,idx,getD_map (d:=in0) hk,TInstr.d,tellM,h11]
variable (h11:(l.getD k in0).op=11) (ha:0≤a) (hal:a<l.length) (hM:M.length=l.length)
include h11 ha hal hM
theorem tellM_end (hb:b= -1):evF (G fu) (n+1) 124 [.d (.int .i64 k), .d (.int .i64 d), .d (.agg [.int .i64 a, .int .i64 b]), .ptr 0 0, .ptr 1 0] [.cells [.d (.list (l.map TInstr.d))], .cells [.row 2 0 0 l.length], .row 2 (M.map nestD) 0 false false]=
 some (.tup [],[.cells [.d (.list (l.map TInstr.d))], .cells [.row 2 0 0 l.length], .row 2 ((tellM l k d (a,b) M).map nestD) 0 false false]):=by
 subst hb
 have hx:(M.map nestD)[a.toNat]? =some (.agg [.int .i64 (M.getD a.toNat (0,0)).1, .int .i64 (M.getD a.toNat (0,0)).2]):=getD_map (f:=nestD) (by omega)
 rw[evF.eq_2,evX.eq_def,Gext,exts_no _ (f:=124) (by decide),GP,Tryz.func124];simp only[Tryz.f124,evB]
 simp only[go_sem,Nat.reduceAdd,Nat.reduceMul,Nat.reduceSub,Nat.reduceLT,Nat.reduceLeDiff,Nat.reduceEqDiff,Nat.reduceBEq,Nat.reduceBeqDiff,Int.reduceEq,Int.reduceLT,Int.reduceLE,Int.reduceToNat,Int.reduceNeg,Int.reduceAdd,Int.reduceSub,Int.reduceMul,reduceIte,reduceCtorEq,Nat.reducePow,Nat.reduceDiv,Nat.reduceMod,Int.reduceBEq,idx,getD_map (d:=in0) hk,TInstr.d,tellM,h11,ha,hal,hx,List.map_set,nestD]
theorem tellM_both (hb: ¬b= -1) (hb0:0≤b) (hbl:b<l.length):evF (G fu) (n+1) 124 [.d (.int .i64 k), .d (.int .i64 d), .d (.agg [.int .i64 a, .int .i64 b]), .ptr 0 0, .ptr 1 0] [.cells [.d (.list (l.map TInstr.d))], .cells [.row 2 0 0 l.length], .row 2 (M.map nestD) 0 false false]=
 some (.tup [],[.cells [.d (.list (l.map TInstr.d))], .cells [.row 2 0 0 l.length], .row 2 ((tellM l k d (a,b) M).map nestD) 0 false false]):=by
 have hx:(M.map nestD)[a.toNat]? =some (.agg [.int .i64 (M.getD a.toNat (0,0)).1, .int .i64 (M.getD a.toNat (0,0)).2]):=getD_map (f:=nestD) (by omega)
 have hy:((M.map nestD).set a.toNat (.agg [.int .i64 b, .int .i64 k]))[b.toNat]? =some (.agg [.int .i64 ((M.set a.toNat (b,↑k)).getD b.toNat (0,0)).1, .int .i64 ((M.set a.toNat (b,↑k)).getD b.toNat (0,0)).2]):=by
  have:=getD_map (f:=nestD) (l:=M.set a.toNat (b,(k:Int))) (i:=b.toNat) (d:=(0,0)) (by simp;omega)
  rw[List.map_set] at this
  exact this
 rw[evF.eq_2,evX.eq_def,Gext,exts_no _ (f:=124) (by decide),GP,Tryz.func124];simp only[Tryz.f124,evB]
 simp only[go_sem,Nat.reduceAdd,Nat.reduceMul,Nat.reduceSub,Nat.reduceLT,Nat.reduceLeDiff,Nat.reduceEqDiff,Nat.reduceBEq,Nat.reduceBeqDiff,Int.reduceEq,Int.reduceLT,Int.reduceLE,Int.reduceToNat,Int.reduceNeg,Int.reduceAdd,Int.reduceSub,Int.reduceMul,reduceIte,reduceCtorEq,Nat.reducePow,Nat.reduceDiv,Nat.reduceMod,Int.reduceBEq,idx,getD_map (d:=in0) hk,TInstr.d,tellM,h11,ha,hal,hx,hb,hb0,hbl,hy,List.map_set,nestD]
end
theorem walkM_ev (fu n:Nat) (l:List TInstr) (h:21<fu) (hl:l.length<fu) (hs:l.length<100000) (s0:List Nest) (hs0:s0.length=l.length):
 ∃os:List Nest,evF (G fu) (n+4) 123 [.d (.list (l.map TInstr.d)), .fn (.func 124) [] [.ptr 0 0, .ptr 1 0]] [.cells [.d (.list (l.map TInstr.d))], .cells [.row 2 0 0 l.length], .row 2 ((s0).map nestD) 0 false false]=some (.d (.bool (walkOk l)),[.cells [.d (.list (l.map TInstr.d))], .cells [.row 2 0 0 l.length], .row 2 ((os).map nestD) 0 false false])∧
  ∀st s,walkG (tellM l) s0 l l.length=some (st,s)→os=s:=by
 rw[evF.eq_2,evX.eq_def,Gext,exts_no _ (f:=123) (by decide),GP,Tryz.func123];simp only[Tryz.f123,evB]
 simp only[go_sem,Nat.reduceAdd,Nat.reduceMul,Nat.reduceSub,Nat.reduceLT,Nat.reduceLeDiff,Nat.reduceEqDiff,Nat.reduceBEq,Nat.reduceBeqDiff,Int.reduceEq,Int.reduceLT,Int.reduceLE,Int.reduceToNat,Int.reduceNeg,Int.reduceAdd,Int.reduceSub,Int.reduceMul,reduceIte,reduceCtorEq,Nat.reducePow,Nat.reduceDiv,Nat.reduceMod,Int.reduceBEq,List.length_map]
 generalize hr:loopN _ _ _ _ _=r
 obtain⟨x,s1,rfl,hx,hJ⟩: ∃x s1,r=some (x,s1)∧leaves x∧((∃st,∃s:List Nest,∃H,x= .exit 0∧walkG (tellM l) s0 l l.length=some (st,s)∧WkX st H∧s1=⟨[(5, .ptr 832 0)],[(0, .cells [.d (.list (l.map TInstr.d))]),(1, .cells [.row 2 0 0 l.length]),(2, .row 2 ((s).map nestD) 0 false false)]++H⟩)∨
  (∃os:List Nest,x= .ret∧walkG (tellM l) s0 l l.length=none∧s1=⟨[(4, .d (.bool false))],[(0, .cells [.d (.list (l.map TInstr.d))]),(1, .cells [.row 2 0 0 l.length]),(2, .row 2 ((os).map nestD) 0 false false)]⟩)):=by
  rw[←hr]
  refine loop_inv (J:=fun x s1=>((∃st,∃s:List Nest,∃H,x= .exit 0∧walkG (tellM l) s0 l l.length=some (st,s)∧WkX st H∧s1=⟨[(5, .ptr 832 0)],[(0, .cells [.d (.list (l.map TInstr.d))]),(1, .cells [.row 2 0 0 l.length]),(2, .row 2 ((s).map nestD) 0 false false)]++H⟩)∨
   (∃os:List Nest,x= .ret∧walkG (tellM l) s0 l l.length=none∧s1=⟨[(4, .d (.bool false))],[(0, .cells [.d (.list (l.map TInstr.d))]),(1, .cells [.row 2 0 0 l.length]),(2, .row 2 ((os).map nestD) 0 false false)]⟩)))
   l.length (fun i z=> ∃st,∃s:List Nest,∃H,walkG (tellM l) s0 l i=some (st,s)∧WkH (.list (l.map TInstr.d)) st H∧z=⟨[(1, .fn (.func 124) [] [.ptr 0 0, .ptr 1 0]),(2, .ptr 192 0),(5, .ptr 832 0),(13, .d (.list (l.map TInstr.d))),(14, .d (.int .i64 l.length)),(15, .d (.int .i64 i))],[(0, .cells [.d (.list (l.map TInstr.d))]),(1, .cells [.row 2 0 0 l.length]),(2, .row 2 ((s).map nestD) 0 false false)]++H⟩) ?_ ?_ fu _ hl ⟨[],s0,_,rfl, .nil rfl,rfl⟩
  ·rintro i z hi ⟨st,s,H,hw,hH,rfl⟩
   have W:=wrap_i64 (show-9223372036854775808≤(i:Int)+1 by omega) (by omega)
   have hw1: ∀st' d e,stepF l st i (l.getD i in0).op=some (st',d,e)→walkG (tellM l) s0 l (i+1)=some (st',(tellM l) i d e s):=fun st' d e h=>by simp only[walkG,hw,h]
   have hw2:stepF l st i (l.getD i in0).op=none→walkG (tellM l) s0 l l.length=none:=fun h=>walkG_none (k:=i+1) (by simp only[walkG,hw,h]) _ (by omega)
   obtain⟨hin,hlen⟩:=walkG_in hw
   have hlen0:(0:Nat)≤i:=by omega
   have hop:opensB (l.getD i in0).op=true∨(opensB (l.getD i in0).op=false∧(l.getD i in0).op≠5∧(l.getD i in0).op≠11)∨((l.getD i in0).op=5∨(l.getD i in0).op=11):=by
    cases opensB (l.getD i in0).op<;>simp<;>omega
   have hM:s.length=l.length:=(tellM_len hw).trans hs0
   cases hH with
   |nil hst=>
    subst hst
    rcases hop with ho|⟨ho,h5,h11⟩|h5
    ·have q:=step_nil_open fu n l i (l.getD i in0) h ho
     simp only[TInstr.d,nestD] at q
     simp only[go_sem,Nat.reduceAdd,Nat.reduceMul,Nat.reduceSub,Nat.reduceLT,Nat.reduceLeDiff,Nat.reduceEqDiff,Nat.reduceBEq,Nat.reduceBeqDiff,Int.reduceEq,Int.reduceLT,Int.reduceLE,Int.reduceToNat,Int.reduceNeg,Int.reduceAdd,Int.reduceSub,Int.reduceMul,reduceIte,reduceCtorEq,Nat.reducePow,Nat.reduceDiv,Nat.reduceMod,Int.reduceBEq,Int.ofNat_lt,hi,idx,getD_map (d:=in0) hi,TInstr.d,q,tellM_other fu (n+2) l i hi _ _ _ _ (opens_not11 ho),W]
     exact⟨.normal,_,rfl,_,_,_,hw1 _ _ _ (stepF_open ho), .row [nestD (i, -1)] false (by simp),rfl⟩
    ·have q:=step_nil_plain fu n l i (l.getD i in0) h ho h5 h11
     simp only[TInstr.d,nestD] at q
     simp only[go_sem,Nat.reduceAdd,Nat.reduceMul,Nat.reduceSub,Nat.reduceLT,Nat.reduceLeDiff,Nat.reduceEqDiff,Nat.reduceBEq,Nat.reduceBeqDiff,Int.reduceEq,Int.reduceLT,Int.reduceLE,Int.reduceToNat,Int.reduceNeg,Int.reduceAdd,Int.reduceSub,Int.reduceMul,reduceIte,reduceCtorEq,Nat.reducePow,Nat.reduceDiv,Nat.reduceMod,Int.reduceBEq,Int.ofNat_lt,hi,idx,getD_map (d:=in0) hi,TInstr.d,q,tellM_other fu (n+2) l i hi _ _ _ _ h11,W]
     exact⟨.normal,_,rfl,_,_,_,hw1 _ _ _ (stepF_plain ho h5 h11), .nil rfl,rfl⟩
    ·have q:=step_nil_bare fu n l i (l.getD i in0) h h5
     simp only[TInstr.d,nestD] at q
     simp only[go_sem,Nat.reduceAdd,Nat.reduceMul,Nat.reduceSub,Nat.reduceLT,Nat.reduceLeDiff,Nat.reduceEqDiff,Nat.reduceBEq,Nat.reduceBeqDiff,Int.reduceEq,Int.reduceLT,Int.reduceLE,Int.reduceToNat,Int.reduceNeg,Int.reduceAdd,Int.reduceSub,Int.reduceMul,reduceIte,reduceCtorEq,Nat.reducePow,Nat.reduceDiv,Nat.reduceMod,Int.reduceBEq,Int.ofNat_lt,hi,idx,getD_map (d:=in0) hi,TInstr.d,q,hlen0,W]
     exact⟨.ret,_,rfl, .inr ⟨_,rfl,hw2 (stepF_bare h5),rfl⟩⟩
   |row xs chg hxs=>
    rcases hop with ho|⟨ho,h5,h11⟩|h5
    ·have q:=step_row_open fu n l i (l.getD i in0) h st.length xs ho (by omega)
     simp only[TInstr.d,nestD] at q
     simp only[go_sem,Nat.reduceAdd,Nat.reduceMul,Nat.reduceSub,Nat.reduceLT,Nat.reduceLeDiff,Nat.reduceEqDiff,Nat.reduceBEq,Nat.reduceBeqDiff,Int.reduceEq,Int.reduceLT,Int.reduceLE,Int.reduceToNat,Int.reduceNeg,Int.reduceAdd,Int.reduceSub,Int.reduceMul,reduceIte,reduceCtorEq,Nat.reducePow,Nat.reduceDiv,Nat.reduceMod,Int.reduceBEq,Int.ofNat_lt,hi,idx,getD_map (d:=in0) hi,TInstr.d,q,tellM_other fu (n+2) l i hi _ _ _ _ (opens_not11 ho),W]
     exact⟨.normal,_,rfl,_,_,_,hw1 _ _ _ (stepF_open ho), .row _ _ (take_push hxs),rfl⟩
    ·have q:=step_row_plain fu n l i (l.getD i in0) h st.length xs ho h5 h11
     simp only[TInstr.d,nestD] at q
     simp only[go_sem,Nat.reduceAdd,Nat.reduceMul,Nat.reduceSub,Nat.reduceLT,Nat.reduceLeDiff,Nat.reduceEqDiff,Nat.reduceBEq,Nat.reduceBeqDiff,Int.reduceEq,Int.reduceLT,Int.reduceLE,Int.reduceToNat,Int.reduceNeg,Int.reduceAdd,Int.reduceSub,Int.reduceMul,reduceIte,reduceCtorEq,Nat.reducePow,Nat.reduceDiv,Nat.reduceMod,Int.reduceBEq,Int.ofNat_lt,hi,idx,getD_map (d:=in0) hi,TInstr.d,q,tellM_other fu (n+2) l i hi _ _ _ _ h11,W]
     exact⟨.normal,_,rfl,_,_,_,hw1 _ _ _ (stepF_plain ho h5 h11), .row _ _ hxs,rfl⟩
    ·cases st with
     |nil=>
      have q:=step_row_bare fu n l i (l.getD i in0) h xs h5
      simp only[TInstr.d,nestD] at q
      simp only[go_sem,Nat.reduceAdd,Nat.reduceMul,Nat.reduceSub,Nat.reduceLT,Nat.reduceLeDiff,Nat.reduceEqDiff,Nat.reduceBEq,Nat.reduceBeqDiff,Int.reduceEq,Int.reduceLT,Int.reduceLE,Int.reduceToNat,Int.reduceNeg,Int.reduceAdd,Int.reduceSub,Int.reduceMul,reduceIte,reduceCtorEq,Nat.reducePow,Nat.reduceDiv,Nat.reduceMod,Int.reduceBEq,Int.ofNat_lt,hi,idx,getD_map (d:=in0) hi,TInstr.d,q,hlen0,W]
      exact⟨.ret,_,rfl, .inr ⟨_,rfl,hw2 (stepF_bare h5),rfl⟩⟩
     |cons p st=>
      obtain⟨hx1,hx2⟩:=take_top hxs
      obtain⟨a,b⟩:=p
      have hab:nestIn i (a,b):=hin (a,b) (by simp)
      unfold nestIn at hab
      have hab1:0≤a∧a<(i:Int)∧(b= -1∨(0≤b∧b<(i:Int)∧a≠b)):=hab
      have hsl:st.length<1000000:=by simp at hlen;omega
      rcases h5 with h5|h11
      ·by_cases hh:b= -1∧ifAt l a=true
       ·have q:=step_row_else fu n l i (l.getD i in0) h st.length xs a b hx1 hsl h5 (by omega) (by omega)
        rw[if_pos hh] at q
        simp only[TInstr.d,nestD] at q
        simp only[go_sem,Nat.reduceAdd,Nat.reduceMul,Nat.reduceSub,Nat.reduceLT,Nat.reduceLeDiff,Nat.reduceEqDiff,Nat.reduceBEq,Nat.reduceBeqDiff,Int.reduceEq,Int.reduceLT,Int.reduceLE,Int.reduceToNat,Int.reduceNeg,Int.reduceAdd,Int.reduceSub,Int.reduceMul,reduceIte,reduceCtorEq,Nat.reducePow,Nat.reduceDiv,Nat.reduceMod,Int.reduceBEq,Int.ofNat_lt,hi,idx,getD_map (d:=in0) hi,TInstr.d,q,tellM_other fu (n+2) l i hi _ _ _ _ (by omega),W]
        exact⟨.normal,_,rfl,_,_,_,hw1 _ _ _ (by rw[h5];exact stepF_else (a,b) hh), .row _ _ (take_set hxs),rfl⟩
       ·have q:=step_row_else fu n l i (l.getD i in0) h st.length xs a b hx1 hsl h5 (by omega) (by omega)
        rw[if_neg hh] at q
        simp only[TInstr.d,nestD] at q
        simp only[go_sem,Nat.reduceAdd,Nat.reduceMul,Nat.reduceSub,Nat.reduceLT,Nat.reduceLeDiff,Nat.reduceEqDiff,Nat.reduceBEq,Nat.reduceBeqDiff,Int.reduceEq,Int.reduceLT,Int.reduceLE,Int.reduceToNat,Int.reduceNeg,Int.reduceAdd,Int.reduceSub,Int.reduceMul,reduceIte,reduceCtorEq,Nat.reducePow,Nat.reduceDiv,Nat.reduceMod,Int.reduceBEq,Int.ofNat_lt,hi,idx,getD_map (d:=in0) hi,TInstr.d,q,hlen0,W]
        exact⟨.ret,_,rfl, .inr ⟨_,rfl,hw2 (by rw[h5];exact stepF_twice (a,b) hh),rfl⟩⟩
      ·by_cases hpop:b= -1
       ·have q:=step_row_pop fu n l i (l.getD i in0) h st.length xs a b hx1 hsl h11
        simp only[TInstr.d,nestD] at q
        simp only[go_sem,Nat.reduceAdd,Nat.reduceMul,Nat.reduceSub,Nat.reduceLT,Nat.reduceLeDiff,Nat.reduceEqDiff,Nat.reduceBEq,Nat.reduceBeqDiff,Int.reduceEq,Int.reduceLT,Int.reduceLE,Int.reduceToNat,Int.reduceNeg,Int.reduceAdd,Int.reduceSub,Int.reduceMul,reduceIte,reduceCtorEq,Nat.reducePow,Nat.reduceDiv,Nat.reduceMod,Int.reduceBEq,Int.ofNat_lt,hi,idx,getD_map (d:=in0) hi,TInstr.d,q,tellM_end fu (n+2) l i hi st.length a b s h11 (by omega) (by omega) hM hpop,W]
        exact⟨.normal,_,rfl,_,_,_,hw1 _ _ _ (by rw[h11];exact stepF_pop (a,b)), .row _ _ hx2,rfl⟩
       ·have q:=step_row_pop fu n l i (l.getD i in0) h st.length xs a b hx1 hsl h11
        simp only[TInstr.d,nestD] at q
        simp only[go_sem,Nat.reduceAdd,Nat.reduceMul,Nat.reduceSub,Nat.reduceLT,Nat.reduceLeDiff,Nat.reduceEqDiff,Nat.reduceBEq,Nat.reduceBeqDiff,Int.reduceEq,Int.reduceLT,Int.reduceLE,Int.reduceToNat,Int.reduceNeg,Int.reduceAdd,Int.reduceSub,Int.reduceMul,reduceIte,reduceCtorEq,Nat.reducePow,Nat.reduceDiv,Nat.reduceMod,Int.reduceBEq,Int.ofNat_lt,hi,idx,getD_map (d:=in0) hi,TInstr.d,q,tellM_both fu (n+2) l i hi st.length a b s h11 (by omega) (by omega) hM hpop (by omega) (by omega),W]
        exact⟨.normal,_,rfl,_,_,_,hw1 _ _ _ (by rw[h11];exact stepF_pop (a,b)), .row _ _ hx2,rfl⟩
  ·rintro z ⟨st,s,H,hw,hH,rfl⟩
   cases hH with
   |nil hst=>
    simp only[go_sem,Nat.reduceAdd,Nat.reduceMul,Nat.reduceSub,Nat.reduceLT,Nat.reduceLeDiff,Nat.reduceEqDiff,Nat.reduceBEq,Nat.reduceBeqDiff,Int.reduceEq,Int.reduceLT,Int.reduceLE,Int.reduceToNat,Int.reduceNeg,Int.reduceAdd,Int.reduceSub,Int.reduceMul,reduceIte,reduceCtorEq,Nat.reducePow,Nat.reduceDiv,Nat.reduceMod,Int.reduceBEq,Int.ofNat_lt,Nat.lt_irrefl]
    exact⟨_,_,rfl,trivial, .inl ⟨_,_,_,rfl,hw, .nil hst,rfl⟩⟩
   |row xs chg hxs=>
    simp only[go_sem,Nat.reduceAdd,Nat.reduceMul,Nat.reduceSub,Nat.reduceLT,Nat.reduceLeDiff,Nat.reduceEqDiff,Nat.reduceBEq,Nat.reduceBeqDiff,Int.reduceEq,Int.reduceLT,Int.reduceLE,Int.reduceToNat,Int.reduceNeg,Int.reduceAdd,Int.reduceSub,Int.reduceMul,reduceIte,reduceCtorEq,Nat.reducePow,Nat.reduceDiv,Nat.reduceMod,Int.reduceBEq,Int.ofNat_lt,Nat.lt_irrefl]
    exact⟨_,_,rfl,trivial, .inl ⟨_,_,_,rfl,hw, .row xs chg hxs,rfl⟩⟩
 rcases hJ with⟨st,s,H,rfl,hw,hH,rfl⟩|⟨os,rfl,hw,rfl⟩
 ·refine⟨s, ?_,fun st' s' e=>by rw[hw] at e;cases e;rfl⟩
  have:walkOk l=decide (st.length=0):=by rw[walkOk_of hw];cases st<;>rfl
  rw[this]
  cases hH with
  |nil hst=>
   subst hst
   simp only[go_sem,Nat.reduceAdd,Nat.reduceMul,Nat.reduceSub,Nat.reduceLT,Nat.reduceLeDiff,Nat.reduceEqDiff,Nat.reduceBEq,Nat.reduceBeqDiff,Int.reduceEq,Int.reduceLT,Int.reduceLE,Int.reduceToNat,Int.reduceNeg,Int.reduceAdd,Int.reduceSub,Int.reduceMul,reduceIte,reduceCtorEq,Nat.reducePow,Nat.reduceDiv,Nat.reduceMod,Int.reduceBEq]
  |row xs chg hxs=>
   simp only[go_sem,Nat.reduceAdd,Nat.reduceMul,Nat.reduceSub,Nat.reduceLT,Nat.reduceLeDiff,Nat.reduceEqDiff,Nat.reduceBEq,Nat.reduceBeqDiff,Int.reduceEq,Int.reduceLT,Int.reduceLE,Int.reduceToNat,Int.reduceNeg,Int.reduceAdd,Int.reduceSub,Int.reduceMul,reduceIte,reduceCtorEq,Nat.reducePow,Nat.reduceDiv,Nat.reduceMod,Int.reduceBEq]
   exact congrArg (fun b=>some (V.d (D.bool b),_)) (decide_eq_decide.2 (by omega))
 ·refine⟨os, ?_,fun st s e=>by rw[hw] at e;cases e⟩
  simp only[go_sem,Nat.reduceAdd,Nat.reduceMul,Nat.reduceSub,Nat.reduceLT,Nat.reduceLeDiff,Nat.reduceEqDiff,Nat.reduceBEq,Nat.reduceBeqDiff,Int.reduceEq,Int.reduceLT,Int.reduceLE,Int.reduceToNat,Int.reduceNeg,Int.reduceAdd,Int.reduceSub,Int.reduceMul,reduceIte,reduceCtorEq,Nat.reducePow,Nat.reduceDiv,Nat.reduceMod,Int.reduceBEq,walkOk_none hw]
end Go.Proofs.YtfpioigggjnffaaGreatDoor.E
set_option autoImplicit false
set_option maxRecDepth 100000
set_option maxHeartbeats 4000000
set_option pp.maxSteps 20000
namespace Go.Proofs.YtfpioigggjnffaaGreatDoor.E
open Go.Ev
theorem mul64_one (fu n:Nat) (c:Int) (h0:0≤c) (h1:c<4294967296):evF (G fu) (n+1) 212 [.d (.int .u64 1), .d (.int .u64 c)] []=some (.tup [.d (.int .u64 0), .d (.int .u64 c)],[]):=by
 have a1:c%4294967296=c:=Int.emod_eq_of_lt h0 h1
 have a2:c / 4294967296=0:=Int.ediv_eq_zero_of_lt h0 h1
 rw[evF.eq_2,evX.eq_def,Gext,exts_no _ (f:=212) (by decide),GP,Tryz.func212];simp only[Tryz.f212,evB]
 simp only[go_sem,Nat.reduceAdd,Nat.reduceMul,Nat.reduceSub,Nat.reduceLT,Nat.reduceLeDiff,Nat.reduceEqDiff,Nat.reduceBEq,Nat.reduceBeqDiff,Int.reduceEq,Int.reduceLT,Int.reduceLE,Int.reduceToNat,Int.reduceNeg,Int.reduceAdd,Int.reduceSub,Int.reduceMul,reduceIte,reduceCtorEq,Nat.reducePow,Nat.reduceDiv,Nat.reduceMod,Int.reduceBEq,and_mask32 (show(0:Int)≤1 by omega) (by omega),and_mask32 h0 (by omega),shr32,a1,a2,Int.one_mul,Int.zero_mul,Int.mul_zero,Int.zero_add,Int.add_zero,wrap_u64 h0 (by omega),show IntKind.wrap .u64 0=0 from rfl,show(1:Int)%4294967296=1 from rfl,show(1:Int) / 4294967296=0 from rfl,and_mask32 (show(0:Int)≤0 by omega) (by omega),show(0:Int)%4294967296=0 from rfl,show(0:Int) / 4294967296=0 from rfl]
theorem mul_one (fu n:Nat) (c:Int) (h0:0≤c) (h1:c<4294967296):evF (G fu) (n+2) 173 [.d (.int .u64 1), .d (.int .u64 c)] []=some (.tup [.d (.int .u64 0), .d (.int .u64 c)],[]):=by
 rw[evF.eq_2,evX.eq_def,Gext,exts_no _ (f:=173) (by decide),GP,Tryz.func173];simp only[Tryz.f173,evB]
 simp only[go_sem,Nat.reduceAdd,Nat.reduceMul,Nat.reduceSub,Nat.reduceLT,Nat.reduceLeDiff,Nat.reduceEqDiff,Nat.reduceBEq,Nat.reduceBeqDiff,Int.reduceEq,Int.reduceLT,Int.reduceLE,Int.reduceToNat,Int.reduceNeg,Int.reduceAdd,Int.reduceSub,Int.reduceMul,reduceIte,reduceCtorEq,Nat.reducePow,Nat.reduceDiv,Nat.reduceMod,Int.reduceBEq,mul64_one fu n c h0 h1]
def rep (N c:Nat) (x z:D):List D:=List.replicate c x++List.replicate (N-c) z
theorem rep_take {N c:Nat} {x z:D}:(rep N c x z).take c=List.replicate c x:=by simp[rep]
theorem rep_drop {N c n:Nat} {x z:D}:(rep N c x z).drop (c+n)=List.replicate (N-c-n) z:=by simp[rep,List.drop_append,Nat.sub_sub]
theorem rep_copy {N c n:Nat} {x z:D} (hn:n≤c) (h:c+n≤N):List.replicate c x++((List.replicate c x).take n++(rep N c x z).drop (c+n))=rep N (c+n) x z:=by
 rw[rep_drop,List.take_replicate,Nat.min_eq_left hn,←List.append_assoc,List.replicate_append_replicate]
 simp[rep,Nat.sub_sub]
theorem rep_one (N:Nat) (x z:D):List.take (min 1 N) [x]++List.drop (min 1 N) (List.replicate N z)=rep N (min 1 N) x z:=by
 cases N with
 |zero=>rfl
 |succ N=>
  have:min 1 (N+1)=1:=by omega
  rw[this]
  simp[rep]
theorem repeat_ev (fu n:Nat) (p:Nest) (N:Nat) (hN:N<100000) (hf:N<fu):evF (G fu) (n+3) 122 [.d (.list [nestD p]), .d (.int .i64 N)] []=some (.row 0 0 0 N,[.row 2 ((List.replicate N p).map nestD) 0 false false]):=by
 rw[evF.eq_2,evX.eq_def,Gext,exts_no _ (f:=122) (by decide),GP,Tryz.func122];simp only[Tryz.f122,evB]
 have h0: ¬((N:Int)<0):=by omega
 have h1: ¬((9223372036854775807:Int)<N):=by omega
 simp only[go_sem,Nat.reduceAdd,Nat.reduceMul,Nat.reduceSub,Nat.reduceLT,Nat.reduceLeDiff,Nat.reduceEqDiff,Nat.reduceBEq,Nat.reduceBeqDiff,Int.reduceEq,Int.reduceLT,Int.reduceLE,Int.reduceToNat,Int.reduceNeg,Int.reduceAdd,Int.reduceSub,Int.reduceMul,reduceIte,reduceCtorEq,Nat.reducePow,Nat.reduceDiv,Nat.reduceMod,Int.reduceBEq,nestD,h0,h1,wrap_u64 (show(0:Int)≤1 by omega) (by omega),wrap_u64 (show(0:Int)≤N by omega) (by omega),wrap_i64 (show-9223372036854775808≤(N:Int) by omega) (by omega),mul_one fu n N (by omega) (by omega),show N*17≤1099511627776 by omega]
 rw[rep_one]
 generalize hr:loopN _ _ _ _ _=r
 obtain⟨x,s1,rfl,hx,rfl,rfl⟩: ∃x s1,r=some (x,s1)∧leaves x∧(x= .exit 0∧s1=⟨[(7, .row 1984 0 0 N)],[(1984, .row 2 (rep N N (.agg [.int .i64 p.1, .int .i64 p.2]) (.agg [.int .i64 0, .int .i64 0])) 0 false false)]⟩):=by
  rw[←hr]
  refine loop_inv (J:=fun x s1=>(x= .exit 0∧s1=⟨[(7, .row 1984 0 0 N)],[(1984, .row 2 (rep N N (.agg [.int .i64 p.1, .int .i64 p.2]) (.agg [.int .i64 0, .int .i64 0])) 0 false false)]⟩))
   N (fun i z=> ∃c,min (i+1) N≤c∧c≤N∧z=⟨[(7, .row 1984 0 0 N),(8, .d (.int .i64 c))],[(1984, .row 2 (rep N c (.agg [.int .i64 p.1, .int .i64 p.2]) (.agg [.int .i64 0, .int .i64 0])) 0 false false)]⟩) ?_ ?_ fu _ hf ⟨min 1 N,by omega,by omega,rfl⟩
  ·rintro i z hi ⟨c,h2,h3,rfl⟩
   by_cases hc:c<N
   ·simp only[go_sem,Nat.reduceAdd,Nat.reduceMul,Nat.reduceSub,Nat.reduceLT,Nat.reduceLeDiff,Nat.reduceEqDiff,Nat.reduceBEq,Nat.reduceBeqDiff,Int.reduceEq,Int.reduceLT,Int.reduceLE,Int.reduceToNat,Int.reduceNeg,Int.reduceAdd,Int.reduceSub,Int.reduceMul,reduceIte,reduceCtorEq,Nat.reducePow,Nat.reduceDiv,Nat.reduceMod,Int.reduceBEq,Int.ofNat_lt,hc,show(0:Int)≤c by omega,show(c:Int)≤N by omega,Int.sub_zero,Int.le_refl,Int.toNat_sub,rep_take,sizedAll_rep (n:=c) (show cellsOkD 2 (.agg [.int .i64 p.1, .int .i64 p.2])=some [.int .i64 p.1, .int .i64 p.2] from rfl),List.length_replicate,rep_copy (show min c (N-c)≤c by omega) (show c+min c (N-c)≤N by omega),wrap_i64 (show-9223372036854775808≤(c:Int)+((min c (N-c):Nat):Int) by omega) (by omega)]
    rw[cond_free]
    ·simp only[go_sem,Nat.reduceAdd,Nat.reduceMul,Nat.reduceSub,Nat.reduceLT,Nat.reduceLeDiff,Nat.reduceEqDiff,Nat.reduceBEq,Nat.reduceBeqDiff,Int.reduceEq,Int.reduceLT,Int.reduceLE,Int.reduceToNat,Int.reduceNeg,Int.reduceAdd,Int.reduceSub,Int.reduceMul,reduceIte,reduceCtorEq,Nat.reducePow,Nat.reduceDiv,Nat.reduceMod,Int.reduceBEq]
     exact⟨.normal,_,rfl,c+min c (N-c),by omega,by omega,rfl⟩
    ·rfl
   ·obtain rfl:c=N:=by omega
    simp only[go_sem,Nat.reduceAdd,Nat.reduceMul,Nat.reduceSub,Nat.reduceLT,Nat.reduceLeDiff,Nat.reduceEqDiff,Nat.reduceBEq,Nat.reduceBeqDiff,Int.reduceEq,Int.reduceLT,Int.reduceLE,Int.reduceToNat,Int.reduceNeg,Int.reduceAdd,Int.reduceSub,Int.reduceMul,reduceIte,reduceCtorEq,Nat.reducePow,Nat.reduceDiv,Nat.reduceMod,Int.reduceBEq,Int.ofNat_lt,Nat.lt_irrefl]
    exact⟨_,_,rfl,rfl,rfl⟩
  ·rintro z ⟨c,h2,h3,rfl⟩
   obtain rfl:c=N:=by omega
   simp only[go_sem,Nat.reduceAdd,Nat.reduceMul,Nat.reduceSub,Nat.reduceLT,Nat.reduceLeDiff,Nat.reduceEqDiff,Nat.reduceBEq,Nat.reduceBeqDiff,Int.reduceEq,Int.reduceLT,Int.reduceLE,Int.reduceToNat,Int.reduceNeg,Int.reduceAdd,Int.reduceSub,Int.reduceMul,reduceIte,reduceCtorEq,Nat.reducePow,Nat.reduceDiv,Nat.reduceMod,Int.reduceBEq,Int.ofNat_lt,Nat.lt_irrefl]
   exact⟨_,_,rfl,trivial,rfl,rfl⟩
 simp only[go_sem,Nat.reduceAdd,Nat.reduceMul,Nat.reduceSub,Nat.reduceLT,Nat.reduceLeDiff,Nat.reduceEqDiff,Nat.reduceBEq,Nat.reduceBeqDiff,Int.reduceEq,Int.reduceLT,Int.reduceLE,Int.reduceToNat,Int.reduceNeg,Int.reduceAdd,Int.reduceSub,Int.reduceMul,reduceIte,reduceCtorEq,Nat.reducePow,Nat.reduceDiv,Nat.reduceMod,Int.reduceBEq]
 simp[rep,nestD]
def matchesF (l:List TInstr):List Nest:=match walkG (tellM l) (List.replicate l.length (-1, -1)) l l.length with
 |some (st,M)=>if st.isEmpty then M else[]
 |none=>[]
theorem matchesF_len (l:List TInstr) (h:walkOk l=true):(matchesF l).length=l.length:=by
 unfold matchesF
 cases hw:walkG (tellM l) (List.replicate l.length (-1, -1)) l l.length with
 |none=>rw[walkOk_none hw] at h;cases h
 |some q=>
  obtain⟨st,M⟩:=q
  rw[walkOk_of hw] at h
  simp only[h,if_true]
  rw[tellM_len hw];simp
theorem matchesF_no (l:List TInstr) (h:walkOk l=false):matchesF l=[]:=by
 unfold matchesF
 cases hw:walkG (tellM l) (List.replicate l.length (-1, -1)) l l.length with
 |none=>rfl
 |some q=>
  obtain⟨st,M⟩:=q
  rw[walkOk_of hw] at h
  simp only[h,Bool.false_eq_true,if_false]
theorem matches_ev (fu n:Nat) (l:List TInstr) (h:21<fu) (hl:l.length<fu) (hs:l.length<100000):evF (G fu) (n+5) 64 [.d (.list (l.map TInstr.d))] []=
 some (.tup [.row 0 0 0 (matchesF l).length, .d (.bool (walkOk l))],[.row 2 ((matchesF l).map nestD) 0 false false]):=by
 obtain⟨os,h1,h2⟩:=walkM_ev fu n l h hl hs (List.replicate l.length (-1, -1)) (by simp)
 have hr:=repeat_ev fu (n+1) (-1, -1) l.length hs hl
 simp only[nestD] at hr
 rw[evF.eq_2,evX.eq_def,Gext,exts_no _ (f:=64) (by decide),GP,Tryz.func64];simp only[Tryz.f64,evB]
 cases hk:walkOk l with
 |false=>
  rw[hk] at h1
  simp only[go_sem,Nat.reduceAdd,Nat.reduceMul,Nat.reduceSub,Nat.reduceLT,Nat.reduceLeDiff,Nat.reduceEqDiff,Nat.reduceBEq,Nat.reduceBeqDiff,Int.reduceEq,Int.reduceLT,Int.reduceLE,Int.reduceToNat,Int.reduceNeg,Int.reduceAdd,Int.reduceSub,Int.reduceMul,reduceIte,reduceCtorEq,Nat.reducePow,Nat.reduceDiv,Nat.reduceMod,Int.reduceBEq,List.length_map,hr,h1,matchesF_no l hk]
 |true=>
  have hlen:=matchesF_len l hk
  have:matchesF l=os:=by
   unfold matchesF
   cases hw:walkG (tellM l) (List.replicate l.length (-1, -1)) l l.length with
   |none=>rw[walkOk_none hw] at hk;cases hk
   |some q=>
    obtain⟨st,M⟩:=q
    have hq:=walkOk_of hw
    rw[hk] at hq
    simp only[←hq,if_true]
    exact(h2 st M hw).symm
  rw[hlen,this]
  rw[hk] at h1
  simp only[go_sem,Nat.reduceAdd,Nat.reduceMul,Nat.reduceSub,Nat.reduceLT,Nat.reduceLeDiff,Nat.reduceEqDiff,Nat.reduceBEq,Nat.reduceBeqDiff,Int.reduceEq,Int.reduceLT,Int.reduceLE,Int.reduceToNat,Int.reduceNeg,Int.reduceAdd,Int.reduceSub,Int.reduceMul,reduceIte,reduceCtorEq,Nat.reducePow,Nat.reduceDiv,Nat.reduceMod,Int.reduceBEq,List.length_map,hr,h1]
end Go.Proofs.YtfpioigggjnffaaGreatDoor.E
set_option autoImplicit false
namespace Go.Proofs.YtfpioigggjnffaaGreatDoor.E
open Go.Ev
def sh (n:Nat) (p:Nest):Nest:=(p.1+n,if p.2= -1 then-1 else p.2+n)
theorem walk_some {σ:Type} (tell:Nat→Int→Nest→σ→σ) (s0:σ) {l:List TInstr} (h:walkOk l=true): ∃s,walkG tell s0 l l.length=some ([],s):=by
 cases hw:walkG tell s0 l l.length with
 |none=>rw[walkOk_none hw] at h;cases h
 |some x=>
  obtain⟨st,s⟩:=x
  rw[walkOk_of hw] at h
  cases st with
  |nil=>exact⟨s,rfl⟩
  |cons _ _=>cases h
end Go.Proofs.YtfpioigggjnffaaGreatDoor.E
set_option autoImplicit false
set_option maxRecDepth 100000
set_option maxHeartbeats 4000000
set_option pp.maxSteps 20000
namespace Go.Proofs.YtfpioigggjnffaaGreatDoor.E
open Go.Ev
def n0:Nest:=(-1, -1)
end Go.Proofs.YtfpioigggjnffaaGreatDoor.E
