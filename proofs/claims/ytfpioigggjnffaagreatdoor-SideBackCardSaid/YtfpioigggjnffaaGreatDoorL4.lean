/- L4, L5. -/
import Derived.Test.YtfpioigggjnffaaGreatDoorL3
set_option linter.unnecessarySimpa false
set_option linter.unusedSimpArgs false
set_option linter.unusedVariables false
set_option autoImplicit false
set_option maxRecDepth 100000
set_option maxHeartbeats 4000000
set_option pp.maxSteps 20000
namespace Go.Proofs.YtfpioigggjnffaaGreatDoor.E
open Go.Ev
abbrev rdr (l:List Int) (p e:Int):Go.Ev.Obj:= .cells [.d (.list (byt l)), .d (.int .i64 p), .d (.int .i64 e)]
theorem byte_bad (fu n:Nat) (l:List Int) (p e:Int) (he:e≠0):evF (G fu) (n+1) 86 [.ptr 0 0] [rdr l p e]=some (.d (.int .i64 0),[rdr l p e]):=by
 rw[evF.eq_2,evX.eq_def,Gext,exts_no _ (f:=86) (by decide),GP,Tryz.func86];simp only[Tryz.f86,evB]
 simp only[go_sem,seval, -Nat.reduceSubDiff,↓reduceIte,reduceCtorEq,rdr,he]
theorem byte_end (fu n:Nat) (l:List Int) (x:Nat) (h:l.length≤x):evF (G fu) (n+1) 86 [.ptr 0 0] [rdr l x 0]=some (.d (.int .i64 0),[rdr l x 2]):=by
 have h':(l.length:Int)≤x:=by omega
 rw[evF.eq_2,evX.eq_def,Gext,exts_no _ (f:=86) (by decide),GP,Tryz.func86];simp only[Tryz.f86,evB]
 simp only[go_sem,seval, -Nat.reduceSubDiff,↓reduceIte,reduceCtorEq,rdr,byt_len,h']
theorem byte_yes (fu n:Nat) (l:List Int) (hb:Bs l) (x:Nat) (h:x<l.length) (hl:l.length<1099511627000):evF (G fu) (n+1) 86 [.ptr 0 0] [rdr l x 0]=some (.d (.int .i64 (l.getD x 0)),[rdr l ((x+1:Nat):Int) 0]):=by
 have h': ¬(l.length:Int)≤x:=by omega
 have h2:(x:Int)<l.length:=by omega
 have hg:(byt l)[x]? =some (.int .u8 (l.getD x 0)):=getD_map h
 have w1:=wrap_i64 (show-9223372036854775808≤(x:Int)+1 by omega) (by omega)
 have hc:=hb (l.getD x 0) (by rw[List.getD_eq_getElem?_getD,List.getElem?_eq_getElem h];exact List.getElem_mem h)
 have w2:=wrap_i64 (show-9223372036854775808≤l.getD x 0 by omega) (by omega)
 have w3:IntKind.wrap .i64 ((x:Int)+1-1)=x:=by rw[wrap_i64 (by omega) (by omega)];omega
 rw[evF.eq_2,evX.eq_def,Gext,exts_no _ (f:=86) (by decide),GP,Tryz.func86];simp only[Tryz.f86,evB]
 simp only[go_sem,seval, -Nat.reduceSubDiff,↓reduceIte,reduceCtorEq,rdr,byt_len,h',h2,idx,hg,w1,w2,w3]
 rfl
theorem must_bad (fu n:Nat) (l:List Int) (p e v:Int) (b:Bool) (he:e≠0):evF (G fu) (n+1) 87 [.ptr 0 0, .d (.bool b), .d (.int .i64 v)] [rdr l p e]=some (.tup [],[rdr l p e]):=by
 rw[evF.eq_2,evX.eq_def,Gext,exts_no _ (f:=87) (by decide),GP,Tryz.func87];simp only[Tryz.f87,evB]
 cases b<;>simp only[go_sem,seval, -Nat.reduceSubDiff,↓reduceIte,reduceCtorEq,rdr,he]
theorem must_ok (fu n:Nat) (l:List Int) (p v:Int) (b:Bool):evF (G fu) (n+1) 87 [.ptr 0 0, .d (.bool b), .d (.int .i64 v)] [rdr l p 0]=some (.tup [],[rdr l p (if b then 0 else v)]):=by
 rw[evF.eq_2,evX.eq_def,Gext,exts_no _ (f:=87) (by decide),GP,Tryz.func87];simp only[Tryz.f87,evB]
 cases b<;>simp only[go_sem,seval, -Nat.reduceSubDiff,↓reduceIte,reduceCtorEq,rdr]
theorem u_bad (fu n:Nat) (l:List Int) (p e:Int) (he:e≠0):evF (G fu) (n+5) 89 [.ptr 0 0] [rdr l p e]=some (.d (.int .i64 0),[rdr l p e]):=by
 rw[evF.eq_2,evX.eq_def,Gext,exts_no _ (f:=89) (by decide),GP,Tryz.func89];simp only[Tryz.f89,evB]
 simp only[go_sem,seval, -Nat.reduceSubDiff,↓reduceIte,reduceCtorEq,rdr,he]
def uRes (l:List Int) (x:Nat):Except Int (List Int)→Option Res
 | .error e=>some (.d (.int .i64 0),[rdr l 0 e])
 | .ok ds=>some (.d (.int .i64 (val ds)),[rdr l ((x+ds.length:Nat):Int) 0])
theorem u_ok (fu n:Nat) (l:List Int) (hb:Bs l) (x:Nat) (hf:10<fu) (hx:x≤l.length) (hl:l.length<1099511627000):evF (G fu) (n+5) 89 [.ptr 0 0] [rdr l x 0]=uRes l x (rdU (l.drop x)):=by
 have hr:=ReadU_ev fu n l hb x hf hx hl
 rw[evF.eq_2,evX.eq_def,Gext,exts_no _ (f:=89) (by decide),GP,Tryz.func89];simp only[Tryz.f89,evB]
 cases hs:rdU (l.drop x) with
 |error e=>
  rw[hs] at hr
  simp only[rdUR] at hr
  simp only[go_sem,seval, -Nat.reduceSubDiff,↓reduceIte,reduceCtorEq,rdr,hr,uRes,show IntKind.wrap .i64 0=0 from rfl]
 |ok ds=>
  rw[hs] at hr
  simp only[rdUR] at hr
  have h1:=rdU_lt (hb.drop x) hs
  have h2:=val_nonneg ds
  have w:=wrap_i64 (show-9223372036854775808≤val ds by omega) (by omega)
  simp only[go_sem,seval, -Nat.reduceSubDiff,↓reduceIte,reduceCtorEq,rdr,hr,uRes,w]
  rfl
def sRes (l:List Int) (x:Nat):Except Int (List Int)→Option Res
 | .error e=>some (.d (.int .i64 0),[rdr l 0 e])
 | .ok ds=>some (.d (.int .i64 (sval ds)),[rdr l ((x+ds.length:Nat):Int) 0])
theorem s_ok (w:Bool) (fu n:Nat) (l:List Int) (hb:Bs l) (x:Nat) (hf:10<fu) (hx:x≤l.length) (hl:l.length<1099511627000):evF (G fu) (n+5) 92 [.ptr 0 0, .d (.int .i64 (if w then 64 else 32))] [rdr l x 0]=sRes l x (rdS w (l.drop x)):=by
 have hr:=ReadS_ev w fu n l hb x hf hx hl
 generalize(if w then(64:Int) else 32)=v at*
 rw[evF.eq_2,evX.eq_def,Gext,exts_no _ (f:=92) (by decide),GP,Tryz.func92];simp only[Tryz.f92,evB]
 cases hs:rdS w (l.drop x) with
 |error e=>
  rw[hs] at hr
  simp only[rdSR] at hr
  simp only[go_sem,seval, -Nat.reduceSubDiff,↓reduceIte,reduceCtorEq,rdr,hr,sRes]
 |ok ds=>
  rw[hs] at hr
  simp only[rdSR] at hr
  simp only[go_sem,seval, -Nat.reduceSubDiff,↓reduceIte,reduceCtorEq,rdr,hr,sRes]
  rfl
theorem zero_bad (fu n:Nat) (l:List Int) (p e:Int) (he:e≠0):evF (G fu) (n+2) 91 [.ptr 0 0] [rdr l p e]=some (.tup [],[rdr l p e]):=by
 have h1:=byte_bad fu n l p e he
 have h2:=must_bad fu n l p e 3 true he
 simp only[rdr] at h1 h2 ⊢
 rw[evF.eq_2,evX.eq_def,Gext,exts_no _ (f:=91) (by decide),GP,Tryz.func91];simp only[Tryz.f91,evB]
 simp only[go_sem,seval, -Nat.reduceSubDiff,↓reduceIte,reduceCtorEq,h1,h2]
def zRes (l:List Int) (x:Nat):List Int→Option Res
 |[]=>some (.tup [],[rdr l x 2])
 |c::_=>some (.tup [],[rdr l ((x+1:Nat):Int) (if c=0 then 0 else 3)])
theorem zero_ok (fu n:Nat) (l:List Int) (hb:Bs l) (x:Nat) (hx:x≤l.length) (hl:l.length<1099511627000):evF (G fu) (n+2) 91 [.ptr 0 0] [rdr l x 0]=zRes l x (l.drop x):=by
 rcases Nat.lt_or_ge x l.length with h|h
 ·have h1:=byte_yes fu n l hb x h hl
  have hd:l.drop x=l.getD x 0::l.drop (x+1):=by
   rw[List.drop_eq_getElem_cons h,List.getD_eq_getElem?_getD,List.getElem?_eq_getElem h];rfl
  rw[hd]
  generalize l.getD x 0=c at*
  by_cases hc:c=0
  ·have h2:=must_ok fu n l ((x+1:Nat):Int) 3 true
   simp only[rdr] at h1 h2
   rw[evF.eq_2,evX.eq_def,Gext,exts_no _ (f:=91) (by decide),GP,Tryz.func91];simp only[Tryz.f91,evB]
   simp only[go_sem,seval, -Nat.reduceSubDiff,↓reduceIte,reduceCtorEq,rdr,h1,hc,h2,zRes]
  ·have h2:=must_ok fu n l ((x+1:Nat):Int) 3 false
   simp only[rdr] at h1 h2
   rw[evF.eq_2,evX.eq_def,Gext,exts_no _ (f:=91) (by decide),GP,Tryz.func91];simp only[Tryz.f91,evB]
   simp only[go_sem,seval, -Nat.reduceSubDiff,↓reduceIte,reduceCtorEq,rdr,h1,hc,h2,zRes]
 ·have h1:=byte_end fu n l x h
  have h2:=must_bad fu n l x 2 3 true (by decide)
  rw[List.drop_eq_nil_of_le h]
  simp only[rdr] at h1 h2
  rw[evF.eq_2,evX.eq_def,Gext,exts_no _ (f:=91) (by decide),GP,Tryz.func91];simp only[Tryz.f91,evB]
  simp only[go_sem,seval, -Nat.reduceSubDiff,↓reduceIte,reduceCtorEq,rdr,h1,h2,zRes]
def bRes (l:List Int) (x:Nat):List Int→Option Res
 |[]=>some (.d (.int .i64 0),[rdr l x 2])
 |c::_=>some (.d (.int .i64 (if c=64 then 0 else c)),[rdr l ((x+1:Nat):Int) (if c=64∨c=127∨c=126 then 0 else 3)])
theorem block_ok (fu n:Nat) (l:List Int) (hb:Bs l) (x:Nat) (hx:x≤l.length) (hl:l.length<1099511627000):evF (G fu) (n+2) 88 [.ptr 0 0] [rdr l x 0]=bRes l x (l.drop x):=by
 rcases Nat.lt_or_ge x l.length with h|h
 ·have h1:=byte_yes fu n l hb x h hl
  have hd:l.drop x=l.getD x 0::l.drop (x+1):=by
   rw[List.drop_eq_getElem_cons h,List.getD_eq_getElem?_getD,List.getElem?_eq_getElem h];rfl
  rw[hd]
  generalize l.getD x 0=c at*
  have h2:=must_ok fu n l ((x+1:Nat):Int) 3 true
  have h3:=must_ok fu n l ((x+1:Nat):Int) 3 false
  simp only[rdr] at h1 h2 h3
  rw[evF.eq_2,evX.eq_def,Gext,exts_no _ (f:=88) (by decide),GP,Tryz.func88];simp only[Tryz.f88,evB]
  by_cases c1:c=64
  ·simp only[go_sem,seval, -Nat.reduceSubDiff,↓reduceIte,reduceCtorEq,rdr,h1,c1,h2,bRes]
  ·by_cases c2:c=127
   ·simp only[go_sem,seval, -Nat.reduceSubDiff,↓reduceIte,reduceCtorEq,rdr,h1,c1,c2,h2,bRes]
   ·by_cases c3:c=126
    ·simp only[go_sem,seval, -Nat.reduceSubDiff,↓reduceIte,reduceCtorEq,rdr,h1,c1,c2,c3,h2,bRes]
    ·simp only[go_sem,seval, -Nat.reduceSubDiff,↓reduceIte,reduceCtorEq,rdr,h1,c1,c2,c3,h3,bRes]
 ·have h1:=byte_end fu n l x h
  have h2:=must_bad fu n l x 2 3 false (by decide)
  rw[List.drop_eq_nil_of_le h]
  simp only[rdr] at h1 h2
  rw[evF.eq_2,evX.eq_def,Gext,exts_no _ (f:=88) (by decide),GP,Tryz.func88];simp only[Tryz.f88,evB]
  simp only[go_sem,seval, -Nat.reduceSubDiff,↓reduceIte,reduceCtorEq,rdr,h1,h2,bRes]
end Go.Proofs.YtfpioigggjnffaaGreatDoor.E
set_option autoImplicit false
set_option maxRecDepth 100000
set_option maxHeartbeats 4000000
set_option pp.maxSteps 20000
namespace Go.Proofs.YtfpioigggjnffaaGreatDoor.E
open Go.Ev
def labG (l:List Int) (x:Nat):Except Int (List Int×Nat):=match rdU (l.drop x) with
 | .error e=> .error e
 | .ok ds=>if val ds≤64 then match rdL (val ds).toNat (l.drop (x+ds.length)) with
     | .error e=> .error e
     | .ok (ls,c)=> .ok (ls,ds.length+c) else .error 4
def labRL (l:List Int) (x:Nat) (r:Option Res):Except Int (List Int×Nat)→Prop
 | .error e=> ∃(ls:List Int) (p:Int),r=some (.row 1 0 0 ls.length,[rdr l p e, .row 1 (ls.map (D.int .i64)) 0 false false])
 | .ok (ls,c)=>r=some (.row 1 0 0 ls.length,[rdr l ((x+c:Nat):Int) 0, .row 1 (ls.map (D.int .i64)) 0 false false])
def mapL (acc:List Int) (d:Nat):Except Int (List Int×Nat)→Except Int (List Int×Nat)
 | .error e=> .error e
 | .ok (ls,c)=> .ok (acc++ls,d+c)
def lst (l:List Int) (N:Int) (p e:Int) (i:Nat) (c:Bool):List Int→St
 |[]=>⟨[(0, .ptr 0 0),(3, .d (.int .i64 N)),(4, .nilsl),(5, .d (.int .i64 i))],[(0, .cells [.d (.list (byt l)), .d (.int .i64 p), .d (.int .i64 e)])]⟩
 |a::acc=>⟨[(0, .ptr 0 0),(3, .d (.int .i64 N)),(4, .row 1856 0 0 (acc.length+1)),(5, .d (.int .i64 i))],[(0, .cells [.d (.list (byt l)), .d (.int .i64 p), .d (.int .i64 e)]),(1856, .row 1 (.int .i64 a::acc.map (D.int .i64)) 0 false c)]⟩
def lfin (l:List Int) (p e:Int) (c:Bool):List Int→St
 |[]=>⟨[(4, .nilsl)],[(0, .cells [.d (.list (byt l)), .d (.int .i64 p), .d (.int .i64 e)])]⟩
 |a::acc=>⟨[(4, .row 1856 0 0 (acc.length+1))],[(0, .cells [.d (.list (byt l)), .d (.int .i64 p), .d (.int .i64 e)]),(1856, .row 1 (.int .i64 a::acc.map (D.int .i64)) 0 false c)]⟩
theorem labels_ok (fu n:Nat) (l:List Int) (hb:Bs l) (x:Nat) (hf:70<fu) (hx:x≤l.length) (hl:l.length<1099511627000):labRL l x (evF (G fu) (n+6) 90 [.ptr 0 0] [rdr l x 0]) (labG l x):=by
 have h1:=u_ok fu n l hb x (by omega) hx hl
 unfold labG
 cases hs:rdU (l.drop x) with
 |error e=>
  have he:=rdU_err hs
  rw[hs] at h1
  have h2:=must_bad fu (n+4) l 0 e 4 true he
  simp only[rdr,uRes] at h1 h2
  simp only[labRL]
  refine⟨[],0, ?_⟩
  rw[evF.eq_2,evX.eq_def,Gext,exts_no _ (f:=90) (by decide),GP,Tryz.func90];simp only[Tryz.f90,evB]
  simp only[go_sem,seval, -Nat.reduceSubDiff,↓reduceIte,reduceCtorEq,rdr,h1,h2]
  rw[loop_some 0 (fun i=>⟨[(0, .ptr 0 0),(3, .d (.int .i64 0)),(4, .nilsl),(5, .d (.int .i64 i))],[(0, .cells [.d (.list (byt l)), .d (.int .i64 0), .d (.int .i64 e)])]⟩) (.exit 0,⟨[(4, .nilsl)],[(0, .cells [.d (.list (byt l)), .d (.int .i64 0), .d (.int .i64 e)])]⟩) trivial (by omega) ?_]
  case hs=>intro i hi;omega
  case he=>simp only[go_sem,seval, -Nat.reduceSubDiff,↓reduceIte,reduceCtorEq]
  ·simp only[go_sem,seval, -Nat.reduceSubDiff,↓reduceIte,reduceCtorEq]
  ·rfl
 |ok ds=>
  have hlt:=rdU_lt (hb.drop x) hs
  have hvn:=val_nonneg ds
  have hlen:=rdU_len hs
  rw[List.length_drop] at hlen
  rw[hs] at h1
  by_cases h64:val ds≤64
  ·have h2:=must_ok fu (n+4) l ((x+ds.length:Nat):Int) 4 true
   simp only[rdr,uRes] at h1 h2
   simp only[labRL,h64,if_true]
   rw[evF.eq_2,evX.eq_def,Gext,exts_no _ (f:=90) (by decide),GP,Tryz.func90];simp only[Tryz.f90,evB]
   simp only[go_sem,seval, -Nat.reduceSubDiff,↓reduceIte,reduceCtorEq,rdr,h1,h2,h64]
   obtain⟨N,hN⟩: ∃N:Nat,val ds=N:=⟨(val ds).toNat,by omega⟩
   rw[hN] at h1 h64 ⊢
   rw[Int.toNat_natCast]
   generalize hy0:x+ds.length=y0 at*
   generalize hr:loopN _ _ _ _ _=r
   obtain⟨q,s1,rfl,hq,rfl,acc,p,e,c,rfl,hJ⟩: ∃q s1,r=some (q,s1)∧leaves q∧(q= .exit 0∧∃(acc:List Int) (p e:Int) (c:Bool),s1=lfin l p e c acc∧(match rdL N (l.drop y0) with
    | .error e'=>e=e'
    | .ok (ls,cc)=>acc=ls∧e=0∧p=((y0+cc:Nat):Int))):=by
    rw[←hr]
    refine loop_inv (J:=fun q s1=>q= .exit 0∧∃(acc:List Int) (p e:Int) (c:Bool),s1=lfin l p e c acc∧(match rdL N (l.drop y0) with
     | .error e'=>e=e'
     | .ok (ls,cc)=>acc=ls∧e=0∧p=((y0+cc:Nat):Int)))
     N (fun i z=> ∃(acc:List Int) (p e:Int) (c:Bool),z=lst l N p e i c acc∧((e≠0∧rdL N (l.drop y0)= .error e)∨(e=0∧∃y:Nat,p=y∧y0≤y∧y≤l.length∧acc.length=i∧rdL N (l.drop y0)=mapL acc (y-y0) (rdL (N-i) (l.drop y))))) ?_ ?_ fu _ (by omega)
     ⟨[],(y0:Int),0,false,rfl, .inr ⟨rfl,y0,rfl,Nat.le_refl _,by omega,rfl,by rw[Nat.sub_zero,Nat.sub_self];cases rdL N (l.drop y0) with|error e=>rfl|ok q=>simp[mapL]⟩⟩
    ·rintro i z hi ⟨acc,p,e,c,rfl,hI⟩
     have hiN:(i:Int)<N:=by omega
     have Wi:=wrap_i64 (show-9223372036854775808≤(i:Int)+1 by omega) (by omega)
     rcases hI with⟨he,hI⟩|⟨rfl,y,rfl,i1,i2,i3,i4⟩
     ·refine⟨.exit 0,lfin l p e c acc, ?_,rfl,acc,p,e,c,rfl,by rw[hI]⟩
      cases acc<;>simp only[go_sem,seval, -Nat.reduceSubDiff,↓reduceIte,reduceCtorEq,lst,lfin,hiN,he]
     ·obtain⟨k,hk⟩: ∃k,N-i=k+1:=⟨N-i-1,by omega⟩
      have hk':N-(i+1)=k:=by omega
      have hu:=u_ok fu n l hb y (by omega) i2 hl
      rw[hk,rdL] at i4
      cases hu':rdU (l.drop y) with
      |error e'=>
       rw[hu'] at hu i4
       simp only[rdr,uRes] at hu
       cases acc with
       |nil=>
        simp only[go_sem,seval, -Nat.reduceSubDiff,↓reduceIte,reduceCtorEq,lst,hiN,hu,Wi]
        exact⟨_,_,rfl,[0],0,e',false,rfl, .inl ⟨rdU_err hu',i4⟩⟩
       |cons a acc=>
        have i3':acc.length+1=i:=i3
        have ht:(acc.map (D.int .i64)).take acc.length=acc.map (D.int .i64):=List.take_of_length_le (by simp)
        have hs:sizedAll 1 [D.int .i64 (0)]=true:=rfl
        have hc:acc.length≤1099511627774:=by omega
        simp only[go_sem,seval, -Nat.reduceSubDiff,↓reduceIte,reduceCtorEq,lst,hiN,hu,Wi,hs,List.take_succ_cons,ht,hc,List.cons_append]
        refine⟨_,_,rfl,a::(acc++[0]),0,e',true, ?_, .inl ⟨rdU_err hu',i4⟩⟩
        simp
      |ok ds'=>
       rw[hu'] at hu i4
       simp only[rdr,uRes] at hu
       have hlen':=rdU_len hu'
       rw[List.length_drop] at hlen'
       have hgo: ∀acc2:List Int,acc2=acc++[val ds']→rdL N (l.drop y0)=mapL acc2 (y+ds'.length-y0) (rdL (N-(i+1)) (l.drop (y+ds'.length))):=fun acc2 e2=>by
        subst e2
        rw[i4,hk']
        simp only[List.drop_drop]
        cases rdL k (l.drop (y+ds'.length)) with
        |error e=>rfl
        |ok q=>obtain⟨ls,cc⟩:=q;simp only[mapL,List.append_assoc,List.singleton_append,Except.ok.injEq,Prod.mk.injEq,true_and];omega
       cases acc with
       |nil=>
        simp only[go_sem,seval, -Nat.reduceSubDiff,↓reduceIte,reduceCtorEq,lst,hiN,hu,Wi]
        exact⟨_,_,rfl,[val ds'],((y+ds'.length:Nat):Int),0,false,rfl, .inr ⟨rfl,y+ds'.length,rfl,by omega,by omega,by simp_all,hgo _ (by simp)⟩⟩
       |cons a acc=>
        have i3':acc.length+1=i:=i3
        have ht:(acc.map (D.int .i64)).take acc.length=acc.map (D.int .i64):=List.take_of_length_le (by simp)
        have hs:sizedAll 1 [D.int .i64 (val ds')]=true:=rfl
        have hc:acc.length≤1099511627774:=by omega
        simp only[go_sem,seval, -Nat.reduceSubDiff,↓reduceIte,reduceCtorEq,lst,hiN,hu,Wi,hs,List.take_succ_cons,ht,hc,List.cons_append]
        refine⟨_,_,rfl,a::(acc++[val ds']),((y+ds'.length:Nat):Int),0,true, ?_, .inr ⟨rfl,y+ds'.length,rfl,by omega,by omega,by simp_all,hgo _ (by simp)⟩⟩
        simp
    ·rintro z ⟨acc,p,e,c,rfl,hI⟩
     have hiN: ¬(N:Int)<N:=by omega
     refine⟨.exit 0,lfin l p e c acc, ?_,trivial,rfl,acc,p,e,c,rfl, ?_⟩
     ·cases acc<;>simp only[go_sem,seval, -Nat.reduceSubDiff,↓reduceIte,reduceCtorEq,lst,lfin,hiN]
     ·rcases hI with⟨he,hI⟩|⟨rfl,y,rfl,i1,i2,i3,i4⟩
      ·rw[hI]
      ·rw[Nat.sub_self] at i4
       rw[i4]
       simp only[rdL,mapL,List.append_nil,true_and]
       omega
   have hlen0:acc.length≤64∨True:= .inr trivial
   cases hR:rdL N (l.drop y0) with
   |error e'=>
    rw[hR] at hJ
    simp only at hJ
    subst hJ
    refine⟨acc,p, ?_⟩
    cases acc<;>simp only[go_sem,seval, -Nat.reduceSubDiff,↓reduceIte,reduceCtorEq,lfin]
   |ok q=>
    obtain⟨ls,cc⟩:=q
    rw[hR] at hJ
    obtain⟨rfl,rfl,rfl⟩:=hJ
    dsimp only
    rw[show x+(ds.length+cc)=y0+cc by omega]
    cases acc<;>simp only[go_sem,seval, -Nat.reduceSubDiff,↓reduceIte,reduceCtorEq,lfin]<;>trace_state
  ·have h2:=must_ok fu (n+4) l ((x+ds.length:Nat):Int) 4 false
   simp only[rdr,uRes] at h1 h2
   simp only[labRL,h64,if_false]
   refine⟨[],((x+ds.length:Nat):Int), ?_⟩
   have hp:0<val ds:=by omega
   rw[evF.eq_2,evX.eq_def,Gext,exts_no _ (f:=90) (by decide),GP,Tryz.func90];simp only[Tryz.f90,evB]
   simp only[go_sem,seval, -Nat.reduceSubDiff,↓reduceIte,reduceCtorEq,rdr,h1,h2,h64]
   rw[loop_some 0 (fun i=>⟨[(0, .ptr 0 0),(3, .d (.int .i64 (val ds))),(4, .nilsl),(5, .d (.int .i64 i))],[(0, .cells [.d (.list (byt l)), .d (.int .i64 ((x+ds.length:Nat):Int)), .d (.int .i64 4)])]⟩) (.exit 0,⟨[(4, .nilsl)],[(0, .cells [.d (.list (byt l)), .d (.int .i64 ((x+ds.length:Nat):Int)), .d (.int .i64 4)])]⟩) trivial (by omega) ?_]
   case hs=>intro i hi;omega
   case he=>simp only[go_sem,seval, -Nat.reduceSubDiff,↓reduceIte,reduceCtorEq,hp]
   ·simp only[go_sem,seval, -Nat.reduceSubDiff,↓reduceIte,reduceCtorEq]
   ·rfl
end Go.Proofs.YtfpioigggjnffaaGreatDoor.E
