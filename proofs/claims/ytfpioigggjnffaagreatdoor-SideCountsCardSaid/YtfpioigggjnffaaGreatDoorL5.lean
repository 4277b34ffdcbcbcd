/- L5. -/
import Derived.Test.YtfpioigggjnffaaGreatDoorK4
set_option linter.unnecessarySimpa false
set_option linter.unusedSimpArgs false
set_option linter.unusedVariables false
set_option autoImplicit false
set_option maxRecDepth 100000
set_option maxHeartbeats 4000000
set_option pp.maxSteps 20000
namespace Go.Proofs.YtfpioigggjnffaaGreatDoor.E
open Go.Ev
def labG (l:List Int) (x:Nat):Except Int (List Int×Nat):=match rdU (l.drop x) with
 | .error e=> .error e
 | .ok ds=>if val ds≤64 then match rdL (val ds).toNat (l.drop (x+ds.length)) with
     | .error e=> .error e
     | .ok (ls,c)=> .ok (ls,ds.length+c) else .error 4
def labRL (l:List Int) (x:Nat) (r:Option Res):Except Int (List Int×Nat)→Prop
 | .error e=> ∃(ls:List Int) (p:Int),r=some (.row 1 0 0 ls.length,[rdr l p e, .row 1 (ls.map (D.int .i64)) 0 false false])
 | .ok (ls,c)=>r=some (.row 1 0 0 ls.length,[rdr l ((x+c:Nat):Int) 0, .row 1 (ls.map (D.int .i64)) 0 false false])
def mapL (acc:List Int) (d:Nat):Except Int (List Int×Nat)→Except Int (List Int×Nat)
 | .error e=> .error e
 | .ok (ls,c)=> .ok (acc++ls,d+c)
def lst (l:List Int) (N:Int) (p e:Int) (i:Nat) (c:Bool):List Int→St
 |[]=>⟨[(0, .ptr 0 0),(3, .d (.int .i64 N)),(4, .nilsl),(5, .d (.int .i64 i))],[(0, .cells [.d (.list (byt l)), .d (.int .i64 p), .d (.int .i64 e)])]⟩
 |a::acc=>⟨[(0, .ptr 0 0),(3, .d (.int .i64 N)),(4, .row 1856 0 0 (acc.length+1)),(5, .d (.int .i64 i))],[(0, .cells [.d (.list (byt l)), .d (.int .i64 p), .d (.int .i64 e)]),(1856, .row 1 (.int .i64 a::acc.map (D.int .i64)) 0 false c)]⟩
def lfin (l:List Int) (p e:Int) (c:Bool):List Int→St
 |[]=>⟨[(4, .nilsl)],[(0, .cells [.d (.list (byt l)), .d (.int .i64 p), .d (.int .i64 e)])]⟩
 |a::acc=>⟨[(4, .row 1856 0 0 (acc.length+1))],[(0, .cells [.d (.list (byt l)), .d (.int .i64 p), .d (.int .i64 e)]),(1856, .row 1 (.int .i64 a::acc.map (D.int .i64)) 0 false c)]⟩
theorem labels_ok (fu n:Nat) (l:List Int) (hb:Bs l) (x:Nat) (hf:70<fu) (hx:x≤l.length) (hl:l.length<1099511627000):labRL l x (evF (G fu) (n+6) 90 [.ptr 0 0] [rdr l x 0]) (labG l x):=by
 have h1:=u_ok fu n l hb x (by omega) hx hl
 unfold labG
 cases hs:rdU (l.drop x) with
 |error e=>
  have he:=rdU_err hs
  rw[hs] at h1
  have h2:=must_bad fu (n+4) l 0 e 4 true he
  simp only[rdr,uRes] at h1 h2
  simp only[labRL]
  refine⟨[],0, ?_⟩
  rw[evF.eq_2,evX.eq_def,Gext,exts_no _ (f:=90) (by decide),GP,Tryz.func90];simp only[Tryz.f90,evB]
  simp only[go_sem,seval, -Nat.reduceSubDiff,↓reduceIte,reduceCtorEq,rdr,h1,h2]
  rw[loop_some 0 (fun i=>⟨[(0, .ptr 0 0),(3, .d (.int .i64 0)),(4, .nilsl),(5, .d (.int .i64 i))],[(0, .cells [.d (.list (byt l)), .d (.int .i64 0), .d (.int .i64 e)])]⟩) (.exit 0,⟨[(4, .nilsl)],[(0, .cells [.d (.list (byt l)), .d (.int .i64 0), .d (.int .i64 e)])]⟩) trivial (by omega) ?_]
  case hs=>intro i hi;omega
  case he=>simp only[go_sem,seval, -Nat.reduceSubDiff,↓reduceIte,reduceCtorEq]
  ·simp only[go_sem,seval, -Nat.reduceSubDiff,↓reduceIte,reduceCtorEq]
  ·rfl
 |ok ds=>
  have hlt:=rdU_lt (hb.drop x) hs
  have hvn:=val_nonneg ds
  have hlen:=rdU_len hs
  rw[List.length_drop] at hlen
  rw[hs] at h1
  by_cases h64:val ds≤64
  ·have h2:=must_ok fu (n+4) l ((x+ds.length:Nat):Int) 4 true
   simp only[rdr,uRes] at h1 h2
   simp only[labRL,h64,if_true]
   rw[evF.eq_2,evX.eq_def,Gext,exts_no _ (f:=90) (by decide),GP,Tryz.func90];simp only[Tryz.f90,evB]
   simp only[go_sem,seval, -Nat.reduceSubDiff,↓reduceIte,reduceCtorEq,rdr,h1,h2,h64]
   obtain⟨N,hN⟩: ∃N:Nat,val ds=N:=⟨(val ds).toNat,by omega⟩
   rw[hN] at h1 h64 ⊢
   rw[Int.toNat_natCast]
   generalize hy0:x+ds.length=y0 at*
   generalize hr:loopN _ _ _ _ _=r
   obtain⟨q,s1,rfl,hq,rfl,acc,p,e,c,rfl,hJ⟩: ∃q s1,r=some (q,s1)∧leaves q∧(q= .exit 0∧∃(acc:List Int) (p e:Int) (c:Bool),s1=lfin l p e c acc∧(match rdL N (l.drop y0) with
    | .error e'=>e=e'
    | .ok (ls,cc)=>acc=ls∧e=0∧p=((y0+cc:Nat):Int))):=by
    rw[←hr]
    refine loop_inv (J:=fun q s1=>q= .exit 0∧∃(acc:List Int) (p e:Int) (c:Bool),s1=lfin l p e c acc∧(match rdL N (l.drop y0) with
     | .error e'=>e=e'
     | .ok (ls,cc)=>acc=ls∧e=0∧p=((y0+cc:Nat):Int)))
     N (fun i z=> ∃(acc:List Int) (p e:Int) (c:Bool),z=lst l N p e i c acc∧((e≠0∧rdL N (l.drop y0)= .error e)∨(e=0∧∃y:Nat,p=y∧y0≤y∧y≤l.length∧acc.length=i∧rdL N (l.drop y0)=mapL acc (y-y0) (rdL (N-i) (l.drop y))))) ?_ ?_ fu _ (by omega)
     ⟨[],(y0:Int),0,false,rfl, .inr ⟨rfl,y0,rfl,Nat.le_refl _,by omega,rfl,by rw[Nat.sub_zero,Nat.sub_self];cases rdL N (l.drop y0) with|error e=>rfl|ok q=>simp[mapL]⟩⟩
    ·rintro i z hi ⟨acc,p,e,c,rfl,hI⟩
     have hiN:(i:Int)<N:=by omega
     have Wi:=wrap_i64 (show-9223372036854775808≤(i:Int)+1 by omega) (by omega)
     rcases hI with⟨he,hI⟩|⟨rfl,y,rfl,i1,i2,i3,i4⟩
     ·refine⟨.exit 0,lfin l p e c acc, ?_,rfl,acc,p,e,c,rfl,by rw[hI]⟩
      cases acc<;>simp only[go_sem,seval, -Nat.reduceSubDiff,↓reduceIte,reduceCtorEq,lst,lfin,hiN,he]
     ·obtain⟨k,hk⟩: ∃k,N-i=k+1:=⟨N-i-1,by omega⟩
      have hk':N-(i+1)=k:=by omega
      have hu:=u_ok fu n l hb y (by omega) i2 hl
      rw[hk,rdL] at i4
      cases hu':rdU (l.drop y) with
      |error e'=>
       rw[hu'] at hu i4
       simp only[rdr,uRes] at hu
       cases acc with
       |nil=>
        simp only[go_sem,seval, -Nat.reduceSubDiff,↓reduceIte,reduceCtorEq,lst,hiN,hu,Wi]
        exact⟨_,_,rfl,[0],0,e',false,rfl, .inl ⟨rdU_err hu',i4⟩⟩
       |cons a acc=>
        have i3':acc.length+1=i:=i3
        have ht:(acc.map (D.int .i64)).take acc.length=acc.map (D.int .i64):=List.take_of_length_le (by simp)
        have hs:sizedAll 1 [D.int .i64 (0)]=true:=rfl
        have hc:acc.length≤1099511627774:=by omega
        simp only[go_sem,seval, -Nat.reduceSubDiff,↓reduceIte,reduceCtorEq,lst,hiN,hu,Wi,hs,List.take_succ_cons,ht,hc,List.cons_append]
        refine⟨_,_,rfl,a::(acc++[0]),0,e',true, ?_, .inl ⟨rdU_err hu',i4⟩⟩
        simp
      |ok ds'=>
       rw[hu'] at hu i4
       simp only[rdr,uRes] at hu
       have hlen':=rdU_len hu'
       rw[List.length_drop] at hlen'
       have hgo: ∀acc2:List Int,acc2=acc++[val ds']→rdL N (l.drop y0)=mapL acc2 (y+ds'.length-y0) (rdL (N-(i+1)) (l.drop (y+ds'.length))):=fun acc2 e2=>by
        subst e2
        rw[i4,hk']
        simp only[List.drop_drop]
        cases rdL k (l.drop (y+ds'.length)) with
        |error e=>rfl
        |ok q=>obtain⟨ls,cc⟩:=q;simp only[mapL,List.append_assoc,List.singleton_append,Except.ok.injEq,Prod.mk.injEq,true_and];omega
       cases acc with
       |nil=>
        simp only[go_sem,seval, -Nat.reduceSubDiff,↓reduceIte,reduceCtorEq,lst,hiN,hu,Wi]
        exact⟨_,_,rfl,[val ds'],((y+ds'.length:Nat):Int),0,false,rfl, .inr ⟨rfl,y+ds'.length,rfl,by omega,by omega,by simp_all,hgo _ (by simp)⟩⟩
       |cons a acc=>
        have i3':acc.length+1=i:=i3
        have ht:(acc.map (D.int .i64)).take acc.length=acc.map (D.int .i64):=List.take_of_length_le (by simp)
        have hs:sizedAll 1 [D.int .i64 (val ds')]=true:=rfl
        have hc:acc.length≤1099511627774:=by omega
        simp only[go_sem,seval, -Nat.reduceSubDiff,↓reduceIte,reduceCtorEq,lst,hiN,hu,Wi,hs,List.take_succ_cons,ht,hc,List.cons_append]
        refine⟨_,_,rfl,a::(acc++[val ds']),((y+ds'.length:Nat):Int),0,true, ?_, .inr ⟨rfl,y+ds'.length,rfl,by omega,by omega,by simp_all,hgo _ (by simp)⟩⟩
        simp
    ·rintro z ⟨acc,p,e,c,rfl,hI⟩
     have hiN: ¬(N:Int)<N:=by omega
     refine⟨.exit 0,lfin l p e c acc, ?_,trivial,rfl,acc,p,e,c,rfl, ?_⟩
     ·cases acc<;>simp only[go_sem,seval, -Nat.reduceSubDiff,↓reduceIte,reduceCtorEq,lst,lfin,hiN]
     ·rcases hI with⟨he,hI⟩|⟨rfl,y,rfl,i1,i2,i3,i4⟩
      ·rw[hI]
      ·rw[Nat.sub_self] at i4
       rw[i4]
       simp only[rdL,mapL,List.append_nil,true_and]
       omega
   have hlen0:acc.length≤64∨True:= .inr trivial
   cases hR:rdL N (l.drop y0) with
   |error e'=>
    rw[hR] at hJ
    simp only at hJ
    subst hJ
    refine⟨acc,p, ?_⟩
    cases acc<;>simp only[go_sem,seval, -Nat.reduceSubDiff,↓reduceIte,reduceCtorEq,lfin]
   |ok q=>
    obtain⟨ls,cc⟩:=q
    rw[hR] at hJ
    obtain⟨rfl,rfl,rfl⟩:=hJ
    dsimp only
    rw[show x+(ds.length+cc)=y0+cc by omega]
    cases acc<;>simp only[go_sem,seval, -Nat.reduceSubDiff,↓reduceIte,reduceCtorEq,lfin]<;>trace_state
  ·have h2:=must_ok fu (n+4) l ((x+ds.length:Nat):Int) 4 false
   simp only[rdr,uRes] at h1 h2
   simp only[labRL,h64,if_false]
   refine⟨[],((x+ds.length:Nat):Int), ?_⟩
   have hp:0<val ds:=by omega
   rw[evF.eq_2,evX.eq_def,Gext,exts_no _ (f:=90) (by decide),GP,Tryz.func90];simp only[Tryz.f90,evB]
   simp only[go_sem,seval, -Nat.reduceSubDiff,↓reduceIte,reduceCtorEq,rdr,h1,h2,h64]
   rw[loop_some 0 (fun i=>⟨[(0, .ptr 0 0),(3, .d (.int .i64 (val ds))),(4, .nilsl),(5, .d (.int .i64 i))],[(0, .cells [.d (.list (byt l)), .d (.int .i64 ((x+ds.length:Nat):Int)), .d (.int .i64 4)])]⟩) (.exit 0,⟨[(4, .nilsl)],[(0, .cells [.d (.list (byt l)), .d (.int .i64 ((x+ds.length:Nat):Int)), .d (.int .i64 4)])]⟩) trivial (by omega) ?_]
   case hs=>intro i hi;omega
   case he=>simp only[go_sem,seval, -Nat.reduceSubDiff,↓reduceIte,reduceCtorEq,hp]
   ·simp only[go_sem,seval, -Nat.reduceSubDiff,↓reduceIte,reduceCtorEq]
   ·rfl
end Go.Proofs.YtfpioigggjnffaaGreatDoor.E
