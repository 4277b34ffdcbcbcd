/- R12. -/
import Derived.Test.YtfpioigggjnffaaGreatDoorR11
import Derived.Test.YtfpioigggjnffaaGreatDoorQ14
set_option linter.unnecessarySimpa false
set_option linter.unusedSimpArgs false
set_option linter.unusedVariables false
set_option autoImplicit false
set_option maxRecDepth 100000
set_option maxHeartbeats 4000000
set_option pp.maxSteps 20000
namespace Go.Proofs.YtfpioigggjnffaaGreatDoor.E
open Go.Ev
theorem rall_ev (fu n:Nat) (l:List Int) (hf:l.length<fu) (hs:l.length<1000000):evF (G fu) (n+1) 177 [.d (.list (byt l))] []=some (.d (.bool (l.all valB)),[]):=by
 rw[evF.eq_2,evX.eq_def,Gext,exts_no _ (f:=177) (by decide),GP,Tryz.func177];simp only[Tryz.f177,evB]
 simp only[go_sem,Nat.reduceAdd,Nat.reduceMul,Nat.reduceSub,Nat.reduceLT,Nat.reduceLeDiff,Nat.reduceEqDiff,Nat.reduceBEq,Nat.reduceBeqDiff,Int.reduceEq,Int.reduceLT,Int.reduceLE,Int.reduceToNat,Int.reduceNeg,Int.reduceAdd,Int.reduceSub,Int.reduceMul,reduceIte,reduceCtorEq,Nat.reducePow,Nat.reduceDiv,Nat.reduceMod,Int.reduceBEq,byt_len]
 rw[loop_scan l.length (fun k=>⟨[(0,V.d (D.list (byt l))),(3,V.d (D.int .i64 k))],[]⟩) (fun k=> !valB (l.getD k 0)) (fun _=>(.ret,⟨[(2,V.d (D.bool false))],[]⟩)) (.exit 0,⟨[],[]⟩) hf (fun _=>trivial) trivial ?_]
 case hs=>
  intro k hk
  have hx:(byt l)[k]? =some (.int .u8 (l.getD k 0)):=getD_map hk
  have hkI:(k:Int)<l.length:=by omega
  have W:=wrap_i64 (show-9223372036854775808≤(k:Int)+1 by omega) (by omega)
  generalize l.getD k 0=x at*
  unfold valB
  by_cases h6:x=126
  ·subst h6
   simp only[go_sem,Nat.reduceAdd,Nat.reduceMul,Nat.reduceSub,Nat.reduceLT,Nat.reduceLeDiff,Nat.reduceEqDiff,Nat.reduceBEq,Nat.reduceBeqDiff,Int.reduceEq,Int.reduceLT,Int.reduceLE,Int.reduceToNat,Int.reduceNeg,Int.reduceAdd,Int.reduceSub,Int.reduceMul,reduceIte,reduceCtorEq,Nat.reducePow,Nat.reduceDiv,Nat.reduceMod,Int.reduceBEq,byt_len,hkI,idx,hx,W,ne_eq]
   rfl
  ·by_cases h7:x=127
   ·subst h7
    simp only[go_sem,Nat.reduceAdd,Nat.reduceMul,Nat.reduceSub,Nat.reduceLT,Nat.reduceLeDiff,Nat.reduceEqDiff,Nat.reduceBEq,Nat.reduceBeqDiff,Int.reduceEq,Int.reduceLT,Int.reduceLE,Int.reduceToNat,Int.reduceNeg,Int.reduceAdd,Int.reduceSub,Int.reduceMul,reduceIte,reduceCtorEq,Nat.reducePow,Nat.reduceDiv,Nat.reduceMod,Int.reduceBEq,byt_len,hkI,idx,hx,W,ne_eq]
    rfl
   ·have e1:(x==126)=false:=by simpa using h6
    have e2:(x==127)=false:=by simpa using h7
    simp only[go_sem,Nat.reduceAdd,Nat.reduceMul,Nat.reduceSub,Nat.reduceLT,Nat.reduceLeDiff,Nat.reduceEqDiff,Nat.reduceBEq,Nat.reduceBeqDiff,Int.reduceEq,Int.reduceLT,Int.reduceLE,Int.reduceToNat,Int.reduceNeg,Int.reduceAdd,Int.reduceSub,Int.reduceMul,reduceIte,reduceCtorEq,Nat.reducePow,Nat.reduceDiv,Nat.reduceMod,Int.reduceBEq,byt_len,hkI,idx,hx,W,ne_eq,h6,h7,e1,e2]
 case he=>simp only[go_sem,Nat.reduceAdd,Nat.reduceMul,Nat.reduceSub,Nat.reduceLT,Nat.reduceLeDiff,Nat.reduceEqDiff,Nat.reduceBEq,Nat.reduceBeqDiff,Int.reduceEq,Int.reduceLT,Int.reduceLE,Int.reduceToNat,Int.reduceNeg,Int.reduceAdd,Int.reduceSub,Int.reduceMul,reduceIte,reduceCtorEq,Nat.reducePow,Nat.reduceDiv,Nat.reduceMod,Int.reduceBEq,byt_len,Int.lt_irrefl]
 ·have hA:=any_false (p:=valB) (d:=0) l
  unfold Go.Ev.scan
  cases hf2:first (fun k=> !valB (l.getD k 0)) 0 l.length with
  |some k=>rw[hf2] at hA;simp only[go_sem,Nat.reduceAdd,Nat.reduceMul,Nat.reduceSub,Nat.reduceLT,Nat.reduceLeDiff,Nat.reduceEqDiff,Nat.reduceBEq,Nat.reduceBeqDiff,Int.reduceEq,Int.reduceLT,Int.reduceLE,Int.reduceToNat,Int.reduceNeg,Int.reduceAdd,Int.reduceSub,Int.reduceMul,reduceIte,reduceCtorEq,Nat.reducePow,Nat.reduceDiv,Nat.reduceMod,Int.reduceBEq,←hA]
  |none=>rw[hf2] at hA;simp only[go_sem,Nat.reduceAdd,Nat.reduceMul,Nat.reduceSub,Nat.reduceLT,Nat.reduceLeDiff,Nat.reduceEqDiff,Nat.reduceBEq,Nat.reduceBeqDiff,Int.reduceEq,Int.reduceLT,Int.reduceLE,Int.reduceToNat,Int.reduceNeg,Int.reduceAdd,Int.reduceSub,Int.reduceMul,reduceIte,reduceCtorEq,Nat.reducePow,Nat.reduceDiv,Nat.reduceMod,Int.reduceBEq,←hA]
 ·rfl
theorem r4sane_ev (fu n:Nat) (t:List Int×List Int) (hf:t.1.length<fu) (hf2:t.2.length<fu) (h1:t.1.length<1000000) (h2:t.2.length<1000000):evF (G fu) (n+2) 130 [.d (tyD t)] []=some (.d (.bool (typeSane t)),[]):=by
 have A:=rall_ev fu n t.1 hf h1
 have B:=rall_ev fu n t.2 hf2 h2
 unfold typeSane
 rw[evF.eq_2,evX.eq_def,Gext,exts_no _ (f:=130) (by decide),GP,Tryz.func130];simp only[Tryz.f130,evB]
 by_cases c1:(t.1.length:Int)≤16
 ·by_cases c2:(t.2.length:Int)≤1
  ·cases ha:t.1.all valB with
   |false=>rw[ha] at A;simp only[go_sem,Nat.reduceAdd,Nat.reduceMul,Nat.reduceSub,Nat.reduceLT,Nat.reduceLeDiff,Nat.reduceEqDiff,Nat.reduceBEq,Nat.reduceBeqDiff,Int.reduceEq,Int.reduceLT,Int.reduceLE,Int.reduceToNat,Int.reduceNeg,Int.reduceAdd,Int.reduceSub,Int.reduceMul,reduceIte,reduceCtorEq,Nat.reducePow,Nat.reduceDiv,Nat.reduceMod,Int.reduceBEq,tyD,byt_len,c1,c2,A,ha]
   |true=>rw[ha] at A;simp only[go_sem,Nat.reduceAdd,Nat.reduceMul,Nat.reduceSub,Nat.reduceLT,Nat.reduceLeDiff,Nat.reduceEqDiff,Nat.reduceBEq,Nat.reduceBeqDiff,Int.reduceEq,Int.reduceLT,Int.reduceLE,Int.reduceToNat,Int.reduceNeg,Int.reduceAdd,Int.reduceSub,Int.reduceMul,reduceIte,reduceCtorEq,Nat.reducePow,Nat.reduceDiv,Nat.reduceMod,Int.reduceBEq,tyD,byt_len,c1,c2,A,B,ha]
  ·simp only[go_sem,Nat.reduceAdd,Nat.reduceMul,Nat.reduceSub,Nat.reduceLT,Nat.reduceLeDiff,Nat.reduceEqDiff,Nat.reduceBEq,Nat.reduceBeqDiff,Int.reduceEq,Int.reduceLT,Int.reduceLE,Int.reduceToNat,Int.reduceNeg,Int.reduceAdd,Int.reduceSub,Int.reduceMul,reduceIte,reduceCtorEq,Nat.reducePow,Nat.reduceDiv,Nat.reduceMod,Int.reduceBEq,tyD,byt_len,c1,c2]
 ·simp only[go_sem,Nat.reduceAdd,Nat.reduceMul,Nat.reduceSub,Nat.reduceLT,Nat.reduceLeDiff,Nat.reduceEqDiff,Nat.reduceBEq,Nat.reduceBeqDiff,Int.reduceEq,Int.reduceLT,Int.reduceLE,Int.reduceToNat,Int.reduceNeg,Int.reduceAdd,Int.reduceSub,Int.reduceMul,reduceIte,reduceCtorEq,Nat.reducePow,Nat.reduceDiv,Nat.reduceMod,Int.reduceBEq,tyD,byt_len,c1]
theorem rvals_ev (fu n:Nat) (l:List Int) (hl:l.length≤16) (hf:100<fu):evF (G fu) (n+3) 129 [.d (.list (byt l))] []=some (.d (.bool (l.all valB)),[]):=by
 have A:=r4sane_ev fu n (l,[]) (by simp only;omega) (by simp;omega) (by simp only;omega) (by simp)
 have hv:typeSane (l,[])=l.all valB:=by
  unfold typeSane
  simp[show(l.length:Int)≤16 by omega]
 rw[hv] at A
 simp only[tyD,byt0] at A
 have hm:min (l.length:Int) 16=l.length:=by omega
 rw[evF.eq_2,evX.eq_def,Gext,exts_no _ (f:=129) (by decide),GP,Tryz.func129];simp only[Tryz.f129,evB]
 simp only[go_sem,Nat.reduceAdd,Nat.reduceMul,Nat.reduceSub,Nat.reduceLT,Nat.reduceLeDiff,Nat.reduceEqDiff,Nat.reduceBEq,Nat.reduceBeqDiff,Int.reduceEq,Int.reduceLT,Int.reduceLE,Int.reduceToNat,Int.reduceNeg,Int.reduceAdd,Int.reduceSub,Int.reduceMul,reduceIte,reduceCtorEq,Nat.reducePow,Nat.reduceDiv,Nat.reduceMod,Int.reduceBEq,byt_len,minV,hm,byt_sized,byt_takeL,Int.le_refl,Int.sub_zero,Int.toNat_natCast,A]
theorem rEnvSane_ev (fu n:Nat) (e:TEnv) (h:EOk fu e):evF (G fu) (n+4) 68 [.d e.dd] []=some (.d (.bool (envSane e)),[]):=by
 have T:=fun t ht=>r4sane_ev fu (n+1) t (by have:=h.tys t ht;have:=h.big;omega) (by have:=h.tys t ht;have:=h.big;omega) (by have:=h.tys t ht;omega) (by have:=h.tys t ht;omega)
 have V1:=fun x=>rvals_ev fu n [x] (by simp) h.big
 simp only[byt1] at V1
 have hE:envSane e=(decide ((e.results.length:Int)≤1)&&e.results.all valB&&e.types.all typeSane&&(e.globals.map (·.1)).all valB&&e.locs.all valB):=by
  unfold envSane
  simp only[List.all_append]
  generalize e.types.all typeSane=a
  generalize e.results.all valB=b
  generalize e.locs.all valB=c
  generalize(e.globals.map (·.1)).all valB=d
  generalize decide ((e.results.length:Int)≤1)=f
  cases a<;>cases b<;>cases c<;>cases d<;>cases f<;>rfl
 rw[hE]
 rw[evF.eq_2,evX.eq_def,Gext,exts_no _ (f:=68) (by decide),GP,Tryz.func68];simp only[Tryz.f68,evB]
 by_cases r1:(e.results.length:Int)≤1
 ·have R:=rvals_ev fu n e.results (by omega) h.big
  cases hr:e.results.all valB with
  |false=>
   rw[hr] at R
   simp only[go_sem,Nat.reduceAdd,Nat.reduceMul,Nat.reduceSub,Nat.reduceLT,Nat.reduceLeDiff,Nat.reduceEqDiff,Nat.reduceBEq,Nat.reduceBeqDiff,Int.reduceEq,Int.reduceLT,Int.reduceLE,Int.reduceToNat,Int.reduceNeg,Int.reduceAdd,Int.reduceSub,Int.reduceMul,reduceIte,reduceCtorEq,Nat.reducePow,Nat.reduceDiv,Nat.reduceMod,Int.reduceBEq,TEnv.dd,byt_len,r1,show ¬(1:Int)<e.results.length by omega,R]
  |true=>
   rw[hr] at R
   simp only[go_sem,Nat.reduceAdd,Nat.reduceMul,Nat.reduceSub,Nat.reduceLT,Nat.reduceLeDiff,Nat.reduceEqDiff,Nat.reduceBEq,Nat.reduceBeqDiff,Int.reduceEq,Int.reduceLT,Int.reduceLE,Int.reduceToNat,Int.reduceNeg,Int.reduceAdd,Int.reduceSub,Int.reduceMul,reduceIte,reduceCtorEq,Nat.reducePow,Nat.reduceDiv,Nat.reduceMod,Int.reduceBEq,TEnv.dd,byt_len,List.length_map,r1,show ¬(1:Int)<e.results.length by omega,R]
   rw[loop_scan e.types.length (fun k=>⟨[(1,V.ptr 128 0),(3,V.d (D.int .i64 k))],[(128, .cells [V.d (D.list (List.map tyD e.types)),V.d (D.list (List.map (D.int IntKind.i64) e.funcs)),V.d (D.int IntKind.i64 e.tables),V.d (D.int IntKind.i64 e.mems),V.d (D.list (List.map glD e.globals)),V.d (D.list (byt e.locs)),V.d (D.list (byt e.results))])]⟩) (fun k=> !typeSane (e.types.getD k ty0)) (fun _=>(.ret,⟨[(2,V.d (D.bool false))],[]⟩)) (.exit 0,⟨[(1,V.ptr 128 0)],[(128, .cells [V.d (D.list (List.map tyD e.types)),V.d (D.list (List.map (D.int IntKind.i64) e.funcs)),V.d (D.int IntKind.i64 e.tables),V.d (D.int IntKind.i64 e.mems),V.d (D.list (List.map glD e.globals)),V.d (D.list (byt e.locs)),V.d (D.list (byt e.results))])]⟩) (h.types.1) (fun _=>trivial) trivial ?_]
   case hs=>
    intro k hk
    have hx:(e.types.map tyD)[k]? =some (tyD (e.types.getD k ty0)):=getD_map hk
    have hkI:(k:Int)<e.types.length:=by omega
    have W:=wrap_i64 (show-9223372036854775808≤(k:Int)+1 by omega) (by have:=h.types.2;omega)
    have hm:e.types.getD k ty0∈e.types:=by
     rw[List.getD_eq_getElem?_getD,List.getElem?_eq_getElem hk];exact List.getElem_mem hk
    have T:=T _ hm
    generalize e.types.getD k ty0=t at*
    simp only[tyD] at hx T
    cases hts:typeSane t with
    |true=>rw[hts] at T;simp only[go_sem,Nat.reduceAdd,Nat.reduceMul,Nat.reduceSub,Nat.reduceLT,Nat.reduceLeDiff,Nat.reduceEqDiff,Nat.reduceBEq,Nat.reduceBeqDiff,Int.reduceEq,Int.reduceLT,Int.reduceLE,Int.reduceToNat,Int.reduceNeg,Int.reduceAdd,Int.reduceSub,Int.reduceMul,reduceIte,reduceCtorEq,Nat.reducePow,Nat.reduceDiv,Nat.reduceMod,Int.reduceBEq,List.length_map,hkI,idx,hx,T,W];rfl
    |false=>rw[hts] at T;simp only[go_sem,Nat.reduceAdd,Nat.reduceMul,Nat.reduceSub,Nat.reduceLT,Nat.reduceLeDiff,Nat.reduceEqDiff,Nat.reduceBEq,Nat.reduceBeqDiff,Int.reduceEq,Int.reduceLT,Int.reduceLE,Int.reduceToNat,Int.reduceNeg,Int.reduceAdd,Int.reduceSub,Int.reduceMul,reduceIte,reduceCtorEq,Nat.reducePow,Nat.reduceDiv,Nat.reduceMod,Int.reduceBEq,List.length_map,hkI,idx,hx,T,W]
   case he=>simp only[go_sem,Nat.reduceAdd,Nat.reduceMul,Nat.reduceSub,Nat.reduceLT,Nat.reduceLeDiff,Nat.reduceEqDiff,Nat.reduceBEq,Nat.reduceBeqDiff,Int.reduceEq,Int.reduceLT,Int.reduceLE,Int.reduceToNat,Int.reduceNeg,Int.reduceAdd,Int.reduceSub,Int.reduceMul,reduceIte,reduceCtorEq,Nat.reducePow,Nat.reduceDiv,Nat.reduceMod,Int.reduceBEq,List.length_map,Int.lt_irrefl]
   ·have hA:=any_false (p:=typeSane) (d:=ty0) e.types
    unfold Go.Ev.scan
    cases hf:first (fun k=> !typeSane (e.types.getD k ty0)) 0 e.types.length with
    |some k=>rw[hf] at hA;simp only[go_sem,Nat.reduceAdd,Nat.reduceMul,Nat.reduceSub,Nat.reduceLT,Nat.reduceLeDiff,Nat.reduceEqDiff,Nat.reduceBEq,Nat.reduceBeqDiff,Int.reduceEq,Int.reduceLT,Int.reduceLE,Int.reduceToNat,Int.reduceNeg,Int.reduceAdd,Int.reduceSub,Int.reduceMul,reduceIte,reduceCtorEq,Nat.reducePow,Nat.reduceDiv,Nat.reduceMod,Int.reduceBEq,←hA]
    |none=>
     rw[hf] at hA
     rw[←hA]
     simp only[go_sem,Nat.reduceAdd,Nat.reduceMul,Nat.reduceSub,Nat.reduceLT,Nat.reduceLeDiff,Nat.reduceEqDiff,Nat.reduceBEq,Nat.reduceBeqDiff,Int.reduceEq,Int.reduceLT,Int.reduceLE,Int.reduceToNat,Int.reduceNeg,Int.reduceAdd,Int.reduceSub,Int.reduceMul,reduceIte,reduceCtorEq,Nat.reducePow,Nat.reduceDiv,Nat.reduceMod,Int.reduceBEq,List.length_map]
     rw[loop_scan e.globals.length (fun k=>⟨[(1,V.ptr 128 0),(4,V.d (D.int .i64 k))],[(128, .cells [V.d (D.list (List.map tyD e.types)),V.d (D.list (List.map (D.int IntKind.i64) e.funcs)),V.d (D.int IntKind.i64 e.tables),V.d (D.int IntKind.i64 e.mems),V.d (D.list (List.map glD e.globals)),V.d (D.list (byt e.locs)),V.d (D.list (byt e.results))])]⟩) (fun k=> !valB (e.globals.getD k gl0).1) (fun _=>(.ret,⟨[(2,V.d (D.bool false))],[]⟩)) (.exit 2,⟨[(1,V.ptr 128 0)],[(128, .cells [V.d (D.list (List.map tyD e.types)),V.d (D.list (List.map (D.int IntKind.i64) e.funcs)),V.d (D.int IntKind.i64 e.tables),V.d (D.int IntKind.i64 e.mems),V.d (D.list (List.map glD e.globals)),V.d (D.list (byt e.locs)),V.d (D.list (byt e.results))])]⟩) (h.globals.1) (fun _=>trivial) trivial ?_]
     case hs=>
      intro k hk
      have hx:(e.globals.map glD)[k]? =some (glD (e.globals.getD k gl0)):=getD_map hk
      have hkI:(k:Int)<e.globals.length:=by omega
      have W:=wrap_i64 (show-9223372036854775808≤(k:Int)+1 by omega) (by have:=h.globals.2;omega)
      have V2:=V1 (e.globals.getD k gl0).1
      generalize e.globals.getD k gl0=g at*
      have hs1:([g.1].all valB)=valB g.1:=by simp
      rw[hs1] at V2
      simp only[glD] at hx
      cases hts:valB g.1 with
      |true=>rw[hts] at V2;simp only[go_sem,Nat.reduceAdd,Nat.reduceMul,Nat.reduceSub,Nat.reduceLT,Nat.reduceLeDiff,Nat.reduceEqDiff,Nat.reduceBEq,Nat.reduceBeqDiff,Int.reduceEq,Int.reduceLT,Int.reduceLE,Int.reduceToNat,Int.reduceNeg,Int.reduceAdd,Int.reduceSub,Int.reduceMul,reduceIte,reduceCtorEq,Nat.reducePow,Nat.reduceDiv,Nat.reduceMod,Int.reduceBEq,List.length_map,hkI,idx,hx,V2,W];rfl
      |false=>rw[hts] at V2;simp only[go_sem,Nat.reduceAdd,Nat.reduceMul,Nat.reduceSub,Nat.reduceLT,Nat.reduceLeDiff,Nat.reduceEqDiff,Nat.reduceBEq,Nat.reduceBeqDiff,Int.reduceEq,Int.reduceLT,Int.reduceLE,Int.reduceToNat,Int.reduceNeg,Int.reduceAdd,Int.reduceSub,Int.reduceMul,reduceIte,reduceCtorEq,Nat.reducePow,Nat.reduceDiv,Nat.reduceMod,Int.reduceBEq,List.length_map,hkI,idx,hx,V2,W]
     case he=>simp only[go_sem,Nat.reduceAdd,Nat.reduceMul,Nat.reduceSub,Nat.reduceLT,Nat.reduceLeDiff,Nat.reduceEqDiff,Nat.reduceBEq,Nat.reduceBeqDiff,Int.reduceEq,Int.reduceLT,Int.reduceLE,Int.reduceToNat,Int.reduceNeg,Int.reduceAdd,Int.reduceSub,Int.reduceMul,reduceIte,reduceCtorEq,Nat.reducePow,Nat.reduceDiv,Nat.reduceMod,Int.reduceBEq,List.length_map,Int.lt_irrefl]
     ·have hB:=any_false (p:=fun g:Int×Bool=>valB g.1) (d:=gl0) e.globals
      have hB2:(e.globals.map (·.1)).all valB=e.globals.all (fun g=>valB g.1):=by rw[List.all_map];rfl
      rw[hB2]
      unfold Go.Ev.scan
      cases hf:first (fun k=> !valB (e.globals.getD k gl0).1) 0 e.globals.length with
      |some k=>rw[hf] at hB;simp only[go_sem,Nat.reduceAdd,Nat.reduceMul,Nat.reduceSub,Nat.reduceLT,Nat.reduceLeDiff,Nat.reduceEqDiff,Nat.reduceBEq,Nat.reduceBeqDiff,Int.reduceEq,Int.reduceLT,Int.reduceLE,Int.reduceToNat,Int.reduceNeg,Int.reduceAdd,Int.reduceSub,Int.reduceMul,reduceIte,reduceCtorEq,Nat.reducePow,Nat.reduceDiv,Nat.reduceMod,Int.reduceBEq,←hB]
      |none=>
       rw[hf] at hB
       rw[←hB]
       simp only[go_sem,Nat.reduceAdd,Nat.reduceMul,Nat.reduceSub,Nat.reduceLT,Nat.reduceLeDiff,Nat.reduceEqDiff,Nat.reduceBEq,Nat.reduceBeqDiff,Int.reduceEq,Int.reduceLT,Int.reduceLE,Int.reduceToNat,Int.reduceNeg,Int.reduceAdd,Int.reduceSub,Int.reduceMul,reduceIte,reduceCtorEq,Nat.reducePow,Nat.reduceDiv,Nat.reduceMod,Int.reduceBEq,byt_len]
       rw[loop_scan e.locs.length (fun k=>⟨[(1,V.ptr 128 0),(5,V.d (D.int .i64 k))],[(128, .cells [V.d (D.list (List.map tyD e.types)),V.d (D.list (List.map (D.int IntKind.i64) e.funcs)),V.d (D.int IntKind.i64 e.tables),V.d (D.int IntKind.i64 e.mems),V.d (D.list (List.map glD e.globals)),V.d (D.list (byt e.locs)),V.d (D.list (byt e.results))])]⟩) (fun k=> !valB (e.locs.getD k 0)) (fun _=>(.ret,⟨[(2,V.d (D.bool false))],[]⟩)) (.exit 4,⟨[],[]⟩) (by have:=h.all;omega) (fun _=>trivial) trivial ?_]
       case hs=>
        intro k hk
        have hx:(byt e.locs)[k]? =some (.int .u8 (e.locs.getD k 0)):=getD_map hk
        have hkI:(k:Int)<e.locs.length:=by omega
        have W:=wrap_i64 (show-9223372036854775808≤(k:Int)+1 by omega) (by have:=h.locs;omega)
        have V2:=V1 (e.locs.getD k 0)
        generalize e.locs.getD k 0=x at*
        have hs1:([x].all valB)=valB x:=by simp
        rw[hs1] at V2
        cases hts:valB x with
        |true=>rw[hts] at V2;simp only[go_sem,Nat.reduceAdd,Nat.reduceMul,Nat.reduceSub,Nat.reduceLT,Nat.reduceLeDiff,Nat.reduceEqDiff,Nat.reduceBEq,Nat.reduceBeqDiff,Int.reduceEq,Int.reduceLT,Int.reduceLE,Int.reduceToNat,Int.reduceNeg,Int.reduceAdd,Int.reduceSub,Int.reduceMul,reduceIte,reduceCtorEq,Nat.reducePow,Nat.reduceDiv,Nat.reduceMod,Int.reduceBEq,byt_len,hkI,idx,hx,V2,W];rfl
        |false=>rw[hts] at V2;simp only[go_sem,Nat.reduceAdd,Nat.reduceMul,Nat.reduceSub,Nat.reduceLT,Nat.reduceLeDiff,Nat.reduceEqDiff,Nat.reduceBEq,Nat.reduceBeqDiff,Int.reduceEq,Int.reduceLT,Int.reduceLE,Int.reduceToNat,Int.reduceNeg,Int.reduceAdd,Int.reduceSub,Int.reduceMul,reduceIte,reduceCtorEq,Nat.reducePow,Nat.reduceDiv,Nat.reduceMod,Int.reduceBEq,byt_len,hkI,idx,hx,V2,W]
       case he=>simp only[go_sem,Nat.reduceAdd,Nat.reduceMul,Nat.reduceSub,Nat.reduceLT,Nat.reduceLeDiff,Nat.reduceEqDiff,Nat.reduceBEq,Nat.reduceBeqDiff,Int.reduceEq,Int.reduceLT,Int.reduceLE,Int.reduceToNat,Int.reduceNeg,Int.reduceAdd,Int.reduceSub,Int.reduceMul,reduceIte,reduceCtorEq,Nat.reducePow,Nat.reduceDiv,Nat.reduceMod,Int.reduceBEq,byt_len,Int.lt_irrefl]
       ·have hC:=any_false (p:=valB) (d:=0) e.locs
        unfold Go.Ev.scan
        cases hf:first (fun k=> !valB (e.locs.getD k 0)) 0 e.locs.length with
        |some k=>rw[hf] at hC;simp only[go_sem,Nat.reduceAdd,Nat.reduceMul,Nat.reduceSub,Nat.reduceLT,Nat.reduceLeDiff,Nat.reduceEqDiff,Nat.reduceBEq,Nat.reduceBeqDiff,Int.reduceEq,Int.reduceLT,Int.reduceLE,Int.reduceToNat,Int.reduceNeg,Int.reduceAdd,Int.reduceSub,Int.reduceMul,reduceIte,reduceCtorEq,Nat.reducePow,Nat.reduceDiv,Nat.reduceMod,Int.reduceBEq,←hC]
        |none=>rw[hf] at hC;simp only[go_sem,Nat.reduceAdd,Nat.reduceMul,Nat.reduceSub,Nat.reduceLT,Nat.reduceLeDiff,Nat.reduceEqDiff,Nat.reduceBEq,Nat.reduceBeqDiff,Int.reduceEq,Int.reduceLT,Int.reduceLE,Int.reduceToNat,Int.reduceNeg,Int.reduceAdd,Int.reduceSub,Int.reduceMul,reduceIte,reduceCtorEq,Nat.reducePow,Nat.reduceDiv,Nat.reduceMod,Int.reduceBEq,←hC]
       ·rfl
     ·rfl
   ·rfl
 ·simp only[go_sem,Nat.reduceAdd,Nat.reduceMul,Nat.reduceSub,Nat.reduceLT,Nat.reduceLeDiff,Nat.reduceEqDiff,Nat.reduceBEq,Nat.reduceBeqDiff,Int.reduceEq,Int.reduceLT,Int.reduceLE,Int.reduceToNat,Int.reduceNeg,Int.reduceAdd,Int.reduceSub,Int.reduceMul,reduceIte,reduceCtorEq,Nat.reducePow,Nat.reduceDiv,Nat.reduceMod,Int.reduceBEq,TEnv.dd,byt_len,r1,show(1:Int)<e.results.length by omega]
end Go.Proofs.YtfpioigggjnffaaGreatDoor.E
