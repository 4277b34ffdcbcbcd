/- Q14. -/
import Derived.Test.YtfpioigggjnffaaGreatDoorQ13
set_option linter.unnecessarySimpa false
set_option linter.unusedSimpArgs false
set_option linter.unusedVariables false
set_option autoImplicit false
set_option maxRecDepth 100000
set_option maxHeartbeats 4000000
set_option pp.maxSteps 20000
namespace Go.Proofs.YtfpioigggjnffaaGreatDoor.E
open Go.Ev
def envSane (e:TEnv):Bool:=e.types.all typeSane&&(e.locs++e.results++e.globals.map (·.1)).all valB&&decide ((e.results.length:Int)≤1)
structure EOk (fu:Nat) (e:TEnv):Prop where
 types:e.types.length<fu∧e.types.length<1000000
 tys: ∀t∈e.types,t.1.length≤64∧t.2.length≤64
 globals:e.globals.length<fu∧e.globals.length<1000000
 locs:e.locs.length<1000000
 results:e.results.length≤64
 all:e.locs.length+e.results.length+e.globals.length<fu
 big:100<fu
theorem EOk.sm {fu:Nat} {e:TEnv} (h:EOk fu e):ESm e:=⟨h.tys,h.results⟩
theorem any_false {α:Type} {p:α→Bool} {d:α} (l:List α):(match first (fun i=> !p (l.getD i d)) 0 l.length with|none=>true|some _=>false)=l.all p:=by
 have:=first_list (p:=fun x=> !p x) (d:=d) l
 cases hf:first (fun i=> !p (l.getD i d)) 0 l.length with
 |none=>
  have:=this.1 hf
  rw[←Bool.not_eq_true] at this
  cases ha:l.all p with
  |true=>rfl
  |false=>
   exfalso;apply this
   rw[List.all_eq_false] at ha
   obtain⟨x,hx,hp⟩:=ha
   exact List.any_eq_true.2 ⟨x,hx,by simpa using hp⟩
 |some i=>
  rw[hf] at this
  cases ha:l.all p with
  |false=>rfl
  |true=>
   exfalso
   have:l.any (fun x=> !p x)=false:=by
    rw[List.any_eq_false];intro x hx
    rw[List.all_eq_true] at ha
    simp[ha x hx]
   have h2:=first_list (p:=fun x=> !p x) (d:=d) l
   rw[hf] at h2
   exact absurd (h2.2 this) (by simp)
theorem envSane_ev (fu n:Nat) (e:TEnv) (h:EOk fu e):evF (G fu) (n+6) 65 [.d e.dd] []=some (.d (.bool (envSane e)),[]):=by
 have T:=fun t ht=>typeSane_ev fu n t (by have:=h.tys t ht;have:=h.big;omega) (by have:=h.tys t ht;have:=h.big;omega) (by have:=h.tys t ht;omega) (by have:=h.tys t ht;omega)
 have C1:=clone_ev fu (n+4) e.locs (by have:=h.locs;omega)
 rw[evF.eq_2,evX.eq_def,Gext,exts_no _ (f:=65) (by decide),GP,Tryz.func65];simp only[Tryz.f65,evB]
 simp only[go_sem,Nat.reduceAdd,Nat.reduceMul,Nat.reduceSub,Nat.reduceLT,Nat.reduceLeDiff,Nat.reduceEqDiff,Nat.reduceBEq,Nat.reduceBeqDiff,Int.reduceEq,Int.reduceLT,Int.reduceLE,Int.reduceToNat,Int.reduceNeg,Int.reduceAdd,Int.reduceSub,Int.reduceMul,reduceIte,reduceCtorEq,Nat.reducePow,Nat.reduceDiv,Nat.reduceMod,Int.reduceBEq,TEnv.dd,List.length_map]
 rw[loop_scan e.types.length (fun k=>⟨[(1,V.ptr 128 0),(11,V.d (D.list (List.map tyD e.types))),(12,V.d (D.int IntKind.i64 e.types.length)),(13,V.d (D.int IntKind.i64 k))],[(128, .cells [V.d (D.list (List.map tyD e.types)),V.d (D.list (List.map (D.int IntKind.i64) e.funcs)),V.d (D.int IntKind.i64 e.tables),V.d (D.int IntKind.i64 e.mems),V.d (D.list (List.map glD e.globals)),V.d (D.list (byt e.locs)),V.d (D.list (byt e.results))])]⟩) (fun k=> !typeSane (e.types.getD k ty0)) (fun _=>(.ret,⟨[(2,V.d (D.bool false))],[]⟩))
  (.exit 0,⟨[(1,V.ptr 128 0)],[(128, .cells [V.d (D.list (List.map tyD e.types)),V.d (D.list (List.map (D.int IntKind.i64) e.funcs)),V.d (D.int IntKind.i64 e.tables),V.d (D.int IntKind.i64 e.mems),V.d (D.list (List.map glD e.globals)),V.d (D.list (byt e.locs)),V.d (D.list (byt e.results))])]⟩) h.types.1 (fun _=>trivial) trivial ?_]
 case hs=>
  intro k hk
  have hx:(e.types.map tyD)[k]? =some (tyD (e.types.getD k ty0)):=getD_map hk
  have hkI:(k:Int)<e.types.length:=by omega
  have W:=wrap_i64 (show-9223372036854775808≤(k:Int)+1 by omega) (by have:=h.types.2;omega)
  have hm:e.types.getD k ty0∈e.types:=by
   rw[List.getD_eq_getElem?_getD,List.getElem?_eq_getElem hk];exact List.getElem_mem hk
  have T:=T _ hm
  generalize e.types.getD k ty0=t at*
  simp only[tyD] at hx T
  cases hts:typeSane t with
  |true=>rw[hts] at T;simp only[go_sem,Nat.reduceAdd,Nat.reduceMul,Nat.reduceSub,Nat.reduceLT,Nat.reduceLeDiff,Nat.reduceEqDiff,Nat.reduceBEq,Nat.reduceBeqDiff,Int.reduceEq,Int.reduceLT,Int.reduceLE,Int.reduceToNat,Int.reduceNeg,Int.reduceAdd,Int.reduceSub,Int.reduceMul,reduceIte,reduceCtorEq,Nat.reducePow,Nat.reduceDiv,Nat.reduceMod,Int.reduceBEq,hkI,idx,hx,T,W];rfl
  |false=>rw[hts] at T;simp only[go_sem,Nat.reduceAdd,Nat.reduceMul,Nat.reduceSub,Nat.reduceLT,Nat.reduceLeDiff,Nat.reduceEqDiff,Nat.reduceBEq,Nat.reduceBeqDiff,Int.reduceEq,Int.reduceLT,Int.reduceLE,Int.reduceToNat,Int.reduceNeg,Int.reduceAdd,Int.reduceSub,Int.reduceMul,reduceIte,reduceCtorEq,Nat.reducePow,Nat.reduceDiv,Nat.reduceMod,Int.reduceBEq,hkI,idx,hx,T,W]
 case he=>simp only[go_sem,Nat.reduceAdd,Nat.reduceMul,Nat.reduceSub,Nat.reduceLT,Nat.reduceLeDiff,Nat.reduceEqDiff,Nat.reduceBEq,Nat.reduceBeqDiff,Int.reduceEq,Int.reduceLT,Int.reduceLE,Int.reduceToNat,Int.reduceNeg,Int.reduceAdd,Int.reduceSub,Int.reduceMul,reduceIte,reduceCtorEq,Nat.reducePow,Nat.reduceDiv,Nat.reduceMod,Int.reduceBEq,Int.lt_irrefl]
 ·have hA:=any_false (p:=typeSane) (d:=ty0) e.types
  unfold Go.Ev.scan envSane
  cases hf:first (fun k=> !typeSane (e.types.getD k ty0)) 0 e.types.length with
  |some k=>
   rw[hf] at hA
   simp only[go_sem,Nat.reduceAdd,Nat.reduceMul,Nat.reduceSub,Nat.reduceLT,Nat.reduceLeDiff,Nat.reduceEqDiff,Nat.reduceBEq,Nat.reduceBeqDiff,Int.reduceEq,Int.reduceLT,Int.reduceLE,Int.reduceToNat,Int.reduceNeg,Int.reduceAdd,Int.reduceSub,Int.reduceMul,reduceIte,reduceCtorEq,Nat.reducePow,Nat.reduceDiv,Nat.reduceMod,Int.reduceBEq,←hA]
  |none=>
   rw[hf] at hA
   rw[←hA]
   have hr1:e.locs.length+e.results.length≤1099511627776:=by have:=h.locs;have:=h.results;omega
   simp only[go_sem,Nat.reduceAdd,Nat.reduceMul,Nat.reduceSub,Nat.reduceLT,Nat.reduceLeDiff,Nat.reduceEqDiff,Nat.reduceBEq,Nat.reduceBeqDiff,Int.reduceEq,Int.reduceLT,Int.reduceLE,Int.reduceToNat,Int.reduceNeg,Int.reduceAdd,Int.reduceSub,Int.reduceMul,reduceIte,reduceCtorEq,Nat.reducePow,Nat.reduceDiv,Nat.reduceMod,Int.reduceBEq,C1,byt_sized,byt_len,byt_takeL,byt_cat,hr1,List.length_map]
   (rw[cond_free];rotate_left;·rfl)
   simp only[go_sem,Nat.reduceAdd,Nat.reduceMul,Nat.reduceSub,Nat.reduceLT,Nat.reduceLeDiff,Nat.reduceEqDiff,Nat.reduceBEq,Nat.reduceBeqDiff,Int.reduceEq,Int.reduceLT,Int.reduceLE,Int.reduceToNat,Int.reduceNeg,Int.reduceAdd,Int.reduceSub,Int.reduceMul,reduceIte,reduceCtorEq,Nat.reducePow,Nat.reduceDiv,Nat.reduceMod,Int.reduceBEq,List.length_map]
   generalize hB:e.locs++e.results=B at*
   have hBl:e.locs.length+e.results.length=B.length:=by rw[←hB,List.length_append]
   rw[hBl] at hr1 ⊢
   have hall:B.length+e.globals.length<fu:=by have:=h.all;omega
   have hbig:B.length+e.globals.length<3000000:=by have:=h.locs;have:=h.results;have:=h.globals.2;omega
   rw[loop_some e.globals.length (fun k=>⟨[(1,V.ptr 128 0),(5,V.row 1536 0 0 (B++(e.globals.take k).map (·.1)).length),(28,V.d (D.list (List.map glD e.globals))),(29,V.d (D.int IntKind.i64 e.globals.length)),(30,V.d (D.int IntKind.i64 k))],[(128, .cells [V.d (D.list (List.map tyD e.types)),V.d (D.list (List.map (D.int IntKind.i64) e.funcs)),V.d (D.int IntKind.i64 e.tables),V.d (D.int IntKind.i64 e.mems),V.d (D.list (List.map glD e.globals)),V.d (D.list (byt e.locs)),V.d (D.list (byt e.results))]),(1536, .row 1 (byt (B++(e.globals.take k).map (·.1))) 0 false true)]⟩)
    (.exit 2,⟨[(1,V.ptr 128 0),(5,V.row 1536 0 0 (B++e.globals.map (·.1)).length)],[(128, .cells [V.d (D.list (List.map tyD e.types)),V.d (D.list (List.map (D.int IntKind.i64) e.funcs)),V.d (D.int IntKind.i64 e.tables),V.d (D.int IntKind.i64 e.mems),V.d (D.list (List.map glD e.globals)),V.d (D.list (byt e.locs)),V.d (D.list (byt e.results))]),(1536, .row 1 (byt (B++e.globals.map (·.1))) 0 false true)]⟩) trivial h.globals.1 ?_]
   case hs=>
    intro k hk
    have hx:(e.globals.map glD)[k]? =some (glD (e.globals.getD k gl0)):=getD_map hk
    have hkI:(k:Int)<e.globals.length:=by omega
    have W:=wrap_i64 (show-9223372036854775808≤(k:Int)+1 by omega) (by omega)
    have hst:B++(e.globals.take (k+1)).map (·.1)=(B++(e.globals.take k).map (·.1))++[(e.globals.getD k gl0).1]:=by
     rw[List.take_add_one,List.getElem?_eq_getElem hk,List.getD_eq_getElem?_getD,List.getElem?_eq_getElem hk]
     simp only[Option.toList_some,List.map_append,List.map_cons,List.map_nil,Option.getD_some,List.append_assoc]
    have hCl:(B++(e.globals.take k).map (·.1)).length≤B.length+k:=by simp[List.length_take];omega
    rw[hst]
    generalize e.globals.getD k gl0=g at*
    generalize B++(e.globals.take k).map (·.1)=C at*
    have hr2:C.length+1≤1099511627776:=by omega
    have z1:sizedAll 1 [D.int .u8 g.1]=true:=rfl
    have hc1:byt C++[D.int .u8 g.1]=byt (C++[g.1]):=by simp[byt]
    simp only[go_sem,Nat.reduceAdd,Nat.reduceMul,Nat.reduceSub,Nat.reduceLT,Nat.reduceLeDiff,Nat.reduceEqDiff,Nat.reduceBEq,Nat.reduceBeqDiff,Int.reduceEq,Int.reduceLT,Int.reduceLE,Int.reduceToNat,Int.reduceNeg,Int.reduceAdd,Int.reduceSub,Int.reduceMul,reduceIte,reduceCtorEq,Nat.reducePow,Nat.reduceDiv,Nat.reduceMod,Int.reduceBEq,hkI,idx,hx,glD,z1,byt_takeL,hr2,W,hc1,List.length_append]
    rfl
   case he=>simp only[go_sem,Nat.reduceAdd,Nat.reduceMul,Nat.reduceSub,Nat.reduceLT,Nat.reduceLeDiff,Nat.reduceEqDiff,Nat.reduceBEq,Nat.reduceBeqDiff,Int.reduceEq,Int.reduceLT,Int.reduceLE,Int.reduceToNat,Int.reduceNeg,Int.reduceAdd,Int.reduceSub,Int.reduceMul,reduceIte,reduceCtorEq,Nat.reducePow,Nat.reduceDiv,Nat.reduceMod,Int.reduceBEq,Int.lt_irrefl,List.take_length]
   ·generalize hC:B++List.map (fun x=>x.fst) e.globals=C at*
    have hCl:C.length=B.length+e.globals.length:=by rw[←hC];simp
    simp only[go_sem,Nat.reduceAdd,Nat.reduceMul,Nat.reduceSub,Nat.reduceLT,Nat.reduceLeDiff,Nat.reduceEqDiff,Nat.reduceBEq,Nat.reduceBeqDiff,Int.reduceEq,Int.reduceLT,Int.reduceLE,Int.reduceToNat,Int.reduceNeg,Int.reduceAdd,Int.reduceSub,Int.reduceMul,reduceIte,reduceCtorEq,Nat.reducePow,Nat.reduceDiv,Nat.reduceMod,Int.reduceBEq]
    rw[loop_scan C.length (fun k=>⟨[(1,V.ptr 128 0),(40,V.row 1536 0 0 C.length),(41,V.d (D.int IntKind.i64 C.length)),(42,V.d (D.int IntKind.i64 k))],[(128, .cells [V.d (D.list (List.map tyD e.types)),V.d (D.list (List.map (D.int IntKind.i64) e.funcs)),V.d (D.int IntKind.i64 e.tables),V.d (D.int IntKind.i64 e.mems),V.d (D.list (List.map glD e.globals)),V.d (D.list (byt e.locs)),V.d (D.list (byt e.results))]),(1536, .row 1 (byt C) 0 false true)]⟩) (fun k=> !valB (C.getD k 0)) (fun _=>(.ret,⟨[(2,V.d (D.bool false))],[]⟩))
     (.exit 4,⟨[(1,V.ptr 128 0)],[(128, .cells [V.d (D.list (List.map tyD e.types)),V.d (D.list (List.map (D.int IntKind.i64) e.funcs)),V.d (D.int IntKind.i64 e.tables),V.d (D.int IntKind.i64 e.mems),V.d (D.list (List.map glD e.globals)),V.d (D.list (byt e.locs)),V.d (D.list (byt e.results))])]⟩) (by omega) (fun _=>trivial) trivial ?_]
    case hs=>
     intro k hk
     have hx:(byt C)[k]? =some (.int .u8 (C.getD k 0)):=getD_map hk
     have hkI:(k:Int)<C.length:=by omega
     have W:=wrap_i64 (show-9223372036854775808≤(k:Int)+1 by omega) (by omega)
     generalize C.getD k 0=x at*
     unfold valB
     by_cases h7:x=127
     ·subst h7
      simp only[go_sem,Nat.reduceAdd,Nat.reduceMul,Nat.reduceSub,Nat.reduceLT,Nat.reduceLeDiff,Nat.reduceEqDiff,Nat.reduceBEq,Nat.reduceBeqDiff,Int.reduceEq,Int.reduceLT,Int.reduceLE,Int.reduceToNat,Int.reduceNeg,Int.reduceAdd,Int.reduceSub,Int.reduceMul,reduceIte,reduceCtorEq,Nat.reducePow,Nat.reduceDiv,Nat.reduceMod,Int.reduceBEq,hkI,hx,W,ne_eq]
      rfl
     ·by_cases h6:x=126
      ·subst h6
       simp only[go_sem,Nat.reduceAdd,Nat.reduceMul,Nat.reduceSub,Nat.reduceLT,Nat.reduceLeDiff,Nat.reduceEqDiff,Nat.reduceBEq,Nat.reduceBeqDiff,Int.reduceEq,Int.reduceLT,Int.reduceLE,Int.reduceToNat,Int.reduceNeg,Int.reduceAdd,Int.reduceSub,Int.reduceMul,reduceIte,reduceCtorEq,Nat.reducePow,Nat.reduceDiv,Nat.reduceMod,Int.reduceBEq,hkI,hx,W,ne_eq]
       rfl
      ·have e1:(x==126)=false:=by simpa using h6
       have e2:(x==127)=false:=by simpa using h7
       simp only[go_sem,Nat.reduceAdd,Nat.reduceMul,Nat.reduceSub,Nat.reduceLT,Nat.reduceLeDiff,Nat.reduceEqDiff,Nat.reduceBEq,Nat.reduceBeqDiff,Int.reduceEq,Int.reduceLT,Int.reduceLE,Int.reduceToNat,Int.reduceNeg,Int.reduceAdd,Int.reduceSub,Int.reduceMul,reduceIte,reduceCtorEq,Nat.reducePow,Nat.reduceDiv,Nat.reduceMod,Int.reduceBEq,hkI,hx,W,ne_eq,h6,h7,e1,e2]
    case he=>simp only[go_sem,Nat.reduceAdd,Nat.reduceMul,Nat.reduceSub,Nat.reduceLT,Nat.reduceLeDiff,Nat.reduceEqDiff,Nat.reduceBEq,Nat.reduceBeqDiff,Int.reduceEq,Int.reduceLT,Int.reduceLE,Int.reduceToNat,Int.reduceNeg,Int.reduceAdd,Int.reduceSub,Int.reduceMul,reduceIte,reduceCtorEq,Nat.reducePow,Nat.reduceDiv,Nat.reduceMod,Int.reduceBEq,Int.lt_irrefl]
    ·have hA2:=any_false (p:=valB) (d:=0) C
     unfold Go.Ev.scan
     cases hf2:first (fun k=> !valB (C.getD k 0)) 0 C.length with
     |some k=>
      rw[hf2] at hA2
      simp only[go_sem,Nat.reduceAdd,Nat.reduceMul,Nat.reduceSub,Nat.reduceLT,Nat.reduceLeDiff,Nat.reduceEqDiff,Nat.reduceBEq,Nat.reduceBeqDiff,Int.reduceEq,Int.reduceLT,Int.reduceLE,Int.reduceToNat,Int.reduceNeg,Int.reduceAdd,Int.reduceSub,Int.reduceMul,reduceIte,reduceCtorEq,Nat.reducePow,Nat.reduceDiv,Nat.reduceMod,Int.reduceBEq,←hA2]
     |none=>
      rw[hf2] at hA2
      simp only[go_sem,Nat.reduceAdd,Nat.reduceMul,Nat.reduceSub,Nat.reduceLT,Nat.reduceLeDiff,Nat.reduceEqDiff,Nat.reduceBEq,Nat.reduceBeqDiff,Int.reduceEq,Int.reduceLT,Int.reduceLE,Int.reduceToNat,Int.reduceNeg,Int.reduceAdd,Int.reduceSub,Int.reduceMul,reduceIte,reduceCtorEq,Nat.reducePow,Nat.reduceDiv,Nat.reduceMod,Int.reduceBEq,←hA2,byt_len]
    ·rfl
   ·simp
 ·rfl
end Go.Proofs.YtfpioigggjnffaaGreatDoor.E
