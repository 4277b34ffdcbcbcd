/- C1, Q1. -/
import Derived.Test.YtfpioigggjnffaaGreatDoorEvD
set_option linter.unnecessarySimpa false
set_option linter.unusedSimpArgs false
set_option linter.unusedVariables false
set_option autoImplicit false
namespace Go.Proofs.YtfpioigggjnffaaGreatDoor.E
open Go.Ev
structure Ctl where
 op:Int
 fin:List Int
 ht:Int
 dead:Bool
 deriving DecidableEq
structure Stk where
 vals:List Int
 ctrls:List Ctl
 deriving DecidableEq
structure TEnv where
 types:List (List Int×List Int)
 funcs:List Int
 tables:Int
 mems:Int
 globals:List (Int×Bool)
 locs:List Int
 results:List Int
def valB (c:Int):Bool:=c==126||c==127
def typesB (l:List Int):Bool:=l.all fun c=>c==0||valB c
def finB:List Int→Bool
 |[]=>true
 |[c]=>valB c
 |_=>false
def risesB:Int→List Ctl→Option Int
 |h,[]=>some h
 |h,c::l=>if finB c.fin&&decide (h≤c.ht) then risesB c.ht l else none
def saneS (s:Stk):Bool:=match risesB 0 s.ctrls with
 |some h=>decide (h≤s.vals.length)&&typesB s.vals
 |none=>false
def pushS (s:Stk) (l:List Int):Except Int Stk:=if !saneS s|| !typesB l then .error 1 else .ok ⟨s.vals++l,s.ctrls⟩
def popV (h:Int) (dead:Bool) (v:List Int):Except Int (Int×List Int):=
 if h<v.length then .ok (v.getLastD 0,v.dropLast) else if dead then .ok (0,v) else .error 5
def wantV (h:Int) (dead:Bool):List Int→List Int→Except Int (List Int)
 |[],v=> .ok v
 |t::l,v=>match popV h dead v with
  | .error e=> .error e
  | .ok (c,v')=>if c≠0∧t≠0∧c≠t then .error 5 else wantV h dead l v'
def topC (s:Stk):Except Int Ctl:=if !saneS s then .error 1 else match s.ctrls.getLast? with
 |none=> .error 5
 |some c=> .ok c
def popS (s:Stk):Except Int (Int×Stk):=match topC s with
 | .error e=> .error e
 | .ok c=>match popV c.ht c.dead s.vals with
   | .error e=> .error e
   | .ok (t,v)=> .ok (t,⟨v,s.ctrls⟩)
def wantS (s:Stk) (l:List Int):Except Int Stk:=
 if saneS s&&l.isEmpty then .ok s else match topC s with
 | .error e=> .error e
 | .ok c=>match wantV c.ht c.dead l.reverse s.vals with
   | .error e=> .error e
   | .ok v=> .ok ⟨v,s.ctrls⟩
def openS (s:Stk) (op:Int) (l:List Int):Except Int Stk:=if !saneS s|| !finB l then .error 1 else .ok ⟨s.vals,s.ctrls++[⟨op,l,s.vals.length,false⟩]⟩
def closeS (s:Stk):Except Int (Ctl×Stk):=match topC s with
 | .error e=> .error e
 | .ok c=>match wantV c.ht c.dead c.fin.reverse s.vals with
   | .error e=> .error e
   | .ok v=>if (v.length:Int)≠c.ht then .error 5 else .ok (c,⟨v,s.ctrls.dropLast⟩)
def killS (s:Stk):Except Int Stk:=match topC s with
 | .error e=> .error e
 | .ok c=> .ok ⟨s.vals.take c.ht.toNat,s.ctrls.dropLast++[{c with dead:=true}]⟩
def labelS (s:Stk) (n:Int):Except Int (List Int):=if !saneS s then .error 1 else
 if n<0∨(s.ctrls.length:Int)≤n then .error 6 else match s.ctrls[s.ctrls.length-1-n.toNat]? with
 |none=> .error 6
 |some c=> .ok (if c.op=3 then[] else c.fin)
structure WkS where
 s:Stk
 e:Int
def WkS.put (w:WkS) (r:Except Int Stk):WkS:=if w.e≠0 then w else match r with
 | .ok s=>⟨s,0⟩
 | .error e=>⟨w.s,e⟩
def WkS.must (w:WkS) (ok:Bool) (e:Int):WkS:=if !ok&&w.e==0 then⟨w.s,e⟩ else w
def WkS.want (w:WkS) (l:List Int):WkS:=w.put (wantS w.s l)
def WkS.push (w:WkS) (l:List Int):WkS:=w.put (pushS w.s l)
def WkS.kill (w:WkS):WkS:=w.put (killS w.s)
def WkS.opens (w:WkS) (op:Int) (l:List Int):WkS:=w.put (openS w.s op l)
def WkS.pop (w:WkS):Int×WkS:=match popS w.s with
 | .ok (t,s)=>(t,w.put (.ok s))
 | .error e=>(0,w.put (.error e))
def WkS.label (w:WkS) (n:Int):List Int×WkS:=match labelS w.s n with
 | .ok l=>(l,w)
 | .error e=>([],w.must false e)
def WkS.closed (w:WkS):Ctl×WkS:=match closeS w.s with
 | .ok (c,s)=>(c,w.put (.ok s))
 | .error e=>(⟨0,[],0,false⟩,w.put (.error e))
def leftOf (i:TInstr):List Int:=if i.a=0 then[] else[i.a%256]
def topIf (s:Stk):Bool:=match s.ctrls.getLast? with
 |some c=>c.op==4
 |none=>false
def nestedS (w:WkS) (i:TInstr):WkS:=
 if i.op=4 then(w.want [127]).opens 4 (leftOf i)
 else if i.op=5 then let r:=(w.must (topIf w.s) 5).closed;r.2.opens 5 r.1.fin
 else if i.op=11 then let r:=(w.must (decide (1<w.s.ctrls.length)) 5).closed;(r.2.must (r.1.op !=4||r.1.fin.isEmpty) 5).push r.1.fin
 else w.opens i.op (leftOf i)
def labelsS (w:WkS) (t:List Int):List Int→WkS
 |[]=>w
 |n::l=>labelsS ((w.label n).2.must ((w.label n).1==t) 5) t l
def branchS (env:TEnv) (w:WkS) (i:TInstr):WkS:=
 if i.op=15 then(w.want env.results).kill
 else
  let t:=(w.label i.a).1
  let w:=labelsS (w.label i.a).2 t i.labels
  let w:=if i.op=12 then w else w.want [127]
  let w:=w.want t
  if i.op=13 then w.push t else w.kill
def typeS (env:TEnv) (f:Int):Option (List Int×List Int):=
 if f<0 then none else match env.funcs[f.toNat]? with
 |none=>none
 |some t=>if t<0 then none else env.types[t.toNat]?
def callS (env:TEnv) (w:WkS) (i:TInstr):WkS:=
 let t:=if i.op=17 then(if 0<env.tables then env.types[i.a.toNat]? else none) else typeS env i.a
 let w:=w.must t.isSome 6
 let w:=if i.op=17 then w.want [127] else w
 (w.want (t.getD ([],[])).1).push (t.getD ([],[])).2
def chosenS (w:WkS) (i:TInstr):WkS:=
 if i.op=26 then w.pop.2
 else
  let w:=w.want [127]
  let a:=w.pop
  let b:=a.2.pop
  let w:=b.2.must (a.1==0||b.1==0||a.1==b.1) 5
  w.push [if a.1=0 then b.1 else a.1]
def variableS (env:TEnv) (w:WkS) (i:TInstr):WkS:=
 let r:Int×WkS:=if i.op≤34 then
     match env.locs[i.a.toNat]? with
     |some t=>(t,w)
     |none=>(0,w.must false 6)
  else
   match env.globals[i.a.toNat]? with
   |some g=>(g.1,w.must (i.op==35||g.2) 5)
   |none=>(0,w.must false 6)
 let w:=if i.op≠32∧i.op≠35 then r.2.want [r.1] else r.2
 if i.op=32∨i.op=34∨i.op=35 then w.push [r.1] else w
def memoryS (acc:Int→Int×Int×Bool) (env:TEnv) (w:WkS) (i:TInstr):WkS:=
 let w:=w.must (decide (0<env.mems)) 6
 let r:=acc i.op
 if i.op=63 then w.push [127]
 else if i.op=64 then(w.want [127]).push [127]
 else
  let w:=w.must (decide (i.a≤3)&&decide ((2:Int)^i.a.toNat≤r.2.1)) 5
  if r.2.2 then w.want [127,r.1] else(w.want [127]).push [r.1]
def goS (acc:Int→Int×Int×Bool) (shape:Int→Option (List Int×Int)) (env:TEnv) (s:Stk) (i:TInstr):WkS:=
 let w:WkS:=⟨s,0⟩
 if i.op=0 then w.kill
 else if i.op=1 then w
 else if i.op≤5∨i.op=11 then nestedS w i
 else if i.op≤15 then branchS env w i
 else if i.op≤17 then callS env w i
 else if i.op≤27 then chosenS w i
 else if i.op≤36 then variableS env w i
 else if i.op≤64 then memoryS acc env w i
 else if i.op=65 then w.push [127]
 else if i.op=66 then w.push [126]
 else match shape i.op with
  |some (p,r)=>(w.want p).push [r]
  |none=>w
def stepS (sane:TInstr→Bool) (acc:Int→Int×Int×Bool) (shape:Int→Option (List Int×Int)) (env:TEnv) (s:Stk) (i:TInstr):Except Int Stk:=
 if !saneS s|| !sane i then .error 1 else
 let w:=goS acc shape env s i
 if w.e≠0 then .error w.e else .ok w.s
def pathS (sane:TInstr→Bool) (acc:Int→Int×Int×Bool) (shape:Int→Option (List Int×Int)) (env:TEnv):Stk→List TInstr→Except Int (List Stk)
 |s,[]=> .ok [s]
 |s,i::l=>match stepS sane acc shape env s i with
  | .error e=> .error e
  | .ok s'=>match pathS sane acc shape env s' l with
    | .error e=> .error e
    | .ok p=> .ok (s::p)
theorem typesB_append (a b:List Int):typesB (a++b)=(typesB a&&typesB b):=by simp[typesB,List.all_append]
theorem typesB_dropLast {a:List Int} (h:typesB a=true):typesB a.dropLast=true:=by
 simp only[typesB,List.all_eq_true] at h ⊢
 exact fun x hx=>h x ((List.dropLast_prefix a).subset hx)
theorem typesB_take {a:List Int} (n:Nat) (h:typesB a=true):typesB (a.take n)=true:=by
 simp only[typesB,List.all_eq_true] at h ⊢
 exact fun x hx=>h x ((List.take_prefix n a).subset hx)
theorem risesB_append (h:Int) (a b:List Ctl):risesB h (a++b)=match risesB h a with
 |some k=>risesB k b
 |none=>none:=by
 induction a generalizing h with
 |nil=>rfl
 |cons c a ih=>
  simp only[List.cons_append,risesB]
  by_cases hc:(finB c.fin&&decide (h≤c.ht))=true
  ·rw[if_pos hc,if_pos hc,ih]
  ·rw[if_neg hc,if_neg hc]
theorem popV_len {h:Int} {d:Bool} {v v':List Int} {c:Int} (e:popV h d v= .ok (c,v')) (hv:h≤v.length) (ht:typesB v=true):h≤v'.length∧typesB v'=true∧v'<+:v:=by
 unfold popV at e
 split at e
 ·rename_i hlt
  cases e
  refine⟨?_,typesB_dropLast ht,List.dropLast_prefix v⟩
  rw[List.length_dropLast];omega
 ·split at e
  ·cases e;exact⟨hv,ht,List.prefix_refl _⟩
  ·cases e
theorem wantV_len {h:Int} {d:Bool} {l v v':List Int} (e:wantV h d l v= .ok v') (hv:h≤v.length) (ht:typesB v=true):h≤v'.length∧typesB v'=true∧v'<+:v:=by
 induction l generalizing v with
 |nil=>cases e;exact⟨hv,ht,List.prefix_refl _⟩
 |cons t l ih=>
  simp only[wantV] at e
  cases hp:popV h d v with
  |error x=>rw[hp] at e;cases e
  |ok r=>
   obtain⟨c,w⟩:=r
   rw[hp] at e
   simp only at e
   split at e
   ·cases e
   ·obtain⟨a1,a2,a3⟩:=popV_len hp hv ht
    obtain⟨b1,b2,b3⟩:=ih e a1 a2
    exact⟨b1,b2,b3.trans a3⟩
end Go.Proofs.YtfpioigggjnffaaGreatDoor.E
set_option autoImplicit false
set_option maxRecDepth 100000
set_option maxHeartbeats 4000000
set_option pp.maxSteps 20000
namespace Go.Proofs.YtfpioigggjnffaaGreatDoor.E
open Go.Ev
def Ctl.dd (c:Ctl):D:= .agg [.int .i64 c.op, .list (byt c.fin), .int .i64 c.ht, .bool c.dead]
abbrev ctlds (l:List Ctl):List D:=l.map Ctl.dd
def Stk.dd (s:Stk):D:= .agg [.list (byt s.vals), .list (ctlds s.ctrls)]
theorem ctlds_len (l:List Ctl):(ctlds l).length=l.length:=List.length_map ..
theorem valS_ev (fu n:Nat) (c:Int):evF (G fu) (n+1) 153 [.d (.int .u8 c)] []=some (.d (.bool (valB c)),[]):=by
 rw[evF.eq_2,evX.eq_def,Gext,exts_no _ (f:=153) (by decide),GP,Tryz.func153];simp only[Tryz.f153,evB]
 unfold valB
 by_cases h1:c=127
 ·subst h1;simp only[go_sem,Nat.reduceAdd,Nat.reduceMul,Nat.reduceSub,Nat.reduceLT,Nat.reduceLeDiff,Nat.reduceEqDiff,Nat.reduceBEq,Nat.reduceBeqDiff,Int.reduceEq,Int.reduceLT,Int.reduceLE,Int.reduceToNat,Int.reduceNeg,Int.reduceAdd,Int.reduceSub,Int.reduceMul,reduceIte,reduceCtorEq,Nat.reducePow,Nat.reduceDiv,Nat.reduceMod,Int.reduceBEq]
 ·by_cases h2:c=126
  ·subst h2;simp only[go_sem,Nat.reduceAdd,Nat.reduceMul,Nat.reduceSub,Nat.reduceLT,Nat.reduceLeDiff,Nat.reduceEqDiff,Nat.reduceBEq,Nat.reduceBeqDiff,Int.reduceEq,Int.reduceLT,Int.reduceLE,Int.reduceToNat,Int.reduceNeg,Int.reduceAdd,Int.reduceSub,Int.reduceMul,reduceIte,reduceCtorEq,Nat.reducePow,Nat.reduceDiv,Nat.reduceMod,Int.reduceBEq]
  ·have e1:(c==126)=false:=by simpa using h2
   have e2:(c==127)=false:=by simpa using h1
   simp only[go_sem,Nat.reduceAdd,Nat.reduceMul,Nat.reduceSub,Nat.reduceLT,Nat.reduceLeDiff,Nat.reduceEqDiff,Nat.reduceBEq,Nat.reduceBeqDiff,Int.reduceEq,Int.reduceLT,Int.reduceLE,Int.reduceToNat,Int.reduceNeg,Int.reduceAdd,Int.reduceSub,Int.reduceMul,reduceIte,reduceCtorEq,Nat.reducePow,Nat.reduceDiv,Nat.reduceMod,Int.reduceBEq,h1,h2,e1,e2]
theorem leftS_ev (fu n:Nat) (l:List Int):evF (G fu) (n+2) 94 [.d (.list (byt l))] []=some (.d (.bool (finB l)),[]):=by
 rw[evF.eq_2,evX.eq_def,Gext,exts_no _ (f:=94) (by decide),GP,Tryz.func94];simp only[Tryz.f94,evB]
 match l with
 |[]=>simp only[go_sem,Nat.reduceAdd,Nat.reduceMul,Nat.reduceSub,Nat.reduceLT,Nat.reduceLeDiff,Nat.reduceEqDiff,Nat.reduceBEq,Nat.reduceBeqDiff,Int.reduceEq,Int.reduceLT,Int.reduceLE,Int.reduceToNat,Int.reduceNeg,Int.reduceAdd,Int.reduceSub,Int.reduceMul,reduceIte,reduceCtorEq,Nat.reducePow,Nat.reduceDiv,Nat.reduceMod,Int.reduceBEq,List.map_nil];rfl
 |[c]=>
  have hc:=valS_ev fu n c
  simp only[go_sem,Nat.reduceAdd,Nat.reduceMul,Nat.reduceSub,Nat.reduceLT,Nat.reduceLeDiff,Nat.reduceEqDiff,Nat.reduceBEq,Nat.reduceBeqDiff,Int.reduceEq,Int.reduceLT,Int.reduceLE,Int.reduceToNat,Int.reduceNeg,Int.reduceAdd,Int.reduceSub,Int.reduceMul,reduceIte,reduceCtorEq,Nat.reducePow,Nat.reduceDiv,Nat.reduceMod,Int.reduceBEq,List.map_cons,List.map_nil,idx,hc];rfl
 |a::b::l=>
  have h0: ¬(((List.map (D.int .u8) l).length+1+1:Nat):Int)=0:=by omega
  have h1: ¬(((List.map (D.int .u8) l).length+1+1:Nat):Int)=1:=by omega
  simp only[go_sem,Nat.reduceAdd,Nat.reduceMul,Nat.reduceSub,Nat.reduceLT,Nat.reduceLeDiff,Nat.reduceEqDiff,Nat.reduceBEq,Nat.reduceBeqDiff,Int.reduceEq,Int.reduceLT,Int.reduceLE,Int.reduceToNat,Int.reduceNeg,Int.reduceAdd,Int.reduceSub,Int.reduceMul,reduceIte,reduceCtorEq,Nat.reducePow,Nat.reduceDiv,Nat.reduceMod,Int.reduceBEq,List.map_cons,h0,h1];rfl
theorem types1S_ev (fu n:Nat) (c:Int):evF (G fu) (n+2) 155 [.d (.int .u8 c)] []=some (.d (.bool (!(c==0||valB c))),[]):=by
 have hv:=valS_ev fu n c
 rw[evF.eq_2,evX.eq_def,Gext,exts_no _ (f:=155) (by decide),GP,Tryz.func155];simp only[Tryz.f155,evB]
 by_cases h:c=0
 ·subst h;simp only[go_sem,Nat.reduceAdd,Nat.reduceMul,Nat.reduceSub,Nat.reduceLT,Nat.reduceLeDiff,Nat.reduceEqDiff,Nat.reduceBEq,Nat.reduceBeqDiff,Int.reduceEq,Int.reduceLT,Int.reduceLE,Int.reduceToNat,Int.reduceNeg,Int.reduceAdd,Int.reduceSub,Int.reduceMul,reduceIte,reduceCtorEq,Nat.reducePow,Nat.reduceDiv,Nat.reduceMod,Int.reduceBEq]
 ·have e1:(c==0)=false:=by simpa using h
  simp only[go_sem,Nat.reduceAdd,Nat.reduceMul,Nat.reduceSub,Nat.reduceLT,Nat.reduceLeDiff,Nat.reduceEqDiff,Nat.reduceBEq,Nat.reduceBeqDiff,Int.reduceEq,Int.reduceLT,Int.reduceLE,Int.reduceToNat,Int.reduceNeg,Int.reduceAdd,Int.reduceSub,Int.reduceMul,reduceIte,reduceCtorEq,Nat.reducePow,Nat.reduceDiv,Nat.reduceMod,Int.reduceBEq,h,hv,e1]
def findT (p:Int→Bool) (l:List Int):Int:=match first (fun i=>p (l.getD i 0)) 0 l.length with
 |some i=>(i:Int)
 |none=> -1
theorem findT_iff (p:Int→Bool) (l:List Int):(0≤findT p l)↔l.any p=true:=by
 unfold findT
 have:=first_list (p:=p) (d:=0) l
 cases hf:first (fun i=>p (l.getD i 0)) 0 l.length with
 |none=>
  rw[hf] at this
  have:=this.1 rfl
  simp[this]
 |some i=>
  rw[hf] at this
  cases ha:l.any p with
  |false=>exact absurd (this.2 ha) (by simp)
  |true=>simp
theorem indexB_ev (fu n:Nat) (f:Nat) (p:Int→Bool) (l:List Int) (hp: ∀c,evF (G fu) (n+2) f [.d (.int .u8 c)] []=some (.d (.bool (p c)),[])) (ho:owns f=false) (h:l.length<fu) (hs:l.length<1000000):
 evF (G fu) (n+3) 201 [.d (.list (byt l)), .fn (.func f) [] []] []=some (.d (.int .i64 (findT p l)),[]):=by
 rw[evF.eq_2,evX.eq_def,Gext,exts_no _ (f:=201) (by decide),GP,Tryz.func201];simp only[Tryz.f201,evB]
 simp only[go_sem,Nat.reduceAdd,Nat.reduceMul,Nat.reduceSub,Nat.reduceLT,Nat.reduceLeDiff,Nat.reduceEqDiff,Nat.reduceBEq,Nat.reduceBeqDiff,Int.reduceEq,Int.reduceLT,Int.reduceLE,Int.reduceToNat,Int.reduceNeg,Int.reduceAdd,Int.reduceSub,Int.reduceMul,reduceIte,reduceCtorEq,Nat.reducePow,Nat.reduceDiv,Nat.reduceMod,Int.reduceBEq,List.length_map]
 rw[loop_scan l.length (fun i=>⟨[(0, .d (.list (byt l))),(1, .fn (.func f) [] []),(7, .d (.int .i64 l.length)),(8, .d (.int .i64 i))],[]⟩) (fun i=>p (l.getD i 0)) (fun i=>(.ret,⟨[(4,V.d (D.int .i64 i))],[]⟩)) (.exit 0,⟨[],[]⟩) (by omega) (fun _=>trivial) trivial ?_]
 case hs=>
  intro i hi
  simp only[go_sem,Nat.reduceAdd,Nat.reduceMul,Nat.reduceSub,Nat.reduceLT,Nat.reduceLeDiff,Nat.reduceEqDiff,Nat.reduceBEq,Nat.reduceBeqDiff,Int.reduceEq,Int.reduceLT,Int.reduceLE,Int.reduceToNat,Int.reduceNeg,Int.reduceAdd,Int.reduceSub,Int.reduceMul,reduceIte,reduceCtorEq,Nat.reducePow,Nat.reduceDiv,Nat.reduceMod,Int.reduceBEq,Int.ofNat_lt,hi,idx,getD_map (f:=D.int .u8) (d:=0) hi,hp,ho]
  cases p (l.getD i 0)<;>simp only[go_sem,Nat.reduceAdd,Nat.reduceMul,Nat.reduceSub,Nat.reduceLT,Nat.reduceLeDiff,Nat.reduceEqDiff,Nat.reduceBEq,Nat.reduceBeqDiff,Int.reduceEq,Int.reduceLT,Int.reduceLE,Int.reduceToNat,Int.reduceNeg,Int.reduceAdd,Int.reduceSub,Int.reduceMul,reduceIte,reduceCtorEq,Nat.reducePow,Nat.reduceDiv,Nat.reduceMod,Int.reduceBEq,wrap_i64 (show-9223372036854775808≤(i:Int)+1 by omega) (by omega)]<;>rfl
 case he=>simp only[go_sem,Nat.reduceAdd,Nat.reduceMul,Nat.reduceSub,Nat.reduceLT,Nat.reduceLeDiff,Nat.reduceEqDiff,Nat.reduceBEq,Nat.reduceBeqDiff,Int.reduceEq,Int.reduceLT,Int.reduceLE,Int.reduceToNat,Int.reduceNeg,Int.reduceAdd,Int.reduceSub,Int.reduceMul,reduceIte,reduceCtorEq,Nat.reducePow,Nat.reduceDiv,Nat.reduceMod,Int.reduceBEq,Int.ofNat_lt,Nat.lt_irrefl]
 ·unfold Go.Ev.scan findT
  cases first (fun i=>p (l.getD i 0)) 0 l.length<;>simp only[go_sem,Nat.reduceAdd,Nat.reduceMul,Nat.reduceSub,Nat.reduceLT,Nat.reduceLeDiff,Nat.reduceEqDiff,Nat.reduceBEq,Nat.reduceBeqDiff,Int.reduceEq,Int.reduceLT,Int.reduceLE,Int.reduceToNat,Int.reduceNeg,Int.reduceAdd,Int.reduceSub,Int.reduceMul,reduceIte,reduceCtorEq,Nat.reducePow,Nat.reduceDiv,Nat.reduceMod,Int.reduceBEq]
 ·rfl
theorem containsB_ev (fu n:Nat) (f:Nat) (p:Int→Bool) (l:List Int) (hp: ∀c,evF (G fu) (n+2) f [.d (.int .u8 c)] []=some (.d (.bool (p c)),[])) (ho:owns f=false) (h:l.length<fu) (hs:l.length<1000000):
 evF (G fu) (n+4) 154 [.d (.list (byt l)), .fn (.func f) [] []] []=some (.d (.bool (l.any p)),[]):=by
 have I:=indexB_ev fu n f p l hp ho h hs
 rw[evF.eq_2,evX.eq_def,Gext,exts_no _ (f:=154) (by decide),GP,Tryz.func154];simp only[Tryz.f154,evB]
 have:=findT_iff p l
 cases ha:l.any p<;>rw[ha] at this<;>simp only[iff_true,iff_false,reduceCtorEq,Bool.false_eq_true] at this<;>simp only[go_sem,Nat.reduceAdd,Nat.reduceMul,Nat.reduceSub,Nat.reduceLT,Nat.reduceLeDiff,Nat.reduceEqDiff,Nat.reduceBEq,Nat.reduceBeqDiff,Int.reduceEq,Int.reduceLT,Int.reduceLE,Int.reduceToNat,Int.reduceNeg,Int.reduceAdd,Int.reduceSub,Int.reduceMul,reduceIte,reduceCtorEq,Nat.reducePow,Nat.reduceDiv,Nat.reduceMod,Int.reduceBEq,I,this,ha]
theorem any_not {p:Int→Bool} (l:List Int):l.any (fun c=> !p c)= !l.all p:=by
 induction l with
 |nil=>rfl
 |cons x l ih=>simp[ih]
theorem typesS_ev (fu n:Nat) (l:List Int) (h:l.length<fu) (hs:l.length<1000000):evF (G fu) (n+5) 95 [.d (.list (byt l))] []=some (.d (.bool (typesB l)),[]):=by
 have C:=containsB_ev fu n 155 (fun c=> !(c==0||valB c)) l (types1S_ev fu n) rfl h hs
 rw[any_not] at C
 rw[evF.eq_2,evX.eq_def,Gext,exts_no _ (f:=95) (by decide),GP,Tryz.func95];simp only[Tryz.f95,evB]
 simp only[go_sem,Nat.reduceAdd,Nat.reduceMul,Nat.reduceSub,Nat.reduceLT,Nat.reduceLeDiff,Nat.reduceEqDiff,Nat.reduceBEq,Nat.reduceBeqDiff,Int.reduceEq,Int.reduceLT,Int.reduceLE,Int.reduceToNat,Int.reduceNeg,Int.reduceAdd,Int.reduceSub,Int.reduceMul,reduceIte,reduceCtorEq,Nat.reducePow,Nat.reduceDiv,Nat.reduceMod,Int.reduceBEq,C,Bool.not_not];rfl
theorem rises_none {l:List Ctl} {k:Nat} {h:Int} (e:risesB h (l.take k)=none):risesB h l=none:=by
 rw[←List.take_append_drop k l,risesB_append,e]
theorem rises_step {l:List Ctl} {k:Nat} {last:Int} {c:Ctl} (e:risesB 0 (l.take k)=some last) (hk:l[k]? =some c):risesB 0 (l.take (k+1))=if finB c.fin&&decide (last≤c.ht) then some c.ht else none:=by
 rw[List.take_add_one,hk,risesB_append,e]
 simp only[Option.toList_some,risesB]
def ctl0:Ctl:=⟨0,[],0,false⟩
theorem saneS_ev (fu n:Nat) (s:Stk) (h:s.vals.length<fu) (hc:s.ctrls.length<fu) (hs:s.vals.length<1000000) (hcs:s.ctrls.length<1000000):evF (G fu) (n+6) 44 [.d s.dd] []=some (.d (.bool (saneS s)),[]):=by
 have T:=typesS_ev fu n s.vals h hs
 rw[evF.eq_2,evX.eq_def,Gext,exts_no _ (f:=44) (by decide),GP,Tryz.func44];simp only[Tryz.f44,evB]
 simp only[go_sem,Nat.reduceAdd,Nat.reduceMul,Nat.reduceSub,Nat.reduceLT,Nat.reduceLeDiff,Nat.reduceEqDiff,Nat.reduceBEq,Nat.reduceBeqDiff,Int.reduceEq,Int.reduceLT,Int.reduceLE,Int.reduceToNat,Int.reduceNeg,Int.reduceAdd,Int.reduceSub,Int.reduceMul,reduceIte,reduceCtorEq,Nat.reducePow,Nat.reduceDiv,Nat.reduceMod,Int.reduceBEq,Stk.dd,List.length_map]
 generalize hr:loopN _ _ _ _ _=r
 obtain⟨x,s1,rfl,hx,hJ⟩: ∃x s1,r=some (x,s1)∧leaves x∧((∃last,x= .exit 0∧risesB 0 s.ctrls=some last∧s1=⟨[(1,V.ptr 128 0),(3,V.d (D.int .i64 last))],[(128, .cells [V.d (D.list (byt s.vals)),V.d (D.list (ctlds s.ctrls))])]⟩)∨
  (x= .ret∧risesB 0 s.ctrls=none∧s1=⟨[(2,V.d (D.bool false))],[]⟩)):=by
  rw[←hr]
  refine loop_inv (J:=fun x s1=>((∃last,x= .exit 0∧risesB 0 s.ctrls=some last∧s1=⟨[(1,V.ptr 128 0),(3,V.d (D.int .i64 last))],[(128, .cells [V.d (D.list (byt s.vals)),V.d (D.list (ctlds s.ctrls))])]⟩)∨
   (x= .ret∧risesB 0 s.ctrls=none∧s1=⟨[(2,V.d (D.bool false))],[]⟩)))
   s.ctrls.length (fun i z=> ∃last,risesB 0 (s.ctrls.take i)=some last∧z=⟨[(1,V.ptr 128 0),(3,V.d (D.int .i64 last)),(7,V.d (D.list (ctlds s.ctrls))),(8,V.d (D.int .i64 s.ctrls.length)),(9,V.d (D.int .i64 i))],[(128, .cells [V.d (D.list (byt s.vals)),V.d (D.list (ctlds s.ctrls))])]⟩) ?_ ?_ fu _ hc ⟨0,rfl,rfl⟩
  ·rintro i z hi ⟨last,hl,rfl⟩
   have hx:(ctlds s.ctrls)[i]? =some (s.ctrls.getD i ctl0).dd:=getD_map hi
   have hk:s.ctrls[i]? =some (s.ctrls.getD i ctl0):=by simp[hi]
   have hs1:=rises_step hl hk
   generalize s.ctrls.getD i ctl0=c at*
   have hL:=leftS_ev fu (n+3) c.fin
   have hiI:(i:Int)<s.ctrls.length:=by omega
   have W:=wrap_i64 (show-9223372036854775808≤(i:Int)+1 by omega) (by omega)
   simp only[go_sem,Nat.reduceAdd,Nat.reduceMul,Nat.reduceSub,Nat.reduceLT,Nat.reduceLeDiff,Nat.reduceEqDiff,Nat.reduceBEq,Nat.reduceBeqDiff,Int.reduceEq,Int.reduceLT,Int.reduceLE,Int.reduceToNat,Int.reduceNeg,Int.reduceAdd,Int.reduceSub,Int.reduceMul,reduceIte,reduceCtorEq,Nat.reducePow,Nat.reduceDiv,Nat.reduceMod,Int.reduceBEq,hiI,idx,hx,Ctl.dd]
   cases hf:finB c.fin with
   |false=>
    rw[hf] at hL hs1
    simp only[go_sem,Nat.reduceAdd,Nat.reduceMul,Nat.reduceSub,Nat.reduceLT,Nat.reduceLeDiff,Nat.reduceEqDiff,Nat.reduceBEq,Nat.reduceBeqDiff,Int.reduceEq,Int.reduceLT,Int.reduceLE,Int.reduceToNat,Int.reduceNeg,Int.reduceAdd,Int.reduceSub,Int.reduceMul,reduceIte,reduceCtorEq,Nat.reducePow,Nat.reduceDiv,Nat.reduceMod,Int.reduceBEq,hL]
    exact⟨_,_,rfl, .inr ⟨rfl,rises_none (k:=i+1) (by rw[hs1];rfl),rfl⟩⟩
   |true=>
    rw[hf] at hL hs1
    by_cases hlt:c.ht<last
    ·have: ¬last≤c.ht:=by omega
     simp only[go_sem,Nat.reduceAdd,Nat.reduceMul,Nat.reduceSub,Nat.reduceLT,Nat.reduceLeDiff,Nat.reduceEqDiff,Nat.reduceBEq,Nat.reduceBeqDiff,Int.reduceEq,Int.reduceLT,Int.reduceLE,Int.reduceToNat,Int.reduceNeg,Int.reduceAdd,Int.reduceSub,Int.reduceMul,reduceIte,reduceCtorEq,Nat.reducePow,Nat.reduceDiv,Nat.reduceMod,Int.reduceBEq,hL,hlt]
     exact⟨_,_,rfl, .inr ⟨rfl,rises_none (k:=i+1) (by rw[hs1];simp[this]),rfl⟩⟩
    ·have:last≤c.ht:=by omega
     simp only[go_sem,Nat.reduceAdd,Nat.reduceMul,Nat.reduceSub,Nat.reduceLT,Nat.reduceLeDiff,Nat.reduceEqDiff,Nat.reduceBEq,Nat.reduceBeqDiff,Int.reduceEq,Int.reduceLT,Int.reduceLE,Int.reduceToNat,Int.reduceNeg,Int.reduceAdd,Int.reduceSub,Int.reduceMul,reduceIte,reduceCtorEq,Nat.reducePow,Nat.reduceDiv,Nat.reduceMod,Int.reduceBEq,hL,hlt,W]
     exact⟨_,_,rfl,c.ht,by rw[hs1];simp[this],rfl⟩
  ·rintro z ⟨last,hl,rfl⟩
   rw[List.take_length] at hl
   simp only[go_sem,Nat.reduceAdd,Nat.reduceMul,Nat.reduceSub,Nat.reduceLT,Nat.reduceLeDiff,Nat.reduceEqDiff,Nat.reduceBEq,Nat.reduceBeqDiff,Int.reduceEq,Int.reduceLT,Int.reduceLE,Int.reduceToNat,Int.reduceNeg,Int.reduceAdd,Int.reduceSub,Int.reduceMul,reduceIte,reduceCtorEq,Nat.reducePow,Nat.reduceDiv,Nat.reduceMod,Int.reduceBEq,Int.lt_irrefl]
   exact⟨_,_,rfl,trivial, .inl ⟨last,rfl,hl,rfl⟩⟩
 rcases hJ with⟨last,rfl,hl,rfl⟩|⟨rfl,hl,rfl⟩
 ·unfold saneS
  simp only[hl]
  by_cases hle:last≤s.vals.length
  ·simp only[go_sem,Nat.reduceAdd,Nat.reduceMul,Nat.reduceSub,Nat.reduceLT,Nat.reduceLeDiff,Nat.reduceEqDiff,Nat.reduceBEq,Nat.reduceBeqDiff,Int.reduceEq,Int.reduceLT,Int.reduceLE,Int.reduceToNat,Int.reduceNeg,Int.reduceAdd,Int.reduceSub,Int.reduceMul,reduceIte,reduceCtorEq,Nat.reducePow,Nat.reduceDiv,Nat.reduceMod,Int.reduceBEq,byt_len,hle,T]
  ·simp only[go_sem,Nat.reduceAdd,Nat.reduceMul,Nat.reduceSub,Nat.reduceLT,Nat.reduceLeDiff,Nat.reduceEqDiff,Nat.reduceBEq,Nat.reduceBeqDiff,Int.reduceEq,Int.reduceLT,Int.reduceLE,Int.reduceToNat,Int.reduceNeg,Int.reduceAdd,Int.reduceSub,Int.reduceMul,reduceIte,reduceCtorEq,Nat.reducePow,Nat.reduceDiv,Nat.reduceMod,Int.reduceBEq,byt_len,hle]
 ·unfold saneS
  simp only[go_sem,Nat.reduceAdd,Nat.reduceMul,Nat.reduceSub,Nat.reduceLT,Nat.reduceLeDiff,Nat.reduceEqDiff,Nat.reduceBEq,Nat.reduceBeqDiff,Int.reduceEq,Int.reduceLT,Int.reduceLE,Int.reduceToNat,Int.reduceNeg,Int.reduceAdd,Int.reduceSub,Int.reduceMul,reduceIte,reduceCtorEq,Nat.reducePow,Nat.reduceDiv,Nat.reduceMod,Int.reduceBEq,hl]
end Go.Proofs.YtfpioigggjnffaaGreatDoor.E
