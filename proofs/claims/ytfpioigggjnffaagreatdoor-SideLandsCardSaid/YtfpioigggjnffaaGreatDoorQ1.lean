/- Q1, Q2, C2. -/
import Derived.Test.YtfpioigggjnffaaGreatDoorEvO3
import Derived.Test.YtfpioigggjnffaaGreatDoorEvD
set_option linter.unnecessarySimpa false
set_option linter.unusedSimpArgs false
set_option linter.unusedVariables false
set_option autoImplicit false
set_option maxRecDepth 100000
set_option maxHeartbeats 4000000
set_option pp.maxSteps 20000
namespace Go.Proofs.YtfpioigggjnffaaGreatDoor.E
open Go.Ev
def Ctl.dd (c:Ctl):D:= .agg [.int .i64 c.op, .list (byt c.fin), .int .i64 c.ht, .bool c.dead]
abbrev ctlds (l:List Ctl):List D:=l.map Ctl.dd
def Stk.dd (s:Stk):D:= .agg [.list (byt s.vals), .list (ctlds s.ctrls)]
theorem ctlds_len (l:List Ctl):(ctlds l).length=l.length:=List.length_map ..
theorem valS_ev (fu n:Nat) (c:Int):evF (G fu) (n+1) 153 [.d (.int .u8 c)] []=some (.d (.bool (valB c)),[]):=by
 rw[evF.eq_2,evX.eq_def,Gext,exts_no _ (f:=153) (by decide),GP,Tryz.func153];simp only[Tryz.f153,evB]
 unfold valB
 by_cases h1:c=127
 ·subst h1;simp only[go_sem,seval, -Nat.reduceSubDiff,↓reduceIte,reduceCtorEq]
 ·by_cases h2:c=126
  ·subst h2;simp only[go_sem,seval, -Nat.reduceSubDiff,↓reduceIte,reduceCtorEq]
  ·have e1:(c==126)=false:=by simpa using h2
   have e2:(c==127)=false:=by simpa using h1
   simp only[go_sem,seval, -Nat.reduceSubDiff,↓reduceIte,reduceCtorEq,h1,h2,e1,e2]
theorem leftS_ev (fu n:Nat) (l:List Int):evF (G fu) (n+2) 94 [.d (.list (byt l))] []=some (.d (.bool (finB l)),[]):=by
 rw[evF.eq_2,evX.eq_def,Gext,exts_no _ (f:=94) (by decide),GP,Tryz.func94];simp only[Tryz.f94,evB]
 match l with
 |[]=>simp only[go_sem,seval, -Nat.reduceSubDiff,↓reduceIte,reduceCtorEq,List.map_nil];rfl
 |[c]=>
  have hc:=valS_ev fu n c
  simp only[go_sem,seval, -Nat.reduceSubDiff,↓reduceIte,reduceCtorEq,List.map_cons,List.map_nil,idx,hc];rfl
 |a::b::l=>
  have h0: ¬(((List.map (D.int .u8) l).length+1+1:Nat):Int)=0:=by omega
  have h1: ¬(((List.map (D.int .u8) l).length+1+1:Nat):Int)=1:=by omega
  simp only[go_sem,seval, -Nat.reduceSubDiff,↓reduceIte,reduceCtorEq,List.map_cons,h0,h1];rfl
theorem types1S_ev (fu n:Nat) (c:Int):evF (G fu) (n+2) 155 [.d (.int .u8 c)] []=some (.d (.bool (!(c==0||valB c))),[]):=by
 have hv:=valS_ev fu n c
 rw[evF.eq_2,evX.eq_def,Gext,exts_no _ (f:=155) (by decide),GP,Tryz.func155];simp only[Tryz.f155,evB]
 by_cases h:c=0
 ·subst h;simp only[go_sem,seval, -Nat.reduceSubDiff,↓reduceIte,reduceCtorEq]
 ·have e1:(c==0)=false:=by simpa using h
  simp only[go_sem,seval, -Nat.reduceSubDiff,↓reduceIte,reduceCtorEq,h,hv,e1]
def findT (p:Int→Bool) (l:List Int):Int:=match first (fun i=>p (l.getD i 0)) 0 l.length with
 |some i=>(i:Int)
 |none=> -1
theorem findT_iff (p:Int→Bool) (l:List Int):(0≤findT p l)↔l.any p=true:=by
 unfold findT
 have:=first_list (p:=p) (d:=0) l
 cases hf:first (fun i=>p (l.getD i 0)) 0 l.length with
 |none=>
  rw[hf] at this
  have:=this.1 rfl
  simp[this]
 |some i=>
  rw[hf] at this
  cases ha:l.any p with
  |false=>exact absurd (this.2 ha) (by simp)
  |true=>simp
theorem indexB_ev (fu n:Nat) (f:Nat) (p:Int→Bool) (l:List Int) (hp: ∀c,evF (G fu) (n+2) f [.d (.int .u8 c)] []=some (.d (.bool (p c)),[])) (ho:owns f=false) (h:l.length<fu) (hs:l.length<1000000):
 evF (G fu) (n+3) 201 [.d (.list (byt l)), .fn (.func f) [] []] []=some (.d (.int .i64 (findT p l)),[]):=by
 rw[evF.eq_2,evX.eq_def,Gext,exts_no _ (f:=201) (by decide),GP,Tryz.func201];simp only[Tryz.f201,evB]
 simp only[go_sem,seval, -Nat.reduceSubDiff,↓reduceIte,reduceCtorEq,List.length_map]
 rw[loop_scan l.length (fun i=>⟨[(0, .d (.list (byt l))),(1, .fn (.func f) [] []),(7, .d (.int .i64 l.length)),(8, .d (.int .i64 i))],[]⟩) (fun i=>p (l.getD i 0)) (fun i=>(.ret,⟨[(4,V.d (D.int .i64 i))],[]⟩)) (.exit 0,⟨[],[]⟩) (by omega) (fun _=>trivial) trivial ?_]
 case hs=>
  intro i hi
  simp only[go_sem,seval, -Nat.reduceSubDiff,↓reduceIte,reduceCtorEq,Int.ofNat_lt,hi,idx,getD_map (f:=D.int .u8) (d:=0) hi,hp,ho]
  cases p (l.getD i 0)<;>simp only[go_sem,seval, -Nat.reduceSubDiff,↓reduceIte,reduceCtorEq,wrap_i64 (show-9223372036854775808≤(i:Int)+1 by omega) (by omega)]<;>rfl
 case he=>simp only[go_sem,seval, -Nat.reduceSubDiff,↓reduceIte,reduceCtorEq,Int.ofNat_lt,Nat.lt_irrefl]
 ·unfold Go.Ev.scan findT
  cases first (fun i=>p (l.getD i 0)) 0 l.length<;>simp only[go_sem,seval, -Nat.reduceSubDiff,↓reduceIte,reduceCtorEq]
 ·rfl
theorem containsB_ev (fu n:Nat) (f:Nat) (p:Int→Bool) (l:List Int) (hp: ∀c,evF (G fu) (n+2) f [.d (.int .u8 c)] []=some (.d (.bool (p c)),[])) (ho:owns f=false) (h:l.length<fu) (hs:l.length<1000000):
 evF (G fu) (n+4) 154 [.d (.list (byt l)), .fn (.func f) [] []] []=some (.d (.bool (l.any p)),[]):=by
 have I:=indexB_ev fu n f p l hp ho h hs
 rw[evF.eq_2,evX.eq_def,Gext,exts_no _ (f:=154) (by decide),GP,Tryz.func154];simp only[Tryz.f154,evB]
 have:=findT_iff p l
 cases ha:l.any p<;>rw[ha] at this<;>simp only[iff_true,iff_false,reduceCtorEq,Bool.false_eq_true] at this<;>simp only[go_sem,seval, -Nat.reduceSubDiff,↓reduceIte,reduceCtorEq,I,this,ha]
theorem any_not {p:Int→Bool} (l:List Int):l.any (fun c=> !p c)= !l.all p:=by
 induction l with
 |nil=>rfl
 |cons x l ih=>simp[ih]
theorem typesS_ev (fu n:Nat) (l:List Int) (h:l.length<fu) (hs:l.length<1000000):evF (G fu) (n+5) 95 [.d (.list (byt l))] []=some (.d (.bool (typesB l)),[]):=by
 have C:=containsB_ev fu n 155 (fun c=> !(c==0||valB c)) l (types1S_ev fu n) rfl h hs
 rw[any_not] at C
 rw[evF.eq_2,evX.eq_def,Gext,exts_no _ (f:=95) (by decide),GP,Tryz.func95];simp only[Tryz.f95,evB]
 simp only[go_sem,seval, -Nat.reduceSubDiff,↓reduceIte,reduceCtorEq,C,Bool.not_not];rfl
theorem rises_none {l:List Ctl} {k:Nat} {h:Int} (e:risesB h (l.take k)=none):risesB h l=none:=by
 rw[←List.take_append_drop k l,risesB_append,e]
theorem rises_step {l:List Ctl} {k:Nat} {last:Int} {c:Ctl} (e:risesB 0 (l.take k)=some last) (hk:l[k]? =some c):risesB 0 (l.take (k+1))=if finB c.fin&&decide (last≤c.ht) then some c.ht else none:=by
 rw[List.take_add_one,hk,risesB_append,e]
 simp only[Option.toList_some,risesB]
def ctl0:Ctl:=⟨0,[],0,false⟩
theorem saneS_ev (fu n:Nat) (s:Stk) (h:s.vals.length<fu) (hc:s.ctrls.length<fu) (hs:s.vals.length<1000000) (hcs:s.ctrls.length<1000000):evF (G fu) (n+6) 44 [.d s.dd] []=some (.d (.bool (saneS s)),[]):=by
 have T:=typesS_ev fu n s.vals h hs
 rw[evF.eq_2,evX.eq_def,Gext,exts_no _ (f:=44) (by decide),GP,Tryz.func44];simp only[Tryz.f44,evB]
 simp only[go_sem,seval, -Nat.reduceSubDiff,↓reduceIte,reduceCtorEq,Stk.dd,List.length_map]
 generalize hr:loopN _ _ _ _ _=r
 obtain⟨x,s1,rfl,hx,hJ⟩: ∃x s1,r=some (x,s1)∧leaves x∧((∃last,x= .exit 0∧risesB 0 s.ctrls=some last∧s1=⟨[(1,V.ptr 128 0),(3,V.d (D.int .i64 last))],[(128, .cells [V.d (D.list (byt s.vals)),V.d (D.list (ctlds s.ctrls))])]⟩)∨
  (x= .ret∧risesB 0 s.ctrls=none∧s1=⟨[(2,V.d (D.bool false))],[]⟩)):=by
  rw[←hr]
  refine loop_inv (J:=fun x s1=>((∃last,x= .exit 0∧risesB 0 s.ctrls=some last∧s1=⟨[(1,V.ptr 128 0),(3,V.d (D.int .i64 last))],[(128, .cells [V.d (D.list (byt s.vals)),V.d (D.list (ctlds s.ctrls))])]⟩)∨
   (x= .ret∧risesB 0 s.ctrls=none∧s1=⟨[(2,V.d (D.bool false))],[]⟩)))
   s.ctrls.length (fun i z=> ∃last,risesB 0 (s.ctrls.take i)=some last∧z=⟨[(1,V.ptr 128 0),(3,V.d (D.int .i64 last)),(7,V.d (D.list (ctlds s.ctrls))),(8,V.d (D.int .i64 s.ctrls.length)),(9,V.d (D.int .i64 i))],[(128, .cells [V.d (D.list (byt s.vals)),V.d (D.list (ctlds s.ctrls))])]⟩) ?_ ?_ fu _ hc ⟨0,rfl,rfl⟩
  ·rintro i z hi ⟨last,hl,rfl⟩
   have hx:(ctlds s.ctrls)[i]? =some (s.ctrls.getD i ctl0).dd:=getD_map hi
   have hk:s.ctrls[i]? =some (s.ctrls.getD i ctl0):=by simp[hi]
   have hs1:=rises_step hl hk
   generalize s.ctrls.getD i ctl0=c at*
   have hL:=leftS_ev fu (n+3) c.fin
   have hiI:(i:Int)<s.ctrls.length:=by omega
   have W:=wrap_i64 (show-9223372036854775808≤(i:Int)+1 by omega) (by omega)
   simp only[go_sem,seval, -Nat.reduceSubDiff,↓reduceIte,reduceCtorEq,hiI,idx,hx,Ctl.dd]
   cases hf:finB c.fin with
   |false=>
    rw[hf] at hL hs1
    simp only[go_sem,seval, -Nat.reduceSubDiff,↓reduceIte,reduceCtorEq,hL]
    exact⟨_,_,rfl, .inr ⟨rfl,rises_none (k:=i+1) (by rw[hs1];rfl),rfl⟩⟩
   |true=>
    rw[hf] at hL hs1
    by_cases hlt:c.ht<last
    ·have: ¬last≤c.ht:=by omega
     simp only[go_sem,seval, -Nat.reduceSubDiff,↓reduceIte,reduceCtorEq,hL,hlt]
     exact⟨_,_,rfl, .inr ⟨rfl,rises_none (k:=i+1) (by rw[hs1];simp[this]),rfl⟩⟩
    ·have:last≤c.ht:=by omega
     simp only[go_sem,seval, -Nat.reduceSubDiff,↓reduceIte,reduceCtorEq,hL,hlt,W]
     exact⟨_,_,rfl,c.ht,by rw[hs1];simp[this],rfl⟩
  ·rintro z ⟨last,hl,rfl⟩
   rw[List.take_length] at hl
   simp only[go_sem,seval, -Nat.reduceSubDiff,↓reduceIte,reduceCtorEq,Int.lt_irrefl]
   exact⟨_,_,rfl,trivial, .inl ⟨last,rfl,hl,rfl⟩⟩
 rcases hJ with⟨last,rfl,hl,rfl⟩|⟨rfl,hl,rfl⟩
 ·unfold saneS
  simp only[hl]
  by_cases hle:last≤s.vals.length
  ·simp only[go_sem,seval, -Nat.reduceSubDiff,↓reduceIte,reduceCtorEq,byt_len,hle,T]
  ·simp only[go_sem,seval, -Nat.reduceSubDiff,↓reduceIte,reduceCtorEq,byt_len,hle]
 ·unfold saneS
  simp only[go_sem,seval, -Nat.reduceSubDiff,↓reduceIte,reduceCtorEq,hl]
end Go.Proofs.YtfpioigggjnffaaGreatDoor.E
set_option autoImplicit false
set_option maxRecDepth 100000
set_option maxHeartbeats 4000000
set_option pp.maxSteps 20000
namespace Go.Proofs.YtfpioigggjnffaaGreatDoor.E
open Go.Ev
theorem ctlds_sized (l:List Ctl):sizedAll 4 (ctlds l)=true:=sizedAll_map (fun x=>⟨_,rfl⟩) l
theorem cloneC_ev (fu n:Nat) (l:List Ctl) (h:l.length≤1099511627776):evF (G fu) (n+1) 126 [.d (.list (ctlds l))] []=some (.row 0 0 0 l.length,[.row 4 (ctlds l) 0 false false]):=by
 rw[evF.eq_2,evX.eq_def,Gext,exts_126]
 cases l with
 |nil=>rfl
 |cons x l=>
  have hs:=ctlds_sized (x::l)
  have hl:=ctlds_len (x::l)
  simp only[ctlds,List.map_cons] at hs hl ⊢
  simp only[cloneX,G0P,Tryz.func126]
  simp only[Tryz.f126,evB]
  have h':l.length≤1099511627775:=by simp at h;omega
  simp only[go_sem,seval, -Nat.reduceSubDiff,↓reduceIte,reduceCtorEq,hs,hl,h,h']
def wcells (lv lc j:Nat):List V:=[.row 1 0 0 lv, .row 2 0 0 lc, .eptr 2 0 j 0]
def beginR (s:Stk):Option Res:=match topC s with
 | .error e=>some (.tup [.agg [.nilsl, .nilsl, .nilp], .d (.int .i64 e)],[])
 | .ok _=>some (.tup [.agg [.row 0 0 0 s.vals.length, .row 1 0 0 s.ctrls.length, .eptr 1 0 (s.ctrls.length-1) 0], .d (.int .i64 0)],[.row 1 (byt s.vals) 0 false false, .row 4 (ctlds s.ctrls) 0 false false])
theorem begin_ev (fu n:Nat) (s:Stk) (h:s.vals.length<fu) (hc:s.ctrls.length<fu) (hs:s.vals.length<1000000) (hcs:s.ctrls.length<1000000):evF (G fu) (n+7) 131 [.d s.dd] []=beginR s:=by
 have S:=saneS_ev fu n s h hc hs hcs
 have C1:=clone_ev fu (n+5) s.vals (by omega)
 have C2:=cloneC_ev fu (n+5) s.ctrls (by omega)
 simp only[Stk.dd] at S
 unfold beginR topC
 rw[evF.eq_2,evX.eq_def,Gext,exts_no _ (f:=131) (by decide),GP,Tryz.func131];simp only[Tryz.f131,evB]
 cases hsn:saneS s with
 |false=>
  rw[hsn] at S
  simp only[go_sem,seval, -Nat.reduceSubDiff,↓reduceIte,reduceCtorEq,Stk.dd,S]
 |true=>
  rw[hsn] at S
  cases hcl:s.ctrls.getLast? with
  |none=>
   have h0:(s.ctrls.length:Int)=0:=by rw[List.getLast?_eq_none_iff] at hcl;rw[hcl];rfl
   simp only[go_sem,seval, -Nat.reduceSubDiff,↓reduceIte,reduceCtorEq,Stk.dd,S,ctlds_len,byt_len,C1,C2,h0]
  |some c=>
   have hpos:0<s.ctrls.length:=by
    cases hh:s.ctrls with
    |nil=>rw[hh] at hcl;cases hcl
    |cons _ _=>simp
   have hne: ¬(s.ctrls.length:Int)=0:=by omega
   have Wn:IntKind.wrap .i64 ((s.ctrls.length:Int)-1)=((s.ctrls.length-1:Nat):Int):=by rw[wrap_i64 (by omega) (by omega)];omega
   have hlt:((s.ctrls.length-1:Nat):Int)<s.ctrls.length:=by omega
   simp only[go_sem,seval, -Nat.reduceSubDiff,↓reduceIte,reduceCtorEq,Stk.dd,S,ctlds_len,byt_len,C1,C2,hne]
   (rw[cond_free];rotate_left;·rfl)
   simp only[go_sem,seval, -Nat.reduceSubDiff,↓reduceIte,reduceCtorEq,Wn,hlt]
   (rw[cond_free];rotate_left;·rfl)
   simp only[go_sem,seval, -Nat.reduceSubDiff,↓reduceIte,reduceCtorEq]
theorem top_get {X:List D} {v:List Int} (hX:X.take v.length=byt v) (h:0<v.length):X[v.length-1]? =some (.int .u8 (v.getLastD 0)):=by
 have h1:(X.take v.length)[v.length-1]? =X[v.length-1]? :=by rw[List.getElem?_take,if_pos (by omega)]
 have hne:v≠[]:=fun e=>by rw[e] at h;simp at h
 rw[←h1,hX,List.getElem?_map,←List.getLast?_eq_getElem?,List.getLast?_eq_some_getLast hne,List.getLastD_eq_getLast?,List.getLast?_eq_some_getLast hne]
 rfl
theorem pop_ev (fu n:Nat) (v:List Int) (lc j:Nat) (X Y:List D) (f1 g1 f2 g2:Bool) (c:Ctl) (hX:X.take v.length=byt v) (hY:Y[j]? =some c.dd) (hh:0≤c.ht) (hl:v.length<1000000):
 evF (G fu) (n+1) 179 [.ptr 0 0] [.cells (wcells v.length lc j), .row 1 X 0 f1 g1, .row 4 Y 0 f2 g2]=some (match popV c.ht c.dead v with
  | .ok (t,v')=>(.tup [.d (.int .u8 t), .d (.int .i64 0)],[.cells (wcells v'.length lc j), .row 1 X 0 f1 g1, .row 4 Y 0 f2 g2])
  | .error e=>(.tup [.d (.int .u8 0), .d (.int .i64 e)],[.cells (wcells v.length lc j), .row 1 X 0 f1 g1, .row 4 Y 0 f2 g2])):=by
 rw[evF.eq_2,evX.eq_def,Gext,exts_no _ (f:=179) (by decide),GP,Tryz.func179];simp only[Tryz.f179,evB]
 have Wn:IntKind.wrap .i64 ((v.length:Int)-1)=(v.length:Int)-1:=wrap_i64 (by omega) (by omega)
 unfold popV
 by_cases hlt:c.ht<v.length
 ·have h1:c.ht≤(v.length:Int)-1:=by omega
  have h2:(0:Int)≤(v.length:Int)-1:=by omega
  have h3:(v.length:Int)-1<v.length:=by omega
  have h4:((v.length:Int)-1).toNat=v.length-1:=by omega
  have h5:(v.length:Int)-1≤v.length:=by omega
  have hx:=top_get hX (show 0<v.length by omega)
  simp only[go_sem,seval, -Nat.reduceSubDiff,↓reduceIte,reduceCtorEq,wcells,Wn,hY,Ctl.dd,h1,h2,h3,h4,h5,hx,hlt,List.length_dropLast,Int.sub_zero]
 ·have h1: ¬c.ht≤(v.length:Int)-1:=by omega
  cases hd:c.dead with
  |true=>simp only[go_sem,seval, -Nat.reduceSubDiff,↓reduceIte,reduceCtorEq,wcells,Wn,hY,Ctl.dd,h1,hlt,hd]
  |false=>simp only[go_sem,seval, -Nat.reduceSubDiff,↓reduceIte,reduceCtorEq,wcells,Wn,hY,Ctl.dd,h1,hlt,hd]
theorem pop0_ev (fu n:Nat) (v:List Int) (lc j:Nat) (X Y:List D) (f1 g1 f2 g2:Bool) (c:Ctl) (hX:X.take v.length=byt v) (hY:Y[j]? =some c.dd) (hh:0≤c.ht) (hl:v.length<1000000):
 evF (G0 fu) (n+1) 179 [.ptr 0 0] [.cells (wcells v.length lc j), .row 1 X 0 f1 g1, .row 4 Y 0 f2 g2]=some (match popV c.ht c.dead v with
  | .ok (t,v')=>(.tup [.d (.int .u8 t), .d (.int .i64 0)],[.cells (wcells v'.length lc j), .row 1 X 0 f1 g1, .row 4 Y 0 f2 g2])
  | .error e=>(.tup [.d (.int .u8 0), .d (.int .i64 e)],[.cells (wcells v.length lc j), .row 1 X 0 f1 g1, .row 4 Y 0 f2 g2])):=by
 rw[evF.eq_2,evX.eq_def,G0ext,G0P,Tryz.func179];simp only[Tryz.f179,evB]
 have Wn:IntKind.wrap .i64 ((v.length:Int)-1)=(v.length:Int)-1:=wrap_i64 (by omega) (by omega)
 unfold popV
 by_cases hlt:c.ht<v.length
 ·have h1:c.ht≤(v.length:Int)-1:=by omega
  have h2:(0:Int)≤(v.length:Int)-1:=by omega
  have h3:(v.length:Int)-1<v.length:=by omega
  have h4:((v.length:Int)-1).toNat=v.length-1:=by omega
  have h5:(v.length:Int)-1≤v.length:=by omega
  have hx:=top_get hX (show 0<v.length by omega)
  simp only[go_sem,seval, -Nat.reduceSubDiff,↓reduceIte,reduceCtorEq,wcells,Wn,hY,Ctl.dd,h1,h2,h3,h4,h5,hx,hlt,List.length_dropLast,Int.sub_zero]
 ·have h1: ¬c.ht≤(v.length:Int)-1:=by omega
  cases hd:c.dead with
  |true=>simp only[go_sem,seval, -Nat.reduceSubDiff,↓reduceIte,reduceCtorEq,wcells,Wn,hY,Ctl.dd,h1,hlt,hd]
  |false=>simp only[go_sem,seval, -Nat.reduceSubDiff,↓reduceIte,reduceCtorEq,wcells,Wn,hY,Ctl.dd,h1,hlt,hd]
end Go.Proofs.YtfpioigggjnffaaGreatDoor.E
set_option autoImplicit false
namespace Go.Proofs.YtfpioigggjnffaaGreatDoor.E
open Go.Ev
theorem saneS_iff (s:Stk):saneS s=true↔∃h,risesB 0 s.ctrls=some h∧h≤s.vals.length∧typesB s.vals=true:=by
 unfold saneS
 cases risesB 0 s.ctrls with
 |none=>simp
 |some h=>simp
theorem risesB_last {h:Int} {a:List Ctl} {k:Int} {c:Ctl} (e:risesB h a=some k) (hc:a.getLast? =some c):k=c.ht∧finB c.fin=true:=by
 obtain⟨ys,rfl⟩:=List.getLast?_eq_some_iff.1 hc
 rw[risesB_append] at e
 cases hr:risesB h ys with
 |none=>rw[hr] at e;cases e
 |some m=>
  rw[hr] at e
  simp only[risesB] at e
  split at e
  ·rename_i hh
   simp only[Bool.and_eq_true] at hh
   cases e;exact⟨rfl,hh.1⟩
  ·cases e
theorem risesB_ge {h:Int} {a:List Ctl} {k:Int} (e:risesB h a=some k):h≤k:=by
 induction a generalizing h with
 |nil=>cases e;exact Int.le_refl _
 |cons c a ih=>
  simp only[risesB] at e
  split at e
  ·rename_i hh
   simp only[Bool.and_eq_true,decide_eq_true_eq] at hh
   have:=ih e;omega
  ·cases e
theorem risesB_dropLast {a:List Ctl} {k:Int} (e:risesB 0 a=some k): ∃m,risesB 0 a.dropLast=some m∧m≤k:=by
 cases hl:a.getLast? with
 |none=>rw[List.getLast?_eq_none_iff] at hl;subst hl;exact⟨0,rfl,by cases e;exact Int.le_refl _⟩
 |some c=>
  obtain⟨ys,rfl⟩:=List.getLast?_eq_some_iff.1 hl
  rw[List.dropLast_concat]
  rw[risesB_append] at e
  cases hr:risesB 0 ys with
  |none=>rw[hr] at e;cases e
  |some m=>rw[hr] at e;exact⟨m,rfl,risesB_ge e⟩
theorem risesB_setLast {a:List Ctl} {k:Int} {c c':Ctl} (e:risesB 0 a=some k) (hc:a.getLast? =some c) (h1:c'.fin=c.fin) (h2:c'.ht=c.ht):risesB 0 (a.dropLast++[c'])=some k:=by
 obtain⟨ys,rfl⟩:=List.getLast?_eq_some_iff.1 hc
 rw[List.dropLast_concat,risesB_append]
 rw[risesB_append] at e
 cases hr:risesB 0 ys with
 |none=>rw[hr] at e;cases e
 |some m=>rw[hr] at e;simp only[risesB] at e ⊢;rw[h1,h2];exact e
theorem topC_ok {s:Stk} {c:Ctl} (e:topC s= .ok c):saneS s=true∧s.ctrls.getLast? =some c:=by
 unfold topC at e
 cases hs:saneS s with
 |false=>rw[hs] at e;cases e
 |true=>
  rw[hs] at e
  cases hc:s.ctrls.getLast? with
  |none=>rw[hc] at e;cases e
  |some x=>rw[hc] at e;cases e;exact⟨rfl,rfl⟩
theorem topC_rises {s:Stk} {c:Ctl} (e:topC s= .ok c):risesB 0 s.ctrls=some c.ht∧c.ht≤s.vals.length∧typesB s.vals=true∧finB c.fin=true∧0≤c.ht:=by
 obtain⟨hs,hc⟩:=topC_ok e
 obtain⟨h,hr,hl,ht⟩:=(saneS_iff s).1 hs
 obtain⟨rfl,hf⟩:=risesB_last hr hc
 exact⟨hr,hl,ht,hf,risesB_ge hr⟩
theorem pushS_ok {s s':Stk} {l:List Int} (e:pushS s l= .ok s'):saneS s'=true∧s'.ctrls=s.ctrls∧s'.vals=s.vals++l:=by
 unfold pushS at e
 split at e
 ·cases e
 ·rename_i hn
  simp only[Bool.or_eq_true,Bool.not_eq_true',not_or,Bool.not_eq_false] at hn
  cases e
  obtain⟨h,hr,hl,ht⟩:=(saneS_iff s).1 hn.1
  exact⟨(saneS_iff _).2 ⟨h,hr,by simp only[List.length_append];omega,by rw[typesB_append,ht,hn.2];rfl⟩,rfl,rfl⟩
theorem wantS_ok {s s':Stk} {l:List Int} (e:wantS s l= .ok s'):saneS s'=true∧s'.ctrls=s.ctrls∧s'.vals<+:s.vals:=by
 unfold wantS at e
 split at e
 ·rename_i hn
  simp only[Bool.and_eq_true] at hn
  cases e;exact⟨hn.1,rfl,List.prefix_refl _⟩
 ·cases ht:topC s with
  |error x=>rw[ht] at e;cases e
  |ok c=>
   rw[ht] at e
   simp only at e
   cases hw:wantV c.ht c.dead l.reverse s.vals with
   |error x=>rw[hw] at e;cases e
   |ok v=>
    rw[hw] at e;cases e
    obtain⟨h1,h2,h3,_,_⟩:=topC_rises ht
    obtain⟨a1,a2,a3⟩:=wantV_len hw h2 h3
    exact⟨(saneS_iff _).2 ⟨c.ht,h1,a1,a2⟩,rfl,a3⟩
theorem popS_ok {s s':Stk} {t:Int} (e:popS s= .ok (t,s')):saneS s'=true∧s'.ctrls=s.ctrls∧s'.vals<+:s.vals:=by
 unfold popS at e
 cases ht:topC s with
 |error x=>rw[ht] at e;cases e
 |ok c=>
  rw[ht] at e
  simp only at e
  cases hw:popV c.ht c.dead s.vals with
  |error x=>rw[hw] at e;cases e
  |ok r=>
   obtain⟨t',v⟩:=r
   rw[hw] at e;cases e
   obtain⟨h1,h2,h3,_,_⟩:=topC_rises ht
   obtain⟨a1,a2,a3⟩:=popV_len hw h2 h3
   exact⟨(saneS_iff _).2 ⟨c.ht,h1,a1,a2⟩,rfl,a3⟩
theorem openS_ok {s s':Stk} {op:Int} {l:List Int} (e:openS s op l= .ok s'):saneS s'=true∧s'.ctrls=s.ctrls++[⟨op,l,s.vals.length,false⟩]∧s'.vals=s.vals:=by
 unfold openS at e
 split at e
 ·cases e
 ·rename_i hn
  simp only[Bool.or_eq_true,Bool.not_eq_true',not_or,Bool.not_eq_false] at hn
  cases e
  obtain⟨h,hr,hl,ht⟩:=(saneS_iff s).1 hn.1
  refine⟨(saneS_iff _).2 ⟨s.vals.length, ?_,Int.le_refl _,ht⟩,rfl,rfl⟩
  rw[risesB_append,hr]
  simp only[risesB,hn.2,Bool.true_and]
  rw[if_pos (by simpa using hl)]
theorem closeS_ok {s s':Stk} {c:Ctl} (e:closeS s= .ok (c,s')):saneS s'=true∧s.ctrls.getLast? =some c∧s'.ctrls=s.ctrls.dropLast∧s'.vals<+:s.vals∧(s'.vals.length:Int)=c.ht∧finB c.fin=true:=by
 unfold closeS at e
 cases ht:topC s with
 |error x=>rw[ht] at e;cases e
 |ok d=>
  rw[ht] at e
  simp only at e
  cases hw:wantV d.ht d.dead d.fin.reverse s.vals with
  |error x=>rw[hw] at e;cases e
  |ok v=>
   rw[hw] at e
   simp only at e
   split at e
   ·cases e
   ·rename_i hv
    cases e
    obtain⟨h1,h2,h3,h4,_⟩:=topC_rises ht
    obtain⟨a1,a2,a3⟩:=wantV_len hw h2 h3
    obtain⟨m,hm,hle⟩:=risesB_dropLast h1
    simp only[ne_eq,Classical.not_not] at hv
    exact⟨(saneS_iff _).2 ⟨m,hm,by simp only;omega,a2⟩,(topC_ok ht).2,rfl,a3,hv,h4⟩
theorem killS_ok {s s':Stk} (e:killS s= .ok s'):saneS s'=true∧s'.ctrls.length=s.ctrls.length∧s'.vals<+:s.vals∧
 ∃c,s.ctrls.getLast? =some c∧s'.ctrls=s.ctrls.dropLast++[{c with dead:=true}]∧(s'.vals.length:Int)=c.ht:=by
 unfold killS at e
 cases ht:topC s with
 |error x=>rw[ht] at e;cases e
 |ok c=>
  rw[ht] at e
  cases e
  obtain⟨h1,h2,h3,_,h5⟩:=topC_rises ht
  have hc:=(topC_ok ht).2
  have hlen:((s.vals.take c.ht.toNat).length:Int)=c.ht:=by rw[List.length_take];omega
  refine⟨(saneS_iff _).2 ⟨c.ht,risesB_setLast h1 hc rfl rfl,by simp only;omega,typesB_take _ h3⟩, ?_,List.take_prefix _ _,c,hc,rfl,hlen⟩
  obtain⟨ys,hy⟩:=List.getLast?_eq_some_iff.1 hc
  simp[hy]
end Go.Proofs.YtfpioigggjnffaaGreatDoor.E
