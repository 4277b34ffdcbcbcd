/- C20, C22, Z4, Q17, C11, Q18, Z5, Z7, Z8. -/
import Derived.Test.YtfpioigggjnffaaGreatDoorS8
import Derived.Test.YtfpioigggjnffaaGreatDoorC7
import Derived.Test.YtfpioigggjnffaaGreatDoorT06
import Derived.Test.YtfpioigggjnffaaGreatDoorS4B
set_option linter.unnecessarySimpa false
set_option linter.unusedSimpArgs false
set_option linter.unusedVariables false
set_option autoImplicit false
namespace Go.Proofs.YtfpioigggjnffaaGreatDoor.E
open Go.Ev
variable {pre:List Ctl} {f:List Int} {acc:Int→Int×Int×Bool} {shape:Int→Option (List Int×Int)} {env env':TEnv} {sane:TInstr→Bool}
theorem RelW.vars {w w':WkS} (hp:risesB 0 pre=some 0) (hf:finB f=true) (he:SameEnv env env') (h:RelW pre f w w') (i:TInstr):RelW pre f (variableS env w i) (variableS env' w' i):=by
 have key: ∀r r':Int×WkS,RelW pre f r.2 r'.2∧r.1=r'.1→RelW pre f
  (if i.op=32∨i.op=34∨i.op=35 then(if i.op≠32∧i.op≠35 then r.2.want [r.1] else r.2).push [r.1] else(if i.op≠32∧i.op≠35 then r.2.want [r.1] else r.2))
  (if i.op=32∨i.op=34∨i.op=35 then(if i.op≠32∧i.op≠35 then r'.2.want [r'.1] else r'.2).push [r'.1] else(if i.op≠32∧i.op≠35 then r'.2.want [r'.1] else r'.2)):=fun r r' ⟨hr,hx⟩=>by
  rw[hx]
  have h1:RelW pre f (if i.op≠32∧i.op≠35 then r.2.want [r'.1] else r.2) (if i.op≠32∧i.op≠35 then r'.2.want [r'.1] else r'.2):=by
   by_cases hc:i.op≠32∧i.op≠35
   ·rw[if_pos hc,if_pos hc];exact hr.want hp hf fun _=>rfl
   ·rw[if_neg hc,if_neg hc];exact hr
  by_cases hc:i.op=32∨i.op=34∨i.op=35
  ·rw[if_pos hc,if_pos hc];exact h1.push hp hf fun _=>rfl
  ·rw[if_neg hc,if_neg hc];exact h1
 unfold variableS
 simp only
 refine key _ _ ?_
 rw[he.locs,he.globals]
 by_cases hc:i.op≤34
 ·rw[if_pos hc,if_pos hc]
  cases env.locs[i.a.toNat]? with
  |some t=>exact⟨h,rfl⟩
  |none=>exact⟨h.must (fun _ x=>x) (by decide),rfl⟩
 ·rw[if_neg hc,if_neg hc]
  cases env.globals[i.a.toNat]? with
  |some t=>exact⟨h.must (fun _ x=>x) (by decide),rfl⟩
  |none=>exact⟨h.must (fun _ x=>x) (by decide),rfl⟩
theorem RelW.mem {w w':WkS} (hp:risesB 0 pre=some 0) (hf:finB f=true) (he:SameEnv env env') (h:RelW pre f w w') (i:TInstr):RelW pre f (memoryS acc env w i) (memoryS acc env' w' i):=by
 unfold memoryS
 simp only
 rw[he.mems]
 have hm:RelW pre f (w.must (decide (0<env.mems)) 6) (w'.must (decide (0<env.mems)) 6):=h.must (fun _ x=>x) (by decide)
 by_cases h63:i.op=63
 ·rw[if_pos h63,if_pos h63];exact hm.push hp hf fun _=>rfl
 ·rw[if_neg h63,if_neg h63]
  by_cases h64:i.op=64
  ·rw[if_pos h64,if_pos h64];exact(hm.want hp hf fun _=>rfl).push hp hf fun _=>rfl
  ·rw[if_neg h64,if_neg h64]
   have hn:=hm.must (b:=decide (i.a≤3)&&decide ((2:Int)^i.a.toNat≤(acc i.op).2.1)) (fun _ x=>x) (e:=5) (by decide)
   cases(acc i.op).2.2 with
   |true=>exact hn.want hp hf fun _=>rfl
   |false=>exact(hn.want hp hf fun _=>rfl).push hp hf fun _=>rfl
end Go.Proofs.YtfpioigggjnffaaGreatDoor.E
set_option autoImplicit false
namespace Go.Proofs.YtfpioigggjnffaaGreatDoor.E
open Go.Ev
variable {acc:Int→Int×Int×Bool} {shape:Int→Option (List Int×Int)} {env:TEnv} {sane:TInstr→Bool}
theorem labelS_err {s:Stk} {n e:Int} (x:labelS s n= .error e):e≠0:=by
 unfold labelS at x
 split at x
 ·cases x;decide
 ·split at x
  ·cases x;decide
  ·split at x
   ·cases x;decide
   ·cases x
theorem label_e0 {w:WkS} {n:Int} (h:(w.label n).2.e=0):w.e=0∧∃l,labelS w.s n= .ok l∧w.label n=(l,w):=by
 unfold WkS.label at h ⊢
 cases hl:labelS w.s n with
 |ok l=>rw[hl] at h;exact⟨h,l,rfl,rfl⟩
 |error e=>
  rw[hl] at h
  exact absurd (must_true (labelS_err hl) h) (by decide)
theorem labels_e0 {w:WkS} {t l:List Int} (h:(labelsS w t l).e=0):w.e=0:=by
 induction l generalizing w with
 |nil=>exact h
 |cons n l ih=>exact(label_e0 (must_e0 (by decide) (ih h)).1).1
theorem Rel.label {s s':Stk} {n:Int} {l:List Int} (h:Rel [] [] s s') (e:labelS s n= .ok l):labelS s' n= .ok l:=by
 have hs:saneS s=true:=by
  unfold labelS at e
  cases hh:saneS s with
  |true=>rfl
  |false=>rw[hh] at e;cases e
 have hs':=h.sane (pre:=[]) (f:=[]) rfl rfl hs
 obtain⟨d,d',rest,g1,g2,_,_⟩:=h
 unfold labelS at e ⊢
 rw[hs] at e
 rw[hs']
 simp only[Bool.not_true,Bool.false_eq_true,if_false] at e ⊢
 rw[g1] at e
 rw[g2]
 simp only[List.nil_append,List.length_cons] at e ⊢
 split at e
 ·cases e
 ·rename_i hn
  rw[if_neg hn]
  generalize rest.length+1-1-n.toNat=k at e ⊢
  cases k with
  |zero=>simpa using e
  |succ k=>simpa using e
theorem RelW.label {w w':WkS} (h:RelW [] [] w w') (n:Int):RelW [] [] (w.label n).2 (w'.label n).2∧((w.label n).2.e=0→(w.label n).1=(w'.label n).1):=by
 have both:(w.label n).2.e=0→((w'.label n).2.e=0∧Rel [] [] (w.label n).2.s (w'.label n).2.s)∧(w.label n).1=(w'.label n).1:=fun h0=>by
  obtain⟨a,l,hl,e1⟩:=label_e0 h0
  obtain⟨b,hR⟩:=h a
  have e2:w'.label n=(l,w'):=by unfold WkS.label;rw[hR.label hl]
  rw[e1,e2]
  exact⟨⟨b,hR⟩,rfl⟩
 exact⟨fun h0=>(both h0).1,fun h0=>(both h0).2⟩
theorem RelW.labels {w w':WkS} {t t' l:List Int} (h:RelW [] [] w w') (ht:w.e=0→t=t'):RelW [] [] (labelsS w t l) (labelsS w' t' l):=by
 induction l generalizing w w' with
 |nil=>exact h
 |cons n l ih=>
  simp only[labelsS]
  obtain⟨h1,h2⟩:=h.label n
  refine ih (h1.must (fun h0 hb=> ?_) (by decide)) fun h0=>ht (label_e0 (must_e0 (by decide) h0).1).1
  rw[←h2 h0,←ht (label_e0 h0).1];exact hb
theorem RelW.branch {w w':WkS} (h:RelW [] [] w w') (i:TInstr):RelW [] [] (branchS env w i) (branchS env w' i):=by
 unfold branchS
 by_cases h15:i.op=15
 ·rw[if_pos h15,if_pos h15];exact(h.want rfl rfl fun _=>rfl).kill rfl rfl
 ·rw[if_neg h15,if_neg h15]
  simp only
  obtain⟨h1,h2⟩:=h.label i.a
  have h3:=h1.labels (l:=i.labels) h2
  have h4:RelW [] [] (if i.op=12 then labelsS (w.label i.a).2 (w.label i.a).1 i.labels else(labelsS (w.label i.a).2 (w.label i.a).1 i.labels).want [127])
   (if i.op=12 then labelsS (w'.label i.a).2 (w'.label i.a).1 i.labels else(labelsS (w'.label i.a).2 (w'.label i.a).1 i.labels).want [127])∧
   ((if i.op=12 then labelsS (w.label i.a).2 (w.label i.a).1 i.labels else(labelsS (w.label i.a).2 (w.label i.a).1 i.labels).want [127]).e=0→(w.label i.a).1=(w'.label i.a).1):=by
   by_cases h12:i.op=12
   ·rw[if_pos h12,if_pos h12];exact⟨h3,fun h0=>h2 (labels_e0 h0)⟩
   ·rw[if_neg h12,if_neg h12];exact⟨h3.want rfl rfl fun _=>rfl,fun h0=>h2 (labels_e0 (want_e0 h0))⟩
  obtain⟨h5,h6⟩:=h4
  generalize(if i.op=12 then labelsS (w.label i.a).2 (w.label i.a).1 i.labels else(labelsS (w.label i.a).2 (w.label i.a).1 i.labels).want [127])=x at*
  generalize(if i.op=12 then labelsS (w'.label i.a).2 (w'.label i.a).1 i.labels else(labelsS (w'.label i.a).2 (w'.label i.a).1 i.labels).want [127])=y at*
  by_cases h13:i.op=13
  ·rw[if_pos h13,if_pos h13];exact(h5.want rfl rfl h6).push rfl rfl fun h0=>h6 (want_e0 h0)
  ·rw[if_neg h13,if_neg h13];exact(h5.want rfl rfl h6).kill rfl rfl
end Go.Proofs.YtfpioigggjnffaaGreatDoor.E
set_option autoImplicit false
namespace Go.Proofs.YtfpioigggjnffaaGreatDoor.E
open Go.Ev
theorem labelS_in {s:Stk} {n:Int} {l:List Int} (h:labelS s n= .ok l):0≤n∧n<s.ctrls.length:=by
 unfold labelS at h
 split at h
 ·cases h
 ·split at h
  ·cases h
  ·omega
theorem labels_in {t:List Int}: ∀{l:List Int} {w:WkS},(labelsS w t l).e=0→∀x∈l,0≤x∧x<(w.s.ctrls.length:Int)
 |[],w,h,x,hx=>by cases hx
 |n::l,w,h,x,hx=>by
  rw[labelsS] at h
  obtain⟨h1,h2⟩:=must_e0 (by decide) (labels_e0 h)
  obtain⟨h3,q,h4,h5⟩:=label_e0 h1
  rcases List.mem_cons.1 hx with rfl|hx
  ·exact labelS_in h4
  ·have:=labels_in h x hx
   rw[h2,h5] at this
   exact this
theorem branch_in {env:TEnv} {w:WkS} {i:TInstr} (h:(branchS env w i).e=0) (h15: ¬i.op=15):(0≤i.a∧i.a<(w.s.ctrls.length:Int))∧∀x∈i.labels,0≤x∧x<(w.s.ctrls.length:Int):=by
 unfold branchS at h
 rw[if_neg h15] at h
 simp only at h
 have key:(labelsS (w.label i.a).2 (w.label i.a).1 i.labels).e=0:=by
  have k1: ∀{w:WkS},w.kill.e=0→w.e=0:=fun{w} x=>(put_e0 (fun _ y=>by have:=killS_err y;omega) x).1
  have k2: ∀{w:WkS} {l:List Int},(w.push l).e=0→w.e=0:=fun{w l} x=>(put_e0 (fun _ y=>by have:=pushS_err y;omega) x).1
  have h2:((if i.op=12 then labelsS (w.label i.a).2 (w.label i.a).1 i.labels else(labelsS (w.label i.a).2 (w.label i.a).1 i.labels).want [127]).want (w.label i.a).1).e=0:=by
   split at h
   ·exact k2 h
   ·exact k1 h
  have h3:=want_e0 h2
  split at h3
  ·exact h3
  ·exact want_e0 h3
 obtain⟨h3,q,h4,h5⟩:=label_e0 (labels_e0 key)
 have:=labels_in key
 rw[h5] at this
 exact⟨labelS_in h4,this⟩
end Go.Proofs.YtfpioigggjnffaaGreatDoor.E
set_option autoImplicit false
set_option maxRecDepth 100000
set_option maxHeartbeats 4000000
set_option pp.maxSteps 20000
namespace Go.Proofs.YtfpioigggjnffaaGreatDoor.E
open Go.Ev
def tyOf (t:TFuncType):List Int×List Int:=(t.params,t.results)
def glOf (g:Tavocetref10_Glob):Int×Bool:=(g.val_,g.mut_)
def envOf (e:Tavocetref10_Env):TEnv:=⟨e.types.map tyOf,e.funcs,e.tables,e.mems,e.globals.map glOf,e.locals,e.results⟩
def gl1:Tavocetref10_Glob:=⟨0,false⟩
def gvE:Nat→V
 |0=> .nilsl
 |k+1=> .row 2688 0 0 (k+1)
def ghE (gs:List D):Nat→Map Go.Ev.Obj
 |0=>[]
 |k+1=>[(2688, .row 2 (gs.take (k+1)) 0 false (decide (0<k)))]
def tySm (t:TFuncType):Bool:=decide ((t.params.length:Int)≤40)&&decide ((t.results.length:Int)≤40)
def smallE (e:Tavocetref10_Env):Bool:=decide ((e.types.length:Int)≤70)&&decide ((e.funcs.length:Int)≤130)&&decide ((e.globals.length:Int)≤70)&&decide ((e.locals.length:Int)≤100)&&decide ((e.results.length:Int)≤20)&&e.types.all tySm
def ft0:TFuncType:=⟨[],[]⟩
end Go.Proofs.YtfpioigggjnffaaGreatDoor.E
set_option autoImplicit false
namespace Go.Proofs.YtfpioigggjnffaaGreatDoor.E
open Go.Ev
theorem openAt_walk {l:List TInstr}: ∀{k:Nat} {st:List Nest},k≤l.length→walkSt l k=some st→openAt l 1 k=st.length+1
 |0,st,_,h=>by simp only[walkSt,walkG,Option.map_some,Option.some.injEq] at h;subst h;rfl
 |k+1,st,hk,h=>by
  obtain⟨st0,h0⟩:=walkSt_back h
  have ih:=openAt_walk (k:=k) (by omega) h0
  obtain⟨d,e,hs⟩:=walkSt_step h0 h
  have hl:l[k]? =some l[k]:=List.getElem?_eq_getElem (by omega)
  have ho:opAt l k=l[k].op:=by unfold opAt;rw[List.getD_eq_getElem?_getD,hl];rfl
  simp only[openAt,hl,ih]
  rw[←ho]
  unfold stepF at hs
  unfold opensN
  cases hb:opensB (opAt l k) with
  |true=>
   rw[hb] at hs
   simp only[if_true,Option.some.injEq,Prod.mk.injEq] at hs
   rw[←hs.1]
   have:opAt l k=2∨opAt l k=3∨opAt l k=4:=by
    have h2:2≤opAt l k∧opAt l k≤4:=by simpa[opensB] using hb
    omega
   rw[if_pos this];simp
  |false=>
   rw[hb] at hs
   have hn: ¬(opAt l k=2∨opAt l k=3∨opAt l k=4):=by intro x;rcases x with x|x|x<;> ·rw[x] at hb;cases hb
   rw[if_neg hn]
   simp only[Bool.false_eq_true,if_false] at hs
   by_cases h5:opAt l k≠5∧opAt l k≠11
   ·rw[if_pos h5] at hs
    simp only[Option.some.injEq,Prod.mk.injEq] at hs
    rw[←hs.1,if_neg h5.2]
   ·rw[if_neg h5] at hs
    cases st0 with
    |nil=>cases hs
    |cons t r=>
     simp only at hs
     by_cases h11:opAt l k=11
     ·rw[if_pos h11] at hs
      simp only[Option.some.injEq,Prod.mk.injEq] at hs
      rw[←hs.1,if_pos h11];simp
     ·rw[if_neg h11] at hs
      rw[if_neg h11]
      split at hs
      ·simp only[Option.some.injEq,Prod.mk.injEq] at hs
       rw[←hs.1];simp
      ·cases hs
end Go.Proofs.YtfpioigggjnffaaGreatDoor.E
set_option autoImplicit false
set_option maxRecDepth 100000
namespace Go.Proofs.YtfpioigggjnffaaGreatDoor.E
open Go.Ev
theorem tabOk:TabOk saneF accE shapeF where
 op:=fun i h=>by
  obtain⟨_,_,_,hk⟩:=sane_parts h
  obtain⟨s,hs,h1,h2,h3⟩:=kind_span rfl hk
  simp only[spanL,List.mem_cons,List.not_mem_nil,or_false] at hs
  rcases hs with rfl|rfl|rfl|rfl|rfl|rfl|rfl|rfl|rfl|rfl|rfl|rfl|rfl|rfl|rfl|rfl|rfl|rfl|rfl|rfl|rfl<;>(simp only at h1;omega)
 acc:=fun i h h1 h2=>by
  obtain⟨_,_,_,hk⟩:=sane_parts h
  obtain⟨s,hs,g1,g2,g3⟩:=kind_span rfl hk
  have key: ∀k:Nat,k<23→k≠2→k≠3→k≠16→k≠17→(accT.getD k (0,0,false,false)).1≠0:=fun k hk n2 n3 n16 n17=>by
   have:=(by decide: ∀k:Fin 23,k.1≠2→k.1≠3→k.1≠16→k.1≠17→(accT.getD k.1 (0,0,false,false)).1≠0) ⟨k,hk⟩
   exact this n2 n3 n16 n17
  by_cases h63:i.op=63
  ·exact .inr (.inl h63)
  by_cases h64:i.op=64
  ·exact .inr (.inr h64)
  left
  have hr:40≤i.op∧i.op≤62∧i.op≠42∧i.op≠43∧i.op≠56∧i.op≠57:=by
   simp only[spanL,List.mem_cons,List.not_mem_nil,or_false] at hs
   rcases hs with rfl|rfl|rfl|rfl|rfl|rfl|rfl|rfl|rfl|rfl|rfl|rfl|rfl|rfl|rfl|rfl|rfl|rfl|rfl|rfl|rfl<;>(simp only at g1 g2;omega)
  unfold accE accF
  rw[if_pos (by omega)]
  exact key _ (by omega) (by omega) (by omega) (by omega) (by omega)
 shape:=fun o p r h=>by
  unfold shapeF at h
  repeat' (first|split at h|(cases h;decide)|cases h)
theorem valB_all {l:List Int} (h:l.all valB=true):NZ l:=fun x hx=>valB_nz (List.all_eq_true.1 h x hx)
theorem envOk_of {e:TEnv} (h:envSane e=true):EnvOk e∧finB e.results=true:=by
 unfold envSane at h
 simp only[Bool.and_eq_true,decide_eq_true_eq,List.all_append] at h
 obtain⟨⟨h1,⟨h2,h3⟩,h4⟩,h5⟩:=h
 refine⟨⟨fun t ht=> ?_,fun g hg=> ?_,valB_all h2⟩, ?_⟩
 ·have:=List.all_eq_true.1 h1 t ht
  unfold typeSane at this
  simp only[Bool.and_eq_true] at this
  exact valB_all this.2
 ·have:=List.all_eq_true.1 h4 g.1 (List.mem_map.2 ⟨g,hg,rfl⟩)
  exact valB_nz this
 ·match hr:e.results,h3,h5 with
  |[],_,_=>rfl
  |[c],h3,_=>simpa[finB] using h3
  |a::b::r,_,h5=>simp at h5;omega
theorem eok_of {fu:Nat} {e:Tavocetref10_Env} (h:smallE e=true) (hf:1000<fu):EOk fu (envOf e):=by
 unfold smallE at h
 simp only[Bool.and_eq_true,decide_eq_true_eq] at h
 obtain⟨⟨⟨⟨⟨h1,h2⟩,h3⟩,h4⟩,h5⟩,h6⟩:=h
 refine⟨by simp[envOf];omega,fun t ht=> ?_,by simp[envOf];omega,by simp[envOf];omega,by simp[envOf];omega,by simp[envOf];omega,by omega⟩
 simp only[envOf,List.mem_map] at ht
 obtain⟨t0,ht0,rfl⟩:=ht
 have:=List.all_eq_true.1 h6 t0 ht0
 unfold tySm at this
 simp only[Bool.and_eq_true,decide_eq_true_eq] at this
 simp only[tyOf];omega
theorem body_fits {e:TEnv} {l:List TInstr} (h:bodyF e l=0): ∃p r,pathF e l= .ok p∧closeS (p.getLastD stk0)= .ok r:=by
 unfold bodyF at h
 cases hp:pathF e l with
 |error f=>rw[hp] at h;exact absurd h (pathF_ne hp)
 |ok p=>
  rw[hp] at h
  simp only at h
  cases hc:closeS (p.getLastD stk0) with
  |ok r=>exact⟨p,r,rfl,hc⟩
  |error f=>rw[hc] at h;cases h
end Go.Proofs.YtfpioigggjnffaaGreatDoor.E
set_option autoImplicit false
namespace Go.Proofs.YtfpioigggjnffaaGreatDoor.E
open Go.Ev
theorem risesB_all {h k:Int}: ∀{a:List Ctl} {h:Int},risesB h a=some k→∀c∈a,h≤c.ht∧c.ht≤k∧finB c.fin=true
 |[],h,e,c,hc=>by cases hc
 |d::a,h,e,c,hc=>by
  rw[risesB] at e
  split at e
  ·rename_i g
   simp only[Bool.and_eq_true,decide_eq_true_eq] at g
   have hge:=risesB_ge e
   rcases List.mem_cons.1 hc with rfl|hc
   ·exact⟨g.2,hge,g.1⟩
   ·have:=risesB_all (h:=0) e c hc
    exact⟨by omega,this.2⟩
  ·cases e
theorem zfin_len {l:List Int} (h:finB l=true):l.length≤1:=by
 match l,h with
 |[],_=>simp
 |[_],_=>simp
theorem sane_ctrls {s:Stk} (h:saneS s=true): ∀c∈s.ctrls,0≤c.ht∧c.ht≤s.vals.length∧c.fin.length≤1:=by
 obtain⟨k,h1,h2,_⟩:=(saneS_iff s).1 h
 intro c hc
 obtain⟨a,b,d⟩:=risesB_all (h:=0) h1 c hc
 exact⟨a,by omega,zfin_len d⟩
theorem path_side {e:TEnv} (he:EnvOk e) (hf:finB e.results=true) (hs:ESm e) {l:List TInstr} {P:List Stk} (h:pathS saneF accE shapeF e (start e) l= .ok P):
 (∀s∈P,0<s.ctrls.length∧s.ctrls.length≤1+65*l.length∧s.vals.length≤1+65*l.length∧∀c∈s.ctrls,0≤c.ht∧c.ht≤s.vals.length∧c.fin.length≤1)∧
 ∀k,k<l.length→((l.getD k in0).op=12∨(l.getD k in0).op=13∨(l.getD k in0).op=14)→(0≤(l.getD k in0).a∧(l.getD k in0).a<(P.getD k stk0).ctrls.length)∧∀x∈(l.getD k in0).labels,0≤x∧x<(P.getD k stk0).ctrls.length:=by
 constructor
 ·intro s hm
  obtain⟨k,hk,rfl⟩:=List.getElem_of_mem hm
  have I:=path_inv tabOk he (start_inv hf) h k _ (List.getElem?_eq_getElem hk)
  have R:=path_rm hs (start_rm e) h _ (List.getElem_mem hk)
  obtain⟨d,rest,hb⟩:=I.base
  exact⟨by rw[hb];simp,R.2,R.1,sane_ctrls I.sane⟩
 ·intro k hk ho
  obtain⟨_,pk⟩:=pathS_at h
  obtain⟨a,b,ha,hb,hst⟩:=pk k l[k] (List.getElem?_eq_getElem hk)
  obtain⟨_,_,h3,_⟩:=stepS_parts hst
  have e1:l.getD k in0=l[k]:=by rw[List.getD_eq_getElem?_getD,List.getElem?_eq_getElem hk];rfl
  have e2:P.getD k stk0=a:=by rw[List.getD_eq_getElem?_getD,ha];rfl
  rw[e1] at ho
  rw[e1,e2]
  have hg:goS accE shapeF e a l[k]=branchS e ⟨a,0⟩ l[k]:=by
   unfold goS
   simp only
   rw[if_neg (by omega),if_neg (by omega),if_neg (by omega),if_pos (by omega)]
  rw[hg] at h3
  exact branch_in h3 (by omega)
end Go.Proofs.YtfpioigggjnffaaGreatDoor.E
set_option autoImplicit false
namespace Go.Proofs.YtfpioigggjnffaaGreatDoor.E
open Go.Ev
theorem innerC_all {Q:Ctl→Prop} {s:Stk} (h: ∀c∈s.ctrls,Q c) (h0:Q ctl0) (n:Nat):Q (innerC s n):=by
 unfold innerC
 rw[List.getD_eq_getElem?_getD]
 cases hx:s.ctrls[s.ctrls.length-1-n]? with
 |none=>exact h0
 |some c=>exact h c (List.mem_of_getElem? hx)
def Lands (S:List Int) (j:Jmp):Prop:=(∃i,i<S.length∧j.at_=at0 S i)∧(∃i,i<S.length∧j.to=at0 S i)∧0≤j.ht∧0≤j.ar∧j.ar≤1
def GoodC (c:Ctl):Prop:=0≤c.ht∧c.fin.length≤1
theorem branchJ_lands {l:List TInstr} (hw:walkOk l=true) {S:List Int} (hS:S.length=l.length+1) {P:List Stk} {k:Nat} (hk:k<l.length) (hP: ∀n,GoodC (innerC (P.getD k stk0) n)) (lab:Int):Lands S (branchJ l S P k lab):=by
 obtain⟨r1,r2⟩:=target_range hw k lab
 obtain⟨c1,c2⟩:=hP lab.toNat
 unfold branchJ
 simp only
 split
 ·exact⟨⟨k,by omega,rfl⟩,⟨_,by omega,rfl⟩,c1,by simp only;omega,by simp only;omega⟩
 ·split
  ·exact⟨⟨k,by omega,rfl⟩,⟨_,by omega,rfl⟩,c1,by simp only;omega,by simp only;omega⟩
  ·exact⟨⟨k,by omega,rfl⟩,⟨_,by omega,rfl⟩,c1,by simp only;omega,by simp only;omega⟩
theorem stepJ_lands {l:List TInstr} (hw:walkOk l=true) {S:List Int} (hS:S.length=l.length+1) {P:List Stk} {k:Nat} (hk:k<l.length) (hP: ∀k n,GoodC (innerC (P.getD k stk0) n)): ∀j∈stepJ l S P k,Lands S j:=by
 intro j hj
 unfold stepJ at hj
 simp only at hj
 by_cases h4:(l.getD k in0).op=4
 ·obtain⟨e,o,he,h1,h2,h3⟩:=match_open hw hk (show opensB (opAt l k)=true by show opensB (l.getD k in0).op=true;rw[h4];rfl)
  have ht:(elseTo (o,(e:Int))).toNat<l.length:=by
   unfold elseTo
   rcases h3 with rfl|⟨q,rfl,q1,q2⟩
   ·simp only;rw[if_pos (by decide)];omega
   ·simp only;rw[if_neg (by omega)];omega
  rw[if_pos h4,he] at hj
  simp only[List.mem_singleton] at hj
  subst hj
  exact⟨⟨k,by omega,rfl⟩,⟨_,by omega,rfl⟩,(hP (k+1) 0).1,by simp only;omega,by simp only;omega⟩
 ·rw[if_neg h4] at hj
  by_cases h5:(l.getD k in0).op=5
  ·obtain⟨e,he,h2,h1⟩:=match_els hw hk h5
   rw[if_pos h5,he] at hj
   simp only[List.mem_singleton] at hj
   subst hj
   have:=(hP k 0).1
   exact⟨⟨k,by omega,rfl⟩,⟨_,by omega,rfl⟩,by simp only;omega,by simp only;omega,by simp only;omega⟩
  ·rw[if_neg h5] at hj
   split at hj
   ·simp only[List.mem_singleton] at hj
    subst hj
    exact branchJ_lands hw hS hk (hP k) _
   ·split at hj
    ·rcases List.mem_append.1 hj with h|h
     ·obtain⟨x,_,rfl⟩:=List.mem_map.1 h
      exact branchJ_lands hw hS hk (hP k) _
     ·simp only[List.mem_singleton] at h
      subst h
      exact branchJ_lands hw hS hk (hP k) _
    ·cases hj
theorem jumpsTo_lands {l:List TInstr} (hw:walkOk l=true) {S:List Int} (hS:S.length=l.length+1) {P:List Stk} (hP: ∀k n,GoodC (innerC (P.getD k stk0) n)): ∀k,k≤l.length→∀j∈jumpsTo l S P k,Lands S j
 |0,_,j,hj=>by cases hj
 |k+1,h,j,hj=>by
  rw[jumpsTo] at hj
  rcases List.mem_append.1 hj with hj|hj
  ·exact jumpsTo_lands hw hS hP k (by omega) j hj
  ·exact stepJ_lands hw hS (by omega) hP j hj
theorem loops_in {l:List TInstr} {S:List Int}: ∀{n:Nat} {v:Int},v∈loopsTo l S n↔∃i,i<n∧(l.getD i in0).op=3∧v=at0 S i
 |0,v=>by
  constructor
  ·intro h;cases h
  ·rintro⟨i,h,_⟩;omega
 |n+1,v=>by
  rw[loopsTo,List.mem_append,loops_in (n:=n)]
  constructor
  ·rintro(⟨i,a,b,c⟩|h)
   ·exact⟨i,by omega,b,c⟩
   ·unfold stepL at h
    split at h
    ·rename_i h3
     exact⟨n,by omega,h3,by simpa using h⟩
    ·cases h
  ·rintro⟨i,a,b,c⟩
   by_cases e:i=n
   ·subst e
    right
    unfold stepL
    rw[if_pos b,c]
    simp
   ·exact .inl ⟨i,by omega,b,c⟩
theorem loops_iff {l:List TInstr} {S:List Int} (hS: ∀i j,i<j→j≤l.length→at0 S i<at0 S j) {k:Nat} (hk:k<l.length):at0 S k∈loopsTo l S l.length↔(l.getD k in0).op=3:=by
 rw[loops_in]
 constructor
 ·rintro⟨i,a,b,c⟩
  have:i=k:=by
   rcases Nat.lt_trichotomy i k with h|h|h
   ·have:=hS i k h (by omega);omega
   ·exact h
   ·have:=hS k i h (by omega);omega
  subst this
  exact b
 ·intro h
  exact⟨k,hk,h,rfl⟩
end Go.Proofs.YtfpioigggjnffaaGreatDoor.E
set_option autoImplicit false
set_option maxRecDepth 100000
set_option maxHeartbeats 4000000
namespace Go.Proofs.YtfpioigggjnffaaGreatDoor.E
open Go.Ev
theorem brd_len {b:List Int}: ∀(f x:Nat) (out:List TInstr) (st:List Nest) {l:List TInstr} {z:Nat},brd b f x out st= .ok (l,z)→l.length+1≤out.length+f:=by
 intro f
 induction f with
 |zero=>intro x out st l z h;cases h
 |succ f ih=>
  intro x out st l z h
  rw[brd] at h
  split at h
  ·cases h
  ·split at h
   ·cases h;omega
   ·split at h
    ·cases h
    ·split at h
     ·cases h
     ·have:=ih _ _ _ h
      simp only[List.length_append,List.length_cons,List.length_nil] at this
      omega
theorem chain_san {b:List Int} (hb:Bs b): ∀{l:List TInstr} {x y:Nat},chain b x l y→∀i∈l,San i∧Cok i
 |[],x,y,h,i,hi=>by cases hi
 |j::l,x,y,⟨c,h1,h2⟩,i,hi=>by
  rcases List.mem_cons.1 hi with rfl|hi
  ·have hd:Bs (b.drop x):=fun z hz=>hb z (List.mem_of_mem_drop hz)
   obtain⟨q1,q2,_⟩:=dec_ok hd h1
   exact⟨q1,q2⟩
  ·exact chain_san hb h2 i hi
theorem san_labels {i:TInstr} (h:San i):i.labels.length≤64:=by
 obtain⟨_,h2,h3,_⟩:=sane_parts ((saneF_iff i).2 h)
 by_cases hk:kindF i.op=4
 ·exact(h3 hk).1
 ·rw[h2 hk];simp
structure Tab where
 S:List Int
 J:List Jmp
 L:List Int
 H:List Int
def Tab.dd (t:Tab):D:= .agg [.list (intd t.S), .list (jds t.J), .list (intd t.L), .list (intd t.H)]
def tabE:Tab:=⟨[],[],[],[]⟩
def hts (P:List Stk):List Int:=P.map (fun s=>(s.vals.length:Int))
def tabF (b:List Int) (x:Nat) (l:List TInstr) (P:List Stk):Tab:=⟨stF b x l,jumpsTo l (stF b x l) P l.length,loopsTo l (stF b x l) l.length,hts P⟩
def makeF (e:TEnv) (b:List Int) (x:Nat):Except Int (Tab×Nat):=match brd b 4097 x [] [] with
 | .error f=> .error f
 | .ok (l,z)=>if bodyF e l=0 then match pathF e l with
     | .ok P=> .ok (tabF b x l P,z)
     | .error f=> .error f
   else .error (bodyF e l)
def makeR:Except Int (Tab×Nat)→Option Res
 | .error f=>some (.tup [.d tabE.dd, .d (.int .i64 0), .d (.int .i64 f)],[])
 | .ok (t,z)=>some (.tup [.d t.dd, .d (.int .i64 z), .d (.int .i64 0)],[])
structure BodyOk (e:TEnv) (b:List Int) (x:Nat) (l:List TInstr) (z:Nat) (P:List Stk):Prop where
 read:brd b 4097 x [] []= .ok (l,z)
 path:pathF e l= .ok P
 chain: ∃y c i,chain b x l y∧dec (b.drop y)= .ok (i,c)∧i.op=11∧z=y+c
 len:l.length≤4096
 san: ∀i∈l,San i∧Cok i
 walk:walkOk l=true
 pl:P.length=l.length+1
 c: ∀s∈P,0<s.ctrls.length∧s.ctrls.length≤1+65*l.length∧s.vals.length≤1+65*l.length∧∀c∈s.ctrls,0≤c.ht∧c.ht≤s.vals.length∧c.fin.length≤1
 b: ∀k,k<l.length→((l.getD k in0).op=12∨(l.getD k in0).op=13∨(l.getD k in0).op=14)→(0≤(l.getD k in0).a∧(l.getD k in0).a<(P.getD k stk0).ctrls.length)∧∀x∈(l.getD k in0).labels,0≤x∧x<(P.getD k stk0).ctrls.length
 o: ∀k,k<l.length→∀st,walkSt l k=some st→(P.getD k stk0).ctrls.length=st.length+1
theorem bodyOk_of {e:TEnv} (hs:ESm e) {b:List Int} (hb:Bs b) {x:Nat} {l:List TInstr} {z:Nat} (h:brd b 4097 x [] []= .ok (l,z)) (hf:bodyF e l=0): ∃P,BodyOk e b x l z P:=by
 obtain⟨P,r,hp,hc⟩:=body_fits hf
 obtain⟨hw,hes,hps⟩:=pathF_ok hp
 obtain⟨he,hfin⟩:=envOk_of hes
 obtain⟨l',y,c,i,h1,h2,h3,h4,h5⟩:=brd_chain _ _ _ _ h
 simp only[List.nil_append] at h1
 subst h1
 have hl:=brd_len _ _ _ _ h
 obtain⟨s1,s2⟩:=path_side he hfin hs hps
 refine⟨P,h,hp,⟨y,c,i,h2,h3,h4,h5⟩,by simp at hl;omega,chain_san hb h2,hw,pathS_len hps,s1,s2,fun k hk st hst=> ?_⟩
 have hlt:k<P.length:=by rw[pathS_len hps];omega
 have:=path_open tabOk he (start_inv hfin) hps k _ (List.getElem?_eq_getElem hlt)
 rw[List.getD_eq_getElem?_getD,List.getElem?_eq_getElem hlt]
 simp only[Option.getD_some]
 rw[this]
 exact openAt_walk (by omega) hst
theorem BodyOk.mks {e:TEnv} {b:List Int} {x:Nat} {l:List TInstr} {z:Nat} {P:List Stk} (h:BodyOk e b x l z P) {fu:Nat} (hf:5000<fu):MkOk fu ⟨stF b x l,l,matchesF l,P⟩∧Sd fu ⟨stF b x l,l,matchesF l,P⟩:=by
 have hl:=h.len
 refine⟨⟨h.walk,stF_len b l x,h.pl,rfl,⟨by show l.length<fu;omega,by show l.length<100000;omega⟩,fun s hs=> ?_,by omega⟩,⟨fun s hs=> ?_,h.b,fun i hi=>san_labels (h.san i hi).1,by omega⟩⟩
 ·have:=(h.c s hs).2.1;omega
 ·obtain⟨a,b,c,d⟩:=h.c s hs
  exact⟨a,fun c hc=>by have:=d c hc;omega⟩
theorem jumpsTo_le {l:List TInstr} {S:List Int} {P:List Stk} (h: ∀i∈l,i.labels.length≤64): ∀k,k≤l.length→(jumpsTo l S P k).length≤65*k
 |0,_=>by simp[jumpsTo]
 |k+1,hk=>by
  have ih:=jumpsTo_le (S:=S) (P:=P) h k (by omega)
  have hm:l.getD k in0∈l:=by
   rw[List.getD_eq_getElem?_getD,List.getElem?_eq_getElem (by omega)];exact List.getElem_mem (by omega)
  have:=stepJ_le (l:=l) (S:=S) (P:=P) (k:=k) (h _ hm)
  rw[jumpsTo,List.length_append]
  omega
theorem loopsTo_le {l:List TInstr} {S:List Int}: ∀k,(loopsTo l S k).length≤k
 |0=>by simp[loopsTo]
 |k+1=>by
  have ih:=loopsTo_le (l:=l) (S:=S) k
  rw[loopsTo,List.length_append]
  unfold stepL
  split<;>simp<;>omega
end Go.Proofs.YtfpioigggjnffaaGreatDoor.E
