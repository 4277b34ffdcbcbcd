/- C7, C9, C10. -/
import Derived.Test.YtfpioigggjnffaaGreatDoorC6
set_option linter.unnecessarySimpa false
set_option linter.unusedSimpArgs false
set_option linter.unusedVariables false
set_option autoImplicit false
namespace Go.Proofs.YtfpioigggjnffaaGreatDoor.E
open Go.Ev
def EnvOk (env:TEnv):Prop:=(∀t∈env.types,NZ t.2)∧(∀g∈env.globals,g.1≠0)∧NZ env.locs
variable {sane:TInstr→Bool} {acc:Int→Int×Int×Bool} {shape:Int→Option (List Int×Int)} {env:TEnv}
theorem WL.branch {w:WkS} (h:WL w) (i:TInstr):WL (branchS env w i):=by
 unfold branchS
 by_cases h15:i.op=15
 ·rw[if_pos h15];exact(h.want _).kill
 ·rw[if_neg h15]
  have h1:=(h.label i.a).labels (w.label i.a).1 i.labels
  have h2:WL (if i.op=12 then labelsS (w.label i.a).2 (w.label i.a).1 i.labels else(labelsS (w.label i.a).2 (w.label i.a).1 i.labels).want [127]):=by
   split
   ·exact h1
   ·exact h1.want _
  simp only
  by_cases h13:i.op=13
  ·rw[if_pos h13];exact(h2.want _).push (label_nz w i.a)
  ·rw[if_neg h13];exact(h2.want _).kill
theorem typeS_mem {f:Int} {t:List Int×List Int} (e:typeS env f=some t):t∈env.types:=by
 unfold typeS at e
 split at e
 ·cases e
 ·split at e
  ·cases e
  ·split at e
   ·cases e
   ·exact List.mem_of_getElem? e
theorem WL.call {w:WkS} (h:WL w) (he:EnvOk env) (i:TInstr):WL (callS env w i):=by
 unfold callS
 simp only
 have ht:NZ (((if i.op=17 then(if 0<env.tables then env.types[i.a.toNat]? else none) else typeS env i.a).getD ([],[])).2):=by
  split
  ·split
   ·cases hh:env.types[i.a.toNat]? with
    |some t=>exact he.1 t (List.mem_of_getElem? hh)
    |none=>exact NZ.nil
   ·exact NZ.nil
  ·cases hh:typeS env i.a with
   |some t=>exact he.1 t (typeS_mem hh)
   |none=>exact NZ.nil
 refine WL.push (WL.want ?_ _) ht
 by_cases h17:i.op=17
 ·rw[if_pos h17];exact(h.must _ _).want _
 ·rw[if_neg h17];exact h.must _ _
theorem put_e0 {w:WkS} {r:Except Int Stk} (he: ∀e,r= .error e→e≠0) (h:(w.put r).e=0):w.e=0∧∃s,r= .ok s∧(w.put r).s=s:=by
 unfold WkS.put at h ⊢
 by_cases h0:w.e≠0
 ·rw[if_pos h0] at h;exact absurd h h0
 ·rw[if_neg h0] at h ⊢
  cases r with
  |ok s=>exact⟨by simpa using h0,s,rfl,rfl⟩
  |error e=>exact absurd h (he e rfl)
theorem pop_nz {w:WkS} (h:WL w) (h0:w.pop.2.e=0):w.e=0∧w.pop.2.s.ctrls=w.s.ctrls∧∀c,w.s.ctrls.getLast? =some c→c.dead=false→w.pop.1≠0:=by
 unfold WkS.pop at h0 ⊢
 cases hp:popS w.s with
 |ok r=>
  obtain⟨t,s'⟩:=r
  rw[hp] at h0
  simp only at h0 ⊢
  obtain⟨a,s,e1,e2⟩:=put_e0 (fun _ x=>by cases x) h0
  cases e1
  refine⟨a,by rw[e2];exact(popS_ok hp).2.1,fun c hc hd=>popS_nz (h a).2 hp hc hd⟩
 |error e=>
  rw[hp] at h0
  simp only at h0
  obtain⟨_,s,e1,_⟩:=put_e0 (fun e' x=>by cases x;have:=popS_err hp;omega) h0
  cases e1
theorem must_e0 {w:WkS} {b:Bool} {e:Int} (he:e≠0) (h:(w.must b e).e=0):w.e=0∧(w.must b e)=w:=by
 unfold WkS.must at h ⊢
 split at h
 ·exact absurd h he
 ·rename_i hn;rw[if_neg hn];exact⟨h,rfl⟩
theorem WL.chosen {w:WkS} (h:WL w) (i:TInstr):WL (chosenS w i):=by
 unfold chosenS
 by_cases h26:i.op=26
 ·rw[if_pos h26];exact h.pop
 ·rw[if_neg h26]
  simp only
  have h1:=h.want [127]
  refine WL.pushIf ((h1.pop.pop).must _ _) fun h0 c hc hd=> ?_
  obtain⟨h2,h3⟩:=must_e0 (by decide) h0
  rw[h3] at hc
  obtain⟨h4,h5,h6⟩:=pop_nz h1.pop h2
  obtain⟨h7,h8,h9⟩:=pop_nz h1 h4
  rw[h5] at hc
  have hb:=h6 c hc hd
  rw[h8] at hc
  have ha:=h9 c hc hd
  split
  ·exact NZ.one hb
  ·exact NZ.one ha
theorem WL.nested {w:WkS} (h:WL w) (i:TInstr):WL (nestedS w i):=by
 unfold nestedS
 by_cases h4:i.op=4
 ·rw[if_pos h4];exact(h.want _).opens _ _
 ·rw[if_neg h4]
  by_cases h5:i.op=5
  ·rw[if_pos h5];exact(h.must _ _).closed.opens _ _
  ·rw[if_neg h5]
   by_cases h11:i.op=11
   ·rw[if_pos h11];exact((h.must _ _).closed.must _ _).push (closed_nz _)
   ·rw[if_neg h11];exact h.opens _ _
theorem WL.pushE {w:WkS} (h:WL w) {l:List Int} (hl:w.e=0→NZ l):WL (w.push l):=h.pushIf fun h0 _ _ _=>hl h0
theorem want_e0 {w:WkS} {l:List Int} (h:(w.want l).e=0):w.e=0:=(put_e0 (fun _ x=>by have:=wantS_err x;omega) h).1
theorem WL.vars {w:WkS} (h:WL w) (he:EnvOk env) (i:TInstr):WL (variableS env w i):=by
 unfold variableS
 simp only
 have key: ∀r:Int×WkS,WL r.2→(r.2.e=0→r.1≠0)→WL (if i.op=32∨i.op=34∨i.op=35 then(if i.op≠32∧i.op≠35 then r.2.want [r.1] else r.2).push [r.1] else(if i.op≠32∧i.op≠35 then r.2.want [r.1] else r.2)):=fun r hr hz=>by
  have h1:WL (if i.op≠32∧i.op≠35 then r.2.want [r.1] else r.2):=by
   split
   ·exact hr.want _
   ·exact hr
  have h2:(if i.op≠32∧i.op≠35 then r.2.want [r.1] else r.2).e=0→r.2.e=0:=by
   split
   ·exact want_e0
   ·exact id
  split
  ·exact h1.pushE fun h0=>NZ.one (hz (h2 h0))
  ·exact h1
 have bad: ∀x:WkS,(x.must false 6).e=0→(0:Int)≠0:=fun x hx=>by
  unfold WkS.must at hx
  split at hx
  ·exact absurd hx (show(6:Int)≠0 by decide)
  ·rename_i hn;simp only[Bool.not_false,Bool.true_and,beq_iff_eq] at hn;exact absurd hx hn
 refine(fun(r:Int×WkS) (x:WL r.2∧(r.2.e=0→r.1≠0))=>key r x.1 x.2) _ ?_
 split
 ·cases hh:env.locs[i.a.toNat]? with
  |some t=>exact⟨h,fun _=>he.2.2 t (List.mem_of_getElem? hh)⟩
  |none=>exact⟨h.must _ _,bad w⟩
 ·cases hh:env.globals[i.a.toNat]? with
  |some g=>exact⟨h.must _ _,fun _=>he.2.1 g (List.mem_of_getElem? hh)⟩
  |none=>exact⟨h.must _ _,bad w⟩
theorem WL.mem {w:WkS} (h:WL w) (i:TInstr) (ha:(acc i.op).1≠0∨i.op=63∨i.op=64):WL (memoryS acc env w i):=by
 unfold memoryS
 simp only
 by_cases h63:i.op=63
 ·rw[if_pos h63];exact(h.must _ _).push (NZ.one (by decide))
 ·rw[if_neg h63]
  by_cases h64:i.op=64
  ·rw[if_pos h64];exact((h.must _ _).want _).push (NZ.one (by decide))
  ·rw[if_neg h64]
   split
   ·exact((h.must _ _).must _ _).want _
   ·exact(((h.must _ _).must _ _).want _).push (NZ.one (by omega))
theorem goS_live {s:Stk} {i:TInstr} (hs:saneS s=true) (hl:LiveOk s) (he:EnvOk env) (ha:36<i.op→i.op≤64→(acc i.op).1≠0∨i.op=63∨i.op=64) (hsh: ∀p r,shape i.op=some (p,r)→r≠0):
 WL (goS acc shape env s i):=by
 have h:WL ⟨s,0⟩:=fun _=>⟨hs,hl⟩
 unfold goS
 simp only
 split
 ·exact h.kill
 ·split
  ·exact h
  ·split
   ·exact h.nested i
   ·split
    ·exact h.branch i
    ·split
     ·exact h.call he i
     ·split
      ·exact h.chosen i
      ·split
       ·exact h.vars he i
       ·split
        ·exact h.mem i (ha (by omega) (by omega))
        ·split
         ·exact h.push (NZ.one (by decide))
         ·split
          ·exact h.push (NZ.one (by decide))
          ·cases hh:shape i.op with
           |none=>exact h
           |some r=>exact(h.want _).push (NZ.one (hsh r.1 r.2 hh))
end Go.Proofs.YtfpioigggjnffaaGreatDoor.E
set_option autoImplicit false
namespace Go.Proofs.YtfpioigggjnffaaGreatDoor.E
open Go.Ev
variable {sane:TInstr→Bool} {acc:Int→Int×Int×Bool} {shape:Int→Option (List Int×Int)} {env:TEnv}
def BaseOk (res:List Int) (s:Stk):Prop:=∃(d:Bool) (rest:List Ctl),s.ctrls=⟨2,res,0,d⟩::rest
variable {res:List Int}
def WB (res:List Int) (w:WkS):Prop:=w.e=0→BaseOk res w.s
theorem WB.put {w:WkS} {r:Except Int Stk} (hr: ∀s,r= .ok s→w.e=0→BaseOk res s) (he: ∀e,r= .error e→e≠0):WB res (w.put r):=by
 intro h
 obtain⟨h0,s,e1,e2⟩:=put_e0 he h
 rw[e2];exact hr s e1 h0
theorem BaseOk.same {s s':Stk} (h:BaseOk res s) (hc:s'.ctrls=s.ctrls):BaseOk res s':=by
 obtain⟨d,rest,e⟩:=h;exact⟨d,rest,hc.trans e⟩
theorem WB.want {w:WkS} (h:WB res w) (l:List Int):WB res (w.want l):=
 WB.put (fun _ e h0=>(h h0).same (wantS_ok e).2.1) (fun _ x=>by have:=wantS_err x;omega)
theorem WB.push {w:WkS} (h:WB res w) (l:List Int):WB res (w.push l):=
 WB.put (fun _ e h0=>(h h0).same (pushS_ok e).2.1) (fun _ x=>by have:=pushS_err x;omega)
theorem WB.kill {w:WkS} (h:WB res w):WB res w.kill:=
 WB.put (fun s' e h0=>by
  obtain⟨d,rest,hb⟩:=h h0
  obtain⟨_,_,_,c,hlast,hc,_⟩:=killS_ok e
  rw[hb] at hlast hc
  cases rest with
  |nil=>
   have hdc:(⟨2,res,0,d⟩:Ctl)=c:=by simpa using hlast
   subst hdc
   exact⟨true,[],hc⟩
  |cons a rest=>
   exact⟨d,(a::rest).dropLast++[{c with dead:=true}],by rw[hc];rfl⟩) (fun _ x=>by have:=killS_err x;omega)
theorem WB.opens {w:WkS} (h:WB res w) (op:Int) (l:List Int):WB res (w.opens op l):=
 WB.put (fun s' e h0=>by
  obtain⟨d,rest,hb⟩:=h h0
  exact⟨d,rest++[⟨op,l,w.s.vals.length,false⟩],by rw[(openS_ok e).2.1,hb];rfl⟩) (fun _ x=>by have:=openS_err x;omega)
theorem WB.pop {w:WkS} (h:WB res w):WB res w.pop.2:=by
 unfold WkS.pop
 cases hp:popS w.s with
 |ok r=>obtain⟨t,s'⟩:=r;exact WB.put (fun s e h0=>by cases e;exact(h h0).same (popS_ok hp).2.1) (fun _ x=>by cases x)
 |error e=>exact WB.put (fun s x=>by cases x) (fun e' x=>by cases x;have:=popS_err hp;omega)
theorem WB.closed {w:WkS} (h:WB res w) (h1:w.e=0→1<w.s.ctrls.length):WB res w.closed.2:=by
 unfold WkS.closed
 cases hp:closeS w.s with
 |ok r=>
  obtain⟨t,s'⟩:=r
  refine WB.put (fun s e h0=> ?_) (fun _ x=>by cases x)
  cases e
  obtain⟨d,rest,hb⟩:=h h0
  have hl:=h1 h0
  have hc:=(closeS_ok hp).2.2.1
  rw[hb] at hc hl
  cases rest with
  |nil=>simp at hl
  |cons a rest=>exact⟨d,(a::rest).dropLast,hc⟩
 |error e=>exact WB.put (fun s x=>by cases x) (fun e' x=>by cases x;have:=closeS_err hp;omega)
theorem WB.must {w:WkS} (h:WB res w) (b:Bool) (e:Int):WB res (w.must b e):=by
 unfold WkS.must
 split
 ·rename_i hh
  simp only[Bool.and_eq_true,beq_iff_eq] at hh
  intro _;exact h hh.2
 ·exact h
theorem must_true {w:WkS} {b:Bool} {e:Int} (he:e≠0) (h:(w.must b e).e=0):b=true:=by
 unfold WkS.must at h
 split at h
 ·exact absurd h he
 ·rename_i hn
  cases b with
  |true=>rfl
  |false=>exact absurd (by simpa using h) (by simpa using hn)
theorem WB.label {w:WkS} (h:WB res w) (k:Int):WB res (w.label k).2:=by
 unfold WkS.label
 cases labelS w.s k with
 |ok l=>exact h
 |error e=>exact h.must _ _
theorem WB.labels {w:WkS} (h:WB res w) (t l:List Int):WB res (labelsS w t l):=by
 induction l generalizing w with
 |nil=>exact h
 |cons a l ih=>exact ih ((h.label a).must _ _)
theorem WB.branch {w:WkS} (h:WB res w) (i:TInstr):WB res (branchS env w i):=by
 unfold branchS
 by_cases h15:i.op=15
 ·rw[if_pos h15];exact(h.want _).kill
 ·rw[if_neg h15]
  have h1:=(h.label i.a).labels (w.label i.a).1 i.labels
  have h2:WB res (if i.op=12 then labelsS (w.label i.a).2 (w.label i.a).1 i.labels else(labelsS (w.label i.a).2 (w.label i.a).1 i.labels).want [127]):=by
   split
   ·exact h1
   ·exact h1.want _
  simp only
  by_cases h13:i.op=13
  ·rw[if_pos h13];exact(h2.want _).push _
  ·rw[if_neg h13];exact(h2.want _).kill
theorem WB.call {w:WkS} (h:WB res w) (i:TInstr):WB res (callS env w i):=by
 unfold callS
 simp only
 refine WB.push (WB.want ?_ _) _
 by_cases h17:i.op=17
 ·rw[if_pos h17];exact(h.must _ _).want _
 ·rw[if_neg h17];exact h.must _ _
theorem WB.chosen {w:WkS} (h:WB res w) (i:TInstr):WB res (chosenS w i):=by
 unfold chosenS
 by_cases h26:i.op=26
 ·rw[if_pos h26];exact h.pop
 ·rw[if_neg h26];exact(((h.want _).pop.pop).must _ _).push _
theorem WB.vars {w:WkS} (h:WB res w) (i:TInstr):WB res (variableS env w i):=by
 unfold variableS
 simp only
 have key: ∀r:Int×WkS,WB res r.2→WB res (if i.op=32∨i.op=34∨i.op=35 then(if i.op≠32∧i.op≠35 then r.2.want [r.1] else r.2).push [r.1] else(if i.op≠32∧i.op≠35 then r.2.want [r.1] else r.2)):=fun r hr=>by
  have h1:WB res (if i.op≠32∧i.op≠35 then r.2.want [r.1] else r.2):=by
   split
   ·exact hr.want _
   ·exact hr
  split
  ·exact h1.push _
  ·exact h1
 refine key _ ?_
 split
 ·cases env.locs[i.a.toNat]? with
  |some t=>exact h
  |none=>exact h.must _ _
 ·cases env.globals[i.a.toNat]? with
  |some t=>exact h.must _ _
  |none=>exact h.must _ _
theorem WB.mem {w:WkS} (h:WB res w) (i:TInstr):WB res (memoryS acc env w i):=by
 unfold memoryS
 simp only
 by_cases h63:i.op=63
 ·rw[if_pos h63];exact(h.must _ _).push _
 ·rw[if_neg h63]
  by_cases h64:i.op=64
  ·rw[if_pos h64];exact((h.must _ _).want _).push _
  ·rw[if_neg h64]
   split
   ·exact((h.must _ _).must _ _).want _
   ·exact(((h.must _ _).must _ _).want _).push _
theorem WB.nested {w:WkS} (h:WB res w) (i:TInstr):WB res (nestedS w i):=by
 unfold nestedS
 by_cases h4:i.op=4
 ·rw[if_pos h4];exact(h.want _).opens _ _
 ·rw[if_neg h4]
  by_cases h5:i.op=5
  ·rw[if_pos h5]
   refine WB.opens (WB.closed (h.must _ _) fun h0=> ?_) _ _
   obtain⟨h1,h2⟩:=must_e0 (by decide) h0
   have h3:=must_true (by decide) h0
   rw[h2]
   obtain⟨d,rest,hb⟩:=h h1
   rw[hb]
   cases rest with
   |nil=>unfold topIf at h3;rw[hb] at h3;simp at h3
   |cons a rest=>simp
  ·rw[if_neg h5]
   by_cases h11:i.op=11
   ·rw[if_pos h11]
    refine((WB.closed (h.must _ _) fun h0=> ?_).must _ _).push _
    obtain⟨h1,h2⟩:=must_e0 (by decide) h0
    have h3:=must_true (by decide) h0
    rw[h2];simpa using h3
   ·rw[if_neg h11];exact h.opens _ _
theorem goS_base {s:Stk} {i:TInstr} (hb:BaseOk res s):WB res (goS acc shape env s i):=by
 have h:WB res ⟨s,0⟩:=fun _=>hb
 unfold goS
 simp only
 split
 ·exact h.kill
 ·split
  ·exact h
  ·split
   ·exact h.nested i
   ·split
    ·exact h.branch i
    ·split
     ·exact h.call i
     ·split
      ·exact h.chosen i
      ·split
       ·exact h.vars i
       ·split
        ·exact h.mem i
        ·split
         ·exact h.push _
         ·split
          ·exact h.push _
          ·cases shape i.op with
           |none=>exact h
           |some r=>exact(h.want _).push _
end Go.Proofs.YtfpioigggjnffaaGreatDoor.E
set_option autoImplicit false
namespace Go.Proofs.YtfpioigggjnffaaGreatDoor.E
open Go.Ev
variable {sane:TInstr→Bool} {acc:Int→Int×Int×Bool} {shape:Int→Option (List Int×Int)} {env:TEnv}
structure TabOk (sane:TInstr→Bool) (acc:Int→Int×Int×Bool) (shape:Int→Option (List Int×Int)):Prop where
 op: ∀i,sane i=true→0≤i.op
 acc: ∀i,sane i=true→36<i.op→i.op≤64→(acc i.op).1≠0∨i.op=63∨i.op=64
 shape: ∀o p r,shape o=some (p,r)→r≠0
structure SInv (env:TEnv) (s:Stk):Prop where
 sane:saneS s=true
 live:LiveOk s
 base:BaseOk env.results s
def start (env:TEnv):Stk:=⟨[],[⟨2,env.results,0,false⟩]⟩
theorem start_inv (hf:finB env.results=true):SInv env (start env) where
 sane:=by simp[saneS,start,risesB,hf,typesB]
 live:=fun k c hk hd j hj hn x hx=>by simp[start] at hx
 base:=⟨false,[],rfl⟩
theorem start_open (hf:finB env.results=true):openS ⟨[],[]⟩ 2 env.results= .ok (start env):=by
 simp[openS,saneS,risesB,typesB,hf,start]
theorem stepS_parts {s s':Stk} {i:TInstr} (e:stepS sane acc shape env s i= .ok s'):saneS s=true∧sane i=true∧(goS acc shape env s i).e=0∧(goS acc shape env s i).s=s':=by
 unfold stepS at e
 split at e
 ·cases e
 ·rename_i hh
  simp only[Bool.or_eq_true,Bool.not_eq_true',not_or,Bool.not_eq_false] at hh
  simp only at e
  split at e
  ·cases e
  ·rename_i he
   simp only[ne_eq,Classical.not_not] at he
   cases e
   exact⟨hh.1,hh.2,he,rfl⟩
theorem step_inv (ht:TabOk sane acc shape) (he:EnvOk env) {s s':Stk} {i:TInstr} (h:SInv env s) (e:stepS sane acc shape env s i= .ok s'):
 SInv env s'∧s'.ctrls.length=opensN i.op s.ctrls.length:=by
 obtain⟨h1,h2,h3,h4⟩:=stepS_parts e
 obtain⟨d,rest,hb⟩:=h.base
 have hlen:s.ctrls.length=rest.length+1:=by rw[hb];rfl
 obtain⟨_,_,h5,h6⟩:=stepS_ok e hlen (ht.op i)
 refine⟨⟨h5, ?_, ?_⟩,by rw[h6,hlen]⟩
 ·rw[←h4];exact(goS_live h1 h.live he (ht.acc i h2) (fun p r=>ht.shape i.op p r) h3).2
 ·rw[←h4];exact goS_base h.base h3
theorem path_inv (ht:TabOk sane acc shape) (he:EnvOk env) {s:Stk} {l:List TInstr} {p:List Stk} (h:SInv env s) (e:pathS sane acc shape env s l= .ok p):
 ∀(k:Nat) (x:Stk),p[k]? =some x→SInv env x:=by
 induction l generalizing s p with
 |nil=>
  cases e
  intro k x hx
  cases k with
  |zero=>simp only[List.getElem?_cons_zero] at hx;cases hx;exact h
  |succ k=>simp at hx
 |cons i l ih=>
  obtain⟨s',q,hs,hq,rfl⟩:=pathS_cons e
  intro k x hx
  cases k with
  |zero=>simp only[List.getElem?_cons_zero] at hx;cases hx;exact h
  |succ k=>exact ih (step_inv ht he h hs).1 hq k x (by simpa using hx)
def openAt (l:List TInstr) (n:Nat):Nat→Nat
 |0=>n
 |k+1=>match l[k]? with
  |some i=>opensN i.op (openAt l n k)
  |none=>openAt l n k
theorem path_open (ht:TabOk sane acc shape) (he:EnvOk env) {s:Stk} {l:List TInstr} {p:List Stk} (h:SInv env s) (e:pathS sane acc shape env s l= .ok p):
 ∀(k:Nat) (x:Stk),p[k]? =some x→x.ctrls.length=openAt l s.ctrls.length k:=by
 obtain⟨p0,pk⟩:=pathS_at e
 intro k
 induction k with
 |zero=>intro x hx;rw[p0] at hx;cases hx;rfl
 |succ k ih=>
  intro x hx
  have hlt:k<l.length:=by
   have:=(List.getElem?_eq_some_iff.1 hx).1
   rw[pathS_len e] at this;omega
  obtain⟨a,b,ha,hb,hst⟩:=pk k l[k] (List.getElem?_eq_getElem hlt)
  rw[hb] at hx;cases hx
  have:=(step_inv ht he (path_inv ht he h e k a ha) hst).2
  rw[this,ih a ha]
  simp only[openAt,List.getElem?_eq_getElem hlt]
end Go.Proofs.YtfpioigggjnffaaGreatDoor.E
