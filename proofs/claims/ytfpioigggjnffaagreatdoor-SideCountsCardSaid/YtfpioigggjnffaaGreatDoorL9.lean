/- L9, Z1, Z3. -/
import Derived.Test.YtfpioigggjnffaaGreatDoorL6
import Derived.Test.YtfpioigggjnffaaGreatDoorL7
import Derived.Test.YtfpioigggjnffaaGreatDoorF2B
import Derived.Test.YtfpioigggjnffaaGreatDoorT06
set_option linter.unnecessarySimpa false
set_option linter.unusedSimpArgs false
set_option linter.unusedVariables false
set_option autoImplicit false
set_option maxRecDepth 100000
set_option maxHeartbeats 4000000
set_option pp.maxSteps 20000
namespace Go.Proofs.YtfpioigggjnffaaGreatDoor.E
open Go.Ev
def brd (b:List Int):Nat→Nat→List TInstr→List Nest→Except Int (List TInstr×Nat)
 |0,_,_,_=> .error 4
 |f+1,x,out,st=>match dec (b.drop x) with
  | .error e=> .error e
  | .ok (i,c)=>if i.op=11∧st=[] then .ok (out,x+c) else match stepF out st out.length i.op with
    |none=> .error 3
    |some (st',deep,_)=>if f=0∨32<deep then .error 4 else brd b f (x+c) (out++[i]) st'
def brdR:Except Int (List TInstr×Nat)→Option Res
 | .error e=>some (.tup [.row 0 0 0 0, .d (.int .i64 0), .d (.int .i64 e)],[.row 5 [] 0 false false])
 | .ok (l,x)=>some (.tup [.row 0 0 0 l.length, .d (.int .i64 x), .d (.int .i64 0)],[.row 5 (l.map TInstr.d) 0 false false])
section
variable {b:List Int} {f x c:Nat} {out:List TInstr} {st st':List Nest} {i:TInstr} {deep:Int} {en:Nest} (hd:dec (b.drop x)= .ok (i,c))
include hd
theorem brd_end (h:i.op=11):brd b (f+1) x out []= .ok (out,x+c):=by
 simp only[brd,hd]
 rw[if_pos ⟨h,trivial⟩]
theorem brd_form (h: ¬(i.op=11∧st=[])) (hs:stepF out st out.length i.op=none):brd b (f+1) x out st= .error 3:=by
 simp only[brd,hd,hs]
 rw[if_neg h]
theorem brd_lim (h: ¬(i.op=11∧st=[])) (hs:stepF out st out.length i.op=some (st',deep,en)) (hl:f=0∨32<deep):brd b (f+1) x out st= .error 4:=by
 simp only[brd,hd,hs]
 rw[if_neg h,if_pos hl]
theorem brd_go (h: ¬(i.op=11∧st=[])) (hs:stepF out st out.length i.op=some (st',deep,en)) (h0: ¬f=0) (hl: ¬32<deep):brd b (f+1) x out st=brd b f (x+c) (out++[i]) st':=by
 simp only[brd,hd,hs]
 rw[if_neg h,if_neg (by simp[h0];omega)]
end
inductive RdH (out:List TInstr) (st:List Nest):Map Go.Ev.Obj→Prop
 |nil:out=[]→st=[]→RdH out st [(576, .cells [.nilsl]),(1088, .cells [.nilsl])]
 |flat (ys:List D) (m:Nat) (c:Bool):st=[]→m=out.length→ys=out.map TInstr.d→RdH out st [(576, .cells [.row 4224 0 0 m]),(1088, .cells [.nilsl]),(4224, .row 5 ys 0 false c)]
 |row (xs ys:List D) (m:Nat) (c1 c2:Bool):xs.take st.length=st.reverse.map nestD→m=out.length→ys=out.map TInstr.d→RdH out st [(576, .cells [.row 4224 0 0 m]),(1088, .cells [.row 3072 0 0 st.length]),(3072, .row 2 xs 0 false c1),(4224, .row 5 ys 0 false c2)]
inductive RdJ:Except Int (List TInstr×Nat)→Ex→St→Prop
 |err (e:Int):RdJ (.error e) .ret ⟨[(4, .nilsl),(5, .d (.int .i64 0)),(6, .d (.int .i64 e))],[]⟩
 |nil (x:Nat):RdJ (.ok ([],x)) .ret ⟨[(4, .nilsl),(5, .d (.int .i64 x)),(6, .d (.int .i64 0))],[]⟩
 |row (l:List TInstr) (x:Nat) (c:Bool):RdJ (.ok (l,x)) .ret ⟨[(4, .row 4224 0 0 l.length),(5, .d (.int .i64 x)),(6, .d (.int .i64 0))],[(4224, .row 5 (l.map TInstr.d) 0 false c)]⟩
structure RdS where
 f:Nat
 x:Nat
 out:List TInstr
 st:List Nest
theorem sz5 (a b c d:Int) (ls:List D):sizedAll 5 [D.agg [.int .i64 a, .int .i64 b, .int .i64 c, .int .u64 d, .list ls]]=true:=rfl
theorem map_takeI (l:List TInstr):(l.map TInstr.d).take l.length=l.map TInstr.d:=List.take_of_length_le (by simp)
theorem BRead_ev (fu n:Nat) (b:List Int) (hb:Bs b) (x:Nat) (hf:5000<fu) (hx:x≤b.length) (hl:b.length<1099511627000):
 evF (G fu) (n+9) 72 [.d (.list (byt b)), .d (.int .i64 x)] []=brdR (brd b 4097 x [] []):=by
 rw[evF.eq_2,evX.eq_def,Gext,exts_no _ (f:=72) (by decide),GP,Tryz.func72];simp only[Tryz.f72,evB]
 simp only[go_sem,seval, -Nat.reduceSubDiff,↓reduceIte,reduceCtorEq]
 generalize hr:loopN _ _ _ _ _=r
 obtain⟨y,s1,rfl,hy,hJ⟩: ∃y s1,r=some (y,s1)∧leaves y∧RdJ (brd b 4097 x [] []) y s1:=by
  rw[←hr]
  refine loop_rel (σ:=RdS) (fun a s=>a.x≤b.length∧a.out.length+a.f=4096∧(∀p∈a.st,nestIn a.out.length p)∧a.st.length≤a.out.length∧∃H,RdH a.out a.st H∧s=⟨[(0, .d (.list (byt b))),(1, .d (.int .i64 a.x)),(7, .ptr 1088 0),(8, .ptr 576 0)],H⟩) (fun a y s=>RdJ (brd b (a.f+1) a.x a.out a.st) y s) (fun a=>a.f) ?_ fu ⟨4096,x,[],[]⟩ _ (by show 4096<fu;omega) ⟨hx,rfl,by simp,by simp,_, .nil rfl rfl,rfl⟩
  rintro⟨f,x,out,st⟩ s ⟨hx,hf',hin,hlen,H,hH,rfl⟩
  simp only at hx hf' hin hlen hH ⊢
  have q:=Read_ev fu (n+1) b hb x (by omega) hx hl
  cases hd:dec (b.drop x) with
  |error e=>
   rw[hd] at q
   have he:=dec_err hd
   simp only[decR,TInstr.d,in0,List.map_nil] at q
   have e1:brd b (f+1) x out st= .error e:=by simp only[brd,hd]
   rw[e1]
   cases hH with
   |nil h1 h2=>simp only[go_sem,seval, -Nat.reduceSubDiff,↓reduceIte,reduceCtorEq,q,he];exact⟨_,_,rfl, .err e⟩
   |flat ys m c h1 h2 h3=>simp only[go_sem,seval, -Nat.reduceSubDiff,↓reduceIte,reduceCtorEq,q,he];exact⟨_,_,rfl, .err e⟩
   |row xs ys m c1 c2 h1 h2 h3=>simp only[go_sem,seval, -Nat.reduceSubDiff,↓reduceIte,reduceCtorEq,q,he];exact⟨_,_,rfl, .err e⟩
  |ok p=>
   obtain⟨i,c⟩:=p
   rw[hd] at q
   simp only[decR,TInstr.d] at q
   have hxc:=(dec_ok (hb.drop x) hd).2.2.2.1
   rw[List.length_drop] at hxc
   have hop3:opensB i.op=true∨(opensB i.op=false∧i.op≠5∧i.op≠11)∨(i.op=5∨i.op=11):=by
    cases opensB i.op<;>simp<;>omega
   have hl9:out.length≤4096:=by omega
   have lenA:(out++[i]).length=out.length+1:=by simp
   have mapA:(out++[i]).map TInstr.d=out.map TInstr.d++[D.agg [.int .i64 i.op, .int .i64 i.a, .int .i64 i.b, .int .u64 i.k, .list (i.labels.map (D.int .i64))]]:=by simp[TInstr.d]
   have tkA:=map_takeI out
   have rm:out.length+1≤1099511627776:=by omega
   cases hH with
   |nil h1 h2=>
    subst h1 h2
    rcases hop3 with ho|⟨ho,h5,h11⟩|h5
    ·have hne: ¬(i.op=11∧([]:List Nest)=[]):=fun z=>opens_not11 ho z.1
     have hop:=opens_not11 ho
     have q2:=step_nil_open0 fu (n+5) (0:Int) i (by omega) ho
     simp only[TInstr.d,nestD] at q2
     have sf:=stepF_open (l:=([]:List TInstr)) (st:=[]) (k:=([]:List TInstr).length) ho
     have c1: ¬(32:Int)<((0:Nat):Int):=by omega
     by_cases c0:f=0
     ·exact absurd c0 (by have hf2:=hf';simp at hf2;omega)
     ·have h4: ¬(4096:Int)≤([]:List TInstr).length:=by omega
      obtain⟨f',rfl⟩: ∃f',f=f'+1:=⟨f-1,by omega⟩
      have e:=brd_go hd hne sf c0 c1
      obtain⟨n1,n2⟩:=stepF_in sf hin
      simp only[go_sem,seval, -Nat.reduceSubDiff,↓reduceIte,reduceCtorEq,q,q2,TInstr.d,hop,hl9,sz5,Int.reduceLT,h4]
      exact⟨.normal,_,rfl,⟨f',x+c,([]:List TInstr)++[i],_⟩,⟨by show x+c≤_;omega,by show(([]:List TInstr)++[i]).length+f'=4096;have hf2:=hf';simp at hf2 ⊢;omega,by rw[lenA];exact n1,by rw[lenA];exact Nat.le_trans n2 (by omega),_,RdH.row [nestD ((0:Int), -1)] _ _ _ _ rfl rfl rfl,rfl⟩,by show f'<f'+1;omega,fun y s h=>by rw[e];exact h⟩
    ·have hne: ¬(i.op=11∧([]:List Nest)=[]):=fun z=>h11 z.1
     have hop:=h11
     have q2:=step_nil_plain0 fu (n+5) (0:Int) i (by omega) ho h5 h11
     simp only[TInstr.d,nestD] at q2
     have sf:=stepF_plain (l:=([]:List TInstr)) (st:=[]) (k:=([]:List TInstr).length) ho h5 h11
     have c1: ¬(32:Int)<((0:Nat):Int):=by omega
     by_cases c0:f=0
     ·exact absurd c0 (by have hf2:=hf';simp at hf2;omega)
     ·have h4: ¬(4096:Int)≤([]:List TInstr).length:=by omega
      obtain⟨f',rfl⟩: ∃f',f=f'+1:=⟨f-1,by omega⟩
      have e:=brd_go hd hne sf c0 c1
      obtain⟨n1,n2⟩:=stepF_in sf hin
      simp only[go_sem,seval, -Nat.reduceSubDiff,↓reduceIte,reduceCtorEq,q,q2,TInstr.d,hop,hl9,sz5,Int.reduceLT,h4]
      exact⟨.normal,_,rfl,⟨f',x+c,([]:List TInstr)++[i],_⟩,⟨by show x+c≤_;omega,by show(([]:List TInstr)++[i]).length+f'=4096;have hf2:=hf';simp at hf2 ⊢;omega,by rw[lenA];exact n1,by rw[lenA];exact Nat.le_trans n2 (by omega),_,RdH.flat _ _ _ rfl rfl rfl,rfl⟩,by show f'<f'+1;omega,fun y s h=>by rw[e];exact h⟩
    ·by_cases h11:i.op=11
     ·have e:brd b (f+1) x ([]:List TInstr) []= .ok (([]:List TInstr),x+c):=brd_end hd h11
      simp only[go_sem,seval, -Nat.reduceSubDiff,↓reduceIte,reduceCtorEq,q,TInstr.d,h11,hl9]
      exact⟨.ret,_,rfl,by rw[e];exact .nil _⟩
     ·have hne: ¬(i.op=11∧([]:List Nest)=[]):=fun z=>h11 z.1
      have hop:=h11
      have q2:=step_nil_bare0 fu (n+5) (0:Int) i (by omega) h5
      simp only[TInstr.d,nestD] at q2
      have sf:=stepF_bare (l:=([]:List TInstr)) (k:=([]:List TInstr).length) h5
      have e:brd b (f+1) x ([]:List TInstr) []= .error 3:=brd_form hd hne sf
      simp only[go_sem,seval, -Nat.reduceSubDiff,↓reduceIte,reduceCtorEq,q,q2,TInstr.d,hop,hl9,sz5,hl9]
      exact⟨.ret,_,rfl,by rw[e];exact .err 3⟩
   |flat ys m cc h1 h2 h3=>
    subst h1 h2 h3
    rcases hop3 with ho|⟨ho,h5,h11⟩|h5
    ·have hne: ¬(i.op=11∧([]:List Nest)=[]):=fun z=>opens_not11 ho z.1
     have hop:=opens_not11 ho
     have q2:=step_nil_openR fu (n+5) out out.length i (by omega) ho
     simp only[TInstr.d,nestD] at q2
     have sf:=stepF_open (l:=out) (st:=[]) (k:=out.length) ho
     have c1: ¬(32:Int)<((0:Nat):Int):=by omega
     by_cases c0:f=0
     ·have h4:(4096:Int)≤out.length:=by omega
      have e:brd b (f+1) x out []= .error 4:=brd_lim hd hne sf (.inl c0)
      simp only[go_sem,seval, -Nat.reduceSubDiff,↓reduceIte,reduceCtorEq,q,q2,TInstr.d,hop,hl9,sz5,tkA,rm,Int.reduceLT,h4]
      exact⟨.ret,_,rfl,by rw[e];exact .err 4⟩
     ·have h4: ¬(4096:Int)≤out.length:=by omega
      obtain⟨f',rfl⟩: ∃f',f=f'+1:=⟨f-1,by omega⟩
      have e:=brd_go hd hne sf c0 c1
      obtain⟨n1,n2⟩:=stepF_in sf hin
      simp only[go_sem,seval, -Nat.reduceSubDiff,↓reduceIte,reduceCtorEq,q,q2,TInstr.d,hop,hl9,sz5,tkA,rm,Int.reduceLT,h4]
      exact⟨.normal,_,rfl,⟨f',x+c,out++[i],_⟩,⟨by show x+c≤_;omega,by show(out++[i]).length+f'=4096;have hf2:=hf';simp at hf2 ⊢;omega,by rw[lenA];exact n1,by rw[lenA];exact Nat.le_trans n2 (by omega),_,RdH.row [nestD (((out.length:Nat):Int), -1)] _ _ _ _ (by simp) (by rw[lenA]) (by rw[mapA]),rfl⟩,by show f'<f'+1;omega,fun y s h=>by rw[e];exact h⟩
    ·have hne: ¬(i.op=11∧([]:List Nest)=[]):=fun z=>h11 z.1
     have hop:=h11
     have q2:=step_nil_plainR fu (n+5) out out.length i (by omega) ho h5 h11
     simp only[TInstr.d,nestD] at q2
     have sf:=stepF_plain (l:=out) (st:=[]) (k:=out.length) ho h5 h11
     have c1: ¬(32:Int)<((0:Nat):Int):=by omega
     by_cases c0:f=0
     ·have h4:(4096:Int)≤out.length:=by omega
      have e:brd b (f+1) x out []= .error 4:=brd_lim hd hne sf (.inl c0)
      simp only[go_sem,seval, -Nat.reduceSubDiff,↓reduceIte,reduceCtorEq,q,q2,TInstr.d,hop,hl9,sz5,tkA,rm,Int.reduceLT,h4]
      exact⟨.ret,_,rfl,by rw[e];exact .err 4⟩
     ·have h4: ¬(4096:Int)≤out.length:=by omega
      obtain⟨f',rfl⟩: ∃f',f=f'+1:=⟨f-1,by omega⟩
      have e:=brd_go hd hne sf c0 c1
      obtain⟨n1,n2⟩:=stepF_in sf hin
      simp only[go_sem,seval, -Nat.reduceSubDiff,↓reduceIte,reduceCtorEq,q,q2,TInstr.d,hop,hl9,sz5,tkA,rm,Int.reduceLT,h4]
      exact⟨.normal,_,rfl,⟨f',x+c,out++[i],_⟩,⟨by show x+c≤_;omega,by show(out++[i]).length+f'=4096;have hf2:=hf';simp at hf2 ⊢;omega,by rw[lenA];exact n1,by rw[lenA];exact Nat.le_trans n2 (by omega),_,RdH.flat _ _ _ rfl (by rw[lenA]) (by rw[mapA]),rfl⟩,by show f'<f'+1;omega,fun y s h=>by rw[e];exact h⟩
    ·by_cases h11:i.op=11
     ·have e:brd b (f+1) x out []= .ok (out,x+c):=brd_end hd h11
      simp only[go_sem,seval, -Nat.reduceSubDiff,↓reduceIte,reduceCtorEq,q,TInstr.d,h11,hl9]
      exact⟨.ret,_,rfl,by rw[e];exact .row _ _ _⟩
     ·have hne: ¬(i.op=11∧([]:List Nest)=[]):=fun z=>h11 z.1
      have hop:=h11
      have q2:=step_nil_bareR fu (n+5) out out.length i (by omega) h5
      simp only[TInstr.d,nestD] at q2
      have sf:=stepF_bare (l:=out) (k:=out.length) h5
      have e:brd b (f+1) x out []= .error 3:=brd_form hd hne sf
      simp only[go_sem,seval, -Nat.reduceSubDiff,↓reduceIte,reduceCtorEq,q,q2,TInstr.d,hop,hl9,sz5,tkA,rm,hl9]
      exact⟨.ret,_,rfl,by rw[e];exact .err 3⟩
   |row xs ys m c1 c2 h1 h2 h3=>
    subst h2 h3
    have hsl:st.length<1000000:=by omega
    rcases hop3 with ho|⟨ho,h5,h11⟩|h5
    ·have hne: ¬(i.op=11∧st=[]):=fun z=>opens_not11 ho z.1
     have hop:=opens_not11 ho
     have q2:=step_row_openR fu (n+5) out out.length i (by omega) st.length xs ho (by omega)
     simp only[TInstr.d,nestD] at q2
     have sf:=stepF_open (l:=out) (st:=st) (k:=out.length) ho
     by_cases c0:f=0
     ·have h4:(4096:Int)≤out.length:=by omega
      have e:brd b (f+1) x out st= .error 4:=brd_lim hd hne sf (.inl c0)
      simp only[go_sem,seval, -Nat.reduceSubDiff,↓reduceIte,reduceCtorEq,q,q2,TInstr.d,hop,hl9,sz5,tkA,rm,hsl,h4]
      exact⟨.ret,_,rfl,by rw[e];exact .err 4⟩
     ·have h4: ¬(4096:Int)≤out.length:=by omega
      by_cases c1:(32:Int)<(st.length:Int)
      ·have e:brd b (f+1) x out st= .error 4:=brd_lim hd hne sf (.inr c1)
       simp only[go_sem,seval, -Nat.reduceSubDiff,↓reduceIte,reduceCtorEq,q,q2,TInstr.d,hop,hl9,sz5,tkA,rm,hsl,h4,c1]
       exact⟨.ret,_,rfl,by rw[e];exact .err 4⟩
      ·obtain⟨f',rfl⟩: ∃f',f=f'+1:=⟨f-1,by omega⟩
       have e:=brd_go hd hne sf c0 c1
       obtain⟨n1,n2⟩:=stepF_in sf hin
       simp only[go_sem,seval, -Nat.reduceSubDiff,↓reduceIte,reduceCtorEq,q,q2,TInstr.d,hop,hl9,sz5,tkA,rm,hsl,h4,c1]
       exact⟨.normal,_,rfl,⟨f',x+c,out++[i],_⟩,⟨by show x+c≤_;omega,by show(out++[i]).length+f'=4096;have hf2:=hf';simp at hf2 ⊢;omega,by rw[lenA];exact n1,by rw[lenA];exact Nat.le_trans n2 (by omega),_,RdH.row _ _ _ _ _ (take_push h1) (by rw[lenA]) (by rw[mapA]),rfl⟩,by show f'<f'+1;omega,fun y s h=>by rw[e];exact h⟩
    ·have hne: ¬(i.op=11∧st=[]):=fun z=>h11 z.1
     have hop:=h11
     have q2:=step_row_plainR fu (n+5) out out.length i (by omega) st.length xs ho h5 h11
     simp only[TInstr.d,nestD] at q2
     have sf:=stepF_plain (l:=out) (st:=st) (k:=out.length) ho h5 h11
     by_cases c0:f=0
     ·have h4:(4096:Int)≤out.length:=by omega
      have e:brd b (f+1) x out st= .error 4:=brd_lim hd hne sf (.inl c0)
      simp only[go_sem,seval, -Nat.reduceSubDiff,↓reduceIte,reduceCtorEq,q,q2,TInstr.d,hop,hl9,sz5,tkA,rm,hsl,h4]
      exact⟨.ret,_,rfl,by rw[e];exact .err 4⟩
     ·have h4: ¬(4096:Int)≤out.length:=by omega
      by_cases c1:(32:Int)<(st.length:Int)
      ·have e:brd b (f+1) x out st= .error 4:=brd_lim hd hne sf (.inr c1)
       simp only[go_sem,seval, -Nat.reduceSubDiff,↓reduceIte,reduceCtorEq,q,q2,TInstr.d,hop,hl9,sz5,tkA,rm,hsl,h4,c1]
       exact⟨.ret,_,rfl,by rw[e];exact .err 4⟩
      ·obtain⟨f',rfl⟩: ∃f',f=f'+1:=⟨f-1,by omega⟩
       have e:=brd_go hd hne sf c0 c1
       obtain⟨n1,n2⟩:=stepF_in sf hin
       simp only[go_sem,seval, -Nat.reduceSubDiff,↓reduceIte,reduceCtorEq,q,q2,TInstr.d,hop,hl9,sz5,tkA,rm,hsl,h4,c1]
       exact⟨.normal,_,rfl,⟨f',x+c,out++[i],_⟩,⟨by show x+c≤_;omega,by show(out++[i]).length+f'=4096;have hf2:=hf';simp at hf2 ⊢;omega,by rw[lenA];exact n1,by rw[lenA];exact Nat.le_trans n2 (by omega),_,RdH.row _ _ _ _ _ h1 (by rw[lenA]) (by rw[mapA]),rfl⟩,by show f'<f'+1;omega,fun y s h=>by rw[e];exact h⟩
    ·cases st with
     |nil=>
      by_cases h11:i.op=11
      ·have e:brd b (f+1) x out []= .ok (out,x+c):=brd_end hd h11
       simp only[go_sem,seval, -Nat.reduceSubDiff,↓reduceIte,reduceCtorEq,q,TInstr.d,h11,hl9]
       exact⟨.ret,_,rfl,by rw[e];exact .row _ _ _⟩
      ·have hne: ¬(i.op=11∧([]:List Nest)=[]):=fun z=>h11 z.1
       have hop:=h11
       have q2:=step_row_bareR fu (n+5) out out.length i (by omega) xs h5
       simp only[TInstr.d,nestD] at q2
       have sf:=stepF_bare (l:=out) (k:=out.length) h5
       have e:brd b (f+1) x out []= .error 3:=brd_form hd hne sf
       simp only[go_sem,seval, -Nat.reduceSubDiff,↓reduceIte,reduceCtorEq,q,q2,TInstr.d,hop,hl9,sz5,tkA,rm,hl9]
       exact⟨.ret,_,rfl,by rw[e];exact .err 3⟩
     |cons p st=>
      obtain⟨hx1,hx2⟩:=take_top h1
      obtain⟨a,b'⟩:=p
      have hab:nestIn out.length (a,b'):=hin (a,b') (by simp)
      unfold nestIn at hab
      have hab1:0≤a∧a<(out.length:Int)∧(b'= -1∨(0≤b'∧b'<(out.length:Int)∧a≠b')):=hab
      have hsl2:st.length<1000000:=by simp at hsl;omega
      have hne: ¬(i.op=11∧((a,b')::st)=[]):=fun z=>by cases z.2
      have hn0: ¬((st.length+1:Nat):Int)=0:=by omega
      rcases h5 with hop|hop
      ·by_cases hh:b'= -1∧ifAt out a=true
       ·have q2:=step_row_elseR fu (n+5) out out.length i (by omega) st.length xs a b' hx1 hsl2 hop (by omega) (by omega)
        rw[if_pos hh] at q2
        simp only[TInstr.d,nestD,hop] at q2
        have sf:=(show stepF out ((a,b')::st) out.length i.op=some ((a,↑out.length)::st,(st.length:Int),(a,b')) by rw[hop];exact stepF_else (a,b') hh)
        by_cases c0:f=0
        ·have h4:(4096:Int)≤out.length:=by omega
         have e:brd b (f+1) x out ((a,b')::st)= .error 4:=brd_lim hd hne sf (.inl c0)
         simp only[go_sem,seval, -Nat.reduceSubDiff,↓reduceIte,reduceCtorEq,q,q2,TInstr.d,hop,hl9,sz5,tkA,rm,hsl2,hn0,List.length_cons,h4]
         exact⟨.ret,_,rfl,by rw[e];exact .err 4⟩
        ·have h4: ¬(4096:Int)≤out.length:=by omega
         by_cases c1:(32:Int)<(st.length:Int)
         ·have e:brd b (f+1) x out ((a,b')::st)= .error 4:=brd_lim hd hne sf (.inr c1)
          simp only[go_sem,seval, -Nat.reduceSubDiff,↓reduceIte,reduceCtorEq,q,q2,TInstr.d,hop,hl9,sz5,tkA,rm,hsl2,hn0,List.length_cons,h4,c1]
          exact⟨.ret,_,rfl,by rw[e];exact .err 4⟩
         ·obtain⟨f',rfl⟩: ∃f',f=f'+1:=⟨f-1,by omega⟩
          have e:=brd_go hd hne sf c0 c1
          obtain⟨n1,n2⟩:=stepF_in sf hin
          simp only[go_sem,seval, -Nat.reduceSubDiff,↓reduceIte,reduceCtorEq,q,q2,TInstr.d,hop,hl9,sz5,tkA,rm,hsl2,hn0,List.length_cons,h4,c1]
          exact⟨.normal,_,rfl,⟨f',x+c,out++[i],_⟩,⟨by show x+c≤_;omega,by show(out++[i]).length+f'=4096;have hf2:=hf';simp at hf2 ⊢;omega,by rw[lenA];exact n1,by rw[lenA];exact Nat.le_trans n2 (by omega),_,RdH.row _ _ _ _ _ (take_set h1) (by rw[lenA]) (by rw[mapA,hop]),rfl⟩,by show f'<f'+1;omega,fun y s h=>by rw[e];exact h⟩
       ·have q2:=step_row_elseR fu (n+5) out out.length i (by omega) st.length xs a b' hx1 hsl2 hop (by omega) (by omega)
        rw[if_neg hh] at q2
        simp only[TInstr.d,nestD,hop] at q2
        have sf:=(show stepF out ((a,b')::st) out.length i.op=none by rw[hop];exact stepF_twice (a,b') hh)
        have e:brd b (f+1) x out ((a,b')::st)= .error 3:=brd_form hd hne sf
        simp only[go_sem,seval, -Nat.reduceSubDiff,↓reduceIte,reduceCtorEq,q,q2,TInstr.d,hop,hl9,sz5,tkA,rm,hl9,hn0,List.length_cons]
        exact⟨.ret,_,rfl,by rw[e];exact .err 3⟩
      ·have q2:=step_row_popR fu (n+5) out out.length i (by omega) st.length xs a b' hx1 hsl2 hop
       simp only[TInstr.d,nestD,hop] at q2
       have sf:=(show stepF out ((a,b')::st) out.length i.op=some (st,(st.length:Int),(a,b')) by rw[hop];exact stepF_pop (a,b'))
       by_cases c0:f=0
       ·have h4:(4096:Int)≤out.length:=by omega
        have e:brd b (f+1) x out ((a,b')::st)= .error 4:=brd_lim hd hne sf (.inl c0)
        simp only[go_sem,seval, -Nat.reduceSubDiff,↓reduceIte,reduceCtorEq,q,q2,TInstr.d,hop,hl9,sz5,tkA,rm,hsl2,hn0,List.length_cons,h4]
        exact⟨.ret,_,rfl,by rw[e];exact .err 4⟩
       ·have h4: ¬(4096:Int)≤out.length:=by omega
        by_cases c1:(32:Int)<(st.length:Int)
        ·have e:brd b (f+1) x out ((a,b')::st)= .error 4:=brd_lim hd hne sf (.inr c1)
         simp only[go_sem,seval, -Nat.reduceSubDiff,↓reduceIte,reduceCtorEq,q,q2,TInstr.d,hop,hl9,sz5,tkA,rm,hsl2,hn0,List.length_cons,h4,c1]
         exact⟨.ret,_,rfl,by rw[e];exact .err 4⟩
        ·obtain⟨f',rfl⟩: ∃f',f=f'+1:=⟨f-1,by omega⟩
         have e:=brd_go hd hne sf c0 c1
         obtain⟨n1,n2⟩:=stepF_in sf hin
         simp only[go_sem,seval, -Nat.reduceSubDiff,↓reduceIte,reduceCtorEq,q,q2,TInstr.d,hop,hl9,sz5,tkA,rm,hsl2,hn0,List.length_cons,h4,c1]
         exact⟨.normal,_,rfl,⟨f',x+c,out++[i],_⟩,⟨by show x+c≤_;omega,by show(out++[i]).length+f'=4096;have hf2:=hf';simp at hf2 ⊢;omega,by rw[lenA];exact n1,by rw[lenA];exact Nat.le_trans n2 (by omega),_,RdH.row _ _ _ _ _ hx2 (by rw[lenA]) (by rw[mapA,hop]),rfl⟩,by show f'<f'+1;omega,fun y s h=>by rw[e];exact h⟩
 generalize brd b 4097 x [] []=R at*
 cases hJ with
 |err e=>simp only[go_sem,seval, -Nat.reduceSubDiff,↓reduceIte,reduceCtorEq,brdR]
 |nil x=>simp only[go_sem,seval, -Nat.reduceSubDiff,↓reduceIte,reduceCtorEq,brdR,List.map_nil,List.length_nil]
 |row l x c=>simp only[go_sem,seval, -Nat.reduceSubDiff,↓reduceIte,reduceCtorEq,brdR]
end Go.Proofs.YtfpioigggjnffaaGreatDoor.E
set_option autoImplicit false
namespace Go.Proofs.YtfpioigggjnffaaGreatDoor.E
open Go.Ev
def chain (b:List Int):Nat→List TInstr→Nat→Prop
 |x,[],y=>x=y
 |x,i::l,y=> ∃c,dec (b.drop x)= .ok (i,c)∧chain b (x+c) l y
theorem brd_chain {b:List Int}: ∀(f x:Nat) (out:List TInstr) (st:List Nest) {l:List TInstr} {z:Nat},brd b f x out st= .ok (l,z)→
 ∃l' y c i,l=out++l'∧chain b x l' y∧dec (b.drop y)= .ok (i,c)∧i.op=11∧z=y+c:=by
 intro f
 induction f with
 |zero=>intro x out st l z h;cases h
 |succ f ih=>
  intro x out st l z h
  rw[brd] at h
  split at h
  ·cases h
  ·rename_i i c hd
   split at h
   ·rename_i hc
    cases h
    exact⟨[],x,c,i,by simp,rfl,hd,hc.1,rfl⟩
   ·split at h
    ·cases h
    ·split at h
     ·cases h
     ·obtain⟨l',y,c',j,h1,h2,h3,h4,h5⟩:=ih _ _ _ h
      exact⟨i::l',y,c',j,by rw[h1];simp,⟨c,hd,h2⟩,h3,h4,h5⟩
def dcnt (m:List Int):Nat:=match dec m with
 | .ok (_,c)=>c
 | .error _=>0
def stF (b:List Int):Nat→List TInstr→List Int
 |x,[]=>[(x:Int)]
 |x,_::l=>(x:Int)::stF b (x+dcnt (b.drop x)) l
theorem stF_len (b:List Int): ∀(l:List TInstr) (x:Nat),(stF b x l).length=l.length+1
 |[],x=>rfl
 |_::l,x=>by simp[stF,stF_len b l]
theorem dcnt_ok {m:List Int} {i:TInstr} {c:Nat} (h:dec m= .ok (i,c)):dcnt m=c:=by unfold dcnt;rw[h]
theorem chain_at {b:List Int}: ∀{l:List TInstr} {x y:Nat},chain b x l y→∀k,k≤l.length→∃z,chain b x (l.take k) z∧chain b z (l.drop k) y∧(stF b x l)[k]? =some (z:Int)
 |[],x,y,h,k,hk=>by
  obtain rfl:k=0:=by simpa using hk
  exact⟨x,rfl,h,rfl⟩
 |i::l,x,y,h,0,hk=>⟨x,rfl,h,rfl⟩
 |i::l,x,y,⟨c,h1,h2⟩,k+1,hk=>by
  obtain⟨z,q1,q2,q3⟩:=chain_at h2 k (by simpa using hk)
  exact⟨z,⟨c,h1,q1⟩,q2,by simp only[stF,List.getElem?_cons_succ,dcnt_ok h1,q3]⟩
theorem chain_le {b:List Int} (hb:Bs b): ∀{l:List TInstr} {x y:Nat},chain b x l y→x+l.length≤y
 |[],x,y,h=>by cases h;simp
 |i::l,x,y,⟨c,h1,h2⟩=>by
  have:=chain_le hb h2
  have hd:Bs (b.drop x):=fun z hz=>hb z (List.mem_of_mem_drop hz)
  obtain⟨_,_,_,_,h0,_⟩:=dec_ok hd h1
  simp only[List.length_cons];omega
theorem chain_end {b:List Int} (hb:Bs b): ∀{l:List TInstr} {x y:Nat},x≤b.length→chain b x l y→y≤b.length
 |[],x,y,hx,h=>by cases h;exact hx
 |i::l,x,y,hx,⟨c,h1,h2⟩=>by
  have hd:Bs (b.drop x):=fun z hz=>hb z (List.mem_of_mem_drop hz)
  obtain⟨_,_,_,h0,_⟩:=dec_ok hd h1
  rw[List.length_drop] at h0
  exact chain_end hb (by omega) h2
theorem stF_lt {b:List Int} (hb:Bs b) {l:List TInstr} {x y:Nat} (h:chain b x l y) {i j:Nat} (hij:i<j) (hj:j≤l.length):(stF b x l).getD i 0<(stF b x l).getD j 0:=by
 obtain⟨z,q1,q2,q3⟩:=chain_at h i (by omega)
 obtain⟨z',p1,p2,p3⟩:=chain_at h j hj
 rw[List.getD_eq_getElem?_getD,List.getD_eq_getElem?_getD,q3,p3]
 simp only[Option.getD_some]
 have key: ∀(m:Nat) {l:List TInstr} {x y:Nat},chain b x l y→m≤l.length→∃z,chain b x (l.take m) z∧x+m≤z:=fun m {l x y} h hm=>by
  obtain⟨z,q1,_,_⟩:=chain_at h m hm
  have:=chain_le hb q1
  exact⟨z,q1,by rw[List.length_take] at this;omega⟩
 obtain⟨w,w1,w2⟩:=key (j-i) q2 (by rw[List.length_drop];omega)
 have uniq: ∀{l:List TInstr} {x y y':Nat},chain b x l y→chain b x l y'→y=y':=by
  intro l
  induction l with
  |nil=>intro x y y' h h';cases h;cases h';rfl
  |cons i l ih=>
   intro x y y' h h'
   obtain⟨c,h1,h2⟩:=h
   obtain⟨c',h1',h2'⟩:=h'
   rw[h1] at h1'
   cases h1'
   exact ih h2 h2'
 have glue: ∀{l m:List TInstr} {x y z:Nat},chain b x l y→chain b y m z→chain b x (l++m) z:=by
  intro l
  induction l with
  |nil=>intro m x y z h h';cases h;exact h'
  |cons i l ih=>
   intro m x y z h h'
   obtain⟨c,h1,h2⟩:=h
   exact⟨c,h1,ih h2 h'⟩
 have hg:=glue q1 w1
 have e:l.take i++(l.drop i).take (j-i)=l.take j:=by
  rw[←List.take_add]
  congr 1
  omega
 rw[e] at hg
 have:=uniq hg p1
 omega
end Go.Proofs.YtfpioigggjnffaaGreatDoor.E
set_option autoImplicit false
namespace Go.Proofs.YtfpioigggjnffaaGreatDoor.E
open Go.Ev
theorem stF_take (b:List Int): ∀(l:List TInstr) (x k:Nat),k≤l.length→stF b x (l.take k)=(stF b x l).take (k+1)
 |[],x,k,h=>by
  obtain rfl:k=0:=by simpa using h
  rfl
 |i::l,x,0,h=>by simp[stF]
 |i::l,x,k+1,h=>by
  have:=stF_take b l (x+dcnt (b.drop x)) k (by simpa using h)
  simp only[List.take_succ_cons,stF,this]
theorem stF_head (b:List Int) (l:List TInstr) (x:Nat):(stF b x l)[0]? =some (x:Int):=by cases l<;>rfl
theorem st_at {b:List Int}: ∀{l:List TInstr} {x y:Nat},chain b x l y→∀k,k<l.length→∃z c,chain b x (l.take k) z∧(stF b x l)[k]? =some (z:Int)∧dec (b.drop z)= .ok (l.getD k in0,c)∧(stF b x l)[k+1]? =some ((z+c:Nat):Int)
 |i::l,x,y,⟨c,h1,h2⟩,0,_=>⟨x,c,rfl,rfl,h1,by simp only[stF,dcnt_ok h1,List.getElem?_cons_succ];exact stF_head b l _⟩
 |i::l,x,y,⟨c,h1,h2⟩,k+1,hk=>by
  obtain⟨z,c',q1,q2,q3,q4⟩:=st_at h2 k (by simpa using hk)
  refine⟨z,c',⟨c,h1,q1⟩, ?_, ?_, ?_⟩
  ·simp only[stF,dcnt_ok h1,List.getElem?_cons_succ];exact q2
  ·simpa using q3
  ·simp only[stF,dcnt_ok h1,List.getElem?_cons_succ];exact q4
theorem st_next {b:List Int} {l:List TInstr} {x y:Nat} (h:chain b x l y) {k:Nat} (hk:k<l.length): ∃z c,chain b x (l.take k) z∧(stF b x l)[k]? =some (z:Int)∧dec (b.drop z)= .ok (l.getD k in0,c)∧(stF b x l)[k+1]? =some ((z+c:Nat):Int)∧stF b x (l.take (k+1))=stF b x (l.take k)++[((z+c:Nat):Int)]:=by
 obtain⟨z,c,q1,q2,q3,q4⟩:=st_at h k hk
 refine⟨z,c,q1,q2,q3,q4, ?_⟩
 rw[stF_take b l x _ (by omega),stF_take b l x _ (by omega),List.take_add_one (i:=k+1),q4]
 rfl
end Go.Proofs.YtfpioigggjnffaaGreatDoor.E
