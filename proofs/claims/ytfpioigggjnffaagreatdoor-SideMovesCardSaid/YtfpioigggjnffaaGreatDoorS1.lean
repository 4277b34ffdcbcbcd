/- S1, S2, EvO. -/
import Derived.Test.YtfpioigggjnffaaGreatDoorEvD
import Derived.Lib.ReflectliteSlice
import Derived.Shelf.RegionOpenPlain
import Derived.Laws.Externs
import Derived.WalkKit
set_option linter.unnecessarySimpa false
set_option linter.unusedSimpArgs false
set_option linter.unusedVariables false
set_option autoImplicit false
set_option maxRecDepth 100000
set_option maxHeartbeats 4000000
set_option pp.maxSteps 20000
namespace Go.Proofs.YtfpioigggjnffaaGreatDoor.E
open Go.Ev
def sortO (l:List Jmp) (fz chg:Bool):List Go.Ev.Obj:=[.cells [.row 1 0 0 l.length], .row 4 (jds l) 0 fz chg]
def lessV:V:= .agg [.fn (.func 82) [] [.ptr 0 0], .dead]
theorem less_ev (fu n:Nat) (l:List Jmp) (fz chg:Bool) (i j:Nat) (hi:i<l.length) (hj:j<l.length):
 evF (G0 fu) (n+1) 82 [.d (.int .i64 i), .d (.int .i64 j), .ptr 0 0] (sortO l fz chg)=some (.d (.bool (decide ((l.getD i jm0).at_<(l.getD j jm0).at_))),sortO l fz chg):=by
 have hx:(jds l)[i]? =some (l.getD i jm0).dd:=getD_map hi
 have hy:(jds l)[j]? =some (l.getD j jm0).dd:=getD_map hj
 have hiI:(i:Int)<l.length:=by omega
 have hjI:(j:Int)<l.length:=by omega
 generalize l.getD i jm0=a at*
 generalize l.getD j jm0=b at*
 simp only[Jmp.dd] at hx hy
 unfold sortO
 rw[evF.eq_2,evX.eq_def,G0ext,G0P,Tryz.func82];simp only[Tryz.f82,evB]
 simp only[go_sem,seval, -Nat.reduceSubDiff,↓reduceIte,reduceCtorEq,hiI,hjI,hx,hy]
theorem ins_ev (fu n:Nat) (l:List Jmp) (h:Rises l) (fz chg:Bool) (a b:Nat) (ha:a≤b) (hb:b≤l.length) (hf:b<fu) (hl:l.length<1000000):
 evF (G0 fu) (n+2) 197 [lessV, .d (.int .i64 a), .d (.int .i64 b)] (sortO l fz chg)=some (.tup [],sortO l fz chg):=by
 unfold sortO lessV
 rw[evF.eq_2,evX.eq_def,G0ext,G0P,Tryz.func197];simp only[Tryz.f197,evB]
 simp only[go_sem,seval, -Nat.reduceSubDiff,↓reduceIte,reduceCtorEq]
 have W0:=wrap_i64 (show-9223372036854775808≤(a:Int)+1 by omega) (by omega)
 rw[W0]
 rw[loop_some (b-(a+1)) (fun k=>⟨[(1,V.d (.int .i64 a)),(2,V.d (.int .i64 b)),(3,V.ptr 256 0),(6,V.d (.int .i64 ((a+1+k:Nat):Int)))],[(0, .cells [V.row 1 0 0 l.length]),(1, .row 4 (jds l) 0 fz chg),(256, .cells [V.fn (Fn.func 82) [] [V.ptr 0 0],V.dead])]⟩)
  (.exit 0,⟨[],[(0, .cells [V.row 1 0 0 l.length]),(1, .row 4 (jds l) 0 fz chg)]⟩) trivial (by omega) ?_]
 case hs=>
  intro k hk
  obtain⟨i,hi⟩: ∃i,a+1+k=i:=⟨_,rfl⟩
  have e1:a+1+(k+1)=i+1:=by omega
  rw[hi,e1]
  have hib:(i:Int)<b:=by omega
  have W:=wrap_i64 (show-9223372036854775808≤(i:Int)+1 by omega) (by omega)
  simp only[go_sem,seval, -Nat.reduceSubDiff,↓reduceIte,reduceCtorEq,hib]
  rw[loop_some 0 (fun _=>⟨[(1,V.d (.int .i64 a)),(2,V.d (.int .i64 b)),(3,V.ptr 256 0),(6,V.d (.int .i64 (i:Int))),(7,V.d (.int .i64 (i:Int)))],[(0, .cells [V.row 1 0 0 l.length]),(1, .row 4 (jds l) 0 fz chg),(256, .cells [V.fn (Fn.func 82) [] [V.ptr 0 0],V.dead])]⟩)
   (.exit 2,⟨[(1,V.d (.int .i64 a)),(2,V.d (.int .i64 b)),(3,V.ptr 256 0),(6,V.d (.int .i64 (i:Int)))],[(0, .cells [V.row 1 0 0 l.length]),(1, .row 4 (jds l) 0 fz chg),(256, .cells [V.fn (Fn.func 82) [] [V.ptr 0 0],V.dead])]⟩) trivial (by omega) ?_]
  case hs=>intro k hk;omega
  case he=>
   have L:=less_ev fu n l fz false i (i-1) (by omega) (by omega)
   have hn: ¬(l.getD i jm0).at_<(l.getD (i-1) jm0).at_:=by have:=h (i-1) i (by omega) (by omega);omega
   have W1:IntKind.wrap .i64 ((i:Int)-1)=((i-1:Nat):Int):=by rw[wrap_i64 (by omega) (by omega)];omega
   have hai:(a:Int)<i:=by omega
   simp only[hn,decide_false,sortO] at L
   simp only[go_sem,seval, -Nat.reduceSubDiff,↓reduceIte,reduceCtorEq,hai,W1,L]
  ·simp only[go_sem,seval, -Nat.reduceSubDiff,↓reduceIte,reduceCtorEq,W]
   rfl
  ·rfl
 case he=>
  have hlt: ¬(((a+1+(b-(a+1)):Nat):Int)<b):=by omega
  simp only[go_sem,seval, -Nat.reduceSubDiff,↓reduceIte,reduceCtorEq,hlt]
 ·simp only[go_sem,seval, -Nat.reduceSubDiff,↓reduceIte,reduceCtorEq]
 ·rfl
theorem half {x y:Nat} (hx:x<1000000) (hy:y<1000000):IntKind.wrap .i64 (shr .u64 (IntKind.wrap .u64 (IntKind.wrap .i64 ((x:Int)+y))) 1)=(((x+y) / 2:Nat):Int):=by
 have e1:=wrap_i64 (show-9223372036854775808≤(x:Int)+y by omega) (by omega)
 have e2:IntKind.wrap .u64 ((x:Int)+y)=(x:Int)+y:=wrap_u64 (by omega) (by omega)
 have e3:shr .u64 ((x:Int)+y) 1=(((x+y) / 2:Nat):Int):=by rw[show(1:Int)=((1:Nat):Int) from rfl,shr_u64 1 (by decide)];omega
 rw[e1,e2,e3,wrap_i64 (by omega) (by omega)]
abbrev sH (l:List Jmp) (fz chg:Bool):Map Go.Ev.Obj:=[(0, .cells [V.row 1 0 0 l.length]),(1, .row 4 (jds l) 0 fz chg),(320, .cells [V.fn (Fn.func 82) [] [V.ptr 0 0],V.dead])]
theorem sym_ev (fu:Nat) (l:List Jmp) (h:Rises l) (fz:Bool) (hf:l.length<fu) (hl:l.length<1000000): ∀d chg a m b n,b-a≤d→a<m→m<b→b≤l.length→
 evF (G0 fu) (n+d+2) 198 [lessV, .d (.int .i64 a), .d (.int .i64 m), .d (.int .i64 b)] (sortO l fz chg)=some (.tup [],sortO l fz chg):=by
 intro d
 induction d with
 |zero=>intro chg a m b n h1 h2 h3 h4;omega
 |succ d ih=>
  intro chg a m b n hd ham hmb hbl
  have L:=fun i j hi hj=>less_ev fu (n+(d+1)) l fz false i j hi hj
  unfold sortO lessV
  rw[evF.eq_2,evX.eq_def,G0ext,G0P,Tryz.func198];simp only[Tryz.f198,evB]
  have W1:=wrap_i64 (show-9223372036854775808≤(m:Int)-a by omega) (by omega)
  have W2:=wrap_i64 (show-9223372036854775808≤(b:Int)-m by omega) (by omega)
  have w1:IntKind.wrap .i64 1=1:=by decide
  have lt: ∀i j,j≤i→i<l.length→¬(l.getD i jm0).at_<(l.getD j jm0).at_:=fun i j h1 h2=>by have:=h j i h1 h2;omega
  simp only[sortO] at L
  by_cases c1:(m:Int)-a=1
  ·have Wm:IntKind.wrap .i64 ((m:Int)-1)=(a:Int):=by rw[wrap_i64 (by omega) (by omega)];omega
   simp only[go_sem,seval, -Nat.reduceSubDiff,↓reduceIte,reduceCtorEq,c1,w1]
   generalize hr:loopN _ _ _ _ _=r
   obtain⟨x,s1,rfl,hx,rfl,rfl⟩: ∃x s1,r=some (x,s1)∧Go.Ev.leaves x∧(x= .exit 0∧s1=⟨[(1,V.d (.int .i64 a)),(4,V.ptr 320 0),(8,V.d (.int .i64 m))],sH l fz chg⟩):=by
    rw[←hr]
    refine loop_rel (σ:=Nat) (fun j s=>m≤j∧j≤b∧s=⟨[(1,V.d (.int .i64 a)),(4,V.ptr 320 0),(8,V.d (.int .i64 m)),(9,V.d (.int .i64 j))],sH l fz chg⟩) (fun _ x s1=>x= .exit 0∧s1=⟨[(1,V.d (.int .i64 a)),(4,V.ptr 320 0),(8,V.d (.int .i64 m))],sH l fz chg⟩) (fun j=>j-m) ?_ fu b _ (by omega) ⟨by omega,Nat.le_refl _,rfl⟩
    rintro j s ⟨hj1,hj2,rfl⟩
    by_cases hc:(m:Int)<j
    ·have H:=half (x:=m) (y:=j) (by omega) (by omega)
     have Lx:=L ((m+j) / 2) a (by omega) (by omega)
     simp only[lt ((m+j) / 2) a (by omega) (by omega),decide_false] at Lx
     simp only[go_sem,seval, -Nat.reduceSubDiff,↓reduceIte,reduceCtorEq,sH,hc,H,Lx]
     exact⟨_,_,rfl,(m+j) / 2,⟨by omega,by omega,rfl⟩,by omega,fun _ _ h=>h⟩
    ·simp only[go_sem,seval, -Nat.reduceSubDiff,↓reduceIte,reduceCtorEq,sH,hc]
     exact⟨_,_,rfl,rfl,rfl⟩
   simp only[go_sem,seval, -Nat.reduceSubDiff,↓reduceIte,reduceCtorEq,sH]
   rw[loop_some 0 (fun _=>⟨[(4,V.ptr 320 0),(8,V.d (.int .i64 m)),(11,V.d (.int .i64 a))],sH l fz chg⟩) (.exit 2,⟨[],[(0, .cells [V.row 1 0 0 l.length]),(1, .row 4 (jds l) 0 fz chg)]⟩) trivial (by omega) ?_]
   case hs=>intro k hk;omega
   case he=>simp only[go_sem,seval, -Nat.reduceSubDiff,↓reduceIte,reduceCtorEq,sH,Wm,Int.lt_irrefl]
   ·simp only[go_sem,seval, -Nat.reduceSubDiff,↓reduceIte,reduceCtorEq]
   ·rfl
  by_cases c2:(b:Int)-m=1
  ·simp only[go_sem,seval, -Nat.reduceSubDiff,↓reduceIte,reduceCtorEq,W1,c1,c2,w1]
   generalize hr:loopN _ _ _ _ _=r
   obtain⟨x,s1,rfl,hx,rfl,rfl⟩: ∃x s1,r=some (x,s1)∧Go.Ev.leaves x∧(x= .exit 4∧s1=⟨[(2,V.d (.int .i64 m)),(4,V.ptr 320 0),(12,V.d (.int .i64 m))],sH l fz chg⟩):=by
    rw[←hr]
    refine loop_rel (σ:=Nat) (fun i s=>a≤i∧i≤m∧s=⟨[(2,V.d (.int .i64 m)),(4,V.ptr 320 0),(12,V.d (.int .i64 i)),(13,V.d (.int .i64 m))],sH l fz chg⟩) (fun _ x s1=>x= .exit 4∧s1=⟨[(2,V.d (.int .i64 m)),(4,V.ptr 320 0),(12,V.d (.int .i64 m))],sH l fz chg⟩) (fun i=>m-i) ?_ fu a _ (by omega) ⟨Nat.le_refl _,by omega,rfl⟩
    rintro i s ⟨hj1,hj2,rfl⟩
    by_cases hc:(i:Int)<m
    ·have H:=half (x:=i) (y:=m) (by omega) (by omega)
     have Lx:=L m ((i+m) / 2) (by omega) (by omega)
     simp only[lt m ((i+m) / 2) (by omega) (by omega),decide_false] at Lx
     have Wi:=wrap_i64 (show-9223372036854775808≤(((i+m) / 2:Nat):Int)+1 by omega) (by omega)
     simp only[go_sem,seval, -Nat.reduceSubDiff,↓reduceIte,reduceCtorEq,sH,hc,H,Lx,Wi]
     exact⟨_,_,rfl,(i+m) / 2+1,⟨by omega,by omega,rfl⟩,by omega,fun _ _ h=>h⟩
    ·obtain rfl:i=m:=by omega
     simp only[go_sem,seval, -Nat.reduceSubDiff,↓reduceIte,reduceCtorEq,sH,hc]
     exact⟨_,_,rfl,rfl,rfl⟩
   simp only[go_sem,seval, -Nat.reduceSubDiff,↓reduceIte,reduceCtorEq,sH]
   rw[loop_some 0 (fun _=>⟨[(4,V.ptr 320 0),(12,V.d (.int .i64 m)),(15,V.d (.int .i64 m))],sH l fz chg⟩) (.exit 6,⟨[],[(0, .cells [V.row 1 0 0 l.length]),(1, .row 4 (jds l) 0 fz chg)]⟩) trivial (by omega) ?_]
   case hs=>intro k hk;omega
   case he=>simp only[go_sem,seval, -Nat.reduceSubDiff,↓reduceIte,reduceCtorEq,sH,Int.lt_irrefl]
   ·simp only[go_sem,seval, -Nat.reduceSubDiff,↓reduceIte,reduceCtorEq]
   ·rfl
  obtain⟨mid,hmid⟩: ∃mid,(a+b) / 2=mid:=⟨_,rfl⟩
  have W3:=wrap_i64 (show-9223372036854775808≤(a:Int)+b by omega) (by omega)
  have W4:IntKind.wrap .u64 ((a:Int)+b)=(a:Int)+b:=wrap_u64 (by omega) (by omega)
  have W5:shr .u64 ((a:Int)+b) 1=(mid:Int):=by rw[show(1:Int)=((1:Nat):Int) from rfl,shr_u64 1 (by decide)];omega
  have W6:=wrap_i64 (show-9223372036854775808≤(mid:Int) by omega) (by omega)
  have W7:=wrap_i64 (show-9223372036854775808≤(mid:Int)+m by omega) (by omega)
  have W8:=wrap_i64 (show-9223372036854775808≤(mid:Int)+m-1 by omega) (by omega)
  by_cases c3:(mid:Int)<m
  ·have W9:IntKind.wrap .i64 ((mid:Int)+m-b)=((mid+m-b:Nat):Int):=by rw[wrap_i64 (by omega) (by omega)];omega
   simp only[go_sem,seval, -Nat.reduceSubDiff,↓reduceIte,reduceCtorEq,W1,W2,c1,c2,W3,W4,W5,W6,W7,W8,W9,c3]
   generalize hr:loopN _ _ _ _ _=r
   obtain⟨x,s1,rfl,hx,rfl,rfl⟩: ∃x s1,r=some (x,s1)∧Go.Ev.leaves x∧(x= .exit 8∧s1=⟨[(1,V.d (.int .i64 a)),(2,V.d (.int .i64 m)),(3,V.d (.int .i64 b)),(4,V.ptr 320 0),(16,V.d (.int .i64 mid)),(17,V.d (.int .i64 ((mid:Int)+m))),(18,V.d (.int .i64 mid))],sH l fz chg⟩):=by
    rw[←hr]
    refine loop_rel (σ:=Nat) (fun i s=>mid+m-b≤i∧i≤mid∧s=⟨[(1,V.d (.int .i64 a)),(2,V.d (.int .i64 m)),(3,V.d (.int .i64 b)),(4,V.ptr 320 0),(16,V.d (.int .i64 mid)),(17,V.d (.int .i64 ((mid:Int)+m))),(18,V.d (.int .i64 i)),(19,V.d (.int .i64 mid)),(20,V.d (.int .i64 ((mid:Int)+m-1)))],sH l fz chg⟩) (fun _ x s1=>x= .exit 8∧s1=⟨[(1,V.d (.int .i64 a)),(2,V.d (.int .i64 m)),(3,V.d (.int .i64 b)),(4,V.ptr 320 0),(16,V.d (.int .i64 mid)),(17,V.d (.int .i64 ((mid:Int)+m))),(18,V.d (.int .i64 mid))],sH l fz chg⟩) (fun i=>mid-i) ?_ fu (mid+m-b) _ (by omega) ⟨Nat.le_refl _,by omega,rfl⟩
    rintro i s ⟨hj1,hj2,rfl⟩
    by_cases hc:(i:Int)<mid
    ·have H:=half (x:=i) (y:=mid) (by omega) (by omega)
     obtain⟨c,hcc⟩: ∃c,(i+mid) / 2=c:=⟨_,rfl⟩
     rw[hcc] at H
     have Wp:IntKind.wrap .i64 ((mid:Int)+m-1-c)=((mid+m-1-c:Nat):Int):=by rw[wrap_i64 (by omega) (by omega)];omega
     have Lx:=L (mid+m-1-c) c (by omega) (by omega)
     simp only[lt (mid+m-1-c) c (by omega) (by omega),decide_false] at Lx
     have Wi:=wrap_i64 (show-9223372036854775808≤(c:Int)+1 by omega) (by omega)
     simp only[go_sem,seval, -Nat.reduceSubDiff,↓reduceIte,reduceCtorEq,sH,hc,H,Wp,Lx,Wi]
     exact⟨_,_,rfl,c+1,⟨by omega,by omega,rfl⟩,by omega,fun _ _ h=>h⟩
    ·obtain rfl:i=mid:=by omega
     simp only[go_sem,seval, -Nat.reduceSubDiff,↓reduceIte,reduceCtorEq,sH,hc]
     exact⟨_,_,rfl,rfl,rfl⟩
   simp only[go_sem,seval, -Nat.reduceSubDiff,↓reduceIte,reduceCtorEq,sH]
   have We:IntKind.wrap .i64 ((mid:Int)+m-mid)=(m:Int):=by rw[wrap_i64 (by omega) (by omega)];omega
   have ha:(a:Int)<mid:=by omega
   have hm:(m:Int)<b:=by omega
   have IH:evF (G0 fu) (n+(d+1)+1) 198 [lessV, .d (.int .i64 mid), .d (.int .i64 m), .d (.int .i64 b)] (sortO l fz false)=some (.tup [],sortO l fz false):=ih false mid m b n (by omega) (by omega) (by omega) (by omega)
   simp only[sortO,lessV] at IH
   simp only[go_sem,seval, -Nat.reduceSubDiff,↓reduceIte,reduceCtorEq,c3,We,Int.lt_irrefl,ha,hm,IH]
  ·simp only[go_sem,seval, -Nat.reduceSubDiff,↓reduceIte,reduceCtorEq,W1,W2,c1,c2,W3,W4,W5,W6,W7,W8,c3]
   generalize hr:loopN _ _ _ _ _=r
   obtain⟨x,s1,rfl,hx,rfl,rfl⟩: ∃x s1,r=some (x,s1)∧Go.Ev.leaves x∧(x= .exit 8∧s1=⟨[(1,V.d (.int .i64 a)),(2,V.d (.int .i64 m)),(3,V.d (.int .i64 b)),(4,V.ptr 320 0),(16,V.d (.int .i64 mid)),(17,V.d (.int .i64 ((mid:Int)+m))),(18,V.d (.int .i64 m))],sH l fz chg⟩):=by
    rw[←hr]
    refine loop_rel (σ:=Nat) (fun i s=>a≤i∧i≤m∧s=⟨[(1,V.d (.int .i64 a)),(2,V.d (.int .i64 m)),(3,V.d (.int .i64 b)),(4,V.ptr 320 0),(16,V.d (.int .i64 mid)),(17,V.d (.int .i64 ((mid:Int)+m))),(18,V.d (.int .i64 i)),(19,V.d (.int .i64 m)),(20,V.d (.int .i64 ((mid:Int)+m-1)))],sH l fz chg⟩) (fun _ x s1=>x= .exit 8∧s1=⟨[(1,V.d (.int .i64 a)),(2,V.d (.int .i64 m)),(3,V.d (.int .i64 b)),(4,V.ptr 320 0),(16,V.d (.int .i64 mid)),(17,V.d (.int .i64 ((mid:Int)+m))),(18,V.d (.int .i64 m))],sH l fz chg⟩) (fun i=>m-i) ?_ fu (a) _ (by omega) ⟨Nat.le_refl _,by omega,rfl⟩
    rintro i s ⟨hj1,hj2,rfl⟩
    by_cases hc:(i:Int)<m
    ·have H:=half (x:=i) (y:=m) (by omega) (by omega)
     obtain⟨c,hcc⟩: ∃c,(i+m) / 2=c:=⟨_,rfl⟩
     rw[hcc] at H
     have Wp:IntKind.wrap .i64 ((mid:Int)+m-1-c)=((mid+m-1-c:Nat):Int):=by rw[wrap_i64 (by omega) (by omega)];omega
     have Lx:=L (mid+m-1-c) c (by omega) (by omega)
     simp only[lt (mid+m-1-c) c (by omega) (by omega),decide_false] at Lx
     have Wi:=wrap_i64 (show-9223372036854775808≤(c:Int)+1 by omega) (by omega)
     simp only[go_sem,seval, -Nat.reduceSubDiff,↓reduceIte,reduceCtorEq,sH,hc,H,Wp,Lx,Wi]
     exact⟨_,_,rfl,c+1,⟨by omega,by omega,rfl⟩,by omega,fun _ _ h=>h⟩
    ·obtain rfl:i=m:=by omega
     simp only[go_sem,seval, -Nat.reduceSubDiff,↓reduceIte,reduceCtorEq,sH,hc]
     exact⟨_,_,rfl,rfl,rfl⟩
   simp only[go_sem,seval, -Nat.reduceSubDiff,↓reduceIte,reduceCtorEq,sH]
   have We:IntKind.wrap .i64 ((mid:Int)+m-m)=(mid:Int):=by rw[wrap_i64 (by omega) (by omega)];omega
   have ha:(a:Int)<m:=by omega
   by_cases c4:(m:Int)<mid
   ·have IH:evF (G0 fu) (n+(d+1)+1) 198 [lessV, .d (.int .i64 a), .d (.int .i64 m), .d (.int .i64 mid)] (sortO l fz false)=some (.tup [],sortO l fz false):=ih false a m mid n (by omega) (by omega) (by omega) (by omega)
    simp only[sortO,lessV] at IH
    simp only[go_sem,seval, -Nat.reduceSubDiff,↓reduceIte,reduceCtorEq,We,Int.lt_irrefl,ha,c4,IH]
   ·simp only[go_sem,seval, -Nat.reduceSubDiff,↓reduceIte,reduceCtorEq,We,Int.lt_irrefl,ha,c4]
end Go.Proofs.YtfpioigggjnffaaGreatDoor.E
set_option autoImplicit false
set_option maxRecDepth 100000
set_option maxHeartbeats 4000000
set_option pp.maxSteps 20000
namespace Go.Proofs.YtfpioigggjnffaaGreatDoor.E
open Go.Ev
abbrev tH (l:List Jmp) (fz chg:Bool):Map Go.Ev.Obj:=[(0, .cells [V.row 1 0 0 l.length]),(1, .row 4 (jds l) 0 fz chg),(192, .cells [V.fn (Fn.func 82) [] [V.ptr 0 0],V.dead])]
theorem stable_ev (fu n:Nat) (l:List Jmp) (h:Rises l) (fz chg:Bool) (hf:l.length<fu) (hl:l.length<1000000):
 evF (G0 fu) (n+l.length+3) 144 [lessV, .d (.int .i64 l.length)] (sortO l fz chg)=some (.tup [],sortO l fz chg):=by
 have I:=fun a b h1 h2=>ins_ev fu (n+l.length) l h fz false a b h1 h2 (by omega) hl
 have M:=fun a m b h1 h2 h3=>sym_ev fu l h fz hf hl l.length false a m b n (by omega) h1 h2 h3
 generalize hN:l.length=N at*
 simp only[sortO,lessV,hN] at I M ⊢
 rw[evF.eq_2,evX.eq_def,G0ext,G0P,Tryz.func144];simp only[Tryz.f144,evB]
 simp only[go_sem,seval, -Nat.reduceSubDiff,↓reduceIte,reduceCtorEq]
 generalize hr:loopN _ _ _ _ _=r
 obtain⟨x,s1,rfl,hx,a,ha,rfl,rfl⟩: ∃x s1,r=some (x,s1)∧Go.Ev.leaves x∧∃a:Nat,a≤N∧(x= .exit 0∧s1=⟨[(1,V.d (.int .i64 N)),(2,V.ptr 192 0),(4,V.d (.int .i64 20)),(5,V.d (.int .i64 a))],tH l fz chg⟩):=by
  rw[←hr]
  refine loop_rel (σ:=Nat) (fun a s=>a≤N∧s=⟨[(1,V.d (.int .i64 N)),(2,V.ptr 192 0),(4,V.d (.int .i64 20)),(5,V.d (.int .i64 a)),(6,V.d (.int .i64 ((a:Int)+20)))],tH l fz chg⟩) (fun _ x s1=> ∃a:Nat,a≤N∧(x= .exit 0∧s1=⟨[(1,V.d (.int .i64 N)),(2,V.ptr 192 0),(4,V.d (.int .i64 20)),(5,V.d (.int .i64 a))],tH l fz chg⟩)) (fun a=>N-a) ?_ fu 0 _ (by omega) ⟨by omega,by simp only[tH,hN];rfl⟩
  rintro a s ⟨h1,rfl⟩
  by_cases hc:(a:Int)+20≤N
  ·have Ix:=I a (a+20) (by omega) (by omega)
   have e1:((a+20:Nat):Int)=(a:Int)+20:=by omega
   have W:=wrap_i64 (show-9223372036854775808≤(a:Int)+20+20 by omega) (by omega)
   rw[e1] at Ix
   simp only[go_sem,seval, -Nat.reduceSubDiff,↓reduceIte,reduceCtorEq,tH,hN,hc,Ix,W]
   exact⟨_,_,rfl,a+20,⟨by omega,by rw[e1]⟩,by omega,fun _ _ h=>h⟩
  ·simp only[go_sem,seval, -Nat.reduceSubDiff,↓reduceIte,reduceCtorEq,tH,hN,hc]
   exact⟨_,_,rfl,a,h1,rfl,rfl⟩
 have Ix:=I a N ha (Nat.le_refl _)
 simp only[go_sem,seval, -Nat.reduceSubDiff,↓reduceIte,reduceCtorEq,tH,hN,Ix]
 clear Ix hr hx ha
 generalize hr:loopN _ _ _ _ _=r
 obtain⟨x,s1,rfl,hx,rfl,rfl⟩: ∃x s1,r=some (x,s1)∧Go.Ev.leaves x∧(x= .exit 2∧s1=⟨[],[(0, .cells [V.row 1 0 0 N]),(1, .row 4 (jds l) 0 fz chg)]⟩):=by
  rw[←hr]
  refine loop_rel (σ:=Nat) (fun bs s=>1≤bs∧s=⟨[(1,V.d (.int .i64 N)),(2,V.ptr 192 0),(4,V.d (.int .i64 bs))],tH l fz chg⟩) (fun _ x s1=>x= .exit 2∧s1=⟨[],[(0, .cells [V.row 1 0 0 N]),(1, .row 4 (jds l) 0 fz chg)]⟩) (fun bs=>N-bs) ?_ fu 20 _ (by omega) ⟨by omega,by simp only[tH,hN];rfl⟩
  rintro bs s ⟨hb,rfl⟩
  by_cases hc:(bs:Int)<N
  ·have W1:=wrap_i64 (show-9223372036854775808≤2*(bs:Int) by omega) (by omega)
   have W2:IntKind.wrap .i64 ((bs:Int)*2)=((bs*2:Nat):Int):=by rw[wrap_i64 (by omega) (by omega)];omega
   simp only[go_sem,seval, -Nat.reduceSubDiff,↓reduceIte,reduceCtorEq,tH,hN,hc,W1]
   generalize hr2:loopN _ _ _ _ _=r2
   obtain⟨x,s1,rfl,hx,a,ha,rfl,rfl⟩: ∃x s1,r2=some (x,s1)∧Go.Ev.leaves x∧∃a:Nat,a≤N∧(x= .exit 4∧s1=⟨[(1,V.d (.int .i64 N)),(2,V.ptr 192 0),(4,V.d (.int .i64 bs)),(5,V.d (.int .i64 a))],tH l fz chg⟩):=by
    rw[←hr2]
    refine loop_rel (σ:=Nat) (fun a s=>a≤N∧s=⟨[(1,V.d (.int .i64 N)),(2,V.ptr 192 0),(4,V.d (.int .i64 bs)),(5,V.d (.int .i64 a)),(6,V.d (.int .i64 ((a:Int)+2*bs)))],tH l fz chg⟩) (fun _ x s1=> ∃a:Nat,a≤N∧(x= .exit 4∧s1=⟨[(1,V.d (.int .i64 N)),(2,V.ptr 192 0),(4,V.d (.int .i64 bs)),(5,V.d (.int .i64 a))],tH l fz chg⟩)) (fun a=>N-a) ?_ fu 0 _ (by omega) ⟨by omega,by simp only[tH,hN,Int.natCast_zero,Int.zero_add]⟩
    rintro a s ⟨h1,rfl⟩
    by_cases hc2:(a:Int)+2*bs≤N
    ·have Mx:=M a (a+bs) (a+2*bs) (by omega) (by omega) (by omega)
     have e1:((a+2*bs:Nat):Int)=(a:Int)+2*bs:=by omega
     have e3:((a+bs:Nat):Int)=(a:Int)+bs:=by omega
     have W3:=wrap_i64 (show-9223372036854775808≤(a:Int)+bs by omega) (by omega)
     have W4:=wrap_i64 (show-9223372036854775808≤(a:Int)+2*bs+2*bs by omega) (by omega)
     rw[e1,e3] at Mx
     simp only[go_sem,seval, -Nat.reduceSubDiff,↓reduceIte,reduceCtorEq,tH,hN,hc2,W1,W3,Mx,W4]
     exact⟨_,_,rfl,a+2*bs,⟨by omega,by rw[e1]⟩,by omega,fun _ _ h=>h⟩
    ·simp only[go_sem,seval, -Nat.reduceSubDiff,↓reduceIte,reduceCtorEq,tH,hN,hc2]
     exact⟨_,_,rfl,a,h1,rfl,rfl⟩
   have W3:=wrap_i64 (show-9223372036854775808≤(a:Int)+bs by omega) (by omega)
   by_cases hc3:(a:Int)+bs<N
   ·have Mx:=M a (a+bs) N (by omega) (by omega) (Nat.le_refl _)
    have e3:((a+bs:Nat):Int)=(a:Int)+bs:=by omega
    rw[e3] at Mx
    simp only[go_sem,seval, -Nat.reduceSubDiff,↓reduceIte,reduceCtorEq,tH,hN,W3,hc3,Mx,W2]
    exact⟨_,_,rfl,bs*2,⟨by omega,rfl⟩,by omega,fun _ _ h=>h⟩
   ·simp only[go_sem,seval, -Nat.reduceSubDiff,↓reduceIte,reduceCtorEq,tH,hN,W3,hc3,W2]
    exact⟨_,_,rfl,bs*2,⟨by omega,rfl⟩,by omega,fun _ _ h=>h⟩
  ·simp only[go_sem,seval, -Nat.reduceSubDiff,↓reduceIte,reduceCtorEq,tH,hN,hc]
   exact⟨_,_,rfl,rfl,rfl⟩
 simp only[go_sem,seval, -Nat.reduceSubDiff,↓reduceIte,reduceCtorEq]
end Go.Proofs.YtfpioigggjnffaaGreatDoor.E
set_option autoImplicit false
set_option maxRecDepth 100000
set_option maxHeartbeats 4000000
namespace Go.Proofs.YtfpioigggjnffaaGreatDoor.E
open Go.Ev Go.Lib Go.RowKit
theorem cloneJ_ev (fu:Nat) (l:List Jmp) (h:l.length<1000000):cloneX (G0 fu) 79 4 [.d (.list (jds l))] []=some (.row 0 0 0 l.length,[.row 4 (jds l) 0 false false]):=by
 cases l with
 |nil=>rfl
 |cons x l=>
  have hs:sizedAll 4 (jds (x::l))=true:=sizedAll_map (fun x=>⟨_,rfl⟩) _
  have hl:(jds (x::l)).length=(x::l).length:=List.length_map ..
  simp only[jds,List.map_cons] at hs hl ⊢
  simp only[cloneX,G0P,Tryz.func79]
  simp only[Tryz.f79,evB]
  have h':l.length≤1099511627775:=by simp at h;omega
  simp only[go_sem,seval, -Nat.reduceSubDiff,↓reduceIte,reduceCtorEq,hs,hl,h']
noncomputable def oC (fu N:Nat):Calling:=fun f args objs=>if f=79 then cloneX (G0 fu) 79 4 args objs else evF (G0 fu) N f args objs
theorem oC_ok (hm:Tryz.prog.follows .mixedOrders=true) (hok: ∀(f:FuncId) fn,Tryz.prog.funcs[f]? =some fn→okFn fn=true) (fu N:Nat):CallOk Tryz.prog globs (oC fu N):=by
 intro f args objs v objs' h
 unfold oC at h
 split at h
 ·rename_i e
  subst e
  exact clone_ok (g:=G0 fu) hm (clone_is79 fu) args objs v objs' h
 ·exact evF_ok (g:=G0 fu) hm hok (fun f x h=>by cases h) N f args objs v objs' h
theorem swap_at:(Tryz.prog.funcs.findIdx? (·.name== "internal/reflectlite" ++ ".Swapper$" ++toString 1)=some 188∧Tryz.prog.funcs.findIdx? (·.name== "internal/reflectlite" ++ ".Swapper$" ++toString 2)=some 189)∧Tryz.prog.funcs.findIdx? (·.name== "internal/reflectlite" ++ ".Swapper$" ++toString 9)=some 196:=⟨⟨by kernel_rfl,by kernel_rfl⟩,by kernel_rfl⟩
theorem swapK (n:Nat):swapperK n Tryz.t80 25=1∨swapperK n Tryz.t80 25=2∨swapperK n Tryz.t80 25=9:=by
 unfold swapperK
 by_cases h0:n=0
 ·subst h0;exact .inl rfl
 ·by_cases h1:n=1
  ·subst h1;exact .inr (.inl rfl)
  ·have e0:(n==0)=false:=by simpa using h0
   have e1:(n==1)=false:=by simpa using h1
   rw[e0,e1]
   exact .inr (.inr rfl)
theorem swapF (n:Nat): ∃f,Tryz.prog.funcs.findIdx? (·.name== "internal/reflectlite" ++ ".Swapper$" ++toString (swapperK n Tryz.t80 25))=some f:=by
 rcases swapK n with h|h|h<;>rw[h]
 ·exact⟨_,swap_at.1.1⟩
 ·exact⟨_,swap_at.1.2⟩
 ·exact⟨_,swap_at.2⟩
theorem kind80 (w:World):(Extern.Rtype.kind 80).run Tryz.prog w= .ok 25 w:=by kernel_rfl
theorem info80:Tryz.prog.info? 80=some Tryz.t80:=by kernel_rfl
theorem info69:Tryz.prog.info? 69=some Tryz.t69:=by kernel_rfl
noncomputable def stW (p:Option Addr) (n c:Nat) (w:World):World:=(w.alloc (.cells #[.slice p n c] 69)).alloc (.cells #[.pointer (some ⟨Tryz.prog.globals.size,69,none⟩), .pointer (some ⟨w.heap.size,0,none⟩), .int .u64 151] 221)
theorem slice_stable (p:Option Addr) (n c:Nat) (lf:Fn) (la lb:Array Value) (w:World) (R:World→Prop)
 (hp: ∀u,Ev.one u→Calls Tryz.prog 144 #[.agg #[.func lf la lb,u], .int .i64 n] (stW p n c w) fun e w'=>e= .returned (.tuple #[])∧R w'):
 Calls Tryz.prog 81 #[.iface 69 (.slice p n c), .func lf la lb] w fun e w'=>e= .returned (.tuple #[])∧R w':=by
 obtain⟨f,hf⟩:=swapF n
 have hv:=run_valueOf_slice (P:=Tryz.prog) 69 80 _ info69 rfl p n c w
 have hs:=fun w=>run_swapper_slice (P:=Tryz.prog) 69 80 _ _ info69 rfl info80 25 kind80 p n c f hf w
 have hl:=fun a w ha=>run_valueLen_slice (P:=Tryz.prog) 69 80 _ info69 rfl (by kernel_rfl) a p n c w ha
 have hp1:=hp (.func (.func f) #[] (if swapperK n Tryz.t80 25≤2 then #[] else #[.slice p n c,typeHandle Tryz.prog 80])) trivial
 clear hp
 unfold stW at hp1
 generalize(if swapperK n Tryz.t80 25≤2 then(#[]:Array Value) else #[.slice p n c,typeHandle Tryz.prog 80])=B at hs hp1
 have gs:Tryz.prog.globals.size=2:=by kernel_rfl
 simp only[typeHandle,gs] at hv hl
 simp only[gs] at hp1
 have e15: ∀args w,(callFunc 144 args).run Tryz.prog w= .ok (.enter 144 args) w:=enters_of Tryz.func144 (by kernel_rfl) rfl
 refine calls_of_wp Tryz.func81 rfl ?_
 simp only[Tryz.ntmps81,List.size_toArray,List.length_cons,List.length_nil,Nat.reduceAdd,Nat.reduceSub,Array.replicate_succ,Array.replicate_zero,List.push_toArray,List.append_toArray,List.nil_append,List.cons_append]
 go_wp2
 rw[run_callFunc_extern Tryz.func142 (by kernel_rfl) (by kernel_rfl) (by kernel_rfl) (e:=fun args=>Extern.ReflectliteValue.unpack (args.getD 0 (.tuple #[]))) (by kernel_rfl),
  show Sem.run Tryz.prog ((fun args:Array Value=>Extern.ReflectliteValue.unpack (args.getD 0 (.tuple #[]))) #[.iface 69 (.slice p n c)]) w=_ from hv]
 simp only[Result.andThen]
 rw[Oper.upon_value]
 go_wp2
 rw[run_callFunc_extern Tryz.func143 (by kernel_rfl) (by kernel_rfl) (by kernel_rfl) (e:=Extern.ReflectliteSwapper.swapper "internal/reflectlite" (Extern.ReflectliteValue.valueError "Swapper")) (by kernel_rfl),hs]
 simp only[Result.andThen]
 rw[Oper.upon_value]
 go_wp2
 rw[run_callFunc_extern Tryz.func145 (by kernel_rfl) (by kernel_rfl) (by kernel_rfl) (e:=Extern.ReflectliteValue.method (Extern.ReflectliteValue.valueError "reflectlite.Value.Len" 0) Extern.ReflectliteValue.len) (by kernel_rfl),
  hl _ _ (by simp)]
 simp only[Result.andThen]
 rw[Oper.upon_value]
 go_wp2_with (go_at_fn 144;refine hp1.mono ?_;rintro e w' ⟨rfl,hR⟩)
 go_end0
 exact⟨rfl,hR⟩
end Go.Proofs.YtfpioigggjnffaaGreatDoor.E
