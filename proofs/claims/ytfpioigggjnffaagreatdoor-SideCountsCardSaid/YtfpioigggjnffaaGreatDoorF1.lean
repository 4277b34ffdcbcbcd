/- F1, F8, Q6. -/
import Derived.Test.YtfpioigggjnffaaGreatDoorEvD
import Derived.Test.YtfpioigggjnffaaGreatDoorQ1
import Derived.Test.YtfpioigggjnffaaGreatDoorC6
set_option linter.unnecessarySimpa false
set_option linter.unusedSimpArgs false
set_option linter.unusedVariables false
set_option autoImplicit false
set_option maxRecDepth 100000
set_option maxHeartbeats 4000000
set_option pp.maxSteps 20000
namespace Go.Proofs.YtfpioigggjnffaaGreatDoor.E
open Go.Ev
def in0:TInstr:=⟨0,0,0,0,[]⟩
def few (l:List TInstr) (m:Int):Bool:=decide ((l.length:Int)≤m)&& !l.any (fun i=>decide (70<(i.labels.length:Int)))
theorem few_ev (fu n:Nat) (l:List TInstr) (m:Int) (h:l.length<fu) (hl:l.length≤maxLen):
 evF (G fu) (n+1) 22 [.d (.list (l.map TInstr.d)), .d (.int .i64 m)] []=some (.d (.bool (few l m)),[]):=by
 have hl:l.length≤9223372036854775807:=hl
 rw[evF.eq_2,evX.eq_def,Gext,exts_no _ (f:=22) (by decide),GP,Tryz.func22];simp only[Tryz.f22,evB]
 simp only[go_sem,seval, -Nat.reduceSubDiff,↓reduceIte,reduceCtorEq]
 by_cases h1:m<l.length
 ·simp only[go_sem,seval, -Nat.reduceSubDiff,↓reduceIte,reduceCtorEq,h1,List.length_map,few,Int.not_le.2 h1]
 ·simp only[go_sem,seval, -Nat.reduceSubDiff,↓reduceIte,reduceCtorEq,h1,List.length_map]
  rw[loop_scan l.length (fun i=>⟨[(0,V.d (D.list (List.map TInstr.d l))),(5,V.d (D.int IntKind.i64 i))],[]⟩) (fun i=>decide (70<((l.getD i in0).labels.length:Int))) (fun i=>(.ret,⟨[(4,V.d (D.bool false))],[]⟩)) (.exit 0,⟨[],[]⟩) h (fun _=>trivial) trivial ?_,
   scan_list (p:=fun i:TInstr=>decide (70<(i.labels.length:Int))) (d:=in0)]
  case hs=>
   intro i hi
   simp only[go_sem,seval, -Nat.reduceSubDiff,↓reduceIte,reduceCtorEq,List.length_map,Int.ofNat_lt,hi,idx,getD_map (d:=in0) hi,Int.natCast_nonneg,Int.toNat_natCast,TInstr.d]
   cases hb:decide (70<((l.getD i in0).labels.length:Int))<;>simp only[go_sem,seval, -Nat.reduceSubDiff,↓reduceIte,reduceCtorEq,wrap_i64 (show-9223372036854775808≤(i:Int)+1 by omega) (by omega)]
   rfl
  case he=>simp only[go_sem,seval, -Nat.reduceSubDiff,↓reduceIte,reduceCtorEq,List.length_map,Int.ofNat_lt,Nat.lt_irrefl]
  ·cases hf:l.any (fun i=>decide (70<(i.labels.length:Int)))<;>simp only[go_sem,seval, -Nat.reduceSubDiff,↓reduceIte,reduceCtorEq,few,hf,Int.not_lt.1 h1]
  ·rfl
def spanL:List (Int×Int×Int):=[(0,1,1),(2,4,2),(5,5,1),(11,11,1),(12,13,3),(14,14,4),(15,15,1),(16,16,3),(17,17,5),(26,27,1),(32,36,3),(40,41,6),(44,55,6),(58,62,6),(63,64,7),(65,65,8),(66,66,9),(69,90,1),(103,138,1),(167,167,1),(172,173,1)]
def inSpan (op:Int) (s:Int×Int×Int):Bool:=decide (s.1≤op)&&decide (op≤s.2.1)
def kindF (op:Int):Int:=match spanL.find? (inSpan op) with
 |some s=>s.2.2
 |none=>0
theorem span_at (i:Nat) (hi:i<21):takeN (tab0.drop (i*3)) 3=some [.int .i64 (spanL.getD i (0,0,0)).1, .int .i64 (spanL.getD i (0,0,0)).2.1, .int .i64 (spanL.getD i (0,0,0)).2.2]:=by
 match i,hi with|0,_=>rfl|1,_=>rfl|2,_=>rfl|3,_=>rfl|4,_=>rfl|5,_=>rfl|6,_=>rfl|7,_=>rfl|8,_=>rfl|9,_=>rfl|10,_=>rfl|11,_=>rfl|12,_=>rfl|13,_=>rfl|14,_=>rfl|15,_=>rfl|16,_=>rfl|17,_=>rfl|18,_=>rfl|19,_=>rfl|20,_=>rfl|_+21,h=>exact absurd h (by omega)
theorem tab0_all:takeN tab0 63=some tab0:=rfl
theorem kind_ev (fu n:Nat) (op:Int) (h:21<fu):evF (G fu) (n+1) 47 [.d (.int .i64 op)] []=some (.d (.int .i64 (kindF op)),[]):=by
 rw[evF.eq_2,evX.eq_def,Gext,exts_no _ (f:=47) (by decide),GP,Tryz.func47];simp only[Tryz.f47,evB]
 simp only[go_sem,seval, -Nat.reduceSubDiff,↓reduceIte,reduceCtorEq,tab0_all]
 rw[loop_scan 21 (fun i=>⟨[(0,V.d (D.int IntKind.i64 op)),(5,V.d (D.agg tab0)),(6,V.d (D.int IntKind.i64 i))],[]⟩) (fun i=>inSpan op (spanL.getD i (0,0,0))) (fun i=>(.ret,⟨[(2,V.d (D.int .i64 (spanL.getD i (0,0,0)).2.2))],[]⟩)) (.exit 0,⟨[],[]⟩) h (fun _=>trivial) trivial ?_]
 case hs=>
  intro i hi
  simp only[go_sem,seval, -Nat.reduceSubDiff,↓reduceIte,reduceCtorEq,Int.ofNat_lt,hi,Int.natCast_nonneg,Int.toNat_natCast,show(i:Int)<21 by omega,span_at i hi]
  simp only[inSpan]
  by_cases h1:(spanL.getD i (0,0,0)).1≤op<;>by_cases h2:op≤(spanL.getD i (0,0,0)).2.1<;>simp only[go_sem,seval, -Nat.reduceSubDiff,↓reduceIte,reduceCtorEq,h1,h2,wrap_i64 (show-9223372036854775808≤(i:Int)+1 by omega) (by omega)]
  all_goals rfl
 case he=>simp only[go_sem,seval, -Nat.reduceSubDiff,↓reduceIte,reduceCtorEq]
 ·rw[scan_find (p:=inSpan op) (d:=(0,0,0)) (g:=fun s=>(Ex.ret,{tmps:=[(2,V.d (D.int IntKind.i64 s.2.2))],heap:=[]})) (N:=21) spanL rfl]
  unfold kindF
  cases spanL.find? (inSpan op)<;>simp only[go_sem,seval, -Nat.reduceSubDiff,↓reduceIte,reduceCtorEq]
 ·rfl
theorem kind_block (op:Int):kindF op=2↔2≤op∧op≤4:=by
 unfold kindF
 constructor
 ·intro h
  cases hf:spanL.find? (inSpan op) with
  |none=>rw[hf] at h;cases h
  |some s=>
   rw[hf] at h
   simp only at h
   have h1:=List.find?_some hf
   have h2:=List.mem_of_find?_eq_some hf
   simp only[inSpan,Bool.and_eq_true,decide_eq_true_eq] at h1
   simp only[spanL,List.mem_cons,List.not_mem_nil,or_false] at h2
   rcases h2 with rfl|rfl|rfl|rfl|rfl|rfl|rfl|rfl|rfl|rfl|rfl|rfl|rfl|rfl|rfl|rfl|rfl|rfl|rfl|rfl|rfl<;>first|exact h1|(simp at h)
 ·intro⟨h1,h2⟩
  have:spanL.find? (inSpan op)=some (2,4,2):=by
   have a:inSpan op (0,1,1)=false:=by simp[inSpan];omega
   have b:inSpan op (2,4,2)=true:=by simp[inSpan];omega
   simp only[spanL,List.find?,a,b]
  rw[this]
def opensB (op:Int):Bool:=decide (2≤op)&&decide (op≤4)
theorem opens_ev (fu n:Nat) (op a b k:Int) (ls:List D) (h:21<fu):evF (G fu) (n+2) 180 [.d (.agg [.int .i64 op, .int .i64 a, .int .i64 b, .int .u64 k, .list ls])] []=some (.d (.bool (opensB op)),[]):=by
 rw[evF.eq_2,evX.eq_def,Gext,exts_no _ (f:=180) (by decide),GP,Tryz.func180];simp only[Tryz.f180,evB]
 simp only[go_sem,seval, -Nat.reduceSubDiff,↓reduceIte,reduceCtorEq,kind_ev fu n _ h]
 refine congrArg (fun b=>some (V.d (D.bool b),[])) ?_
 simp only[opensB,kind_block,Bool.decide_and]
theorem opens5:opensB 5=false:=rfl
theorem opens11:opensB 11=false:=rfl
end Go.Proofs.YtfpioigggjnffaaGreatDoor.E
set_option autoImplicit false
set_option maxRecDepth 100000
set_option maxHeartbeats 4000000
set_option pp.maxSteps 20000
namespace Go.Proofs.YtfpioigggjnffaaGreatDoor.E
open Go.Ev
theorem lists_same {α:Type} [DecidableEq α] {a b:List α} {d:α} (hl:a.length=b.length):first (fun i=>decide (a.getD i d≠b.getD i d)) 0 a.length=none↔a=b:=by
 rw[first_none]
 constructor
 ·intro h
  apply List.ext_getElem hl
  intro i h1 h2
  have:=h i (by omega) (by omega)
  simpa[h1,h2] using this
 ·rintro rfl j _ _
  simp
theorem equalI_ev (fu n:Nat) (a b:List Int) (h:a.length<fu) (hs:a.length<1000000):evF (G fu) (n+1) 93 [.d (.list (a.map (D.int .i64))), .d (.list (b.map (D.int .i64)))] []=some (.d (.bool (decide (a=b))),[]):=by
 rw[evF.eq_2,evX.eq_def,Gext,exts_no _ (f:=93) (by decide),GP,Tryz.func93];simp only[Tryz.f93,evB]
 by_cases hl:a.length=b.length
 ·simp only[go_sem,seval, -Nat.reduceSubDiff,↓reduceIte,reduceCtorEq,List.length_map,hl]
  rw[loop_scan b.length (fun i=>⟨[(0, .d (.list (a.map (D.int .i64)))),(1, .d (.list (b.map (D.int .i64)))),(12, .d (.int .i64 b.length)),(13, .d (.int .i64 i))],[]⟩) (fun i=>decide (a.getD i 0≠b.getD i 0)) (fun i=>(.ret,⟨[(4,V.d (D.bool false))],[]⟩)) (.exit 0,⟨[],[]⟩) (by omega) (fun _=>trivial) trivial ?_]
  case hs=>
   intro i hi
   simp only[go_sem,seval, -Nat.reduceSubDiff,↓reduceIte,reduceCtorEq,Int.ofNat_lt,hi,idx,getD_map (f:=D.int .i64) (d:=0) (show i<a.length by omega),getD_map (f:=D.int .i64) (d:=0) hi]
   by_cases hb:a.getD i 0=b.getD i 0<;>simp only[go_sem,seval, -Nat.reduceSubDiff,↓reduceIte,reduceCtorEq,hb,ne_eq,wrap_i64 (show-9223372036854775808≤(i:Int)+1 by omega) (by omega)]<;>rfl
  case he=>simp only[go_sem,seval, -Nat.reduceSubDiff,↓reduceIte,reduceCtorEq,Int.ofNat_lt,Nat.lt_irrefl]
  ·unfold Go.Ev.scan
   have:=lists_same (d:=0) hl
   rw[hl] at this
   cases hf:first (fun i=>decide (a.getD i 0≠b.getD i 0)) 0 b.length with
   |none=>
    simp only[go_sem,seval, -Nat.reduceSubDiff,↓reduceIte,reduceCtorEq,this.1 hf]
   |some i=>
    have hne: ¬a=b:=fun e=>by rw[this.2 e] at hf;cases hf
    simp only[go_sem,seval, -Nat.reduceSubDiff,↓reduceIte,reduceCtorEq,hne]
  ·rfl
 ·have hne: ¬a=b:=fun e=>hl (by rw[e])
  have hl2: ¬((a.length:Int)=b.length):=by omega
  simp only[go_sem,seval, -Nat.reduceSubDiff,↓reduceIte,reduceCtorEq,List.length_map,hl2,hne]
theorem same_ev (fu n:Nat) (op a b k op' a' b' k':Int) (l l':List Int) (h:l.length<fu) (hs:l.length<1000000):evF (G fu) (n+2) 43 [.d (.agg [.int .i64 op, .int .i64 a, .int .i64 b, .int .u64 k, .list (l.map (D.int .i64))]), .d (.agg [.int .i64 op', .int .i64 a', .int .i64 b', .int .u64 k', .list (l'.map (D.int .i64))])] []=
 some (.d (.bool (decide (op=op'∧a=a'∧b=b'∧k=k'∧l=l'))),[]):=by
 rw[evF.eq_2,evX.eq_def,Gext,exts_no _ (f:=43) (by decide),GP,Tryz.func43];simp only[Tryz.f43,evB]
 by_cases h1:op=op'<;>by_cases h2:a=a'<;>by_cases h3:b=b'<;>by_cases h4:k=k'<;>simp only[go_sem,seval, -Nat.reduceSubDiff,↓reduceIte,reduceCtorEq,h1,h2,h3,h4,equalI_ev fu n _ _ h hs]
def numB (n:Int):Bool:=decide (0≤n)&&decide (n≤4294967295)
theorem number_ev (fu n:Nat) (a:Int):evF (G fu) (n+1) 96 [.d (.int .i64 a)] []=some (.d (.bool (numB a)),[]):=by
 rw[evF.eq_2,evX.eq_def,Gext,exts_no _ (f:=96) (by decide),GP,Tryz.func96];simp only[Tryz.f96,evB]
 by_cases h1:0≤a<;>simp only[go_sem,seval, -Nat.reduceSubDiff,↓reduceIte,reduceCtorEq,h1,numB]
theorem sane1_ev (fu n:Nat) (a:Int):evF (G fu) (n+2) 98 [.d (.int .i64 a)] []=some (.d (.bool (!numB a)),[]):=by
 rw[evF.eq_2,evX.eq_def,Gext,exts_no _ (f:=98) (by decide),GP,Tryz.func98];simp only[Tryz.f98,evB]
 simp only[go_sem,seval, -Nat.reduceSubDiff,↓reduceIte,reduceCtorEq,number_ev fu n]
def findN (l:List Int):Int:=match first (fun i=> !numB (l.getD i 0)) 0 l.length with
 |some i=>i
 |none=> -1
theorem indexN_ev (fu n:Nat) (l:List Int) (h:l.length<fu) (hs:l.length<1000000):evF (G fu) (n+3) 156 [.d (.list (l.map (D.int .i64))), .fn (.func 98) [] []] []=some (.d (.int .i64 (findN l)),[]):=by
 rw[evF.eq_2,evX.eq_def,Gext,exts_no _ (f:=156) (by decide),GP,Tryz.func156];simp only[Tryz.f156,evB]
 simp only[go_sem,seval, -Nat.reduceSubDiff,↓reduceIte,reduceCtorEq,List.length_map]
 rw[loop_scan l.length (fun i=>⟨[(0, .d (.list (l.map (D.int .i64)))),(1, .fn (.func 98) [] []),(7, .d (.int .i64 l.length)),(8, .d (.int .i64 i))],[]⟩) (fun i=> !numB (l.getD i 0)) (fun i=>(.ret,⟨[(4,V.d (D.int .i64 i))],[]⟩)) (.exit 0,⟨[],[]⟩) (by omega) (fun _=>trivial) trivial ?_]
 case hs=>
  intro i hi
  simp only[go_sem,seval, -Nat.reduceSubDiff,↓reduceIte,reduceCtorEq,Int.ofNat_lt,hi,idx,getD_map (f:=D.int .i64) (d:=0) hi,sane1_ev fu n]
  cases numB (l.getD i 0)<;>simp only[go_sem,seval, -Nat.reduceSubDiff,↓reduceIte,reduceCtorEq,wrap_i64 (show-9223372036854775808≤(i:Int)+1 by omega) (by omega)]<;>rfl
 case he=>simp only[go_sem,seval, -Nat.reduceSubDiff,↓reduceIte,reduceCtorEq,Int.ofNat_lt,Nat.lt_irrefl]
 ·unfold Go.Ev.scan findN
  cases first (fun i=> !numB (l.getD i 0)) 0 l.length<;>simp only[go_sem,seval, -Nat.reduceSubDiff,↓reduceIte,reduceCtorEq]
 ·rfl
theorem findN_iff (l:List Int):(0≤findN l)↔l.all numB=false:=by
 unfold findN
 have:=first_list (p:=fun x=> !numB x) (d:=0) l
 cases hf:first (fun i=> !numB (l.getD i 0)) 0 l.length with
 |none=>
  have:=this.1 hf
  simp only[show ¬(0:Int)≤ -1 by omega,false_iff]
  intro h
  rw[List.any_eq_false] at this
  rw[List.all_eq_false] at h
  obtain⟨x,h1,h2⟩:=h
  have:=this x h1
  simp_all
 |some i=>
  simp only[show(0:Int)≤i by omega,true_iff]
  rw[List.all_eq_false]
  have:l.any (fun x=> !numB x)=true:=by
   cases h:l.any (fun x=> !numB x) with
   |true=>rfl
   |false=>rw[this.2 h] at hf;cases hf
  obtain⟨x,h1,h2⟩:=List.any_eq_true.1 this
  exact⟨x,h1,by simpa using h2⟩
theorem containsN_ev (fu n:Nat) (l:List Int) (h:l.length<fu) (hs:l.length<1000000):evF (G fu) (n+4) 97 [.d (.list (l.map (D.int .i64))), .fn (.func 98) [] []] []=some (.d (.bool (!l.all numB)),[]):=by
 rw[evF.eq_2,evX.eq_def,Gext,exts_no _ (f:=97) (by decide),GP,Tryz.func97];simp only[Tryz.f97,evB]
 have:=findN_iff l
 cases ha:l.all numB<;>rw[ha] at this<;>simp only[iff_true,iff_false,reduceCtorEq] at this<;>simp only[go_sem,seval, -Nat.reduceSubDiff,↓reduceIte,reduceCtorEq,indexN_ev fu n l h hs,this,ha]
def saneF (i:TInstr):Bool:=
 (decide (kindF i.op=4)||i.labels.isEmpty)&&numB i.a&&numB i.b&&
 match kindF i.op with
 |1=>decide (i.a=0∧i.b=0∧i.k=0)
 |7=>decide (i.a=0∧i.b=0∧i.k=0)
 |2=>decide (i.b=0∧i.k=0)&&(decide (i.a=0)||decide (i.a=127)||decide (i.a=126))
 |3=>decide (i.b=0∧i.k=0)
 |5=>decide (i.b=0∧i.k=0)
 |4=>decide (i.b=0∧i.k=0)&&decide (i.labels.length≤64)&&i.labels.all numB
 |6=>decide (i.k=0)
 |8=>decide (i.a=0∧i.b=0)&&decide (i.k≤4294967295)
 |9=>decide (i.a=0∧i.b=0)
 |_=>false
theorem kind_range (op:Int):kindF op=0∨kindF op=1∨kindF op=2∨kindF op=3∨kindF op=4∨kindF op=5∨kindF op=6∨kindF op=7∨kindF op=8∨kindF op=9:=by
 unfold kindF
 cases hf:spanL.find? (inSpan op) with
 |none=>exact .inl rfl
 |some s=>
  have h2:=List.mem_of_find?_eq_some hf
  simp only[spanL,List.mem_cons,List.not_mem_nil,or_false] at h2
  rcases h2 with rfl|rfl|rfl|rfl|rfl|rfl|rfl|rfl|rfl|rfl|rfl|rfl|rfl|rfl|rfl|rfl|rfl|rfl|rfl|rfl|rfl<;>simp
theorem sane_ev (fu n:Nat) (i:TInstr) (h:21<fu) (hl:i.labels.length<fu) (hs:i.labels.length<1000000):evF (G fu) (n+5) 45 [.d i.d] []=some (.d (.bool (saneF i)),[]):=by
 rw[evF.eq_2,evX.eq_def,Gext,exts_no _ (f:=45) (by decide),GP,Tryz.func45];simp only[Tryz.f45,evB]
 have hsame: ∀a b k a' b' k',evF (G fu) (n+4) 43 [.d (.agg [.int .i64 0, .int .i64 a, .int .i64 b, .int .u64 k, .list []]), .d (.agg [.int .i64 0, .int .i64 a', .int .i64 b', .int .u64 k', .list []])] []=some (.d (.bool (decide (a=a'∧b=b'∧k=k'))),[]):=fun a b k a' b' k'=>by
  have:=same_ev fu (n+2) 0 a b k 0 a' b' k' [] [] (by simp;omega) (by simp)
  simpa using this
 have hgt:((0:Int)<i.labels.length)↔i.labels.isEmpty=false:=by cases i.labels<;>simp<;>omega
 unfold saneF
 have hkind:=kind_range i.op
 generalize hk:kindF i.op=kk at hkind
 by_cases hhead:((kk=4∨i.labels.isEmpty=true)∧numB i.a=true∧numB i.b=true)
 ·obtain⟨hle,hna,hnb⟩:=hhead
  have hgt4: ¬kk=4→¬(0:Int)<i.labels.length:=fun e=>by
   rw[hgt,hle.resolve_left e];decide
  rcases hkind with rfl|rfl|rfl|rfl|rfl|rfl|rfl|rfl|rfl|rfl
  ·have hle':=hle.resolve_left (by decide)
   have hg:=hgt4 (by decide)
   simp only[go_sem,seval, -Nat.reduceSubDiff,↓reduceIte,reduceCtorEq,TInstr.d,kind_ev fu (n+3) _ h,hk,List.length_map,hg,hle',number_ev fu (n+3),hna,hnb,hsame]
  ·have hle':=hle.resolve_left (by decide)
   have hg:=hgt4 (by decide)
   simp only[go_sem,seval, -Nat.reduceSubDiff,↓reduceIte,reduceCtorEq,TInstr.d,kind_ev fu (n+3) _ h,hk,List.length_map,hg,hle',number_ev fu (n+3),hna,hnb,hsame]
  ·have hle':=hle.resolve_left (by decide)
   have hg:=hgt4 (by decide)
   rcases Bool.eq_false_or_eq_true (decide (i.b=0∧i.k=0)) with q1|q1<;>rcases Bool.eq_false_or_eq_true (decide (i.a=0)) with q2|q2<;>rcases Bool.eq_false_or_eq_true (decide (i.a=127)) with q3|q3<;>simp only[go_sem,seval, -Nat.reduceSubDiff,↓reduceIte,reduceCtorEq,TInstr.d,kind_ev fu (n+3) _ h,hk,List.length_map,hg,hle',number_ev fu (n+3),hna,hnb,hsame,q1,q2,q3]
  ·have hle':=hle.resolve_left (by decide)
   have hg:=hgt4 (by decide)
   simp only[go_sem,seval, -Nat.reduceSubDiff,↓reduceIte,reduceCtorEq,TInstr.d,kind_ev fu (n+3) _ h,hk,List.length_map,hg,hle',number_ev fu (n+3),hna,hnb,hsame]
  ·by_cases hg:(0:Int)<i.labels.length<;>rcases Bool.eq_false_or_eq_true (decide (i.b=0∧i.k=0)) with q1|q1<;>by_cases q2:(i.labels.length:Int)≤64<;>simp only[go_sem,seval, -Nat.reduceSubDiff,↓reduceIte,reduceCtorEq,TInstr.d,kind_ev fu (n+3) _ h,hk,List.length_map,hg,number_ev fu (n+3),hna,hnb,hsame,q1,q2,containsN_ev fu n _ hl hs,Bool.not_not,show(i.labels.length≤64)=((i.labels.length:Int)≤64) from by simp only[eq_iff_iff];omega]
  ·have hle':=hle.resolve_left (by decide)
   have hg:=hgt4 (by decide)
   simp only[go_sem,seval, -Nat.reduceSubDiff,↓reduceIte,reduceCtorEq,TInstr.d,kind_ev fu (n+3) _ h,hk,List.length_map,hg,hle',number_ev fu (n+3),hna,hnb,hsame]
  ·have hle':=hle.resolve_left (by decide)
   have hg:=hgt4 (by decide)
   simp only[go_sem,seval, -Nat.reduceSubDiff,↓reduceIte,reduceCtorEq,TInstr.d,kind_ev fu (n+3) _ h,hk,List.length_map,hg,hle',number_ev fu (n+3),hna,hnb,hsame]
  ·have hle':=hle.resolve_left (by decide)
   have hg:=hgt4 (by decide)
   simp only[go_sem,seval, -Nat.reduceSubDiff,↓reduceIte,reduceCtorEq,TInstr.d,kind_ev fu (n+3) _ h,hk,List.length_map,hg,hle',number_ev fu (n+3),hna,hnb,hsame]
  ·have hle':=hle.resolve_left (by decide)
   have hg:=hgt4 (by decide)
   rcases Bool.eq_false_or_eq_true (decide (i.a=0∧i.b=0)) with q1|q1<;>simp only[go_sem,seval, -Nat.reduceSubDiff,↓reduceIte,reduceCtorEq,TInstr.d,kind_ev fu (n+3) _ h,hk,List.length_map,hg,hle',number_ev fu (n+3),hna,hnb,hsame,q1]
  ·have hle':=hle.resolve_left (by decide)
   have hg:=hgt4 (by decide)
   simp only[go_sem,seval, -Nat.reduceSubDiff,↓reduceIte,reduceCtorEq,TInstr.d,kind_ev fu (n+3) _ h,hk,List.length_map,hg,hle',number_ev fu (n+3),hna,hnb,hsame]
 ·have:((decide (kk=4)||i.labels.isEmpty)&&numB i.a&&numB i.b)=false:=by
   cases h1:((decide (kk=4)||i.labels.isEmpty)&&numB i.a&&numB i.b) with
   |false=>rfl
   |true=>simp only[Bool.and_eq_true,Bool.or_eq_true,decide_eq_true_eq] at h1;exact absurd ⟨h1.1.1,h1.1.2,h1.2⟩ hhead
  rw[this]
  by_cases h4:kk=4
  ·subst h4
   cases hna:numB i.a<;>cases hnb:numB i.b<;>simp only[hna,hnb,true_or,true_and,and_self,not_true,Bool.false_eq_true,false_and,and_false,not_false_eq_true] at hhead<;>simp only[go_sem,seval, -Nat.reduceSubDiff,↓reduceIte,reduceCtorEq,TInstr.d,kind_ev fu (n+3) _ h,hk,List.length_map,number_ev fu (n+3),hna,hnb]
  ·by_cases hg:(0:Int)<i.labels.length
   ·simp only[go_sem,seval, -Nat.reduceSubDiff,↓reduceIte,reduceCtorEq,TInstr.d,kind_ev fu (n+3) _ h,hk,h4,List.length_map,hg,number_ev fu (n+3)]
   ·have hle:i.labels.isEmpty=true:=by rw[hgt] at hg;simpa using hg
    cases hna:numB i.a<;>cases hnb:numB i.b<;>simp only[hna,hnb,hle,or_true,true_and,and_self,not_true,Bool.false_eq_true,false_and,and_false,not_false_eq_true] at hhead<;>simp only[go_sem,seval, -Nat.reduceSubDiff,↓reduceIte,reduceCtorEq,TInstr.d,kind_ev fu (n+3) _ h,hk,h4,List.length_map,hg,number_ev fu (n+3),hna,hnb]
end Go.Proofs.YtfpioigggjnffaaGreatDoor.E
set_option autoImplicit false
set_option maxRecDepth 100000
set_option maxHeartbeats 4000000
set_option pp.maxSteps 20000
namespace Go.Proofs.YtfpioigggjnffaaGreatDoor.E
open Go.Ev
theorem within_ev (fu n:Nat) (op a b:Int):evF (G fu) (n+1) 210 [.d (.int .i64 op), .d (.int .i64 a), .d (.int .i64 b)] []=some (.d (.bool (decide (a≤op)&&decide (op≤b))),[]):=by
 rw[evF.eq_2,evX.eq_def,Gext,exts_no _ (f:=210) (by decide),GP,Tryz.func210];simp only[Tryz.f210,evB]
 by_cases h:a≤op
 ·simp only[go_sem,seval, -Nat.reduceSubDiff,↓reduceIte,reduceCtorEq,h]
 ·simp only[go_sem,seval, -Nat.reduceSubDiff,↓reduceIte,reduceCtorEq,h]
def shapeF (op:Int):Option (List Int×Int):=
 if op=69 then some ([127],127) else if op=80 then some ([126],127) else if 70≤op∧op≤79 then some ([127,127],127) else if 81≤op∧op≤90 then some ([126,126],127) else
 if 103≤op∧op≤105 then some ([127],127) else if 106≤op∧op≤120 then some ([127,127],127) else if 121≤op∧op≤123 then some ([126],126) else if 124≤op∧op≤138 then some ([126,126],126) else
 if op=167 then some ([126],127) else if op=172∨op=173 then some ([127],126) else none
def shapeR:Option (List Int×Int)→Option Res
 |some (p,r)=>some (.tup [.row 0 0 0 p.length, .d (.int .u8 r), .d (.bool true)],[.row 1 (byt p) 0 false false])
 |none=>some (.tup [.row 0 0 0 0, .d (.int .u8 0), .d (.bool false)],[.row 1 [] 0 false false])
theorem shape_ev (fu n:Nat) (op:Int):evF (G fu) (n+2) 170 [.d (.int .i64 op)] []=shapeR (shapeF op):=by
 have Wi:=within_ev fu n op
 rw[evF.eq_2,evX.eq_def,Gext,exts_no _ (f:=170) (by decide),GP,Tryz.func170];simp only[Tryz.f170,evB]
 unfold shapeF
 by_cases c1:op=69
 ·subst c1;simp only[go_sem,seval, -Nat.reduceSubDiff,↓reduceIte,reduceCtorEq,shapeR,List.map_nil]
 by_cases c2:op=80
 ·subst c2;simp only[go_sem,seval, -Nat.reduceSubDiff,↓reduceIte,reduceCtorEq,shapeR,List.map_nil]
 have dd: ∀a b:Int,(decide (a≤op)&&decide (op≤b))=decide (a≤op∧op≤b):=fun a b=>by simp
 simp only[dd] at Wi
 by_cases c3:70≤op∧op≤79
 ·simp only[go_sem,seval, -Nat.reduceSubDiff,↓reduceIte,reduceCtorEq,c1,c2,Wi,c3,shapeR,List.map_nil]
 by_cases c4:81≤op∧op≤90
 ·simp only[go_sem,seval, -Nat.reduceSubDiff,↓reduceIte,reduceCtorEq,c1,c2,Wi,c3,c4,shapeR,List.map_nil]
 by_cases c5:103≤op∧op≤105
 ·simp only[go_sem,seval, -Nat.reduceSubDiff,↓reduceIte,reduceCtorEq,c1,c2,Wi,c3,c4,c5,shapeR,List.map_nil]
 by_cases c6:106≤op∧op≤120
 ·simp only[go_sem,seval, -Nat.reduceSubDiff,↓reduceIte,reduceCtorEq,c1,c2,Wi,c3,c4,c5,c6,shapeR,List.map_nil]
 by_cases c7:121≤op∧op≤123
 ·simp only[go_sem,seval, -Nat.reduceSubDiff,↓reduceIte,reduceCtorEq,c1,c2,Wi,c3,c4,c5,c6,c7,shapeR,List.map_nil]
 by_cases c8:124≤op∧op≤138
 ·simp only[go_sem,seval, -Nat.reduceSubDiff,↓reduceIte,reduceCtorEq,c1,c2,Wi,c3,c4,c5,c6,c7,c8,shapeR,List.map_nil]
 by_cases c9:op=167
 ·subst c9;simp only[go_sem,seval, -Nat.reduceSubDiff,↓reduceIte,reduceCtorEq,Wi,shapeR,List.map_nil]
 by_cases c10:op=172
 ·subst c10;simp only[go_sem,seval, -Nat.reduceSubDiff,↓reduceIte,reduceCtorEq,Wi,shapeR,List.map_nil]
 by_cases c11:op=173
 ·subst c11;simp only[go_sem,seval, -Nat.reduceSubDiff,↓reduceIte,reduceCtorEq,Wi,shapeR,List.map_nil]
 simp only[go_sem,seval, -Nat.reduceSubDiff,↓reduceIte,reduceCtorEq,c1,c2,Wi,c3,c4,c5,c6,c7,c8,c9,c10,c11,shapeR,List.map_nil]
def Byt (l:List Int):Prop:=∀x∈l,0≤x∧x<256
theorem u8_inj {a b:Int} (ha:0≤a∧a<256) (hb:0≤b∧b<256) (h:UInt8.ofNat a.toNat=UInt8.ofNat b.toNat):a=b:=by
 have:=congrArg UInt8.toNat h
 simp only[UInt8.toNat_ofNat'] at this
 omega
theorem u8s_inj: ∀{a b:List Int},Byt a→Byt b→a.map (fun n=>UInt8.ofNat n.toNat)=b.map (fun n=>UInt8.ofNat n.toNat)→a=b
 |[],[],_,_,_=>rfl
 |[],_::_,_,_,h=>by simp at h
 |_::_,[],_,_,h=>by simp at h
 |x::a,y::b,ha,hb,h=>by
  simp only[List.map_cons,List.cons.injEq] at h
  rw[u8_inj (ha x (by simp)) (hb y (by simp)) h.1,u8s_inj (fun z hz=>ha z (by simp[hz])) (fun z hz=>hb z (by simp[hz])) h.2]
theorem equal_ev (fu n:Nat) (a b:List Int) (ha:Byt a) (hb:Byt b):evF (G fu) (n+1) 165 [.d (.list (byt a)), .d (.list (byt b))] []=some (.d (.bool (decide (a=b))),[]):=by
 rw[evF.eq_2,evX.eq_def,Gext,exts_no _ (f:=165) (by decide),GP,Tryz.func165];simp only[Tryz.f165,evB]
 have e:(a.map (fun n=>UInt8.ofNat n.toNat)=b.map (fun n=>UInt8.ofNat n.toNat))↔a=b:=⟨u8s_inj ha hb,fun e=>by rw[e]⟩
 simp only[go_sem,seval, -Nat.reduceSubDiff,↓reduceIte,reduceCtorEq,strOf_byt,e]
theorem tval_ev (fu n:Nat) (c:Int):evF (G fu) (n+1) 176 [.d (.int .u8 c)] []=some (.d (.bool (valB c)),[]):=by
 rw[evF.eq_2,evX.eq_def,Gext,exts_no _ (f:=176) (by decide),GP,Tryz.func176];simp only[Tryz.f176,evB]
 unfold valB
 by_cases h1:c=127
 ·subst h1;simp only[go_sem,seval, -Nat.reduceSubDiff,↓reduceIte,reduceCtorEq]
 ·by_cases h2:c=126
  ·subst h2;simp only[go_sem,seval, -Nat.reduceSubDiff,↓reduceIte,reduceCtorEq]
  ·have e1:(c==126)=false:=by simpa using h2
   have e2:(c==127)=false:=by simpa using h1
   simp only[go_sem,seval, -Nat.reduceSubDiff,↓reduceIte,reduceCtorEq,h1,h2,e1,e2]
theorem tsane1_ev (fu n:Nat) (c:Int):evF (G fu) (n+2) 175 [.d (.int .u8 c)] []=some (.d (.bool (!valB c)),[]):=by
 have hv:=tval_ev fu n c
 rw[evF.eq_2,evX.eq_def,Gext,exts_no _ (f:=175) (by decide),GP,Tryz.func175];simp only[Tryz.f175,evB]
 simp only[go_sem,seval, -Nat.reduceSubDiff,↓reduceIte,reduceCtorEq,hv]
def typeSane (t:List Int×List Int):Bool:=decide ((t.1.length:Int)≤16)&&decide ((t.2.length:Int)≤1)&&t.1.all valB&&t.2.all valB
def tyD (t:List Int×List Int):D:= .agg [.list (byt t.1), .list (byt t.2)]
theorem typeSane_ev (fu n:Nat) (t:List Int×List Int) (hf:t.1.length<fu) (hf2:t.2.length<fu) (h1:t.1.length<1000000) (h2:t.2.length<1000000):evF (G fu) (n+5) 125 [.d (tyD t)] []=some (.d (.bool (typeSane t)),[]):=by
 have A:=containsB_ev fu n 175 (fun c=> !valB c) t.1 (tsane1_ev fu n) rfl hf h1
 have B:=containsB_ev fu n 175 (fun c=> !valB c) t.2 (tsane1_ev fu n) rfl hf2 h2
 rw[any_not] at A B
 unfold typeSane
 rw[evF.eq_2,evX.eq_def,Gext,exts_no _ (f:=125) (by decide),GP,Tryz.func125];simp only[Tryz.f125,evB]
 by_cases c1:(t.1.length:Int)≤16
 ·by_cases c2:(t.2.length:Int)≤1
  ·cases ha:t.1.all valB with
   |false=>rw[ha] at A;simp only[go_sem,seval, -Nat.reduceSubDiff,↓reduceIte,reduceCtorEq,tyD,byt_len,c1,c2,A,ha]
   |true=>rw[ha] at A;simp only[go_sem,seval, -Nat.reduceSubDiff,↓reduceIte,reduceCtorEq,tyD,byt_len,c1,c2,A,B,ha,Bool.not_not]
  ·simp only[go_sem,seval, -Nat.reduceSubDiff,↓reduceIte,reduceCtorEq,tyD,byt_len,c1,c2]
 ·simp only[go_sem,seval, -Nat.reduceSubDiff,↓reduceIte,reduceCtorEq,tyD,byt_len,c1]
end Go.Proofs.YtfpioigggjnffaaGreatDoor.E
