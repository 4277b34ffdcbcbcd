/- F8. -/
import Derived.Test.YtfpioigggjnffaaGreatDoorF1
set_option linter.unnecessarySimpa false
set_option linter.unusedSimpArgs false
set_option linter.unusedVariables false
set_option autoImplicit false
set_option maxRecDepth 100000
set_option maxHeartbeats 4000000
set_option pp.maxSteps 20000
namespace Go.Proofs.YtfpioigggjnffaaGreatDoor.E
open Go.Ev
theorem lists_same {α:Type} [DecidableEq α] {a b:List α} {d:α} (hl:a.length=b.length):first (fun i=>decide (a.getD i d≠b.getD i d)) 0 a.length=none↔a=b:=by
 rw[first_none]
 constructor
 ·intro h
  apply List.ext_getElem hl
  intro i h1 h2
  have:=h i (by omega) (by omega)
  simpa[h1,h2] using this
 ·rintro rfl j _ _
  simp
theorem equalI_ev (fu n:Nat) (a b:List Int) (h:a.length<fu) (hs:a.length<1000000):evF (G fu) (n+1) 93 [.d (.list (a.map (D.int .i64))), .d (.list (b.map (D.int .i64)))] []=some (.d (.bool (decide (a=b))),[]):=by
 rw[evF.eq_2,evX.eq_def,Gext,exts_no _ (f:=93) (by decide),GP,Tryz.func93];simp only[Tryz.f93,evB]
 by_cases hl:a.length=b.length
 ·simp only[go_sem,Nat.reduceAdd,Nat.reduceMul,Nat.reduceSub,Nat.reduceLT,Nat.reduceLeDiff,Nat.reduceEqDiff,Nat.reduceBEq,Nat.reduceBeqDiff,Int.reduceEq,Int.reduceLT,Int.reduceLE,Int.reduceToNat,Int.reduceNeg,Int.reduceAdd,Int.reduceSub,Int.reduceMul,reduceIte,reduceCtorEq,Nat.reducePow,Nat.reduceDiv,Nat.reduceMod,Int.reduceBEq,List.length_map,hl]
  rw[loop_scan b.length (fun i=>⟨[(0, .d (.list (a.map (D.int .i64)))),(1, .d (.list (b.map (D.int .i64)))),(12, .d (.int .i64 b.length)),(13, .d (.int .i64 i))],[]⟩) (fun i=>decide (a.getD i 0≠b.getD i 0)) (fun i=>(.ret,⟨[(4,V.d (D.bool false))],[]⟩)) (.exit 0,⟨[],[]⟩) (by omega) (fun _=>trivial) trivial ?_]
  case hs=>
   intro i hi
   simp only[go_sem,Nat.reduceAdd,Nat.reduceMul,Nat.reduceSub,Nat.reduceLT,Nat.reduceLeDiff,Nat.reduceEqDiff,Nat.reduceBEq,Nat.reduceBeqDiff,Int.reduceEq,Int.reduceLT,Int.reduceLE,Int.reduceToNat,Int.reduceNeg,Int.reduceAdd,Int.reduceSub,Int.reduceMul,reduceIte,reduceCtorEq,Nat.reducePow,Nat.reduceDiv,Nat.reduceMod,Int.reduceBEq,Int.ofNat_lt,hi,idx,getD_map (f:=D.int .i64) (d:=0) (show i<a.length by omega),getD_map (f:=D.int .i64) (d:=0) hi]
   by_cases hb:a.getD i 0=b.getD i 0<;>simp only[go_sem,Nat.reduceAdd,Nat.reduceMul,Nat.reduceSub,Nat.reduceLT,Nat.reduceLeDiff,Nat.reduceEqDiff,Nat.reduceBEq,Nat.reduceBeqDiff,Int.reduceEq,Int.reduceLT,Int.reduceLE,Int.reduceToNat,Int.reduceNeg,Int.reduceAdd,Int.reduceSub,Int.reduceMul,reduceIte,reduceCtorEq,Nat.reducePow,Nat.reduceDiv,Nat.reduceMod,Int.reduceBEq,hb,ne_eq,wrap_i64 (show-9223372036854775808≤(i:Int)+1 by omega) (by omega)]<;>rfl
  case he=>simp only[go_sem,Nat.reduceAdd,Nat.reduceMul,Nat.reduceSub,Nat.reduceLT,Nat.reduceLeDiff,Nat.reduceEqDiff,Nat.reduceBEq,Nat.reduceBeqDiff,Int.reduceEq,Int.reduceLT,Int.reduceLE,Int.reduceToNat,Int.reduceNeg,Int.reduceAdd,Int.reduceSub,Int.reduceMul,reduceIte,reduceCtorEq,Nat.reducePow,Nat.reduceDiv,Nat.reduceMod,Int.reduceBEq,Int.ofNat_lt,Nat.lt_irrefl]
  ·unfold Go.Ev.scan
   have:=lists_same (d:=0) hl
   rw[hl] at this
   cases hf:first (fun i=>decide (a.getD i 0≠b.getD i 0)) 0 b.length with
   |none=>
    simp only[go_sem,Nat.reduceAdd,Nat.reduceMul,Nat.reduceSub,Nat.reduceLT,Nat.reduceLeDiff,Nat.reduceEqDiff,Nat.reduceBEq,Nat.reduceBeqDiff,Int.reduceEq,Int.reduceLT,Int.reduceLE,Int.reduceToNat,Int.reduceNeg,Int.reduceAdd,Int.reduceSub,Int.reduceMul,reduceIte,reduceCtorEq,Nat.reducePow,Nat.reduceDiv,Nat.reduceMod,Int.reduceBEq,this.1 hf]
   |some i=>
    have hne: ¬a=b:=fun e=>by rw[this.2 e] at hf;cases hf
    simp only[go_sem,Nat.reduceAdd,Nat.reduceMul,Nat.reduceSub,Nat.reduceLT,Nat.reduceLeDiff,Nat.reduceEqDiff,Nat.reduceBEq,Nat.reduceBeqDiff,Int.reduceEq,Int.reduceLT,Int.reduceLE,Int.reduceToNat,Int.reduceNeg,Int.reduceAdd,Int.reduceSub,Int.reduceMul,reduceIte,reduceCtorEq,Nat.reducePow,Nat.reduceDiv,Nat.reduceMod,Int.reduceBEq,hne]
  ·rfl
 ·have hne: ¬a=b:=fun e=>hl (by rw[e])
  have hl2: ¬((a.length:Int)=b.length):=by omega
  simp only[go_sem,Nat.reduceAdd,Nat.reduceMul,Nat.reduceSub,Nat.reduceLT,Nat.reduceLeDiff,Nat.reduceEqDiff,Nat.reduceBEq,Nat.reduceBeqDiff,Int.reduceEq,Int.reduceLT,Int.reduceLE,Int.reduceToNat,Int.reduceNeg,Int.reduceAdd,Int.reduceSub,Int.reduceMul,reduceIte,reduceCtorEq,Nat.reducePow,Nat.reduceDiv,Nat.reduceMod,Int.reduceBEq,List.length_map,hl2,hne]
theorem same_ev (fu n:Nat) (op a b k op' a' b' k':Int) (l l':List Int) (h:l.length<fu) (hs:l.length<1000000):evF (G fu) (n+2) 43 [.d (.agg [.int .i64 op, .int .i64 a, .int .i64 b, .int .u64 k, .list (l.map (D.int .i64))]), .d (.agg [.int .i64 op', .int .i64 a', .int .i64 b', .int .u64 k', .list (l'.map (D.int .i64))])] []=
 some (.d (.bool (decide (op=op'∧a=a'∧b=b'∧k=k'∧l=l'))),[]):=by
 rw[evF.eq_2,evX.eq_def,Gext,exts_no _ (f:=43) (by decide),GP,Tryz.func43];simp only[Tryz.f43,evB]
 by_cases h1:op=op'<;>by_cases h2:a=a'<;>by_cases h3:b=b'<;>by_cases h4:k=k'<;>simp only[go_sem,Nat.reduceAdd,Nat.reduceMul,Nat.reduceSub,Nat.reduceLT,Nat.reduceLeDiff,Nat.reduceEqDiff,Nat.reduceBEq,Nat.reduceBeqDiff,Int.reduceEq,Int.reduceLT,Int.reduceLE,Int.reduceToNat,Int.reduceNeg,Int.reduceAdd,Int.reduceSub,Int.reduceMul,reduceIte,reduceCtorEq,Nat.reducePow,Nat.reduceDiv,Nat.reduceMod,Int.reduceBEq,h1,h2,h3,h4,equalI_ev fu n _ _ h hs]
def numB (n:Int):Bool:=decide (0≤n)&&decide (n≤4294967295)
theorem number_ev (fu n:Nat) (a:Int):evF (G fu) (n+1) 96 [.d (.int .i64 a)] []=some (.d (.bool (numB a)),[]):=by
 rw[evF.eq_2,evX.eq_def,Gext,exts_no _ (f:=96) (by decide),GP,Tryz.func96];simp only[Tryz.f96,evB]
 by_cases h1:0≤a<;>simp only[go_sem,Nat.reduceAdd,Nat.reduceMul,Nat.reduceSub,Nat.reduceLT,Nat.reduceLeDiff,Nat.reduceEqDiff,Nat.reduceBEq,Nat.reduceBeqDiff,Int.reduceEq,Int.reduceLT,Int.reduceLE,Int.reduceToNat,Int.reduceNeg,Int.reduceAdd,Int.reduceSub,Int.reduceMul,reduceIte,reduceCtorEq,Nat.reducePow,Nat.reduceDiv,Nat.reduceMod,Int.reduceBEq,h1,numB]
theorem sane1_ev (fu n:Nat) (a:Int):evF (G fu) (n+2) 98 [.d (.int .i64 a)] []=some (.d (.bool (!numB a)),[]):=by
 rw[evF.eq_2,evX.eq_def,Gext,exts_no _ (f:=98) (by decide),GP,Tryz.func98];simp only[Tryz.f98,evB]
 simp only[go_sem,Nat.reduceAdd,Nat.reduceMul,Nat.reduceSub,Nat.reduceLT,Nat.reduceLeDiff,Nat.reduceEqDiff,Nat.reduceBEq,Nat.reduceBeqDiff,Int.reduceEq,Int.reduceLT,Int.reduceLE,Int.reduceToNat,Int.reduceNeg,Int.reduceAdd,Int.reduceSub,Int.reduceMul,reduceIte,reduceCtorEq,Nat.reducePow,Nat.reduceDiv,Nat.reduceMod,Int.reduceBEq,number_ev fu n]
def findN (l:List Int):Int:=match first (fun i=> !numB (l.getD i 0)) 0 l.length with
 |some i=>i
 |none=> -1
theorem indexN_ev (fu n:Nat) (l:List Int) (h:l.length<fu) (hs:l.length<1000000):evF (G fu) (n+3) 156 [.d (.list (l.map (D.int .i64))), .fn (.func 98) [] []] []=some (.d (.int .i64 (findN l)),[]):=by
 rw[evF.eq_2,evX.eq_def,Gext,exts_no _ (f:=156) (by decide),GP,Tryz.func156];simp only[Tryz.f156,evB]
 simp only[go_sem,Nat.reduceAdd,Nat.reduceMul,Nat.reduceSub,Nat.reduceLT,Nat.reduceLeDiff,Nat.reduceEqDiff,Nat.reduceBEq,Nat.reduceBeqDiff,Int.reduceEq,Int.reduceLT,Int.reduceLE,Int.reduceToNat,Int.reduceNeg,Int.reduceAdd,Int.reduceSub,Int.reduceMul,reduceIte,reduceCtorEq,Nat.reducePow,Nat.reduceDiv,Nat.reduceMod,Int.reduceBEq,List.length_map]
 rw[loop_scan l.length (fun i=>⟨[(0, .d (.list (l.map (D.int .i64)))),(1, .fn (.func 98) [] []),(7, .d (.int .i64 l.length)),(8, .d (.int .i64 i))],[]⟩) (fun i=> !numB (l.getD i 0)) (fun i=>(.ret,⟨[(4,V.d (D.int .i64 i))],[]⟩)) (.exit 0,⟨[],[]⟩) (by omega) (fun _=>trivial) trivial ?_]
 case hs=>
  intro i hi
  simp only[go_sem,Nat.reduceAdd,Nat.reduceMul,Nat.reduceSub,Nat.reduceLT,Nat.reduceLeDiff,Nat.reduceEqDiff,Nat.reduceBEq,Nat.reduceBeqDiff,Int.reduceEq,Int.reduceLT,Int.reduceLE,Int.reduceToNat,Int.reduceNeg,Int.reduceAdd,Int.reduceSub,Int.reduceMul,reduceIte,reduceCtorEq,Nat.reducePow,Nat.reduceDiv,Nat.reduceMod,Int.reduceBEq,Int.ofNat_lt,hi,idx,getD_map (f:=D.int .i64) (d:=0) hi,sane1_ev fu n]
  cases numB (l.getD i 0)<;>simp only[go_sem,Nat.reduceAdd,Nat.reduceMul,Nat.reduceSub,Nat.reduceLT,Nat.reduceLeDiff,Nat.reduceEqDiff,Nat.reduceBEq,Nat.reduceBeqDiff,Int.reduceEq,Int.reduceLT,Int.reduceLE,Int.reduceToNat,Int.reduceNeg,Int.reduceAdd,Int.reduceSub,Int.reduceMul,reduceIte,reduceCtorEq,Nat.reducePow,Nat.reduceDiv,Nat.reduceMod,Int.reduceBEq,wrap_i64 (show-9223372036854775808≤(i:Int)+1 by omega) (by omega)]<;>rfl
 case he=>simp only[go_sem,Nat.reduceAdd,Nat.reduceMul,Nat.reduceSub,Nat.reduceLT,Nat.reduceLeDiff,Nat.reduceEqDiff,Nat.reduceBEq,Nat.reduceBeqDiff,Int.reduceEq,Int.reduceLT,Int.reduceLE,Int.reduceToNat,Int.reduceNeg,Int.reduceAdd,Int.reduceSub,Int.reduceMul,reduceIte,reduceCtorEq,Nat.reducePow,Nat.reduceDiv,Nat.reduceMod,Int.reduceBEq,Int.ofNat_lt,Nat.lt_irrefl]
 ·unfold Go.Ev.scan findN
  cases first (fun i=> !numB (l.getD i 0)) 0 l.length<;>simp only[go_sem,Nat.reduceAdd,Nat.reduceMul,Nat.reduceSub,Nat.reduceLT,Nat.reduceLeDiff,Nat.reduceEqDiff,Nat.reduceBEq,Nat.reduceBeqDiff,Int.reduceEq,Int.reduceLT,Int.reduceLE,Int.reduceToNat,Int.reduceNeg,Int.reduceAdd,Int.reduceSub,Int.reduceMul,reduceIte,reduceCtorEq,Nat.reducePow,Nat.reduceDiv,Nat.reduceMod,Int.reduceBEq]
 ·rfl
theorem findN_iff (l:List Int):(0≤findN l)↔l.all numB=false:=by
 unfold findN
 have:=first_list (p:=fun x=> !numB x) (d:=0) l
 cases hf:first (fun i=> !numB (l.getD i 0)) 0 l.length with
 |none=>
  have:=this.1 hf
  simp only[show ¬(0:Int)≤ -1 by omega,false_iff]
  intro h
  rw[List.any_eq_false] at this
  rw[List.all_eq_false] at h
  obtain⟨x,h1,h2⟩:=h
  have:=this x h1
  simp_all
 |some i=>
  simp only[show(0:Int)≤i by omega,true_iff]
  rw[List.all_eq_false]
  have:l.any (fun x=> !numB x)=true:=by
   cases h:l.any (fun x=> !numB x) with
   |true=>rfl
   |false=>rw[this.2 h] at hf;cases hf
  obtain⟨x,h1,h2⟩:=List.any_eq_true.1 this
  exact⟨x,h1,by simpa using h2⟩
theorem containsN_ev (fu n:Nat) (l:List Int) (h:l.length<fu) (hs:l.length<1000000):evF (G fu) (n+4) 97 [.d (.list (l.map (D.int .i64))), .fn (.func 98) [] []] []=some (.d (.bool (!l.all numB)),[]):=by
 rw[evF.eq_2,evX.eq_def,Gext,exts_no _ (f:=97) (by decide),GP,Tryz.func97];simp only[Tryz.f97,evB]
 have:=findN_iff l
 cases ha:l.all numB<;>rw[ha] at this<;>simp only[iff_true,iff_false,reduceCtorEq] at this<;>simp only[go_sem,Nat.reduceAdd,Nat.reduceMul,Nat.reduceSub,Nat.reduceLT,Nat.reduceLeDiff,Nat.reduceEqDiff,Nat.reduceBEq,Nat.reduceBeqDiff,Int.reduceEq,Int.reduceLT,Int.reduceLE,Int.reduceToNat,Int.reduceNeg,Int.reduceAdd,Int.reduceSub,Int.reduceMul,reduceIte,reduceCtorEq,Nat.reducePow,Nat.reduceDiv,Nat.reduceMod,Int.reduceBEq,indexN_ev fu n l h hs,this,ha]
def saneF (i:TInstr):Bool:=
 (decide (kindF i.op=4)||i.labels.isEmpty)&&numB i.a&&numB i.b&&
 match kindF i.op with
 |1=>decide (i.a=0∧i.b=0∧i.k=0)
 |7=>decide (i.a=0∧i.b=0∧i.k=0)
 |2=>decide (i.b=0∧i.k=0)&&(decide (i.a=0)||decide (i.a=127)||decide (i.a=126))
 |3=>decide (i.b=0∧i.k=0)
 |5=>decide (i.b=0∧i.k=0)
 |4=>decide (i.b=0∧i.k=0)&&decide (i.labels.length≤64)&&i.labels.all numB
 |6=>decide (i.k=0)
 |8=>decide (i.a=0∧i.b=0)&&decide (i.k≤4294967295)
 |9=>decide (i.a=0∧i.b=0)
 |_=>false
theorem kind_range (op:Int):kindF op=0∨kindF op=1∨kindF op=2∨kindF op=3∨kindF op=4∨kindF op=5∨kindF op=6∨kindF op=7∨kindF op=8∨kindF op=9:=by
 unfold kindF
 cases hf:spanL.find? (inSpan op) with
 |none=>exact .inl rfl
 |some s=>
  have h2:=List.mem_of_find?_eq_some hf
  simp only[spanL,List.mem_cons,List.not_mem_nil,or_false] at h2
  rcases h2 with rfl|rfl|rfl|rfl|rfl|rfl|rfl|rfl|rfl|rfl|rfl|rfl|rfl|rfl|rfl|rfl|rfl|rfl|rfl|rfl|rfl<;>simp
theorem sane_ev (fu n:Nat) (i:TInstr) (h:21<fu) (hl:i.labels.length<fu) (hs:i.labels.length<1000000):evF (G fu) (n+5) 45 [.d i.d] []=some (.d (.bool (saneF i)),[]):=by
 rw[evF.eq_2,evX.eq_def,Gext,exts_no _ (f:=45) (by decide),GP,Tryz.func45];simp only[Tryz.f45,evB]
 have hsame: ∀a b k a' b' k',evF (G fu) (n+4) 43 [.d (.agg [.int .i64 0, .int .i64 a, .int .i64 b, .int .u64 k, .list []]), .d (.agg [.int .i64 0, .int .i64 a', .int .i64 b', .int .u64 k', .list []])] []=some (.d (.bool (decide (a=a'∧b=b'∧k=k'))),[]):=fun a b k a' b' k'=>by
  have:=same_ev fu (n+2) 0 a b k 0 a' b' k' [] [] (by simp;omega) (by simp)
  simpa using this
 have hgt:((0:Int)<i.labels.length)↔i.labels.isEmpty=false:=by cases i.labels<;>simp<;>omega
 unfold saneF
 have hkind:=kind_range i.op
 generalize hk:kindF i.op=kk at hkind
 by_cases hhead:((kk=4∨i.labels.isEmpty=true)∧numB i.a=true∧numB i.b=true)
 ·obtain⟨hle,hna,hnb⟩:=hhead
  have hgt4: ¬kk=4→¬(0:Int)<i.labels.length:=fun e=>by
   rw[hgt,hle.resolve_left e];decide
  rcases hkind with rfl|rfl|rfl|rfl|rfl|rfl|rfl|rfl|rfl|rfl
  ·have hle':=hle.resolve_left (by decide)
   have hg:=hgt4 (by decide)
   simp only[go_sem,Nat.reduceAdd,Nat.reduceMul,Nat.reduceSub,Nat.reduceLT,Nat.reduceLeDiff,Nat.reduceEqDiff,Nat.reduceBEq,Nat.reduceBeqDiff,Int.reduceEq,Int.reduceLT,Int.reduceLE,Int.reduceToNat,Int.reduceNeg,Int.reduceAdd,Int.reduceSub,Int.reduceMul,reduceIte,reduceCtorEq,Nat.reducePow,Nat.reduceDiv,Nat.reduceMod,Int.reduceBEq,TInstr.d,kind_ev fu (n+3) _ h,hk,List.length_map,hg,hle',number_ev fu (n+3),hna,hnb,hsame]
  ·have hle':=hle.resolve_left (by decide)
   have hg:=hgt4 (by decide)
   simp only[go_sem,Nat.reduceAdd,Nat.reduceMul,Nat.reduceSub,Nat.reduceLT,Nat.reduceLeDiff,Nat.reduceEqDiff,Nat.reduceBEq,Nat.reduceBeqDiff,Int.reduceEq,Int.reduceLT,Int.reduceLE,Int.reduceToNat,Int.reduceNeg,Int.reduceAdd,Int.reduceSub,Int.reduceMul,reduceIte,reduceCtorEq,Nat.reducePow,Nat.reduceDiv,Nat.reduceMod,Int.reduceBEq,TInstr.d,kind_ev fu (n+3) _ h,hk,List.length_map,hg,hle',number_ev fu (n+3),hna,hnb,hsame]
  ·have hle':=hle.resolve_left (by decide)
   have hg:=hgt4 (by decide)
   rcases Bool.eq_false_or_eq_true (decide (i.b=0∧i.k=0)) with q1|q1<;>rcases Bool.eq_false_or_eq_true (decide (i.a=0)) with q2|q2<;>rcases Bool.eq_false_or_eq_true (decide (i.a=127)) with q3|q3<;>simp only[go_sem,Nat.reduceAdd,Nat.reduceMul,Nat.reduceSub,Nat.reduceLT,Nat.reduceLeDiff,Nat.reduceEqDiff,Nat.reduceBEq,Nat.reduceBeqDiff,Int.reduceEq,Int.reduceLT,Int.reduceLE,Int.reduceToNat,Int.reduceNeg,Int.reduceAdd,Int.reduceSub,Int.reduceMul,reduceIte,reduceCtorEq,Nat.reducePow,Nat.reduceDiv,Nat.reduceMod,Int.reduceBEq,TInstr.d,kind_ev fu (n+3) _ h,hk,List.length_map,hg,hle',number_ev fu (n+3),hna,hnb,hsame,q1,q2,q3]
  ·have hle':=hle.resolve_left (by decide)
   have hg:=hgt4 (by decide)
   simp only[go_sem,Nat.reduceAdd,Nat.reduceMul,Nat.reduceSub,Nat.reduceLT,Nat.reduceLeDiff,Nat.reduceEqDiff,Nat.reduceBEq,Nat.reduceBeqDiff,Int.reduceEq,Int.reduceLT,Int.reduceLE,Int.reduceToNat,Int.reduceNeg,Int.reduceAdd,Int.reduceSub,Int.reduceMul,reduceIte,reduceCtorEq,Nat.reducePow,Nat.reduceDiv,Nat.reduceMod,Int.reduceBEq,TInstr.d,kind_ev fu (n+3) _ h,hk,List.length_map,hg,hle',number_ev fu (n+3),hna,hnb,hsame]
  ·by_cases hg:(0:Int)<i.labels.length<;>rcases Bool.eq_false_or_eq_true (decide (i.b=0∧i.k=0)) with q1|q1<;>by_cases q2:(i.labels.length:Int)≤64<;>simp only[go_sem,Nat.reduceAdd,Nat.reduceMul,Nat.reduceSub,Nat.reduceLT,Nat.reduceLeDiff,Nat.reduceEqDiff,Nat.reduceBEq,Nat.reduceBeqDiff,Int.reduceEq,Int.reduceLT,Int.reduceLE,Int.reduceToNat,Int.reduceNeg,Int.reduceAdd,Int.reduceSub,Int.reduceMul,reduceIte,reduceCtorEq,Nat.reducePow,Nat.reduceDiv,Nat.reduceMod,Int.reduceBEq,TInstr.d,kind_ev fu (n+3) _ h,hk,List.length_map,hg,number_ev fu (n+3),hna,hnb,hsame,q1,q2,containsN_ev fu n _ hl hs,Bool.not_not,show(i.labels.length≤64)=((i.labels.length:Int)≤64) from by simp only[eq_iff_iff];omega]
  ·have hle':=hle.resolve_left (by decide)
   have hg:=hgt4 (by decide)
   simp only[go_sem,Nat.reduceAdd,Nat.reduceMul,Nat.reduceSub,Nat.reduceLT,Nat.reduceLeDiff,Nat.reduceEqDiff,Nat.reduceBEq,Nat.reduceBeqDiff,Int.reduceEq,Int.reduceLT,Int.reduceLE,Int.reduceToNat,Int.reduceNeg,Int.reduceAdd,Int.reduceSub,Int.reduceMul,reduceIte,reduceCtorEq,Nat.reducePow,Nat.reduceDiv,Nat.reduceMod,Int.reduceBEq,TInstr.d,kind_ev fu (n+3) _ h,hk,List.length_map,hg,hle',number_ev fu (n+3),hna,hnb,hsame]
  ·have hle':=hle.resolve_left (by decide)
   have hg:=hgt4 (by decide)
   simp only[go_sem,Nat.reduceAdd,Nat.reduceMul,Nat.reduceSub,Nat.reduceLT,Nat.reduceLeDiff,Nat.reduceEqDiff,Nat.reduceBEq,Nat.reduceBeqDiff,Int.reduceEq,Int.reduceLT,Int.reduceLE,Int.reduceToNat,Int.reduceNeg,Int.reduceAdd,Int.reduceSub,Int.reduceMul,reduceIte,reduceCtorEq,Nat.reducePow,Nat.reduceDiv,Nat.reduceMod,Int.reduceBEq,TInstr.d,kind_ev fu (n+3) _ h,hk,List.length_map,hg,hle',number_ev fu (n+3),hna,hnb,hsame]
  ·have hle':=hle.resolve_left (by decide)
   have hg:=hgt4 (by decide)
   simp only[go_sem,Nat.reduceAdd,Nat.reduceMul,Nat.reduceSub,Nat.reduceLT,Nat.reduceLeDiff,Nat.reduceEqDiff,Nat.reduceBEq,Nat.reduceBeqDiff,Int.reduceEq,Int.reduceLT,Int.reduceLE,Int.reduceToNat,Int.reduceNeg,Int.reduceAdd,Int.reduceSub,Int.reduceMul,reduceIte,reduceCtorEq,Nat.reducePow,Nat.reduceDiv,Nat.reduceMod,Int.reduceBEq,TInstr.d,kind_ev fu (n+3) _ h,hk,List.length_map,hg,hle',number_ev fu (n+3),hna,hnb,hsame]
  ·have hle':=hle.resolve_left (by decide)
   have hg:=hgt4 (by decide)
   rcases Bool.eq_false_or_eq_true (decide (i.a=0∧i.b=0)) with q1|q1<;>simp only[go_sem,Nat.reduceAdd,Nat.reduceMul,Nat.reduceSub,Nat.reduceLT,Nat.reduceLeDiff,Nat.reduceEqDiff,Nat.reduceBEq,Nat.reduceBeqDiff,Int.reduceEq,Int.reduceLT,Int.reduceLE,Int.reduceToNat,Int.reduceNeg,Int.reduceAdd,Int.reduceSub,Int.reduceMul,reduceIte,reduceCtorEq,Nat.reducePow,Nat.reduceDiv,Nat.reduceMod,Int.reduceBEq,TInstr.d,kind_ev fu (n+3) _ h,hk,List.length_map,hg,hle',number_ev fu (n+3),hna,hnb,hsame,q1]
  ·have hle':=hle.resolve_left (by decide)
   have hg:=hgt4 (by decide)
   simp only[go_sem,Nat.reduceAdd,Nat.reduceMul,Nat.reduceSub,Nat.reduceLT,Nat.reduceLeDiff,Nat.reduceEqDiff,Nat.reduceBEq,Nat.reduceBeqDiff,Int.reduceEq,Int.reduceLT,Int.reduceLE,Int.reduceToNat,Int.reduceNeg,Int.reduceAdd,Int.reduceSub,Int.reduceMul,reduceIte,reduceCtorEq,Nat.reducePow,Nat.reduceDiv,Nat.reduceMod,Int.reduceBEq,TInstr.d,kind_ev fu (n+3) _ h,hk,List.length_map,hg,hle',number_ev fu (n+3),hna,hnb,hsame]
 ·have:((decide (kk=4)||i.labels.isEmpty)&&numB i.a&&numB i.b)=false:=by
   cases h1:((decide (kk=4)||i.labels.isEmpty)&&numB i.a&&numB i.b) with
   |false=>rfl
   |true=>simp only[Bool.and_eq_true,Bool.or_eq_true,decide_eq_true_eq] at h1;exact absurd ⟨h1.1.1,h1.1.2,h1.2⟩ hhead
  rw[this]
  by_cases h4:kk=4
  ·subst h4
   cases hna:numB i.a<;>cases hnb:numB i.b<;>simp only[hna,hnb,true_or,true_and,and_self,not_true,Bool.false_eq_true,false_and,and_false,not_false_eq_true] at hhead<;>simp only[go_sem,Nat.reduceAdd,Nat.reduceMul,Nat.reduceSub,Nat.reduceLT,Nat.reduceLeDiff,Nat.reduceEqDiff,Nat.reduceBEq,Nat.reduceBeqDiff,Int.reduceEq,Int.reduceLT,Int.reduceLE,Int.reduceToNat,Int.reduceNeg,Int.reduceAdd,Int.reduceSub,Int.reduceMul,reduceIte,reduceCtorEq,Nat.reducePow,Nat.reduceDiv,Nat.reduceMod,Int.reduceBEq,TInstr.d,kind_ev fu (n+3) _ h,hk,List.length_map,number_ev fu (n+3),hna,hnb]
  ·by_cases hg:(0:Int)<i.labels.length
   ·simp only[go_sem,Nat.reduceAdd,Nat.reduceMul,Nat.reduceSub,Nat.reduceLT,Nat.reduceLeDiff,Nat.reduceEqDiff,Nat.reduceBEq,Nat.reduceBeqDiff,Int.reduceEq,Int.reduceLT,Int.reduceLE,Int.reduceToNat,Int.reduceNeg,Int.reduceAdd,Int.reduceSub,Int.reduceMul,reduceIte,reduceCtorEq,Nat.reducePow,Nat.reduceDiv,Nat.reduceMod,Int.reduceBEq,TInstr.d,kind_ev fu (n+3) _ h,hk,h4,List.length_map,hg,number_ev fu (n+3)]
   ·have hle:i.labels.isEmpty=true:=by rw[hgt] at hg;simpa using hg
    cases hna:numB i.a<;>cases hnb:numB i.b<;>simp only[hna,hnb,hle,or_true,true_and,and_self,not_true,Bool.false_eq_true,false_and,and_false,not_false_eq_true] at hhead<;>simp only[go_sem,Nat.reduceAdd,Nat.reduceMul,Nat.reduceSub,Nat.reduceLT,Nat.reduceLeDiff,Nat.reduceEqDiff,Nat.reduceBEq,Nat.reduceBeqDiff,Int.reduceEq,Int.reduceLT,Int.reduceLE,Int.reduceToNat,Int.reduceNeg,Int.reduceAdd,Int.reduceSub,Int.reduceMul,reduceIte,reduceCtorEq,Nat.reducePow,Nat.reduceDiv,Nat.reduceMod,Int.reduceBEq,TInstr.d,kind_ev fu (n+3) _ h,hk,h4,List.length_map,hg,number_ev fu (n+3),hna,hnb]
end Go.Proofs.YtfpioigggjnffaaGreatDoor.E
