/- L1, L2. -/
import Derived.Test.YtfpioigggjnffaaGreatDoorS4B
import Derived.Test.YtfpioigggjnffaaGreatDoorEvD
set_option linter.unnecessarySimpa false
set_option linter.unusedSimpArgs false
set_option linter.unusedVariables false
set_option autoImplicit false
set_option maxRecDepth 100000
set_option maxHeartbeats 4000000
set_option pp.maxSteps 20000
namespace Go.Proofs.YtfpioigggjnffaaGreatDoor.E
open Go.Ev
theorem byt_take (m:List Int):(byt m).take m.length=byt m:=List.take_of_length_le (by simp)
theorem U_ev (fu n:Nat) (l:List Int) (v:Int) (hf:10<fu) (h0:0≤v) (h1:v<18446744073709551616) (hl:l.length<1099511627000):
 evF (G fu) (n+2) 149 [.d (.list (byt l)), .d (.int .u64 v)] []=some (.row 0 0 0 (l++uleb v).length,[.row 1 (byt (l++uleb v)) 0 false false]):=by
 have hc:=clone_ev fu n l (by omega)
 rw[evF.eq_2,evX.eq_def,Gext,exts_no _ (f:=149) (by decide),GP,Tryz.func149];simp only[Tryz.f149,evB]
 simp only[go_sem,seval, -Nat.reduceSubDiff,↓reduceIte,reduceCtorEq,hc]
 generalize hr:loopN _ _ _ _ _=r
 obtain⟨x,s1,rfl,hx,rfl,m,v',c,j1,j2,j3,j4,rfl⟩: ∃x s1,r=some (x,s1)∧leaves x∧(x= .exit 0∧∃(m:List Int) (v':Int) (c:Bool),0≤v'∧v'<128∧m++[v']=l++uleb v∧m.length≤l.length+9∧s1=⟨[(1, .d (.int .u64 v')),(5, .row 512 0 0 m.length)],[(512, .row 1 (byt m) 0 false c)]⟩):=by
  rw[←hr]
  refine loop_inv (J:=fun x s1=>x= .exit 0∧∃(m:List Int) (v':Int) (c:Bool),0≤v'∧v'<128∧m++[v']=l++uleb v∧m.length≤l.length+9∧s1=⟨[(1, .d (.int .u64 v')),(5, .row 512 0 0 m.length)],[(512, .row 1 (byt m) 0 false c)]⟩)
   9 (fun i z=> ∃(m:List Int) (v':Int) (c:Bool),0≤v'∧v'<128^(10-i)∧v'<18446744073709551616∧m++ulebF (10-i) v'=l++uleb v∧m.length≤l.length+i∧z=⟨[(1, .d (.int .u64 v')),(5, .row 512 0 0 m.length)],[(512, .row 1 (byt m) 0 false c)]⟩) ?_ ?_ fu _ (by omega)
   ⟨l,v,false,h0,by omega,h1,rfl,by omega,rfl⟩
  ·rintro i z hi ⟨m,v',c,i1,i2,i3,i4,i5,rfl⟩
   obtain⟨k,hk⟩: ∃k,10-i=k+1:=⟨9-i,by omega⟩
   have hk':10-(i+1)=k:=by omega
   rw[hk] at i2 i4
   rw[ulebF] at i4
   by_cases hv:128≤v'
   ·rw[if_pos hv,←List.singleton_append,←List.append_assoc] at i4
    have ht:=byt_take m
    have h7:shr .u64 v' 7=v' / 128:=shr_u64 (x:=v') 7 (by decide)
    have e1:=or128 (c:=v'%256) (by omega) (by omega)
    rw[show v'%256%128=v'%128 by omega] at e1
    have hs:sizedAll 1 [D.int .u8 (v'%128+128)]=true:=rfl
    have hm:m.length≤1099511627775:=by omega
    simp only[go_sem,seval, -Nat.reduceSubDiff,↓reduceIte,reduceCtorEq,hv,wrap_u8_mod,e1,hs,ht,h7,hm]
    have hb:byt m++[D.int .u8 (v'%128+128)]=byt (m++[v'%128+128]):=by simp[byt]
    rw[hb,show m.length+1=(m++[v'%128+128]).length by simp]
    refine⟨_,_,rfl,m++[v'%128+128],v' / 128,true,by omega, ?_,by omega,by rw[hk'];exact i4,by simp;omega,rfl⟩
    rw[hk']
    rw[Int.pow_succ] at i2
    exact Int.ediv_lt_of_lt_mul (by decide) i2
   ·rw[if_neg hv] at i4
    simp only[go_sem,seval, -Nat.reduceSubDiff,↓reduceIte,reduceCtorEq,hv]
    exact⟨_,_,rfl,rfl,m,v',c,i1,by omega,i4,by omega,rfl⟩
  ·rintro z ⟨m,v',c,i1,i2,i3,i4,i5,rfl⟩
   have hv: ¬128≤v':=by omega
   rw[show 10-9=0+1 from rfl,ulebF,if_neg hv] at i4
   simp only[go_sem,seval, -Nat.reduceSubDiff,↓reduceIte,reduceCtorEq,hv]
   exact⟨_,_,rfl,trivial,rfl,m,v',c,i1,by omega,i4,by omega,rfl⟩
 have ht:=byt_take m
 have hs:sizedAll 1 [D.int .u8 v']=true:=rfl
 have e1:v'%256=v':=by omega
 have hm:m.length≤1099511627775:=by omega
 simp only[go_sem,seval, -Nat.reduceSubDiff,↓reduceIte,reduceCtorEq,wrap_u8_mod,e1,hs,ht,hm]
 have hb:byt m++[D.int .u8 v']=byt (m++[v']):=by simp[byt]
 rw[hb,show m.length+1=(m++[v']).length by simp,j3]
theorem S_ev (fu n:Nat) (l:List Int) (v:Int) (hf:10<fu) (h0: -9223372036854775808≤v) (h1:v<9223372036854775808) (hl:l.length<1099511627000):
 evF (G fu) (n+2) 150 [.d (.list (byt l)), .d (.int .i64 v)] []=some (.row 0 0 0 (l++sleb v).length,[.row 1 (byt (l++sleb v)) 0 false false]):=by
 have hc:=clone_ev fu n l (by omega)
 rw[evF.eq_2,evX.eq_def,Gext,exts_no _ (f:=150) (by decide),GP,Tryz.func150];simp only[Tryz.f150,evB]
 simp only[go_sem,seval, -Nat.reduceSubDiff,↓reduceIte,reduceCtorEq,hc]
 generalize hr:loopN _ _ _ _ _=r
 obtain⟨x,s1,rfl,hx,rfl,m,v',c,j1,j2,j3,j4,rfl⟩: ∃x s1,r=some (x,s1)∧leaves x∧(x= .exit 0∧∃(m:List Int) (v':Int) (c:Bool), -64≤v'∧v'<64∧m++[v'%128]=l++sleb v∧m.length≤l.length+9∧s1=⟨[(1, .d (.int .i64 v')),(5, .row 512 0 0 m.length)],[(512, .row 1 (byt m) 0 false c)]⟩):=by
  rw[←hr]
  refine loop_inv (J:=fun x s1=>x= .exit 0∧∃(m:List Int) (v':Int) (c:Bool), -64≤v'∧v'<64∧m++[v'%128]=l++sleb v∧m.length≤l.length+9∧s1=⟨[(1, .d (.int .i64 v')),(5, .row 512 0 0 m.length)],[(512, .row 1 (byt m) 0 false c)]⟩)
   9 (fun i z=> ∃(m:List Int) (v':Int) (c:Bool), -64*128^(9-i)≤v'∧v'<64*128^(9-i)∧(-9223372036854775808≤v'∧v'<9223372036854775808)∧m++slebF (10-i) v'=l++sleb v∧m.length≤l.length+i∧z=⟨[(1, .d (.int .i64 v')),(5, .row 512 0 0 m.length)],[(512, .row 1 (byt m) 0 false c)]⟩) ?_ ?_ fu _ (by omega)
   ⟨l,v,false,by omega,by omega,⟨h0,h1⟩,rfl,by omega,rfl⟩
  ·rintro i z hi ⟨m,v',c,i1,i2,i3,i4,i5,rfl⟩
   obtain⟨k,hk⟩: ∃k,9-i=k+1:=⟨8-i,by omega⟩
   have hk':9-(i+1)=k:=by omega
   have hk2:10-i=(k+1)+1:=by omega
   have hk3:10-(i+1)=k+1:=by omega
   rw[hk] at i1 i2
   rw[hk2,slebF] at i4
   by_cases hv:v'< -64∨v'≥64
   ·rw[if_pos hv,←List.singleton_append,←List.append_assoc] at i4
    have ht:=byt_take m
    have h7:shr .i64 v' 7=v' / 128:=by
     show Int.fdiv v' (2^(min (7:Int).toNat 64))=_
     rw[Int.fdiv_eq_ediv_of_nonneg _ (by decide)];rfl
    have e1:=or128 (c:=v'%256) (by omega) (by omega)
    rw[show v'%256%128=v'%128 by omega] at e1
    have hs:sizedAll 1 [D.int .u8 (v'%128+128)]=true:=rfl
    have hm:m.length≤1099511627775:=by omega
    have goal: ∃x s1,some (Ex.normal,(⟨[(1, .d (.int .i64 (v' / 128))),(5, .row 512 0 0 (m.length+1))],[(512, .row 1 (byt m++[.int .u8 (v'%128+128)]) 0 false true)]⟩:St))=some (x,s1)∧match x with
     | .normal=> ∃(m:List Int) (v':Int) (c:Bool), -64*128^(9-(i+1))≤v'∧v'<64*128^(9-(i+1))∧(-9223372036854775808≤v'∧v'<9223372036854775808)∧m++slebF (10-(i+1)) v'=l++sleb v∧m.length≤l.length+(i+1)∧s1=⟨[(1, .d (.int .i64 v')),(5, .row 512 0 0 m.length)],[(512, .row 1 (byt m) 0 false c)]⟩
     |x=>x= .exit 0∧∃(m:List Int) (v':Int) (c:Bool), -64≤v'∧v'<64∧m++[v'%128]=l++sleb v∧m.length≤l.length+9∧s1=⟨[(1, .d (.int .i64 v')),(5, .row 512 0 0 m.length)],[(512, .row 1 (byt m) 0 false c)]⟩:=by
     have hb:byt m++[D.int .u8 (v'%128+128)]=byt (m++[v'%128+128]):=by simp[byt]
     rw[hb,show m.length+1=(m++[v'%128+128]).length by simp]
     refine⟨_,_,rfl,m++[v'%128+128],v' / 128,true, ?_, ?_,by omega,by rw[hk3];exact i4,by simp;omega,rfl⟩
     ·rw[hk']
      rw[Int.pow_succ,←Int.mul_assoc] at i1
      exact(Int.le_ediv_iff_mul_le (by decide)).2 i1
     ·rw[hk']
      rw[Int.pow_succ,←Int.mul_assoc] at i2
      exact Int.ediv_lt_of_lt_mul (by decide) i2
    by_cases hv1:v'< -64
    ·simp only[go_sem,seval, -Nat.reduceSubDiff,↓reduceIte,reduceCtorEq,hv1,wrap_u8_mod,e1,hs,ht,h7,hm]
     exact goal
    ·have hv2:64≤v':=by omega
     simp only[go_sem,seval, -Nat.reduceSubDiff,↓reduceIte,reduceCtorEq,hv1,hv2,wrap_u8_mod,e1,hs,ht,h7,hm]
     exact goal
   ·rw[if_neg hv] at i4
    have hv1: ¬v'< -64:=by omega
    have hv2: ¬64≤v':=by omega
    simp only[go_sem,seval, -Nat.reduceSubDiff,↓reduceIte,reduceCtorEq,hv1,hv2]
    exact⟨_,_,rfl,rfl,m,v',c,by omega,by omega,i4,by omega,rfl⟩
  ·rintro z ⟨m,v',c,i1,i2,i3,i4,i5,rfl⟩
   have hv1: ¬v'< -64:=by omega
   have hv2: ¬64≤v':=by omega
   rw[show 10-9=0+1 from rfl,slebF,if_neg (by omega)] at i4
   simp only[go_sem,seval, -Nat.reduceSubDiff,↓reduceIte,reduceCtorEq,hv1,hv2]
   exact⟨_,_,rfl,trivial,rfl,m,v',c,by omega,by omega,i4,by omega,rfl⟩
 have ht:=byt_take m
 have hs:sizedAll 1 [D.int .u8 (v'%128)]=true:=rfl
 have e1:=and127 (c:=v'%256) (by omega) (by omega)
 rw[show v'%256%128=v'%128 by omega] at e1
 have hm:m.length≤1099511627775:=by omega
 simp only[go_sem,seval, -Nat.reduceSubDiff,↓reduceIte,reduceCtorEq,wrap_u8_mod,e1,hs,ht,hm]
 have hb:byt m++[D.int .u8 (v'%128)]=byt (m++[v'%128]):=by simp[byt]
 rw[hb,show m.length+1=(m++[v'%128]).length by simp,j3]
end Go.Proofs.YtfpioigggjnffaaGreatDoor.E
set_option autoImplicit false
set_option maxRecDepth 100000
set_option maxHeartbeats 4000000
set_option pp.maxSteps 20000
namespace Go.Proofs.YtfpioigggjnffaaGreatDoor.E
open Go.Ev
theorem taker_ev (fu n:Nat) (l:List Int) (x:Int):evF (G fu) (n+1) 219 [.d (.list (byt l)), .ptr 0 0] [.cells [.d (.int .i64 x)]]=some (.fn (.func 223) [] [.ptr 1 0, .ptr 2 0],[.cells [.d (.int .i64 x)], .cells [.ptr 0 0], .cells [.d (.list (byt l))]]):=by
 rw[evF.eq_2,evX.eq_def,Gext,exts_no _ (f:=219) (by decide),GP,Tryz.func219];simp only[Tryz.f219,evB]
 simp only[go_sem,seval, -Nat.reduceSubDiff,↓reduceIte,reduceCtorEq]
theorem take_no (fu n:Nat) (l:List Int) (x:Nat) (hx:l.length≤x):evF (G fu) (n+1) 223 [.ptr 0 0, .ptr 2 0] [.cells [.ptr 1 0], .cells [.d (.int .i64 x)], .cells [.d (.list (byt l))]]=
 some (.tup [.d (.int .u8 0), .d (.int .i64 2)],[.cells [.ptr 1 0], .cells [.d (.int .i64 x)], .cells [.d (.list (byt l))]]):=by
 have h:(l.length:Int)≤x:=by omega
 rw[evF.eq_2,evX.eq_def,Gext,exts_no _ (f:=223) (by decide),GP,Tryz.func223];simp only[Tryz.f223,evB]
 simp only[go_sem,seval, -Nat.reduceSubDiff,↓reduceIte,reduceCtorEq,byt_len,h]
theorem take_yes (fu n:Nat) (l:List Int) (x:Nat) (hx:x<l.length) (hl:l.length<1099511627000):evF (G fu) (n+1) 223 [.ptr 0 0, .ptr 2 0] [.cells [.ptr 1 0], .cells [.d (.int .i64 x)], .cells [.d (.list (byt l))]]=
 some (.tup [.d (.int .u8 (l.getD x 0)), .d (.int .i64 0)],[.cells [.ptr 1 0], .cells [.d (.int .i64 ((x+1:Nat):Int))], .cells [.d (.list (byt l))]]):=by
 have h: ¬(l.length:Int)≤x:=by omega
 have h':(x:Int)<l.length:=by omega
 have hg:(byt l)[x]? =some (.int .u8 (l.getD x 0)):=getD_map hx
 have w1:=wrap_i64 (show-9223372036854775808≤(x:Int)+1 by omega) (by omega)
 rw[evF.eq_2,evX.eq_def,Gext,exts_no _ (f:=223) (by decide),GP,Tryz.func223];simp only[Tryz.f223,evB]
 simp only[go_sem,seval, -Nat.reduceSubDiff,↓reduceIte,reduceCtorEq,byt_len,h,h',idx,hg,w1]
 rfl
theorem or_join {q y:Int} {i:Nat} (hq0:0≤q) (hq:q<2^i) (hi:i≤64) (hy0:0≤y) (hy:y<18446744073709551616) (hm:y%2^i=0) (hs:q+y<18446744073709551616):bits2 .or .u64 q y=q+y:=by
 have hi2:(2:Int)^i≤2^64:=by exact_mod_cast Nat.pow_le_pow_right (by decide) hi
 obtain⟨a,rfl⟩:=Int.eq_ofNat_of_zero_le hq0
 obtain⟨b,rfl⟩:=Int.eq_ofNat_of_zero_le hy0
 show IntKind.wrap .u64 ((BitVec.ofInt 64 (a:Int)|||BitVec.ofInt 64 (b:Int)).toNat:Int)=_
 rw[BitVec.toNat_or,ofInt_toNat (by omega) (by omega),ofInt_toNat (by omega) (by omega),Int.toNat_natCast,Int.toNat_natCast]
 have ha:a<2^i:=by exact_mod_cast hq
 have hb:b%2^i=0:=by exact_mod_cast hm
 have e:b=2^i*(b / 2^i):=by have:=Nat.div_add_mod b (2^i);omega
 have h:=Nat.two_pow_add_eq_or_of_lt ha (b / 2^i)
 rw[←e] at h
 rw[Nat.or_comm,←h,wrap_u64 (by omega) (by omega)]
 omega
theorem join_eq {q c:Int} {n:Nat} (hq0:0≤q) (hq:q<2^(7*n)) (hn:n≤9) (h0:0≤c) (h1:c<256):bits2 .or .u64 q (shl .u64 (c%128) (7*(n:Int)))=(q+c%128*2^(7*n))%18446744073709551616:=by
 have e:shl .u64 (c%128) (7*(n:Int))=c%128*2^(7*n)%18446744073709551616:=by
  unfold shl
  rw[show(7*(n:Int)).toNat=7*n by omega,show IntKind.bits .u64=64 from rfl,Nat.min_eq_left (by omega),wrap_u64_mod]
 rw[e]
 rcases(by omega:n=0∨n=1∨n=2∨n=3∨n=4∨n=5∨n=6∨n=7∨n=8∨n=9) with rfl|rfl|rfl|rfl|rfl|rfl|rfl|rfl|rfl|rfl<;>
  simp only[Nat.reduceMul,Int.reducePow] at hq ⊢ <;>rw[or_join hq0 (i:=_) (by first|exact hq|(show _<(2:Int)^0;simpa using hq)|(show _<(2:Int)^7;simpa using hq)|(show _<(2:Int)^14;simpa using hq)|(show _<(2:Int)^21;simpa using hq)|(show _<(2:Int)^28;simpa using hq)|(show _<(2:Int)^35;simpa using hq)|(show _<(2:Int)^42;simpa using hq)|(show _<(2:Int)^49;simpa using hq)|(show _<(2:Int)^56;simpa using hq)|(show _<(2:Int)^63;simpa using hq)) (by decide) (by omega) (by omega) (by simp only[Int.reducePow];omega)]<;>omega
theorem val_append (a b:List Int):val (a++b)=val a+128^a.length*val b:=by
 induction a with
 |nil=>simp[val]
 |cons c a ih=>
  simp only[List.cons_append,val,ih,List.length_cons,Int.pow_succ]
  rw[Int.mul_add,←Int.mul_assoc,Int.mul_comm (128^a.length) 128,Int.add_assoc]
theorem lastB_append (a:List Int) {b:List Int} (h:b≠[]):lastB (a++b)=lastB b:=by
 induction a with
 |nil=>rfl
 |cons c a ih=>rw[List.cons_append,lastB_cons c (by simp[h]),ih]
def readR (x:Int):Except Int (List Int)→V
 | .error e=> .tup [.d (.int .u64 0), .d (.int .i64 0), .d (.int .u8 0), .d (.int .i64 0), .d (.int .i64 e)]
 | .ok ds=> .tup [.d (.int .u64 (val ds%18446744073709551616)), .d (.int .i64 (7*(ds.length:Int))), .d (.int .u8 (lastB ds)), .d (.int .i64 (x+ds.length)), .d (.int .i64 0)]
def readS (x:Int):Except Int (List Int)→St
 | .error e=>⟨[(6, .d (.int .u64 0)),(7, .d (.int .i64 0)),(8, .d (.int .u8 0)),(9, .d (.int .i64 0)),(10, .d (.int .i64 e))],[]⟩
 | .ok ds=>⟨[(6, .d (.int .u64 (val ds%18446744073709551616))),(7, .d (.int .i64 (7*(ds.length:Int)))),(8, .d (.int .u8 (lastB ds))),(9, .d (.int .i64 (x+ds.length))),(10, .d (.int .i64 0))],[]⟩
def preS (pre:List Int):Except Int (List Int)→Except Int (List Int)
 | .error e=> .error e
 | .ok ds=> .ok (pre++ds)
theorem read_ev (fu n:Nat) (l:List Int) (hb:Bs l) (x:Nat) (size:Int) (m:Nat) (hf:10<fu) (h0:1≤size) (h1:size≤64) (hm:(size+6) / 7=((m+1:Nat):Int)) (hx:x≤l.length) (hl:l.length<1099511627000):
 evF (G fu) (n+3) 200 [.d (.list (byt l)), .d (.int .i64 x), .d (.int .i64 size)] []=some (readR x (scan (m+1) (l.drop x)),[]):=by
 have a1: ¬size<1:=by omega
 have a2: ¬64<size:=by omega
 have a3: ¬(x:Int)<0:=by omega
 have a4: ¬(l.length:Int)<x:=by omega
 have w1:=wrap_i64 (show-9223372036854775808≤size+7 by omega) (by omega)
 have w2:=wrap_i64 (show-9223372036854775808≤size+7-1 by omega) (by omega)
 have w3:(size+7-1).tdiv 7=((m+1:Nat):Int):=by rw[Int.tdiv_eq_ediv_of_nonneg (by omega),←hm];congr 1;omega
 have w4:=wrap_i64 (show-9223372036854775808≤((m+1:Nat):Int) by omega) (by omega)
 have ht:=taker_ev fu (n+1) l x
 rw[evF.eq_2,evX.eq_def,Gext,exts_no _ (f:=200) (by decide),GP,Tryz.func200];simp only[Tryz.f200,evB]
 simp only[go_sem,seval, -Nat.reduceSubDiff,↓reduceIte,reduceCtorEq,a1,a2,a3,a4,byt_len,w1,w2,ht,w3,w4]
 generalize hr:loopN _ _ _ _ _=r
 obtain⟨y,s1,rfl,hy,rfl,rfl⟩: ∃y s1,r=some (y,s1)∧leaves y∧(y= .ret∧s1=readS x (scan (m+1) (l.drop x))):=by
  rw[←hr]
  refine loop_inv (J:=fun y s1=>y= .ret∧s1=readS x (scan (m+1) (l.drop x)))
   m (fun i z=> ∃(pre:List Int),pre.length=i∧x+i≤l.length∧scan (m+1) (l.drop x)=preS pre (scan (m+1-i) (l.drop (x+i)))∧
     z=⟨[(4, .ptr 320 0),(11, .fn (.func 223) [] [.ptr 2240 0, .ptr 2241 0]),(12, .d (.int .i64 ((m+1:Nat):Int))),(13, .d (.int .u64 (val pre))),(14, .d (.int .i64 i))],[(320, .cells [.d (.int .i64 ((x+i:Nat):Int))]),(2240, .cells [.ptr 320 0]),(2241, .cells [.d (.list (byt l))])]⟩) ?_ ?_ fu _ (by omega)
   ⟨[],rfl,hx,by simp only[Nat.add_zero,Nat.sub_zero];cases scan (m+1) (l.drop x)<;>rfl,rfl⟩
  ·rintro i z hi ⟨pre,i1,i2,i3,rfl⟩
   rcases Nat.lt_or_ge (x+i) l.length with h|h
   ·have hy:=take_yes fu (n+1) l (x+i) h hl
    have hc:=hb (l.getD (x+i) 0) (by rw[List.getD_eq_getElem?_getD,List.getElem?_eq_getElem h];exact List.getElem_mem h)
    have hd:l.drop (x+i)=l.getD (x+i) 0::l.drop (x+(i+1)):=by
     rw[List.drop_eq_getElem_cons h,List.getD_eq_getElem?_getD,List.getElem?_eq_getElem h];rfl
    obtain⟨k,hk⟩: ∃k,m+1-i=(k+1)+1:=⟨m-i-1,by omega⟩
    have hk':m+1-(i+1)=k+1:=by omega
    rw[hk,hd,scan] at i3
    generalize l.getD (x+i) 0=c at*
    have W1:IntKind.wrap .u64 (c%128)=c%128:=wrap_u64 (by omega) (by omega)
    have W2:=wrap_i64 (show-9223372036854775808≤7*(i:Int) by omega) (by omega)
    have W3:=wrap_i64 (show-9223372036854775808≤(i:Int)+1 by omega) (by omega)
    have W4:=wrap_i64 (show-9223372036854775808≤7*((i:Int)+1) by omega) (by omega)
    have s0: ¬7*(i:Int)<0:=by omega
    have e1:=and127 hc.1 hc.2
    have hv:=val_lt pre
    rw[i1] at hv
    have hj:=join_eq (q:=val pre) (c:=c) (n:=i) (val_nonneg pre) (by rw[Int.pow_mul];exact hv) (by omega) hc.1 hc.2
    have hva:val (pre++[c])=val pre+c%128*2^(7*i):=by
     rw[val_append,i1,Int.pow_mul]
     simp only[val,Int.mul_zero,Int.add_zero]
     rw[Int.mul_comm];rfl
    by_cases h8:c<128
    ·rw[if_pos h8] at i3
     simp only[go_sem,seval, -Nat.reduceSubDiff,↓reduceIte,reduceCtorEq,hy,e1,W1,W2,W3,W4,s0,hj,h8]
     refine⟨_,_,rfl,rfl, ?_⟩
     rw[i3]
     simp only[preS,readS,hva,lastB_append pre (List.cons_ne_nil c []),lastB,List.length_append,i1,List.length_singleton]
     first|rfl|(simp only[Int.natCast_add,Int.add_assoc];done)|(simp only[Int.natCast_add,Int.add_assoc];rfl)
    ·have hne: ¬(i:Int)+1=((m+1:Nat):Int):=by omega
     simp only[go_sem,seval, -Nat.reduceSubDiff,↓reduceIte,reduceCtorEq,hy,e1,W1,W2,W3,W4,s0,hj,h8,hne]
     have hvl:=val_lt (pre++[c])
     rw[List.length_append,i1,List.length_singleton] at hvl
     have hp9:=pow_mono (show i+1≤9 by omega)
     have hvm:(val pre+c%128*2^(7*i))%18446744073709551616=val (pre++[c]):=by
      rw[←hva]
      exact Int.emod_eq_of_lt (val_nonneg _) (by omega)
     rw[hvm]
     refine⟨_,_,rfl,pre++[c],by simp[i1],by omega, ?_,rfl⟩
     rw[if_neg h8] at i3
     rw[hk',i3]
     cases scan (k+1) (l.drop (x+(i+1))) with
     |error e=>rfl
     |ok ds=>simp[preS]
   ·have hn:=take_no fu (n+1) l (x+i) h
    obtain⟨k,hk⟩: ∃k,m+1-i=k+1:=⟨m-i,by omega⟩
    rw[hk,List.drop_eq_nil_of_le h,scan] at i3
    simp only[go_sem,seval, -Nat.reduceSubDiff,↓reduceIte,reduceCtorEq,hn]
    exact⟨_,_,rfl,rfl,by rw[i3];rfl⟩
  ·rintro z ⟨pre,i1,i2,i3,rfl⟩
   rcases Nat.lt_or_ge (x+m) l.length with h|h
   ·have hy:=take_yes fu (n+1) l (x+m) h hl
    have hc:=hb (l.getD (x+m) 0) (by rw[List.getD_eq_getElem?_getD,List.getElem?_eq_getElem h];exact List.getElem_mem h)
    have hd:l.drop (x+m)=l.getD (x+m) 0::l.drop (x+(m+1)):=by
     rw[List.drop_eq_getElem_cons h,List.getD_eq_getElem?_getD,List.getElem?_eq_getElem h];rfl
    rw[show m+1-m=0+1 by omega,hd,scan] at i3
    generalize l.getD (x+m) 0=c at*
    have W1:IntKind.wrap .u64 (c%128)=c%128:=wrap_u64 (by omega) (by omega)
    have W2:=wrap_i64 (show-9223372036854775808≤7*(m:Int) by omega) (by omega)
    have W3:=wrap_i64 (show-9223372036854775808≤(m:Int)+1 by omega) (by omega)
    have W4:=wrap_i64 (show-9223372036854775808≤7*((m:Int)+1) by omega) (by omega)
    have s0: ¬7*(m:Int)<0:=by omega
    have e1:=and127 hc.1 hc.2
    have hv:=val_lt pre
    rw[i1] at hv
    have hj:=join_eq (q:=val pre) (c:=c) (n:=m) (val_nonneg pre) (by rw[Int.pow_mul];exact hv) (by omega) hc.1 hc.2
    have hva:val (pre++[c])=val pre+c%128*2^(7*m):=by
     rw[val_append,i1,Int.pow_mul]
     simp only[val,Int.mul_zero,Int.add_zero]
     rw[Int.mul_comm];rfl
    by_cases h8:c<128
    ·rw[if_pos h8] at i3
     simp only[go_sem,seval, -Nat.reduceSubDiff,↓reduceIte,reduceCtorEq,hy,e1,W1,W2,W3,W4,s0,hj,h8]
     refine⟨_,_,rfl,trivial,rfl, ?_⟩
     rw[i3]
     simp only[preS,readS,hva,lastB_append pre (List.cons_ne_nil c []),lastB,List.length_append,i1,List.length_singleton]
     first|rfl|(simp only[Int.natCast_add,Int.add_assoc];done)|(simp only[Int.natCast_add,Int.add_assoc];rfl)
    ·have hne:(m:Int)+1=((m+1:Nat):Int):=by omega
     rw[if_neg h8,scan] at i3
     simp only[go_sem,seval, -Nat.reduceSubDiff,↓reduceIte,reduceCtorEq,hy,e1,W1,W2,W3,W4,s0,hj,h8,hne,w4]
     exact⟨_,_,rfl,trivial,rfl,by rw[i3];rfl⟩
   ·have hn:=take_no fu (n+1) l (x+m) h
    rw[show m+1-m=0+1 by omega,List.drop_eq_nil_of_le h,scan] at i3
    simp only[go_sem,seval, -Nat.reduceSubDiff,↓reduceIte,reduceCtorEq,hn]
    exact⟨_,_,rfl,trivial,rfl,by rw[i3];rfl⟩
 cases scan (m+1) (l.drop x)<;>simp only[go_sem,seval, -Nat.reduceSubDiff,↓reduceIte,reduceCtorEq,readS,readR]
end Go.Proofs.YtfpioigggjnffaaGreatDoor.E
