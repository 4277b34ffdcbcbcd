/- L7, L8. -/
import Derived.Test.YtfpioigggjnffaaGreatDoorL5
import Derived.Test.YtfpioigggjnffaaGreatDoorF6
set_option linter.unnecessarySimpa false
set_option linter.unusedSimpArgs false
set_option linter.unusedVariables false
set_option autoImplicit false
set_option maxRecDepth 100000
set_option maxHeartbeats 4000000
set_option pp.maxSteps 20000
namespace Go.Proofs.YtfpioigggjnffaaGreatDoor.E
open Go.Ev
theorem byt_app (l:List Int) (v:Int):byt l++[D.int .u8 v]=byt (l++[v]):=by simp[byt]
theorem len_app (l:List Int) (v:Int):l.length+1=(l++[v]).length:=by simp
def putR (l:List Int) (i:TInstr):Option Res:=if saneF i then some (.tup [.row 0 0 0 (l++enc i).length, .d (.int .i64 0)],[.row 1 (byt (l++enc i)) 0 false false]) else some (.tup [.row 0 0 0 0, .d (.int .i64 1)],[.row 1 [] 0 false false])
theorem Put_ev (fu n:Nat) (l:List Int) (i:TInstr) (hc:Cok i) (hf:70<fu) (hi:i.labels.length<fu) (hs:i.labels.length<1000000) (hl:l.length<1099511000000):
 evF (G fu) (n+6) 85 [.d (.list (byt l)), .d i.d] []=putR l i:=by
 have hsn:=sane_ev fu n i (by omega) hi hs
 unfold putR
 cases hsan:saneF i with
 |false=>
  rw[hsan] at hsn
  simp only[TInstr.d] at hsn ⊢
  rw[evF.eq_2,evX.eq_def,Gext,exts_no _ (f:=85) (by decide),GP,Tryz.func85];simp only[Tryz.f85,evB]
  simp only[go_sem,seval, -Nat.reduceSubDiff,↓reduceIte,reduceCtorEq,hsn]
 |true=>
  have San:=(saneF_iff i).1 hsan
  rw[hsan] at hsn
  have hcl:=clone_ev fu (n+4) l (by omega)
  have hop:=kd_byte San.1
  have hkk:=kind_ev fu (n+4) i.op (by omega)
  obtain⟨op,a,b,k,ls⟩:=i
  simp only[TInstr.d] at hsn ⊢
  simp only at hop hkk
  have W0:IntKind.wrap .u8 op=op:=wrap_u8 hop.1 (by omega)
  have ht:=byt_take l
  have hz1: ∀v:Int,sizedAll 1 [D.int .u8 v]=true:=fun v=>rfl
  have hl1:l.length≤1099511627775:=by omega
  have hk:=kd_in op
  obtain⟨sa0,sa,sb,snl,s17,s2,s35,s4,s6,s8,s9⟩:=San
  simp only at sa0 sa sb snl s17 s2 s35 s4 s6 s8 s9
  have Wa:IntKind.wrap .u64 a=a:=wrap_u64 sa.1 (by have:=sa.2;omega)
  rcases hk with hk|hk|hk|hk|hk|hk|hk|hk|hk|hk<;>rw[hk] at hkk
  ·exact absurd hk sa0
  all_goals
   obtain⟨m,hm⟩: ∃m,m=l++[op]:=⟨_,rfl⟩
   have hml:m.length=l.length+1:=by rw[hm];simp
   have hE: ∀T,l++op::T=m++T:=fun T=>by rw[hm];simp
   have ht2:=byt_take m
   have hl2:m.length≤1099511627775:=by omega
   have hl3:m.length<1099511627000:=by omega
  ·
   simp only[enc,tl,hk,hE,List.append_nil,Int.reduceEq,if_false]
   rw[evF.eq_2,evX.eq_def,Gext,exts_no _ (f:=85) (by decide),GP,Tryz.func85];simp only[Tryz.f85,evB]
   simp only[go_sem,seval, -Nat.reduceSubDiff,↓reduceIte,reduceCtorEq,hsn,hcl,W0,ht,hz1,hl1]
   rw[cond_free]
   rotate_left
   ·rfl
   rw[byt_app,len_app l op,←hm]
   simp only[go_sem,seval, -Nat.reduceSubDiff,↓reduceIte,reduceCtorEq,hkk,ht2,hz1,hl2,hE]
  ·
   have ha:=(s2 hk).2.2
   simp only[enc,tl,hk,hE,Int.reduceEq,if_false,if_true]
   rcases ha with rfl|rfl|rfl
   ·simp only[Int.reduceEq,if_false,if_true]
    rw[evF.eq_2,evX.eq_def,Gext,exts_no _ (f:=85) (by decide),GP,Tryz.func85];simp only[Tryz.f85,evB]
    simp only[go_sem,seval, -Nat.reduceSubDiff,↓reduceIte,reduceCtorEq,hsn,hcl,W0,ht,hz1,hl1]
    rw[cond_free]
    rotate_left
    ·rfl
    rw[byt_app,len_app l op,←hm]
    simp only[go_sem,seval, -Nat.reduceSubDiff,↓reduceIte,reduceCtorEq,hkk,ht2,hz1,hl2,maxV,show max (0:Int) 64=64 from rfl,show IntKind.wrap .u8 64=64 from rfl]
    rw[byt_app,len_app _ 64]
   ·simp only[Int.reduceEq,if_false,if_true]
    rw[evF.eq_2,evX.eq_def,Gext,exts_no _ (f:=85) (by decide),GP,Tryz.func85];simp only[Tryz.f85,evB]
    simp only[go_sem,seval, -Nat.reduceSubDiff,↓reduceIte,reduceCtorEq,hsn,hcl,W0,ht,hz1,hl1]
    rw[cond_free]
    rotate_left
    ·rfl
    rw[byt_app,len_app l op,←hm]
    simp only[go_sem,seval, -Nat.reduceSubDiff,↓reduceIte,reduceCtorEq,hkk,ht2,hz1,hl2,maxV,show max (127:Int) 64=127 from rfl,show IntKind.wrap .u8 127=127 from rfl]
    rw[byt_app,len_app _ 127]
   ·simp only[Int.reduceEq,if_false,if_true]
    rw[evF.eq_2,evX.eq_def,Gext,exts_no _ (f:=85) (by decide),GP,Tryz.func85];simp only[Tryz.f85,evB]
    simp only[go_sem,seval, -Nat.reduceSubDiff,↓reduceIte,reduceCtorEq,hsn,hcl,W0,ht,hz1,hl1]
    rw[cond_free]
    rotate_left
    ·rfl
    rw[byt_app,len_app l op,←hm]
    simp only[go_sem,seval, -Nat.reduceSubDiff,↓reduceIte,reduceCtorEq,hkk,ht2,hz1,hl2,maxV,show max (126:Int) 64=126 from rfl,show IntKind.wrap .u8 126=126 from rfl]
    rw[byt_app,len_app _ 126]
  ·
   have hu:=U_ev fu (n+3) m a (by omega) sa.1 (by have:=sa.2;omega) hl3
   simp only[enc,tl,hk,hE,Int.reduceEq,if_false,if_true]
   rw[evF.eq_2,evX.eq_def,Gext,exts_no _ (f:=85) (by decide),GP,Tryz.func85];simp only[Tryz.f85,evB]
   simp only[go_sem,seval, -Nat.reduceSubDiff,↓reduceIte,reduceCtorEq,hsn,hcl,W0,ht,hz1,hl1]
   rw[cond_free]
   rotate_left
   ·rfl
   rw[byt_app,len_app l op,←hm]
   simp only[go_sem,seval, -Nat.reduceSubDiff,↓reduceIte,reduceCtorEq,hkk,ht2,hz1,hl2,hu,Wa]
  ·
   obtain⟨_,_,h64,hnum⟩:=s4 hk
   have hu:=U_ev fu (n+3) m (ls.length:Int) (by omega) (by omega) (by omega) hl3
   have WL:=wrap_u64 (show(0:Int)≤ls.length by omega) (by omega)
   simp only[enc,tl,hk,hE,Int.reduceEq,if_false,if_true]
   rw[evF.eq_2,evX.eq_def,Gext,exts_no _ (f:=85) (by decide),GP,Tryz.func85];simp only[Tryz.f85,evB]
   simp only[go_sem,seval, -Nat.reduceSubDiff,↓reduceIte,reduceCtorEq,hsn,hcl,W0,ht,hz1,hl1]
   rw[cond_free]
   rotate_left
   ·rfl
   rw[byt_app,len_app l op,←hm]
   simp only[go_sem,seval, -Nat.reduceSubDiff,↓reduceIte,reduceCtorEq,hkk,ht2,hz1,hl2,hu,WL,List.length_map]
   have hPl: ∀j,(m++uleb ls.length++(ls.take j).flatMap uleb).length<1099511000000+700:=fun j=>by
    have h1:=ulebF_len 10 ls.length
    have h2:=flat_len (ls.take j)
    have h3:(ls.take j).length≤64:=by rw[List.length_take];omega
    simp only[List.length_append,uleb]
    omega
   generalize hr:loopN _ _ _ _ _=r
   obtain⟨x,s1,rfl,hx,rfl,K,hK,rfl⟩: ∃x s1,r=some (x,s1)∧leaves x∧(x= .exit 1∧∃K,(K=2496∨K=3200∨K=195200)∧s1=⟨[(3, .ptr 256 0),(6, .row K 0 0 (m++uleb ls.length++ls.flatMap uleb).length)],[(256, .cells [.d (.int .i64 op), .d (.int .i64 a), .d (.int .i64 b), .d (.int .u64 k), .d (.list (ls.map (D.int .i64)))]),(K, .row 1 (byt (m++uleb ls.length++ls.flatMap uleb)) 0 false false)]⟩):=by
    rw[←hr]
    refine loop_inv (J:=fun x s1=>x= .exit 1∧∃K,(K=2496∨K=3200∨K=195200)∧s1=⟨[(3, .ptr 256 0),(6, .row K 0 0 (m++uleb ls.length++ls.flatMap uleb).length)],[(256, .cells [.d (.int .i64 op), .d (.int .i64 a), .d (.int .i64 b), .d (.int .u64 k), .d (.list (ls.map (D.int .i64)))]),(K, .row 1 (byt (m++uleb ls.length++ls.flatMap uleb)) 0 false false)]⟩)
     ls.length (fun j z=> ∃K,(K=2496∨K=3200∨K=195200)∧z=⟨[(3, .ptr 256 0),(6, .row K 0 0 (m++uleb ls.length++(ls.take j).flatMap uleb).length),(40, .d (.list (ls.map (D.int .i64)))),(41, .d (.int .i64 ls.length)),(42, .d (.int .i64 j))],[(256, .cells [.d (.int .i64 op), .d (.int .i64 a), .d (.int .i64 b), .d (.int .u64 k), .d (.list (ls.map (D.int .i64)))]),(K, .row 1 (byt (m++uleb ls.length++(ls.take j).flatMap uleb)) 0 false false)]⟩) ?_ ?_ fu _ (by simp only at hi;omega) ⟨2496, .inl rfl,by simp⟩
    ·rintro j z hj ⟨K,hK,rfl⟩
     have hx:(ls.map (D.int .i64))[j]? =some (.int .i64 (ls.getD j 0)):=getD_map hj
     have hv:ls.getD j 0∈ls:=by
      rw[List.getD_eq_getElem?_getD,List.getElem?_eq_getElem hj];exact List.getElem_mem hj
     have hn:=hnum _ hv
     have hjI:(j:Int)<ls.length:=by omega
     have hP:(ls.take (j+1)).flatMap uleb=(ls.take j).flatMap uleb++uleb (ls.getD j 0):=by
      rw[List.take_add_one,List.flatMap_append,List.getD_eq_getElem?_getD,List.getElem?_eq_getElem hj]
      simp
     have hq:=hPl j
     have hv:=U_ev fu (n+3) (m++uleb ls.length++(ls.take j).flatMap uleb) (ls.getD j 0) (by omega) hn.1 (by have:=hn.2;omega) (by omega)
     have Wj:=wrap_i64 (show-9223372036854775808≤(j:Int)+1 by omega) (by omega)
     have Wv:IntKind.wrap .u64 (ls.getD j 0)=ls.getD j 0:=wrap_u64 hn.1 (by have:=hn.2;omega)
     have ht3:=byt_take (m++uleb ls.length++(ls.take j).flatMap uleb)
     rw[hP,←List.append_assoc]
     generalize m++uleb ls.length++(ls.take j).flatMap uleb=P at*
     rcases hK with rfl|rfl|rfl
     ·simp only[go_sem,seval, -Nat.reduceSubDiff,↓reduceIte,reduceCtorEq,hjI,idx,hx,hv,Wj,Wv,ht3]
      exact⟨_,_,rfl,3200, .inr (.inl rfl),rfl⟩
     ·simp only[go_sem,seval, -Nat.reduceSubDiff,↓reduceIte,reduceCtorEq,hjI,idx,hx,hv,Wj,Wv,ht3]
      exact⟨_,_,rfl,195200, .inr (.inr rfl),rfl⟩
     ·simp only[go_sem,seval, -Nat.reduceSubDiff,↓reduceIte,reduceCtorEq,hjI,idx,hx,hv,Wj,Wv,ht3]
      exact⟨_,_,rfl,3200, .inr (.inl rfl),rfl⟩
    ·rintro z ⟨K,hK,rfl⟩
     rcases hK with rfl|rfl|rfl<;>simp only[go_sem,seval, -Nat.reduceSubDiff,↓reduceIte,reduceCtorEq,Int.lt_irrefl,List.take_length]
     ·exact⟨_,_,rfl,trivial,rfl,2496, .inl rfl,rfl⟩
     ·exact⟨_,_,rfl,trivial,rfl,3200, .inr (.inl rfl),rfl⟩
     ·exact⟨_,_,rfl,trivial,rfl,195200, .inr (.inr rfl),rfl⟩
   have hq:(m++uleb ls.length++ls.flatMap uleb).length<1099511000000+700:=by have:=hPl ls.length;rwa [List.take_length] at this
   have hv:=U_ev fu (n+3) (m++uleb ls.length++ls.flatMap uleb) a (by omega) sa.1 (by have:=sa.2;omega) (by omega)
   have ht3:=byt_take (m++uleb ls.length++ls.flatMap uleb)
   have e1:m++(uleb ls.length++(ls.flatMap uleb++uleb a))=m++uleb ls.length++ls.flatMap uleb++uleb a:=by simp
   rw[show(List.map uleb ls).flatten=ls.flatMap uleb from rfl,e1]
   generalize m++uleb ls.length++ls.flatMap uleb=P at*
   rcases hK with rfl|rfl|rfl<;>simp only[go_sem,seval, -Nat.reduceSubDiff,↓reduceIte,reduceCtorEq,hv,Wa,ht3]
  ·
   have hu:=U_ev fu (n+3) m a (by omega) sa.1 (by have:=sa.2;omega) hl3
   have hla:=ulebF_len 10 a
   have hq:(m++uleb a).length≤1099511627775:=by simp only[List.length_append,uleb];omega
   have ht3:=byt_take (m++uleb a)
   simp only[enc,tl,hk,hE,Int.reduceEq,if_false,if_true]
   rw[←List.append_assoc]
   generalize m++uleb a=m2 at*
   rw[evF.eq_2,evX.eq_def,Gext,exts_no _ (f:=85) (by decide),GP,Tryz.func85];simp only[Tryz.f85,evB]
   simp only[go_sem,seval, -Nat.reduceSubDiff,↓reduceIte,reduceCtorEq,hsn,hcl,W0,ht,hz1,hl1]
   rw[cond_free]
   rotate_left
   ·rfl
   rw[byt_app,len_app l op,←hm]
   simp only[go_sem,seval, -Nat.reduceSubDiff,↓reduceIte,reduceCtorEq,hkk,ht2,hz1,hl2,hu,Wa,ht3,hq]
   rw[byt_app,len_app _ 0]
  ·
   have hu:=U_ev fu (n+3) m a (by omega) sa.1 (by have:=sa.2;omega) hl3
   have hla:=ulebF_len 10 a
   have hq:(m++uleb a).length<1099511627000:=by simp only[List.length_append,uleb];omega
   have hv:=U_ev fu (n+3) (m++uleb a) b (by omega) sb.1 (by have:=sb.2;omega) hq
   have ht3:=byt_take (m++uleb a)
   have Wb:IntKind.wrap .u64 b=b:=wrap_u64 sb.1 (by have:=sb.2;omega)
   simp only[enc,tl,hk,hE,Int.reduceEq,if_false,if_true]
   rw[←List.append_assoc]
   generalize m++uleb a=m2 at*
   rw[evF.eq_2,evX.eq_def,Gext,exts_no _ (f:=85) (by decide),GP,Tryz.func85];simp only[Tryz.f85,evB]
   simp only[go_sem,seval, -Nat.reduceSubDiff,↓reduceIte,reduceCtorEq,hsn,hcl,W0,ht,hz1,hl1]
   rw[cond_free]
   rotate_left
   ·rfl
   rw[byt_app,len_app l op,←hm]
   simp only[go_sem,seval, -Nat.reduceSubDiff,↓reduceIte,reduceCtorEq,hkk,ht2,hz1,hl2,hu,Wa,Wb,ht3,hv]
   rw[cond_free]
   ·simp only[go_sem,seval, -Nat.reduceSubDiff,↓reduceIte,reduceCtorEq]
   ·rfl
  ·
   simp only[enc,tl,hk,hE,Int.reduceEq,if_false,if_true]
   rw[evF.eq_2,evX.eq_def,Gext,exts_no _ (f:=85) (by decide),GP,Tryz.func85];simp only[Tryz.f85,evB]
   simp only[go_sem,seval, -Nat.reduceSubDiff,↓reduceIte,reduceCtorEq,hsn,hcl,W0,ht,hz1,hl1]
   rw[cond_free]
   rotate_left
   ·rfl
   rw[byt_app,len_app l op,←hm]
   simp only[go_sem,seval, -Nat.reduceSubDiff,↓reduceIte,reduceCtorEq,hkk,ht2,hz1,hl2,hE]
   rw[byt_app,len_app _ 0]
  ·
   have hk32:=(s8 hk).2.2
   have hin:=s32_in hc.1 hk32
   simp only at hin
   have hin1:=hin.1
   simp only[inS,Bool.false_eq_true,if_false] at hin1
   have hu:=S_ev fu (n+3) m (s32 k) (by omega) (by omega) (by omega) hl3
   have W1:IntKind.wrap .i32 k=s32 k:=by
    have h0:=hc.1
    simp only at h0
    simp only[IntKind.wrap,IntKind.bits,IntKind.signed,Bool.true_and,decide_eq_true_eq,s32]
    split<;>rename_i h<;>simp at h<;>split<;>omega
   have W2:=wrap_i64 (show-9223372036854775808≤s32 k by omega) (by omega)
   simp only[enc,tl,hk,hE,Int.reduceEq,if_false,if_true]
   rw[evF.eq_2,evX.eq_def,Gext,exts_no _ (f:=85) (by decide),GP,Tryz.func85];simp only[Tryz.f85,evB]
   simp only[go_sem,seval, -Nat.reduceSubDiff,↓reduceIte,reduceCtorEq,hsn,hcl,W0,ht,hz1,hl1]
   rw[cond_free]
   rotate_left
   ·rfl
   rw[byt_app,len_app l op,←hm]
   simp only[go_sem,seval, -Nat.reduceSubDiff,↓reduceIte,reduceCtorEq,hkk,ht2,hz1,hl2,hu,W1,W2]
  ·
   have hin:=s64_in hc.1 hc.2
   simp only at hin
   have hin1:=hin.1
   simp only[inS,if_true] at hin1
   have hu:=S_ev fu (n+3) m (s64 k) (by omega) hin1.1 hin1.2 hl3
   have W1:IntKind.wrap .i64 k=s64 k:=by
    have h0:=hc.1
    have h1:=hc.2
    simp only at h0 h1
    simp only[IntKind.wrap,IntKind.bits,IntKind.signed,Bool.true_and,decide_eq_true_eq,s64]
    split<;>rename_i h<;>simp at h<;>split<;>omega
   simp only[enc,tl,hk,hE,Int.reduceEq,if_false,if_true]
   rw[evF.eq_2,evX.eq_def,Gext,exts_no _ (f:=85) (by decide),GP,Tryz.func85];simp only[Tryz.f85,evB]
   simp only[go_sem,seval, -Nat.reduceSubDiff,↓reduceIte,reduceCtorEq,hsn,hcl,W0,ht,hz1,hl1]
   rw[cond_free]
   rotate_left
   ·rfl
   rw[byt_app,len_app l op,←hm]
   simp only[go_sem,seval, -Nat.reduceSubDiff,↓reduceIte,reduceCtorEq,hkk,ht2,hz1,hl2,hu,W1]
end Go.Proofs.YtfpioigggjnffaaGreatDoor.E
set_option autoImplicit false
set_option maxRecDepth 100000
set_option maxHeartbeats 4000000
set_option pp.maxSteps 20000
namespace Go.Proofs.YtfpioigggjnffaaGreatDoor.E
open Go.Ev
def encs (l:List TInstr):List Int:=l.flatMap enc
def bputR (b:List Int) (l:List TInstr):Option Res:=if bodySane l then some (.tup [.row 0 0 0 (b++encs l++[11]).length, .d (.int .i64 0)],[.row 1 (byt (b++encs l++[11])) 0 false false]) else some (.tup [.row 0 0 0 0, .d (.int .i64 1)],[.row 1 [] 0 false false])
theorem bodySane_all {l:List TInstr} (h:bodySane l=true):walkOk l=true∧deepF l≤32∧(l.length:Int)≤4096∧∀i∈l,saneF i=true:=by
 unfold bodySane at h
 simp only[Bool.and_eq_true,decide_eq_true_eq,List.all_eq_true] at h
 exact⟨h.1.1.1,h.1.1.2,h.1.2,h.2⟩
theorem encs_len (l:List TInstr) (h: ∀i∈l,saneF i=true):(encs l).length≤1000*l.length:=by
 induction l with
 |nil=>simp[encs]
 |cons i l ih=>
  have h1:=enc_len i ((saneF_iff i).1 (h i (by simp)))
  have h2:=ih (fun j hj=>h j (by simp[hj]))
  simp only[encs,List.flatMap_cons,List.length_append,List.length_cons] at h2 ⊢
  omega
theorem BPut_ev (fu n:Nat) (b:List Int) (l:List TInstr) (hc: ∀i∈l,Cok i) (hf:1000<fu) (hfl:l.length<fu) (hb:lab fu l) (hs:l.length<100000) (hl:b.length<1099500000000):
 evF (G fu) (n+10) 40 [.d (.list (byt b)), .d (.list (l.map TInstr.d))] []=bputR b l:=by
 have S:=bodySane_ev fu n l (by omega) hfl hs hb
 unfold bputR
 cases hsan:bodySane l with
 |false=>
  rw[hsan] at S
  rw[evF.eq_2,evX.eq_def,Gext,exts_no _ (f:=40) (by decide),GP,Tryz.func40];simp only[Tryz.f40,evB]
  simp only[go_sem,seval, -Nat.reduceSubDiff,↓reduceIte,reduceCtorEq,S]
 |true=>
  rw[hsan] at S
  obtain⟨w,hd,h4096,hall⟩:=bodySane_all hsan
  have hcl:=clone_ev fu (n+8) b (by omega)
  rw[evF.eq_2,evX.eq_def,Gext,exts_no _ (f:=40) (by decide),GP,Tryz.func40];simp only[Tryz.f40,evB]
  simp only[go_sem,seval, -Nat.reduceSubDiff,↓reduceIte,reduceCtorEq,S,hcl,List.length_map]
  have hPl: ∀j,(b++encs (l.take j)).length<1099510000000:=fun j=>by
   have h1:=encs_len (l.take j) (fun i hi=>hall i (List.mem_of_mem_take hi))
   have h2:(l.take j).length≤4096:=by rw[List.length_take];omega
   simp only[List.length_append]
   omega
  generalize hr:loopN _ _ _ _ _=r
  obtain⟨x,s1,rfl,hx,rfl,K,hK,rfl⟩: ∃x s1,r=some (x,s1)∧leaves x∧(x= .exit 0∧∃K,(K=960∨K=1600∨K=193600)∧s1=⟨[(6, .row K 0 0 (b++encs l).length)],[(K, .row 1 (byt (b++encs l)) 0 false false)]⟩):=by
   rw[←hr]
   refine loop_inv (J:=fun x s1=>x= .exit 0∧∃K,(K=960∨K=1600∨K=193600)∧s1=⟨[(6, .row K 0 0 (b++encs l).length)],[(K, .row 1 (byt (b++encs l)) 0 false false)]⟩)
    l.length (fun j z=> ∃K,(K=960∨K=1600∨K=193600)∧z=⟨[(6, .row K 0 0 (b++encs (l.take j)).length),(15, .d (.list (l.map TInstr.d))),(16, .d (.int .i64 l.length)),(17, .d (.int .i64 j))],[(K, .row 1 (byt (b++encs (l.take j))) 0 false false)]⟩) ?_ ?_ fu _ hfl ⟨960, .inl rfl,by simp[encs]⟩
   ·rintro j z hj ⟨K,hK,rfl⟩
    have hx:(l.map TInstr.d)[j]? =some (l.getD j in0).d:=getD_map hj
    have hv:l.getD j in0∈l:=by
     rw[List.getD_eq_getElem?_getD,List.getElem?_eq_getElem hj];exact List.getElem_mem hj
    have hjI:(j:Int)<l.length:=by omega
    have hP:encs (l.take (j+1))=encs (l.take j)++enc (l.getD j in0):=by
     unfold encs
     rw[List.take_add_one,List.flatMap_append,List.getD_eq_getElem?_getD,List.getElem?_eq_getElem hj]
     simp
    have hq:=hPl j
    have hp:=Put_ev fu (n+3) (b++encs (l.take j)) (l.getD j in0) (hc _ hv) (by omega) (hb _ hv).1 (hb _ hv).2 (by omega)
    unfold putR at hp
    rw[if_pos (hall _ hv)] at hp
    have Wj:=wrap_i64 (show-9223372036854775808≤(j:Int)+1 by omega) (by omega)
    have ht3:=byt_take (b++encs (l.take j))
    rw[hP,←List.append_assoc]
    generalize b++encs (l.take j)=P at*
    generalize l.getD j in0=i at*
    simp only[TInstr.d] at hx hp
    rcases hK with rfl|rfl|rfl
    ·simp only[go_sem,seval, -Nat.reduceSubDiff,↓reduceIte,reduceCtorEq,hjI,idx,hx,hp,Wj,ht3]
     exact⟨_,_,rfl,1600, .inr (.inl rfl),rfl⟩
    ·simp only[go_sem,seval, -Nat.reduceSubDiff,↓reduceIte,reduceCtorEq,hjI,idx,hx,hp,Wj,ht3]
     exact⟨_,_,rfl,193600, .inr (.inr rfl),rfl⟩
    ·simp only[go_sem,seval, -Nat.reduceSubDiff,↓reduceIte,reduceCtorEq,hjI,idx,hx,hp,Wj,ht3]
     exact⟨_,_,rfl,1600, .inr (.inl rfl),rfl⟩
   ·rintro z ⟨K,hK,rfl⟩
    rcases hK with rfl|rfl|rfl<;>simp only[go_sem,seval, -Nat.reduceSubDiff,↓reduceIte,reduceCtorEq,Int.lt_irrefl,List.take_length]
    ·exact⟨_,_,rfl,trivial,rfl,960, .inl rfl,rfl⟩
    ·exact⟨_,_,rfl,trivial,rfl,1600, .inr (.inl rfl),rfl⟩
    ·exact⟨_,_,rfl,trivial,rfl,193600, .inr (.inr rfl),rfl⟩
  have hq:(b++encs l).length<1099510000000:=by have:=hPl l.length;rwa [List.take_length] at this
  have ht3:=byt_take (b++encs l)
  have hz1:sizedAll 1 [D.int .u8 11]=true:=rfl
  generalize b++encs l=P at*
  have hq2:P.length≤1099511627775:=by omega
  rw[←byt_app,←len_app P 11]
  rcases hK with rfl|rfl|rfl<;>simp only[go_sem,seval, -Nat.reduceSubDiff,↓reduceIte,reduceCtorEq,ht3,hz1,hq2]
end Go.Proofs.YtfpioigggjnffaaGreatDoor.E
