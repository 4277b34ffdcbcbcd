/- L6. -/
import Derived.Test.YtfpioigggjnffaaGreatDoorL5
set_option linter.unnecessarySimpa false
set_option linter.unusedSimpArgs false
set_option linter.unusedVariables false
set_option autoImplicit false
set_option maxRecDepth 100000
set_option maxHeartbeats 4000000
set_option pp.maxSteps 20000
namespace Go.Proofs.YtfpioigggjnffaaGreatDoor.E
open Go.Ev
def decR (x:Nat):Except Int (TInstr×Nat)→V
 | .error e=> .tup [.d in0.d, .d (.int .i64 0), .d (.int .i64 e)]
 | .ok (i,c)=> .tup [.d i.d, .d (.int .i64 ((x+c:Nat):Int)), .d (.int .i64 0)]
theorem dec4 (l:List Int) (x:Nat) (op:Int) (h:kindF op=4):decT op (l.drop x)=match labG l x with
 | .error e=> .error e
 | .ok (ls,c)=>match rdU (l.drop (x+c)) with
   | .error e=> .error e
   | .ok d2=> .ok (⟨op,val d2,0,0,ls⟩,c+d2.length):=by
 unfold decT labG
 simp only[h,show ¬((4:Int)=0) by decide,show ¬((4:Int)=2) by decide,show ¬((4:Int)=3) by decide,if_false,if_true]
 cases rdU (l.drop x) with
 |error e=>rfl
 |ok ds=>
  simp only[List.drop_drop]
  by_cases h64:val ds≤64
  ·simp only[h64,if_true]
   cases rdL (val ds).toNat (l.drop (x+ds.length)) with
   |error e=>rfl
   |ok q=>obtain⟨ls,c⟩:=q;simp only[Nat.add_assoc];cases rdU (l.drop (x+(ds.length+c)))<;>rfl
  ·simp only[h64,if_false]
theorem labG_err {l:List Int} {x:Nat} {e:Int} (h:labG l x= .error e):e≠0:=by
 unfold labG at h
 split at h
 ·rename_i hs;obtain rfl:=Except.error.inj h;exact rdU_err hs
 ·split at h
  ·split at h
   ·rename_i hs;obtain rfl:=Except.error.inj h;exact rdL_err hs
   ·cases h
  ·obtain rfl:=Except.error.inj h;decide
theorem labG_le {l:List Int} (hb:Bs l) {x:Nat} (hx:x≤l.length) {ls:List Int} {c:Nat} (h:labG l x= .ok (ls,c)):x+c≤l.length:=by
 unfold labG at h
 split at h
 ·cases h
 ·rename_i ds hs
  have h1:=rdU_len hs
  rw[List.length_drop] at h1
  split at h
  ·split at h
   ·cases h
   ·rename_i ls' c' hs2
    simp only[Except.ok.injEq,Prod.mk.injEq] at h
    obtain⟨rfl,rfl⟩:=h
    have:=(rdL_ok (hb.drop _) hs2).2.2.2
    rw[List.length_drop] at this
    omega
  ·cases h
theorem map_take (ls:List Int):(ls.map (D.int .i64)).take ls.length=ls.map (D.int .i64):=List.take_of_length_le (by simp)
theorem Read_ev (fu n:Nat) (l:List Int) (hb:Bs l) (x:Nat) (hf:70<fu) (hx:x≤l.length) (hl:l.length<1099511627000):evF (G fu) (n+7) 42 [.d (.list (byt l)), .d (.int .i64 x)] []=some (decR x (dec (l.drop x)),[]):=by
 have a1: ¬(x:Int)<0:=by omega
 have a2: ¬(l.length:Int)<x:=by omega
 rcases Nat.lt_or_ge x l.length with h|h
 ·have hy:=byte_yes fu (n+5) l hb x h hl
  have hd:l.drop x=l.getD x 0::l.drop (x+1):=by
   rw[List.drop_eq_getElem_cons h,List.getD_eq_getElem?_getD,List.getElem?_eq_getElem h];rfl
  rw[hd,dec]
  have hkk:=kind_ev fu (n+5) (l.getD x 0) (by omega)
  generalize l.getD x 0=op at*
  simp only[rdr] at hy
  have hk:=kd_in op
  have hx1:x+1≤l.length:=h
  rcases hk with hk|hk|hk|hk|hk|hk|hk|hk|hk|hk<;>rw[hk] at hkk
  case inr.inr.inr.inr.inl=>
   rw[dec4 l (x+1) op hk]
   have hu:=labels_ok fu n l hb (x+1) hf hx1 hl
   cases hs:labG l (x+1) with
   |error e=>
    have he:=labG_err hs
    rw[hs] at hu
    obtain⟨ls,p,hu⟩:=hu
    have hz:=u_bad fu (n+1) l p e he
    simp only[rdr] at hu hz
    simp only
    rw[evF.eq_2,evX.eq_def,Gext,exts_no _ (f:=42) (by decide),GP,Tryz.func42];simp only[Tryz.f42,evB]
    simp only[go_sem,seval, -Nat.reduceSubDiff,↓reduceIte,reduceCtorEq,a1,a2,byt_len,hy,hkk,hk,decR,TInstr.d,in0,List.map_nil,hu,hz,he,map_take]
    rw[cond_free]
    ·simp only[go_sem,seval, -Nat.reduceSubDiff,↓reduceIte,reduceCtorEq,map_take]
     try simp only[Nat.add_assoc,Nat.add_comm,Nat.add_left_comm]
    ·rfl
   |ok q=>
    obtain⟨ls,c⟩:=q
    have hle:=labG_le hb hx1 hs
    rw[hs] at hu
    have hz:=u_ok fu (n+1) l hb (x+1+c) (by omega) hle hl
    simp only[labRL] at hu
    simp only
    cases hs2:rdU (l.drop (x+1+c)) with
    |error e=>
     have he:=rdU_err hs2
     rw[hs2] at hz
     simp only[rdr,uRes] at hu hz
     rw[evF.eq_2,evX.eq_def,Gext,exts_no _ (f:=42) (by decide),GP,Tryz.func42];simp only[Tryz.f42,evB]
     simp only[go_sem,seval, -Nat.reduceSubDiff,↓reduceIte,reduceCtorEq,a1,a2,byt_len,hy,hkk,hk,decR,TInstr.d,in0,List.map_nil,hu,hz,he,map_take]
     rw[cond_free]
     ·simp only[go_sem,seval, -Nat.reduceSubDiff,↓reduceIte,reduceCtorEq,map_take]
      try simp only[Nat.add_assoc,Nat.add_comm,Nat.add_left_comm]
     ·rfl
    |ok d2=>
     rw[hs2] at hz
     simp only[rdr,uRes] at hu hz
     rw[evF.eq_2,evX.eq_def,Gext,exts_no _ (f:=42) (by decide),GP,Tryz.func42];simp only[Tryz.f42,evB]
     simp only[go_sem,seval, -Nat.reduceSubDiff,↓reduceIte,reduceCtorEq,a1,a2,byt_len,hy,hkk,hk,decR,TInstr.d,in0,List.map_nil,hu,hz,map_take]
     rw[cond_free]
     ·simp only[go_sem,seval, -Nat.reduceSubDiff,↓reduceIte,reduceCtorEq,map_take]
      try simp only[Nat.add_assoc,Nat.add_comm,Nat.add_left_comm]
     ·rfl
  all_goals unfold decT
  ·
   have hm:=must_ok fu (n+5) l ((x+1:Nat):Int) 3 false
   simp only[rdr] at hm
   rw[evF.eq_2,evX.eq_def,Gext,exts_no _ (f:=42) (by decide),GP,Tryz.func42];simp only[Tryz.f42,evB]
   simp only[go_sem,seval, -Nat.reduceSubDiff,↓reduceIte,reduceCtorEq,a1,a2,byt_len,hy,hkk,hk,decR,TInstr.d,in0,List.map_nil,hm]
   rw[cond_free]
   ·simp only[go_sem,seval, -Nat.reduceSubDiff,↓reduceIte,reduceCtorEq]
    try simp only[Nat.add_assoc,Nat.add_comm,Nat.add_left_comm]
   ·rfl
  ·
   rw[evF.eq_2,evX.eq_def,Gext,exts_no _ (f:=42) (by decide),GP,Tryz.func42];simp only[Tryz.f42,evB]
   simp only[go_sem,seval, -Nat.reduceSubDiff,↓reduceIte,reduceCtorEq,a1,a2,byt_len,hy,hkk,hk,decR,TInstr.d,in0,List.map_nil]
   rw[cond_free]
   ·simp only[go_sem,seval, -Nat.reduceSubDiff,↓reduceIte,reduceCtorEq]
    try simp only[Nat.add_assoc,Nat.add_comm,Nat.add_left_comm]
   ·rfl
  ·
   have hm:=block_ok fu (n+4) l hb (x+1) hx1 hl
   cases hd2:l.drop (x+1) with
   |nil=>
    rw[hd2] at hm
    simp only[rdr,bRes] at hm
    rw[evF.eq_2,evX.eq_def,Gext,exts_no _ (f:=42) (by decide),GP,Tryz.func42];simp only[Tryz.f42,evB]
    simp only[go_sem,seval, -Nat.reduceSubDiff,↓reduceIte,reduceCtorEq,a1,a2,byt_len,hy,hkk,hk,decR,TInstr.d,in0,List.map_nil,hm]
    rw[cond_free]
    ·simp only[go_sem,seval, -Nat.reduceSubDiff,↓reduceIte,reduceCtorEq]
     try simp only[Nat.add_assoc,Nat.add_comm,Nat.add_left_comm]
    ·rfl
   |cons c m=>
    rw[hd2] at hm
    simp only[rdr,bRes] at hm
    by_cases c1:c=64
    ·simp only[c1,if_true,true_or] at hm
     rw[evF.eq_2,evX.eq_def,Gext,exts_no _ (f:=42) (by decide),GP,Tryz.func42];simp only[Tryz.f42,evB]
     simp only[go_sem,seval, -Nat.reduceSubDiff,↓reduceIte,reduceCtorEq,a1,a2,byt_len,hy,hkk,hk,decR,TInstr.d,in0,List.map_nil,hm,c1]
     rw[cond_free]
     ·simp only[go_sem,seval, -Nat.reduceSubDiff,↓reduceIte,reduceCtorEq]
      try simp only[Nat.add_assoc,Nat.add_comm,Nat.add_left_comm]
     ·rfl
    ·by_cases c2:c=127
     ·have c3: ¬(127:Int)=64:=by decide
      simp only[c2,c3,if_true,if_false,true_or,false_or] at hm
      rw[evF.eq_2,evX.eq_def,Gext,exts_no _ (f:=42) (by decide),GP,Tryz.func42];simp only[Tryz.f42,evB]
      simp only[go_sem,seval, -Nat.reduceSubDiff,↓reduceIte,reduceCtorEq,a1,a2,byt_len,hy,hkk,hk,decR,TInstr.d,in0,List.map_nil,hm,c2,c3]
      rw[cond_free]
      ·simp only[go_sem,seval, -Nat.reduceSubDiff,↓reduceIte,reduceCtorEq]
       try simp only[Nat.add_assoc,Nat.add_comm,Nat.add_left_comm]
      ·rfl
     ·by_cases c3:c=126
      ·have c4: ¬(126:Int)=64:=by decide
       have c5: ¬(126:Int)=127:=by decide
       simp only[c3,c4,c5,if_true,if_false,true_or,false_or] at hm
       rw[evF.eq_2,evX.eq_def,Gext,exts_no _ (f:=42) (by decide),GP,Tryz.func42];simp only[Tryz.f42,evB]
       simp only[go_sem,seval, -Nat.reduceSubDiff,↓reduceIte,reduceCtorEq,a1,a2,byt_len,hy,hkk,hk,decR,TInstr.d,in0,List.map_nil,hm,c3,c4,c5]
       rw[cond_free]
       ·simp only[go_sem,seval, -Nat.reduceSubDiff,↓reduceIte,reduceCtorEq]
        try simp only[Nat.add_assoc,Nat.add_comm,Nat.add_left_comm]
       ·rfl
      ·simp only[c1,c2,c3,if_false,false_or] at hm
       rw[evF.eq_2,evX.eq_def,Gext,exts_no _ (f:=42) (by decide),GP,Tryz.func42];simp only[Tryz.f42,evB]
       simp only[go_sem,seval, -Nat.reduceSubDiff,↓reduceIte,reduceCtorEq,a1,a2,byt_len,hy,hkk,hk,decR,TInstr.d,in0,List.map_nil,hm,c1,c2,c3]
       rw[cond_free]
       ·simp only[go_sem,seval, -Nat.reduceSubDiff,↓reduceIte,reduceCtorEq]
        try simp only[Nat.add_assoc,Nat.add_comm,Nat.add_left_comm]
       ·rfl
  ·
   have hu:=u_ok fu (n+1) l hb (x+1) (by omega) hx1 hl
   cases hs:rdU (l.drop (x+1)) with
   |error e=>
    have he:=rdU_err hs
    rw[hs] at hu
    simp only[rdr,uRes] at hu
    rw[evF.eq_2,evX.eq_def,Gext,exts_no _ (f:=42) (by decide),GP,Tryz.func42];simp only[Tryz.f42,evB]
    simp only[go_sem,seval, -Nat.reduceSubDiff,↓reduceIte,reduceCtorEq,a1,a2,byt_len,hy,hkk,hk,decR,TInstr.d,in0,List.map_nil,hu,he]
    rw[cond_free]
    ·simp only[go_sem,seval, -Nat.reduceSubDiff,↓reduceIte,reduceCtorEq]
     try simp only[Nat.add_assoc,Nat.add_comm,Nat.add_left_comm]
    ·rfl
   |ok ds=>
    rw[hs] at hu
    simp only[rdr,uRes] at hu
    rw[evF.eq_2,evX.eq_def,Gext,exts_no _ (f:=42) (by decide),GP,Tryz.func42];simp only[Tryz.f42,evB]
    simp only[go_sem,seval, -Nat.reduceSubDiff,↓reduceIte,reduceCtorEq,a1,a2,byt_len,hy,hkk,hk,decR,TInstr.d,in0,List.map_nil,hu]
    rw[cond_free]
    ·simp only[go_sem,seval, -Nat.reduceSubDiff,↓reduceIte,reduceCtorEq]
     try simp only[Nat.add_assoc,Nat.add_comm,Nat.add_left_comm]
    ·rfl
  ·
   have hu:=u_ok fu (n+1) l hb (x+1) (by omega) hx1 hl
   cases hs:rdU (l.drop (x+1)) with
   |error e=>
    have he:=rdU_err hs
    rw[hs] at hu
    have hz:=zero_bad fu (n+4) l 0 e he
    simp only[rdr,uRes] at hu hz
    rw[evF.eq_2,evX.eq_def,Gext,exts_no _ (f:=42) (by decide),GP,Tryz.func42];simp only[Tryz.f42,evB]
    simp only[go_sem,seval, -Nat.reduceSubDiff,↓reduceIte,reduceCtorEq,a1,a2,byt_len,hy,hkk,hk,decR,TInstr.d,in0,List.map_nil,hu,he,hz]
    rw[cond_free]
    ·simp only[go_sem,seval, -Nat.reduceSubDiff,↓reduceIte,reduceCtorEq]
     try simp only[Nat.add_assoc,Nat.add_comm,Nat.add_left_comm]
    ·rfl
   |ok ds=>
    have hlen:=rdU_len hs
    rw[List.length_drop] at hlen
    rw[hs] at hu
    have hz:=zero_ok fu (n+4) l hb (x+1+ds.length) (by omega) hl
    simp only[List.drop_drop]
    cases hd2:l.drop (x+1+ds.length) with
    |nil=>
     rw[hd2] at hz
     simp only[rdr,uRes,zRes] at hu hz
     rw[evF.eq_2,evX.eq_def,Gext,exts_no _ (f:=42) (by decide),GP,Tryz.func42];simp only[Tryz.f42,evB]
     simp only[go_sem,seval, -Nat.reduceSubDiff,↓reduceIte,reduceCtorEq,a1,a2,byt_len,hy,hkk,hk,decR,TInstr.d,in0,List.map_nil,hu,hz]
     rw[cond_free]
     ·simp only[go_sem,seval, -Nat.reduceSubDiff,↓reduceIte,reduceCtorEq]
      try simp only[Nat.add_assoc,Nat.add_comm,Nat.add_left_comm]
     ·rfl
    |cons c m=>
     rw[hd2] at hz
     by_cases c0:c=0
     ·simp only[rdr,uRes,zRes,c0,if_true] at hu hz
      rw[evF.eq_2,evX.eq_def,Gext,exts_no _ (f:=42) (by decide),GP,Tryz.func42];simp only[Tryz.f42,evB]
      simp only[go_sem,seval, -Nat.reduceSubDiff,↓reduceIte,reduceCtorEq,a1,a2,byt_len,hy,hkk,hk,decR,TInstr.d,in0,List.map_nil,hu,hz,c0]
      rw[cond_free]
      ·simp only[go_sem,seval, -Nat.reduceSubDiff,↓reduceIte,reduceCtorEq]
       try simp only[Nat.add_assoc,Nat.add_comm,Nat.add_left_comm]
      ·rfl
     ·simp only[rdr,uRes,zRes,c0,if_false] at hu hz
      rw[evF.eq_2,evX.eq_def,Gext,exts_no _ (f:=42) (by decide),GP,Tryz.func42];simp only[Tryz.f42,evB]
      simp only[go_sem,seval, -Nat.reduceSubDiff,↓reduceIte,reduceCtorEq,a1,a2,byt_len,hy,hkk,hk,decR,TInstr.d,in0,List.map_nil,hu,hz,c0]
      rw[cond_free]
      ·simp only[go_sem,seval, -Nat.reduceSubDiff,↓reduceIte,reduceCtorEq]
       try simp only[Nat.add_assoc,Nat.add_comm,Nat.add_left_comm]
      ·rfl
  ·
   have hu:=u_ok fu (n+1) l hb (x+1) (by omega) hx1 hl
   cases hs:rdU (l.drop (x+1)) with
   |error e=>
    have he:=rdU_err hs
    rw[hs] at hu
    have hz:=u_bad fu (n+1) l 0 e he
    simp only[rdr,uRes] at hu hz
    rw[evF.eq_2,evX.eq_def,Gext,exts_no _ (f:=42) (by decide),GP,Tryz.func42];simp only[Tryz.f42,evB]
    simp only[go_sem,seval, -Nat.reduceSubDiff,↓reduceIte,reduceCtorEq,a1,a2,byt_len,hy,hkk,hk,decR,TInstr.d,in0,List.map_nil,hu,he,hz]
    rw[cond_free]
    ·simp only[go_sem,seval, -Nat.reduceSubDiff,↓reduceIte,reduceCtorEq]
     try simp only[Nat.add_assoc,Nat.add_comm,Nat.add_left_comm]
    ·rfl
   |ok ds=>
    have hlen:=rdU_len hs
    rw[List.length_drop] at hlen
    rw[hs] at hu
    have hz:=u_ok fu (n+1) l hb (x+1+ds.length) (by omega) (by omega) hl
    simp only[List.drop_drop]
    cases hs2:rdU (l.drop (x+1+ds.length)) with
    |error e=>
     have he:=rdU_err hs2
     rw[hs2] at hz
     simp only[rdr,uRes] at hu hz
     rw[evF.eq_2,evX.eq_def,Gext,exts_no _ (f:=42) (by decide),GP,Tryz.func42];simp only[Tryz.f42,evB]
     simp only[go_sem,seval, -Nat.reduceSubDiff,↓reduceIte,reduceCtorEq,a1,a2,byt_len,hy,hkk,hk,decR,TInstr.d,in0,List.map_nil,hu,hz,he]
     rw[cond_free]
     ·simp only[go_sem,seval, -Nat.reduceSubDiff,↓reduceIte,reduceCtorEq]
      try simp only[Nat.add_assoc,Nat.add_comm,Nat.add_left_comm]
     ·rfl
    |ok d2=>
     rw[hs2] at hz
     simp only[rdr,uRes] at hu hz
     rw[evF.eq_2,evX.eq_def,Gext,exts_no _ (f:=42) (by decide),GP,Tryz.func42];simp only[Tryz.f42,evB]
     simp only[go_sem,seval, -Nat.reduceSubDiff,↓reduceIte,reduceCtorEq,a1,a2,byt_len,hy,hkk,hk,decR,TInstr.d,in0,List.map_nil,hu,hz]
     rw[cond_free]
     ·simp only[go_sem,seval, -Nat.reduceSubDiff,↓reduceIte,reduceCtorEq]
      try simp only[Nat.add_assoc,Nat.add_comm,Nat.add_left_comm]
     ·rfl
  ·
   have hz:=zero_ok fu (n+4) l hb (x+1) hx1 hl
   cases hd2:l.drop (x+1) with
   |nil=>
    rw[hd2] at hz
    simp only[rdr,zRes] at hz
    rw[evF.eq_2,evX.eq_def,Gext,exts_no _ (f:=42) (by decide),GP,Tryz.func42];simp only[Tryz.f42,evB]
    simp only[go_sem,seval, -Nat.reduceSubDiff,↓reduceIte,reduceCtorEq,a1,a2,byt_len,hy,hkk,hk,decR,TInstr.d,in0,List.map_nil,hz]
    rw[cond_free]
    ·simp only[go_sem,seval, -Nat.reduceSubDiff,↓reduceIte,reduceCtorEq]
     try simp only[Nat.add_assoc,Nat.add_comm,Nat.add_left_comm]
    ·rfl
   |cons c m=>
    rw[hd2] at hz
    by_cases c0:c=0
    ·simp only[rdr,zRes,c0,if_true] at hz
     rw[evF.eq_2,evX.eq_def,Gext,exts_no _ (f:=42) (by decide),GP,Tryz.func42];simp only[Tryz.f42,evB]
     simp only[go_sem,seval, -Nat.reduceSubDiff,↓reduceIte,reduceCtorEq,a1,a2,byt_len,hy,hkk,hk,decR,TInstr.d,in0,List.map_nil,hz,c0]
     rw[cond_free]
     ·simp only[go_sem,seval, -Nat.reduceSubDiff,↓reduceIte,reduceCtorEq]
      try simp only[Nat.add_assoc,Nat.add_comm,Nat.add_left_comm]
     ·rfl
    ·simp only[rdr,zRes,c0,if_false] at hz
     rw[evF.eq_2,evX.eq_def,Gext,exts_no _ (f:=42) (by decide),GP,Tryz.func42];simp only[Tryz.f42,evB]
     simp only[go_sem,seval, -Nat.reduceSubDiff,↓reduceIte,reduceCtorEq,a1,a2,byt_len,hy,hkk,hk,decR,TInstr.d,in0,List.map_nil,hz,c0]
     rw[cond_free]
     ·simp only[go_sem,seval, -Nat.reduceSubDiff,↓reduceIte,reduceCtorEq]
      try simp only[Nat.add_assoc,Nat.add_comm,Nat.add_left_comm]
     ·rfl
  ·
   have hu:=s_ok false fu (n+1) l hb (x+1) (by omega) hx1 hl
   simp only[Bool.false_eq_true,if_false,if_true] at hu
   cases hs:rdS false (l.drop (x+1)) with
   |error e=>
    have he:=rdS_err hs
    rw[hs] at hu
    simp only[rdr,sRes] at hu
    rw[evF.eq_2,evX.eq_def,Gext,exts_no _ (f:=42) (by decide),GP,Tryz.func42];simp only[Tryz.f42,evB]
    simp only[go_sem,seval, -Nat.reduceSubDiff,↓reduceIte,reduceCtorEq,a1,a2,byt_len,hy,hkk,hk,decR,TInstr.d,in0,List.map_nil,hu,he]
    rw[cond_free]
    ·simp only[go_sem,seval, -Nat.reduceSubDiff,↓reduceIte,reduceCtorEq]
     try simp only[Nat.add_assoc,Nat.add_comm,Nat.add_left_comm]
    ·rfl
   |ok ds=>
    rw[hs] at hu
    simp only[rdr,sRes] at hu
    have W:sval ds%4294967296%18446744073709551616=sval ds%4294967296:=by omega
    rw[evF.eq_2,evX.eq_def,Gext,exts_no _ (f:=42) (by decide),GP,Tryz.func42];simp only[Tryz.f42,evB]
    simp only[go_sem,seval, -Nat.reduceSubDiff,↓reduceIte,reduceCtorEq,a1,a2,byt_len,hy,hkk,hk,decR,TInstr.d,in0,List.map_nil,hu,wrap_u32_mod,wrap_u64_mod,W]
    rw[cond_free]
    ·simp only[go_sem,seval, -Nat.reduceSubDiff,↓reduceIte,reduceCtorEq]
     try simp only[Nat.add_assoc,Nat.add_comm,Nat.add_left_comm]
    ·rfl
  ·
   have hu:=s_ok true fu (n+1) l hb (x+1) (by omega) hx1 hl
   simp only[Bool.false_eq_true,if_false,if_true] at hu
   cases hs:rdS true (l.drop (x+1)) with
   |error e=>
    have he:=rdS_err hs
    rw[hs] at hu
    simp only[rdr,sRes] at hu
    rw[evF.eq_2,evX.eq_def,Gext,exts_no _ (f:=42) (by decide),GP,Tryz.func42];simp only[Tryz.f42,evB]
    simp only[go_sem,seval, -Nat.reduceSubDiff,↓reduceIte,reduceCtorEq,a1,a2,byt_len,hy,hkk,hk,decR,TInstr.d,in0,List.map_nil,hu,he]
    rw[cond_free]
    ·simp only[go_sem,seval, -Nat.reduceSubDiff,↓reduceIte,reduceCtorEq]
     try simp only[Nat.add_assoc,Nat.add_comm,Nat.add_left_comm]
    ·rfl
   |ok ds=>
    rw[hs] at hu
    simp only[rdr,sRes] at hu
    rw[evF.eq_2,evX.eq_def,Gext,exts_no _ (f:=42) (by decide),GP,Tryz.func42];simp only[Tryz.f42,evB]
    simp only[go_sem,seval, -Nat.reduceSubDiff,↓reduceIte,reduceCtorEq,a1,a2,byt_len,hy,hkk,hk,decR,TInstr.d,in0,List.map_nil,hu,wrap_u64_mod]
    rw[cond_free]
    ·simp only[go_sem,seval, -Nat.reduceSubDiff,↓reduceIte,reduceCtorEq]
     try simp only[Nat.add_assoc,Nat.add_comm,Nat.add_left_comm]
    ·rfl
 ·have hy:=byte_end fu (n+5) l x h
  have hk:=kind_ev fu (n+5) 0 (by omega)
  rw[show kindF 0=1 from rfl] at hk
  rw[List.drop_eq_nil_of_le h,dec]
  simp only[rdr] at hy
  rw[evF.eq_2,evX.eq_def,Gext,exts_no _ (f:=42) (by decide),GP,Tryz.func42];simp only[Tryz.f42,evB]
  simp only[go_sem,seval, -Nat.reduceSubDiff,↓reduceIte,reduceCtorEq,a1,a2,byt_len,hy,hk,decR,TInstr.d,in0,List.map_nil]
  rw[cond_free]
  ·simp only[go_sem,seval, -Nat.reduceSubDiff,↓reduceIte,reduceCtorEq]
  ·rfl
end Go.Proofs.YtfpioigggjnffaaGreatDoor.E
