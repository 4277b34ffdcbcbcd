/- L10, S13, S10, S14. -/
import Derived.Test.YtfpioigggjnffaaGreatDoorL9
import Derived.Test.YtfpioigggjnffaaGreatDoorEvD
import Derived.Test.YtfpioigggjnffaaGreatDoorZ9
import Derived.Test.YtfpioigggjnffaaGreatDoorEvL
import Derived.Test.YtfpioigggjnffaaGreatDoorS4B
set_option linter.unnecessarySimpa false
set_option linter.unusedSimpArgs false
set_option linter.unusedVariables false
set_option autoImplicit false
set_option maxRecDepth 100000
set_option maxHeartbeats 4000000
set_option pp.maxSteps 20000
namespace Go.Proofs.YtfpioigggjnffaaGreatDoor.E
open Go.Ev
theorem encs_take (l:List TInstr) {k:Nat} (hk:k<l.length):encs (l.take (k+1))=encs (l.take k)++enc (l.getD k in0):=by
 unfold encs
 rw[List.take_add_one,List.flatMap_append,List.getD_eq_getElem?_getD,List.getElem?_eq_getElem hk]
 simp
theorem encs_split (l:List TInstr) {k:Nat} (hk:k<l.length):encs l=encs (l.take k)++(enc (l.getD k in0)++encs (l.drop (k+1))):=by
 have h:l=l.take k++(l.getD k in0::l.drop (k+1)):=by
  have h2:l.getD k in0=l[k]:=by simp[List.getD_eq_getElem?_getD,hk]
  rw[h2,List.getElem_cons_drop,List.take_append_drop]
 conv=>lhs;rw[h]
 simp[encs]
theorem dec_at (pre rest:List Int) (l:List TInstr) (hs: ∀i∈l,saneF i=true) (hc: ∀i∈l,Cok i) {k:Nat} (hk:k<l.length):
 dec ((pre++encs l++rest).drop (pre.length+(encs (l.take k)).length))= .ok (l.getD k in0,(enc (l.getD k in0)).length):=by
 have hm:l.getD k in0∈l:=by
  rw[List.getD_eq_getElem?_getD,List.getElem?_eq_getElem hk];exact List.getElem_mem hk
 rw[encs_split l hk]
 have e:pre++(encs (l.take k)++(enc (l.getD k in0)++encs (l.drop (k+1))))++rest=(pre++encs (l.take k))++(enc (l.getD k in0)++(encs (l.drop (k+1))++rest)):=by simp
 rw[e,←List.length_append,drop_left]
 exact dec_enc ((saneF_iff _).1 (hs _ hm)) (hc _ hm) _
theorem dec_end (pre tail:List Int) (l:List TInstr):dec ((pre++encs l++11::tail).drop (pre.length+(encs l).length))= .ok (⟨11,0,0,0,[]⟩,1):=by
 rw[←List.length_append,drop_left]
 rfl
theorem walkS_mono {l:List TInstr} {k:Nat} {st:List Nest} {s:Int} (h:walkG tellS 0 l k=some (st,s)): ∀(j:Nat) {st':List Nest} {s':Int},walkG tellS 0 l (k+j)=some (st',s')→s≤s':=by
 intro j
 induction j with
 |zero=>
  intro st' s' h'
  rw[Nat.add_zero,h] at h'
  cases h';omega
 |succ j ih=>
  intro st' s' h'
  rw[←Nat.add_assoc] at h'
  simp only[walkG] at h'
  split at h'
  ·cases h'
  ·rename_i st0 s0 h0
   split at h'
   ·cases h'
   ·simp only[Option.some.injEq,Prod.mk.injEq] at h'
    obtain⟨_,rfl⟩:=h'
    have:=ih h0
    simp only[tellS]
    omega
theorem ifAt_take {l:List TInstr} {k:Nat} {a:Int} (h0:0≤a) (h1:a<k):ifAt (l.take k) a=ifAt l a:=by
 unfold ifAt
 have h:a.toNat<k:=by omega
 simp only[List.getD_eq_getElem?_getD,List.getElem?_take,h,if_true]
theorem stepF_take {l:List TInstr} {k:Nat} {st:List Nest} {op:Int} (h: ∀p∈st,nestIn k p):stepF (l.take k) st k op=stepF l st k op:=by
 unfold stepF
 cases st with
 |nil=>rfl
 |cons t r=>
  obtain⟨h0,h1,_⟩:=h t (by simp)
  simp only[ifAt_take h0 h1]
theorem brd_all {B:List Int} {x0:Nat} {l:List TInstr} {R:Except Int (List TInstr×Nat)} (hw:walkOk l=true) (hd:deepF l≤32) (h4:l.length≤4096)
 (hs: ∀k,k<l.length→dec (B.drop (x0+(encs (l.take k)).length))= .ok (l.getD k in0,(enc (l.getD k in0)).length))
 (he: ∀f,brd B (f+1) (x0+(encs l).length) l []=R):
 ∀(j k:Nat) (st:List Nest) (s:Int),k+j=l.length→walkG tellS 0 l k=some (st,s)→brd B (4096-k+1) (x0+(encs (l.take k)).length) (l.take k) st=R:=by
 obtain⟨stn,sn,hn⟩: ∃stn sn,walkG tellS 0 l l.length=some (stn,sn):=by
  cases h:walkG tellS 0 l l.length with
  |none=>rw[walkOk_none h] at hw;cases hw
  |some q=>exact⟨q.1,q.2,rfl⟩
 have hdn:sn≤32:=by
  unfold deepF at hd
  rw[hn] at hd
  exact hd
 intro j
 induction j with
 |zero=>
  intro k st s hk h
  obtain rfl:k=l.length:=by omega
  rw[walkOk_of h] at hw
  obtain rfl:st=[]:=by simpa using hw
  rw[List.take_length]
  exact he _
 |succ j ih=>
  intro k st s hk h
  have hkl:k<l.length:=by omega
  obtain⟨f,hf⟩: ∃f,4096-k=f+1:=⟨4096-k-1,by omega⟩
  have hin:=(walkG_in h).1
  cases h1:stepF l st k (l.getD k in0).op with
  |none=>
   have:walkG tellS 0 l (k+1)=none:=by simp only[walkG,h,h1]
   rw[walkG_none this l.length (by omega)] at hn
   cases hn
  |some q=>
   obtain⟨st',deep,e⟩:=q
   have h2:walkG tellS 0 l (k+1)=some (st',max s deep):=by simp only[walkG,h,h1];rfl
   obtain⟨d,hd2⟩: ∃d,k+1+d=l.length:=⟨l.length-(k+1),by omega⟩
   have h3:=walkS_mono h2 d (by rw[hd2];exact hn)
   have hlen:(l.take k).length=k:=by rw[List.length_take];omega
   have hne: ¬((l.getD k in0).op=11∧st=[]):=by
    rintro⟨q1,rfl⟩
    rw[stepF_bare (.inr q1)] at h1
    cases h1
   rw[hf,brd_go (hs k hkl) hne (by rw[hlen,stepF_take hin];exact h1) (by omega) (by omega)]
   have:=ih (k+1) st' _ (by omega) h2
   rw[show 4096-(k+1)+1=f+1 by omega,encs_take l hkl] at this
   rw[List.length_append,←Nat.add_assoc,List.take_add_one] at this
   rw[←this]
   congr 2
   rw[List.getD_eq_getElem?_getD,List.getElem?_eq_getElem hkl]
   rfl
theorem brd_put {l:List TInstr} (h:bodySane l=true) (hc: ∀i∈l,Cok i) (pre tail:List Int):brd (pre++encs l++11::tail) 4097 pre.length [] []= .ok (l,pre.length+(encs l).length+1):=by
 obtain⟨w,hd,h4,hall⟩:=bodySane_all h
 have:=brd_all (B:=pre++encs l++11::tail) (x0:=pre.length) (R:= .ok (l,pre.length+(encs l).length+1)) w hd (by omega) (fun k hk=>dec_at pre (11::tail) l hall hc hk) (fun f=>brd_end (dec_end pre tail l) rfl) l.length 0 [] 0 (by omega) rfl
 exact this
theorem encs_bs {l:List TInstr} (h: ∀i∈l,saneF i=true) (hc: ∀i∈l,Cok i):Bs (encs l):=by
 intro x hx
 obtain⟨i,hi,hx⟩:=List.mem_flatMap.1 hx
 exact enc_bs ((saneF_iff i).1 (h i hi)) (hc i hi) x hx
end Go.Proofs.YtfpioigggjnffaaGreatDoor.E
set_option autoImplicit false
set_option maxRecDepth 100000
set_option maxHeartbeats 4000000
namespace Go.Proofs.YtfpioigggjnffaaGreatDoor.E
open Go.Ev
theorem few12 {l:List TInstr} {m:Int} {fu:Nat} (h:few l m=true) (hf:1000<fu):lab fu l∧(l.length:Int)≤m:=by
 simp only[few,Bool.and_eq_true,decide_eq_true_eq,Bool.not_eq_true'] at h
 refine⟨fun i hi=> ?_,h.1⟩
 have:=List.any_eq_false.1 h.2 i hi
 simp only[decide_eq_true_eq,Int.not_lt] at this
 omega
theorem bs12 {l:List Int} (h: ∀z∈l,rng .u8 z):Bs l:=fun z hz=>by have:=rng_u8 (h z hz);omega
theorem cok12 {i:TInstr} (h:i.ok):Cok i:=by have:=rng_u64 h.2.2.2.1;unfold Cok;omega
def putB (b:List Int) (l:List TInstr):List Int:=if bodySane l then b++encs l++[11] else[]
def putE (l:List TInstr):Int:=if bodySane l then 0 else 1
theorem bputR_is (b:List Int) (l:List TInstr):bputR b l=some (.tup [.row 0 0 0 (putB b l).length, .d (.int .i64 (putE l))],[.row 1 (byt (putB b l)) 0 false false]):=by
 unfold bputR putB putE
 cases bodySane l<;>rfl
theorem putB_bs {b:List Int} (hb:Bs b) {l:List TInstr} (hc: ∀i∈l,Cok i):Bs (putB b l):=by
 unfold putB
 cases h:bodySane l with
 |false=>intro z hz;cases hz
 |true=>
  obtain⟨_,_,_,hall⟩:=bodySane_all h
  exact(hb.append (encs_bs hall hc)).append (Bs.cons (by decide) (fun z hz=>by cases hz))
theorem putB_len (b:List Int) (l:List TInstr):(putB b l).length≤b.length+4097000:=by
 unfold putB
 cases h:bodySane l with
 |false=>simp
 |true=>
  obtain⟨_,_,h4,hall⟩:=bodySane_all h
  have:=encs_len l hall
  simp only[if_true,List.length_append,List.length_cons,List.length_nil]
  omega
theorem makeF_ne {e:TEnv} {b:List Int} (hb:Bs b) {x:Nat} {f:Int} (h:makeF e b x= .error f): ¬f=0:=by
 unfold makeF at h
 split at h
 ·rename_i hr;cases h;exact brd_ne hb hr
 ·split at h
  ·rename_i h0
   obtain⟨P,r,hp,_⟩:=body_fits h0
   rw[hp] at h
   cases h
  ·rename_i h0;cases h;exact h0
theorem makeF_ok {e:TEnv} (hs:ESm e) {b:List Int} (hb:Bs b) {x:Nat} {t:Tab} {z:Nat} (h:makeF e b x= .ok (t,z)): ∃l P,BodyOk e b x l z P∧t=tabF b x l P:=by
 unfold makeF at h
 split at h
 ·cases h
 ·rename_i l z' hr
  split at h
  ·rename_i h0
   obtain⟨P,hB⟩:=bodyOk_of hs hb hr h0
   rw[hB.path] at h
   cases h
   exact⟨l,P,hB,rfl⟩
  ·cases h
theorem tabF_lens {e:TEnv} {b:List Int} {x:Nat} {l:List TInstr} {z:Nat} {P:List Stk} (h:BodyOk e b x l z P):(tabF b x l P).J.length≤266240∧(tabF b x l P).L.length≤4096∧(tabF b x l P).S.length=l.length+1∧(tabF b x l P).H.length=l.length+1:=by
 have h1:=jumpsTo_le (S:=stF b x l) (P:=P) (fun i hi=>san_labels (h.san i hi).1) l.length (Nat.le_refl _)
 have h2:=loopsTo_le (l:=l) (S:=stF b x l) l.length
 have h3:=h.len
 unfold tabF hts
 refine⟨?_, ?_,stF_len b l x, ?_⟩
 ·simp only;omega
 ·simp only;omega
 ·simp only[List.length_map];exact h.pl
end Go.Proofs.YtfpioigggjnffaaGreatDoor.E
set_option autoImplicit false
set_option maxRecDepth 100000
set_option maxHeartbeats 4000000
namespace Go.Proofs.YtfpioigggjnffaaGreatDoor.E
open Go.Ev
theorem of1_ev (fu n:Nat) (j:Jmp) (a:Int):evF (G fu) (n+1) 80 [.d j.dd, .ptr 0 0] [.cells [.d (.int .i64 a)]]=some (.d (.bool (!decide (j.at_=a))),[.cells [.d (.int .i64 a)]]):=by
 rw[evF.eq_2,evX.eq_def,Gext,exts_no _ (f:=80) (by decide),GP,Tryz.func80];simp only[Tryz.f80,evB]
 simp only[go_sem,seval, -Nat.reduceSubDiff,↓reduceIte,reduceCtorEq,Jmp.dd]
def notAt (a:Int) (j:Jmp):Bool:= !decide (j.at_=a)
def ofO (X:List D) (a:Int):List Go.Ev.Obj:=[.row 4 X 0 false false, .cells [.d (.int .i64 a)]]
def firstAt (a:Int) (l:List Jmp):Int:=match first (fun i=>notAt a (l.getD i jm0)) 0 l.length with
 |some i=>i
 |none=> -1
theorem indexJ_ev (fu n:Nat) (l:List Jmp) (a:Int) (h:l.length<fu) (hs:l.length<1000000):
 evF (G fu) (n+2) 141 [.row 0 0 0 l.length, .fn (.func 80) [] [.ptr 1 0]] (ofO (jds l) a)=some (.d (.int .i64 (firstAt a l)),ofO (jds l) a):=by
 unfold ofO
 rw[evF.eq_2,evX.eq_def,Gext,exts_no _ (f:=141) (by decide),GP,Tryz.func141];simp only[Tryz.f141,evB]
 simp only[go_sem,seval, -Nat.reduceSubDiff,↓reduceIte,reduceCtorEq]
 rw[loop_scan l.length (fun k=>⟨[(0, .row 0 0 0 l.length),(1, .fn (.func 80) [] [.ptr 1 0]),(7, .d (.int .i64 l.length)),(8, .d (.int .i64 k))],[(0, .row 4 (jds l) 0 false false),(1, .cells [.d (.int .i64 a)])]⟩) (fun k=>notAt a (l.getD k jm0))
  (fun k=>(.ret,⟨[(4, .d (.int .i64 k))],[(0, .row 4 (jds l) 0 false false),(1, .cells [.d (.int .i64 a)])]⟩)) (.exit 0,⟨[],[(0, .row 4 (jds l) 0 false false),(1, .cells [.d (.int .i64 a)])]⟩) h (fun _=>trivial) trivial ?_]
 case hs=>
  intro k hk
  have hx:(jds l)[k]? =some (l.getD k jm0).dd:=getD_map hk
  have hkI:(k:Int)<l.length:=by omega
  have W:=wrap_i64 (show-9223372036854775808≤(k:Int)+1 by omega) (by omega)
  have O:=of1_ev fu n (l.getD k jm0) a
  unfold notAt
  generalize l.getD k jm0=j at*
  simp only[Jmp.dd] at hx O
  by_cases c:j.at_=a
  ·simp only[c,decide_true,Bool.not_true] at O hx
   simp only[go_sem,seval, -Nat.reduceSubDiff,↓reduceIte,reduceCtorEq,hkI,hx,O,W,c]
   rfl
  ·simp only[c,decide_false,Bool.not_false] at O
   simp only[go_sem,seval, -Nat.reduceSubDiff,↓reduceIte,reduceCtorEq,hkI,hx,O,W,c]
 case he=>simp only[go_sem,seval, -Nat.reduceSubDiff,↓reduceIte,reduceCtorEq,Int.lt_irrefl]
 ·unfold Go.Ev.scan firstAt
  cases hf:first (fun k=>notAt a (l.getD k jm0)) 0 l.length with
  |some k=>simp only[go_sem,seval, -Nat.reduceSubDiff,↓reduceIte,reduceCtorEq]
  |none=>simp only[go_sem,seval, -Nat.reduceSubDiff,↓reduceIte,reduceCtorEq]
 ·rfl
theorem jset_mid (K G R:List Jmp) (g y:Jmp):(K++(g::G)++y::R).set K.length y=(K++[y])++(G++[y])++R:=by
 simp
theorem jfirst_filter {p:Jmp→Bool}: ∀{l:List Jmp} {k:Nat},k<l.length→(∀j,j<k→p (l.getD j jm0)=false)→p (l.getD k jm0)=true→(l.take (k+1)).filter (fun j=> !p j)=l.take k
 |x::l,0,_,_,h=>by
  simp only[List.getD_cons_zero] at h
  simp[h]
 |x::l,k+1,hk,hj,h=>by
  have h0:=hj 0 (by omega)
  simp only[List.getD_cons_zero] at h0
  simp only[List.getD_cons_succ] at h
  have ih:=jfirst_filter (p:=p) (l:=l) (k:=k) (by simpa using hk) (fun j hjk=>by have:=hj (j+1) (by omega);simpa using this) h
  rw[List.take_succ_cons,List.take_succ_cons,List.filter_cons,h0,ih]
  rfl
theorem cloneJ2_ev (fu n:Nat) (l:List Jmp) (h:l.length<1000000):evF (G fu) (n+1) 79 [.d (.list (jds l))] []=some (.row 0 0 0 l.length,[.row 4 (jds l) 0 false false]):=by
 rw[evF.eq_2,evX.eq_def,Gext,exts_79]
 cases l with
 |nil=>rfl
 |cons x l=>
  have hs:sizedAll 4 (jds (x::l))=true:=sizedAll_map (fun x=>⟨_,rfl⟩) _
  have hl:(jds (x::l)).length=(x::l).length:=List.length_map ..
  simp only[jds,List.map_cons] at hs hl ⊢
  simp only[cloneX,G0P,Tryz.func79]
  simp only[Tryz.f79,evB]
  have h':l.length≤1099511627775:=by simp at h;omega
  simp only[go_sem,seval, -Nat.reduceSubDiff,↓reduceIte,reduceCtorEq,hs,hl,h']
theorem jd_mid (K:List Jmp) {G R:List Jmp} {g:Jmp}:(K++(g::G)++R)[K.length]? =some g:=by simp
abbrev atIs (a:Int) (l:List Jmp):List Jmp:=l.filter (fun j=> !notAt a j)
theorem deleteJ_ev (fu n:Nat) (l:List Jmp) (a:Int) (h:l.length<fu) (hs:l.length<1000000):
 ∃Z,evF (G fu) (n+3) 78 [.row 0 0 0 l.length, .fn (.func 80) [] [.ptr 1 0]] (ofO (jds l) a)=some (.row 0 0 0 (atIs a l).length,ofO (jds (atIs a l)++Z) a):=by
 have I:=indexJ_ev fu n l a h hs
 unfold firstAt at I
 unfold ofO at*
 rw[evF.eq_2,evX.eq_def,Gext,exts_no _ (f:=78) (by decide),GP,Tryz.func78];simp only[Tryz.f78,evB]
 cases hf:first (fun i=>notAt a (l.getD i jm0)) 0 l.length with
 |none=>
  rw[hf] at I
  have e:atIs a l=l:=by
   rw[List.filter_eq_self]
   intro j hj
   have:=(first_list (p:=notAt a) (d:=jm0) l).1 hf
   rw[List.any_eq_false] at this
   simpa using this j hj
  rw[e]
  simp only at I
  refine⟨[], ?_⟩
  simp only[go_sem,seval, -Nat.reduceSubDiff,↓reduceIte,reduceCtorEq,I,List.append_nil]
 |some i0=>
  rw[hf] at I
  obtain⟨_,f2,f3,f4⟩:=first_some hf
  have hi0:i0<l.length:=by omega
  simp only at I
  have n1: ¬(i0:Int)= -1:=by omega
  have W0:=wrap_i64 (show-9223372036854775808≤(i0:Int)+1 by omega) (by omega)
  simp only[go_sem,seval, -Nat.reduceSubDiff,↓reduceIte,reduceCtorEq,I,n1,W0]
  generalize hr:loopN _ _ _ _ _=r
  obtain⟨x,s1,rfl,hx,rfl,G,hG,rfl⟩: ∃x s1,r=some (x,s1)∧leaves x∧(x= .exit 0∧∃G:List Jmp,(atIs a l).length+G.length=l.length∧s1=⟨[(0, .row 0 0 0 l.length),(5, .d (.int .i64 (atIs a l).length))],[(0, .row 4 (jds (atIs a l++G)) 0 false false),(1, .cells [.d (.int .i64 a)])]⟩):=by
   rw[←hr]
   refine loop_inv (J:=fun x s1=>x= .exit 0∧∃G:List Jmp,(atIs a l).length+G.length=l.length∧s1=⟨[(0, .row 0 0 0 l.length),(5, .d (.int .i64 (atIs a l).length))],[(0, .row 4 (jds (atIs a l++G)) 0 false false),(1, .cells [.d (.int .i64 a)])]⟩)
    (l.length-(i0+1)) (fun j z=> ∃(g:Jmp) (G:List Jmp),(atIs a (l.take (i0+1+j))).length+(g::G).length=i0+1+j∧z=⟨[(0, .row 0 0 0 l.length),(1, .fn (.func 80) [] [.ptr 1 0]),(5, .d (.int .i64 (atIs a (l.take (i0+1+j))).length)),(6, .d (.int .i64 ((i0+1+j:Nat):Int)))],[(0, .row 4 (jds (atIs a (l.take (i0+1+j))++(g::G)++l.drop (i0+1+j))) 0 false false),(1, .cells [.d (.int .i64 a)])]⟩) ?_ ?_ fu _ (by omega) ?_
   ·rintro j z hj ⟨g,G,hG,rfl⟩
    obtain⟨k,hk⟩: ∃k,i0+1+j=k:=⟨_,rfl⟩
    have hk1:i0+1+(j+1)=k+1:=by omega
    rw[hk1]
    rw[hk] at hG ⊢
    have hkl:k<l.length:=by omega
    have hd:l.drop k=l.getD k jm0::l.drop (k+1):=by rw[List.drop_eq_getElem_cons hkl,List.getD_eq_getElem?_getD,List.getElem?_eq_getElem hkl];rfl
    have hT:l.take (k+1)=l.take k++[l.getD k jm0]:=by
     rw[List.take_add_one,List.getElem?_eq_getElem hkl,List.getD_eq_getElem?_getD,List.getElem?_eq_getElem hkl];rfl
    have O:=of1_ev fu (n+1) (l.getD k jm0) a
    have hkI:(k:Int)<l.length:=by omega
    have W:=wrap_i64 (show-9223372036854775808≤(k:Int)+1 by omega) (by omega)
    rw[hd,hT]
    unfold atIs at*
    rw[List.filter_append]
    generalize l.getD k jm0=y at*
    generalize hK:List.filter (fun j=> !notAt a j) (l.take k)=K at*
    generalize l.drop (k+1)=R at*
    have hx:(jds (K++(g::G)++y::R))[k]? =some y.dd:=by
     simp only[List.length_cons] at hG
     rw[List.getElem?_map,List.getElem?_append_right (by simp;omega)]
     have:k-(K++(g::G)).length=0:=by simp;omega
     rw[this];rfl
    have hx2:(jds (K++(g::G)++y::R))[K.length]? =some g.dd:=by
     rw[List.getElem?_map,jd_mid];rfl
    have hst:(jds (K++(g::G)++y::R)).set K.length y.dd=jds ((K++[y])++(G++[y])++R):=by
     rw[←jset_mid K G R g y];show _=List.map Jmp.dd _;rw[List.map_set]
    simp only[List.length_cons] at hG
    have hKl:(K.length:Int)<l.length:=by omega
    have WK:=wrap_i64 (show-9223372036854775808≤(K.length:Int)+1 by omega) (by omega)
    by_cases c:y.at_=a
    ·have hn:notAt a y=false:=by unfold notAt;simp[c]
     simp only[List.filter_cons,hn,Bool.not_false,if_true,List.filter_nil]
     simp only[Jmp.dd] at hx hx2 O hst
     generalize jds (K++(g::G)++y::R)=X at*
     simp only[c,decide_true,Bool.not_true] at O hx hst
     simp only[go_sem,seval, -Nat.reduceSubDiff,↓reduceIte,reduceCtorEq,hkI,hx,O,W,hKl,hx2,hst,WK,List.length_append,List.length_cons,List.length_nil]
     obtain⟨g',G',e⟩: ∃g' G',G++[y]=g'::G':=by cases G<;>simp
     refine⟨_,_,rfl,g',G', ?_, ?_⟩
     ·have:=congrArg List.length e
      simp only[List.length_append,List.length_cons,List.length_nil] at this ⊢
      omega
     ·rw[←e];rfl
    ·have hn:notAt a y=true:=by unfold notAt;simp[c]
     simp only[List.filter_cons,hn,Bool.not_true,if_false,List.filter_nil,List.append_nil,Bool.false_eq_true]
     simp only[Jmp.dd] at hx O
     have hsh:K++(g::G)++y::R=K++(g::(G++[y]))++R:=by simp
     rw[hsh] at hx ⊢
     generalize hX:jds (K++(g::(G++[y]))++R)=X at*
     simp only[c,decide_false,Bool.not_false] at O
     simp only[go_sem,seval, -Nat.reduceSubDiff,↓reduceIte,reduceCtorEq,hkI,hx,O,W]
     exact⟨_,_,rfl,g,G++[y],by simp;omega,by rw[hX];rfl⟩
   ·rintro z ⟨g,G,hG,rfl⟩
    have e1:i0+1+(l.length-(i0+1))=l.length:=by omega
    rw[e1] at hG ⊢
    simp only[List.take_length,List.drop_length,List.append_nil] at hG ⊢
    simp only[go_sem,seval, -Nat.reduceSubDiff,↓reduceIte,reduceCtorEq,Int.lt_irrefl]
    exact⟨_,_,rfl,trivial,rfl,g::G,hG,rfl⟩
   ·have e1:=jfirst_filter (p:=notAt a) hi0 (fun j hj=>f4 j (by omega) hj) f3
    refine⟨l.getD i0 jm0,[], ?_, ?_⟩
    ·unfold atIs;simp only[Nat.add_zero];rw[e1];simp;omega
    ·unfold atIs;simp only[Nat.add_zero]
     rw[e1]
     have e2:l.take i0++[l.getD i0 jm0]++l.drop (i0+1)=l:=by
      have hT:l.take (i0+1)=l.take i0++[l.getD i0 jm0]:=by
       rw[List.take_add_one,List.getElem?_eq_getElem hi0,List.getD_eq_getElem?_getD,List.getElem?_eq_getElem hi0];rfl
      rw[←hT];exact List.take_append_drop _ _
     have e3:(l.take i0).length=i0:=by rw[List.length_take];omega
     rw[e2,e3]
     rfl
  refine⟨List.replicate G.length (.agg [.int .i64 0, .int .i64 0, .int .i64 0, .int .i64 0]), ?_⟩
  have g1:((atIs a l).length:Int)≤l.length:=by omega
  have g2:(((l.length:Int)-((atIs a l).length:Int))).toNat=G.length:=by omega
  have g3:(jds (atIs a l++G)).take (atIs a l).length=jds (atIs a l):=by rw[←List.map_take];simp
  have g4:(jds (atIs a l++G)).drop ((atIs a l).length+G.length)=[]:=by rw[←List.map_drop];simp
  simp only[go_sem,seval, -Nat.reduceSubDiff,↓reduceIte,reduceCtorEq,g1,g2,g3,g4,List.append_nil,Int.le_refl,Int.sub_zero]
def ofF (l:List Jmp) (a k:Int):Jmp×Bool:=if k<0∨(atIs a l).length≤k then(jm0,false) else((atIs a l).getD k.toNat jm0,true)
theorem of_ev (fu n:Nat) (S L H:List D) (l:List Jmp) (a k:Int) (h:l.length<fu) (hs:l.length<1000000):
 evF (G fu) (n+4) 32 [.d (.agg [.list S, .list (jds l), .list L, .list H]), .d (.int .i64 a), .d (.int .i64 k)] []=some (.tup [.d (ofF l a k).1.dd, .d (.bool (ofF l a k).2)],[]):=by
 have C:=cloneJ2_ev fu (n+2) l hs
 obtain⟨Z,X⟩:=deleteJ_ev fu n l a h hs
 unfold ofO at X
 unfold ofF
 rw[evF.eq_2,evX.eq_def,Gext,exts_no _ (f:=32) (by decide),GP,Tryz.func32];simp only[Tryz.f32,evB]
 by_cases c1:k<0
 ·rw[if_pos (.inl c1)]
  simp only[go_sem,seval, -Nat.reduceSubDiff,↓reduceIte,reduceCtorEq,C,X,c1,jm0,Jmp.dd]
 ·by_cases c2:((atIs a l).length:Int)≤k
  ·rw[if_pos (.inr c2)]
   simp only[go_sem,seval, -Nat.reduceSubDiff,↓reduceIte,reduceCtorEq,C,X,c1,c2,jm0,Jmp.dd]
  ·rw[if_neg (by omega)]
   obtain⟨i,rfl⟩: ∃i:Nat,k=i:=⟨k.toNat,by omega⟩
   have hi:i<(atIs a l).length:=by omega
   have hx:(jds (atIs a l)++Z)[i]? =some ((atIs a l).getD i jm0).dd:=by
    rw[List.getElem?_append_left (by rw[List.length_map];exact hi)];exact getD_map hi
   have hiI:(i:Int)<(atIs a l).length:=by omega
   simp only[Int.toNat_natCast]
   generalize(atIs a l).getD i jm0=y at*
   simp only[Jmp.dd] at hx ⊢
   simp only[go_sem,seval, -Nat.reduceSubDiff,↓reduceIte,reduceCtorEq,C,X,c1,c2,hx,hiI]
end Go.Proofs.YtfpioigggjnffaaGreatDoor.E
set_option autoImplicit false
set_option maxRecDepth 100000
set_option maxHeartbeats 4000000
namespace Go.Proofs.YtfpioigggjnffaaGreatDoor.E
open Go.Ev
theorem BodyOk.lands {e:TEnv} {b:List Int} {x:Nat} {l:List TInstr} {z:Nat} {P:List Stk} (h:BodyOk e b x l z P): ∀j∈(tabF b x l P).J,Lands (stF b x l) j:=by
 refine jumpsTo_lands h.walk (stF_len b l x) (fun k n=> ?_) l.length (Nat.le_refl _)
 refine innerC_all (fun c hc=> ?_) ⟨by decide,by decide⟩ n
 rw[List.getD_eq_getElem?_getD] at hc
 cases hk:P[k]? with
 |none=>rw[hk] at hc;cases hc
 |some s=>
  rw[hk] at hc
  obtain⟨_,_,_,hq⟩:=h.c s (List.mem_of_getElem? hk)
  have:=hq c hc
  exact⟨this.1,this.2.2⟩
theorem BodyOk.bound {e:TEnv} {b:List Int} (hb:Bs b) {x:Nat} (hx:x≤b.length) {l:List TInstr} {z:Nat} {P:List Stk} (h:BodyOk e b x l z P) {i:Nat} (hi:i<(stF b x l).length):0≤at0 (stF b x l) i∧at0 (stF b x l) i≤b.length:=by
 obtain⟨y,c,q,hc,_⟩:=h.chain
 rw[stF_len] at hi
 obtain⟨w,w1,_,w2⟩:=chain_at hc i (by omega)
 have:=chain_end hb hx w1
 unfold at0
 rw[List.getD_eq_getElem?_getD,w2]
 simp only[Option.getD_some]
 omega
theorem BodyOk.zle {e:TEnv} {b:List Int} (hb:Bs b) {x:Nat} (hx:x≤b.length) {l:List TInstr} {z:Nat} {P:List Stk} (h:BodyOk e b x l z P):z≤b.length:=by
 obtain⟨y,c,q,hc,hd,_,hz⟩:=h.chain
 have hy:=chain_end hb hx hc
 have hd':Bs (b.drop y):=fun z hz=>hb z (List.mem_of_mem_drop hz)
 obtain⟨_,_,_,h0,_⟩:=dec_ok hd' hd
 rw[List.length_drop] at h0
 omega
theorem makeF_shift {e:TEnv} (a b:List Int):(∀f,makeF e b 0= .error f→makeF e (a++b) a.length= .error f)∧
 ∀t z,makeF e b 0= .ok (t,z)→∃u,makeF e (a++b) a.length= .ok (u,a.length+z)∧u.J=t.J.map (fun j=>j.far a.length)∧u.S.length=t.S.length∧u.H=t.H:=by
 have hs:=brd_shift a b 4097 0 [] []
 rw[Nat.add_zero] at hs
 unfold makeF
 rw[hs]
 cases hr:brd b 4097 0 [] [] with
 |error f=>exact⟨fun g h=>h,fun t z h=>by cases h⟩
 |ok r=>
  obtain⟨l,z⟩:=r
  simp only
  by_cases h0:bodyF e l=0
  ·rw[if_pos h0,if_pos h0]
   cases hp:pathF e l with
   |error f=>exact⟨fun g h=>h,fun t z h=>by cases h⟩
   |ok P=>
    refine⟨fun g h=>(by cases h),fun t z' h=> ?_⟩
    cases h
    have hw:=(pathF_ok hp).1
    have hS:=stF_shift a b l 0
    rw[Nat.add_zero] at hS
    refine⟨_,rfl, ?_, ?_,rfl⟩
    ·unfold tabF
     simp only
     rw[hS]
     exact jumpsTo_far hw (stF_len b l 0) P a.length l.length (Nat.le_refl _)
    ·unfold tabF
     simp only
     rw[stF_len,stF_len]
  ·rw[if_neg h0,if_neg h0]
   exact⟨fun g h=>h,fun t z h=>by cases h⟩
theorem ints_same (fu n:Nat) (l:List Int) (h:l.length<fu) (hs:l.length<1000000):evF (G fu) (n+1) 34 [.d (.list (intd l)), .d (.list (intd l))] []=some (.d (.bool true),[]):=by
 rw[evF.eq_2,evX.eq_def,Gext,exts_no _ (f:=34) (by decide),GP,Tryz.func34];simp only[Tryz.f34,evB]
 simp only[go_sem,seval, -Nat.reduceSubDiff,↓reduceIte,reduceCtorEq,List.length_map]
 rw[loop_some l.length (fun k=>⟨[(0, .d (.list (intd l))),(1, .d (.list (intd l))),(5, .d (.int .i64 k))],[]⟩) (.exit 0,⟨[],[]⟩) trivial h ?_]
 case hs=>
  intro k hk
  have hx:(intd l)[k]? =some (.int .i64 (l.getD k 0)):=getD_map hk
  have hkI:(k:Int)<l.length:=by omega
  have W:=wrap_i64 (show-9223372036854775808≤(k:Int)+1 by omega) (by omega)
  simp only[go_sem,seval, -Nat.reduceSubDiff,↓reduceIte,reduceCtorEq,List.length_map,hkI,idx,hx,W]
  rfl
 case he=>simp only[go_sem,seval, -Nat.reduceSubDiff,↓reduceIte,reduceCtorEq,List.length_map,Int.lt_irrefl]
 ·simp only[go_sem,seval, -Nat.reduceSubDiff,↓reduceIte,reduceCtorEq]
 ·rfl
theorem atIs_is (l:List Jmp) (a:Int):atIs a l=l.filter (fun j=>decide (j.at_=a)):=by
 unfold atIs notAt
 simp only[Bool.not_not]
theorem wants (l:List TInstr) (S:List Int) (P:List Stk) (k:Nat):((stepJ l S P k).length:Int)=if (l.getD k in0).op=4∨(l.getD k in0).op=5∨(l.getD k in0).op=12∨(l.getD k in0).op=13 then 1 else if (l.getD k in0).op=14 then((l.getD k in0).labels.length:Int)+1 else 0:=by
 unfold stepJ
 simp only
 by_cases h4:(l.getD k in0).op=4
 ·rw[if_pos h4,if_pos (.inl h4)];rfl
 rw[if_neg h4]
 by_cases h5:(l.getD k in0).op=5
 ·rw[if_pos h5,if_pos (.inr (.inl h5))];rfl
 rw[if_neg h5]
 by_cases h12:(l.getD k in0).op=12∨(l.getD k in0).op=13
 ·rw[if_pos h12,if_pos (.inr (.inr h12))];rfl
 have hn: ¬((l.getD k in0).op=4∨(l.getD k in0).op=5∨(l.getD k in0).op=12∨(l.getD k in0).op=13):=by omega
 rw[if_neg h12,if_neg hn]
 by_cases h14:(l.getD k in0).op=14
 ·rw[if_pos h14,if_pos h14,List.length_append,List.length_map];rfl
 ·rw[if_neg h14,if_neg h14];rfl
theorem of_step {l:List TInstr} {S:List Int} (hS: ∀i j,i<j→j≤l.length→at0 S i<at0 S j) (P:List Stk) {k:Nat} (hk:k<l.length) (j:Nat):ofF (jumpsTo l S P l.length) (at0 S k) j=if j<(stepJ l S P k).length then((stepJ l S P k).getD j jm0,true) else(jm0,false):=by
 unfold ofF
 rw[atIs_is,atIs_step hS P hk l.length (Nat.le_refl _),if_pos hk]
 by_cases h:j<(stepJ l S P k).length
 ·rw[if_neg (by omega),if_pos h,Int.toNat_natCast]
 ·rw[if_pos (by omega),if_neg h]
theorem stF_put {rest B:List Int}: ∀(l:List TInstr) (x:Nat),(∀i∈l,San i∧Cok i)→B.drop x=encs l++rest→∀k,k≤l.length→(stF B x l)[k]? =some ((x+(encs (l.take k)).length:Nat):Int)
 |[],x,_,h,k,hk=>by
  obtain rfl:k=0:=by simpa using hk
  simp[stF,encs]
 |i::l,x,hc,h,0,hk=>by simp[stF,encs]
 |i::l,x,hc,h,k+1,hk=>by
  obtain⟨h1,h2⟩:=hc i (by simp)
  have e1:B.drop x=enc i++(encs l++rest):=by rw[h];simp[encs]
  have hd:dec (B.drop x)= .ok (i,(enc i).length):=by rw[e1];exact dec_enc h1 h2 _
  have hn:B.drop (x+(enc i).length)=encs l++rest:=by rw[←List.drop_drop,e1];simp
  have ih:=stF_put l (x+(enc i).length) (fun j hj=>hc j (by simp[hj])) hn k (by simpa using hk)
  simp only[stF,List.getElem?_cons_succ,dcnt_ok hd,List.take_succ_cons]
  rw[ih]
  simp only[encs,List.flatMap_cons,List.length_append,Nat.add_assoc]
end Go.Proofs.YtfpioigggjnffaaGreatDoor.E
