/- The reading held against the model: its soundness. -/
import Derived.Test.YtfpioigggjnffaaGreatDoorEvSa
import Derived.Orders
import Derived.LoopN
import Derived.Scope
set_option linter.unnecessarySimpa false
set_option linter.unusedSimpArgs false
set_option linter.unusedVariables false
set_option autoImplicit false
namespace Go.Ev
section
variable {P:Program} {w:World} {Im:Nat→Nat→Prop} {loc:Nat→Loc} {h:Map Obj} {st:Nat→Option (Nat×Nat)}
theorem Sized.take {sz:Nat} {xs:List D} (h:Sized sz xs) (n:Nat):Sized sz (xs.take n):=fun i x hx=>by
 rw[List.getElem?_take] at hx
 split at hx
 ·exact h i x hx
 ·cases hx
theorem Sized.drop {sz:Nat} {xs:List D} (h:Sized sz xs) (n:Nat):Sized sz (xs.drop n):=fun i x hx=>by
 rw[List.getElem?_drop] at hx
 exact h _ x hx
set_option maxHeartbeats 1000000 in
theorem copy_ran (hM:Mem w Im loc h) {hs:Map Obj} (hsub: ∀r o,getM hs r=some o→getM h r=some o) {t ty:TypeId} {ts:List TypeId} {s x v:V} {us ux:Value} {ch:Map Obj} {news:List Obj}
 (hvs:VR w Im loc (stm h) s us) (hvx:VR w Im loc (stm h) x ux) (hv:copyV hs s (esize P (elemT (kindOf (tiOf P t)))) (srcOf hs x)=some (v,ch,news)):
 news=[]∧Ran P w Im loc h ((Builtin.copy_ (t::ts).toArray ty #[us,ux]).run P w) v (setAll h ch):=by
 cases hsz:esize P (elemT (kindOf (tiOf P t))) with
 |none=>simp[hsz,copyV] at hv
 |some sz=>
  obtain⟨e,i,z,g1,hi,hz,e1,e2,e3,e4,e5b⟩:=esize_some hsz
  have ht:=elemT_some g1
  cases hsr:srcOf hs x with
  |none=>simp[hsz,hsr,copyV] at hv
  |some ys=>
   simp only[hsz,hsr,copyV] at hv
   cases hsa:sizedAll sz ys with
   |false=>simp[hsa] at hv
   |true=>
    simp only[hsa,cond_true] at hv
    have hS:=sizedAll_spec hsa
    obtain⟨uy,hc,hf⟩:=srcOf_spec (P:=P) hM hsub hvx hsr hS
    obtain⟨f1,f2⟩:=hf w rfl
    unfold copyV.copy1 at hv
    split at hv
    ·rename_i r s' off len
     cases hr:getM hs r with
     |none=>simp[hr,copyTo] at hv
     |some ob=>
      cases ob with
      |cells=>simp[hr,copyTo] at hv
      |row sz' xs s2 fz chg=>
       simp only[hr,copyTo] at hv
       split at hv
       ·rename_i es
        subst es
        cases fz with
        |true=>simp at hv
        |false=>
         simp only[cond_false] at hv
         by_cases hzz:sz'=sz
         ·subst hzz
          simp only[beq_self_eq_true,cond_true,Option.some.injEq,Prod.mk.injEq] at hv
          obtain⟨rfl,rfl,rfl⟩:=hv
          refine⟨rfl, ?_⟩
          have hg:=hsub _ _ hr
          obtain⟨a0,cap0,szl,own0,ad,r1,rfl,r3,r3',r4⟩:RowAt (loc r) off len xs.length us:=by
           cases hvs with
           |row _ _ _ _ _ h0 hl hh=>
            obtain⟨cur,nn,q1,q2,q3⟩:=hh
            simp only[stm,hg,rowN,Option.some.injEq,Prod.mk.injEq] at q1
            obtain⟨rfl,rfl⟩:=q1
            exact q3 rfl
          obtain⟨w1,a,cap,own,w2,w3,w4,w5,w6,w7⟩:=hM.obj r _ hg
          rw[r1] at w2
          obtain⟨rfl,rfl,rfl,rfl⟩:=Loc.row.inj w2.symm
          have hnm:Nat.min ys.length len=min ys.length len:=rfl
          have hfirst:=f2 (min ys.length len) (Nat.min_le_left _ _)
          rw[←e1] at hfirst
          by_cases hn:min ys.length len=0
          ·have hrun:(Builtin.copy_ (t::ts).toArray ty #[.slice ad len (cap-off),ux]).run P w= .ok (goInt ((0:Nat):Int)) w:=by
            rw[hn] at hfirst
            simp only[Nat.zero_mul,List.take_zero] at hfirst
            cases ad<;>simp[Builtin.copy_,run_underlying ht,f1,hnm,hn,run_sizeOf' hi,hfirst,storeCells]
           refine⟨_,w,Im,loc,hrun, ?_,by rw[hn];exact .d _ _ (.int _ _)⟩
           have hsame:xs.take off++(ys.take (min ys.length len)++xs.drop (off+min ys.length len))=xs:=by rw[hn];simp
           simp only[setAll,hsame]
           exact Step.congr (fun k=>(getM_setM_self hg k).symm) (Step.refl hM)
          ·have hown:own=true:=by
            cases own with
            |true=>rfl
            |false=>
             obtain⟨l1,l2,_⟩:=w6 rfl
             rcases l2 with l2|l2
             ·cases l2
             ·exfalso;subst l2;simp at r3;omega
           subst hown
           obtain⟨b,o,arr,ty',f,rfl,q2,q3,q4,q5,q6,q7⟩:=w7 rfl
           obtain⟨b',o',ea,rfl⟩:=r4.resolve_left (by omega)
           obtain⟨rfl,rfl⟩:=Prod.mk.inj (Option.some.inj ea)
           generalize hN:min ys.length len=n at*
           have hn1:n≤ys.length:=by omega
           have hn2:n≤len:=by omega
           have hST:=hS.take n
           have hcT:CR w Im (flatC (ys.take n)) (uy.take (n*sz')):=by
            have:flatC (ys.take n)=(flatC ys).take (n*sz'):=by
             have e0:flatC ys=flatC (ys.take n)++flatC (ys.drop n):=by rw[←flatC_append,List.take_append_drop]
             rw[e0]
             have hl:(flatC (ys.take n)).length=n*sz':=by rw[flatC_length hST];simp[hn1]
             rw[←hl,List.take_left]
            rw[this]
            exact hc.take _
           have hul:(uy.take (n*sz')).length=n*sz':=by rw[hcT.1,flatC_length hST];simp[hn1]
           have hfit:o+off*sz'+(uy.take (n*sz')).length≤arr.size:=by
            rw[hul]
            have h1:(off+n)*sz'≤cap*sz':=Nat.mul_le_mul_right _ (by omega)
            rw[Nat.add_mul] at h1
            omega
           have hstore:=run_stores (P:=P) b (o+off*sz') ty' f (uy.take (n*sz')) 0 arr w q2 q3 (by simpa using hfit) (fun v hv=>hcT.one hv)
           simp only[Nat.add_zero] at hstore
           have hrun:(Builtin.copy_ (t::ts).toArray ty #[.slice (some ⟨b,o+off*sz',none⟩) len (cap-off),ux]).run P w= .ok (goInt (n:Int)) (w.setRow b (putA arr (o+off*sz') (uy.take (n*sz')))):=by
            rw[e1] at hfirst
            simp[Builtin.copy_,run_underlying ht,f1,hnm,hN,run_sizeOf' hi,e1,hfirst,hstore]
           have hget:=putA_get arr (o+off*sz') (uy.take (n*sz')) hfit
           generalize hcs:putA arr (o+off*sz') (uy.take (n*sz'))=arr' at hrun hget
           have harr':arr'.size=arr.size:=by rw[←hcs];exact putA_size _ _ _
           have hheap:=setRow_heap w b arr arr' ty' f q2
           have hcell: ∀k q,Im k q→(w.setRow b arr').cell? ⟨k,q,none⟩=w.cell? ⟨k,q,none⟩:=fun k q hi'=>by
            by_cases hk:k=b
            ·subst hk
             rw[cell_heap hheap,cell_heap q2,hget,if_neg]
             rcases q6 q hi' with h1|⟨h1,_⟩
             ·omega
             ·cases h1
            ·exact cell_same_block (setRow_other w b k _ hk)
           obtain⟨uf,huf⟩:=w5 b o rfl
           obtain⟨uo,c1,c2⟩:=rowRd_flat w1 huf
           have hsplit:flatC (xs.take off++(ys.take n++xs.drop (off+n)))=(flatC xs).take (off*sz')++(flatC (ys.take n)++(flatC xs).drop ((off+n)*sz')):=by
            have ea:flatC (xs.take off)=(flatC xs).take (off*sz'):=by
             have e0:flatC xs=flatC (xs.take off)++flatC (xs.drop off):=by rw[←flatC_append,List.take_append_drop]
             have hl:(flatC (xs.take off)).length=off*sz':=by rw[flatC_length (Sized.take w1 _)];congr 1;simp;omega
             rw[e0,←hl,List.take_left]
            have eb:flatC (xs.drop (off+n))=(flatC xs).drop ((off+n)*sz'):=by
             have e0:flatC xs=flatC (xs.take (off+n))++flatC (xs.drop (off+n)):=by rw[←flatC_append,List.take_append_drop]
             have hl:(flatC (xs.take (off+n))).length=(off+n)*sz':=by rw[flatC_length (Sized.take w1 _)];congr 1;simp;omega
             rw[e0,←hl,List.drop_left]
            rw[flatC_append,flatC_append,ea,eb]
           have hS':Sized sz' (xs.take off++(ys.take n++xs.drop (off+n))):=(Sized.take w1 _).append (hST.append (Sized.drop w1 _))
           have hlen':(xs.take off++(ys.take n++xs.drop (off+n))).length=xs.length:=by simp;omega
           have hCR:CR (w.setRow b arr') Im (flatC (xs.take off++(ys.take n++xs.drop (off+n)))) (uo.take (off*sz')++(uy.take (n*sz')++uo.drop ((off+n)*sz'))):=by
            rw[hsplit]
            exact((c1.take _).append (hcT.append (c1.drop _))).grow (fun _ _ i=>i) hcell
           have hol:uo.length=xs.length*sz':=c1.1.trans (flatC_length w1)
           have hoff:off*sz'≤xs.length*sz':=Nat.mul_le_mul_right _ (by omega)
           have hAt:At (w.setRow b arr') b o (uo.take (off*sz')++(uy.take (n*sz')++uo.drop ((off+n)*sz'))):=fun q v hq=>by
            rw[cell_heap hheap,hget,hul]
            have htl:(uo.take (off*sz')).length=off*sz':=by rw[List.length_take];omega
            by_cases h1:q<off*sz'
            ·rw[if_neg (by omega)]
             rw[List.getElem?_append_left (by omega),List.getElem?_take,if_pos h1] at hq
             have:=c2 q v hq
             rw[cell_heap q2] at this
             exact this
            ·rw[List.getElem?_append_right (by omega),htl] at hq
             by_cases h2:q<off*sz'+n*sz'
             ·rw[if_pos (by omega),show o+q-(o+off*sz')=q-off*sz' by omega]
              rw[List.getElem?_append_left (by omega)] at hq
              exact hq
             ·rw[if_neg (by omega)]
              rw[List.getElem?_append_right (by omega),hul,List.getElem?_drop,show(off+n)*sz'+(q-off*sz'-n*sz')=q by rw[Nat.add_mul];omega] at hq
              have:=c2 q v hq
              rw[cell_heap q2] at this
              exact this
           obtain⟨ug,hug⟩:=flat_rowRd hS' hCR hAt
           refine⟨_,_,Im,loc,hrun, ?_, .d _ _ (.int _ _)⟩
           simp only[setAll]
           refine Step.gen hM rfl rfl rfl (by simp) (fun _ _=>rfl) (fun k hk hnn=>setRow_other w b k _ (fun e=>hnn (by rw[r1,e];rfl))) (fun _ _ i=>i) hcell (fun _ _ i=> .inl i) (fun k q hi'=>by simpa using hM.im k q hi')
            (fun k hk=> .inl hk) (fun _ e=>e) (fun cur n' hl e=>⟨hl,cur,n',by simp only[stm,hg,rowN] at e;simp only[rowN,hlen'];exact e,Nat.le_refl _,fun _=>⟨rfl,Nat.le_refl _⟩⟩)
            (fun _=>⟨_,hg, .inr ⟨rfl,rfl,rfl,by rw[hlen'];exact Nat.le_refl _⟩⟩) ?_
           refine⟨hS',some (b,o),cap,true,r1,by rw[hlen'];exact w3,(fun e=>by cases e),fun b' o' e=> ?_,(fun e=>by cases e),fun _=>⟨b,o,arr',ty',f,rfl,hheap,by rw[harr'];exact q3,fun j u hu=> ?_,by rw[harr'];exact q5,fun q hq=> ?_,q7⟩⟩
           ·obtain⟨rfl,rfl⟩:=Prod.mk.inj (Option.some.inj e)
            exact⟨ug,hug⟩
           ·rw[hget] at hu
            split at hu
            ·exact hcT.one (List.mem_of_getElem? hu)
            ·exact q4 j u hu
           ·rcases q6 q hq with h1|⟨h1,_⟩
            ·exact .inl h1
            ·cases h1
         ·have:(sz'==sz)=false:=by simpa using hzz
          simp[this] at hv
       ·cases hv
    ·obtain⟨rfl,rfl,rfl⟩:v= .d (.int .i64 0)∧ch=[]∧news=[]:=by
      simp only[Option.some.injEq,Prod.mk.injEq] at hv
      exact⟨hv.1.symm,hv.2.1.symm,hv.2.2.symm⟩
     refine⟨rfl, ?_⟩
     cases hvs
     refine Ran.still hM ⟨goInt 0, ?_, .d _ _ (.int _ _)⟩
     have hfirst:=f2 0 (Nat.zero_le _)
     rw[←e1] at hfirst
     simp only[Nat.zero_mul,List.take_zero] at hfirst
     have hm0:Nat.min ys.length 0=0:=Nat.min_zero _
     simp[Builtin.copy_,run_underlying ht,f1,hm0,run_sizeOf' hi,hfirst]
    ·cases hv
end
end Go.Ev
set_option autoImplicit false
namespace Go.Ev
section
variable {P:Program} {w:World} {Im:Nat→Nat→Prop} {loc:Nat→Loc} {h:Map Obj} {st:Nat→Option (Nat×Nat)}
theorem restrict_sub: ∀(rs:List Nat) (r:Nat) (o:Obj),getM (restrict h rs) r=some o→getM h r=some o
 |[],r,o,e=>by simp[restrict,getM] at e
 |k::rs,r,o,e=>by
  simp only[restrict] at e
  cases hk:getM h k with
  |none=>rw[hk] at e;exact restrict_sub rs r o e
  |some x=>
   rw[hk] at e
   simp only[restrict.addM,getM_setM] at e
   split at e
   ·rename_i q
    subst q
    rw[hk];exact e
   ·exact restrict_sub rs r o e
theorem turned_eq {rs:List Nat}: ∀{ch:Map Obj} {h h1:Map Obj},turned rs h ch=some h1→h1=setAll h ch
 |[],h,h1,e=>(Option.some.inj e).symm
 |(k,o)::ch,h,h1,e=>by
  simp only[turned] at e
  cases hc:rs.contains k with
  |false=>rw[hc] at e;cases e
  |true=>
   rw[hc] at e
   exact turned_eq (ch:=ch) e
def GlobOk (glob:Nat→Option (List D)) (w:World) (Im:Nat→Nat→Prop):Prop:=
 ∀g cs,glob g=some cs→∃u:Nat→Value,(∀(k:Nat) y,cs[k]? =some y→flatD y∧Im g k∧w.cell? ⟨g,k,none⟩=some (u k))∧∀(k:Nat) y,cs[k]? =some y→DR w Im y (u k)
theorem GlobOk.grow {glob:Nat→Option (List D)} {w':World} {Im':Nat→Nat→Prop} (hG:GlobOk glob w Im) (hi: ∀b o,Im b o→Im' b o) (hc: ∀b o,Im b o→w'.cell? ⟨b,o,none⟩=w.cell? ⟨b,o,none⟩):GlobOk glob w' Im':=by
 intro g cs e
 obtain⟨u,h1,h2⟩:=hG g cs e
 exact⟨u,fun k y hk=>⟨(h1 k y hk).1,hi _ _ (h1 k y hk).2.1,(hc _ _ (h1 k y hk).2.1).trans (h1 k y hk).2.2⟩,fun k y hk=>(h2 k y hk).grow hi hc⟩
def Tm (w:World) (Im:Nat→Nat→Prop) (loc:Nat→Loc) (st:Nat→Option (Nat×Nat)) (tm:Map V) (tmps:Array Value):Prop:=
 ∀t v,getM tm t=some v→t<tmps.size∧VR w Im loc st v (tmps.getD t Go.undef)
theorem Tm.grow {w':World} {Im':Nat→Nat→Prop} {loc':Nat→Loc} {st':Nat→Option (Nat×Nat)} {tm:Map V} {tmps:Array Value} (hT:Tm w Im loc st tm tmps) (g:Grow w Im loc st w' Im' loc' st'):Tm w' Im' loc' st' tm tmps:=
 fun t v e=>⟨(hT t v e).1,(hT t v e).2.grow g⟩
theorem Tm.put {tm:Map V} {a:Act} (hT:Tm w Im loc st tm a.tmps) {dst:Option Tmp} {v:V} {u:Value} (hd: ∀d,dst=some d→d<a.tmps.size) (hv:VR w Im loc st v u):Tm w Im loc st (put tm dst v) (a.put dst u).tmps:=by
 cases dst with
 |none=>exact hT
 |some d=>
  intro t x e
  simp only[Ev.put,getM_setT] at e
  have hlt:=hd d rfl
  split at e
  ·rename_i q
   subst q
   obtain rfl:=Option.some.inj e
   exact⟨by simpa[Act.put] using hlt,by simpa[Act.put,hlt] using hv⟩
  ·rename_i q
   obtain⟨h1,h2⟩:=hT t x e
   refine⟨by simpa[Act.put] using h1, ?_⟩
   have:(a.tmps.setIfInBounds d u).getD t Go.undef=a.tmps.getD t Go.undef:=by
    simp only[Array.getD_eq_getD_getElem?]
    rw[Array.getElem?_setIfInBounds_ne q]
   simp only[Act.put]
   rw[this]
   exact h2
theorem ev_VR {c:Ctx} {s:St} {a:Act} (hT:Tm w Im loc st s.tmps a.tmps) (hG:GlobOk c.glob w Im) (x:Operand):VR w Im loc st (ev c s x) (a.eval x):=by
 cases x with
 |tmp t=>
  simp only[ev,getT,Act.eval]
  cases hg:getM s.tmps t with
  |none=>exact .dead _
  |some v=>exact(hT t v hg).2
 |const v=>exact ofValue_VR v
 |func f=>exact .fn _ [] [] #[] #[] rfl rfl (fun j v u h=>by simp at h) (fun j v u h=>by simp at h)
 |global g=>
  simp only[ev,Act.eval]
  cases hg:c.glob g with
  |none=>exact .dead _
  |some cs=>
   obtain⟨u,h1,h2⟩:=hG g cs hg
   have:VR w Im loc st (.cp cs 0) (.pointer (some ⟨g,0+0,none⟩)):= .cp cs 0 g 0 u (fun k y hk=>by simpa using h1 k y hk) h2
   exact this
theorem evs_eq (c:Ctx) (s:St) (xs:List Operand):evs c s xs=xs.map (ev c s):=by
 induction xs with
 |nil=>rfl
 |cons x xs ih=>simp[evs,ih]
theorem evs_VRs {c:Ctx} {s:St} {a:Act} (hT:Tm w Im loc st s.tmps a.tmps) (hG:GlobOk c.glob w Im) (xs:List Operand):VRs w Im loc st (evs c s xs) (xs.map a.eval):=by
 rw[evs_eq]
 refine⟨by simp,fun j v u hv hu=> ?_⟩
 simp only[List.getElem?_map,Option.map_eq_some_iff] at hv hu
 obtain⟨x,hx,rfl⟩:=hv
 obtain⟨y,hy,rfl⟩:=hu
 obtain rfl:=Option.some.inj (hx.symm.trans hy)
 exact ev_VR hT hG x
theorem ret1_some {o:Option V} {v:V} {ch:Map Obj} {news:List Obj} (h:ret1 o=some (v,ch,news)):o=some v∧ch=[]∧news=[]:=by
 cases o with
 |none=>cases h
 |some x=>
  simp only[ret1,Option.some.injEq,Prod.mk.injEq] at h
  exact⟨by rw[h.1],h.2.1.symm,h.2.2.symm⟩
theorem index_run {t:TypeId} {x i v:V} {ux ui:Value} (hx:VR w Im loc st x ux) (hi:VR w Im loc st i ui) (hv:indexK P x (kindOf (tiOf P t)) i=some v):
 ∃u,(Instr.index t ux ui).run P w= .ok u w∧VR w Im loc st v u:=by
 generalize hk:kindOf (tiOf P t)=k at hv
 unfold indexK at hv
 split at hv
 ·rename_i len e k' n
  obtain rfl:=hi.int_inv
  obtain⟨d,hd,hd'⟩:=kind_und hk (by simp)
  rw[kindD_arr hd'] at hd
  unfold indexV at hv
  split at hv
  ·rename_i T cs hT
   split at hv
   ·rename_i hn
    obtain⟨it,de,z,h1,h2,h3,e1,e2,e3,e4,e5,e6,e7⟩:=tiOf_some hT
    cases hx with
    |d _ _ hd0=>
     cases hd0 with
     |agg _ arr g1 g2 g3=>
      have hrun: ∀r,(part e arr (n.toNat*it.size)).run P w=r→(Instr.index t (.agg arr) (.int k' n)).run P w=r:=by
       intro r hr
       simp only[Instr.index,asIntOf,Sem.run_bind,Sem.run_pure,Result.andThen_ok,run_underlying hd]
       rw[if_pos hn]
       simp only[Sem.run_bind,run_sizeOf' h1,Result.andThen_ok,hr]
      unfold partD at hv
      cases ha:T.agg with
      |true=>
       rw[ha] at hv
       simp only[cond_true] at hv
       cases hkk:takeN (cs.drop (n.toNat*T.size)) T.size with
       |none=>simp[hkk,aggD] at hv
       |some ys=>
        simp only[hkk,aggD,Option.some.injEq] at hv
        subst hv
        obtain⟨l1,l2⟩:=takeN_spec _ _ _ hkk
        have hy: ∀(j:Nat) y,ys[j]? =some y→cs[n.toNat*T.size+j]? =some y:=fun j y hj=>by
         have:=(l2 j (by rw[←l1];exact(List.getElem?_eq_some_iff.1 hj).1)).1
         rw[hj,List.getElem?_drop] at this
         exact this.symm
        have hfit:T.size=0∨n.toNat*T.size+T.size≤arr.size:=by
         cases hs:T.size with
         |zero=>exact .inl rfl
         |succ m=>
          right
          rw[hs] at l2
          obtain⟨q,hq⟩:=Option.isSome_iff_exists.1 (l2 m (by omega)).2
          rw[List.getElem?_drop] at hq
          have:=(List.getElem?_eq_some_iff.1 hq).1
          rw[g1]
          omega
        refine⟨.agg (arr.extract (n.toNat*it.size) (n.toNat*it.size+it.size)),hrun _ ?_, .d _ _ (.agg ys _ ?_ (fun j y hj=>g2 _ y (hy j y hj)) (fun j y u hj hu=> ?_))⟩
        ·simp only[part,Sem.run_bind,run_isAgg h2,Result.andThen_ok,←e2,ha,if_true,run_sizeOf' h1,Sem.run_pure]
        ·rw[Array.size_extract,l1,←e1]
         omega
        ·rw[Array.getElem?_extract] at hu
         split at hu
         ·rw[←e1] at hu
          exact g3 _ y u (hy j y hj) hu
         ·cases hu
      |false=>
       rw[ha] at hv
       simp only[cond_false] at hv
       cases hkk:cs[n.toNat*T.size]? with
       |none=>simp[hkk,oneD] at hv
       |some y=>
        simp only[hkk,oneD,Option.some.injEq] at hv
        subst hv
        have hj:n.toNat*T.size<arr.size:=by rw[g1];exact(List.getElem?_eq_some_iff.1 hkk).1
        refine⟨arr[n.toNat*T.size],hrun _ ?_, .d _ _ (g3 _ y _ hkk (by simp[hj]))⟩
        simp only[part,Sem.run_bind,run_isAgg h2,Result.andThen_ok,←e2,ha,Bool.false_eq_true,if_false,←e1]
        rw[Array.getElem?_eq_getElem hj]
        simp
   ·cases hv
  ·cases hv
 ·rename_i k' n
  obtain rfl:=hi.int_inv
  obtain⟨d,hd,hd'⟩:=kind_und hk (by simp)
  rw[kindD_str hd'] at hd
  unfold indexS at hv
  split at hv
  ·obtain⟨b,rfl,rfl⟩:=hx.str_inv
   split at hv
   ·rename_i hn
    cases hb:b.data.toList[n.toNat]? with
    |none=>simp[hb,oneB] at hv
    |some c=>
     simp only[hb,oneB,Option.some.injEq] at hv
     subst hv
     have hbs:b[n.toNat]? =some c:=by
      have h1:=(List.getElem?_eq_some_iff.1 hb)
      obtain⟨h1,h2⟩:=h1
      have h3:n.toNat<b.size:=by have h4:=h1;rw[Array.length_toList] at h4;exact h4
      rw[getElem?_pos b n.toNat h3]
      simp at h2
      exact congrArg some h2
     exact⟨_,by simp only[Instr.index,asIntOf,Sem.run_bind,Sem.run_pure,Result.andThen_ok,run_underlying hd,hn,if_true,hbs], .d _ _ (.int _ _)⟩
   ·cases hv
  ·cases hv
 ·cases hv
theorem part_run {e:TypeId} {T:TI} {cs:List D} {arr:Array Value} {off:Nat} {v:V} (hT:tiOf P e=some T) (g1:arr.size=cs.length) (g2: ∀(j:Nat) y,cs[j]? =some y→flatD y)
 (g3: ∀(j:Nat) y u,cs[j]? =some y→arr[j]? =some u→DR w Im y u) (hv:partD T cs off=some v): ∃u,(part e arr off).run P w= .ok u w∧VR w Im loc st v u:=by
 obtain⟨it,de,z,h1,h2,h3,e1,e2,e3,e4,e5,e6,e7⟩:=tiOf_some hT
 unfold partD at hv
 cases ha:T.agg with
 |true=>
  rw[ha] at hv
  simp only[cond_true] at hv
  cases hkk:takeN (cs.drop off) T.size with
  |none=>simp[hkk,aggD] at hv
  |some ys=>
   simp only[hkk,aggD,Option.some.injEq] at hv
   subst hv
   obtain⟨l1,l2⟩:=takeN_spec _ _ _ hkk
   have hy: ∀(j:Nat) y,ys[j]? =some y→cs[off+j]? =some y:=fun j y hj=>by
    have:=(l2 j (by rw[←l1];exact(List.getElem?_eq_some_iff.1 hj).1)).1
    rw[hj,List.getElem?_drop] at this
    exact this.symm
   have hfit:T.size=0∨off+T.size≤arr.size:=by
    cases hs:T.size with
    |zero=>exact .inl rfl
    |succ m=>
     right
     rw[hs] at l2
     obtain⟨q,hq⟩:=Option.isSome_iff_exists.1 (l2 m (by omega)).2
     rw[List.getElem?_drop] at hq
     have:=(List.getElem?_eq_some_iff.1 hq).1
     rw[g1]
     omega
   refine⟨.agg (arr.extract off (off+it.size)), ?_, .d _ _ (.agg ys _ ?_ (fun j y hj=>g2 _ y (hy j y hj)) (fun j y u hj hu=> ?_))⟩
   ·simp only[part,Sem.run_bind,run_isAgg h2,Result.andThen_ok,←e2,ha,if_true,run_sizeOf' h1,Sem.run_pure]
   ·rw[Array.size_extract,l1,←e1]
    omega
   ·rw[Array.getElem?_extract] at hu
    split at hu
    ·exact g3 _ y u (hy j y hj) hu
    ·cases hu
 |false=>
  rw[ha] at hv
  simp only[cond_false] at hv
  cases hkk:cs[off]? with
  |none=>simp[hkk,oneD] at hv
  |some y=>
   simp only[hkk,oneD,Option.some.injEq] at hv
   subst hv
   have hj:off<arr.size:=by rw[g1];exact(List.getElem?_eq_some_iff.1 hkk).1
   refine⟨arr[off], ?_, .d _ _ (g3 _ y _ hkk (by simp[hj]))⟩
   simp only[part,Sem.run_bind,run_isAgg h2,Result.andThen_ok,←e2,ha,Bool.false_eq_true,if_false]
   rw[Array.getElem?_eq_getElem hj]
   simp
theorem field_run {t:TypeId} {f:Nat} {x v:V} {ux:Value} (hx:VR w Im loc st x ux) (hv:fieldV P x (fieldT P t f)=some v): ∃u,(Instr.field t ux f).run P w= .ok u w∧VR w Im loc st v u:=by
 unfold fieldT at hv
 cases hu:P.underlying t with
 |none=>rw[hu] at hv;cases hv
 |some d=>
  rw[hu] at hv
  unfold fieldT2 at hv
  split at hv
  ·rename_i fs hs
   cases hs
   cases hf:fs[f]? with
   |none=>rw[hf] at hv;cases hv
   |some fd=>
    rw[hf] at hv
    simp only[fieldT1,fieldV] at hv
    unfold fieldP at hv
    split at hv
    ·rename_i T cs hT
     cases hx with
     |d _ _ hd0=>
      cases hd0 with
      |agg _ arr g1 g2 g3=>
       obtain⟨u,h1,h2⟩:=part_run (w:=w) (st:=st) (loc:=loc) hT g1 g2 g3 hv
       exact⟨u,by simp only[Instr.field,Sem.run_bind,run_underlying hu,Result.andThen_ok,hf,asAgg,Sem.run_pure];exact h1,h2⟩
    ·cases hv
  ·cases hv
end
end Go.Ev
set_option autoImplicit false
namespace Go.Ev
section
variable {P:Program} {w:World} {Im:Nat→Nat→Prop} {loc:Nat→Loc} {h:Map Obj}
def Done (P:Program) (w:World) (Im:Nat→Nat→Prop) (loc:Nat→Loc) (h:Map Obj) (r:Result Next) (v:V) (h':Map Obj):Prop:=
 ∃u w' Im' loc',(r= .ok (.value u) w'∨(r= .ok .skip w'∧u=Go.undef))∧Step w Im loc h w' Im' loc' h'∧VR w' Im' loc' (stm h') v u
theorem Done.of_ran {s:Sem Value} {r:Result Next} {v:V} {h':Map Obj} (hr:Ran P w Im loc h (s.run P w) v h') (he:r=(s.run P w).andThen fun v w'=> .ok (.value v) w'):Done P w Im loc h r v h':=by
 obtain⟨u,w',Im',loc',e,st,hv⟩:=hr
 exact⟨u,w',Im',loc', .inl (by rw[he,e];rfl),st,hv⟩
theorem Done.still {s:Sem Value} {r:Result Next} {v:V} (hM:Mem w Im loc h) (hr: ∃u,s.run P w= .ok u w∧VR w Im loc (stm h) v u) (he:r=(s.run P w).andThen fun v w'=> .ok (.value v) w'):Done P w Im loc h r v h:=
 .of_ran (Ran.still hM hr) he
theorem made_nil {d:Nat} {h2:Map Obj} (hm:made d 0 (some (setAll h [])) []=some h2):h=h2:=by simpa[made,setAll] using hm
theorem capT_run {h:Map Obj} {c:Ctx} {x v:V} {ux:Value} {ts:List TypeId} {ty:TypeId} (hx:VR w Im loc (stm h) x ux) (hv:capT c x ts=some v):
 ∃u,(Builtin.cap_ ts.toArray ty #[ux]).run c.P w= .ok u w∧VR w Im loc (stm h) v u:=by
 cases ts with
 |nil=>cases hv
 |cons t ts=>
  simp only[capT] at hv
  generalize hk:kindOf (tiOf c.P t)=k at hv
  unfold capV at hv
  split at hv
  ·obtain⟨d,hd,hd'⟩:=kind_und hk (by simp)
   rw[kindD_slice hd'] at hd
   cases hx
   simp only[Option.some.injEq] at hv
   subst hv
   exact⟨_,by simp[Builtin.cap_,run_underlying hd,goInt], .d _ _ (.int _ _)⟩
  ·cases hv
theorem lenT_run (hM:Mem w Im loc h) {hs:Map Obj} (hsub: ∀r o,getM hs r=some o→getM h r=some o) {c:Ctx} {x v:V} {ux:Value} {ts:List TypeId} {ty:TypeId} (hx:VR w Im loc (stm h) x ux) (hv:lenT c hs x ts=some v):
 ∃u,(Builtin.len_ ts.toArray ty #[ux]).run c.P w= .ok u w∧VR w Im loc (stm h) v u:=by
 cases ts with
 |nil=>cases hv
 |cons t ts=>
  simp only[lenT] at hv
  generalize hk:kindOf (tiOf c.P t)=k at hv
  cases hl:isLen k x with
  |false=>simp[hl] at hv
  |true=>
   simp only[hl,cond_true] at hv
   unfold isLen at hl
   split at hl
   ·obtain⟨d,hd,hd'⟩:=kind_und hk (by simp)
    rw[kindD_slice hd'] at hd
    obtain⟨a,cc,rfl,_⟩:=hx.list_inv
    simp only[lenH,lenE,Option.some.injEq] at hv
    subst hv
    exact⟨_,by simp[Builtin.len_,run_underlying hd,goInt], .d _ _ (.int _ _)⟩
   ·rename_i r s off n
    obtain⟨d,hd,hd'⟩:=kind_und hk (by simp)
    rw[kindD_slice hd'] at hd
    simp only[lenH] at hv
    cases hr:getM hs r with
    |none=>simp[hr,lenRow,lenE] at hv
    |some ob=>
     cases ob with
     |cells=>simp[hr,lenRow,lenE] at hv
     |row sz xs s' fz chg=>
      simp only[hr,lenRow] at hv
      split at hv
      ·rename_i es
       subst es
       simp only[lenE,Option.some.injEq] at hv
       subst hv
       have hg:=hsub _ _ hr
       cases hx with
       |row _ _ _ _ _ h0 hl hh=>
        obtain⟨cur,nn,q1,q2,q3⟩:=hh
        simp only[stm,hg,rowN,Option.some.injEq,Prod.mk.injEq] at q1
        obtain⟨a,cap,sz2,own,ad,r1,rfl,r3,r4,r5⟩:=q3 q1.1
        exact⟨_,by simp[Builtin.len_,run_underlying hd,goInt], .d _ _ (.int _ _)⟩
      ·simp[lenE] at hv
   ·obtain⟨d,hd,hd'⟩:=kind_und hk (by simp)
    rw[kindD_slice hd'] at hd
    cases hx
    simp only[lenH,lenE,Option.some.injEq] at hv
    subst hv
    exact⟨_,by simp[Builtin.len_,run_underlying hd,goInt], .d _ _ (.int _ _)⟩
   ·obtain⟨d,hd,hd'⟩:=kind_und hk (by simp)
    rw[kindD_str hd'] at hd
    obtain⟨b,rfl,rfl⟩:=hx.str_inv
    simp only[lenH,lenE,Option.some.injEq] at hv
    subst hv
    exact⟨.int .i64 b.size,by simp[Builtin.len_,run_underlying hd,goInt], .d _ _ (.int _ _)⟩
   ·cases hl
theorem max_run {a b v:V} {ua ub:Value} (ha:VR w Im loc (stm h) a ua) (hb:VR w Im loc (stm h) b ub) (hv:maxV a b=some v): ∃u,(Builtin.max2 ua ub).run P w= .ok u w∧VR w Im loc (stm h) v u:=by
 unfold maxV at hv
 split at hv
 ·obtain rfl:=ha.int_inv
  obtain rfl:=hb.int_inv
  obtain rfl:=Option.some.inj hv
  rename_i k x _ y
  refine⟨.int k (max x y), ?_, .d _ _ (.int _ _)⟩
  simp only[Builtin.max2,Sem.run_pure]
  congr 2
  split<;>omega
 ·cases hv
theorem min_run {a b v:V} {ua ub:Value} (ha:VR w Im loc (stm h) a ua) (hb:VR w Im loc (stm h) b ub) (hv:minV a b=some v): ∃u,(Builtin.min2 ua ub).run P w= .ok u w∧VR w Im loc (stm h) v u:=by
 unfold minV at hv
 split at hv
 ·obtain rfl:=ha.int_inv
  obtain rfl:=hb.int_inv
  obtain rfl:=Option.some.inj hv
  rename_i k x _ y
  refine⟨.int k (min x y), ?_, .d _ _ (.int _ _)⟩
  simp only[Builtin.min2,Sem.run_pure]
  congr 2
  split<;>omega
 ·cases hv
theorem fold_run {f:V→V→Option V} {g:Value→Value→Sem Value} (hf: ∀{a b v:V} {ua ub:Value},VR w Im loc (stm h) a ua→VR w Im loc (stm h) b ub→f a b=some v→∃u,(g ua ub).run P w= .ok u w∧VR w Im loc (stm h) v u):
 ∀(vs:List V) (us:List Value) (a v:V) (ua:Value),VR w Im loc (stm h) a ua→VRs w Im loc (stm h) vs us→foldV f (some a) vs=some v→∃u,(us.foldlM g ua).run P w= .ok u w∧VR w Im loc (stm h) v u
 |[],us,a,v,ua,ha,hv,he=>by
  obtain rfl:us=[]:=List.eq_nil_of_length_eq_zero (by simpa using hv.1)
  obtain rfl:a=v:=by simpa[foldV] using he
  exact⟨ua,by simp,ha⟩
 |b::vs,us,a,v,ua,ha,hv,he=>by
  obtain⟨hl,hp⟩:=hv
  cases us with
  |nil=>simp at hl
  |cons ub us=>
   simp only[foldV] at he
   cases hab:f a b with
   |none=>
    rw[hab] at he
    cases vs<;>simp[foldV] at he
   |some c=>
    rw[hab] at he
    obtain⟨uc,r1,r2⟩:=hf ha (hp 0 b ub rfl rfl) hab
    obtain⟨u,r3,r4⟩:=fold_run hf vs us c v uc r2 ⟨by simpa using hl,fun j v' u' x y=>hp (j+1) v' u' x y⟩ he
    exact⟨u,by simp[List.foldlM_cons,r1,r3],r4⟩
end
end Go.Ev
set_option autoImplicit false
namespace Go.Ev
section
variable {w:World} {Im:Nat→Nat→Prop} {loc:Nat→Loc}
theorem appZ_some {d:Nat} {t:Option TI} {x y:V} {o:Option Nat} {r:Eff} (h:appZ d t x y o=some r):x= .nilsl∧∃k n sz,y= .d (.int k n)∧o=some sz∧appZ1 d n sz (zeroL t)=some r:=by
 unfold appZ at h
 split at h
 ·exact⟨rfl,_,_,_,rfl,rfl,h⟩
 ·cases h
theorem app_done {c:Ctx} {s:St} (hM:Mem w Im loc s.heap) {hs:Map Obj} (hsub: ∀r o,getM hs r=some o→getM s.heap r=some o) {d:Nat} {ts:List TypeId} {ty:TypeId} {x y v:V} {ux uy:Value} {ch:Map Obj} {news:List Obj} {h2:Map Obj}
 (hx:VR w Im loc (stm s.heap) x ux) (hy:VR w Im loc (stm s.heap) y uy) (hv:appT c d hs x y ts=some (v,ch,news)) (hm:made d 0 (some (setAll s.heap ch)) news=some h2):
 Ran c.P w Im loc s.heap ((Builtin.append_ ts.toArray ty #[ux,uy]).run c.P w) v h2:=by
 match ts,hv with
 |[t,u],hv=>
  simp only[appT] at hv
  cases hsr:isSrc (kindOf (tiOf c.P u)) with
  |false=>
   simp only[hsr,cond_false] at hv
   cases hik:isIntK (kindOf (tiOf c.P u)) with
   |false=>simp[hik] at hv
   |true=>
    simp only[hik,cond_true] at hv
    obtain⟨j,hu⟩: ∃j,c.P.underlying u=some (.int j):=by
     unfold isIntK at hik
     split at hik
     ·rename_i j hj
      obtain⟨dd,h1,h2⟩:=kind_und hj (by simp)
      rw[kindD_int h2] at h1
      exact⟨j,h1⟩
     ·cases hik
    obtain⟨rfl,k0,n0,sz,rfl,hsz,hv⟩:=appZ_some hv
    obtain⟨e,i,z,g1,hi,hz,e1,e2,e3,e4,e5b⟩:=esize_some hsz
    have ht:=elemT_some g1
    obtain rfl:=hy.int_inv
    have hxx:ux= .slice none 0 0:=by cases hx;rfl
    subst hxx
    unfold appZ1 at hv
    split at hv
    ·rename_i k1 z1 hl1
     split at hv
     ·rename_i hroom
      obtain⟨n,rfl⟩: ∃n:Nat,n0=n:=⟨n0.toNat,by omega⟩
      simp only[Int.toNat_natCast,Option.some.injEq,Prod.mk.injEq] at hv
      obtain⟨rfl,rfl,rfl⟩:=hv
      obtain⟨m1,rfl,m3⟩:=made_one hm
      have hnr:n≤1099511627776:=by omega
      have hb:n*i.bytes≤140737488355328:=by
       calc n*i.bytes≤1099511627776*128:=Nat.mul_le_mul hnr e5b
        _≤140737488355328:=by decide
      have hzv:z.cells.toList.map ofValue=[.d (.int k1 z1)]:=by
       have hk2:kindOf (tiOf c.P t)= .slice e:=by
        unfold elemT at g1
        split at g1
        ·rename_i e' he';cases g1;exact he'
        ·cases g1
       rw[hk2] at hl1
       simp only[elemK] at hl1
       cases hT:tiOf c.P e with
       |none=>rw[hT] at hl1;simp[zeroL] at hl1
       |some T=>
        obtain⟨i',de,z',hi',hde,hz',q1,q2,q3,q4,q5,q6,q7⟩:=tiOf_some hT
        rw[hT] at hl1
        simp only[zeroL] at hl1
        rw[hi] at hi';cases hi'
        rw[hz] at hz';cases hz'
        rw[←q4];exact hl1
      obtain⟨v',w',loc',r1,r2,r3⟩:=app_zero (ty:=ty) (j':=k0) hM (kk:=key d 0) m1 m3 ht hu hi hz e1 e2 e4 e3 hzv hnr hb
      exact⟨v',w',Im,loc',r1,r2,r3⟩
     ·cases hv
    ·cases hv
  |true=>
   simp only[hsr,cond_true] at hv
   obtain⟨du,hu,hdu⟩:=isSrc_spec hsr
   cases hsz:esize c.P (elemT (kindOf (tiOf c.P t))) with
   |none=>simp[hsz,app1] at hv
   |some sz=>
    obtain⟨e,i,z,g1,hi,hz,e1,e2,e3,e4,e5b⟩:=esize_some hsz
    have ht:=elemT_some g1
    cases hso:srcOf hs y with
    |none=>simp[hsz,hso,app1] at hv
    |some ys=>
     simp only[hsz,hso,app1] at hv
     cases hsa:sizedAll sz ys with
     |false=>simp[hsa] at hv
     |true=>
      simp only[hsa,cond_true] at hv
      have hS:=sizedAll_spec hsa
      obtain⟨us,hc,hf⟩:=srcOf_spec (P:=c.P) hM hsub hy hso hS
      have hb: ∀n,n≤1099511627776→n*i.bytes≤140737488355328:=by
       intro n hn
       calc n*i.bytes≤1099511627776*128:=Nat.mul_le_mul hn e5b
        _≤140737488355328:=by decide
      cases x with
      |nilsl=>
       simp only[appV] at hv
       split at hv
       ·rename_i hroom
        simp only[Option.some.injEq,Prod.mk.injEq] at hv
        obtain⟨rfl,rfl,rfl⟩:=hv
        obtain⟨m1,rfl,m3⟩:=made_one hm
        cases hx
        obtain⟨v',w',loc',r1,r2,r3⟩:=app_new (ty:=ty) hM (k:=key d 0) m1 m3 ht hu hdu hi hz e1 e2 e4 e3 hS hc hf hroom (hb _ hroom)
        exact⟨v',w',Im,loc',r1,r2,r3⟩
       ·cases hv
      |row r st off len=>
       simp only[appV] at hv
       cases hr:getM hs r with
       |none=>simp[hr,appRow] at hv
       |some ob=>
        cases ob with
        |cells=>simp[hr,appRow] at hv
        |row sz' xs s' fz chg=>
         simp only[hr,appRow] at hv
         split at hv
         ·rename_i es
          subst es
          cases hc1:(sz'==sz||sz'==0&&lenIs xs 0) with
          |false=>simp[hc1] at hv
          |true=>
           simp only[hc1,cond_true] at hv
           split at hv
           ·rename_i hroom
            cases hc2:(!fz||decide (xs.length≤off+len)) with
            |false=>simp[hc2] at hv
            |true=>
             simp only[hc2,cond_true,Option.some.injEq,Prod.mk.injEq] at hv
             obtain⟨rfl,rfl,rfl⟩:=hv
             have hh2:h2=setM s.heap r (.row sz (subL xs off len++ys) (st+1) fz true):=by
              simp only[setAll,made,Option.some.injEq] at hm
              exact hm.symm
             subst hh2
             have hg:=hsub _ _ hr
             have hszz:sz'=sz∨(sz'=0∧xs=[]):=by
              simp only[Bool.or_eq_true,Bool.and_eq_true,beq_iff_eq] at hc1
              exact hc1.imp id fun q=>⟨q.1,List.eq_nil_of_length_eq_zero ((lenIs_iff _ _).1 q.2)⟩
             have hfz:fz=false∨xs.length≤off+len:=by
              cases fz with
              |false=>exact .inl rfl
              |true=>exact .inr (by simpa using hc2)
             obtain⟨v',w',loc',r1,r2,r3⟩:=app_row (ty:=ty) hM hg hx hszz hfz ht hu hdu hi hz e1 e2 e4 e3 hS hc hf hroom (hb _ hroom)
             exact⟨v',w',Im,loc',r1,r2,r3⟩
           ·cases hv
         ·cases hv
      |_=>simp[appV] at hv
 |[],hv=>cases hv
 |[_],hv=>cases hv
 |_::_::_::_,hv=>cases hv
theorem slice_done {c:Ctx} {s:St} {a:Act} (hM:Mem w Im loc s.heap) (hT:Tm w Im loc (stm s.heap) s.tmps a.tmps) (hG:GlobOk c.glob w Im) {hs:Map Obj} (hsub: ∀r o,getM hs r=some o→getM s.heap r=some o) {d:Nat} {t:TypeId} {x:Operand} {lo hi mx:Option Operand} {v:V} {ch:Map Obj} {news:List Obj} {h2:Map Obj}
 (hv:slT d hs (kindOf (tiOf c.P t)) (esize c.P (elemT (kindOf (tiOf c.P t)))) lo hi mx (evs c s (opnds (.slice t x lo hi mx)))=some (v,ch,news)) (hm:made d 0 (some (setAll s.heap ch)) news=some h2):
 Ran c.P w Im loc s.heap ((Instr.sliceAt t (a.eval x) (lo.map a.eval) (hi.map a.eval) (mx.map a.eval)).run c.P w) v h2:=by
 simp only[slT] at hv
 cases hc:isCut (kindOf (tiOf c.P t)) (esize c.P (elemT (kindOf (tiOf c.P t)))) with
 |false=>simp[hc] at hv
 |true=>
  simp only[hc,cond_true] at hv
  have E: ∀y,VR w Im loc (stm s.heap) (ev c s y) (a.eval y):=fun y=>ev_VR hT hG y
  have I: ∀y n,lo0 (ev c s y)=some n→∃k,a.eval y= .int k n:=fun y n hy=>by
   have h1:=E y
   revert hy h1
   generalize ev c s y=z
   intro hy h1
   unfold lo0 at hy
   split at hy
   ·obtain rfl:=Option.some.inj hy
    exact⟨_,h1.int_inv⟩
   ·cases hy
  have go: ∀(full:Bool) (l r:Option Int) (lo' hi' mx':Option Value),cut1 d hs (ev c s x) full (esize c.P (elemT (kindOf (tiOf c.P t)))) l r (lenV (ev c s x))=some (v,ch,news)→
   (∀n,l=some n→optV lo' n 0)→(∀n,r=some n→optV hi' n ((lenV (ev c s x)).getD 0:Nat))→((full=false∧mx'=none)∨(full=true∧∀n,r=some n→∃k k',hi'=some (.int k n)∧mx'=some (.int k' n)))→
   Ran c.P w Im loc s.heap ((Instr.sliceAt t (a.eval x) lo' hi' mx').run c.P w) v h2:=by
   intro full l r lo' hi' mx' hcut hl hr hmx
   cases l with
   |none=>simp[cut1] at hcut
   |some l=>
    cases r with
    |none=>simp[cut1] at hcut
    |some r=>exact cut_ran hM hsub hc (E x) hcut (hl l rfl) (hr r rfl) (hmx.imp id fun q=>⟨q.1,q.2 r rfl⟩) hm
  have lenO: ∀n,hiOf (ev c s x) none=some n→optV none n ((lenV (ev c s x)).getD 0:Nat):=fun n hn=>by
   simp only[hiOf] at hn
   cases hq:lenV (ev c s x) with
   |none=>simp[hq] at hn
   |some m=>
    simp only[hq,Option.some.injEq] at hn
    left
    exact⟨rfl,by simp[hn]⟩
  cases lo<;>cases hi<;>cases mx<;>simp only[opnds,Option.toList,List.nil_append,List.cons_append,evs,sl3,sliceV,reduceCtorEq] at hv
  ·exact go _ _ _ none none none hv (fun n e=>by simp only[loOf,Option.some.injEq] at e;exact .inl ⟨rfl,e.symm⟩) lenO (.inl ⟨rfl,rfl⟩)
  ·rename_i hi
   exact go _ _ _ none (some (a.eval hi)) none hv (fun n e=>by simp only[loOf,Option.some.injEq] at e;exact .inl ⟨rfl,e.symm⟩) (fun n e=>by obtain⟨k,hk⟩:=I hi n e;exact .inr ⟨k,by rw[hk]⟩) (.inl ⟨rfl,rfl⟩)
  ·rename_i hi mx
   cases hsv:sameV (ev c s hi) (ev c s mx) with
   |false=>simp[hsv] at hv
   |true=>
    simp only[hsv,cond_true] at hv
    have hsame: ∀n,lo0 (ev c s hi)=some n→∃k k',a.eval hi= .int k n∧a.eval mx= .int k' n:=fun n hn=>by
     obtain⟨k,hk⟩:=I hi n hn
     have hmx:lo0 (ev c s mx)=some n:=by
      revert hsv hn
      generalize ev c s hi=p
      generalize ev c s mx=q
      intro hsv hn
      unfold sameV at hsv
      split at hsv
      ·simp only[lo0,Option.some.injEq] at hn ⊢
       rw[←hn]
       exact(of_decide_eq_true hsv).symm
      ·cases hsv
     obtain⟨k',hk'⟩:=I mx n hmx
     exact⟨k,k',hk,hk'⟩
    exact go _ _ _ none (some (a.eval hi)) (some (a.eval mx)) hv (fun n e=>by simp only[loOf,Option.some.injEq] at e;exact .inl ⟨rfl,e.symm⟩) (fun n e=>by obtain⟨k,hk⟩:=I hi n e;exact .inr ⟨k,by rw[hk]⟩)
     (.inr ⟨rfl,fun n e=>by obtain⟨k,k',h1,h2⟩:=hsame n e;exact⟨k,k',by rw[h1],by rw[h2]⟩⟩)
  ·rename_i lo
   exact go _ _ _ (some (a.eval lo)) none none hv (fun n e=>by obtain⟨k,hk⟩:=I lo n e;exact .inr ⟨k,by rw[hk]⟩) lenO (.inl ⟨rfl,rfl⟩)
  ·rename_i lo hi
   exact go _ _ _ (some (a.eval lo)) (some (a.eval hi)) none hv (fun n e=>by obtain⟨k,hk⟩:=I lo n e;exact .inr ⟨k,by rw[hk]⟩) (fun n e=>by obtain⟨k,hk⟩:=I hi n e;exact .inr ⟨k,by rw[hk]⟩) (.inl ⟨rfl,rfl⟩)
  ·rename_i lo hi mx
   cases hsv:sameV (ev c s hi) (ev c s mx) with
   |false=>simp[hsv] at hv
   |true=>
    simp only[hsv,cond_true] at hv
    have hsame: ∀n,lo0 (ev c s hi)=some n→∃k k',a.eval hi= .int k n∧a.eval mx= .int k' n:=fun n hn=>by
     obtain⟨k,hk⟩:=I hi n hn
     have hmx:lo0 (ev c s mx)=some n:=by
      revert hsv hn
      generalize ev c s hi=p
      generalize ev c s mx=q
      intro hsv hn
      unfold sameV at hsv
      split at hsv
      ·simp only[lo0,Option.some.injEq] at hn ⊢
       rw[←hn]
       exact(of_decide_eq_true hsv).symm
      ·cases hsv
     obtain⟨k',hk'⟩:=I mx n hmx
     exact⟨k,k',hk,hk'⟩
    exact go _ _ _ (some (a.eval lo)) (some (a.eval hi)) (some (a.eval mx)) hv (fun n e=>by obtain⟨k,hk⟩:=I lo n e;exact .inr ⟨k,by rw[hk]⟩) (fun n e=>by obtain⟨k,hk⟩:=I hi n e;exact .inr ⟨k,by rw[hk]⟩)
     (.inr ⟨rfl,fun n e=>by obtain⟨k,k',h1,h2⟩:=hsame n e;exact⟨k,k',by rw[h1],by rw[h2]⟩⟩)
end
end Go.Ev
set_option autoImplicit false
namespace Go.Ev
section
variable {P:Program} {w:World} {Im:Nat→Nat→Prop} {loc:Nat→Loc} {h:Map Obj} {st:Nat→Option (Nat×Nat)}
theorem intsD_spec {w:World} {Im:Nat→Nat→Prop}: ∀{us:List Value} {ds:List D},us.all isOne=true→intsD (us.map ofValue)=some ds→ds.length=us.length∧∀(j:Nat) y u,ds[j]? =some y→us[j]? =some u→flatD y∧one u∧DR w Im y u
 |[],ds,_,h=>by cases h;exact⟨rfl,fun j y u hy=>by simp at hy⟩
 |u::us,ds,h1,h=>by
  simp only[List.all_cons,Bool.and_eq_true] at h1
  simp only[List.map_cons,intsD] at h
  cases hd:intsD (us.map ofValue) with
  |none=>rw[hd] at h;cases hq:ofValue u<;>simp[intsD1] at h
  |some es=>
   rw[hd] at h
   obtain⟨e1,e2⟩:=intsD_spec h1.2 hd
   unfold intsD1 at h
   split at h
   ·rename_i k n es' hv he
    cases he
    cases h
    obtain rfl:u= .int k n:=by
     unfold ofValue at hv
     split at hv<;>first|(cases hv;rfl)|cases hv
    refine⟨by simp[e1],fun j y v hy hu=> ?_⟩
    cases j with
    |zero=>cases hy;cases hu;exact⟨trivial,trivial, .int _ _⟩
    |succ j=>exact e2 j y v (by simpa using hy) (by simpa using hu)
   ·cases h
theorem zeros_CR {z:Array Value} {ds:List D} {w:World} {Im:Nat→Nat→Prop} (hl:ds.length=z.size) (h0:0<z.size) (hz: ∀(j:Nat) y u,ds[j]? =some y→z[j]? =some u→flatD y∧one u∧DR w Im y u) (n:Nat):CR w Im (flatC (List.replicate n (.agg ds))) (Builtin.zeroCells z n).toList:=by
 have hS:Sized z.size (List.replicate n (D.agg ds)):=by
  intro i y hy
  rw[List.getElem?_replicate] at hy
  split at hy
  ·obtain rfl:=Option.some.inj hy;exact hl
  ·cases hy
 refine⟨by rw[flatC_length hS];simp[size_zeroCells],fun q y u hy hu=> ?_⟩
 obtain⟨i,x,j,h1,h2,h3⟩:=flatC_inv hS q y hy
 rw[List.getElem?_replicate] at h1
 split at h1
 ·obtain rfl:=Option.some.inj h1
  have hj:j<z.size:=by rw[←hl];exact(List.getElem?_eq_some_iff.1 h2).1
  have hq:q%z.size=j:=by rw[h3,Nat.add_comm,Nat.add_mul_mod_self_right,Nat.mod_eq_of_lt hj]
  refine hz j y u h2 ?_
  rw[Array.getElem?_toList] at hu
  unfold Builtin.zeroCells at hu
  rw[Array.getElem?_map] at hu
  obtain⟨q',hq',rfl⟩:=Option.map_eq_some_iff.1 hu
  have hqq:q'=q:=by
   rw[Array.getElem?_eq_some_iff] at hq'
   obtain⟨_,e⟩:=hq'
   simpa using e.symm
  subst hqq
  rw[hq,getElem!_pos z j hj]
  simp[hj]
 ·cases h1
set_option maxHeartbeats 1000000 in
theorem clear_ran (hM:Mem w Im loc h) {hs:Map Obj} (hsub: ∀r o,getM hs r=some o→getM h r=some o) {t ty:TypeId} {ts:List TypeId} {s v:V} {us:Value} {ch:Map Obj} {news:List Obj}
 (hvs:VR w Im loc (stm h) s us) (hv:clearV hs s (esize P (elemT (kindOf (tiOf P t)))) (zeroAt P (elemT (kindOf (tiOf P t))))=some (v,ch,news)):
 news=[]∧Ran P w Im loc h ((Builtin.clear_ (t::ts).toArray ty #[us]).run P w) v (setAll h ch):=by
 cases hsz:esize P (elemT (kindOf (tiOf P t))) with
 |none=>rw[hsz] at hv;unfold clearV at hv;split at hv<;>first|cases hv|(rename_i h1 _;cases h1)
 |some sz=>
  obtain⟨e,i,z,g1,hi,hz,e1,e2,e3,e4,e5b⟩:=esize_some hsz
  have ht:=elemT_some g1
  rw[hsz,g1] at hv
  cases hza:zeroAt P (some e) with
  |none=>rw[hza] at hv;unfold clearV at hv;split at hv<;>first|cases hv|(rename_i _ h1;cases h1)
  |some x=>
   rw[hza] at hv
   simp only[zeroAt] at hza
   cases hT:tiOf P e with
   |none=>rw[hT] at hza;cases hza
   |some T=>
    rw[hT] at hza
    obtain⟨i',de,z',hi',hde,hz',t1,t2,t3,t4,t5,t6,t7⟩:=tiOf_some hT
    obtain rfl:=Option.some.inj (hi.symm.trans hi')
    obtain rfl:=Option.some.inj (hz.symm.trans hz')
    simp only[zeroA] at hza
    rw[t4] at hza
    cases hda:intsD (z.cells.toList.map ofValue) with
    |none=>rw[hda] at hza;cases hb:T.agg<;>rw[hb] at hza<;>cases hza
    |some ds=>
     rw[hda] at hza
     obtain⟨dl,dz⟩:=intsD_spec (w:=w) (Im:=Im) t6 hda
     have hx:x= .agg ds:=by
      cases hb:T.agg with
      |false=>rw[hb] at hza;cases hza
      |true=>rw[hb] at hza;cases hza;rfl
     have hzs:ds.length=z.cells.size:=by simpa using dl
     have hz1: ∀(j:Nat) y u,ds[j]? =some y→z.cells[j]? =some u→flatD y∧one u∧DR w Im y u:=fun j y u hy hu=>dz j y u hy (by simpa using hu)
     have hzl:0<z.cells.size:=by rw[t7,e1];omega
     have hxs:(cellsD x).length=sz:=by rw[hx];show ds.length=sz;rw[hzs,t7,e1]
     unfold clearV at hv
     split at hv
     ·rename_i r s' off len sz0 z0 hq1 hq2
      cases hq1
      cases hq2
      cases hr:getM hs r with
      |none=>simp[hr,clearRow] at hv
      |some ob=>
       cases ob with
       |cells=>simp[hr,clearRow] at hv
       |row sz' xs s2 fz chg=>
        simp only[hr,clearRow] at hv
        split at hv
        ·rename_i es
         subst es
         cases fz with
         |true=>simp at hv
         |false=>
          simp only[cond_false] at hv
          by_cases hzz:sz'=sz
          ·subst hzz
           simp only[beq_self_eq_true,cond_true,Option.some.injEq,Prod.mk.injEq] at hv
           obtain⟨rfl,rfl,rfl⟩:=hv
           refine⟨rfl, ?_⟩
           have hg:=hsub _ _ hr
           obtain⟨a0,cap0,szl,own0,ad,r1,rfl,r3,r3',r4⟩:RowAt (loc r) off len xs.length us:=by
            cases hvs with
            |row _ _ _ _ _ h0 hl hh=>
             obtain⟨cur,nn,q1,q2,q3⟩:=hh
             simp only[stm,hg,rowN,Option.some.injEq,Prod.mk.injEq] at q1
             obtain⟨rfl,rfl⟩:=q1
             exact q3 rfl
           obtain⟨w1,a,cap,own,w2,w3,w4,w5,w6,w7⟩:=hM.obj r _ hg
           rw[r1] at w2
           obtain⟨rfl,rfl,rfl,rfl⟩:=Loc.row.inj w2.symm
           by_cases hn:len=0
           ·subst hn
            have hrun:(Builtin.clear_ (t::ts).toArray ty #[.slice ad 0 (cap-off)]).run P w= .ok (.tuple #[]) w:=by
             cases ad<;>simp[Builtin.clear_,run_underlying ht]
            refine⟨_,w,Im,loc,hrun, ?_, .tup _ _ rfl (fun j v u h=>by simp at h)⟩
            have hsame:xs.take off++(List.replicate 0 x++xs.drop (off+0))=xs:=by simp
            simp only[setAll,hsame]
            exact Step.congr (fun k=>(getM_setM_self hg k).symm) (Step.refl hM)
           ·have hown:own=true:=by
             cases own with
             |true=>rfl
             |false=>
              obtain⟨l1,l2,_⟩:=w6 rfl
              rcases l2 with l2|l2
              ·cases l2
              ·exfalso;subst l2;simp at r3;omega
            subst hown
            obtain⟨b,o,arr,ty',f,rfl,q2,q3,q4,q5,q6,q7⟩:=w7 rfl
            obtain⟨b',o',ea,rfl⟩:=r4.resolve_left (by omega)
            obtain⟨rfl,rfl⟩:=Prod.mk.inj (Option.some.inj ea)
            obtain⟨ys,hys⟩: ∃ys,List.replicate len x=ys:=⟨_,rfl⟩
            have hyl:ys.length=len:=by rw[←hys];simp
            have hS:Sized sz' ys:=by
             intro i' y hy
             rw[←hys,List.getElem?_replicate] at hy
             split at hy
             ·obtain rfl:=Option.some.inj hy;exact hxs
             ·cases hy
            have hcT:CR w Im (flatC ys) (Builtin.zeroCells z.cells len).toList:=by
             rw[←hys,hx];exact zeros_CR hzs hzl hz1 len
            obtain⟨uy,huy⟩: ∃uy,(Builtin.zeroCells z.cells len).toList=uy:=⟨_,rfl⟩
            rw[huy] at hcT
            obtain⟨n,hnl⟩: ∃n,n=len:=⟨_,rfl⟩
            rw[hys]
            have hul:uy.length=n*sz':=by rw[hcT.1,flatC_length hS,hyl,hnl]
            have hn2:n≤len:=by omega
            have hfit:o+off*sz'+uy.length≤arr.size:=by
             rw[hul]
             have h1:(off+n)*sz'≤cap*sz':=Nat.mul_le_mul_right _ (by omega)
             rw[Nat.add_mul] at h1
             omega
            have hstore:=run_stores (P:=P) b (o+off*sz') ty' f uy 0 arr w q2 q3 (by simpa using hfit) (fun v hv=>hcT.one hv)
            simp only[Nat.add_zero] at hstore
            have hrun:(Builtin.clear_ (t::ts).toArray ty #[.slice (some ⟨b,o+off*sz',none⟩) len (cap-off)]).run P w= .ok (.tuple #[]) (w.setRow b (putA arr (o+off*sz') uy)):=by
             obtain⟨m,rfl⟩: ∃m,len=m+1:=⟨len-1,by omega⟩
             simp[Builtin.clear_,run_underlying ht,zeroValue,typeInfo,hi,hz,huy,hstore,Result.andThen]
            have hget:=putA_get arr (o+off*sz') uy hfit
            generalize hcs:putA arr (o+off*sz') uy=arr' at hrun hget
            have harr':arr'.size=arr.size:=by rw[←hcs];exact putA_size _ _ _
            have hheap:=setRow_heap w b arr arr' ty' f q2
            have hcell: ∀k q,Im k q→(w.setRow b arr').cell? ⟨k,q,none⟩=w.cell? ⟨k,q,none⟩:=fun k q hi'=>by
             by_cases hk:k=b
             ·subst hk
              rw[cell_heap hheap,cell_heap q2,hget,if_neg]
              rcases q6 q hi' with h1|⟨h1,_⟩
              ·omega
              ·cases h1
             ·exact cell_same_block (setRow_other w b k _ hk)
            obtain⟨uf,huf⟩:=w5 b o rfl
            obtain⟨uo,c1,c2⟩:=rowRd_flat w1 huf
            have hsplit:flatC (xs.take off++(ys++xs.drop (off+n)))=(flatC xs).take (off*sz')++(flatC ys++(flatC xs).drop ((off+n)*sz')):=by
             have ea:flatC (xs.take off)=(flatC xs).take (off*sz'):=by
              have e0:flatC xs=flatC (xs.take off)++flatC (xs.drop off):=by rw[←flatC_append,List.take_append_drop]
              have hl:(flatC (xs.take off)).length=off*sz':=by rw[flatC_length (Sized.take w1 _)];congr 1;simp;omega
              rw[e0,←hl,List.take_left]
             have eb:flatC (xs.drop (off+n))=(flatC xs).drop ((off+n)*sz'):=by
              have e0:flatC xs=flatC (xs.take (off+n))++flatC (xs.drop (off+n)):=by rw[←flatC_append,List.take_append_drop]
              have hl:(flatC (xs.take (off+n))).length=(off+n)*sz':=by rw[flatC_length (Sized.take w1 _)];congr 1;simp;omega
              rw[e0,←hl,List.drop_left]
             rw[flatC_append,flatC_append,ea,eb]
            have hS':Sized sz' (xs.take off++(ys++xs.drop (off+n))):=(Sized.take w1 _).append (hS.append (Sized.drop w1 _))
            have hlen':(xs.take off++(ys++xs.drop (off+n))).length=xs.length:=by simp;omega
            have hCR:CR (w.setRow b arr') Im (flatC (xs.take off++(ys++xs.drop (off+n)))) (uo.take (off*sz')++(uy++uo.drop ((off+n)*sz'))):=by
             rw[hsplit]
             exact((c1.take _).append (hcT.append (c1.drop _))).grow (fun _ _ i=>i) hcell
            have hol:uo.length=xs.length*sz':=c1.1.trans (flatC_length w1)
            have hoff:off*sz'≤xs.length*sz':=Nat.mul_le_mul_right _ (by omega)
            have hAt:At (w.setRow b arr') b o (uo.take (off*sz')++(uy++uo.drop ((off+n)*sz'))):=fun q v hq=>by
             rw[cell_heap hheap,hget,hul]
             have htl:(uo.take (off*sz')).length=off*sz':=by rw[List.length_take];omega
             by_cases h1:q<off*sz'
             ·rw[if_neg (by omega)]
              rw[List.getElem?_append_left (by omega),List.getElem?_take,if_pos h1] at hq
              have:=c2 q v hq
              rw[cell_heap q2] at this
              exact this
             ·rw[List.getElem?_append_right (by omega),htl] at hq
              by_cases h2:q<off*sz'+n*sz'
              ·rw[if_pos (by omega),show o+q-(o+off*sz')=q-off*sz' by omega]
               rw[List.getElem?_append_left (by omega)] at hq
               exact hq
              ·rw[if_neg (by omega)]
               rw[List.getElem?_append_right (by omega),hul,List.getElem?_drop,show(off+n)*sz'+(q-off*sz'-n*sz')=q by rw[Nat.add_mul];omega] at hq
               have:=c2 q v hq
               rw[cell_heap q2] at this
               exact this
            obtain⟨ug,hug⟩:=flat_rowRd hS' hCR hAt
            refine⟨_,_,Im,loc,hrun, ?_, .tup _ _ rfl (fun j v u h=>by simp at h)⟩
            rw[←hnl]
            simp only[setAll]
            refine Step.gen hM rfl rfl rfl (by simp) (fun _ _=>rfl) (fun k hk hnn=>setRow_other w b k _ (fun e=>hnn (by rw[r1,e];rfl))) (fun _ _ i=>i) hcell (fun _ _ i=> .inl i) (fun k q hi'=>by simpa using hM.im k q hi')
             (fun k hk=> .inl hk) (fun _ e=>e) (fun cur n' hl e=>⟨hl,cur,n',by simp only[stm,hg,rowN] at e;simp only[rowN,hlen'];exact e,Nat.le_refl _,fun _=>⟨rfl,Nat.le_refl _⟩⟩)
             (fun _=>⟨_,hg, .inr ⟨rfl,rfl,rfl,by rw[hlen'];exact Nat.le_refl _⟩⟩) ?_
            refine⟨hS',some (b,o),cap,true,r1,by rw[hlen'];exact w3,(fun e=>by cases e),fun b' o' e=> ?_,(fun e=>by cases e),fun _=>⟨b,o,arr',ty',f,rfl,hheap,by rw[harr'];exact q3,fun j u hu=> ?_,by rw[harr'];exact q5,fun q hq=> ?_,q7⟩⟩
            ·obtain⟨rfl,rfl⟩:=Prod.mk.inj (Option.some.inj e)
             exact⟨ug,hug⟩
            ·rw[hget] at hu
             split at hu
             ·exact hcT.one (List.mem_of_getElem? hu)
             ·exact q4 j u hu
            ·rcases q6 q hq with h1|⟨h1,_⟩
             ·exact .inl h1
             ·cases h1
          ·have:(sz'==sz)=false:=by simpa using hzz
           simp[this] at hv
        ·cases hv
     ·cases hv
end
end Go.Ev
set_option autoImplicit false
namespace Go.Ev
section
variable {w:World} {Im:Nat→Nat→Prop} {loc:Nat→Loc}
theorem stV_done {c:Ctx} {s:St} (hM:Mem w Im loc s.heap) {hs:Map Obj} (hsub: ∀r o,getM hs r=some o→getM s.heap r=some o) {t:TypeId} {x y v:V} {ux uy:Value} {ch:Map Obj} {news:List Obj} {d:Nat} {h2:Map Obj}
 (hx:VR w Im loc (stm s.heap) x ux) (hy:VR w Im loc (stm s.heap) y uy) (hv:stV hs y (tiOf c.P t) x=some (v,ch,news)) (hm:made d 0 (some (setAll s.heap ch)) news=some h2):
 v= .undef∧∃w' Im',(Instr.storeAt t ux uy).run c.P w= .ok () w'∧Step w Im loc s.heap w' Im' loc h2:=by
 cases hT:tiOf c.P t with
 |none=>cases x<;>simp[hT,stV] at hv
 |some T=>
  rw[hT] at hv
  cases x with
  |ptr r off=>
   simp only[stV] at hv
   obtain⟨w',o',rfl,rfl,rfl,h1,h3⟩:=stO_ran hM hsub hT hx hy hv
   have:h2=setM s.heap r o':=by simpa[setAll,made,eq_comm] using hm
   exact⟨rfl,w',Im,h1,by rw[this];exact h3⟩
  |eptr r st i j=>
   simp only[stV] at hv
   obtain⟨w',Im',rfl,rfl,h1,h3⟩:=stE_ran hM hsub hT hx hy hv
   have:h2=setAll s.heap ch:=by simpa[made,eq_comm] using hm
   exact⟨rfl,w',Im',h1,by rw[this];exact h3⟩
  |_=>simp[stV] at hv
theorem zip_fst {α β:Type} (ps:List (α×β)) (f:β→Value):(ps.map (fun p=>(p.1,f p.2)))=(ps.map (·.1)).zip (ps.map (fun p=>f p.2)):=by
 induction ps with
 |nil=>rfl
 |cons p ps ih=>simp[ih]
set_option maxHeartbeats 2000000 in
theorem exec_done {c:Ctx} {s:St} {a:Act} {o:Oper} (hM:Mem w Im loc s.heap) (hT:Tm w Im loc (stm s.heap) s.tmps a.tmps) (hG:GlobOk c.glob w Im) {rs:List Nat} {d:Nat} {v:V} {ch:Map Obj} {news:List Obj} {h2:Map Obj}
 (hno: ∀f as ts,o.op≠ .call ⟨.value f,as,ts⟩)
 (hv:opv c d (restrict s.heap rs) o.op (evs c s (opnds o.op))=some (v,ch,news)) (hm:made d 0 (some (setAll s.heap ch)) news=some h2):
 Done c.P w Im loc s.heap ((execOp a.eval o).run c.P w) v h2:=by
 have hsub:=restrict_sub (h:=s.heap) rs
 generalize restrict s.heap rs=hs at hv hsub
 have E: ∀y,VR w Im loc (stm s.heap) (ev c s y) (a.eval y):=fun y=>ev_VR hT hG y
 have still: ∀{sm:Sem Value} {o1:Option V},ret1 o1=some (v,ch,news)→(∀v',o1=some v'→∃u,sm.run c.P w= .ok u w∧VR w Im loc (stm s.heap) v' u)→((execOp a.eval o).run c.P w=(sm.run c.P w).andThen fun v w'=> .ok (.value v) w')→Done c.P w Im loc s.heap ((execOp a.eval o).run c.P w) v h2:=by
  intro sm o1 h1 h3 h4
  obtain⟨rfl,rfl,rfl⟩:=ret1_some h1
  obtain rfl:=made_nil hm
  exact Done.still hM (h3 v rfl) h4
 have isok: ∀{u:Value},VR w Im loc (stm s.heap) v u→ch=[]→news=[]→(execOp a.eval o).run c.P w= .ok (.value u) w→Done c.P w Im loc s.heap ((execOp a.eval o).run c.P w) v h2:=by
  intro u h1 e1 e2 h3
  subst e1 e2
  obtain rfl:=made_nil hm
  exact⟨u,w,Im,loc, .inl h3,Step.refl hM,h1⟩
 cases hop:o.op with
 |move x=>
  simp only[hop,opnds,evs,opv,Option.some.injEq,Prod.mk.injEq] at hv
  obtain⟨rfl,h3,h4⟩:=hv
  exact isok (E x) h3.symm h4.symm (by simp[execOp,hop])
 |assign x=>
  simp only[hop,opnds,evs,opv,Option.some.injEq,Prod.mk.injEq] at hv
  obtain⟨rfl,h3,h4⟩:=hv
  exact isok (E x) h3.symm h4.symm (by simp[execOp,hop])
 |pick x y z=>
  simp only[hop,opnds,evs,opv] at hv
  obtain⟨h1,h3,h4⟩:=ret1_some hv
  have hx:=E x
  revert h1 hx
  generalize hq:ev c s x=q
  intro h1 hx
  unfold pickV at h1
  split at h1
  ·rename_i b
   have hb:=hx.bool_inv
   cases b with
   |true=>
    simp only[cond_true,Option.some.injEq] at h1
    subst h1
    exact isok (E y) h3 h4 (by simp[execOp,hop,hb,asBool])
   |false=>
    simp only[cond_false,Option.some.injEq] at h1
    subst h1
    exact isok (E z) h3 h4 (by simp[execOp,hop,hb,asBool])
  ·cases h1
 |alloc t=>
  simp only[hop,opnds,evs,opv] at hv
  have hch:ch=[]:=by
   cases hT':tiOf c.P t with
   |none=>simp[hT',allocV] at hv
   |some T=>simp only[hT',allocV,Option.some.injEq,Prod.mk.injEq] at hv;exact hv.2.1.symm
  subst hch
  exact Done.of_ran (alloc_ran hM hv (by simpa[turned,setAll] using hm)) (by simp[execOp,hop])
 |box t x=>
  simp only[hop,opnds,evs,opv] at hv
  have hch:ch=[]:=by
   cases hT':tiOf c.P t with
   |none=>simp[hT',boxV] at hv
   |some T=>
    simp only[hT',boxV] at hv
    cases hc:cellsOk T.size (ev c s x) with
    |none=>simp[hc,boxV.boxV1] at hv
    |some cs=>simp only[hc,boxV.boxV1,Option.some.injEq,Prod.mk.injEq] at hv;exact hv.2.1.symm
  subst hch
  exact Done.of_ran (box_ran hM (E x) hv (by simpa[turned,setAll] using hm)) (by simp[execOp,hop])
 |build t ps=>
  simp only[hop,opnds,opv] at hv
  refine still hv (fun v' h1=>build_run (evs_VRs hT hG _) h1 (ps:=ps.map fun(i,x)=>(i,a.eval x)) ?_) (by simp[execOp,hop])
  simp only[Array.toList_map,List.map_map]
  exact zip_fst ps.toList a.eval
 |buildSlice t n ps=>
  simp only[hop,opnds,opv] at hv
  refine Done.of_ran (buildRow_ran hM hsub (evs_VRs hT hG _) hv (ps:=ps.map fun(i,x)=>(i,a.eval x)) ?_ (by simp) hm) (by simp[execOp,hop])
  simp only[Array.toList_map,List.map_map]
  exact zip_fst ps.toList a.eval
 |insert t m k x=>cases hv':evs c s (opnds o.op)<;>simp[hop,opv] at hv
 |load t x=>
  simp only[hop,opnds,evs,opv] at hv
  refine still hv (fun v' h1=> ?_) (sm:=Instr.loadAt t (a.eval x)) (by simp[execOp,hop])
  cases hT':tiOf c.P t with
  |none=>simp[hT',ldV] at h1
  |some T=>
   rw[hT'] at h1
   exact ldV_spec hM hsub hT' (E x) h1
 |store t x y=>
  simp only[hop,opnds,evs,opv] at hv
  obtain⟨rfl,w',Im',h1,h3⟩:=stV_done (c:=c) (d:=d) hM hsub (E x) (E y) hv hm
  exact⟨Go.undef,w',Im',loc, .inr ⟨by simp[execOp,hop,h1],rfl⟩,h3, .undef⟩
 |nilCheck x=>
  simp only[hop,opnds,evs,opv] at hv
  obtain⟨h1,h3,h4⟩:=ret1_some hv
  obtain⟨rfl,h5⟩:=notNil_run (E x) h1
  refine isok (E x) h3 h4 ?_
  rcases h5 with h5|⟨f,p,q,h5⟩
  ·cases hu:a.eval x with
   |pointer ad=>
    rw[hu] at h5
    cases ad with
    |none=>exact h5.elim
    |some ad=>simp[execOp,hop,hu]
   |_=>rw[hu] at h5;exact h5.elim
  ·simp[execOp,hop,h5]
 |binOp op t x y u=>
  simp only[hop,opnds,evs,opv] at hv
  refine still hv (fun v' h1=> ?_) (sm:=do eqGuard op t x y (a.eval x) (a.eval y);binOp op t (a.eval x) (a.eval y)) (by
   simp only[execOp,hop,Sem.run_bind,Sem.run_pure,bind_assoc]
   cases(eqGuard op t x y (a.eval x) (a.eval y)).run c.P w<;>rfl)
  exact binT_run (x:=x) (y:=y) (E x) (E y) h1
 |unOp op t x=>
  simp only[hop,opnds,evs,opv] at hv
  exact still hv (fun v' h1=>unV_run (E x) h1) (by simp[execOp,hop])
 |convert sT t x=>
  simp only[hop,opnds,evs,opv] at hv
  exact still hv (fun v' h1=>conv_run hM hsub (E x) h1) (by simp[execOp,hop])
 |sliceToArrayPointer t x=>simp[hop,opnds,evs,opv] at hv
 |makeInterface t x=>simp[hop,opnds,evs,opv] at hv
 |makeFunc f xs ys=>
  simp only[hop,opnds,opv,Option.some.injEq,Prod.mk.injEq] at hv
  obtain⟨rfl,h3,h4⟩:=hv
  refine isok (u:= .func f (xs.map a.eval) (ys.map a.eval)) ?_ h3.symm h4.symm (by simp[execOp,hop,Instr.makeFunc])
  rw[evs_eq]
  have h1:(List.map (ev c s) (xs.toList++ys.toList)).take xs.size=xs.toList.map (ev c s):=by
   rw[List.map_append,show xs.size=(xs.toList.map (ev c s)).length by simp,List.take_left]
  have h5:(List.map (ev c s) (xs.toList++ys.toList)).drop xs.size=ys.toList.map (ev c s):=by
   rw[List.map_append,show xs.size=(xs.toList.map (ev c s)).length by simp,List.drop_left]
  simp only[splitFn,h1,h5]
  refine .fn f _ _ _ _ (by simp) (by simp) (fun j v u hv hu=> ?_) (fun j v u hv hu=> ?_)
  ·simp only[List.getElem?_map,Array.getElem?_toList,Array.getElem?_map,Option.map_eq_some_iff] at hv hu
   obtain⟨p,hp,rfl⟩:=hv
   obtain⟨q,hq,rfl⟩:=hu
   obtain rfl:=Option.some.inj (hp.symm.trans hq)
   exact E p
  ·simp only[List.getElem?_map,Array.getElem?_toList,Array.getElem?_map,Option.map_eq_some_iff] at hv hu
   obtain⟨p,hp,rfl⟩:=hv
   obtain⟨q,hq,rfl⟩:=hu
   obtain rfl:=Option.some.inj (hp.symm.trans hq)
   exact E p
 |makeMap t r=>cases hv':evs c s (opnds o.op)<;>simp[hop,opv] at hv
 |makeChan t x=>cases hv':evs c s (opnds o.op)<;>simp[hop,opv] at hv
 |makeSlice t x y=>
  simp only[hop,opnds,evs,opv] at hv
  have hk: ∃e,kindOf (tiOf c.P t)= .slice e:=by
   cases hk:kindOf (tiOf c.P t)<;>simp[hk,makeS] at hv
   exact⟨_,rfl⟩
  have hv':makeV d (tiOf c.P (elemK (kindOf (tiOf c.P t)))) (ev c s x) (ev c s y)=some (v,ch,news):=by
   obtain⟨e,hk⟩:=hk
   rw[hk] at hv ⊢
   exact hv
  exact Done.of_ran (make_ran hM (E x) (E y) hk hv' hm) (by simp[execOp,hop])
 |slice t x lo hi mx=>
  simp only[hop,opv] at hv
  exact Done.of_ran (slice_done (c:=c) hM hT hG hsub hv hm) (by simp[execOp,hop])
 |fieldAddr t x f=>
  simp only[hop,opnds,evs,opv] at hv
  exact still hv (fun v' h1=>fieldA_run (E x) h1) (by simp[execOp,hop])
 |field t x f=>
  simp only[hop,opnds,evs,opv] at hv
  exact still hv (fun v' h1=>field_run (E x) h1) (by simp[execOp,hop])
 |indexAddr t x y=>
  simp only[hop,opnds,evs,opv] at hv
  refine still hv (fun v' h1=> ?_) (sm:=Instr.indexAt t (a.eval x) (a.eval y)) (by simp[execOp,hop])
  have hy:=E y
  revert h1 hy
  generalize ev c s y=q
  intro h1 hy
  unfold indexAV at h1
  split at h1
  ·rename_i k n
   rw[hy.int_inv]
   exact indexA_run hM hsub (E x) h1
  ·cases h1
 |index t x y=>
  simp only[hop,opnds,evs,opv] at hv
  exact still hv (fun v' h1=>index_run (E x) (E y) h1) (by simp[execOp,hop])
 |lookup t x y ok=>cases hv':evs c s (opnds o.op)<;>simp[hop,opv] at hv
 |mapUpdate t m k x=>cases hv':evs c s (opnds o.op)<;>simp[hop,opv] at hv
 |mapEntry t m k=>cases hv':evs c s (opnds o.op)<;>simp[hop,opv] at hv
 |entryStore t m k x=>cases hv':evs c s (opnds o.op)<;>simp[hop,opv] at hv
 |range t x=>cases hv':evs c s (opnds o.op)<;>simp[hop,opv] at hv
 |next x b=>cases hv':evs c s (opnds o.op)<;>simp[hop,opv] at hv
 |entry x=>cases hv':evs c s (opnds o.op)<;>simp[hop,opv] at hv
 |typeAssert x t u ok=>cases hv':evs c s (opnds o.op)<;>simp[hop,opv] at hv
 |extract x i=>
  simp only[hop,opnds,evs,opv] at hv
  exact still hv (fun v' h1=>extract_run (E x) h1) (by simp[execOp,hop])
 |call k=>
  obtain⟨ce,as,ts⟩:=k
  cases ce with
  |value f=>exact absurd hop (hno f as ts)
  |invoke r m=>cases hv':evs c s (opnds o.op)<;>simp[hop,opv] at hv
  |builtin b=>
   simp only[hop,opnds,opv] at hv
   have hvs:=evs_VRs hT hG as.toList (c:=c) (s:=s) (a:=a)
   have hre: ∀{r:Result Value} {sm:Sem Value},(∀cs,builtin b ts o.type cs (as.map a.eval)=(do pure (.value (←sm))))→(execOp a.eval o).run c.P w=(sm.run c.P w).andThen fun v w'=> .ok (.value v) w':=by
    intro r sm hb
    simp only[execOp,hop,resolve,Sem.run_bind,Sem.run_pure,Result.andThen_ok,invoke]
    rw[hb]
    simp only[Sem.run_bind,Sem.run_pure]
    try (cases sm.run c.P w<;>rfl)
   have hus:as.toList.map a.eval=(as.map a.eval).toList:=by simp
   rw[evs_eq] at hv hvs
   generalize as.toList.map (ev c s)=vs at hv hvs
   rw[hus] at hvs
   generalize hU:as.map a.eval=us at hvs hre
   have one1: ∀{x:V},vs=[x]→∃u,us= #[u]∧VR w Im loc (stm s.heap) x u:=fun{x} e=>by
    subst e
    obtain⟨hl,hp⟩:=hvs
    have hl':us.size=1:=by simpa using hl
    obtain⟨u,hu⟩: ∃u,us= #[u]:=Array.size_eq_one_iff.1 hl'
    subst hu
    exact⟨u,rfl,hp 0 x u rfl rfl⟩
   have two2: ∀{x y:V},vs=[x,y]→∃u z,us= #[u,z]∧VR w Im loc (stm s.heap) x u∧VR w Im loc (stm s.heap) y z:=fun{x y} e=>by
    subst e
    obtain⟨hl,hp⟩:=hvs
    obtain⟨l⟩:=us
    match l,hl,hp with
    |[u,z],_,hp=>exact⟨u,z,rfl,hp 0 x u rfl rfl,hp 1 y z rfl rfl⟩
   cases b with
   |len=>
    match vs,hv with
    |[x],hv=>
     simp only[builtinV] at hv
     obtain⟨u,rfl,hu⟩:=one1 rfl
     exact still hv (fun v' h1=>lenT_run (ty:=o.type) hM hsub hu h1) (hre (r:= .ok Go.undef w) (by simp[builtin]))
    |[],hv=>simp[builtinV] at hv
    |_::_::_,hv=>simp[builtinV] at hv
   |cap=>
    match vs,hv with
    |[x],hv=>
     simp only[builtinV] at hv
     obtain⟨u,rfl,hu⟩:=one1 rfl
     exact still hv (fun v' h1=>capT_run (ty:=o.type) hu h1) (hre (r:= .ok Go.undef w) (by simp[builtin]))
    |[],hv=>simp[builtinV] at hv
    |_::_::_,hv=>simp[builtinV] at hv
   |append=>
    match vs,hv with
    |[x,y],hv=>
     simp only[builtinV] at hv
     obtain⟨u,z,rfl,hu,hz⟩:=two2 rfl
     have hr:=app_done (ty:=o.type) hM hsub hu hz hv hm
     exact Done.of_ran (s:=Builtin.append_ ts o.type #[u,z]) (by simpa using hr) (hre (r:= .ok Go.undef w) (by simp[builtin]))
    |[],hv=>simp[builtinV] at hv
    |[_],hv=>simp[builtinV] at hv
    |_::_::_::_,hv=>simp[builtinV] at hv
   |copy=>
    match vs,hv with
    |[x,y],hv=>
     simp only[builtinV] at hv
     obtain⟨u,z,rfl,hu,hz⟩:=two2 rfl
     cases hts:ts.toList with
     |nil=>simp[hts,copyT] at hv
     |cons t0 tr=>
      simp only[hts,copyT] at hv
      obtain⟨rfl,hr⟩:=copy_ran (ty:=o.type) (ts:=tr) hM hsub hu hz hv
      have:h2=setAll s.heap ch:=by simpa[made,eq_comm] using hm
      subst this
      have e:(t0::tr).toArray=ts:=by rw[←hts]
      rw[e] at hr
      exact Done.of_ran (s:=Builtin.copy_ ts o.type #[u,z]) hr (hre (r:= .ok Go.undef w) (by simp[builtin]))
    |[],hv=>simp[builtinV] at hv
    |[_],hv=>simp[builtinV] at hv
    |_::_::_::_,hv=>simp[builtinV] at hv
   |clear=>
    match vs,hv with
    |[x],hv=>
     simp only[builtinV] at hv
     obtain⟨u,rfl,hu⟩:=one1 rfl
     cases hts:ts.toList with
     |nil=>simp[hts,clearT] at hv
     |cons t0 tr=>
      simp only[hts,clearT] at hv
      obtain⟨rfl,hr⟩:=clear_ran (ty:=o.type) (ts:=tr) hM hsub hu hv
      have:h2=setAll s.heap ch:=by simpa[made,eq_comm] using hm
      subst this
      have e:(t0::tr).toArray=ts:=by rw[←hts]
      rw[e] at hr
      exact Done.of_ran (s:=Builtin.clear_ ts o.type #[u]) hr (hre (r:= .ok Go.undef w) (by simp[builtin]))
    |[],hv=>simp[builtinV] at hv
    |_::_::_,hv=>simp[builtinV] at hv
   |max=>
    match vs,hv with
    |x::xs,hv=>
     simp only[builtinV] at hv
     obtain⟨hl,hp⟩:=hvs
     obtain⟨l⟩:=us
     cases l with
     |nil=>simp at hl
     |cons u l=>
      exact still hv (fun v' h1=>fold_run (g:=Builtin.max2) max_run xs l x v' u (hp 0 x u rfl rfl) ⟨by simpa using hl,fun j v' u' p q=>hp (j+1) v' u' p q⟩ h1) (hre (r:= .ok Go.undef w) (by simp[builtin,Builtin.max_]))
    |[],hv=>simp[builtinV] at hv
   |min=>
    match vs,hv with
    |x::xs,hv=>
     simp only[builtinV] at hv
     obtain⟨hl,hp⟩:=hvs
     obtain⟨l⟩:=us
     cases l with
     |nil=>simp at hl
     |cons u l=>
      exact still hv (fun v' h1=>fold_run (g:=Builtin.min2) min_run xs l x v' u (hp 0 x u rfl rfl) ⟨by simpa using hl,fun j v' u' p q=>hp (j+1) v' u' p q⟩ h1) (hre (r:= .ok Go.undef w) (by simp[builtin,Builtin.min_]))
    |[],hv=>simp[builtinV] at hv
   |_=>cases vs<;>simp[builtinV] at hv
 |go k=>simp[hop,opnds,opv] at hv
 |defer k=>simp[hop,opnds,opv] at hv
 |panic x=>simp[hop,opnds,evs,opv] at hv
 |send x y=>simp[hop,opnds,evs,opv] at hv
 |recv t x b=>simp[hop,opnds,evs,opv] at hv
 |select cs b=>simp[hop,opnds,evs,opv] at hv
 |ready g=>simp[hop,opnds,evs,opv] at hv
 |waits g=>simp[hop,opnds,evs,opv] at hv
end
end Go.Ev
set_option autoImplicit false
namespace Go.Ev
section
variable {w:World} {Im:Nat→Nat→Prop}
def Ren (fr:Nat→Option Nat) (fs:Nat→Nat→Option Nat) (loc:Nat→Loc) (st:Nat→Option (Nat×Nat)) (loc':Nat→Loc) (st':Nat→Option (Nat×Nat)):Prop:=
 ∀r r',fr r=some r'→loc r≠ .none→loc' r'=loc r∧∀s s' cur n,fs r s=some s'→st r=some (cur,n)→s≤cur→
  ∃cur' n',st' r'=some (cur',n')∧s'≤cur'∧(s'=cur'→s=cur∧n≤n')
theorem renL_length (fr:Nat→Option Nat) (fs:Nat→Nat→Option Nat): ∀vs:List V,(renL fr fs vs).length=vs.length
 |[]=>rfl
 |v::vs=>by simp[renL,renL_length fr fs vs]
theorem renL_map (fr:Nat→Option Nat) (fs:Nat→Nat→Option Nat): ∀vs:List V,renL fr fs vs=vs.map (renV fr fs)
 |[]=>rfl
 |v::vs=>by simp[renL,renL_map fr fs vs]
theorem renL_get {fr:Nat→Option Nat} {fs:Nat→Nat→Option Nat} {vs:List V} {j:Nat} {v:V} (h:(renL fr fs vs)[j]? =some v): ∃x,vs[j]? =some x∧v=renV fr fs x:=by
 rw[renL_map,List.getElem?_map,Option.map_eq_some_iff] at h
 obtain⟨x,h1,h2⟩:=h
 exact⟨x,h1,h2.symm⟩
theorem VR.ren {fr:Nat→Option Nat} {fs:Nat→Nat→Option Nat} {loc loc':Nat→Loc} {st st':Nat→Option (Nat×Nat)} (g:Ren fr fs loc st loc' st') {v:V} {u:Value} (h:VR w Im loc st v u):VR w Im loc' st' (renV fr fs v) u:=by
 induction h with
 |d x u h=>exact .d x u h
 |ptr r off b h=>
  simp only[renV]
  cases e:fr r with
  |none=>exact .dead _
  |some r'=>exact .ptr r' off b ((g r r' e (by rw[h];simp)).1.trans h)
 |eptr r s i j u h0 hl h=>
  obtain⟨cur,n,e,le,hr⟩:=h
  simp only[renV]
  cases e1:fr r with
  |none=>exact .dead _
  |some r'=>
   cases e2:fs r s with
   |none=>exact .dead _
   |some s'=>
    obtain⟨g1,g2⟩:=g r r' e1 (by intro q;rw[q] at hl;exact hl)
    obtain⟨c',n',q1,q2,q3⟩:=g2 s s' cur n e2 e le
    refine .eptr r' s' i j u h0 (by rw[g1];exact hl) ⟨c',n',q1,q2,fun es=> ?_⟩
    rw[g1]
    exact hr (q3 es).1
 |row r s o len u h0 hl h=>
  obtain⟨cur,n,e,le,hr⟩:=h
  simp only[renV]
  cases e1:fr r with
  |none=>exact .dead _
  |some r'=>
   cases e2:fs r s with
   |none=>exact .dead _
   |some s'=>
    obtain⟨g1,g2⟩:=g r r' e1 (by intro q;rw[q] at hl;exact hl)
    obtain⟨c',n',q1,q2,q3⟩:=g2 s s' cur n e2 e le
    refine .row r' s' o len u h0 (by rw[g1];exact hl) ⟨c',n',q1,q2,fun es=> ?_⟩
    obtain⟨q4,q5⟩:=q3 es
    obtain⟨a,cap,sz,own,ad,h1,h2,h3,h4,h5⟩:=hr q4
    exact⟨a,cap,sz,own,ad,g1.trans h1,h2,Nat.le_trans h3 q5,h4,h5⟩
 |cp cs j b o u h2 h3=>exact .cp cs j b o u h2 h3
 |agg cs arr h1 h2 h3 ih=>
  refine .agg _ arr (by rw[renL_length];exact h1) h2 (fun j v u hv hu=> ?_)
  obtain⟨x,hx,rfl⟩:=renL_get hv
  exact ih j x u hx hu
 |tup vs arr h1 h3 ih=>
  refine .tup _ arr (by rw[renL_length];exact h1) (fun j v u hv hu=> ?_)
  obtain⟨x,hx,rfl⟩:=renL_get hv
  exact ih j x u hx hu
 |fn f a b a' b' h1 h2 h3 h4 ih1 ih2=>
  refine .fn f _ _ a' b' (by rw[renL_length];exact h1) (by rw[renL_length];exact h2) (fun j v u hv hu=> ?_) (fun j v u hv hu=> ?_)
  ·obtain⟨x,hx,rfl⟩:=renL_get hv
   exact ih1 j x u hx hu
  ·obtain⟨x,hx,rfl⟩:=renL_get hv
   exact ih2 j x u hx hu
 |nilp=>exact .nilp
 |nilfn=>exact .nilfn
 |nilsl=>exact .nilsl
 |undef=>exact .undef
 |dead u=>exact .dead u
theorem VRs.ren {fr:Nat→Option Nat} {fs:Nat→Nat→Option Nat} {loc loc':Nat→Loc} {st st':Nat→Option (Nat×Nat)} (g:Ren fr fs loc st loc' st') {vs:List V} {us:List Value} (h:VRs w Im loc st vs us):VRs w Im loc' st' (renL fr fs vs) us:=by
 refine⟨by rw[renL_length];exact h.1,fun j v u hv hu=> ?_⟩
 obtain⟨x,hx,rfl⟩:=renL_get hv
 exact(h.2 j x u hx hu).ren g
def RenO (fr:Nat→Option Nat) (fs:Nat→Nat→Option Nat):Obj→Obj→Prop
 | .cells cs, .cells cs'=>cs'=renL fr fs cs
 | .row sz xs _ fz _, .row sz' xs' _ fz' _=>sz'=sz∧xs'=xs∧fz'=fz
 |_,_=>False
theorem ObjR.ren {fr:Nat→Option Nat} {fs:Nat→Nat→Option Nat} {loc loc':Nat→Loc} {st st':Nat→Option (Nat×Nat)} (g:Ren fr fs loc st loc' st') {r r':Nat} {o o':Obj} (h:ObjR w Im loc st r o) (hl:loc' r'=loc r) (ho:RenO fr fs o o'):ObjR w Im loc' st' r' o':=by
 cases o with
 |cells cs=>
  cases o' with
  |row=>exact ho.elim
  |cells cs'=>
   obtain rfl:cs'=renL fr fs cs:=ho
   obtain⟨b,e,arr,t,f,q1,q2,q3,q4,q5,q6⟩:=h
   refine⟨b,hl.trans e,arr,t,f,q1,by rw[renL_length];exact q2,q3,q4,fun j v u hv hu=> ?_,q6⟩
   obtain⟨x,hx,rfl⟩:=renL_get hv
   exact(q5 j x u hx hu).ren g
 |row sz xs s fz chg=>
  cases o' with
  |cells=>exact ho.elim
  |row sz' xs' s' fz' chg'=>
   obtain⟨rfl,rfl,rfl⟩:=ho
   show RowObj w Im (loc' r') _ _ _
   rw[hl]
   exact h
theorem Mem.ren {fr:Nat→Option Nat} {fs:Nat→Nat→Option Nat} {loc loc':Nat→Loc} {h h':Map Obj} (hM:Mem w Im loc h) (g:Ren fr fs loc (stm h) loc' (stm h')) (src:Nat→Nat)
 (ho: ∀r' o',getM h' r'=some o'→∃o,getM h (src r')=some o∧loc' r'=loc (src r')∧RenO fr fs o o')
 (hn: ∀r',getM h' r'=none→loc' r'= .none)
 (hi: ∀r' r'' o' o'',getM h' r'=some o'→getM h' r''=some o''→src r'=src r''→r'=r''):Mem w Im loc' h':=by
 have some_of: ∀r b,owns (loc' r) b→∃o,getM h' r=some o:=fun r b hb=>by
  cases e:getM h' r with
  |none=>rw[hn r e] at hb;exact hb.elim
  |some o=>exact⟨o,rfl⟩
 refine⟨fun r' o' hr=> ?_,hn,fun r r' b h1 h2=> ?_,hM.im⟩
 ·obtain⟨o,q1,q2,q3⟩:=ho r' o' hr
  exact(hM.obj _ _ q1).ren g q2 q3
 ·obtain⟨o1,e1⟩:=some_of r b h1
  obtain⟨o2,e2⟩:=some_of r' b h2
  obtain⟨_,_,l1,_⟩:=ho r o1 e1
  obtain⟨_,_,l2,_⟩:=ho r' o2 e2
  rw[l1] at h1
  rw[l2] at h2
  exact hi r r' o1 o2 e1 e2 (hM.inj _ _ _ h1 h2)
theorem posIn_some: ∀(rs:List Nat) (i:Nat) {r j:Nat},posIn rs r i=some j→∃k,j=i+k∧rs[k]? =some r
 |[],i,r,j,h=>by cases h
 |k::ks,i,r,j,h=>by
  simp only[posIn] at h
  cases hb:k==r with
  |true=>
   rw[hb] at h
   obtain rfl:=Option.some.inj h
   exact⟨0,rfl,by simp[eq_of_beq hb]⟩
  |false=>
   rw[hb] at h
   obtain⟨m,h1,h2⟩:=posIn_some ks (i+1) h
   exact⟨m+1,by omega,by simpa using h2⟩
theorem posAt_some {rs:List Nat} {r j:Nat} (h:posAt rs r=some j):rs[j]? =some r:=by
 obtain⟨k,rfl,h2⟩:=posIn_some rs 0 h
 simpa using h2
theorem stamp0_some {h:Map Obj} {r s s':Nat} (e:stamp0 h r s=some s'):s'=0∧stampOf (getM h r)=some s:=by
 unfold stamp0 at e
 cases hs:stampOf (getM h r) with
 |none=>rw[hs] at e;cases e
 |some b=>
  rw[hs] at e
  simp only[good] at e
  split at e
  ·rename_i q
   subst q
   exact⟨(Option.some.inj e).symm,rfl⟩
  ·cases e
theorem rowN_stamp {o:Option Obj} {s cur n:Nat} (h1:stampOf o=some s) (h2:rowN o=some (cur,n)):s=cur:=by
 cases o with
 |none=>cases h1
 |some o=>
  cases o with
  |cells=>cases h1
  |row=>
   simp only[stampOf,Option.some.injEq] at h1
   simp only[rowN,Option.some.injEq,Prod.mk.injEq] at h2
   omega
theorem keyed_get {α:Type}: ∀(as:List α) (n k:Nat),getM (keyed n as) k=if k<n then none else as[k-n]?
 |[],n,k=>by simp[keyed,getM]
 |a::as,n,k=>by
  simp only[keyed,getM]
  cases hb:n==k with
  |true=>simp[eq_of_beq hb]
  |false=>
   have hne:n≠k:=by simpa using hb
   simp only[cond_false]
   rw[keyed_get as (n+1) k]
   by_cases h1:k<n
   ·simp[h1,show k<n+1 by omega]
   ·rw[if_neg (by omega),if_neg h1,show k-n=(k-(n+1))+1 by omega]
    simp
theorem keyed0 {α:Type} (as:List α) (k:Nat):getM (keyed 0 as) k=as[k]? :=by rw[keyed_get];simp
theorem takeObjs_get {h:Map Obj} {fr:Nat→Option Nat} {new:Nat→Bool}: ∀{rs:List Nat} {os:List Obj},takeObjs h fr new rs=some os→os.length=rs.length∧∀(i:Nat) r,rs[i]? =some r→∃o,getM h r=some o∧os[i]? =some (renO fr h (new r) o)
 |[],os,e=>by
  obtain rfl:=Option.some.inj e
  exact⟨rfl,fun i r hi=>by simp at hi⟩
 |r::rs,os,e=>by
  simp only[takeObjs] at e
  cases h1:getM h r with
  |none=>simp[h1,takeObjs.takeObj] at e
  |some o=>
   cases h2:takeObjs h fr new rs with
   |none=>simp[h1,h2,takeObjs.takeObj] at e
   |some os'=>
    simp only[h1,h2,takeObjs.takeObj,Option.some.injEq] at e
    subst e
    obtain⟨l,g⟩:=takeObjs_get h2
    refine⟨by simp[l],fun i r' hi=> ?_⟩
    cases i with
    |zero=>
     obtain rfl:r=r':=by simpa using hi
     exact⟨o,h1,rfl⟩
    |succ i=>exact g i r' (by simpa using hi)
theorem renO_RenO {fr:Nat→Option Nat} {h:Map Obj} {new:Bool} (o:Obj):RenO fr (stamp0 h) o (renO fr h new o):=by
 cases o with
 |cells=>rfl
 |row=>exact⟨rfl,rfl,rfl⟩
def locAt (rs:List Nat) (loc:Nat→Loc) (i:Nat):Loc:=match rs[i]? with
 |some r=>loc r
 |none=> .none
theorem taken {loc:Nat→Loc} {h h1:Map Obj} (hM:Mem w Im loc h) (hsub: ∀r o,getM h1 r=some o→getM h r=some o) {rs:List Nat} {os:List Obj} {new:Nat→Bool} (hd:rs.Nodup) (ht:takeObjs h1 (posAt rs) new rs=some os):
 Mem w Im (locAt rs loc) (keyed 0 os)∧Ren (posAt rs) (stamp0 h1) loc (stm h) (locAt rs loc) (stm (keyed 0 os)):=by
 obtain⟨hl,hg⟩:=takeObjs_get ht
 have hloc: ∀(i:Nat) r,rs[i]? =some r→locAt rs loc i=loc r:=fun i r hi=>by simp[locAt,hi]
 have g:Ren (posAt rs) (stamp0 h1) loc (stm h) (locAt rs loc) (stm (keyed 0 os)):=by
  intro r r' e hne
  have hp:=posAt_some e
  refine⟨hloc r' r hp,fun s s' cur n es est hle=> ?_⟩
  obtain⟨rfl,hs⟩:=stamp0_some es
  obtain⟨o,h1',h2⟩:=hg r' r hp
  cases o with
  |cells=>rw[h1'] at hs;cases hs
  |row sz xs st fz chg=>
   rw[stm,hsub _ _ h1'] at est
   rw[h1'] at hs
   refine⟨0,xs.length, ?_,Nat.le_refl _,fun _=>⟨rowN_stamp hs est, ?_⟩⟩
   ·simp[stm,keyed0,h2,renO,rowN]
   ·simp only[rowN,Option.some.injEq,Prod.mk.injEq] at est
    omega
 have at_of: ∀(i:Nat) o',getM (keyed 0 os) i=some o'→∃r,rs[i]? =some r:=fun i o' e=>by
  rw[keyed0] at e
  have:i<rs.length:=by rw[←hl];exact(List.getElem?_eq_some_iff.1 e).1
  exact⟨rs[i],by simp[this]⟩
 refine⟨hM.ren g (fun i=>rs.getD i 0) (fun i o' e=> ?_) (fun i e=> ?_) (fun i j o' o'' e1 e2 es=> ?_),g⟩
 ·obtain⟨r,hr⟩:=at_of i o' e
  obtain⟨o,h1',h2⟩:=hg i r hr
  rw[keyed0,h2] at e
  obtain rfl:=Option.some.inj e
  simp only[List.getD_eq_getElem?_getD,hr,Option.getD_some]
  exact⟨o,hsub _ _ h1',hloc i r hr,renO_RenO o⟩
 ·rw[keyed0,List.getElem?_eq_none_iff,hl,←List.getElem?_eq_none_iff] at e
  simp[locAt,e]
 ·obtain⟨r1,hr1⟩:=at_of i o' e1
  obtain⟨r2,hr2⟩:=at_of j o'' e2
  simp only[List.getD_eq_getElem?_getD,hr1,hr2,Option.getD_some] at es
  subst es
  have hi:=(List.getElem?_eq_some_iff.1 hr1).1
  exact(List.getElem?_inj hi hd).1 (hr1.trans hr2.symm)
theorem reach_spec (h:Map Obj): ∀(n:Nat) (todo seen:List Nat),seen.Nodup→(reach h n todo seen).Nodup∧(∃ys,reach h n todo seen=seen++ys∧ys.length≤n)
 |0,todo,seen,hs=>⟨by simpa[reach] using hs,[],by simp[reach]⟩
 |n+1,[],seen,hs=>⟨by simpa[reach] using hs,[],by simp[reach]⟩
 |n+1,r::todo,seen,hs=>by
  simp only[reach]
  cases hc:seen.contains r with
  |true=>
   simp only[cond_true]
   obtain⟨h1,ys,h2,h3⟩:=reach_spec h n todo seen hs
   exact⟨h1,ys,h2,by omega⟩
  |false=>
   simp only[cond_false]
   have hn:r∉seen:=by simpa using hc
   obtain⟨h1,ys,h2,h3⟩:=reach_spec h n (refsO (getM h r)++todo) (seen++[r]) (List.nodup_append.2 ⟨hs,by simp,fun a ha b hb e=>by
    obtain rfl:b=r:=by simpa using hb
    exact hn (e ▸ ha)⟩)
   exact⟨h1,r::ys,by simp[h2],by simp;omega⟩
theorem nats_get: ∀(n k i:Nat),(nats k n)[i]? =if i<n then some (k+i) else none
 |0,k,i=>by simp[nats]
 |n+1,k,i=>by
  cases i with
  |zero=>simp[nats]
  |succ i=>
   simp only[nats,List.getElem?_cons_succ,nats_get n (k+1) i]
   by_cases h:i<n
   ·simp[h];omega
   ·simp[h]
theorem nats_length (n k:Nat):(nats k n).length=n:=by
 induction n generalizing k with
 |zero=>rfl
 |succ n ih=>simp[nats,ih]
theorem nats_mem: ∀(n k i:Nat),i∈nats k n→k≤i∧i<k+n
 |0,k,i,h=>by simp[nats] at h
 |n+1,k,i,h=>by
  simp only[nats,List.mem_cons] at h
  rcases h with rfl|h
  ·omega
  ·have:=nats_mem n (k+1) i h;omega
theorem nats_nodup: ∀(n k:Nat),(nats k n).Nodup
 |0,k=>by simp[nats]
 |n+1,k=>by
  simp only[nats,List.nodup_cons]
  exact⟨fun h=>by have:=nats_mem n (k+1) k h;omega,nats_nodup n (k+1)⟩
end
end Go.Ev
set_option autoImplicit false
namespace Go.Ev
section
variable {w:World} {loc:Nat→Loc}
theorem argV_spec {hs:Map Obj} (own:Bool) (v:V) {Im:Nat→Nat→Prop} {h:Map Obj} (hM:Mem w Im loc h) (hf:FzLe hs h) {u:Value} (hv:VR w Im loc (stm h) v u) {v':V} {ch:Map Obj}
 (ht:argV own hs v=(v',ch)): ∃Im',Frz w Im loc hs h Im' (setAll h ch)∧VR w Im' loc (stm (setAll h ch)) v' u:=by
 have same:(v,[])=(v',ch)→∃Im',Frz w Im loc hs h Im' (setAll h ch)∧VR w Im' loc (stm (setAll h ch)) v' u:=fun e=>by
  obtain⟨rfl,rfl⟩:=Prod.mk.inj e
  exact⟨Im, .refl hM hf,hv⟩
 have other: ∀o,toD hs v=o→argV.argR v o=(v',ch)→∃Im',Frz w Im loc hs h Im' (setAll h ch)∧VR w Im' loc (stm (setAll h ch)) v' u:=fun o e h1=>by
  cases o with
  |none=>exact same h1
  |some p=>
   obtain⟨x,c⟩:=p
   simp only[argV.argR] at h1
   obtain⟨rfl,rfl⟩:=Prod.mk.inj h1
   obtain⟨Im',f,d⟩:=toD_spec v hM hf hv e
   exact⟨Im',f, .d _ _ d⟩
 cases v with
 |row r st off len=>
  cases own with
  |true=>exact same ht
  |false=>exact other _ rfl ht
 |agg cs=>exact other _ rfl ht
 |nilsl=>
  cases own with
  |true=>exact same ht
  |false=>exact other (some (.list [],[])) rfl ht
 |_=>exact same ht
theorem argVs_spec {hs:Map Obj} (own:Bool): ∀(vs:List V) {Im:Nat→Nat→Prop} {h:Map Obj} (_:Mem w Im loc h) (_:FzLe hs h) {us:List Value} (_:VRs w Im loc (stm h) vs us) {vs':List V} {ch:Map Obj}
 (_:argVs own hs vs=(vs',ch)),∃Im',Frz w Im loc hs h Im' (setAll h ch)∧VRs w Im' loc (stm (setAll h ch)) vs' us
 |[],Im,h,hM,hf,us,hv,vs',ch,ht=>by
  obtain⟨rfl,rfl⟩:=Prod.mk.inj ht
  exact⟨Im, .refl hM hf,hv⟩
 |v::vs,Im,h,hM,hf,us,hv,vs',ch,ht=>by
  simp only[argVs] at ht
  rcases h1:argV own hs v with⟨v1,c1⟩
  rcases h2:argVs own hs vs with⟨v2,c2⟩
  simp only[h1,h2,argVs.join] at ht
  obtain⟨rfl,rfl⟩:=Prod.mk.inj ht
  obtain⟨hl,hp⟩:=hv
  cases us with
  |nil=>simp at hl
  |cons u us=>
   obtain⟨Im1,F1,D1⟩:=argV_spec own v hM hf (hp 0 v u rfl rfl) h1
   have hv2:VRs w Im1 loc (stm (setAll h c1)) vs us:=⟨by simpa using hl,fun j v' u' a b=>(hp (j+1) v' u' a b).grow F1.step.grow⟩
   obtain⟨Im2,F2,D2⟩:=argVs_spec own vs F1.step.mem F1.le hv2 h2
   refine⟨Im2,⟨by rw[setAll_append];exact F1.step.trans F2.step,by rw[setAll_append];exact F2.le,by rw[setAll_append];exact F2.st.trans F1.st⟩,by simp[D2.1],fun j y z hy hz=> ?_⟩
   rw[setAll_append]
   cases j with
   |zero=>
    simp only[List.getElem?_cons_zero,Option.some.injEq] at hy hz
    subst hy hz
    exact D1.grow F2.step.grow
   |succ j=>exact D2.2 j y z (by simpa using hy) (by simpa using hz)
theorem setAll_sub: ∀(ch:Map Obj) {hs h:Map Obj} (_: ∀r o,getM hs r=some o→getM h r=some o) (r:Nat) (o:Obj),getM (setAll hs ch) r=some o→getM (setAll h ch) r=some o
 |[],hs,h,hsub,r,o,e=>hsub r o e
 |(k,x)::ch,hs,h,hsub,r,o,e=>by
  refine setAll_sub ch (fun r o e=> ?_) r o e
  rw[getM_setM] at e ⊢
  split
  ·rename_i q;rw[if_pos q] at e;exact e
  ·rename_i q;rw[if_neg q] at e;exact hsub r o e
def clean:Obj→Prop
 | .row _ _ st _ chg=>st=0∧chg=false
 |_=>True
theorem FzLe.refl' {hs h:Map Obj} (hsub: ∀r o,getM hs r=some o→getM h r=some o):FzLe hs h:=fun r o e=>⟨o,hsub r o e, .inl rfl⟩
structure Back (w:World) (Im:Nat→Nat→Prop) (loc:Nat→Loc) (objs:List Obj) (w':World) (Im':Nat→Nat→Prop) (loc':Nat→Loc) (objs':List Obj):Prop where
 mem:Mem w' Im' loc' (keyed 0 objs')
 os:w'.os=w.os
 tape:w'.tape=w.tape
 output:w'.output=w.output
 size:w.heap.size≤w'.heap.size
 old: ∀b,b<w.heap.size→(∀r,¬owns (loc r) b)→w'.heap[b]? =w.heap[b]?
 imS: ∀b o,Im b o→Im' b o
 imC: ∀b o,Im b o→w'.cell? ⟨b,o,none⟩=w.cell? ⟨b,o,none⟩
 imN: ∀b o,Im' b o→Im b o∨(∃r,owns (loc r) b)∨w.heap.size≤b
 ownN: ∀r b,owns (loc' r) b→(∃r,owns (loc r) b)∨w.heap.size≤b
 kept: ∀(r:Nat) o,objs[r]? =some o→∃o',objs'[r]? =some o'∧kept (loc r) (loc' r) o o'
 st0: ∀(r:Nat) o s,objs'[r]? =some o→stampOf (some o)=some s→s=0
def CallOk (P:Program) (glob:Nat→Option (List D)) (C:Calling):Prop:=
 ∀f args objs v objs',C f args objs=some (v,objs')→objs.length≤64→(∀(i:Nat) o,objs[i]? =some o→clean o)→
  (∃fn,P.funcs[f]? =some fn∧(fn.name== "runtime.NumGoroutine")=false∧fn.body.isNone=false)∧
  ∀w Im loc us,Mem w Im loc (keyed 0 objs)→GlobOk glob w Im→VRs w Im loc (stm (keyed 0 objs)) args us→
   Calls P f us.toArray w fun e w'=> ∃u Im' loc',e= .returned u∧Back w Im loc objs w' Im' loc' objs'∧VR w' Im' loc' (stm (keyed 0 objs')) v u
theorem posIn_none: ∀(rs:List Nat) (i:Nat) {r:Nat},posIn rs r i=none→r∉rs
 |[],i,r,h=>by simp
 |k::ks,i,r,h=>by
  simp only[posIn] at h
  cases hb:k==r with
  |true=>rw[hb] at h;cases h
  |false=>
   rw[hb] at h
   have:=posIn_none ks (i+1) h
   have hne:k≠r:=by simpa using hb
   simp[this,Ne.symm hne]
theorem posAt_get {rs:List Nat} (hd:rs.Nodup) {i r:Nat} (h:rs[i]? =some r):posAt rs r=some i:=by
 cases e:posAt rs r with
 |none=>exact absurd (List.mem_of_getElem? h) (posIn_none rs 0 e)
 |some j=>
  have:=posAt_some e
  exact congrArg some ((List.getElem?_inj (List.getElem?_eq_some_iff.1 this).1 hd).1 (this.trans h.symm))
theorem backOld_get {h:Map Obj} {fr:Nat→Option Nat} {fs:Nat→Nat→Option Nat} {all:List Nat} {objs:List Obj}: ∀(ks:List Nat) (os:List Obj) (i:Nat) {ch:Map Obj},backOld h fr fs all objs i ks os=some ch→
 (ks.length≤os.length)∧ch.map (·.1)=ks∧∀(j:Nat) k,ks[j]? =some k→∃o,os[j]? =some o∧ch[j]? =some (k,backO fr fs (stampB h all objs (i+j)) (chgOf (getM h k)) o)
 |[],os,i,ch,e=>by
  obtain rfl:[]=ch:=by simpa[backOld] using e
  exact⟨Nat.zero_le _,rfl,fun j k hj=>by simp at hj⟩
 |k::ks,[],i,ch,e=>by simp[backOld] at e
 |k::ks,o::os,i,ch,e=>by
  simp only[backOld,Option.map_eq_some_iff] at e
  obtain⟨ch',h1,rfl⟩:=e
  obtain⟨l1,l2,l3⟩:=backOld_get ks os (i+1) h1
  refine⟨by simp;omega,by simp[l2],fun j k' hj=> ?_⟩
  cases j with
  |zero=>
   obtain rfl:k=k':=by simpa using hj
   exact⟨o,rfl,rfl⟩
  |succ j=>
   obtain⟨o',q1,q2⟩:=l3 j k' (by simpa using hj)
   exact⟨o',by simpa using q1,by rw[show i+(j+1)=i+1+j by omega];simpa using q2⟩
theorem setAll_get: ∀(ch:Map Obj) (h:Map Obj) (hd:(ch.map (·.1)).Nodup) (k:Nat),(∀(j:Nat) o,ch[j]? =some (k,o)→getM (setAll h ch) k=some o)∧(k∉ch.map (·.1)→getM (setAll h ch) k=getM h k)
 |[],h,hd,k=>⟨fun j o e=>by simp at e,fun _=>rfl⟩
 |(q,x)::ch,h,hd,k=>by
  simp only[List.map_cons,List.nodup_cons] at hd
  obtain⟨i1,i2⟩:=setAll_get ch (setM h q x) hd.2 k
  refine⟨fun j o e=> ?_,fun hn=> ?_⟩
  ·cases j with
   |zero=>
    obtain⟨rfl,rfl⟩:=Prod.mk.inj (Option.some.inj e)
    exact(i2 hd.1).trans (getM_set h q x)
   |succ j=>exact i1 j o (by simpa using e)
  ·simp only[List.map_cons,List.mem_cons,not_or] at hn
   exact(i2 hn.2).trans (getM_ne h x (fun e=>hn.1 e.symm))
theorem made_get {d:Nat}: ∀(news:List Obj) (g:Nat) {h h2:Map Obj},made d g (some h) news=some h2→
 (∀(j:Nat) o,news[j]? =some o→g+j<64∧getM h (key d (g+j))=none∧getM h2 (key d (g+j))=some o)∧
 (∀k,(∀j,j<news.length→k≠key d (g+j))→getM h2 k=getM h k)
 |[],g,h,h2,e=>by
  obtain rfl:h=h2:=by simpa[made] using e
  exact⟨fun j o hj=>by simp at hj,fun k _=>rfl⟩
 |x::news,g,h,h2,e=>by
  simp only[made] at e
  by_cases hg:g<64
  ·simp only[hg,decide_true,cond_true] at e
   cases hk:getM h (key d g) with
   |some y=>simp[hk,made.made1] at e
   |none=>
    simp only[hk,made.made1] at e
    obtain⟨i1,i2⟩:=made_get news (g+1) e
    have hne: ∀a b,a≠b→key d a≠key d b:=fun a b hab q=>hab (by unfold key at q;omega)
    refine⟨fun j o hj=> ?_,fun k hn=> ?_⟩
    ·cases j with
     |zero=>
      obtain rfl:=Option.some.inj hj
      refine⟨hg,hk, ?_⟩
      rw[Nat.add_zero,i2 _ (fun j _=>hne _ _ (by omega))]
      exact getM_set ..
     |succ j=>
      obtain⟨q1,q2,q3⟩:=i1 j o (by simpa using hj)
      refine⟨by omega, ?_, ?_⟩
      ·rw[show g+(j+1)=g+1+j by omega]
       rw[getM_ne _ _ (hne g (g+1+j) (by omega))] at q2
       exact q2
      ·rw[show g+(j+1)=g+1+j by omega];exact q3
    ·rw[i2 k (fun j hj=>by rw[show g+1+j=g+(j+1) by omega];exact hn (j+1) (by simpa using hj))]
     exact getM_ne _ _ (fun q=>hn 0 (by simp) (by rw[Nat.add_zero];exact q.symm))
  ·simp[hg] at e
theorem backNew_get {fr:Nat→Option Nat} {fs:Nat→Nat→Option Nat}: ∀(os:List Obj),(backNew fr fs os).length=os.length∧∀(j:Nat) o,os[j]? =some o→(backNew fr fs os)[j]? =some (backO fr fs 0 false o)
 |[]=>⟨rfl,fun j o h=>by simp at h⟩
 |x::os=>by
  obtain⟨l,g⟩:=backNew_get (fr:=fr) (fs:=fs) os
  refine⟨by simp[backNew,l],fun j o h=> ?_⟩
  cases j with
  |zero=>obtain rfl:=Option.some.inj h;rfl
  |succ j=>exact g j o (by simpa using h)
theorem backO_RenO {fr:Nat→Option Nat} {fs:Nat→Nat→Option Nat} {s:Nat} {c:Bool} (o:Obj):RenO fr fs o (backO fr fs s c o):=by
 cases o with
 |cells=>rfl
 |row=>exact⟨rfl,rfl,rfl⟩
end
end Go.Ev
set_option autoImplicit false
namespace Go.Ev
section
variable {w:World} {Im:Nat→Nat→Prop} {loc:Nat→Loc}
def inv (rs:List Nat) (d n k:Nat):Option Nat:=match posAt rs k with
 |some i=>some i
 |none=>if key d 0≤k∧k<key d 0+64∧rs.length+(k-key d 0)<n then some (rs.length+(k-key d 0)) else none
def locB (rs:List Nat) (d n:Nat) (loc loc':Nat→Loc) (k:Nat):Loc:=match inv rs d n k with
 |some i=>loc' i
 |none=>loc k
theorem key_add (d g:Nat):key d g=key d 0+g:=by unfold key;omega
theorem inv_old {rs:List Nat} {d n i k:Nat} (hd:rs.Nodup) (h:rs[i]? =some k):inv rs d n k=some i:=by simp[inv,posAt_get hd h]
theorem inv_inj {rs:List Nat} {d n i k k':Nat} (h:inv rs d n k=some i) (h':inv rs d n k'=some i):k=k':=by
 unfold inv at h h'
 cases e:posAt rs k with
 |some j=>
  rw[e] at h
  obtain rfl:=Option.some.inj h
  have h1:=posAt_some e
  have hj:=(List.getElem?_eq_some_iff.1 h1).1
  cases e':posAt rs k' with
  |some j'=>
   rw[e'] at h'
   obtain rfl:=Option.some.inj h'
   exact Option.some.inj (h1.symm.trans (posAt_some e'))
  |none=>
   rw[e'] at h'
   simp only at h'
   split at h'
   ·have:=Option.some.inj h';omega
   ·cases h'
 |none=>
  rw[e] at h
  simp only at h
  split at h
  ·rename_i q
   have h1:=Option.some.inj h
   cases e':posAt rs k' with
   |some j'=>
    rw[e'] at h'
    obtain rfl:=Option.some.inj h'
    have hj:=(List.getElem?_eq_some_iff.1 (posAt_some e')).1
    omega
   |none=>
    rw[e'] at h'
    simp only at h'
    split at h'
    ·have:=Option.some.inj h';omega
    ·cases h'
  ·cases h
set_option maxHeartbeats 1000000 in
theorem back_step {h h1:Map Obj} (hM:Mem w Im loc h) (hsub: ∀r o,getM h1 r=some o→getM h r=some o) {rs:List Nat} {objs objs':List Obj} (hd:rs.Nodup) (ht:takeObjs h1 (posAt rs) always rs=some objs)
 {w':World} {Im':Nat→Nat→Prop} {loc':Nat→Loc} (B:Back w Im (locAt rs loc) objs w' Im' loc' objs') {v v':V} {u:Value} (hv:VR w' Im' loc' (stm (keyed 0 objs')) v u)
 {d:Nat} {ch:Map Obj} {news:List Obj} {h2:Map Obj} (hb:callB h1 rs d v objs'=some (v',ch,news)) (hm:made d 0 (some (setAll h ch)) news=some h2):
 ∃loc2,Step w Im loc h w' Im' loc2 h2∧VR w' Im' loc2 (stm h2) v' u:=by
 obtain⟨hlen,hget⟩:=takeObjs_get ht
 unfold callB at hb
 cases hbo:backOld h1 (backR rs rs.length d) (backS h1 rs objs') rs objs' 0 rs objs' with
 |none=>rw[hbo] at hb;cases hb
 |some ch0=>
 rw[hbo] at hb
 simp only[callB.callB1,Option.some.injEq,Prod.mk.injEq] at hb
 obtain⟨rfl,rfl,hnews⟩:=hb
 obtain⟨b1,b2,b3⟩:=backOld_get rs objs' 0 hbo
 obtain⟨n1,n2⟩:=backNew_get (fr:=backR rs rs.length d) (fs:=backS h1 rs objs') (objs'.drop rs.length)
 rw[hnews] at n1 n2
 obtain⟨m1,m2⟩:=made_get news 0 hm
 have hchd:(ch0.map (·.1)).Nodup:=by rw[b2];exact hd
 have hold: ∀(i:Nat) k,rs[i]? =some k→∃o,getM h1 k=some o∧getM h k=some o∧objs[i]? =some (renO (posAt rs) h1 true o):=fun i k hi=>by
  obtain⟨o,q1,q2⟩:=hget i k hi
  exact⟨o,q1,hsub _ _ q1,q2⟩
 have hsz:rs.length+news.length=objs'.length:=by rw[n1];simp;omega
 have G1: ∀(i:Nat) k,rs[i]? =some k→∃o',objs'[i]? =some o'∧getM h2 k=some (backO (backR rs rs.length d) (backS h1 rs objs') (stampB h1 rs objs' i) (chgOf (getM h1 k)) o'):=fun i k hi=>by
  obtain⟨o',q1,q2⟩:=b3 i k hi
  rw[Nat.zero_add] at q2
  have q3:=(setAll_get ch0 h hchd k).1 i _ q2
  refine⟨o',q1, ?_⟩
  rw[m2 k (fun j hj e=> ?_)]
  ·exact q3
  ·obtain⟨_,q4,_⟩:=m1 j news[j] (by simp[hj])
   rw[←e,q3] at q4
   cases q4
 have G2: ∀(j:Nat) o',objs'[rs.length+j]? =some o'→j<64∧getM h (key d j)=none∧(key d j)∉rs∧getM h2 (key d j)=some (backO (backR rs rs.length d) (backS h1 rs objs') 0 false o'):=fun j o' hj=>by
  have q1:=n2 j o' (by rw[List.getElem?_drop];exact hj)
  obtain⟨q2,q3,q4⟩:=m1 j _ q1
  rw[Nat.zero_add] at q2 q3 q4
  have hnot:key d j∉rs:=fun hin=>by
   obtain⟨i,hi,e⟩:=List.mem_iff_getElem.1 hin
   obtain⟨o,_,g2⟩:=b3 i (key d j) (by rw[←e];simp[hi])
   have:=(setAll_get ch0 h hchd (key d j)).1 i _ g2
   rw[q3] at this
   cases this
  rw[(setAll_get ch0 h hchd (key d j)).2 (by rw[b2];exact hnot)] at q3
  exact⟨q2,q3,hnot,q4⟩
 have inv_new: ∀(j:Nat) o',objs'[rs.length+j]? =some o'→inv rs d objs'.length (key d j)=some (rs.length+j):=fun j o' hj=>by
  obtain⟨q1,q2,q3,q4⟩:=G2 j o' hj
  have hlt:=(List.getElem?_eq_some_iff.1 hj).1
  have:posAt rs (key d j)=none:=by
   cases e:posAt rs (key d j) with
   |none=>rfl
   |some i=>exact absurd (List.mem_of_getElem? (posAt_some e)) q3
  unfold inv
  rw[this]
  simp only
  have hk:=key_add d j
  rw[if_pos (by omega)]
  congr 1;omega
 have inv_some: ∀k i,inv rs d objs'.length k=some i→rs[i]? =some k∨(rs[i]? =none∧∃j o',i=rs.length+j∧k=key d j∧objs'[rs.length+j]? =some o'):=fun k i e=>by
  unfold inv at e
  cases e1:posAt rs k with
  |some j=>
   rw[e1] at e
   obtain rfl:=Option.some.inj e
   exact .inl (posAt_some e1)
  |none=>
   rw[e1] at e
   simp only at e
   split at e
   ·rename_i q
    obtain rfl:=Option.some.inj e
    exact .inr ⟨by simp,k-key d 0,objs'[rs.length+(k-key d 0)],rfl,by have:=key_add d (k-key d 0);omega,by simp[q.2.2]⟩
   ·cases e
 have G: ∀k i,inv rs d objs'.length k=some i→∃o' c,objs'[i]? =some o'∧getM h2 k=some (backO (backR rs rs.length d) (backS h1 rs objs') (stampB h1 rs objs' i) c o'):=fun k i e=>by
  rcases inv_some k i e with e1|⟨hn,j,o',rfl,rfl,e1⟩
  ·obtain⟨o',q1,q2⟩:=G1 i k e1
   exact⟨o',_,q1,q2⟩
  ·refine⟨o',false,e1, ?_⟩
   rw[(G2 j o' e1).2.2.2]
   simp only[stampB,hn]
 have GN: ∀k,inv rs d objs'.length k=none→getM h2 k=getM h k:=fun k e=>by
  rw[m2 k (fun j hj e'=> ?_),(setAll_get ch0 h hchd k).2 (fun hin=> ?_)]
  ·rw[b2] at hin
   obtain⟨i,hi,e1⟩:=List.mem_iff_getElem.1 hin
   rw[inv_old hd (i:=i) (by rw[←e1];simp[hi])] at e
   cases e
  ·rw[Nat.zero_add] at e'
   have hlt:rs.length+j<objs'.length:=by omega
   rw[e',inv_new j objs'[rs.length+j] (by simp[hlt])] at e
   cases e
 have LB: ∀k i,inv rs d objs'.length k=some i→locB rs d objs'.length loc loc' k=loc' i:=fun k i e=>by simp[locB,e]
 have LN: ∀k,inv rs d objs'.length k=none→locB rs d objs'.length loc loc' k=loc k:=fun k e=>by simp[locB,e]
 have locOld: ∀(i:Nat) k,rs[i]? =some k→locAt rs loc i=loc k:=fun i k hi=>by simp[locAt,hi]
 have ownAt: ∀r b,owns (locAt rs loc r) b→∃k,rs[r]? =some k∧owns (loc k) b:=fun r b ho=>by
  unfold locAt at ho
  split at ho
  ·rename_i k hk;exact⟨k,hk,ho⟩
  ·exact ho.elim
 have ren:Ren (backR rs rs.length d) (backS h1 rs objs') loc' (stm (keyed 0 objs')) (locB rs d objs'.length loc loc') (stm h2):=by
  intro r r' e hne
  have ho: ∃o',objs'[r]? =some o':=by
   cases q:objs'[r]? with
   |some o'=>exact⟨o',rfl⟩
   |none=>exact absurd (B.mem.no r (by rw[keyed0];exact q)) hne
  obtain⟨o',ho⟩:=ho
  have hi:inv rs d objs'.length r'=some r:=by
   unfold backR at e
   split at e
   ·rename_i k hk
    obtain rfl:=Option.some.inj e
    exact inv_old hd hk
   ·rename_i hk
    obtain rfl:=Option.some.inj e
    have hle:rs.length≤r:=List.getElem?_eq_none_iff.1 hk
    have:objs'[rs.length+(r-rs.length)]? =some o':=by rw[show rs.length+(r-rs.length)=r by omega];exact ho
    rw[inv_new _ _ this]
    congr 1;omega
  refine⟨LB _ _ hi,fun s s' cur n es est hle=> ?_⟩
  obtain⟨o'',c,q1,q2⟩:=G r' r hi
  obtain rfl:=Option.some.inj (ho.symm.trans q1)
  unfold backS at es
  split at es
  ·rename_i hs
   obtain rfl:=Option.some.inj es
   cases o' with
   |cells=>simp[stm,keyed0,ho,rowN] at est
   |row sz xs st fz chg=>
    simp only[stm,keyed0,ho,rowN,Option.some.injEq,Prod.mk.injEq] at est
    have:=B.st0 r _ st ho rfl
    exact⟨stampB h1 rs objs' r,xs.length,by simp[stm,q2,backO,rowN],Nat.le_refl _,fun _=>⟨by omega,by omega⟩⟩
  ·cases es
 have K: ∀k i,inv rs d objs'.length k=some i→∀o,getM h k=some o→rs[i]? =some k∧getM h1 k=some o∧∃o',objs'[i]? =some o'∧kept (loc k) (loc' i) (renO (posAt rs) h1 true o) o'∧
  getM h2 k=some (backO (backR rs rs.length d) (backS h1 rs objs') (stampB h1 rs objs' i) (chgOf (some o)) o'):=fun k i e o hk=>by
  rcases inv_some k i e with e1|⟨hn,j,o',rfl,rfl,e1⟩
  ·obtain⟨o2,q1,q2,q3⟩:=hold i k e1
   obtain rfl:=Option.some.inj (hk.symm.trans q2)
   obtain⟨o',q4,q5⟩:=B.kept i _ q3
   obtain⟨o'',q6,q7⟩:=G1 i k e1
   obtain rfl:=Option.some.inj (q4.symm.trans q6)
   rw[locOld i k e1] at q5
   rw[q1] at q7
   exact⟨e1,q1,o',q4,q5,q7⟩
  ·rw[(G2 j o' e1).2.1] at hk
   cases hk
 have SB: ∀k i o o',rs[i]? =some k→getM h1 k=some o→objs'[i]? =some o'→∀sz xs st fz chg sz' xs' st' fz' chg',o= .row sz xs st fz chg→o'= .row sz' xs' st' fz' chg'→stampB h1 rs objs' i=bif chg' then st+1 else st:=by
  intro k i o o' h3 h4 h5 sz xs st fz chg sz' xs' st' fz' chg' e1 e2
  subst e1 e2
  cases chg'<;>simp[stampB,h3,h4,h5,stampOf,stampB.stampB1]
 have grow:Grow w Im loc (stm h) w' Im' (locB rs d objs'.length loc loc') (stm h2):=by
  refine⟨B.imS,B.imC,fun r b e=> ?_,fun r cur n hl e=> ?_⟩
  ·cases hi:inv rs d objs'.length r with
   |none=>rw[LN r hi];exact e
   |some i=>
    rw[LB r i hi]
    cases hr:getM h r with
    |none=>rw[hM.no r hr] at e;cases e
    |some o=>
     obtain⟨_,_,o',_,q,_⟩:=K r i hi o hr
     have hO:=hM.obj r o hr
     cases o with
     |row sz xs s fz chg=>
      obtain⟨_,a,cap,own,e2,_⟩:=hO
      rw[e] at e2
      cases e2
     |cells cs=>
      cases o' with
      |cells cs'=>exact Eq.trans q e
      |row=>exact q.elim
  ·cases hi:inv rs d objs'.length r with
   |none=>
    rw[LN r hi]
    exact⟨hl,cur,n,by simpa[stm,GN r hi] using e,Nat.le_refl _,fun _=>⟨rfl,Nat.le_refl _⟩⟩
   |some i=>
    rw[LB r i hi]
    cases hr:getM h r with
    |none=>rw[hM.no r hr] at hl;exact hl.elim
    |some o=>
     obtain⟨k1,k2,o',k3,k4,k5⟩:=K r i hi o hr
     cases o with
     |cells=>simp[stm,hr,rowN] at e
     |row sz xs s fz chg=>
      simp only[stm,hr,rowN,Option.some.injEq,Prod.mk.injEq] at e
      obtain⟨rfl,rfl⟩:=e
      cases o' with
      |cells=>exact k4.elim
      |row sz' xs' s' fz' chg'=>
       have hO:=B.mem.obj i _ (by rw[keyed0];exact k3)
       obtain⟨_,a,cap,own,e2,_⟩:=hO
       have hst:=SB r i _ _ k1 k2 k3 _ _ _ _ _ _ _ _ _ _ rfl rfl
       refine⟨by rw[e2];trivial,stampB h1 rs objs' i,xs'.length,by simp[stm,k5,backO,rowN], ?_,fun es=> ?_⟩
       ·rw[hst];cases chg'<;>simp
       ·simp only[renO,cond_true] at k4
        rcases k4 with k4|⟨_,_,k6,k7⟩
        ·subst k4
         rw[hst] at es
         simp at es
        ·exact⟨k6,k7⟩
 have notOwn: ∀k b,inv rs d objs'.length k=none→owns (loc k) b→∀r,¬owns (locAt rs loc r) b:=fun k b hi hb r hr=>by
  obtain⟨k',q1,q2⟩:=ownAt r b hr
  obtain rfl:=hM.inj _ _ _ q2 hb
  rw[inv_old hd q1] at hi
  cases hi
 refine⟨locB rs d objs'.length loc loc',⟨⟨fun k o2 hk=> ?_,fun k hk=> ?_,fun k k' b h3 h4=> ?_,B.mem.im⟩,grow,⟨B.os,B.tape,B.output,B.size,fun b hb hn=>B.old b hb (fun r hr=> ?_),B.imS,B.imC,fun b o hi=> ?_,fun r b hr=> ?_,fun r hr o2 ho=> ?_⟩⟩,hv.ren ren⟩
 ·cases hi:inv rs d objs'.length k with
  |some i=>
   obtain⟨o',c,q1,q2⟩:=G k i hi
   rw[hk] at q2
   obtain rfl:=Option.some.inj q2
   exact(B.mem.obj i o' (by rw[keyed0];exact q1)).ren ren (LB k i hi) (backO_RenO o')
  |none=>
   rw[GN k hi] at hk
   refine(hM.obj k o2 hk).keep grow (LN k hi) (fun b hb=>⟨B.old b (owns_lt hM hb) (notOwn k b hi hb),fun q hq=> ?_⟩)
   rcases B.imN b q hq with h3|⟨r,h3⟩|h3
   ·exact h3
   ·exact absurd h3 (notOwn k b hi hb r)
   ·have:=owns_lt hM hb;omega
 ·cases hi:inv rs d objs'.length k with
  |some i=>
   obtain⟨o',c,q1,q2⟩:=G k i hi
   rw[hk] at q2
   cases q2
  |none=>
   rw[GN k hi] at hk
   rw[LN k hi]
   exact hM.no k hk
 ·have mixed: ∀k k' i,inv rs d objs'.length k=some i→inv rs d objs'.length k'=none→owns (loc' i) b→owns (loc k') b→False:=fun k k' i hi hi' h5 h6=>by
   rcases B.ownN i b h5 with⟨r,h7⟩|h7
   ·exact notOwn k' b hi' h6 r h7
   ·have:=owns_lt hM h6;omega
  cases hi:inv rs d objs'.length k with
  |some i=>
   rw[LB k i hi] at h3
   cases hi':inv rs d objs'.length k' with
   |some i'=>
    rw[LB k' i' hi'] at h4
    obtain rfl:=B.mem.inj _ _ _ h3 h4
    exact inv_inj hi hi'
   |none=>
    rw[LN k' hi'] at h4
    exact(mixed k k' i hi hi' h3 h4).elim
  |none=>
   rw[LN k hi] at h3
   cases hi':inv rs d objs'.length k' with
   |some i'=>
    rw[LB k' i' hi'] at h4
    exact(mixed k' k i' hi' hi h4 h3).elim
   |none=>
    rw[LN k' hi'] at h4
    exact hM.inj _ _ _ h3 h4
 ·obtain⟨k,_,q⟩:=ownAt r b hr
  exact hn k q
 ·rcases B.imN b o hi with h3|⟨r,h3⟩|h3
  ·exact .inl h3
  ·obtain⟨k,_,q⟩:=ownAt r b h3
   exact .inr (.inl ⟨k,q⟩)
  ·exact .inr (.inr h3)
 ·cases hi:inv rs d objs'.length r with
  |some i=>
   rw[LB r i hi] at hr
   rcases B.ownN i b hr with⟨r',h3⟩|h3
   ·obtain⟨k,_,q⟩:=ownAt r' b h3
    exact .inl ⟨k,q⟩
   ·exact .inr h3
  |none=>
   rw[LN r hi] at hr
   exact .inl ⟨r,hr⟩
 ·cases hi:inv rs d objs'.length r with
  |none=>
   rw[LN r hi]
   rw[GN r hi] at ho
   exact⟨o2,ho,kept.refl _ _⟩
  |some i=>
   rw[LB r i hi]
   have hex: ∃o,getM h r=some o:=by
    rcases inv_some r i hi with e1|⟨_,j,o',rfl,rfl,e1⟩
    ·obtain⟨o,_,q,_⟩:=hold i r e1
     exact⟨o,q⟩
    ·unfold key at hr;omega
   obtain⟨o,ho1⟩:=hex
   obtain⟨k1,k2,o',k3,k4,k5⟩:=K r i hi o ho1
   rw[ho] at k5
   obtain rfl:=Option.some.inj k5
   refine⟨o,ho1, ?_⟩
   cases o with
   |cells=>
    cases o' with
    |cells=>exact k4
    |row=>exact k4.elim
   |row sz xs s fz chg=>
    cases o' with
    |cells=>exact k4.elim
    |row sz' xs' s' fz' chg'=>
     have hst:=SB r i _ _ k1 k2 k3 _ _ _ _ _ _ _ _ _ _ rfl rfl
     simp only[renO,cond_true] at k4
     simp only[backO,kept,chgOf]
     cases chg' with
     |true=>exact .inl rfl
     |false=>
      rcases k4 with k4|⟨_,_,k6,k7⟩
      ·cases k4
      ·exact .inr ⟨by simp,by rw[hst];rfl,k6,k7⟩
end
end Go.Ev
set_option autoImplicit false
namespace Go.Ev
section
variable {w:World} {Im:Nat→Nat→Prop} {loc:Nat→Loc}
theorem run_enter {P:Program} {f:FuncId} {fn:Func} {us:Array Value} (hf:P.funcs[f]? =some fn) (hname:(fn.name== "runtime.NumGoroutine")=false) (hb:fn.body.isNone=false):
 (callFunc f us).run P w= .ok (.enter f us) w:=by
 have h1:fn.name≠ "runtime.NumGoroutine" :=by simpa using hname
 have h2: ¬fn.body=none:=fun e=>by rw[e] at hb;cases hb
 simp[callFunc,go_sem,hf,h1,h2]
theorem VRs.append {st:Nat→Option (Nat×Nat)} {vs vs':List V} {us us':List Value} (h:VRs w Im loc st vs us) (h':VRs w Im loc st vs' us'):VRs w Im loc st (vs++vs') (us++us'):=by
 refine⟨by simp[h.1,h'.1],fun j v u hv hu=> ?_⟩
 by_cases hj:j<vs.length
 ·rw[List.getElem?_append_left hj] at hv
  rw[List.getElem?_append_left (by rw[h.1];exact hj)] at hu
  exact h.2 j v u hv hu
 ·rw[List.getElem?_append_right (by omega)] at hv
  rw[List.getElem?_append_right (by rw[h.1];omega),h.1] at hu
  exact h'.2 _ v u hv hu
theorem call_wp {c:Ctx} {h:Map Obj} (hM:Mem w Im loc h) (hG:GlobOk c.glob w Im) (hC:CallOk c.P c.glob c.call) {hs:Map Obj} (hsub: ∀r o,getM hs r=some o→getM h r=some o) {f:FuncId} {vs:List V} {us:List Value} (hvs:VRs w Im loc (stm h) vs us)
 {d:Nat} {v:V} {ch:Map Obj} {news:List Obj} {h2:Map Obj} (hv:callA c f d hs (argVs (c.own f) hs vs)=some (v,ch,news)) (hm:made d 0 (some (setAll h ch)) news=some h2):
 (∃fn,c.P.funcs[f]? =some fn∧(fn.name== "runtime.NumGoroutine")=false∧fn.body.isNone=false)∧
 Calls c.P f us.toArray w fun e w'=> ∃u Im' loc',e= .returned u∧Step w Im loc h w' Im' loc' h2∧VR w' Im' loc' (stm h2) v u:=by
 rcases hargs:argVs (c.own f) hs vs with⟨vs',ch1⟩
 obtain⟨Im1,F,D⟩:=argVs_spec (c.own f) vs hM (FzLe.refl' hsub) hvs hargs
 rw[hargs] at hv
 simp only[callA,callH] at hv
 have hsub1:=setAll_sub ch1 hsub
 generalize hr:reach (setAll hs ch1) 64 (refsL vs') []=rs at hv
 obtain⟨hd,ys,hy1,hy2⟩:=reach_spec (setAll hs ch1) 64 (refsL vs') [] (by simp)
 rw[hr] at hd hy1
 cases ht:takeObjs (setAll hs ch1) (posAt rs) always rs with
 |none=>simp[ht,callI,withCh] at hv
 |some objs=>
 obtain⟨hl,hg⟩:=takeObjs_get ht
 rw[ht] at hv
 simp only[callI] at hv
 cases hc:c.call f (renL (posAt rs) (stamp0 (setAll hs ch1)) vs') objs with
 |none=>simp[hc,callR,withCh] at hv
 |some p=>
 obtain⟨x,objs'⟩:=p
 rw[hc] at hv
 simp only[callR] at hv
 cases hb:callB (setAll hs ch1) rs d x objs' with
 |none=>simp[hb,withCh] at hv
 |some q=>
 obtain⟨v0,ch2,news0⟩:=q
 simp only[hb,withCh,Option.some.injEq,Prod.mk.injEq] at hv
 obtain⟨rfl,rfl,rfl⟩:=hv
 rw[setAll_append] at hm
 obtain⟨hM2,hR⟩:=taken F.step.mem hsub1 hd ht
 have hcl: ∀(i:Nat) o,objs[i]? =some o→clean o:=fun i o hi=>by
  have hlt:i<rs.length:=by rw[←hl];exact(List.getElem?_eq_some_iff.1 hi).1
  obtain⟨o1,q1,q2⟩:=hg i rs[i] (by simp[hlt])
  rw[hi] at q2
  obtain rfl:=Option.some.inj q2
  cases o1 with
  |cells=>trivial
  |row=>exact⟨rfl,rfl⟩
 obtain⟨hfn,hcalls⟩:=hC f _ objs x objs' hc (by rw[hl,hy1];simpa using hy2) hcl
 refine⟨hfn,(hcalls w Im1 (locAt rs loc) us hM2 (hG.grow F.step.grow.im F.step.grow.cell) (D.ren hR)).mono fun e w' hq=> ?_⟩
 obtain⟨u,Im',loc',rfl,B,hu⟩:=hq
 obtain⟨loc2,S,hu2⟩:=back_step F.step.mem hsub1 hd ht B hu hb hm
 exact⟨u,Im',loc2,rfl,F.step.trans S,hu2⟩
theorem op1_wp {c:Ctx} {al:Bool} {s s':St} {a:Act} {o:Oper} {r:Rec} (hM:Mem w Im loc s.heap) (hT:Tm w Im loc (stm s.heap) s.tmps a.tmps) (hG:GlobOk c.glob w Im) (hC:CallOk c.P c.glob c.call)
 (hd: ∀d,o.dst=some d→d<a.tmps.size) (hv:op1 c al o s=some (s',r)) {next:Act→World→Prop} {Q:Exit→Act→World→Prop}
 (hn: ∀w' Im' loc' u,Step w Im loc s.heap w' Im' loc' s'.heap→Tm w' Im' loc' (stm s'.heap) s'.tmps (a.put o.dst u).tmps→next (a.put o.dst u) w'):o.wp c.P a w next Q:=by
 unfold op1 opG opF at hv
 generalize nameB al s.heap (o.dst.getD 0)=nb at hv
 generalize foot s.heap o.op (evs c s (opnds o.op))=rs at hv
 cases hop:opv c nb (restrict s.heap rs) o.op (evs c s (opnds o.op)) with
 |none=>rw[hop] at hv;cases hv
 |some p=>
 obtain⟨v,ch,news⟩:=p
 rw[hop] at hv
 simp only[opE] at hv
 cases hm:made nb 0 (turned rs s.heap ch) news with
 |none=>rw[hm] at hv;cases hv
 |some h2=>
 rw[hm] at hv
 simp only[opE.opE1,Option.some.injEq,Prod.mk.injEq] at hv
 obtain⟨rfl,_⟩:=hv
 have hm':made nb 0 (some (setAll s.heap ch)) news=some h2:=by
  cases ht:turned rs s.heap ch with
  |none=>rw[ht] at hm;cases news<;>simp[made] at hm
  |some h1=>rw[ht,turned_eq ht] at hm;exact hm
 by_cases hcall: ∃f as ts,o.op= .call ⟨.value f,as,ts⟩
 ·obtain⟨f,as,ts,hcall⟩:=hcall
  rw[hcall] at hop
  simp only[opnds,evs,opv] at hop
  have hf:=ev_VR hT hG f (c:=c) (s:=s) (a:=a)
  have hvs:=evs_VRs hT hG as.toList (c:=c) (s:=s) (a:=a)
  revert hop hf
  generalize ev c s f=fv
  intro hop hf
  unfold callV at hop
  split at hop
  ·rename_i g first cap
   generalize hfe:a.eval f=fe at hf
   cases hf with
   |fn _ _ _ a' b' h1 h2 h3 h4=>
    have hall:VRs w Im loc (stm s.heap) (first++(evs c s as.toList++cap)) (a'.toList++(as.toList.map a.eval++b'.toList)):=
     VRs.append ⟨by simpa using h1,fun j v u p q=>h3 j v u p (by simpa using q)⟩ (hvs.append ⟨by simpa using h2,fun j v u p q=>h4 j v u p (by simpa using q)⟩)
    obtain⟨⟨fn,q1,q2,q3⟩,hcalls⟩:=call_wp hM hG hC (restrict_sub rs) hall hop hm'
    have hrun:(execOp a.eval o).run c.P w= .ok (.enter g (a'.toList++(as.toList.map a.eval++b'.toList)).toArray) w:=by
     have harr:(a'.toList++(as.toList.map a.eval++b'.toList)).toArray=a'++as.map a.eval++b':=by
      apply Array.toList_inj.1
      simp
     rw[harr]
     simp only[execOp,hcall,resolve,hfe,Deferred.ofValue,Sem.run_bind,Sem.run_pure,Result.andThen_ok,invoke,run_enter q1 q2 q3]
    unfold Oper.wp
    rw[hrun,Oper.upon_enter]
    refine hcalls.mono fun e w' hq=> ?_
    obtain⟨u,Im',loc',rfl,S,hu⟩:=hq
    exact hn w' Im' loc' u S (Tm.put (hT.grow S.grow) hd hu)
  ·cases hop
 ·obtain⟨u,w',Im',loc',hr,S,hu⟩:=exec_done hM hT hG (fun f as ts e=>hcall ⟨f,as,ts,e⟩) hop hm'
  have:=hn w' Im' loc' u S (Tm.put (hT.grow S.grow) hd hu)
  unfold Oper.wp
  rcases hr with hr|⟨hr,rfl⟩
  ·rw[hr,Oper.upon_value];exact this
  ·rw[hr,Oper.upon_skip];exact this
end
end Go.Ev
set_option autoImplicit false
namespace Go.Ev
structure Inv (c:Ctx) (n:Nat) (w0:World) (Im0:Nat→Nat→Prop) (loc0:Nat→Loc) (h0:Map Obj) (s:St) (a:Act) (w:World) (Im:Nat→Nat→Prop) (loc:Nat→Loc):Prop where
 mem:Mem w Im loc s.heap
 tm:Tm w Im loc (stm s.heap) s.tmps a.tmps
 frm:Frm w0 Im0 loc0 h0 w Im loc s.heap
 sz:n≤a.tmps.size
 df:a.defers=[]
 glob:GlobOk c.glob w Im
section
variable {c:Ctx} {n:Nat} {w0:World} {Im0:Nat→Nat→Prop} {loc0:Nat→Loc} {h0:Map Obj} {w:World} {Im:Nat→Nat→Prop} {loc:Nat→Loc}
theorem put_size (a:Act) (d:Option Tmp) (u:Value):(a.put d u).tmps.size=a.tmps.size:=by cases d<;>simp[Act.put]
theorem put_df (a:Act) (d:Option Tmp) (u:Value):(a.put d u).defers=a.defers:=by cases d<;>rfl
theorem guard_wanted {ops:Array Oper} {s:St} {a:Act} {o:Oper} {b:Bool} (hT:Tm w Im loc (stm s.heap) s.tmps a.tmps) (h:guardO ops.toList s o.guard=some b):Region.wanted o (yielded ops a.tmps)=b:=by
 unfold Region.wanted
 cases hg:o.guard with
 |none=>rw[hg] at h;exact Option.some.inj h
 |some p=>
  obtain⟨j,want⟩:=p
  rw[hg] at h
  simp only[guardO,Array.getElem?_toList] at h
  cases hj:ops[j]? with
  |none=>rw[hj] at h;cases h
  |some oj=>
   rw[hj] at h
   simp only[Option.map_some] at h
   cases hd:oj.dst with
   |none=>rw[hd] at h;cases h
   |some t=>
    rw[hd] at h
    simp only[guardV] at h
    unfold getT at h
    cases ht:getM s.tmps t with
    |none=>simp[ht,guardB] at h
    |some v=>
     simp only[ht] at h
     obtain⟨hlt,hv⟩:=hT t v ht
     have hget:a.tmps[t]? =some (a.tmps.getD t Go.undef):=by simp[Array.getD_eq_getD_getElem?,hlt]
     simp only[yielded,hj,Option.bind_some,hd,hget]
     unfold guardB at h
     split at h
     ·rename_i x
      have:a.tmps.getD t Go.undef= .bool x:=by
       revert hv
       generalize a.tmps.getD t Go.undef=z
       intro hv
       cases hv with
       |d _ _ hx=>cases hx;rfl
      rw[this]
      have:=Option.some.inj h
      rw[←this]
      cases x<;>cases want<;>rfl
     ·have:a.tmps.getD t Go.undef=Go.undef:=by
       revert hv
       generalize a.tmps.getD t Go.undef=z
       intro hv
       cases hv
       rfl
      rw[this]
      have:=Option.some.inj h
      rw[←this]
      rfl
     ·cases h
theorem step_wp {al:Bool} (hC:CallOk c.P c.glob c.call) {ops:Array Oper} {i:Nat} {o:Oper} {s s':St} {a:Act} {r:Rec} (hi:ops[i]? =some o) (hd: ∀d,o.dst=some d→d<n) (hv:step c al ops.toList o s=some (s',r))
 (I:Inv c n w0 Im0 loc0 h0 s a w Im loc) {K:Act→World→Prop} {Q:Exit→Act→World→Prop} (hk: ∀a' w' Im' loc',Inv c n w0 Im0 loc0 h0 s' a' w' Im' loc'→K a' w'):wpOp c.P ops Q i K a w:=by
 have hd': ∀d,o.dst=some d→d<a.tmps.size:=fun d e=>Nat.lt_of_lt_of_le (hd d e) I.sz
 unfold wpOp
 simp only[hi]
 unfold step at hv
 cases hg:guardO ops.toList s o.guard with
 |none=>rw[hg] at hv;cases hv
 |some b=>
  rw[hg] at hv
  rw[guard_wanted I.tm hg]
  cases b with
  |true=>
   simp only[step1] at hv
   simp only[if_true]
   exact .inl (op1_wp I.mem I.tm I.glob hC hd' hv fun w' Im' loc' u S T=>hk _ _ _ _ ⟨S.mem,T,I.frm.trans S.frm,by rw[put_size];exact I.sz,by rw[put_df];exact I.df,I.glob.grow S.grow.im S.grow.cell⟩)
  |false=>
   simp only[step1,Option.some.injEq,Prod.mk.injEq] at hv
   obtain⟨rfl,_⟩:=hv
   simp only[Bool.false_eq_true,if_false]
   exact hk _ _ Im loc ⟨I.mem,Tm.put I.tm hd' .undef,I.frm,by rw[put_size];exact I.sz,by rw[put_df];exact I.df,I.glob⟩
def evIx (c:Ctx) (al:Bool) (ops:Array Oper):List Nat→St→Option (St×List Rec)
 |[],s=>some (s,[])
 |i::is,s=>match ops[i]? with
  |none=>none
  |some o=>match step c al ops.toList o s with
   |none=>none
   |some (s',r)=>match evIx c al ops is s' with
    |none=>none
    |some (s2,rs)=>some (s2,r::rs)
theorem evIx_wp {al:Bool} (hC:CallOk c.P c.glob c.call) {ops:Array Oper} (hd: ∀(i:Nat) o d,ops[i]? =some o→o.dst=some d→d<n) {Q:Exit→Act→World→Prop}: ∀(is:List Nat) {s s':St} {a:Act} {w:World} {Im:Nat→Nat→Prop} {loc:Nat→Loc} {rs:List Rec},
 evIx c al ops is s=some (s',rs)→Inv c n w0 Im0 loc0 h0 s a w Im loc→(∀a' w' Im' loc',Inv c n w0 Im0 loc0 h0 s' a' w' Im' loc'→Q .normal a' w')→wpOps c.P ops Q is a w
 |[],s,s',a,w,Im,loc,rs,hv,I,hq=>by
  simp only[evIx,Option.some.injEq,Prod.mk.injEq] at hv
  obtain⟨rfl,_⟩:=hv
  exact hq a w Im loc I
 |i::is,s,s',a,w,Im,loc,rs,hv,I,hq=>by
  simp only[evIx] at hv
  rw[wpOps_cons]
  cases hi:ops[i]? with
  |none=>rw[hi] at hv;cases hv
  |some o=>
   rw[hi] at hv
   simp only at hv
   cases hs:step c al ops.toList o s with
   |none=>rw[hs] at hv;cases hv
   |some p=>
    obtain⟨s1,r⟩:=p
    rw[hs] at hv
    simp only at hv
    cases hr:evIx c al ops is s1 with
    |none=>rw[hr] at hv;cases hv
    |some q=>
     obtain⟨s2,rs2⟩:=q
     rw[hr] at hv
     simp only[Option.some.injEq,Prod.mk.injEq] at hv
     obtain⟨rfl,_⟩:=hv
     exact step_wp hC hi (fun d e=>hd i o d hi e) hs I fun a' w' Im' loc' I'=>evIx_wp hC hd is hr I' hq
theorem evOps_ix {al:Bool} {ops:Array Oper}: ∀(os:List Oper) (k:Nat) {s s':St} {rs:List Rec},(∀(j:Nat) o,os[j]? =some o→ops[k+j]? =some o)→evOps c al ops.toList os s=some (s',rs)→evIx c al ops (nats k os.length) s=some (s',rs)
 |[],k,s,s',rs,ho,hv=>by simpa[evOps,nats,evIx] using hv
 |o::os,k,s,s',rs,ho,hv=>by
  have h1:ops[k]? =some o:=ho 0 o rfl
  simp only[evOps] at hv
  cases hs:step c al ops.toList o s with
  |none=>rw[hs] at hv;simp[evOps.next] at hv
  |some p=>
   obtain⟨s1,r⟩:=p
   rw[hs] at hv
   simp only[evOps.next] at hv
   cases hr:evOps c al ops.toList os s1 with
   |none=>rw[hr] at hv;simp[evOps.addR] at hv
   |some q=>
    obtain⟨s2,rs2⟩:=q
    rw[hr] at hv
    simp only[evOps.addR,Option.some.injEq,Prod.mk.injEq] at hv
    obtain⟨rfl,rfl⟩:=hv
    simp only[List.length_cons,nats,evIx,h1,hs]
    rw[evOps_ix os (k+1) (fun j o' hj=>by rw[show k+1+j=k+(j+1) by omega];exact ho (j+1) o' (by simpa using hj)) hr]
theorem nats_range (n:Nat):nats 0 n=List.range n:=by
 apply List.ext_getElem?
 intro i
 rw[nats_get]
 by_cases h:i<n
 ·simp[h]
 ·rw[if_neg h,List.getElem?_eq_none (by simpa using h)]
end
end Go.Ev
set_option autoImplicit false
namespace Go.Ev
theorem keepT_get: ∀(keep:List Nat) (m:Map V) (k:Nat) {v:V},getM (keepT keep m) k=some v→getM m k=some v
 |[],m,k,v,h=>by cases h
 |q::ks,m,k,v,h=>by
  simp only[keepT] at h
  cases hq:getM m q with
  |none=>
   rw[hq] at h
   exact keepT_get ks m k h
  |some u=>
   rw[hq] at h
   simp only[keepT1,getM] at h
   cases hb:q==k with
   |true=>
    rw[hb] at h
    rw[←eq_of_beq hb,hq]
    exact h
   |false=>
    rw[hb] at h
    exact keepT_get ks m k h
theorem mapM_get (fr:Nat→Option Nat) (fs:Nat→Nat→Option Nat): ∀(m:Map V) (k:Nat),getM (mapM' fr fs m) k=(getM m k).map (renV fr fs)
 |[],k=>rfl
 |(q,x)::m,k=>by
  simp only[mapM',getM]
  cases hb:q==k with
  |true=>rfl
  |false=>exact mapM_get fr fs m k
theorem keepH_get (h:Map Obj) (rs:List Nat): ∀(m:Map Obj) (k:Nat),getM (keepH h rs m) k=bif rs.contains k then(getM m k).map (keepH.keepO h rs) else none
 |[],k=>by cases rs.contains k<;>rfl
 |(q,x)::m,k=>by
  simp only[keepH]
  cases hc:rs.contains q with
  |true=>
   simp only[cond_true,getM]
   cases hb:q==k with
   |true=>rw[←eq_of_beq hb,hc];rfl
   |false=>exact keepH_get h rs m k
  |false=>
   simp only[cond_false,getM]
   rw[keepH_get h rs m k]
   cases hb:q==k with
   |true=>rw[←eq_of_beq hb,hc];rfl
   |false=>rfl
section
variable {c:Ctx} {n:Nat} {w0:World} {Im0:Nat→Nat→Prop} {loc0:Nat→Loc} {h0:Map Obj} {w:World} {Im:Nat→Nat→Prop} {loc:Nat→Loc}
theorem kept_zero {l l':Loc} {o o1 o2:Obj} (hc:clean o) (h:kept l l' o o1) (h2:match o1,o2 with
 | .cells _, .cells _=>True
 | .row _ xs _ _ chg, .row _ xs' st' _ chg'=>xs'=xs∧st'=0∧chg'=chg
 |_,_=>False):kept l l' o o2:=by
 cases o<;>cases o1<;>cases o2<;>simp only[kept] at h ⊢ <;>first|exact h|exact h.elim|exact h2.elim|skip
 obtain⟨rfl,rfl,rfl⟩:=h2
 obtain⟨hc1,hc2⟩:=hc
 rcases h with h|⟨h1,h2,h3,h4⟩
 ·exact .inl h
 ·exact .inr ⟨h1,hc1.symm,h3,h4⟩
theorem norm_inv {k:Nat} {s:St} {a:Act} (I:Inv c n w0 Im0 loc0 h0 s a w Im loc) (hcl: ∀r o,getM h0 r=some o→clean o): ∃loc',Inv c n w0 Im0 loc0 h0 (norm c k s) a w Im loc':=by
 unfold norm norm1 norm2
 generalize reach s.heap 64 (refsM (keepT (c.keep k) s.tmps)++nats 0 c.m) []=rs
 have hget: ∀k,getM (keepH s.heap rs s.heap) k=bif rs.contains k then(getM s.heap k).map (keepH.keepO s.heap rs) else none:=keepH_get _ _ _
 have hin: ∀k o',getM (keepH s.heap rs s.heap) k=some o'→rs.contains k=true∧∃o,getM s.heap k=some o∧o'=keepH.keepO s.heap rs o:=fun k o' e=>by
  rw[hget] at e
  cases hc:rs.contains k with
  |false=>rw[hc] at e;cases e
  |true=>
   rw[hc] at e
   simp only[cond_true,Option.map_eq_some_iff] at e
   obtain⟨o,h1,h2⟩:=e
   exact⟨rfl,o,h1,h2.symm⟩
 have hrenO: ∀o,RenO (stay rs) (stamp0 s.heap) o (keepH.keepO s.heap rs o):=fun o=>by
  cases o with
  |cells=>rfl
  |row=>exact⟨rfl,rfl,rfl⟩
 have ren:Ren (stay rs) (stamp0 s.heap) loc (stm s.heap) (fun r=>bif rs.contains r then loc r else .none) (stm (keepH s.heap rs s.heap)):=by
  intro r r' e hne
  unfold stay at e
  cases hc:rs.contains r with
  |false=>rw[hc] at e;cases e
  |true=>
   rw[hc] at e
   obtain rfl:=Option.some.inj e
   refine⟨by simp only[hc,cond_true],fun s1 s' cur m es est hle=> ?_⟩
   obtain⟨rfl,hs⟩:=stamp0_some es
   cases hr:getM s.heap r with
   |none=>rw[hr] at hs;cases hs
   |some o=>
    cases o with
    |cells=>rw[hr] at hs;cases hs
    |row sz xs st fz chg=>
     simp only[stm,hr,rowN,Option.some.injEq,Prod.mk.injEq] at est
     refine⟨0,xs.length,by simp only[stm,hget,hc,hr,cond_true,Option.map_some,keepH.keepO,rowN],Nat.le_refl _,fun _=>⟨?_,by omega⟩⟩
     simp only[hr,stampOf,Option.some.injEq] at hs
     omega
 refine⟨fun r=>bif rs.contains r then loc r else .none,I.mem.ren ren id (fun r o' e=> ?_) (fun r e=> ?_) (fun r r' o o' e1 e2 es=>es),fun t v e=> ?_, ?_,I.sz,I.df,I.glob⟩
 ·obtain⟨hc,o,h1,rfl⟩:=hin r o' e
  exact⟨o,h1,by simp only[hc,cond_true,id],hrenO o⟩
 ·rw[hget] at e
  cases hc:rs.contains r with
  |false=>rfl
  |true=>
   rw[hc] at e
   simp only[cond_true,Option.map_eq_none_iff] at e
   exact I.mem.no r e
 ·simp only[mapM_get,Option.map_eq_some_iff] at e
  obtain⟨x,h1,rfl⟩:=e
  obtain⟨h2,h3⟩:=I.tm t x (keepT_get _ _ _ h1)
  exact⟨h2,h3.ren ren⟩
 ·refine⟨I.frm.os,I.frm.tape,I.frm.output,I.frm.size,I.frm.old,I.frm.imS,I.frm.imC,I.frm.imN,fun r b hr=> ?_,fun r hr o' ho=> ?_⟩
  ·cases hc:rs.contains r with
   |false=>simp only[hc,cond_false] at hr;exact hr.elim
   |true=>simp only[hc,cond_true] at hr;exact I.frm.ownN r b hr
  ·obtain⟨hc,o1,h1,rfl⟩:=hin r o' ho
   obtain⟨o,q1,q2⟩:=I.frm.chg r hr o1 h1
   refine⟨o,q1, ?_⟩
   simp only[hc,cond_true]
   refine kept_zero (hcl r o q1) q2 ?_
   cases o1 with
   |cells=>trivial
   |row=>exact⟨rfl,rfl,rfl⟩
end
end Go.Ev
set_option autoImplicit false
namespace Go.Ev
theorem setM_cons {α:Type} (k:Nat) (b:α) (m:Map α) (r:Nat) (a:α):setM ((k,b)::m) r a=if r=k then(r,a)::m else if r<k then(r,a)::(k,b)::m else(k,b)::setM m r a:=by
 simp only[setM]
 by_cases h:r=k
 ·subst h;simp
 ·have:(r==k)=false:=by simpa using h
  rw[this,if_neg h]
  by_cases h2:r<k
  ·simp[h2]
  ·simp[h2]
theorem setM_comm {α:Type} (m:Map α) {a b:Nat} (x y:α) (h:a≠b):setM (setM m a x) b y=setM (setM m b y) a x:=by
 induction m with
 |nil=>
  show setM [(a,x)] b y=setM [(b,y)] a x
  rw[setM_cons,setM_cons]
  rcases Nat.lt_or_gt_of_ne h with h1|h1
  ·rw[if_neg (by omega),if_neg (by omega),if_neg h,if_pos h1];rfl
  ·rw[if_neg (by omega),if_pos h1,if_neg h,if_neg (by omega)];rfl
 |cons p m ih=>
  obtain⟨k,z⟩:=p
  rw[setM_cons,setM_cons]
  by_cases a1:a=k
  ·subst a1
   rw[if_pos rfl,if_neg (Ne.symm h)]
   by_cases b2:b<a
   ·rw[if_pos b2,setM_cons,if_neg (Ne.symm h),if_pos b2,setM_cons,if_neg h,if_neg (by omega),setM_cons,if_pos rfl]
   ·rw[if_neg b2,setM_cons,if_neg (Ne.symm h),if_neg b2,setM_cons,if_pos rfl]
  ·rw[if_neg a1]
   by_cases b1:b=k
   ·subst b1
    rw[if_pos rfl]
    by_cases a2:a<b
    ·rw[if_pos a2,setM_cons,if_neg (Ne.symm h),if_neg (by omega),setM_cons,if_pos rfl,setM_cons,if_neg h,if_pos a2]
    ·rw[if_neg a2,setM_cons,if_pos rfl,setM_cons,if_neg h,if_neg a2]
   ·rw[if_neg b1]
    by_cases a2:a<k
    ·rw[if_pos a2]
     by_cases b2:b<k
     ·rcases Nat.lt_or_gt_of_ne h with h1|h1
      ·simp only[setM_cons,if_neg (Ne.symm h),if_neg h,if_neg (show ¬b<a by omega),if_pos h1,if_neg b1,if_pos b2,if_neg a1,if_pos a2]
      ·simp only[setM_cons,if_neg (Ne.symm h),if_neg h,if_neg (show ¬a<b by omega),if_pos h1,if_neg b1,if_pos b2,if_neg a1,if_pos a2,show b<a from h1,if_true]
     ·rw[if_neg b2,setM_cons,if_neg (Ne.symm h),if_neg (by omega),setM_cons,if_neg b1,if_neg b2,setM_cons,if_neg a1,if_pos a2]
    ·rw[if_neg a2]
     by_cases b2:b<k
     ·rw[if_pos b2,setM_cons,if_neg b1,if_pos b2,setM_cons,if_neg h,if_neg (by omega),setM_cons,if_neg a1,if_neg a2]
     ·rw[if_neg b2,setM_cons,if_neg b1,if_neg b2,setM_cons,if_neg a1,if_neg a2,ih]
theorem setT_cons {α:Type} (k:Nat) (b:α) (m:Map α) (r:Nat) (a:α):setT ((k,b)::m) r a=if r=k then(r,a)::m else if k<r then(r,a)::(k,b)::m else(k,b)::setT m r a:=by
 simp only[setT]
 by_cases h:r=k
 ·subst h;simp
 ·have:(r==k)=false:=by simpa using h
  rw[this,if_neg h]
  by_cases h2:k<r
  ·simp[h2]
  ·simp[h2]
theorem setT_comm {α:Type} (m:Map α) {a b:Nat} (x y:α) (h:a≠b):setT (setT m a x) b y=setT (setT m b y) a x:=by
 have h':=Ne.symm h
 induction m with
 |nil=>
  show setT [(a,x)] b y=setT [(b,y)] a x
  rw[setT_cons,setT_cons,if_neg h,if_neg h']
  rcases Nat.lt_or_gt_of_ne h with h1|h1
  ·rw[if_pos h1,if_neg (by omega)];rfl
  ·rw[if_neg (by omega),if_pos h1];rfl
 |cons p m ih=>
  obtain⟨k,z⟩:=p
  rcases Nat.lt_trichotomy a k with a1|a1|a1<;>rcases Nat.lt_trichotomy b k with b1|b1|b1<;>rcases Nat.lt_or_gt_of_ne h with h1|h1<;>try omega
  all_goals try subst a1
  all_goals try subst b1
  all_goals repeat (first|rw[setT_cons]|rw[if_pos (by omega)]|rw[if_neg (by omega)])
  all_goals first|rfl|rw[ih]
theorem setAll_setM: ∀(W h:Map Obj) (k:Nat) (o:Obj),k∉W.map (·.1)→setAll (setM h k o) W=setM (setAll h W) k o
 |[],h,k,o,hn=>rfl
 |(q,x)::W,h,k,o,hn=>by
  simp only[List.map_cons,List.mem_cons,not_or] at hn
  simp only[setAll]
  rw[setM_comm h o x hn.1]
  exact setAll_setM W (setM h q x) k o hn.2
theorem setAll_comm: ∀(W1 W2 h:Map Obj),(∀k,k∈W1.map (·.1)→k∉W2.map (·.1))→setAll (setAll h W1) W2=setAll (setAll h W2) W1
 |[],W2,h,hd=>rfl
 |(q,x)::W1,W2,h,hd=>by
  simp only[setAll]
  rw[setAll_comm W1 W2 (setM h q x) (fun k hk=>hd k (by simp[hk])),setAll_setM W2 h q x (hd q (by simp))]
theorem setAll_look (k:Nat): ∀(W:Map Obj),(∃o,∀h,getM (setAll h W) k=some o)∨(k∉W.map (·.1)∧∀h,getM (setAll h W) k=getM h k)
 |[]=> .inr ⟨by simp,fun h=>rfl⟩
 |(q,x)::W=>by
  rcases setAll_look k W with⟨o,ho⟩|⟨hn,ho⟩
  ·exact .inl ⟨o,fun h=>ho _⟩
  ·by_cases hq:q=k
   ·subst hq
    exact .inl ⟨x,fun h=>(ho _).trans (getM_set ..)⟩
   ·refine .inr ⟨by simp[Ne.symm hq,hn],fun h=>(ho _).trans (getM_ne _ _ hq)⟩
theorem setAll_not {W h:Map Obj} {k:Nat} (hn:k∉W.map (·.1)):getM (setAll h W) k=getM h k:=by
 induction W generalizing h with
 |nil=>rfl
 |cons p W ih=>
  obtain⟨q,x⟩:=p
  simp only[List.map_cons,List.mem_cons,not_or] at hn
  exact(ih hn.2).trans (getM_ne _ _ (Ne.symm hn.1))
theorem setAll_none {W h:Map Obj} {k:Nat} (hn:getM (setAll h W) k=none):k∉W.map (·.1)∧getM h k=none:=by
 rcases setAll_look k W with⟨o,ho⟩|⟨h1,h2⟩
 ·rw[ho h] at hn;cases hn
 ·exact⟨h1,(h2 h) ▸ hn⟩
theorem reach_congr {h h2:Map Obj}: ∀(n:Nat) (todo seen:List Nat),seen.Nodup→(∀k,k∈reach h n todo seen→getM h2 k=getM h k)→reach h2 n todo seen=reach h n todo seen
 |0,todo,seen,hs,hk=>by simp[reach]
 |n+1,[],seen,hs,hk=>by simp[reach]
 |n+1,r::todo,seen,hs,hk=>by
  simp only[reach] at hk ⊢
  cases hc:seen.contains r with
  |true=>
   rw[hc] at hk
   simp only[cond_true] at hk ⊢
   exact reach_congr n todo seen hs hk
  |false=>
   rw[hc] at hk
   simp only[cond_false] at hk ⊢
   have hn:r∉seen:=by simpa using hc
   have hs2:(seen++[r]).Nodup:=List.nodup_append.2 ⟨hs,by simp,fun a ha b hb e=>by
    obtain rfl:b=r:=by simpa using hb
    exact hn (e ▸ ha)⟩
   have hr:getM h2 r=getM h r:=hk r (by
    obtain⟨_,ys,e,_⟩:=reach_spec h n (refsO (getM h r)++todo) (seen++[r]) hs2
    rw[e];simp)
   rw[hr]
   exact reach_congr n _ _ hs2 hk
theorem restrict_congr {h h2:Map Obj}: ∀(rs:List Nat),(∀k,k∈rs→getM h2 k=getM h k)→restrict h2 rs=restrict h rs
 |[],hk=>rfl
 |r::rs,hk=>by
  simp only[restrict]
  rw[hk r (by simp),restrict_congr rs (fun k hm=>hk k (by simp[hm]))]
theorem foot_congr {h h2:Map Obj} {op:Op} {vs:List V} (hk: ∀k,k∈foot h op vs→getM h2 k=getM h k):foot h2 op vs=foot h op vs:=by
 unfold foot at hk ⊢
 split<;>first|rfl|skip
 exact reach_congr 64 _ [] (by simp) hk
theorem turned_iff {rs:List Nat}: ∀{ch h h1:Map Obj},turned rs h ch=some h1→(∀k,k∈ch.map (·.1)→k∈rs)∧∀h',turned rs h' ch=some (setAll h' ch)
 |[],h,h1,e=>⟨fun k hk=>by simp at hk,fun h'=>rfl⟩
 |(q,x)::ch,h,h1,e=>by
  simp only[turned] at e ⊢
  cases hc:rs.contains q with
  |false=>rw[hc] at e;cases e
  |true=>
   rw[hc] at e
   simp only[cond_true] at e ⊢
   obtain⟨i1,i2⟩:=turned_iff e
   refine⟨fun k hk=> ?_,fun h'=>i2 _⟩
   simp only[List.map_cons,List.mem_cons] at hk
   rcases hk with rfl|hk
   ·simpa using hc
   ·exact i1 k hk
def newKeys (d:Nat):Nat→List Obj→Map Obj
 |_,[]=>[]
 |g,o::os=>(key d g,o)::newKeys d (g+1) os
theorem newKeys_mem {d:Nat}: ∀(os:List Obj) (g k:Nat),k∈(newKeys d g os).map (·.1)↔∃j,j<os.length∧k=key d (g+j)
 |[],g,k=>by simp[newKeys]
 |o::os,g,k=>by
  simp only[newKeys,List.map_cons,List.mem_cons,newKeys_mem os (g+1) k,List.length_cons]
  constructor
  ·rintro(rfl|⟨j,hj,rfl⟩)
   ·exact⟨0,by omega,rfl⟩
   ·exact⟨j+1,by omega,by congr 1;omega⟩
  ·rintro⟨j,hj,rfl⟩
   cases j with
   |zero=>exact .inl rfl
   |succ j=>exact .inr ⟨j,by omega,by congr 1;omega⟩
theorem key_inj {d g g':Nat} (h:key d g=key d g'):g=g':=by unfold key at h;omega
theorem made_iff {d:Nat}: ∀(news:List Obj) (g:Nat) {h h2:Map Obj},made d g (some h) news=some h2→
 (∀j,j<news.length→g+j<64∧getM h (key d (g+j))=none)∧∀h',(∀j,j<news.length→getM h' (key d (g+j))=none)→made d g (some h') news=some (setAll h' (newKeys d g news))
 |[],g,h,h2,e=>⟨fun j hj=>by simp at hj,fun h' _=>by simp[made,newKeys,setAll]⟩
 |o::os,g,h,h2,e=>by
  simp only[made] at e
  by_cases hg:g<64
  ·simp only[hg,decide_true,cond_true] at e
   cases hk:getM h (key d g) with
   |some y=>simp[hk,made.made1] at e
   |none=>
    simp only[hk,made.made1] at e
    obtain⟨i1,i2⟩:=made_iff os (g+1) e
    refine⟨fun j hj=> ?_,fun h' hn=> ?_⟩
    ·cases j with
     |zero=>exact⟨hg,hk⟩
     |succ j=>
      obtain⟨q1,q2⟩:=i1 j (by simpa using hj)
      rw[getM_ne _ _ (fun e=>by have:=key_inj e;omega)] at q2
      exact⟨by omega,by rw[show g+(j+1)=g+1+j by omega];exact q2⟩
    ·have h0:getM h' (key d g)=none:=hn 0 (by simp)
     simp only[made,hg,decide_true,cond_true,h0,made.made1,newKeys,setAll]
     refine i2 _ (fun j hj=> ?_)
     rw[getM_ne _ _ (fun e=>by have:=key_inj e;omega),show g+1+j=g+(j+1) by omega]
     exact hn (j+1) (by simpa using hj)
  ·simp[hg] at e
theorem getT_congr {m m2:Map V} {t:Nat} (h:getM m2 t=getM m t):getT m2 t=getT m t:=by simp[getT,h]
theorem ev_congr {c:Ctx} {s s2:St} {x:Operand} (h: ∀t,x= .tmp t→getM s2.tmps t=getM s.tmps t):ev c s2 x=ev c s x:=by
 cases x with
 |tmp t=>exact getT_congr (h t rfl)
 |_=>rfl
theorem evs_congr {c:Ctx} {s s2:St} {xs:List Operand} (h: ∀t,Operand.tmp t∈xs→getM s2.tmps t=getM s.tmps t):evs c s2 xs=evs c s xs:=by
 rw[evs_eq,evs_eq]
 exact List.map_congr_left fun x hx=>ev_congr fun t e=>h t (e ▸ hx)
theorem opnds_sub (op:Op) (x:Operand) (h:x∈opnds op):x∈op.operands.toList:=by
 cases op<;>simp only[opnds,Op.operands] at h ⊢ <;>first|(simpa using h)|skip
 case call k=>
  obtain⟨ce,as,ts⟩:=k
  cases ce<;>simpa[Call.operands] using h
theorem step_move {c:Ctx} {ops:Array Oper} {o:Oper} {s s':St} {r:Rec} (hv:step c false ops.toList o s=some (s',r)):
 ∃v W,s'=⟨put s.tmps o.dst v,setAll s.heap W⟩∧(∀k,k∈W.map (·.1)↔(k∈r.wrote∨∃g,g<r.news∧k=key (o.dst.getD 0) g))∧(∀k,k∈r.wrote→k∈r.foot)∧r.news≤64∧
  (∀g,g<r.news→getM s.heap (key (o.dst.getD 0) g)=none∧key (o.dst.getD 0) g∉r.wrote)∧
  ∀s2:St,(∀t,t∈o.looksAt ops→getM s2.tmps t=getM s.tmps t)→(∀k,k∈r.foot→getM s2.heap k=getM s.heap k)→(∀g,g<r.news→getM s2.heap (key (o.dst.getD 0) g)=none)→
   step c false ops.toList o s2=some (⟨put s2.tmps o.dst v,setAll s2.heap W⟩,r):=by
 have hlook: ∀s2:St,(∀t,t∈o.looksAt ops→getM s2.tmps t=getM s.tmps t)→guardO ops.toList s2 o.guard=guardO ops.toList s o.guard∧evs c s2 (opnds o.op)=evs c s (opnds o.op):=fun s2 h1=>by
  refine⟨?_,evs_congr fun t ht=>h1 t ?_⟩
  ·cases hg:o.guard with
   |none=>rfl
   |some p=>
    obtain⟨j,want⟩:=p
    simp only[guardO,Array.getElem?_toList]
    cases hj:ops[j]? with
    |none=>rfl
    |some oj=>
     cases hd:oj.dst with
     |none=>simp[hd,guardV]
     |some t=>
      simp only[Option.map_some,hd,guardV]
      rw[getT_congr (h1 t (by simp[Oper.looksAt,hg,hj,hd]))]
  ·exact List.mem_append_left _ (List.mem_filterMap.2 ⟨.tmp t,opnds_sub _ _ ht,rfl⟩)
 unfold step at hv ⊢
 cases hg:guardO ops.toList s o.guard with
 |none=>rw[hg] at hv;cases hv
 |some b=>
  rw[hg] at hv
  cases b with
  |false=>
   simp only[step1,Option.some.injEq,Prod.mk.injEq] at hv
   obtain⟨rfl,rfl⟩:=hv
   refine⟨.undef,[],rfl,fun k=>by simp,fun k hk=>by simp at hk,by simp,fun g h=>by simp at h,fun s2 h1 h2 h3=> ?_⟩
   rw[(hlook s2 h1).1,hg]
   rfl
  |true=>
   simp only[step1,op1,opG,opF,nameB] at hv
   generalize hvs:evs c s (opnds o.op)=vs at hv
   generalize hrs:foot s.heap o.op vs=rs at hv
   cases hop:opv c (o.dst.getD 0) (restrict s.heap rs) o.op vs with
   |none=>rw[hop] at hv;cases hv
   |some p=>
    obtain⟨v,ch,news⟩:=p
    rw[hop] at hv
    simp only[opE] at hv
    cases ht:turned rs s.heap ch with
    |none=>rw[ht] at hv;cases news<;>simp[made,opE.opE1] at hv
    |some h1=>
     rw[ht] at hv
     cases hm:made (o.dst.getD 0) 0 (some h1) news with
     |none=>rw[hm] at hv;cases hv
     |some h2=>
      rw[hm] at hv
      simp only[opE.opE1,Option.some.injEq,Prod.mk.injEq] at hv
      obtain⟨rfl,rfl⟩:=hv
      obtain⟨t1,t2⟩:=turned_iff ht
      have e1:=turned_eq ht
      subst e1
      obtain⟨m1,m2⟩:=made_iff news 0 hm
      have m3:=m2 (setAll s.heap ch) (fun j hj=>(m1 j hj).2)
      rw[hm] at m3
      obtain rfl:=Option.some.inj m3
      have hfree: ∀g,g<news.length→key (o.dst.getD 0) g∉ch.map (·.1)∧getM s.heap (key (o.dst.getD 0) g)=none:=fun g h=>by
       have:=(m1 g h).2
       rw[Nat.zero_add] at this
       exact setAll_none this
      refine⟨v,ch++newKeys (o.dst.getD 0) 0 news,by rw[setAll_append],fun k=> ?_,t1, ?_,fun g h=>⟨(hfree g h).2,(hfree g h).1⟩,fun s2 h1 h2 h3=> ?_⟩
      ·rw[List.map_append,List.mem_append,newKeys_mem]
       simp only[Nat.zero_add]
      ·show news.length≤64
       cases hn:news.length with
       |zero=>omega
       |succ m=>have:=(m1 m (by omega)).1;omega
      ·obtain⟨l1,l2⟩:=hlook s2 h1
       rw[l1,hg]
       simp only[step1,op1,opG,opF,nameB]
       rw[l2,hvs]
       have hf:foot s2.heap o.op vs=rs:=by rw[←hrs];exact foot_congr (fun k hk=>h2 k (by rw[hrs] at hk;exact hk))
       rw[hf,restrict_congr rs h2,hop]
       simp only[opE]
       rw[t2,m2 _ (fun j hj=>by
        rw[Nat.zero_add,setAll_not (hfree j hj).1]
        exact h3 j hj)]
       simp only[opE.opE1,setAll_append]
end Go.Ev
set_option autoImplicit false
namespace Go.Ev
theorem meets_false {a b:List Nat} (h:meets a b=false) {k:Nat} (ha:k∈a):k∉b:=by
 intro hb
 have:meets a b=true:=List.any_eq_true.2 ⟨k,ha,by simpa using hb⟩
 rw[h] at this;cases this
theorem free2_spec {da db:Nat} {a b:Rec} (h:free2 da db a b=true):
 (∀k,k∈a.wrote→k∉b.foot)∧(∀k,k∈b.wrote→k∉a.foot)∧(∀g,g<b.news→key db g∉a.foot)∧(∀g,g<a.news→key da g∉b.foot):=by
 simp only[free2,Bool.and_eq_true,Bool.not_eq_true',List.all_eq_true,List.mem_range] at h
 obtain⟨⟨⟨h1,h2⟩,h3⟩,h4⟩:=h
 exact⟨fun k hk=>meets_false h1 hk,fun k hk=>meets_false h2 hk,fun g hg=>by simpa using h3 g hg,fun g hg=>by simpa using h4 g hg⟩
theorem put_get_ne {tm:Map V} {d:Option Tmp} {v:V} {t:Nat} (h: ∀x,d=some x→x≠t):getM (put tm d v) t=getM tm t:=by
 cases d with
 |none=>rfl
 |some x=>exact getM_neT _ _ (h x rfl)
theorem put_put {tm:Map V} {d e:Option Tmp} {v u:V} (h: ∀x,d=some x→e≠some x):put (put tm d v) e u=put (put tm e u) d v:=by
 cases d with
 |none=>rfl
 |some x=>
  cases e with
  |none=>rfl
  |some y=>exact setT_comm _ _ _ (fun q=>h x rfl (by rw[q]))
theorem steps_swap {c:Ctx} {ops:Array Oper} {oi oj:Oper} {s s1 s2:St} {ri rj:Rec} (hi:step c false ops.toList oi s=some (s1,ri)) (hj:step c false ops.toList oj s1=some (s2,rj))
 (hap:oi.apart ops oj=true) (hfr:free2 (oi.dst.getD 0) (oj.dst.getD 0) ri rj=true):
 ∃s',step c false ops.toList oj s=some (s',rj)∧step c false ops.toList oi s'=some (s2,ri):=by
 obtain⟨p1,p2,p3⟩:=Oper.apart_spec hap
 obtain⟨f1,f2,f3,f4⟩:=free2_spec hfr
 obtain⟨v1,W1,rfl,k1,w1,n1,g1,m1⟩:=step_move hi
 obtain⟨v2,W2,rfl,k2,w2,n2,g2,m2⟩:=step_move hj
 have a1: ∀k,k∈rj.foot→k∉W1.map (·.1):=fun k hk hm=>by
  rcases(k1 k).1 hm with h|⟨g,hg,rfl⟩
  ·exact f1 k h hk
  ·exact f4 g hg hk
 have h1:=m2 s (fun t ht=>(put_get_ne (fun x hx e=>p1 x hx (e ▸ ht))).symm) (fun k hk=>(setAll_not (a1 k hk)).symm) (fun g hg=>(setAll_none (g2 g hg).1).2)
 have a2: ∀k,k∈ri.foot→k∉W2.map (·.1):=fun k hk hm=>by
  rcases(k2 k).1 hm with h|⟨g,hg,rfl⟩
  ·exact f2 k h hk
  ·exact f3 g hg hk
 have a3: ∀g,g<ri.news→key (oi.dst.getD 0) g∉W2.map (·.1):=fun g hg hm=>by
  rcases(k2 _).1 hm with h|⟨g',hg',e⟩
  ·exact f4 g hg (w2 _ h)
  ·have:=(setAll_none (g2 g' hg').1).1
   rw[←e] at this
   exact this ((k1 _).2 (.inr ⟨g,hg,rfl⟩))
 have h2:=m1 ⟨put s.tmps oj.dst v2,setAll s.heap W2⟩ (fun t ht=>put_get_ne (fun x hx e=>p3 x hx (e ▸ ht))) (fun k hk=>setAll_not (a2 k hk)) (fun g hg=>(setAll_not (a3 g hg)).trans (g1 g hg).1)
 refine⟨_,h1, ?_⟩
 rw[h2]
 refine congrArg (fun x=>some (x,ri)) ?_
 have hd: ∀k,k∈W1.map (·.1)→k∉W2.map (·.1):=fun k hk=>by
  rcases(k1 k).1 hk with h|⟨g,hg,rfl⟩
  ·exact a2 k (w1 k h)
  ·exact a3 g hg
 rw[put_put p2,setAll_comm W1 W2 s.heap hd]
section
variable {c:Ctx} {ops:Array Oper}
theorem evIx_cons {i:Nat} {is:List Nat} {s:St} {e:St} {rs:List Rec}:evIx c false ops (i::is) s=some (e,rs)↔∃o s1 r rs',ops[i]? =some o∧step c false ops.toList o s=some (s1,r)∧evIx c false ops is s1=some (e,rs')∧rs=r::rs':=by
 constructor
 ·intro h
  simp only[evIx] at h
  cases hi:ops[i]? with
  |none=>rw[hi] at h;cases h
  |some o=>
   rw[hi] at h
   simp only at h
   cases hs:step c false ops.toList o s with
   |none=>rw[hs] at h;cases h
   |some p=>
    obtain⟨s1,r⟩:=p
    rw[hs] at h
    simp only at h
    cases hr:evIx c false ops is s1 with
    |none=>rw[hr] at h;cases h
    |some q=>
     obtain⟨s2,rs2⟩:=q
     rw[hr] at h
     simp only[Option.some.injEq,Prod.mk.injEq] at h
     obtain⟨rfl,rfl⟩:=h
     exact⟨o,s1,r,rs2,rfl,hs,hr,rfl⟩
 ·rintro⟨o,s1,r,rs',h1,h2,h3,rfl⟩
  simp[evIx,h1,h2,h3]
theorem evIx_front {R:Nat→Rec} {i:Nat} {B:List Nat} {e:St}: ∀(A:List Nat) {s:St},evIx c false ops (A++i::B) s=some (e,(A++i::B).map R)→
 (∀a,a∈A→∀oa oi,ops[a]? =some oa→ops[i]? =some oi→oa.apart ops oi=true∧free2 (oa.dst.getD 0) (oi.dst.getD 0) (R a) (R i)=true)→evIx c false ops (i::(A++B)) s=some (e,(i::(A++B)).map R)
 |[],s,h,hf=>h
 |a::A,s,h,hf=>by
  rw[List.cons_append,evIx_cons] at h
  obtain⟨oa,s1,ra,rs',h1,h2,h3,h4⟩:=h
  simp only[List.map_cons,List.cons.injEq] at h4
  obtain⟨q1,q2⟩:=h4
  subst q1
  have ih:=evIx_front A (s:=s1) (by rw[h3,←q2]) (fun x hx=>hf x (by simp[hx]))
  rw[evIx_cons] at ih
  obtain⟨oi,s2,ri,rs2,i1,i2,i3,i4⟩:=ih
  simp only[List.map_cons,List.cons.injEq] at i4
  obtain⟨q3,q4⟩:=i4
  subst q3
  obtain⟨p1,p2⟩:=hf a (by simp) oa oi h1 i1
  obtain⟨s',t1,t2⟩:=steps_swap h2 i2 p1 p2
  rw[evIx_cons]
  refine⟨oi,s',R i,_,i1,t1,evIx_cons.2 ⟨oa,s2,R a,_,h1,t2,i3,rfl⟩, ?_⟩
  simp[q4]
end
theorem befO_bit {acc:List Nat} {a:Nat}: ∀{es:List Edge},(befO acc es).testBit a=true→∃e,e∈es∧Region.binds .any e=true∧(a=e.on∨(acc.getD e.on 0).testBit a=true)
 |[],h=>by simp[befO] at h
 |e::es,h=>by
  simp only[befO] at h
  have rest:(befO acc es).testBit a=true→_:=fun h=>(befO_bit h).imp fun x hx=>(show x∈e::es∧_ from⟨List.mem_cons_of_mem _ hx.1,hx.2⟩)
  cases hb:Region.binds .any e with
  |false=>rw[hb] at h;exact rest h
  |true=>
   rw[hb] at h
   simp only[cond_true,Nat.testBit_or,Bool.or_eq_true,Nat.testBit_two_pow] at h
   rcases h with h|h|h
   ·exact⟨e,by simp,hb, .inl (of_decide_eq_true h).symm⟩
   ·exact⟨e,by simp,hb, .inr h⟩
   ·exact rest h
theorem befs_get: ∀(os:List Oper) (acc:List Nat) (k:Nat) (o:Oper),os[k]? =some o→(befs acc os)[k]? =some (befO (acc++(befs acc os).take k) o.after.toList)
 |[],acc,k,o,h=>by simp at h
 |p::os,acc,0,o,h=>by
  obtain rfl:p=o:=by simpa using h
  simp[befs]
 |p::os,acc,k+1,o,h=>by
  simp only[List.getElem?_cons_succ] at h
  simp only[befs,List.getElem?_cons_succ,List.take_succ_cons]
  rw[befs_get os _ k o h,List.append_assoc]
  rfl
def bef (ops:Array Oper) (k:Nat):Nat:=(befs [] ops.toList).getD k 0
theorem bef_bit {ops:Array Oper} {k a:Nat} {o:Oper} (ho:ops[k]? =some o) (h:(bef ops k).testBit a=true): ∃e,e∈o.after∧Region.binds .any e=true∧(a=e.on∨(bef ops e.on).testBit a=true):=by
 unfold bef at h
 have hk:=befs_get ops.toList [] k o (by simpa using ho)
 rw[List.getD_eq_getElem?_getD,hk,Option.getD_some,List.nil_append] at h
 obtain⟨e,he,hb,hr⟩:=befO_bit h
 refine⟨e,by simpa using he,hb,hr.imp id fun q=> ?_⟩
 rw[List.getD_eq_getElem?_getD,List.getElem?_take] at q
 unfold bef
 rw[List.getD_eq_getElem?_getD]
 split at q
 ·exact q
 ·simp at q
theorem freeWith_get {i:Nat} {oi:Oper} {ri:Rec}: ∀{os:List Oper} {bs:List Nat} {rs:List Rec},freeWith i oi ri os bs rs=true→∀(k:Nat) o b r,os[k]? =some o→bs[k]? =some b→rs[k]? =some r→b.testBit i=true∨free2 (oi.dst.getD 0) (o.dst.getD 0) ri r=true
 |[],bs,rs,h,k,o,b,r,h1,h2,h3=>by simp at h1
 |p::os,[],rs,h,k,o,b,r,h1,h2,h3=>by simp at h2
 |p::os,q::bs,[],h,k,o,b,r,h1,h2,h3=>by simp at h3
 |p::os,q::bs,x::rs,h,k,o,b,r,h1,h2,h3=>by
  simp only[freeWith,Bool.and_eq_true,Bool.or_eq_true] at h
  cases k with
  |zero=>
   simp only[List.getElem?_cons_zero,Option.some.injEq] at h1 h2 h3
   subst h1 h2 h3
   exact h.1
  |succ k=>exact freeWith_get h.2 k o b r (by simpa using h1) (by simpa using h2) (by simpa using h3)
theorem freeAll_get: ∀{os:List Oper} {bs:List Nat} {rs:List Rec} {n:Nat},freeAll n os bs rs=true→∀(i j:Nat) oi oj ri rj b,i<j→os[i]? =some oi→os[j]? =some oj→rs[i]? =some ri→rs[j]? =some rj→bs[j]? =some b→
 b.testBit (n+i)=true∨free2 (oi.dst.getD 0) (oj.dst.getD 0) ri rj=true
 |[],bs,rs,n,h,i,j,oi,oj,ri,rj,b,hij,h1,h2,h3,h4,h5=>by simp at h1
 |p::os,[],rs,n,h,i,j,oi,oj,ri,rj,b,hij,h1,h2,h3,h4,h5=>by simp at h5
 |p::os,q::bs,[],n,h,i,j,oi,oj,ri,rj,b,hij,h1,h2,h3,h4,h5=>by simp at h3
 |p::os,q::bs,x::rs,n,h,i,j,oi,oj,ri,rj,b,hij,h1,h2,h3,h4,h5=>by
  simp only[freeAll,Bool.and_eq_true] at h
  cases j with
  |zero=>omega
  |succ j=>
   simp only[List.getElem?_cons_succ] at h2 h4 h5
   cases i with
   |zero=>
    simp only[List.getElem?_cons_zero,Option.some.injEq] at h1 h3
    subst h1 h3
    simpa using freeWith_get h.1 j oj b rj h2 h5 h4
   |succ i=>
    simp only[List.getElem?_cons_succ] at h1 h3
    have:=freeAll_get h.2 i j oi oj ri rj b (by omega) h1 h2 h3 h4 h5
    rwa [show n+1+i=n+(i+1) by omega] at this
theorem isFree_get {ops:Array Oper} {rs:List Rec} (h:isFree ops rs=true) {i j:Nat} {oi oj:Oper} {ri rj:Rec} (hij:i<j) (h1:ops[i]? =some oi) (h2:ops[j]? =some oj) (h3:rs[i]? =some ri) (h4:rs[j]? =some rj):
 (bef ops j).testBit i=true∨free2 (oi.dst.getD 0) (oj.dst.getD 0) ri rj=true:=by
 have hb:=befs_get ops.toList [] j oj (by simpa using h2)
 have:=freeAll_get h i j oi oj ri rj _ hij (by simpa using h1) (by simpa using h2) h3 h4 hb
 rw[Nat.zero_add] at this
 refine this.imp (fun q=> ?_) id
 unfold bef
 rw[List.getD_eq_getElem?_getD,hb]
 exact q
theorem quiet_free {da db:Nat} {a b:Rec} (ha:(a.wrote.isEmpty&&a.news==0)=true) (hb:(b.wrote.isEmpty&&b.news==0)=true):free2 da db a b=true:=by
 simp only[Bool.and_eq_true,List.isEmpty_iff,beq_iff_eq] at ha hb
 simp[free2,ha.1,ha.2,hb.1,hb.2,meets]
end Go.Ev
set_option autoImplicit false
namespace Go.Ev
def apartWith (ops:Array Oper) (i:Nat) (oi:Oper):List Oper→List Nat→Bool
 |o::os,b::bs=>(b.testBit i||oi.apart ops o)&&apartWith ops i oi os bs
 |_,_=>true
def apartAll (ops:Array Oper):Nat→List Oper→List Nat→Bool
 |i,o::os,_::bs=>apartWith ops i o os bs&&apartAll ops (i+1) os bs
 |_,_,_=>true
def backEdges:Nat→List Oper→Bool
 |_,[]=>true
 |k,o::os=>o.after.all (fun e=> !Region.binds .any e||decide (e.on<k))&&backEdges (k+1) os
def dstOk (n:Nat):Option Tmp→Bool
 |some d=>decide (d<n)
 |none=>true
def okReg (n:Nat) (ops:Array Oper) (opn:Bool):Bool:=
 ops.toList.all (fun o=>dstOk n o.dst)&&(!opn||(backEdges 0 ops.toList&&apartAll ops 0 ops.toList (befs [] ops.toList)))
theorem apartWith_get {ops:Array Oper} {i:Nat} {oi:Oper}: ∀{os:List Oper} {bs:List Nat},apartWith ops i oi os bs=true→∀(k:Nat) o b,os[k]? =some o→bs[k]? =some b→b.testBit i=true∨oi.apart ops o=true
 |[],bs,h,k,o,b,h1,h2=>by simp at h1
 |p::os,[],h,k,o,b,h1,h2=>by simp at h2
 |p::os,q::bs,h,k,o,b,h1,h2=>by
  simp only[apartWith,Bool.and_eq_true,Bool.or_eq_true] at h
  cases k with
  |zero=>
   simp only[List.getElem?_cons_zero,Option.some.injEq] at h1 h2
   subst h1 h2
   exact h.1
  |succ k=>exact apartWith_get h.2 k o b (by simpa using h1) (by simpa using h2)
theorem apartAll_get {ops:Array Oper}: ∀{os:List Oper} {bs:List Nat} {n:Nat},apartAll ops n os bs=true→∀(i j:Nat) oi oj b,i<j→os[i]? =some oi→os[j]? =some oj→bs[j]? =some b→b.testBit (n+i)=true∨oi.apart ops oj=true
 |[],bs,n,h,i,j,oi,oj,b,hij,h1,h2,h5=>by simp at h1
 |p::os,[],n,h,i,j,oi,oj,b,hij,h1,h2,h5=>by simp at h5
 |p::os,q::bs,n,h,i,j,oi,oj,b,hij,h1,h2,h5=>by
  simp only[apartAll,Bool.and_eq_true] at h
  cases j with
  |zero=>omega
  |succ j=>
   simp only[List.getElem?_cons_succ] at h2 h5
   cases i with
   |zero=>
    simp only[List.getElem?_cons_zero,Option.some.injEq] at h1
    subst h1
    simpa using apartWith_get h.1 j oj b h2 h5
   |succ i=>
    simp only[List.getElem?_cons_succ] at h1
    have:=apartAll_get h.2 i j oi oj b (by omega) h1 h2 h5
    rwa [show n+1+i=n+(i+1) by omega] at this
theorem backEdges_get: ∀{os:List Oper} {n:Nat},backEdges n os=true→∀(k:Nat) o e,os[k]? =some o→e∈o.after→Region.binds .any e=true→e.on<n+k
 |[],n,h,k,o,e,h1,h2,h3=>by simp at h1
 |p::os,n,h,k,o,e,h1,h2,h3=>by
  simp only[backEdges,Bool.and_eq_true] at h
  cases k with
  |zero=>
   simp only[List.getElem?_cons_zero,Option.some.injEq] at h1
   subst h1
   have:=Array.all_eq_true_iff_forall_mem.1 h.1 e h2
   simpa[h3] using this
  |succ k=>
   have:=backEdges_get h.2 k o e (by simpa using h1) h2 h3
   omega
section
variable {c:Ctx} {n:Nat} {w0:World} {Im0:Nat→Nat→Prop} {loc0:Nat→Loc} {h0:Map Obj} {ops:Array Oper}
theorem getD_tf {l:Array Bool} {k:Nat} (h:k<l.size):l.getD k true=l.getD k false:=by simp[Array.getD,h]
theorem getD_in {l:Array Bool} {k:Nat} (h:l.getD k false=true):k<l.size:=by
 rcases Nat.lt_or_ge k l.size with h'|h'
 ·exact h'
 ·simp[Array.getElem?_eq_none h'] at h
theorem getD_in' {l:Array Bool} {k:Nat} (h:l.getD k true=false):k<l.size:=by
 rcases Nat.lt_or_ge k l.size with h'|h'
 ·exact h'
 ·simp[Array.getElem?_eq_none h'] at h
theorem any_wp (hC:CallOk c.P c.glob c.call) (hd: ∀(i:Nat) o d,ops[i]? =some o→o.dst=some d→d<n) {R:Nat→Rec} {e:St} {Q:Exit→Act→World→Prop}
 (hfree: ∀(i j:Nat) oi oj,i<j→ops[i]? =some oi→ops[j]? =some oj→(bef ops j).testBit i=true∨(oi.apart ops oj=true∧free2 (oi.dst.getD 0) (oj.dst.getD 0) (R i) (R j)=true))
 (hback: ∀(k:Nat) o e,ops[k]? =some o→e∈o.after→Region.binds .any e=true→e.on<k)
 (hq: ∀a' w' Im' loc',Inv c n w0 Im0 loc0 h0 e a' w' Im' loc'→Q .normal a' w'):
 ∀(fuel:Nat) (ys:List Nat) (listed:Array Bool) {s:St} {a:Act} {w:World} {Im:Nat→Nat→Prop} {loc:Nat→Loc},evIx c false ops ys s=some (e,ys.map R)→ys.Pairwise (·< ·)→listed.size=ops.size→
  (∀k,k∈ys↔listed.getD k true=false)→(∀k b,listed.getD k false=true→(bef ops k).testBit b=true→listed.getD b false=true)→ys.length≤fuel→
  Inv c n w0 Im0 loc0 h0 s a w Im loc→wpAny c.P .any ops Q fuel listed a w:=by
 intro fuel
 induction fuel with
 |zero=>
  intro ys listed s a w Im loc hev hsort hsz hmem hcl hlen I
  obtain rfl:ys=[]:=List.eq_nil_of_length_eq_zero (by omega)
  simp only[evIx,List.map_nil,Option.some.injEq,Prod.mk.injEq,and_true] at hev
  subst hev
  refine⟨?_,hq a w Im loc I⟩
  cases hr:Region.ready .any ops listed with
  |nil=>rfl
  |cons i is=>
   have:i∈Region.ready .any ops listed:=by rw[hr];simp
   have:=(hmem i).2 (mem_ready.1 this).1
   simp at this
 |succ fuel ih=>
  intro ys listed s a w Im loc hev hsort hsz hmem hcl hlen I
  refine⟨fun hr=> ?_,fun i hi=> ?_⟩
  ·cases ys with
   |nil=>
    simp only[evIx,List.map_nil,Option.some.injEq,Prod.mk.injEq,and_true] at hev
    subst hev
    exact hq a w Im loc I
   |cons y ys=>
    exfalso
    have hy:=(hmem y).1 (by simp)
    have hlt:=getD_in' hy
    rw[hsz] at hlt
    have:y∈Region.ready .any ops listed:=mem_ready.2 ⟨hy,ops[y],by simp[hlt],fun ed hed hb=>by
     have hlt2:=hback y ops[y] ed (by simp[hlt]) hed hb
     have hin:ed.on<listed.size:=by omega
     rw[←getD_tf hin]
     cases hg:listed.getD ed.on true with
     |true=>rfl
     |false=>
      have:=(hmem ed.on).2 hg
      rcases List.mem_cons.1 this with rfl|hm
      ·omega
      ·have:=(List.pairwise_cons.1 hsort).1 _ hm
       omega⟩
    rw[hr] at this
    simp at this
  ·obtain⟨hun,oi,hoi,hall⟩:=mem_ready.1 hi
   obtain⟨A,B,rfl⟩:=List.append_of_mem ((hmem i).2 hun)
   have hsA:=List.pairwise_append.1 hsort
   have hclo: ∀b,(bef ops i).testBit b=true→listed.getD b false=true:=fun b hb=>by
    obtain⟨ed,h1,h2,h3⟩:=bef_bit hoi hb
    rcases h3 with rfl|h3
    ·exact hall ed h1 h2
    ·exact hcl _ _ (hall ed h1 h2) h3
   have hfr:=evIx_front A hev (fun x hx ox oi' hox hoi'=>by
    have hlt:x<i:=hsA.2.2 x hx i (by simp)
    rcases hfree x i ox oi' hlt hox hoi' with h|h
    ·exfalso
     have h1:=hclo x h
     have h2:=(hmem x).1 (by simp[hx])
     rw[getD_tf (getD_in h1),h1] at h2
     cases h2
    ·exact h)
   rw[evIx_cons] at hfr
   obtain⟨o,s1,r,rs',h1,h2,h3,h4⟩:=hfr
   obtain rfl:=Option.some.inj (hoi.symm.trans h1)
   simp only[List.map_cons,List.cons.injEq] at h4
   obtain⟨rfl,rfl⟩:=h4
   refine step_wp hC hoi (fun d hdd=>hd i _ d hoi hdd) h2 I fun a' w' Im' loc' I'=> ?_
   have hB:=(List.pairwise_cons.1 hsA.2.1)
   refine ih (A++B) _ h3 ?_ (by simpa using hsz) (fun k=> ?_) (fun k b hk hb=> ?_) (by simp at hlen ⊢;omega) I'
   ·exact List.pairwise_append.2 ⟨hsA.1,hB.2,fun x hx y hy=>hsA.2.2 x hx y (by simp[hy])⟩
   ·by_cases hki:i=k
    ·subst hki
     have hlt:i<listed.size:=getD_in' hun
     simp only[List.mem_append,Array.getD_eq_getD_getElem?,Array.getElem?_setIfInBounds_self_of_lt hlt,Option.getD_some]
     constructor
     ·rintro(h|h)
      ·exact absurd (hsA.2.2 i h i (by simp)) (Nat.lt_irrefl _)
      ·exact absurd (hB.1 i h) (Nat.lt_irrefl _)
     ·intro h;cases h
    ·rw[getD_set_ne true hki,←hmem k]
     simp[Ne.symm hki]
   ·by_cases hki:i=k
    ·subst hki
     exact getD_set_true (hclo b hb)
    ·rw[getD_set_ne false hki] at hk
     exact getD_set_true (hcl k b hk hb)
theorem Inv.draw {s:St} {a:Act} {w:World} {Im:Nat→Nat→Prop} {loc:Nat→Loc} (I:Inv c n w0 Im0 loc0 h0 s a w Im loc) (d:Nat):Inv c n w0 Im0 loc0 h0 s a {w with drawn:=d} Im loc:=by
 have hc: ∀x,World.cell? {w with drawn:=d} x=w.cell? x:=fun x=>rfl
 have g:Grow w Im loc (stm s.heap) {w with drawn:=d} Im loc (stm s.heap):=⟨fun _ _ h=>h,fun _ _ _=>rfl,fun _ _ h=>h,fun _ cur n hl h=>⟨hl,cur,n,h,Nat.le_refl _,fun _=>⟨rfl,Nat.le_refl _⟩⟩⟩
 refine⟨?_,I.tm.grow g,⟨I.frm.os,I.frm.tape,I.frm.output,I.frm.size,I.frm.old,I.frm.imS,I.frm.imC,I.frm.imN,I.frm.ownN,I.frm.chg⟩,I.sz,I.df,I.glob.grow g.im g.cell⟩
 refine⟨fun r o ho=> ?_,I.mem.no,I.mem.inj,I.mem.im⟩
 have:=I.mem.obj r o ho
 cases o with
 |cells cs=>
  obtain⟨b,h1,arr,t,f,h2,h3,h4,h5,h6,h7⟩:=this
  exact⟨b,h1,arr,t,f,h2,h3,h4,h5,fun j v u p q=>(h6 j v u p q).grow g,h7⟩
 |row sz xs st fz chg=>
  obtain⟨q1,al,cap,own,q2,q3,q4,q5,q6,q7⟩:=this
  refine⟨q1,al,cap,own,q2,q3,q4,fun b o e=> ?_,q6,q7⟩
  obtain⟨u,hu⟩:=q5 b o e
  exact⟨u,fun i x j y hx hy=>⟨(hu i x j y hx hy).1,(hu i x j y hx hy).2.1,DR.grow (w:=w) (w':={w with drawn:=d}) (fun _ _ h=>h) (fun _ _ _=>rfl) (hu i x j y hx hy).2.2⟩⟩
theorem evOps_len {al:Bool} {os:List Oper}: ∀{s e:St} {rs:List Rec},evOps c al ops.toList os s=some (e,rs)→rs.length=os.length:=by
 induction os with
 |nil=>intro s e rs h;simp[evOps] at h;simp[h.2.symm]
 |cons o os ih=>
  intro s e rs h
  simp only[evOps] at h
  cases hs:step c al ops.toList o s with
  |none=>rw[hs] at h;simp[evOps.next] at h
  |some p=>
   obtain⟨s1,r⟩:=p
   rw[hs] at h
   simp only[evOps.next] at h
   cases hr:evOps c al ops.toList os s1 with
   |none=>rw[hr] at h;simp[evOps.addR] at h
   |some q=>
    obtain⟨s2,rs2⟩:=q
    rw[hr] at h
    simp only[evOps.addR,Option.some.injEq,Prod.mk.injEq] at h
    obtain⟨rfl,rfl⟩:=h
    simp[ih hr]
theorem dropE_some {l:List Nat} {r:Option (Ex×St)} {x:Ex} {s':St} (h:dropE l r=some (x,s')): ∃s1,r=some (x,s1)∧s'.heap=s1.heap∧∀k v,getM s'.tmps k=some v→getM s1.tmps k=some v:=by
 cases l with
 |nil=>exact⟨s',h,rfl,fun _ _ e=>e⟩
 |cons k ks=>
  cases r with
  |none=>cases h
  |some p=>
   obtain⟨y,s1⟩:=p
   simp only[dropE,Option.some.injEq,Prod.mk.injEq] at h
   obtain⟨rfl,rfl⟩:=h
   exact⟨s1,rfl,rfl,fun q v e=>keepT_get _ _ q e⟩
theorem Inv.forget {s s':St} {a:Act} {w:World} {Im:Nat→Nat→Prop} {loc:Nat→Loc} (I:Inv c n w0 Im0 loc0 h0 s a w Im loc) (h1:s'.heap=s.heap) (h2: ∀k v,getM s'.tmps k=some v→getM s.tmps k=some v):Inv c n w0 Im0 loc0 h0 s' a w Im loc:=
 ⟨by rw[h1];exact I.mem,by rw[h1];exact fun t v e=>I.tm t v (h2 t v e),by rw[h1];exact I.frm,I.sz,I.df,I.glob⟩
theorem region_wp (hC:CallOk c.P c.glob c.call) (hm:c.P.follows .mixedOrders=true) {id:Nat} {opn:Bool} (hok:okReg n ops opn=true) {s s':St} {x:Ex} {a:Act} {w:World} {Im:Nat→Nat→Prop} {loc:Nat→Loc}
 (hv:evC c (.region id ops opn) s=some (x,s')) (I:Inv c n w0 Im0 loc0 h0 s a w Im loc) {Q:Exit→Act→World→Prop}
 (hq: ∀a' w' Im' loc',Inv c n w0 Im0 loc0 h0 s' a' w' Im' loc'→Q .normal a' w'):x= .normal∧(Code.region id ops opn).wp c.P Q a w:=by
 simp only[okReg,Bool.and_eq_true,Bool.or_eq_true,Bool.not_eq_true',List.all_eq_true] at hok
 obtain⟨hd0,hopn⟩:=hok
 have hd: ∀(i:Nat) o d,ops[i]? =some o→o.dst=some d→d<n:=fun i o d hi hdd=>by
  have:=hd0 o (List.mem_of_getElem? (by simpa using hi))
  rw[hdd] at this
  simpa[dstOk] using this
 cases opn with
 |false=>
  simp only[evC] at hv
  obtain⟨s1,hv,hh,ht⟩:=dropE_some hv
  have hq: ∀a' w' Im' loc',Inv c n w0 Im0 loc0 h0 s1 a' w' Im' loc'→Q .normal a' w':=fun a' w' Im' loc' I'=>hq a' w' Im' loc' (I'.forget hh ht)
  cases he:evOps c true ops.toList ops.toList s with
  |none=>rw[he] at hv;cases hv
  |some p=>
   obtain⟨e,rs⟩:=p
   rw[he] at hv
   simp only[reg,Option.some.injEq,Prod.mk.injEq] at hv
   obtain⟨rfl,rfl⟩:=hv
   refine⟨rfl,wp_region ?_⟩
   have:=evOps_ix ops.toList 0 (by intro j o hj;simpa using hj) he
   rw[nats_range,Array.length_toList] at this
   exact evIx_wp hC hd _ this I hq
 |true=>
  obtain⟨hb,hap⟩:=hopn.resolve_left (by simp)
  simp only[evC] at hv
  obtain⟨s1,hv,hh,ht⟩:=dropE_some hv
  have hq: ∀a' w' Im' loc',Inv c n w0 Im0 loc0 h0 s1 a' w' Im' loc'→Q .normal a' w':=fun a' w' Im' loc' I'=>hq a' w' Im' loc' (I'.forget hh ht)
  cases he:evOps c false ops.toList ops.toList s with
  |none=>rw[he] at hv;cases hv
  |some p=>
   obtain⟨e,rs⟩:=p
   rw[he] at hv
   simp only[regD] at hv
   cases hg:(quietR rs||isFree ops rs) with
   |false=>rw[hg] at hv;cases hv
   |true=>
    rw[hg] at hv
    simp only[cond_true,Option.some.injEq,Prod.mk.injEq] at hv
    obtain⟨rfl,rfl⟩:=hv
    refine⟨rfl,wp_region_any hm ?_⟩
    have hix:=evOps_ix ops.toList 0 (by intro j o hj;simpa using hj) he
    have hlen:rs.length=ops.size:=(evOps_len he).trans Array.length_toList
    rw[nats_range,Array.length_toList] at hix
    have hR:rs=(List.range ops.size).map (fun i=>rs.getD i ⟨[],[],0⟩):=by
     apply List.ext_getElem?
     intro i
     by_cases h:i<ops.size
     ·have h':i<rs.length:=by omega
      simp[h,List.getElem?_eq_getElem h']
     ·rw[List.getElem?_eq_none (by omega),List.getElem?_eq_none (by simp;omega)]
    rw[hR] at hix
    refine any_wp hC hd (R:=fun i=>rs.getD i ⟨[],[],0⟩) (e:=e) ?_ (fun k o ed h1 h2 h3=>by
     have:=backEdges_get hb k o ed (by simpa using h1) h2 h3
     omega) hq ops.size (List.range ops.size) _ hix List.pairwise_lt_range (by simp) (fun k=> ?_) (fun k b hk=> ?_) (by simp) (I.draw _)
    ·intro i j oi oj hij hi hj
     have hlti:i<rs.length:=by rw[hlen];exact(Array.getElem?_eq_some_iff.1 hi).1
     have hltj:j<rs.length:=by rw[hlen];exact(Array.getElem?_eq_some_iff.1 hj).1
     have gi:rs.getD i ⟨[],[],0⟩=rs[i]:=by simp[List.getD_eq_getElem?_getD,List.getElem?_eq_getElem hlti]
     have gj:rs.getD j ⟨[],[],0⟩=rs[j]:=by simp[List.getD_eq_getElem?_getD,List.getElem?_eq_getElem hltj]
     have hbj:=befs_get ops.toList [] j oj (by simpa using hj)
     have hap':=apartAll_get hap i j oi oj _ hij (by simpa using hi) (by simpa using hj) hbj
     rw[Nat.zero_add] at hap'
     rcases hap' with h|h
     ·left
      unfold bef
      rw[List.getD_eq_getElem?_getD,hbj]
      exact h
     ·simp only[Bool.or_eq_true] at hg
      rcases hg with hg|hg
      ·right
       simp only[quietR,List.all_eq_true] at hg
       rw[gi,gj]
       exact⟨h,quiet_free (hg _ (List.getElem_mem hlti)) (hg _ (List.getElem_mem hltj))⟩
      ·rcases isFree_get hg hij hi hj (List.getElem?_eq_getElem hlti) (List.getElem?_eq_getElem hltj) with h'|h'
       ·exact .inl h'
       ·rw[gi,gj]
        exact .inr ⟨h,h'⟩
    ·by_cases h:k<ops.size
     ·simp[h,Array.getD]
     ·simp[h,Array.getD]
    ·simp only[Array.getD,Array.size_replicate] at hk
     split at hk
     ·simp at hk
     ·simp at hk
end
end Go.Ev
set_option autoImplicit false
namespace Go.Ev
def okCode (n:Nat):Code→Bool
 | .region _ ops opn=>okReg n ops opn
 | .seq a b=>okCode n a&&okCode n b
 | .cond _ a b=>okCode n a&&okCode n b
 | .block _ b=>okCode n b
 | .loop b=>okCode n b
 | .scope b=>okCode n b
 |_=>true
def exOf:Ex→Exit
 | .normal=> .normal
 | .exit i=> .exit i
 | .ret=> .ret
section
variable {c:Ctx} {n:Nat} {w0:World} {Im0:Nat→Nat→Prop} {loc0:Nat→Loc} {h0:Map Obj}
theorem boolV_some {v:V} {b:Bool} (h:boolV v=some b):v= .d (.bool b):=by
 unfold boolV at h
 split at h
 ·rw[Option.some.inj h]
 ·cases h
theorem loop_wp {j:Nat} (hcl: ∀r o,getM h0 r=some o→clean o) {b:Code} (ih: ∀{s s':St} {x:Ex} {a:Act} {w:World} {Im:Nat→Nat→Prop} {loc:Nat→Loc} {Q:Exit→Act→World→Prop},evC c b s=some (x,s')→Inv c n w0 Im0 loc0 h0 s a w Im loc→
 (∀a' w' Im' loc',Inv c n w0 Im0 loc0 h0 s' a' w' Im' loc'→Q (exOf x) a' w')→b.wp c.P Q a w): ∀(k:Nat) {s s':St} {x:Ex} {a:Act} {w:World} {Im:Nat→Nat→Prop} {loc:Nat→Loc} {Q:Exit→Act→World→Prop},
 loopN c j (evC c b) k s=some (x,s')→Inv c n w0 Im0 loc0 h0 s a w Im loc→(∀a' w' Im' loc',Inv c n w0 Im0 loc0 h0 s' a' w' Im' loc'→Q (exOf x) a' w')→Code.rounds c.P b Q k a w
 |0,s,s',x,a,w,Im,loc,Q,hv,I,hq=>by simp[loopN] at hv
 |k+1,s,s',x,a,w,Im,loc,Q,hv,I,hq=>by
  rw[rounds_succ]
  simp only[loopN] at hv
  cases he:evC c b s with
  |none=>rw[he] at hv;simp[rnd,loopN.loopN1] at hv
  |some p=>
   obtain⟨y,s1⟩:=p
   rw[he] at hv
   refine ih he I fun a' w' Im' loc' I'=> ?_
   cases y with
   |normal=>
    obtain⟨loc2,I2⟩:=norm_inv (k:=3*j) I' hcl
    simp only[rnd,loopN.loopN1] at hv
    exact loop_wp hcl ih k hv I2 hq
   |exit i=>
    obtain⟨loc2,I2⟩:=norm_inv (k:=3*j+1) I' hcl
    simp only[rnd,loopN.loopN1,Option.some.injEq,Prod.mk.injEq] at hv
    obtain⟨rfl,rfl⟩:=hv
    exact hq _ _ _ _ I2
   |ret=>
    obtain⟨loc2,I2⟩:=norm_inv (k:=3*j+2) I' hcl
    simp only[rnd,loopN.loopN1,Option.some.injEq,Prod.mk.injEq] at hv
    obtain⟨rfl,rfl⟩:=hv
    exact hq _ _ _ _ I2
theorem code_wp (hC:CallOk c.P c.glob c.call) (hm:c.P.follows .mixedOrders=true) (hcl: ∀r o,getM h0 r=some o→clean o): ∀(code:Code) {s s':St} {x:Ex} {a:Act} {w:World} {Im:Nat→Nat→Prop} {loc:Nat→Loc} {Q:Exit→Act→World→Prop},
 okCode n code=true→evC c code s=some (x,s')→Inv c n w0 Im0 loc0 h0 s a w Im loc→(∀a' w' Im' loc',Inv c n w0 Im0 loc0 h0 s' a' w' Im' loc'→Q (exOf x) a' w')→code.wp c.P Q a w:=by
 intro code
 induction code with
 |skip=>
  intro s s' x a w Im loc Q hok hv I hq
  simp only[evC,Option.some.injEq,Prod.mk.injEq] at hv
  obtain⟨rfl,rfl⟩:=hv
  exact wp_skip (hq _ _ _ _ I)
 |label l=>
  intro s s' x a w Im loc Q hok hv I hq
  simp only[evC,Option.some.injEq,Prod.mk.injEq] at hv
  obtain⟨rfl,rfl⟩:=hv
  exact wp_label (hq _ _ _ _ I)
 |exit i=>
  intro s s' x a w Im loc Q hok hv I hq
  simp only[evC,Option.some.injEq,Prod.mk.injEq] at hv
  obtain⟨rfl,rfl⟩:=hv
  exact wp_exit (hq _ _ _ _ I)
 |ret=>
  intro s s' x a w Im loc Q hok hv I hq
  simp only[evC,Option.some.injEq,Prod.mk.injEq] at hv
  obtain⟨rfl,rfl⟩:=hv
  exact wp_ret (hq _ _ _ _ I)
 |region id ops opn=>
  intro s s' x a w Im loc Q hok hv I hq
  have hx:x= .normal:=(region_wp (Q:=fun _ _ _=>True) hC hm hok hv I (fun _ _ _ _ _=>trivial)).1
  subst hx
  exact(region_wp hC hm hok hv I hq).2
 |seq p q ihp ihq=>
  intro s s' x a w Im loc Q hok hv I hq
  simp only[okCode,Bool.and_eq_true] at hok
  simp only[evC] at hv
  cases he:evC c p s with
  |none=>rw[he] at hv;cases hv
  |some z=>
   obtain⟨y,s1⟩:=z
   rw[he] at hv
   refine wp_seq (ihp hok.1 he I fun a' w' Im' loc' I'=> ?_)
   cases y with
   |normal=>exact ihq hok.2 hv I' hq
   |exit i=>
    simp only[evThen,Option.some.injEq,Prod.mk.injEq] at hv
    obtain⟨rfl,rfl⟩:=hv
    exact hq _ _ _ _ I'
   |ret=>
    simp only[evThen,Option.some.injEq,Prod.mk.injEq] at hv
    obtain⟨rfl,rfl⟩:=hv
    exact hq _ _ _ _ I'
 |cond b p q ihp ihq=>
  intro s s' x a w Im loc Q hok hv I hq
  simp only[okCode,Bool.and_eq_true] at hok
  simp only[evC] at hv
  cases hb:boolV (ev c s b) with
  |none=>rw[hb] at hv;cases hv
  |some t=>
   rw[hb] at hv
   have h1:=ev_VR I.tm I.glob b (c:=c) (s:=s) (a:=a)
   rw[boolV_some hb] at h1
   have h2:a.eval b= .bool t:=by
    revert h1
    generalize a.eval b=z
    intro h1
    cases h1 with
    |d _ _ hx=>cases hx;rfl
   cases t with
   |true=>exact wp_cond h2 (ihp hok.1 hv I hq)
   |false=>exact wp_cond h2 (ihq hok.2 hv I hq)
 |block i p ih=>
  intro s s' x a w Im loc Q hok hv I hq
  simp only[okCode] at hok
  simp only[evC] at hv
  cases he:evC c p s with
  |none=>rw[he] at hv;cases hv
  |some z=>
   obtain⟨y,s1⟩:=z
   rw[he] at hv
   refine wp_block (ih hok he I fun a' w' Im' loc' I'=> ?_)
   cases y with
   |normal=>
    simp only[inBlock,Option.some.injEq,Prod.mk.injEq] at hv
    obtain⟨rfl,rfl⟩:=hv
    exact hq _ _ _ _ I'
   |exit j=>
    simp only[inBlock] at hv
    by_cases hji:j=i
    ·subst hji
     simp only[beq_self_eq_true,cond_true,Option.some.injEq,Prod.mk.injEq] at hv
     obtain⟨rfl,rfl⟩:=hv
     simp only[exOf,Exit.inBlock,if_true]
     exact hq _ _ _ _ I'
    ·have hb:(j==i)=false:=by simpa using hji
     simp only[hb,cond_false,Option.some.injEq,Prod.mk.injEq] at hv
     obtain⟨rfl,rfl⟩:=hv
     simp only[exOf,Exit.inBlock,if_neg hji]
     exact hq _ _ _ _ I'
   |ret=>
    simp only[inBlock,Option.some.injEq,Prod.mk.injEq] at hv
    obtain⟨rfl,rfl⟩:=hv
    exact hq _ _ _ _ I'
 |loop p ih=>
  intro s s' x a w Im loc Q hok hv I hq
  simp only[okCode] at hok
  simp only[evC] at hv
  obtain⟨loc2,I2⟩:=norm_inv (k:=3*idOf p) I hcl
  exact wp_loop_rounds c.fuel (loop_wp hcl (fun h1 h2 h3=>ih hok h1 h2 h3) c.fuel hv I2 hq)
 |scope p ih=>
  intro s s' x a w Im loc Q hok hv I hq
  simp only[okCode] at hok
  simp only[evC] at hv
  refine wp_scope_straight (ih hok hv I fun a' w' Im' loc' I'=> ?_)
  have:=hq a' w' Im' loc' I'
  cases x<;>exact this
 |_=>intro s s' x a w Im loc Q hok hv I hq;simp[evC] at hv
end
end Go.Ev
set_option autoImplicit false
namespace Go.Ev
mutual
theorem toD_keys {hs:Map Obj}: ∀(v:V) {x:D} {ch:Map Obj},toD hs v=some (x,ch)→∀k,k∈ch.map (·.1)→∃o,getM hs k=some o
 | .d y,x,ch,ht,k,hk=>by
   simp only[toD,Option.some.injEq,Prod.mk.injEq] at ht
   obtain⟨rfl,rfl⟩:=ht
   simp at hk
 | .row r s off len,x,ch,ht,k,hk=>by
   simp only[toD] at ht
   cases hr:getM hs r with
   |none=>simp[hr,toRow] at ht
   |some o=>
    cases o with
    |cells=>simp[hr,toRow] at ht
    |row sz xs s' fz chg=>
     simp only[hr,toRow] at ht
     split at ht
     ·simp only[Option.some.injEq,Prod.mk.injEq] at ht
      obtain⟨rfl,rfl⟩:=ht
      cases fz with
      |true=>simp at hk
      |false=>
       obtain rfl:k=r:=by simpa using hk
       exact⟨_,hr⟩
     ·cases ht
 | .nilsl,x,ch,ht,k,hk=>by
   simp only[toD,Option.some.injEq,Prod.mk.injEq] at ht
   obtain⟨rfl,rfl⟩:=ht
   simp at hk
 | .agg cs,x,ch,ht,k,hk=>by
   simp only[toD] at ht
   cases hc:toDs hs cs with
   |none=>rw[hc] at ht;cases ht
   |some p=>
    obtain⟨xs,c⟩:=p
    rw[hc] at ht
    simp only[aggOf,Option.some.injEq,Prod.mk.injEq] at ht
    obtain⟨rfl,rfl⟩:=ht
    exact toDs_keys cs hc k hk
 | .ptr _ _,x,ch,ht,k,hk=>by simp[toD] at ht
 | .eptr _ _ _ _,x,ch,ht,k,hk=>by simp[toD] at ht
 | .cp _ _,x,ch,ht,k,hk=>by simp[toD] at ht
 | .tup _,x,ch,ht,k,hk=>by simp[toD] at ht
 | .fn _ _ _,x,ch,ht,k,hk=>by simp[toD] at ht
 | .nilp,x,ch,ht,k,hk=>by simp[toD] at ht
 | .nilfn,x,ch,ht,k,hk=>by simp[toD] at ht
 | .undef,x,ch,ht,k,hk=>by simp[toD] at ht
 | .dead,x,ch,ht,k,hk=>by simp[toD] at ht
theorem toDs_keys {hs:Map Obj}: ∀(vs:List V) {xs:List D} {ch:Map Obj},toDs hs vs=some (xs,ch)→∀k,k∈ch.map (·.1)→∃o,getM hs k=some o
 |[],xs,ch,ht,k,hk=>by
  simp only[toDs,Option.some.injEq,Prod.mk.injEq] at ht
  obtain⟨rfl,rfl⟩:=ht
  simp at hk
 |v::vs,xs,ch,ht,k,hk=>by
  simp only[toDs] at ht
  cases h1:toD hs v with
  |none=>rw[h1] at ht;simp[both] at ht
  |some p=>
   obtain⟨x1,c1⟩:=p
   cases h2:toDs hs vs with
   |none=>rw[h1,h2] at ht;simp[both] at ht
   |some q=>
    obtain⟨x2,c2⟩:=q
    rw[h1,h2] at ht
    simp only[both,Option.some.injEq,Prod.mk.injEq] at ht
    obtain⟨rfl,rfl⟩:=ht
    rw[List.map_append,List.mem_append] at hk
    rcases hk with hk|hk
    ·exact toD_keys v h1 k hk
    ·exact toDs_keys vs h2 k hk
end
section
variable {w:World}
theorem outV_spec {o:Bool} {hs:Map Obj} {d z:Nat} (v:V) {Im:Nat→Nat→Prop} {loc:Nat→Loc} {h:Map Obj} (hM:Mem w Im loc h) (hf:FzLe hs h) (hfree: ∀e,d≤e→getM hs (key e 0)=none→getM h (key e 0)=none) {u:Value} (hv:VR w Im loc (stm h) v u) {v':V} {ch:Map Obj}
 (ht:outV o hs d z v=(v',ch)): ∃Im' loc',Step w Im loc h w Im' loc' (setAll h ch)∧FzLe hs (setAll h ch)∧(∀e,d+1≤e→getM hs (key e 0)=none→getM (setAll h ch) (key e 0)=none)∧VR w Im' loc' (stm (setAll h ch)) v' u:=by
 have same: ∀v2,VR w Im loc (stm h) v2 u→(v2,[])=(v',ch)→∃Im' loc',Step w Im loc h w Im' loc' (setAll h ch)∧FzLe hs (setAll h ch)∧(∀e,d+1≤e→getM hs (key e 0)=none→getM (setAll h ch) (key e 0)=none)∧VR w Im' loc' (stm (setAll h ch)) v' u:=fun v2 h2 e=>by
  obtain⟨rfl,rfl⟩:=Prod.mk.inj e
  exact⟨Im,loc,Step.refl hM,hf,fun e he=>hfree e (by omega),h2⟩
 cases v with
 |agg cs=>
  simp only[outV] at ht
  cases o with
  |true=>exact same _ hv ht
  |false=>
  simp only[cond_false] at ht
  cases hc:aggOf (toDs hs cs) with
  |none=>rw[hc] at ht;exact same _ hv ht
  |some p=>
   obtain⟨x,c⟩:=p
   rw[hc] at ht
   simp only[argV.argR] at ht
   obtain⟨rfl,rfl⟩:=Prod.mk.inj ht
   obtain⟨Im',f,dr⟩:=toD_spec (.agg cs) hM hf hv hc
   refine⟨Im',loc,f.step,f.le,fun e he hn=> ?_, .d _ _ dr⟩
   rw[setAll_not]
   ·exact hfree e (by omega) hn
   ·intro hk
    obtain⟨o,ho⟩:=toD_keys (hs:=hs) (.agg cs) hc _ hk
    rw[hn] at ho;cases ho
 |nilsl=>
  simp only[outV] at ht
  cases hk:getM hs (key d 0) with
  |some o=>rw[hk] at ht;exact same _ (.dead _) ht
  |none=>
   rw[hk] at ht
   simp only[outV.outN] at ht
   obtain⟨rfl,rfl⟩:=Prod.mk.inj ht
   cases hv
   have hkn:=hfree d (Nat.le_refl _) hk
   obtain⟨a,S,R⟩:=new_lent (chg:=false) (fz:=false) (sz:=z) (xs:=[]) hM hkn (by unfold key;omega) (DR.empty none 0) (fun i x hx=>by simp at hx) (.inr rfl)
   refine⟨Im,_,S,fun r o ho=> ?_,fun e he hn=> ?_, ?_⟩
   ·have hne:key d 0≠r:=fun e=>by rw[←e,hk] at ho;cases ho
    simp only[setAll,getM_ne _ _ hne]
    exact hf r o ho
   ·have hne:key d 0≠key e 0:=by unfold key;omega
    simp only[setAll,getM_ne _ _ hne]
    exact hfree e (by omega) hn
   ·simp only[setAll]
    refine .row _ _ _ _ _ trivial (by simp[locWith,isRowL]) ⟨0,0,by simp[stm,getM_set,rowN],Nat.le_refl _,fun _=> ?_⟩
    simpa[locWith] using R
 |_=>exact same _ hv (by simpa[outV] using ht)
theorem outVs_spec {o:Bool} {hs:Map Obj}: ∀(vs:List V) (d:Nat) (zs:List Nat) {Im:Nat→Nat→Prop} {loc:Nat→Loc} {h:Map Obj} (_:Mem w Im loc h) (_:FzLe hs h) (_: ∀e,d≤e→getM hs (key e 0)=none→getM h (key e 0)=none) {us:List Value} (_:VRs w Im loc (stm h) vs us) {vs':List V} {ch:Map Obj}
 (_:outVs o hs d zs vs=(vs',ch)),∃Im' loc',Step w Im loc h w Im' loc' (setAll h ch)∧VRs w Im' loc' (stm (setAll h ch)) vs' us
 |[],d,zs,Im,loc,h,hM,hf,hfree,us,hv,vs',ch,ht=>by
  have ht:(([]:List V),([]:Map Obj))=(vs',ch):=by cases zs<;>exact ht
  obtain⟨rfl,rfl⟩:=Prod.mk.inj ht
  exact⟨Im,loc,Step.refl hM,hv⟩
 |v::vs,d,zs,Im,loc,h,hM,hf,hfree,us,hv,vs',ch,ht=>by
  obtain⟨z,zs',hz⟩: ∃z zs',outVs o hs d zs (v::vs)=argVs.join (outV o hs d z v) (outVs o hs (d+1) zs' vs):=by
   cases zs with
   |nil=>exact⟨0,[],rfl⟩
   |cons z zs=>exact⟨z,zs,rfl⟩
  rw[hz] at ht
  rcases h1:outV o hs d z v with⟨v1,c1⟩
  rcases h2:outVs o hs (d+1) zs' vs with⟨v2,c2⟩
  simp only[h1,h2,argVs.join] at ht
  obtain⟨rfl,rfl⟩:=Prod.mk.inj ht
  obtain⟨hl,hp⟩:=hv
  cases us with
  |nil=>simp at hl
  |cons u us=>
   obtain⟨Im1,loc1,S1,F1,N1,D1⟩:=outV_spec v hM hf hfree (hp 0 v u rfl rfl) h1
   have hv2:VRs w Im1 loc1 (stm (setAll h c1)) vs us:=⟨by simpa using hl,fun j v' u' a b=>(hp (j+1) v' u' a b).grow S1.grow⟩
   obtain⟨Im2,loc2,S2,D2⟩:=outVs_spec vs (d+1) zs' S1.mem F1 N1 hv2 h2
   refine⟨Im2,loc2,by rw[setAll_append];exact S1.trans S2,by simp[D2.1],fun j y z hy hz=> ?_⟩
   rw[setAll_append]
   cases j with
   |zero=>
    simp only[List.getElem?_cons_zero,Option.some.injEq] at hy hz
    subst hy hz
    exact D1.grow S2.grow
   |succ j=>exact D2.2 j y z (by simpa using hy) (by simpa using hz)
theorem asAddr_of {P:Program} {Im:Nat→Nat→Prop} {loc:Nat→Loc} {st:Nat→Option (Nat×Nat)} {h:Map Obj} {T:Option TI} {v x:V} {u:Value} (hv:VR w Im loc st v u) (hl:ldV h T v=some x): ∃a,u= .pointer (some a):=by
 cases hv with
 |ptr=>exact⟨_,rfl⟩
 |cp=>exact⟨_,rfl⟩
 |eptr r s i j u h0 hl' hh=>
  cases u<;>first|exact h0.elim|skip
  rename_i p
  cases p with
  |none=>exact h0.elim
  |some a=>exact⟨a,rfl⟩
 |_=>cases T<;>simp[ldV] at hl
theorem resV_run {P:Program} {Im:Nat→Nat→Prop} {loc:Nat→Loc} {s:St} (hM:Mem w Im loc s.heap) {tmps:Array Value} (hT:Tm w Im loc (stm s.heap) s.tmps tmps) {r:ResultVar} {v:V} (h:resV P s r=some v):
 ∃u,(match r with| .tmp t=>(pure (tmps.getD t Go.undef):Sem Value)| .cell a t=>do loadVar t (←asAddr (tmps.getD a Go.undef))).run P w= .ok u w∧VR w Im loc (stm s.heap) v u:=by
 have hget: ∀t,VR w Im loc (stm s.heap) (getT s.tmps t) (tmps.getD t Go.undef):=fun t=>by
  unfold getT
  cases hg:getM s.tmps t with
  |none=>exact .dead _
  |some v=>exact(hT t v hg).2
 cases r with
 |tmp t=>
  obtain rfl:=Option.some.inj h
  exact⟨_,rfl,hget t⟩
 |cell a t=>
  simp only[resV] at h
  have ha:=hget a
  cases ht:tiOf P t with
  |none=>rw[ht] at h;simp[ldV] at h
  |some T=>
   rw[ht] at h
   obtain⟨u,h1,h2⟩:=ldV_spec (P:=P) hM (fun _ _ e=>e) ht ha h
   obtain⟨ad,had⟩:=asAddr_of (P:=P) ha h
   refine⟨u, ?_,h2⟩
   simp only[had,asAddr,Sem.run_bind,Sem.run_pure,Result.andThen_ok]
   simpa only[had,Instr.loadAt,Instr.sureAddr,Sem.run_bind,Sem.run_pure,Result.andThen_ok] using h1
theorem results_run {P:Program} {Im:Nat→Nat→Prop} {loc:Nat→Loc} {s:St} (hM:Mem w Im loc s.heap) {tmps:Array Value} (hT:Tm w Im loc (stm s.heap) s.tmps tmps): ∀{rs:List ResultVar} {vs:List V},resVs P s rs=some vs→
 ∃us,(rs.mapM (m:=Sem) fun| .tmp t=>pure (tmps.getD t Go.undef)| .cell a t=>do loadVar t (←asAddr (tmps.getD a Go.undef))).run P w= .ok us w∧VRs w Im loc (stm s.heap) vs us
 |[],vs,h=>by
  obtain rfl:=Option.some.inj h
  exact⟨[],rfl,VRs.nil⟩
 |r::rs,vs,h=>by
  simp only[resVs] at h
  cases h1:resV P s r with
  |none=>rw[h1] at h;simp[resVs.cons1] at h
  |some v=>
   cases h2:resVs P s rs with
   |none=>rw[h1,h2] at h;simp[resVs.cons1] at h
   |some vs2=>
    rw[h1,h2] at h
    simp only[resVs.cons1,Option.some.injEq] at h
    subst h
    obtain⟨u,r1,r2⟩:=resV_run hM hT h1
    obtain⟨us,q1,q2⟩:=results_run hM hT h2
    refine⟨u::us, ?_,by simp[q2.1],fun j y z hy hz=> ?_⟩
    ·rw[List.mapM_cons]
     simp only[Sem.run_bind,Sem.run_pure]
     rw[r1]
     simp only[Result.andThen_ok]
     rw[q1]
     simp only[Result.andThen_ok]
    ·cases j with
     |zero=>
      simp only[List.getElem?_cons_zero,Option.some.injEq] at hy hz
      subst hy hz
      exact r2
     |succ j=>exact q2.2 j y z (by simpa using hy) (by simpa using hz)
end
end Go.Ev
set_option autoImplicit false
namespace Go.Ev
def FnOk (P:Program) (glob:Nat→Option (List D)) (f:FuncId) (C:List V→List Obj→Option Res):Prop:=
 ∀args objs v objs',C args objs=some (v,objs')→objs.length≤64→(∀(i:Nat) o,objs[i]? =some o→clean o)→
  (∃fn,P.funcs[f]? =some fn∧(fn.name== "runtime.NumGoroutine")=false∧fn.body.isNone=false)∧
  ∀w Im loc us,Mem w Im loc (keyed 0 objs)→GlobOk glob w Im→VRs w Im loc (stm (keyed 0 objs)) args us→
   Calls P f us.toArray w fun e w'=> ∃u Im' loc',e= .returned u∧Back w Im loc objs w' Im' loc' objs'∧VR w' Im' loc' (stm (keyed 0 objs')) v u
def okFn (fn:Func):Bool:=(fn.name != "runtime.NumGoroutine")&&(match fn.body with
 |some b=>okCode fn.ntmps b
 |none=>true)
section
variable {w:World} {Im:Nat→Nat→Prop} {loc:Nat→Loc}
theorem stampOf_renO {fr:Nat→Option Nat} {h:Map Obj} {new:Bool} {o:Obj} {s:Nat} (e:stampOf (some (renO fr h new o))=some s):s=0:=by
 cases o with
 |cells=>simp[renO,stampOf] at e
 |row=>simpa[renO,stampOf] using e.symm
theorem back_of {objs objs':List Obj} {w':World} {Im':Nat→Nat→Prop} {loc':Nat→Loc} {h:Map Obj} (hM:Mem w' Im' loc' h) (F:Frm w Im loc (keyed 0 objs) w' Im' loc' h) (h64:objs.length≤64)
 (hcl: ∀(i:Nat) o,objs[i]? =some o→clean o) {rs:List Nat} (hd:rs.Nodup) {ys:List Nat} (hrs:rs=nats 0 objs.length++ys) {v v':V} (hv:retO h v objs.length rs=some (v',objs')):
 ∃loc2,Back w Im loc objs w' Im' loc2 objs'∧∀u,VR w' Im' loc' (stm h) v u→VR w' Im' loc2 (stm (keyed 0 objs')) v' u:=by
 simp only[retO] at hv
 cases ht:takeObjs h (posAt rs) (notOld objs.length) rs with
 |none=>rw[ht] at hv;simp[retO.retO1] at hv
 |some os=>
  rw[ht] at hv
  simp only[retO.retO1,Option.some.injEq,Prod.mk.injEq] at hv
  obtain⟨rfl,rfl⟩:=hv
  obtain⟨hM2,hR⟩:=taken hM (fun _ _ e=>e) hd ht
  obtain⟨hl,hg⟩:=takeObjs_get ht
  refine⟨locAt rs loc',⟨hM2,F.os,F.tape,F.output,F.size,F.old,F.imS,F.imC,F.imN,fun r b hr=> ?_,fun r o hr=> ?_,fun r o s hr hs=> ?_⟩,fun u hu=>hu.ren hR⟩
  ·unfold locAt at hr
   split at hr
   ·exact F.ownN _ b hr
   ·exact hr.elim
  ·have hlt:r<objs.length:=(List.getElem?_eq_some_iff.1 hr).1
   have hrr:rs[r]? =some r:=by
    rw[hrs,List.getElem?_append_left (by rw[nats_length];exact hlt),nats_get]
    simp[hlt]
   obtain⟨o1,h1,h2⟩:=hg r r hrr
   obtain⟨o0,q1,q2⟩:=F.chg r (by omega) o1 h1
   rw[keyed0,hr] at q1
   obtain rfl:=Option.some.inj q1
   refine⟨_,h2, ?_⟩
   rw[show locAt rs loc' r=loc' r by simp[locAt,hrr]]
   refine kept_zero (hcl r o hr) q2 ?_
   have hno:notOld objs.length r=false:=by simp[notOld,hlt]
   rw[hno]
   cases o1 with
   |cells=>trivial
   |row=>exact⟨rfl,rfl,rfl⟩
  ·have hlt:r<rs.length:=by rw[←hl];exact(List.getElem?_eq_some_iff.1 hr).1
   obtain⟨o1,h1,h2⟩:=hg r rs[r] (by simp[hlt])
   rw[hr] at h2
   obtain rfl:=Option.some.inj h2
   exact stampOf_renO hs
theorem tup_VR {st:Nat→Option (Nat×Nat)} {vs:List V} {us:List Value} (h:VRs w Im loc st vs us):VR w Im loc st (tupV vs) (if hs:us.toArray.size=1 then us.toArray[0] else .tuple us.toArray):=by
 obtain⟨hl,hp⟩:=h
 match vs,us,hl,hp with
 |[v],[u],hl,hp=>exact hp 0 v u rfl rfl
 |[],[],hl,hp=>exact .tup [] #[] rfl (fun j v u e=>by simp at e)
 |v1::v2::vs,u1::u2::us,hl,hp=>
  have: ¬((u1::u2::us).toArray.size=1):=by simp
  rw[dif_neg this]
  exact .tup _ _ (by simpa using hl) (fun j v u e1 e2=>hp j v u e1 (by simpa using e2))
theorem ret_ok {c:Ctx} {n:Nat} {objs objs':List Obj} {s:St} {a:Act} {w':World} {Im':Nat→Nat→Prop} {loc':Nat→Loc} (I:Inv c n w Im loc (keyed 0 objs) s a w' Im' loc') (h64:objs.length≤64)
 (hcl: ∀(i:Nat) o,objs[i]? =some o→clean o) {fn:Func} {v:V} {zs:List Nat} {o:Bool} (hv:ret o s zs objs.length (resVs c.P s fn.results.toList)=some (v,objs')):
 ∃u Im2 loc2,(results fn a.tmps).run c.P w'= .ok u w'∧Back w Im loc objs w' Im2 loc2 objs'∧VR w' Im2 loc2 (stm (keyed 0 objs')) v u:=by
 cases hr:resVs c.P s fn.results.toList with
 |none=>rw[hr] at hv;simp[ret] at hv
 |some vs=>
  rw[hr] at hv
  simp only[ret] at hv
  obtain⟨us,h1,h2⟩:=results_run I.mem I.tm hr
  rcases ho:outVs o s.heap 4000 zs vs with⟨vs',ch⟩
  rw[ho] at hv
  simp only[retN,retH] at hv
  obtain⟨Im2,loc2,S,h3⟩:=outVs_spec vs 4000 zs I.mem (FzLe.refl' fun _ _ e=>e) (fun _ _ e=>e) h2 ho
  obtain⟨hd,ys,hy,_⟩:=reach_spec (setAll s.heap ch) 64 (retH.refsH (setAll s.heap ch) (nats 0 objs.length)++refsL vs') (nats 0 objs.length) (nats_nodup _ _)
  obtain⟨loc3,B,hB⟩:=back_of S.mem (I.frm.trans S.frm) h64 hcl hd hy hv
  refine⟨_,Im2,loc3, ?_,B,hB _ (tup_VR h3)⟩
  unfold results
  simp only[Sem.run_bind,Array.mapM_eq_mapM_toList,Sem.run_map]
  refine(congrArg (fun r=>Result.andThen (Result.andThen r _) _) h1).trans ?_
  simp[Result.andThen_ok,Sem.run_pure]
theorem evB_ok {g:Cfg} {call:Calling} (hC:CallOk g.P g.glob call) (hm:g.P.follows .mixedOrders=true) {f:FuncId} (hok: ∀fn,g.P.funcs[f]? =some fn→okFn fn=true):FnOk g.P g.glob f (fun args objs=>evB g call f args objs g.P.funcs[f]?):=by
 intro args objs v objs' hv h64 hcl
 cases hf:g.P.funcs[f]? with
 |none=>rw[hf] at hv;simp[evB] at hv
 |some fn=>
  rw[hf] at hv
  have hk:=hok fn hf
  simp only[okFn,Bool.and_eq_true] at hk
  cases hb:fn.body with
  |none=>
   obtain⟨n1,n2,n3,n4,n5,n6,n7,n8,b,n10,n11,n12,n13,n14,n15,n16⟩:=fn
   simp only at hb
   subst hb
   simp[evB] at hv
  |some body=>
   have hv2:endF (g.own f) g.P fn.resultTypes.toList fn.results.toList objs.length (evC ⟨g.P,call,g.fuel,g.keep f,objs.length,g.glob,g.own,g.live f⟩ body ⟨keyed 0 args,keyed 0 objs⟩)=some (v,objs'):=by
    obtain⟨n1,n2,n3,n4,n5,n6,n7,n8,b,n10,n11,n12,n13,n14,n15,n16⟩:=fn
    simp only at hb
    subst hb
    exact hv
   rw[hb] at hk
   obtain⟨hk1,hk2⟩:=hk
   refine⟨⟨fn,rfl,by simpa using hk1,by rw[hb];rfl⟩,fun w Im loc us hM hG hV=> ?_⟩
   refine calls_of_wp hf hb ?_
   cases he:evC ⟨g.P,call,g.fuel,g.keep f,objs.length,g.glob,g.own,g.live f⟩ body ⟨keyed 0 args,keyed 0 objs⟩ with
   |none=>rw[he] at hv2;simp[endF] at hv2
   |some p=>
    obtain⟨x,s⟩:=p
    rw[he] at hv2
    have I0:Inv ⟨g.P,call,g.fuel,g.keep f,objs.length,g.glob,g.own,g.live f⟩ fn.ntmps w Im loc (keyed 0 objs) ⟨keyed 0 args,keyed 0 objs⟩ {tmps:=us.toArray++Array.replicate (fn.ntmps-us.toArray.size) Go.undef,defers:=[]} w Im loc:=by
     refine⟨hM,fun t v e=> ?_,Frm.refl ..,by simp;omega,rfl,hG⟩
     simp only[keyed0] at e
     have hlt:t<us.length:=by rw[hV.1];exact(List.getElem?_eq_some_iff.1 e).1
     refine⟨by simp;omega, ?_⟩
     have hg:(us.toArray++Array.replicate (fn.ntmps-us.toArray.size) Go.undef).getD t Go.undef=us[t]:=by
      simp[Array.getD_eq_getD_getElem?,Array.getElem?_append,hlt]
     rw[hg]
     exact hV.2 t v us[t] e (by simp[hlt])
    refine code_wp hC hm (fun r o e=> ?_) body hk2 he I0 fun a' w' Im' loc' I'=> ?_
    ·rw[keyed0] at e
     exact hcl r o e
    ·cases x with
     |normal=>
      obtain⟨u,Im2,loc2,r1,r2,r3⟩:=ret_ok I' h64 hcl (fn:=fn) hv2
      exact⟨I'.df,u,r1,u,Im2,loc2,rfl,r2,r3⟩
     |ret=>
      obtain⟨u,Im2,loc2,r1,r2,r3⟩:=ret_ok I' h64 hcl (fn:=fn) hv2
      exact⟨I'.df,u,r1,u,Im2,loc2,rfl,r2,r3⟩
     |exit i=>simp[endF] at hv2
theorem evF_ok {g:Cfg} (hm:g.P.follows .mixedOrders=true) (hok: ∀(f:FuncId) fn,g.P.funcs[f]? =some fn→okFn fn=true) (hext: ∀f x,g.ext f=some x→FnOk g.P g.glob f x): ∀n,CallOk g.P g.glob (evF g n)
 |0=>fun f args objs v objs' h=>by simp[evF] at h
 |n+1=>fun f args objs v objs' h=>by
  simp only[evF] at h
  cases hx:g.ext f with
  |none=>
   rw[hx] at h
   exact evB_ok (evF_ok hm hok hext n) hm (hok f) args objs v objs' h
  |some x=>
   rw[hx] at h
   exact hext f x hx args objs v objs' h
end
end Go.Ev
